/- The law TermOnce, walked. -/
import Derived.Test.YtkleidcepnmioaaTFix
import Derived.Test.YtkleidcepnmioaaLLaid
set_option linter.unusedVariables false
set_option linter.unusedSimpArgs false
namespace Go.Proofs.Ytkleidcepnmioaa
open Go.RowKit Go.Maps Go.MapKept

theorem pos_at {ts : List Term} (hn : ts.Nodup) {j : Nat} (hj : j < ts.length) : pos ts (ts.getD j default) = j ∧ ins ts (ts.getD j default) = ts := by
  have hm : ts.getD j default ∈ ts := getD_mem hj default
  have h1 := pos_mem hm
  refine ⟨?_, if_pos hm⟩
  have h2 : ts[j]? = some (ts.getD j default) := by rw [List.getD_eq_getElem?_getD, List.getElem?_eq_getElem hj]; rfl
  obtain ⟨hp, e1⟩ := List.getElem?_eq_some_iff.1 h1
  obtain ⟨_, e2⟩ := List.getElem?_eq_some_iff.1 h2
  exact (List.getElem_inj hn).1 (e1.trans e2.symm)
set_option maxRecDepth 100000 in
set_option maxHeartbeats 4000000 in
theorem tlaw4_any (B : Nat) (e : TypeId) (v : Value) (xs : List SOp) (hf : ∀ x ∈ xs, x.Fits) (w : World) (hs : SlN B e 5 SOp.five w v xs) :
    Calls Try.prog 6 #[v] w fun e w' => e = .returned (.bool true) ∧ Below w.heap.size w w' := by
  have hL := laid_any B e v xs hf _ hs
  obtain ⟨A, cp, rfl, q1, q2, q3⟩ := hs.open_
  obtain ⟨K0, hK⟩ : ∃ K : Nat → Prop, (fun i => i < w.heap.size) = K := ⟨_, rfl⟩
  have hend : ∀ w', Kept K0 w w' → Below w.heap.size w w' := fun w' h => by rw [← hK] at h; exact below_kept h
  rw [hK] at hL
  clear hK hs hf
  go_enter Try.func6, Try.ntmps6
  go_wp2_with fail
  refine hL.mono ?_
  rintro r w0 ⟨d, k, ts, rfl, ⟨K, vl, hX⟩, hG, hlen, hk1⟩
  have hD := hX.dag
  have hsub := hX.sub
  have hl : ts.length < 1000000000000 := by omega
  have hnd := hD.nodup
  have hq := len_any K d ts w0 hD
  clear hX hL
  go_wp2_with fail
  refine hq.mono ?_
  rintro r w1 ⟨rfl, rfl⟩
  have hend2 : ∀ w', Kept K w0 w' → Below w.heap.size w w' := fun w' b => hend _ (hk1.trans (b.mono hsub))
  clear hq hend hk1 hsub
  go_wp2_with fail
  go_loopw [7] (fun i wr => ∃ j : Nat, j ≤ ts.length ∧ i = .int .i64 j ∧ DagAt K wr d ts ∧ Kept K w0 wr) (fun i _ => ts.length - (Go.RowKit.intOf i).toNat)
  case atStart => exact ⟨0, Nat.zero_le _, rfl, hD, Kept.refl _ _⟩
  case round =>
    clear hD
    obtain ⟨j, hj, rfl, hd, hk⟩ := hrel
    by_cases hlt : j < ts.length
    · have hlt' : (j : Int) < ts.length := by omega
      have N1 := node_any K d j ts hl hlt wr hd
      obtain ⟨hp, hi⟩ := pos_at hnd hlt
      have hgk := hG.at_ hlt default
      have HE := Lib.hid hend2
      clear hend2
      rcases hgk with ⟨v, hv, et⟩ | ⟨r, hr1, hr2, et⟩ | ⟨op, a, b, hop, ha, hb, et⟩
      · rw [et] at N1 hp hi
        have C := fun w h => const_any K d v ts hv hl w h
        rw [hp, hi] at C
        unfold tv constT at N1
        clear et hp hi
        go_wp2_with fail
        refine N1.mono ?_
        rintro r w7 ⟨rfl, b7⟩
        have hd2 := (hd.below b7).below ((Below.refl _ _).alloc (Nat.le_refl _) (.cells #[.int .i64 0, .int .u32 (v : Nat), .int .i64 0, .int .i64 0, .int .i64 0] 44))
        have k2 := (hk.then_below b7).then_alloc (.cells #[.int .i64 0, .int .u32 (v : Nat), .int .i64 0, .int .i64 0, .int .i64 0] 44)
        clear N1 hd hk b7
        go_wp2_with fail
        refine (C _ hd2).mono ?_
        rintro r w8 ⟨rfl, h8, q8⟩
        have k8 := k2.trans q8
        clear C hd2 k2 q8
        go_wp2_with fail
        go_roundw
        case rel => exact ⟨j + 1, by omega, by go_num, h8, k8⟩
        case measure => simp [Go.RowKit.intOf]; omega
      · rw [et] at N1 hp hi
        have C := fun w h => var_any K d r ts hr2 hl w h
        rw [show varTm r = varT r by unfold varTm; rw [if_neg (by omega)], hp, hi] at C
        unfold tv varT at N1
        clear et hp hi
        go_wp2_with fail
        refine N1.mono ?_
        rintro r w7 ⟨rfl, b7⟩
        have hd2 := (hd.below b7).below ((Below.refl _ _).alloc (Nat.le_refl _) (.cells #[.int .i64 1, .int .u32 (r : Nat), .int .i64 0, .int .i64 0, .int .i64 0] 44))
        have k2 := (hk.then_below b7).then_alloc (.cells #[.int .i64 1, .int .u32 (r : Nat), .int .i64 0, .int .i64 0, .int .i64 0] 44)
        clear N1 hd hk b7
        go_wp2_with fail
        refine (C _ hd2).mono ?_
        rintro r w8 ⟨rfl, h8, q8⟩
        have k8 := k2.trans q8
        clear C hd2 k2 q8
        go_wp2_with fail
        go_roundw
        case rel => exact ⟨j + 1, by omega, by go_num, h8, k8⟩
        case measure => simp [Go.RowKit.intOf]; omega
      · rw [et] at N1 hp hi
        have hpp : pos ts (opT op a b) = j ∧ ins ts (opT op a b) = ts := ⟨hp, hi⟩
        unfold tv opT at N1
        have ha' : ¬ (j : Int) ≤ a := by omega
        have hb' : ¬ (j : Int) ≤ b := by omega
        have ha2 : ¬ j ≤ a := by omega
        have hb2 : ¬ j ≤ b := by omega
        clear et hp hi
        go_wp2_with fail
        refine N1.mono ?_
        rintro r w7 ⟨rfl, b7⟩
        have hd2 := (hd.below b7).below ((Below.refl _ _).alloc (Nat.le_refl _) (.cells #[.int .i64 2, .int .u32 0, .int .i64 (op : Nat), .int .i64 (a : Nat), .int .i64 (b : Nat)] 44))
        have k2 := (hk.then_below b7).then_alloc (.cells #[.int .i64 2, .int .u32 0, .int .i64 (op : Nat), .int .i64 (a : Nat), .int .i64 (b : Nat)] 44)
        obtain ⟨z0, z1, z2, z3, z4⟩ := five_cells (blk_new w7 (.cells #[.int .i64 2, .int .u32 0, .int .i64 (op : Nat), .int .i64 (a : Nat), .int .i64 (b : Nat)] 44))
        have hd3 := (hd.below b7).more ((Below.refl _ _).alloc (Nat.le_refl _) (.cells #[.int .i64 2, .int .u32 0, .int .i64 (op : Nat), .int .i64 (a : Nat), .int .i64 (b : Nat)] 44))
        have hkt : More K w7 (w7.alloc (.cells #[.int .i64 2, .int .u32 0, .int .i64 (op : Nat), .int .i64 (a : Nat), .int .i64 (b : Nat)] 44)) w7.heap.size := Or.inr ⟨Nat.le_refl _, by simp⟩
        have hKK : ∀ i, K i → More K w7 (w7.alloc (.cells #[.int .i64 2, .int .u32 0, .int .i64 (op : Nat), .int .i64 (a : Nat), .int .i64 (b : Nat)] 44)) i := fun i hi => Or.inl hi
        generalize More K w7 (w7.alloc (.cells #[.int .i64 2, .int .u32 0, .int .i64 (op : Nat), .int .i64 (a : Nat), .int .i64 (b : Nat)] 44)) = K2 at hd3 hkt hKK
        have C := op_any K2 d op a b ts hl (by omega) (by omega) hop _ hd3
        rw [hpp.1, hpp.2] at C
        clear N1 hd hk b7 hd2
        go_wp2_with fail
        refine C.mono ?_
        rintro r w8 ⟨rfl, h8, q8⟩
        have y3 := q8.cell hkt z3
        have y4 := q8.cell hkt z4
        have k8 := k2.trans (q8.mono hKK)
        clear C hd3 k2 q8 z0 z1 z2 z3 z4
        go_wp2_with fail
        go_roundw
        case rel => exact ⟨j + 1, by omega, by go_num, h8.mono hKK, k8⟩
        case measure => simp [Go.RowKit.intOf]; omega
    · have hlt' : ¬ (j : Int) < ts.length := by omega
      have hLd := len_any K d ts wr hd
      go_wp2_with fail
      refine hLd.mono ?_
      rintro r w8 ⟨rfl, rfl⟩
      go_wp2_with fail
      refine (tfixed_any _).mono ?_
      rintro r w9 ⟨rfl, b9⟩
      go_wp2_with fail
      go_ret
      exact ⟨rfl, hend2 _ (hk.then_below b9)⟩
end Go.Proofs.Ytkleidcepnmioaa
