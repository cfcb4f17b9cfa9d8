/- The law SimpTurns, walked. -/
import Derived.Test.YtekleoccdockhaaDoorSFix
import Derived.Test.YtekleoccdockhaaDoorMask
import Derived.Test.YtekleoccdockhaaDoorLLaid
import Derived.Test.YtekleoccdockhaaDoorSTurn
set_option linter.unusedVariables false
set_option linter.unusedSimpArgs false
namespace Go.Proofs.YtekleoccdockhaaDoor
open Go.RowKit Go.Maps Go.MapKept

/-- (a & 0xffff) % n. -/
theorem low_mod (a : Int) (n : Nat) (hn : 0 < n) : ∃ m x : Nat, bits BinOp.and IntKind.i64 a 65535 = (m : Int) ∧ Int.tmod (m : Int) (n : Int) = (x : Int) ∧ x < n ∧ m < 65536 :=
  ⟨(a % 65536).toNat, (a % 65536).toNat % n, by rw [i64_ffff]; omega, by rw [Int.tmod_eq_emod_of_nonneg (by omega)]; omega, Nat.mod_lt _ hn, by omega⟩
set_option maxRecDepth 100000 in
set_option maxHeartbeats 4000000 in
theorem law4_any (B : Nat) (e : TypeId) (v : Value) (xs : List SOp) (hf : ∀ x ∈ xs, x.Fits) (a b : Int) (w : World) (hs : SlN B e 5 SOp.five w v xs) (hT : Tab w) (hgz : 0 < w.heap.size) :
    Calls Tryd.prog 6 #[v, .int .i64 a, .int .i64 b] w fun e w' => e = .returned (.bool true) ∧ Below w.heap.size w w' := by
  have hL := laid_any B e v xs hf w hs
  obtain ⟨A, cp, rfl, q1, q2, q3⟩ := hs.open_
  obtain ⟨K0, hK⟩ : ∃ K : Nat → Prop, (fun i => i < w.heap.size) = K := ⟨_, rfl⟩
  have hg : K0 0 := by rw [← hK]; exact hgz
  have hend : ∀ w', Kept K0 w w' → Below w.heap.size w w' := fun w' h => by rw [← hK] at h; exact below_kept h
  rw [hK] at hL
  clear hK hs hf
  generalize hbb : w.heap.size = d0 at hgz ⊢ hend
  have HB := Lib.hid hbb
  clear hbb
  go_enter Tryd.func6, Tryd.ntmps6
  go_wp2_with fail
  refine hL.mono ?_
  rintro r w1 ⟨d, k, ts, rfl, ⟨K, vl, hX⟩, hG, hlen, hk1⟩
  have hT1 := hT.kept hk1 hg
  have hD := hX.dag
  have hKK : ∀ i, K0 i → K i := hX.sub
  have hlenq := len_any K d ts w1 hD
  have hq : ∀ n, Calls Tryd.prog 19 #[.pointer (some ⟨d, 0, none⟩)] (w1.drewN n) fun e w'' => e = .returned (.int .i64 (ts.length : Int)) ∧ ∃ m, w'' = w1.drewN m := fun n => Calls.quiet_of_same ((len_any K d ts _ (hD.below (below_drewN (Below.refl _ _) n))).mono fun r w' ⟨e, h⟩ => ⟨e, h.symm⟩)
  clear hX hL hT
  by_cases hz : ts.length = 0
  · have hz' : (ts.length : Int) = 0 := by omega
    rw [hz'] at hlenq
    clear hz'
    go_wp2_with fail
    refine hlenq.mono ?_
    rintro r w2 ⟨rfl, rfl⟩
    go_wp2_with fail
    refine (fixed_any w1 hT1 (Nat.lt_of_lt_of_le hgz (by have := hk1.size; have h0 := HB.out; omega))).mono ?_
    rintro r wz ⟨rfl, bz⟩
    have kz := hk1.then_below bz
    go_wp2_with fail
    go_ret
    exact ⟨rfl, hend _ kz⟩
  obtain ⟨m1, x, e1, f1, hx, hm1⟩ := low_mod a ts.length (by omega)
  obtain ⟨m2, y, e2, f2, hy, hm2⟩ := low_mod b ts.length (by omega)
  have hdx : dp ts x ≤ 60 := by have := dp_le hG hx; omega
  have hdy : dp ts y ≤ 60 := by have := dp_le hG hy; omega
  have hne : ((ts.length : Int) == 0) = false := by simp only [beq_eq_false_iff_ne, ne_eq]; omega
  have hL1 : 1 ≤ (ts.length : Int) := by omega
  have hL0 : ¬ (ts.length : Int) = 0 := by omega
  generalize hLL : ts.length = L at hlenq hq hne hL1 hL0 f1 f2
  have hr1 : ∀ W, (binOp BinOp.rem 3 (.int .i64 m1) (.int .i64 L)).run Tryd.prog W = .ok (.int .i64 x) W := fun W => by
    rw [binOp_rem]; unfold Op.intDiv; rw [if_neg hL0]; dsimp only; rw [f1]; rfl
  have hr2 : ∀ W, (binOp BinOp.rem 3 (.int .i64 m2) (.int .i64 L)).run Tryd.prog W = .ok (.int .i64 y) W := fun W => by
    rw [binOp_rem]; unfold Op.intDiv; rw [if_neg hL0]; dsimp only; rw [f2]; rfl
  have HL := Lib.hid hLL
  clear hLL hz
  go_wp2_with fail
  refine hlenq.mono ?_
  rintro r w2 ⟨rfl, rfl⟩
  go_wp2_with fail
  go_quiet ((go_at_call 19; exact hq _))
  have hD2 := hD.below (below_drewN (Below.refl _ _) nq)
  have hT2 := hT1.below (below_drewN (Below.refl _ _) nq)
  have k2 := hk1.drewN nq
  generalize w1.drewN nq = w2 at hD2 hT2 k2 ⊢
  clear hlenq hq hne hr1 hr2 hL1 hL0 hD hT1 hk1
  go_wp2_with fail
  have hnew := blk_new w2 (.cells #[.int .i64 27, .int .i64 36, .int .i64 35, .int .i64 32, .int .i64 37, .int .i64 38, .int .i64 40] 3)
  have hD3 := hD2.more ((Below.refl w2.heap.size w2).alloc (Nat.le_refl _) (.cells #[.int .i64 27, .int .i64 36, .int .i64 35, .int .i64 32, .int .i64 37, .int .i64 38, .int .i64 40] 3))
  have hT3 := hT2.alloc (.cells #[.int .i64 27, .int .i64 36, .int .i64 35, .int .i64 32, .int .i64 37, .int .i64 38, .int .i64 40] 3)
  have k3 := k2.then_alloc (.cells #[.int .i64 27, .int .i64 36, .int .i64 35, .int .i64 32, .int .i64 37, .int .i64 38, .int .i64 40] 3)
  have hks : More K w2 (w2.alloc (.cells #[.int .i64 27, .int .i64 36, .int .i64 35, .int .i64 32, .int .i64 37, .int .i64 38, .int .i64 40] 3)) w2.heap.size := Or.inr ⟨Nat.le_refl _, by simp⟩
  have hK3 : ∀ i, K0 i → More K w2 (w2.alloc (.cells #[.int .i64 27, .int .i64 36, .int .i64 35, .int .i64 32, .int .i64 37, .int .i64 38, .int .i64 40] 3)) i := fun i hi => Or.inl (hKK i hi)
  have hc3 : ∀ j, j < 7 → (w2.alloc (.cells #[.int .i64 27, .int .i64 36, .int .i64 35, .int .i64 32, .int .i64 37, .int .i64 38, .int .i64 40] 3)).cell? ⟨w2.heap.size, j, none⟩ = some (.int .i64 (turnOps.getD j 0 : Nat)) := fun j hj => by
    have hj' : j = 0 ∨ j = 1 ∨ j = 2 ∨ j = 3 ∨ j = 4 ∨ j = 5 ∨ j = 6 := by omega
    rcases hj' with rfl | rfl | rfl | rfl | rfl | rfl | rfl <;> exact (cell_of hnew _).trans rfl
  generalize More K w2 (w2.alloc (.cells #[.int .i64 27, .int .i64 36, .int .i64 35, .int .i64 32, .int .i64 37, .int .i64 38, .int .i64 40] 3)) = K3 at hD3 hks hK3
  generalize w2.alloc (.cells #[.int .i64 27, .int .i64 36, .int .i64 35, .int .i64 32, .int .i64 37, .int .i64 38, .int .i64 40] 3) = w3 at hD3 hT3 k3 hc3 ⊢
  generalize w2.heap.size = sb at hks hc3 ⊢
  have hg3 := hK3 _ hg
  have HC := Lib.hid hc3
  have HE := Lib.hid hend
  clear hnew hD2 hT2 k2 hKK hc3 hend
  go_loopw [13] (fun i wr => ∃ (j : Nat) (us : List Term), j ≤ 7 ∧ i = .int .i64 j ∧ DagAt K3 wr d us ∧ Good us ∧ Ext ts us ∧ us.length ≤ 60 + 1000 * j ∧ Kept K3 w3 wr) (fun i _ => 7 - (intOf i).toNat)
  case atStart => exact ⟨0, ts, by omega, rfl, hD3, hG, Ext.refl _, by omega, Kept.refl _ _⟩
  case round =>
    obtain ⟨j, us, hj, rfl, hD4, hG4, hE, hl4, k4⟩ := hrel
    have hT4 := hT3.kept k4 hg3
    have hx4 : x < us.length := Nat.lt_of_lt_of_le hx hE.len
    have hy4 : y < us.length := Nat.lt_of_lt_of_le hy hE.len
    have hdx4 : dp us x ≤ 60 := by rw [dp_ext hE hG hx]; exact hdx
    have hdy4 : dp us y ≤ 60 := by rw [dp_ext hE hG hy]; exact hdy
    clear hD3 hdx hdy hx hy
    by_cases hlt : j < 7
    · have hlt' : (j : Int) < 7 := by omega
      have c4 := k4.cell hks (HC.out j hlt)
      obtain ⟨p, us1, us2, S1, S2, hG5, hE5, hl5⟩ := turn_step (K := K3) (d := d) (D := 60) (turnOps_turn j hlt) (by omega) hx4 hy4 hdx4 hdy4 (by omega) hG4 hg3
      generalize turnOps.getD j 0 = op at c4 S1 S2
      have HE5 := Lib.hid hE5
      have HL5 := Lib.hid hl5
      unfold OpTo at S1 S2
      clear hlt hE5 hl5 hdx4 hdy4 hx4 hy4
      go_wp2_with fail
      refine (S1 wr hT4 hD4).mono ?_
      rintro r w5 ⟨rfl, h5, q5⟩
      have k5 := k4.trans q5
      have hT5 := hT4.kept q5 hg3
      have c5 := q5.cell hks c4
      clear S1 c4 q5 hD4
      go_wp2_with fail
      refine (S2 w5 hT5 h5).mono ?_
      rintro r w6 ⟨rfl, h6, q6⟩
      have k6 := k5.trans q6
      clear S2 c5 q6 h5 k5 hT5
      go_wp2_with fail
      go_roundw
      case rel => exact ⟨j + 1, us2, by omega, by go_num, h6, hG5, hE.trans HE5.out, by have := HL5.out; omega, k6⟩
      case measure => simp [intOf]; omega
    · have hlt' : ¬ (j : Int) < 7 := by omega
      obtain ⟨p, us1, S1, hp, hnd, hl5⟩ := same_step (K := K3) (d := d) (D := 60) (by omega) hx4 hdx4 (by omega) hG4 hg3
      unfold OpTo at S1
      have hN := fun w h => node_lit K3 d us1 p 0 0 0 0 0 p 0 0 0 0 0 rfl hl5 hp hnd rfl rfl rfl rfl rfl w h
      clear hlt hdx4 hdy4 hx4 hy4 hnd hl5 hp hE hl4
      go_wp2_with fail
      refine (S1 wr hT4 hD4).mono ?_
      rintro r w5 ⟨rfl, h5, q5⟩
      have k5 := k4.trans q5
      have hT5 := hT4.kept q5 hg3
      clear S1 q5 hD4 hT4
      go_wp2_with fail
      refine (hN w5 h5).mono ?_
      rintro r w6 ⟨rfl, b6⟩
      have k6 := (k3.trans (k5.mono hK3)).then_below b6
      have hT6 := (hT5.below b6).alloc (.cells #[.int .i64 0, .int .u32 0, .int .i64 0, .int .i64 0, .int .i64 0] 33)
      have k7 := k6.then_alloc (.cells #[.int .i64 0, .int .u32 0, .int .i64 0, .int .i64 0, .int .i64 0] 33)
      clear hN h5 hT5 k5
      go_wp2_with fail
      refine (fixed_any _ hT6 (Nat.lt_of_lt_of_le hgz (by have := k7.size; have h0 := HB.out; omega))).mono ?_
      rintro r wz ⟨rfl, bz⟩
      have kz := k7.then_below bz
      go_wp2_with fail
      go_ret
      exact ⟨rfl, HE.out _ kz⟩
end Go.Proofs.YtekleoccdockhaaDoor
