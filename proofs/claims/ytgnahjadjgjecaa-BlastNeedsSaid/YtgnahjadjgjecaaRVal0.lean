/- The reference's Dag: Vars, walked. -/
import Derived.Test.YtgnahjadjgjecaaRDag2
import Derived.Test.YtgnahjadjgjecaaTSeen
import Derived.BigRegion
import Derived.Laws.Rows
set_option linter.unusedVariables false
set_option linter.unusedSimpArgs false
namespace Go.Proofs.Ytgnahjadjgjecaa
open Go.RowKit Go.Maps Go.MapKept

def U32 : Rep Nat := fun _ v n => v = .int .u32 (n : Int) ∧ n < 4294967296
theorem stable_u32 (B : Nat) (T : List TypeId) : Stable B T U32 := fun _ _ _ _ _ h => h
theorem info_u32 : (Try.prog.info? 26).map (fun i => (i.zero, i.size, i.bytes)) = some (some (.int .u32 0), 1, 4) := by kernel_rfl
/-- An element of a slice of words. -/
theorem u32_at {B : Nat} {w : World} {A : Option Addr} {n c : Nat} {xs : List Nat} (h : Sl B 26 U32 w (.slice A n c) xs) {k : Nat} (hk : k < xs.length) : ∃ b off, A = some ⟨b, off, none⟩ ∧ w.cell? ⟨b, off + k, none⟩ = some (.int .u32 (xs.getD k 0 : Nat)) ∧ xs.getD k 0 < 4294967296 := by
  obtain ⟨b, off, u, rfl, hc, hu, hl⟩ := h.at_ hk 0
  subst hu
  exact ⟨b, off, rfl, hc, hl⟩
set_option maxRecDepth 100000 in
theorem rvars_no (k : Nat) (vl : Value) (n : Int) (ts : List Term) (hn : inR n ts.length = false) (w : World) (h : RefAt w k vl ts) :
    Calls Try.prog 22 #[.pointer (some ⟨k, 0, none⟩), .int .i64 n] w fun e w' => e = .returned (.tuple #[.int .u32 0, .int .i64 100]) ∧ Below w.heap.size w w' := by
  obtain ⟨A, c, rfl, q1, q2, q3⟩ := (h.l.toSl encT 0).open_
  have c0 := one_cell h.hb
  have hcase := inR_not hn
  clear hn h
  rcases hcase with h1 | h1
  · go_enter Try.func22, Try.ntmps22
    go_wp2_with fail
    go_ret2
    exact ⟨rfl, Below.refl _ _⟩
  · have h0 : ¬ n < 0 := by omega
    go_enter Try.func22, Try.ntmps22
    go_wp2_with fail
    go_ret2
    exact ⟨rfl, Below.refl _ _⟩
set_option maxRecDepth 100000 in
set_option maxHeartbeats 4000000 in
theorem rvars_any (k : Nat) (vl : Value) (n : Nat) (ts : List Term) (hl : ts.length < 100000000000) (hn : n < ts.length) (hG : Good ts) (w : World) (h : RefAt w k vl ts) :
    Calls Try.prog 22 #[.pointer (some ⟨k, 0, none⟩), .int .i64 n] w fun e w' => e = .returned (.tuple #[.int .u32 (vr ts n : Nat), .int .i64 0]) ∧ Below w.heap.size w w' := by
  have b0 := (Below.refl w.heap.size w).alloc (Nat.le_refl _) (.cells #[] 26)
  have o1 : Own w.heap.size 26 U32 (w.alloc (.cells #[] 26)) (.slice (some ⟨w.heap.size, 0, none⟩) 0 0) (vrs (ts.take 0)) := Own.empty' (Nat.le_refl _) rfl
  have hvlt : ∀ i, i < ts.length → vr ts i < 4294967296 := vr_lt hG
  have hr0 := h
  obtain ⟨A0, c00, hA0, _, _, _⟩ := (hr0.l.toSl encT 0).open_
  have c000 := one_cell hr0.hb
  rw [hA0] at c000
  have gn : (n : Int) < ts.length := by omega
  have gn2 : ¬ ts.length ≤ n := by omega
  subst hA0
  go_enter Try.func22, Try.ntmps22
  go_wp2_with fail
  go_loopw [6, 7] (fun v i wr => ∃ j : Nat, j ≤ n + 1 ∧ i = .int .i64 j ∧ Own w.heap.size 26 U32 wr v (vrs (ts.take j)) ∧ Below w.heap.size w wr) (fun _ i _ => n + 1 - (Go.RowKit.intOf i).toNat)
  case atStart => exact ⟨0, by omega, rfl, o1, b0⟩
  case round =>
    clear b0 o1 c000 hr0
    obtain ⟨j, hj, rfl, ho, hb⟩ := hrel
    have hos := ho.toSl 0
    obtain ⟨Av, cv, rfl, _, hcv, _⟩ := hos.open_
    have hlen : (vrs (ts.take j)).length = j := by rw [vrs_len, List.length_take]; omega
    rw [hlen] at hos ho ⊢
    by_cases hlt : j ≤ n
    · have hlt' : (j : Int) ≤ n := by omega
      have hjt : j < ts.length := by omega
      have hr := h.below hb
      obtain ⟨bb, off, eA, hat, hbl⟩ := (hr.l.toSl encT 0).at_ hjt
      subst eA
      rw [show ts[j] = ts.getD j default by simp [List.getD, hjt]] at hat
      have hgk := hG.at_ hjt default
      have hpa : (ts.getD j default).k = 2 → (ts.getD j default).a < j ∧ (ts.getD j default).b < j := fun h2 => ⟨(hG.op_at hjt h2).2.1, (hG.op_at hjt h2).2.2.1⟩
      have hsn : vrs (ts.take (j + 1)) = vrs (ts.take j) ++ [vrT (vrs (ts.take j)) (ts.getD j default)] := by
        rw [takeT_snoc hjt]; exact upTo_snoc _ _ _
      obtain ⟨t, ht⟩ : ∃ t, ts.getD j default = t := ⟨_, rfl⟩
      rw [ht] at hat hgk hpa hsn
      have d0 : wr.cell? ⟨bb, off + j * 5, none⟩ = some (.int .i64 t.k) := hat 0 _ rfl
      have d1 := hat 1 _ rfl
      have d2 := hat 2 _ rfl
      have d3 := hat 3 _ rfl
      have d4 := hat 4 _ rfl
      have c0 := one_cell hr.hb
      have gx : (j : Int) < ts.length := by omega
      have oA := ho.move (stable_u32 _ [26]) (Quiet.below ((Below.refl wr.heap.size wr).alloc (Nat.le_refl _) (.cells #[.int .i64 t.k, .int .u32 t.v, .int .i64 t.op, .int .i64 t.a, .int .i64 t.b] 82))) (by simp)
      have bA := hb.alloc hb.size (.cells #[.int .i64 t.k, .int .u32 t.v, .int .i64 t.op, .int .i64 t.a, .int .i64 t.b] 82)
      obtain ⟨z0, z1, z2, z3, z4⟩ := five_cells (blk_new wr (.cells #[.int .i64 t.k, .int .u32 t.v, .int .i64 t.op, .int .i64 t.a, .int .i64 t.b] 82))
      have HS := Lib.hid hsn
      generalize hE : vrs (ts.take j) = E at oA hsn hlen
      have hoA := oA.toSl 0
      clear hat ht hsn ho hos hb hr
      by_cases hk1 : t.k = 1
      · have hk1' : ((t.k : Int) == 1) = true := by rw [hk1]; rfl
        have hk2' : ((t.k : Int) == 2) = false := by rw [hk1]; rfl
        have hr32 : t.v < 32 := by
          rcases hgk with ⟨v, hv, e⟩ | ⟨r, _, hr, e⟩ | ⟨op, a, b, _, _, _, e⟩ <;> rw [e] at hk1 ⊢
          · cases hk1
          · exact hr
          · cases hk1
        have hu : 2 ^ t.v < 4294967296 := by
          have := Nat.pow_le_pow_right (n := 2) (by omega) (by omega : t.v ≤ 31)
          omega
        have hpe : (2 : Int) ^ t.v = ((2 ^ t.v : Nat) : Int) := by simp
        have hev : vrT E t = 2 ^ t.v := by unfold vrT; rw [if_neg (by omega), if_pos hk1]
        generalize 2 ^ t.v = u at hu hpe hev
        have hpm : (2 : Int) ^ t.v % 4294967296 = (u : Int) := by rw [hpe]; exact Int.emod_eq_of_lt (by omega) (by omega)
        have HV := Lib.hid hev
        clear hk1 hev hgk hpa
        go_wp2_with (first | (at_builtin; go_loud (refine wpList_push (w0 := w) w.heap.size rfl _ _ 115 26 _ 4 rfl Try.underlying115 info_u32 rfl (by decide) [27] oA (stable_u32 _ _) (by decide) ⟨rfl, hu⟩ rfl (by rw [show (wr.alloc (.cells #[.int .i64 t.k, .int .u32 t.v, .int .i64 t.op, .int .i64 t.a, .int .i64 t.b] 82)).heap.size = wr.heap.size + 1 by simp]; rfl) rfl bA bA.size (by rw [hlen]; omega) ?_); intro v1 w1 ho1 hb1 hg1) | fail)
        go_roundw
        case rel => exact ⟨j + 1, by omega, by go_num, by rw [HS.out, hE, HV.out]; exact ho1, hb1⟩
        case measure => simp [Go.RowKit.intOf]; omega
      have hk1' : ((t.k : Int) == 1) = false := by rw [beq_eq_false_iff_ne]; omega
      by_cases hk2 : t.k = 2
      · have hk2' : ((t.k : Int) == 2) = true := by rw [hk2]; rfl
        obtain ⟨la, lb⟩ := hpa hk2
        obtain ⟨va, voa, eA, hca, hua⟩ := u32_at hoA (k := t.a) (by omega)
        obtain ⟨vb, vob, eB, hcb, hub⟩ := u32_at hoA (k := t.b) (by omega)
        rw [eA] at eB
        simp only [Option.some.injEq, Addr.mk.injEq, and_true] at eB
        obtain ⟨rfl, rfl⟩ := eB
        subst eA
        have la' : (t.a : Int) < j := by omega
        have lb' : (t.b : Int) < j := by omega
        have hev : vrT E t = E.getD t.a 0 ||| E.getD t.b 0 := by unfold vrT; rw [if_neg (by omega), if_neg (by omega)]
        have hor := u32_or (E.getD t.a 0) (E.getD t.b 0) hua hub
        have hu := or_lt32 hua hub
        generalize E.getD t.a 0 ||| E.getD t.b 0 = u at hev hu hor
        generalize E.getD t.a 0 = ua at hca hor
        generalize E.getD t.b 0 = ub at hcb hor
        have HV := Lib.hid hev
        clear hk2 hev hgk hpa la lb hua hub
        go_wp2_with fail
        go_quiet (fail)
        have oB := oA.move (stable_u32 _ [26]) (Quiet.below (below_drewN (Below.refl _ _) nq)) (by simp)
        have bB := below_drewN bA nq
        clear z0 z1 z2 z3 z4 hca hcb
        go_wp2_with (first | (at_builtin; go_loud (refine wpList_push (w0 := w) w.heap.size rfl _ _ 115 26 _ 4 rfl Try.underlying115 info_u32 rfl (by decide) [27] oB (stable_u32 _ _) (by decide) ⟨rfl, hu⟩ rfl (by rw [show ((wr.alloc (.cells #[.int .i64 t.k, .int .u32 t.v, .int .i64 t.op, .int .i64 t.a, .int .i64 t.b] 82)).drewN nq).heap.size = wr.heap.size + 1 from by show (wr.alloc (.cells #[.int .i64 t.k, .int .u32 t.v, .int .i64 t.op, .int .i64 t.a, .int .i64 t.b] 82)).heap.size = _; simp]; rfl) rfl bB bB.size (by rw [hlen]; omega) ?_); intro v1 w1 ho1 hb1 hg1) | fail)
        go_roundw
        case rel => exact ⟨j + 1, by omega, by go_num, by rw [HS.out, hE, HV.out]; exact ho1, hb1⟩
        case measure => simp [Go.RowKit.intOf]; omega
      · have hk2' : ((t.k : Int) == 2) = false := by rw [beq_eq_false_iff_ne]; omega
        have hk0 : t.k = 0 := by
          rcases hgk with ⟨v, hv, e⟩ | ⟨r, _, hr, e⟩ | ⟨op, a, b, _, _, _, e⟩ <;> rw [e] at hk1 hk2 ⊢
          · rfl
          · exact absurd rfl hk1
          · exact absurd rfl hk2
        have hu : (0 : Nat) < 4294967296 := by omega
        have hev : vrT E t = 0 := by unfold vrT; rw [if_pos hk0]
        have HV := Lib.hid hev
        clear hk0 hk1 hk2 hev hgk hpa
        go_wp2_with (first | (at_builtin; go_loud (refine wpList_push (w0 := w) w.heap.size rfl _ _ 115 26 _ 4 rfl Try.underlying115 info_u32 rfl (by decide) [27] oA (stable_u32 _ _) (by decide) ⟨rfl, hu⟩ rfl (by rw [show (wr.alloc (.cells #[.int .i64 t.k, .int .u32 t.v, .int .i64 t.op, .int .i64 t.a, .int .i64 t.b] 82)).heap.size = wr.heap.size + 1 by simp]; rfl) rfl bA bA.size (by rw [hlen]; omega) ?_); intro v1 w1 ho1 hb1 hg1) | fail)
        go_roundw
        case rel => exact ⟨j + 1, by omega, by go_num, by rw [HS.out, hE, HV.out]; exact ho1, hb1⟩
        case measure => simp [Go.RowKit.intOf]; omega
    · have hlt' : ¬ (j : Int) ≤ n := by omega
      obtain rfl : j = n + 1 := by omega
      have hev : (vrs (ts.take (n + 1))).getD n 0 = vr ts n := vr_take (by omega) (by omega)
      obtain ⟨va, voa, rfl, hca, hua⟩ := u32_at hos (k := n) (by rw [hlen]; omega)
      rw [hev] at hca
      have hnl : (n : Int) < ((n + 1 : Nat) : Int) := by omega
      clear hev hua
      go_wp2_with fail
      go_ret2
      exact ⟨rfl, hb⟩
end Go.Proofs.Ytgnahjadjgjecaa
