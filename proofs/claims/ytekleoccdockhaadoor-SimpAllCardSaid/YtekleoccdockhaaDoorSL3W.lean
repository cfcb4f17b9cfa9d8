/- The law SimpOps, walked. -/
import Derived.Test.YtekleoccdockhaaDoorSFix
import Derived.Test.YtekleoccdockhaaDoorLLaid
import Derived.Test.YtekleoccdockhaaDoorGAll
import Derived.Test.YtekleoccdockhaaDoorGSame
import Derived.Test.YtekleoccdockhaaDoorSOp
import Derived.Test.YtekleoccdockhaaDoorTDepth
set_option linter.unusedVariables false
set_option linter.unusedSimpArgs false
namespace Go.Proofs.YtekleoccdockhaaDoor
open Go.RowKit Go.Maps Go.MapKept

/-- What a reckoning made simple is: the terms behind it, its number, its error. -/
def opT3 (ts : List Term) (op x y : Int) : List Term × Nat × Int :=
  if (inR x ts.length && inR y ts.length) = false then (ts, 0, 100) else if opOk op = false then (ts, 0, 1) else ((made ts op.toNat x.toNat y.toNat).1, (made ts op.toNat x.toNat y.toNat).2, 0)
theorem opT3_no {ts : List Term} {op x y : Int} (h : (inR x ts.length && inR y ts.length) = false) : opT3 ts op x y = (ts, 0, 100) := if_pos h
theorem opT3_bad {ts : List Term} {op x y : Int} (h : (inR x ts.length && inR y ts.length) = true) (ho : opOk op = false) : opT3 ts op x y = (ts, 0, 1) := by
  unfold opT3
  rw [if_neg (by rw [h]; decide), if_pos ho]
theorem opT3_any {ts : List Term} {op x y : Nat} (h : (inR (x : Int) ts.length && inR (y : Int) ts.length) = true) (ho : opOk (op : Int) = true) : opT3 ts op x y = ((made ts op x y).1, (made ts op x y).2, 0) := by
  unfold opT3
  rw [if_neg (by rw [h]; decide), if_neg (by rw [ho]; decide)]
  rfl
theorem opT3_len {ts : List Term} {op x y : Int} (hG : Good ts) (hl : ts.length ≤ 60) : (opT3 ts op x y).1.length ≤ 1000 := by
  cases h : (inR x ts.length && inR y ts.length)
  · rw [opT3_no h]; show ts.length ≤ 1000; omega
  · cases ho : opOk op
    · rw [opT3_bad h ho]; show ts.length ≤ 1000; omega
    · rw [Bool.and_eq_true] at h
      obtain ⟨a, rfl, ha⟩ := inR_nat h.1
      obtain ⟨b, rfl, hb⟩ := inR_nat h.2
      obtain ⟨n, rfl, hn⟩ := opOk_nat ho
      rw [opT3_any (by rw [h.1, h.2]; rfl) ho]
      have := (made_dp hG hn ha hb).1
      have h1 := dp_le hG ha
      have h2 := dp_le hG hb
      show (made ts n a b).1.length ≤ 1000
      omega
section
variable {K0 : Nat → Prop} {w : World} {d k : Nat} {ts us : List Term} (h : BothM K0 w d k ts us)
include h
theorem both_simp (op x y : Int) (hl : ts.length < 100000000000) (hG : Good ts) (hg : K0 0) (hT : Tab w) : Calls Tryd.prog 11 #[.pointer (some ⟨d, 0, none⟩), .int .i64 op, .int .i64 x, .int .i64 y] w fun r w' => r = .returned (.tuple #[.int .i64 ((opT3 ts op x y).2.1 : Nat), .int .i64 (opT3 ts op x y).2.2]) ∧ BothM K0 w' d k (opT3 ts op x y).1 us ∧ Kept K0 w w' := by
  obtain ⟨K, vl, hX⟩ := h
  cases hr : (inR x ts.length && inR y ts.length)
  · rw [opT3_no hr]
    exact (simpOp_no K d op x y ts (by omega) hr w hX.dag).mono fun r w' ⟨e, b⟩ => ⟨e, BothM.dag_step hX (hX.dag.below b) (Kept.below b)⟩
  · have hr2 := hr
    rw [Bool.and_eq_true] at hr2
    obtain ⟨a, rfl, ha⟩ := inR_nat hr2.1
    obtain ⟨b, rfl, hb⟩ := inR_nat hr2.2
    cases ho : opOk op
    · rw [opT3_bad hr ho]
      exact (simpOp_bad K d op a b ts (by omega) ha hb ho w hX.dag).mono fun r w' ⟨e, b⟩ => ⟨e, BothM.dag_step hX (hX.dag.below b) (Kept.below b)⟩
    · obtain ⟨n, rfl, hn⟩ := opOk_nat ho
      rw [opT3_any hr ho]
      exact (simpOp_any K d n a b ts hl ha hb hn hG (hX.sub _ hg) w hT hX.dag).mono fun r w' ⟨e, h1, h2⟩ => ⟨e, BothM.dag_step hX h1 h2⟩
end
section
variable (k : Nat) (vl : Value) (ts : List Term) (w : World) (h : RefAt w k vl ts)
include h
set_option maxRecDepth 100000 in
theorem rOp_no (op x y : Int) (hn : (inR x ts.length && inR y ts.length) = false) : Calls Tryd.prog 17 #[.pointer (some ⟨k, 0, none⟩), .int .i64 op, .int .i64 x, .int .i64 y] w fun e w' =>
      e = .returned (.tuple #[.int .i64 0, .int .i64 100]) ∧ w = w' := by
  obtain ⟨A, c, rfl, q1, q2, q3⟩ := (h.l.toSl encT 0).open_
  have c0 := one_cell h.hb
  have hcase : x < 0 ∨ (¬ x < 0 ∧ (ts.length : Int) ≤ x) ∨ (¬ x < 0 ∧ ¬ (ts.length : Int) ≤ x ∧ y < 0) ∨ (¬ x < 0 ∧ ¬ (ts.length : Int) ≤ x ∧ ¬ y < 0 ∧ (ts.length : Int) ≤ y) := by
    cases hx : inR x ts.length
    · have := inR_not hx; omega
    · rw [hx, Bool.true_and] at hn
      obtain ⟨m, rfl, hm⟩ := inR_nat hx
      have := inR_not hn
      omega
  clear hn h
  rcases hcase with h1 | ⟨h1, h2⟩ | ⟨h1, h2, h3⟩ | ⟨h1, h2, h3, h4⟩
  all_goals
    go_enter Tryd.func17, Tryd.ntmps17
    go_wp2_with fail
    go_ret2
    exact ⟨rfl, rfl⟩
set_option maxRecDepth 100000 in
theorem rOp_bad (op : Int) (x y : Nat) (hx : x < ts.length) (hy : y < ts.length) (ho : opOk op = false) : Calls Tryd.prog 17 #[.pointer (some ⟨k, 0, none⟩), .int .i64 op, .int .i64 x, .int .i64 y] w fun e w' =>
      e = .returned (.tuple #[.int .i64 0, .int .i64 1]) ∧ w = w' := by
  obtain ⟨A, c, rfl, q1, q2, q3⟩ := (h.l.toSl encT 0).open_
  have c0 := one_cell h.hb
  have hD : Calls Tryd.prog 29 #[.int .i64 op, .int .u32 0, .int .u32 0] w fun r w' => r = .returned (.tuple #[.int .u32 0, .int .i64 1]) ∧ w = w' := rdo_no op ho 0 0 (by omega) (by omega) w
  have g1 : (x : Int) < ts.length := by omega
  have g2 : (y : Int) < ts.length := by omega
  clear ho h
  go_enter Tryd.func17, Tryd.ntmps17
  go_wp2_with fail
  refine hD.mono ?_
  rintro e w1 ⟨rfl, rfl⟩
  go_wp2_with fail
  go_ret2
  exact ⟨rfl, rfl⟩
end
theorem both_rsimp {K0 : Nat → Prop} {w : World} {d k : Nat} {ts us : List Term} (h : BothM K0 w d k ts us) (op x y : Int) (hl : us.length < 100000000000) (hG : Good us) :
    Calls Tryd.prog 17 #[.pointer (some ⟨k, 0, none⟩), .int .i64 op, .int .i64 x, .int .i64 y] w fun r w' => r = .returned (.tuple #[.int .i64 ((opT3 us op x y).2.1 : Nat), .int .i64 (opT3 us op x y).2.2]) ∧ BothM K0 w' d k ts (opT3 us op x y).1 ∧ Kept K0 w w' := by
  obtain ⟨K, vl, hX⟩ := h
  cases hr : (inR x us.length && inR y us.length)
  · rw [opT3_no hr]
    exact (rOp_no k vl us w hX.ref op x y hr).mono fun r w' ⟨e, b⟩ => ⟨e, BothM.ref_step hX (RAdd.same hX.ref (by rw [← b]; exact Below.refl _ _))⟩
  · have hr2 := hr
    rw [Bool.and_eq_true] at hr2
    obtain ⟨a, rfl, ha⟩ := inR_nat hr2.1
    obtain ⟨b, rfl, hb⟩ := inR_nat hr2.2
    cases ho : opOk op
    · rw [opT3_bad hr ho]
      exact (rOp_bad k vl us w hX.ref op a b ha hb ho).mono fun r w' ⟨e, b⟩ => ⟨e, BothM.ref_step hX (RAdd.same hX.ref (by rw [← b]; exact Below.refl _ _))⟩
    · obtain ⟨n, rfl, hn⟩ := opOk_nat ho
      rw [opT3_any hr ho]
      exact (rmade_call k vl n a b us hl ha hb hn hG w hX.ref).mono fun r w' ⟨e, h1⟩ => ⟨e, BothM.ref_step hX h1⟩
set_option maxRecDepth 100000 in
set_option maxHeartbeats 4000000 in
theorem law3_any (B : Nat) (e : TypeId) (v : Value) (xs : List SOp) (hf : ∀ x ∈ xs, x.Fits) (o : SOp) (w : World) (hs : SlN B e 5 SOp.five w v xs) (hT : Tab w) (hgz : 0 < w.heap.size) :
    Calls Tryd.prog 5 #[v, .agg o.five.toArray] w fun e w' => e = .returned (.bool true) ∧ Below w.heap.size w w' := by
  obtain ⟨kd, ov, op, x, y⟩ := o
  show Calls Tryd.prog 5 #[v, .agg #[.int .i64 kd, .int .u32 (ov : Int), .int .i64 op, .int .i64 x, .int .i64 y]] w fun e w' => e = .returned (.bool true) ∧ Below w.heap.size w w'
  have b1 := (Below.refl w.heap.size w).alloc (Nat.le_refl _) (.cells #[.int .i64 kd, .int .u32 (ov : Int), .int .i64 op, .int .i64 x, .int .i64 y] 39)
  have hs1 := hs.below b1
  obtain ⟨z0, z1, z2, z3, z4⟩ := five_cells (blk_new w (.cells #[.int .i64 kd, .int .u32 (ov : Int), .int .i64 op, .int .i64 x, .int .i64 y] 39))
  have hL := laid_any B e v xs hf _ hs1
  have hT1 := hT.below b1
  have hsz : (w.alloc (.cells #[.int .i64 kd, .int .u32 (ov : Int), .int .i64 op, .int .i64 x, .int .i64 y] 39)).heap.size = w.heap.size + 1 := by simp
  obtain ⟨A, cp, rfl, q1, q2, q3⟩ := hs.open_
  obtain ⟨K0, hK⟩ : ∃ K : Nat → Prop, (fun i => i < (w.alloc (.cells #[.int .i64 kd, .int .u32 (ov : Int), .int .i64 op, .int .i64 x, .int .i64 y] 39)).heap.size) = K := ⟨_, rfl⟩
  have hg : K0 0 := by rw [← hK]; show _ < _; omega
  have hz : K0 w.heap.size := by rw [← hK]; show _ < _; omega
  have hend : ∀ w', Kept K0 (w.alloc (.cells #[.int .i64 kd, .int .u32 (ov : Int), .int .i64 op, .int .i64 x, .int .i64 y] 39)) w' → Below w.heap.size w w' := fun w' h => by
    rw [← hK] at h
    exact b1.trans ((below_kept h).mono b1.size)
  rw [hK] at hL
  clear hK hs hf hs1 hT
  go_enter Tryd.func5, Tryd.ntmps5
  go_wp2_with fail
  refine hL.mono ?_
  rintro r w1 ⟨d, k, ts, rfl, hB, hG, hlen, hk1⟩
  have hT2 := hT1.kept hk1 hg
  have x2 := hk1.cell hz z2
  have x3 := hk1.cell hz z3
  have x4 := hk1.cell hz z4
  have hll := opT3_len (op := op) (x := x) (y := y) hG hlen
  have S1 := fun w hT h => both_simp (K0 := K0) (w := w) (d := d) (k := k) (ts := ts) (us := ts) h op x y (by omega) hG hg hT
  have S2 := fun w ts' h => both_rsimp (K0 := K0) (w := w) (d := d) (k := k) (ts := ts') (us := ts) h op x y (by omega) hG
  generalize hR : opT3 ts op x y = R at hll S1 S2
  obtain ⟨us, n, er⟩ := R
  dsimp only at hll S1 S2
  clear hL hT1 z0 z1 z2 z3 z4 hR
  go_wp2_with fail
  refine (S1 _ hT2 hB).mono ?_
  rintro r w2 ⟨rfl, hB2, k2⟩
  have y2 := k2.cell hz x2
  have y3 := k2.cell hz x3
  have y4 := k2.cell hz x4
  have hT3 := hT2.kept k2 hg
  have k12 := hk1.trans k2
  clear S1 x2 x3 x4 hB hk1 k2 hT2
  go_wp2_with fail
  refine (S2 _ _ hB2).mono ?_
  rintro r w3 ⟨rfl, hB3, k3⟩
  have hT4 := hT3.kept k3 hg
  have k13 := k12.trans k3
  clear S2 y2 y3 y4 hB2 k12 k3 hT3
  go_wp2_with fail
  refine (same_any us (by omega) K0 d k _ hB3).mono ?_
  rintro r w4 ⟨rfl, b4⟩
  have hT5 := hT4.below b4
  have k14 := k13.then_below b4
  go_wp2_with fail
  refine (fixed_any _ hT5 (Nat.lt_of_lt_of_le hgz (by have := k14.size; omega))).mono ?_
  rintro r wz ⟨rfl, bz⟩
  have kz := k14.then_below bz
  go_wp2_with fail
  go_ret
  exact ⟨rfl, hend _ kz⟩
end Go.Proofs.YtekleoccdockhaaDoor
