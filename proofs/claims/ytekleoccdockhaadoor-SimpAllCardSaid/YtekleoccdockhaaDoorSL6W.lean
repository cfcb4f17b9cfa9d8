/- The law SimpAll, walked. -/
import Derived.Test.YtekleoccdockhaaDoorSL3W
import Derived.Test.YtekleoccdockhaaDoorGAll
import Derived.Test.YtekleoccdockhaaDoorSAllW
set_option linter.unusedVariables false
set_option linter.unusedSimpArgs false
namespace Go.Proofs.YtekleoccdockhaaDoor
open Go.RowKit Go.Maps Go.MapKept

/-- What a term made simple from within is: the terms behind it, its number, its error. -/
def allT3 (ts : List Term) (n : Int) : List Term × Nat × Int :=
  if inR n ts.length = false then (ts, 0, 100) else ((allT ts n.toNat).1, (allT ts n.toNat).2, 0)
theorem allT3_no {ts : List Term} {n : Int} (h : inR n ts.length = false) : allT3 ts n = (ts, 0, 100) := if_pos h
theorem allT3_any {ts : List Term} {n : Nat} (h : inR (n : Int) ts.length = true) : allT3 ts n = ((allT ts n).1, (allT ts n).2, 0) := by
  unfold allT3
  rw [if_neg (by rw [h]; decide)]
  rfl
theorem allT_len60 {ts : List Term} {n : Nat} (hG : Good ts) (hl : ts.length ≤ 60) (hn : n < ts.length) : (allT ts n).1.length ≤ 30000 := by
  have h := (allT_ok hG hn).2.2.2.2 60 fun i hi => by have := dp_le hG hi; omega
  have : ts.length * (8 * 60 + 10) ≤ 60 * (8 * 60 + 10) := Nat.mul_le_mul_right _ hl
  omega
theorem allT3_len {ts : List Term} {n : Int} (hG : Good ts) (hl : ts.length ≤ 60) : (allT3 ts n).1.length ≤ 30000 := by
  cases h : inR n ts.length
  · rw [allT3_no h]; show ts.length ≤ _; omega
  · obtain ⟨a, rfl, ha⟩ := inR_nat h
    rw [allT3_any h]
    exact allT_len60 hG hl ha
theorem both_all {K0 : Nat → Prop} {w : World} {d k : Nat} {ts us : List Term} (h : BothM K0 w d k ts us) (n : Int) (hl : ts.length ≤ 60) (hG : Good ts) (hg : K0 0) (hT : Tab w) : Calls Tryd.prog 15 #[.pointer (some ⟨d, 0, none⟩), .int .i64 n] w fun r w' => r = .returned (.tuple #[.int .i64 ((allT3 ts n).2.1 : Nat), .int .i64 (allT3 ts n).2.2]) ∧ BothM K0 w' d k (allT3 ts n).1 us ∧ Kept K0 w w' := by
  obtain ⟨K, vl, hX⟩ := h
  cases hr : inR n ts.length
  · rw [allT3_no hr]
    exact (simpAll_no K d n ts (by omega) hr w hX.dag).mono fun r w' ⟨e, b⟩ => ⟨e, BothM.dag_step hX (hX.dag.below b) (Kept.below b)⟩
  · obtain ⟨a, rfl, ha⟩ := inR_nat hr
    rw [allT3_any hr]
    exact (simpAll_any K d a ts (by have := allT_len60 hG hl ha; omega) ha hG (hX.sub _ hg) w hT hX.dag).mono fun r w' ⟨e, h1, h2⟩ => ⟨e, BothM.dag_step hX h1 h2⟩
theorem both_rall {K0 : Nat → Prop} {w : World} {d k : Nat} {ts us : List Term} (h : BothM K0 w d k ts us) (n : Int) (hl : us.length ≤ 60) (hG : Good us) :
    Calls Tryd.prog 20 #[.pointer (some ⟨k, 0, none⟩), .int .i64 n] w fun r w' => r = .returned (.tuple #[.int .i64 ((allT3 us n).2.1 : Nat), .int .i64 (allT3 us n).2.2]) ∧ BothM K0 w' d k ts (allT3 us n).1 ∧ Kept K0 w w' := by
  obtain ⟨K, vl, hX⟩ := h
  cases hr : inR n us.length
  · rw [allT3_no hr]
    exact (rAll_no k vl n us hr w hX.ref).mono fun r w' ⟨e, b⟩ => ⟨e, BothM.ref_step hX (RAdd.same hX.ref (by rw [← b]; exact Below.refl _ _))⟩
  · obtain ⟨a, rfl, ha⟩ := inR_nat hr
    rw [allT3_any hr]
    exact (rAll_any k vl a us (by have := allT_len60 hG hl ha; omega) ha hG w hX.ref).mono fun r w' ⟨e, h1⟩ => ⟨e, BothM.ref_step hX h1⟩
set_option maxRecDepth 100000 in
set_option maxHeartbeats 4000000 in
theorem law6_any (B : Nat) (e : TypeId) (v : Value) (xs : List SOp) (hf : ∀ x ∈ xs, x.Fits) (n : Int) (w : World) (hs : SlN B e 5 SOp.five w v xs) (hT : Tab w) (hgz : 0 < w.heap.size) :
    Calls Tryd.prog 7 #[v, .int .i64 n] w fun e w' => e = .returned (.bool true) ∧ Below w.heap.size w w' := by
  have hL := laid_any B e v xs hf _ hs
  obtain ⟨A, cp, rfl, q1, q2, q3⟩ := hs.open_
  obtain ⟨K0, hK⟩ : ∃ K : Nat → Prop, (fun i => i < w.heap.size) = K := ⟨_, rfl⟩
  have hg : K0 0 := by rw [← hK]; exact hgz
  have hend : ∀ w', Kept K0 w w' → Below w.heap.size w w' := fun w' h => by rw [← hK] at h; exact below_kept h
  rw [hK] at hL
  clear hK hs hf
  go_enter Tryd.func7, Tryd.ntmps7
  go_wp2_with fail
  refine hL.mono ?_
  rintro r w1 ⟨d, k, ts, rfl, hB, hG, hlen, hk1⟩
  have hT2 := hT.kept hk1 hg
  have hll := allT3_len (n := n) hG hlen
  have S1 := fun w hT h => both_all (K0 := K0) (w := w) (d := d) (k := k) (ts := ts) (us := ts) h n hlen hG hg hT
  have S2 := fun w ts' h => both_rall (K0 := K0) (w := w) (d := d) (k := k) (ts := ts') (us := ts) h n hlen hG
  generalize hR : allT3 ts n = R at hll S1 S2
  obtain ⟨us, m, er⟩ := R
  dsimp only at hll S1 S2
  clear hL hT hR
  go_wp2_with fail
  refine (S1 _ hT2 hB).mono ?_
  rintro r w2 ⟨rfl, hB2, k2⟩
  have hT3 := hT2.kept k2 hg
  have k12 := hk1.trans k2
  clear S1 hB hk1 k2 hT2
  go_wp2_with fail
  refine (S2 _ _ hB2).mono ?_
  rintro r w3 ⟨rfl, hB3, k3⟩
  have hT4 := hT3.kept k3 hg
  have k13 := k12.trans k3
  clear S2 hB2 k12 k3 hT3
  go_wp2_with fail
  refine (same_any us (by omega) K0 d k _ hB3).mono ?_
  rintro r w4 ⟨rfl, b4⟩
  have hT5 := hT4.below b4
  have k14 := k13.then_below b4
  go_wp2_with fail
  refine (fixed_any _ hT5 (Nat.lt_of_lt_of_le hgz (by have := k14.size; omega))).mono ?_
  rintro r wz ⟨rfl, bz⟩
  have kz := k14.then_below bz
  go_wp2_with fail
  go_ret
  exact ⟨rfl, hend _ kz⟩
end Go.Proofs.YtekleoccdockhaaDoor
