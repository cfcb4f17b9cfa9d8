/- The law SimpStays, walked. -/
import Derived.Test.YtekleoccdockhaaDoorSL4W
import Derived.Test.YtekleoccdockhaaDoorSStay
import Derived.Test.YtekleoccdockhaaDoorSAllW
set_option linter.unusedVariables false
set_option linter.unusedSimpArgs false
namespace Go.Proofs.YtekleoccdockhaaDoor
open Go.RowKit Go.Maps Go.MapKept

def AllTo (K : Nat → Prop) (d : Nat) (x y : Nat) (ts us : List Term) : Prop := ∀ w, Tab w → DagAt K w d ts →
  Calls Tryd.prog 15 #[.pointer (some ⟨d, 0, none⟩), .int .i64 (x : Nat)] w fun e w' => e = .returned (.tuple #[.int .i64 (y : Nat), .int .i64 0]) ∧ DagAt K w' d us ∧ Kept K w w'
theorem stay_step {K : Nat → Prop} {d x : Nat} {ts : List Term} (hl : ts.length ≤ 60) (hx : x < ts.length) (hG : Good ts) (hg : K 0) :
    ∃ (y : Nat) (us : List Term), AllTo K d x y ts us ∧ AllTo K d y y us us := by
  obtain ⟨h1, h2, h3, h4, h5⟩ := allT_ok hG hx
  have hl5 := h5 60 (fun i hi => by have := dp_le hG hi; omega)
  have hl6 : ts.length * (8 * 60 + 10) ≤ 60 * (8 * 60 + 10) := Nat.mul_le_mul_right _ hl
  have hl7 : (allT ts x).1.length < 100000000000 := by omega
  refine ⟨(allT ts x).2, (allT ts x).1, fun w hT h => simpAll_any K d x ts hl7 hx hG hg w hT h, fun w hT h => ?_⟩
  have e := allT_same h1 (allT_smp hG hx)
  have hq := simpAll_any K d (allT ts x).2 (allT ts x).1 (by rw [e]; exact hl7) h3 h1 hg w hT h
  rw [e] at hq
  exact hq
set_option maxRecDepth 100000 in
set_option maxHeartbeats 1000000 in
theorem law5_any (B : Nat) (e : TypeId) (v : Value) (xs : List SOp) (hf : ∀ x ∈ xs, x.Fits) (a : Int) (w : World) (hs : SlN B e 5 SOp.five w v xs) (hT : Tab w) (hgz : 0 < w.heap.size) :
    Calls Tryd.prog 8 #[v, .int .i64 a] w fun e w' => e = .returned (.bool true) ∧ Below w.heap.size w w' := by
  have hL := laid_any B e v xs hf w hs
  obtain ⟨A, cp, rfl, q1, q2, q3⟩ := hs.open_
  obtain ⟨K0, hK⟩ : ∃ K : Nat → Prop, (fun i => i < w.heap.size) = K := ⟨_, rfl⟩
  have hg : K0 0 := by rw [← hK]; exact hgz
  have hend : ∀ w', Kept K0 w w' → Below w.heap.size w w' := fun w' h => by rw [← hK] at h; exact below_kept h
  rw [hK] at hL
  clear hK hs hf
  generalize hbb : w.heap.size = d0 at hgz ⊢ hend
  have HB := Lib.hid hbb
  clear hbb
  go_enter Tryd.func8, Tryd.ntmps8
  go_wp2_with fail
  refine hL.mono ?_
  rintro r w1 ⟨d, k, ts, rfl, ⟨K, vl, hX⟩, hG, hlen, hk1⟩
  have hT1 := hT.kept hk1 hg
  have hD := hX.dag
  have hKK : ∀ i, K0 i → K i := hX.sub
  have hlenq := len_any K d ts w1 hD
  have hq : ∀ n, Calls Tryd.prog 19 #[.pointer (some ⟨d, 0, none⟩)] (w1.drewN n) fun e w'' => e = .returned (.int .i64 (ts.length : Int)) ∧ ∃ m, w'' = w1.drewN m := fun n => Calls.quiet_of_same ((len_any K d ts _ (hD.below (below_drewN (Below.refl _ _) n))).mono fun r w' ⟨e, h⟩ => ⟨e, h.symm⟩)
  clear hX hL hT
  by_cases hz : ts.length = 0
  · have hz' : (ts.length : Int) = 0 := by omega
    rw [hz'] at hlenq
    clear hz'
    go_wp2_with fail
    refine hlenq.mono ?_
    rintro r w2 ⟨rfl, rfl⟩
    go_wp2_with fail
    refine (fixed_any w1 hT1 (Nat.lt_of_lt_of_le hgz (by have := hk1.size; have h0 := HB.out; omega))).mono ?_
    rintro r wz ⟨rfl, bz⟩
    have kz := hk1.then_below bz
    go_wp2_with fail
    go_ret
    exact ⟨rfl, hend _ kz⟩
  obtain ⟨m1, x, e1, f1, hx, hm1⟩ := low_mod a ts.length (by omega)
  have hne : ((ts.length : Int) == 0) = false := by simp only [beq_eq_false_iff_ne, ne_eq]; omega
  have hL1 : 1 ≤ (ts.length : Int) := by omega
  have hL0 : ¬ (ts.length : Int) = 0 := by omega
  obtain ⟨y, us, A1, A2⟩ := stay_step (K := K) (d := d) hlen hx hG (hKK _ hg)
  unfold AllTo at A1 A2
  generalize hLL : ts.length = L at hlenq hq hne hL1 hL0 f1
  have f3 : (m1 : Int) % (L : Int) = (x : Int) := by rw [← f1, Int.tmod_eq_emod_of_nonneg (by omega)]
  have hr1 : ∀ W, (binOp BinOp.rem 3 (.int .i64 m1) (.int .i64 L)).run Tryd.prog W = .ok (.int .i64 x) W := fun W => by
    rw [binOp_rem]; unfold Op.intDiv; rw [if_neg hL0]; dsimp only; rw [f1]; rfl
  clear hLL hz hq hx hlen f1
  go_wp2_with fail
  refine hlenq.mono ?_
  rintro r w2 ⟨rfl, rfl⟩
  go_wp2_with fail
  refine hlenq.mono ?_
  rintro r w2 ⟨rfl, rfl⟩
  clear hlenq
  go_wp2_with fail
  refine (A1 w1 hT1 hD).mono ?_
  rintro r w3 ⟨rfl, h3, q3⟩
  have k3 := hk1.trans (q3.mono hKK)
  have hT3 := hT1.kept q3 (hKK _ hg)
  clear A1 hD hT1 hk1 q3
  go_wp2_with fail
  refine (A2 w3 hT3 h3).mono ?_
  rintro r w4 ⟨rfl, h4, q4⟩
  have k4 := k3.trans (q4.mono hKK)
  have hT4 := hT3.kept q4 (hKK _ hg)
  clear A2 h3 hT3 k3 q4
  go_wp2_with fail
  refine (fixed_any _ hT4 (Nat.lt_of_lt_of_le hgz (by have := k4.size; have h0 := HB.out; omega))).mono ?_
  rintro r wz ⟨rfl, bz⟩
  have kz := k4.then_below bz
  go_wp2_with fail
  go_ret
  exact ⟨rfl, hend _ kz⟩
end Go.Proofs.YtekleoccdockhaaDoor
