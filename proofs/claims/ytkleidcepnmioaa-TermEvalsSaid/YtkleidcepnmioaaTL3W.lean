/- The law TermEvals, walked. -/
import Derived.Test.YtkleidcepnmioaaTFix
import Derived.Test.YtkleidcepnmioaaLLaid
import Derived.Test.YtkleidcepnmioaaTOut
set_option linter.unusedVariables false
set_option linter.unusedSimpArgs false
namespace Go.Proofs.Ytkleidcepnmioaa
open Go.RowKit Go.Maps Go.MapKept

set_option maxRecDepth 100000 in
set_option maxHeartbeats 4000000 in
theorem tlaw3_any (B : Nat) (e : TypeId) (v : Value) (xs : List SOp) (hf : ∀ x ∈ xs, x.Fits) (n : Int) (x : Nat → Nat) (hx : ∀ r, x r < 4294967296) (w : World) (hs : SlN B e 5 SOp.five w v xs) :
    Calls Try.prog 5 #[v, .int .i64 n, .agg (regsV x)] w fun e w' => e = .returned (.bool true) ∧ Below w.heap.size w w' := by
  have b1 := (Below.refl w.heap.size w).alloc (Nat.le_refl _) (.cells (regsV x) 23)
  have hs1 := hs.below b1
  have hL := laid_any B e v xs hf _ hs1
  have hbk := blk_new w (.cells (regsV x) 23)
  have hsz := regsV_size x
  have hsw : (w.alloc (.cells (regsV x) 23)).heap.size = w.heap.size + 1 := by simp
  have S1 := fun K d ts w hl hG h => evalO_any K d n ts x hx hl hG w h
  have S2 := fun k vl ts w hl hG h => revalO_any k vl n ts x hx hl hG w h
  obtain ⟨A, cp, rfl, q1, q2, q3⟩ := hs.open_
  obtain ⟨K0, hK⟩ : ∃ K : Nat → Prop, (fun i => i < (w.alloc (.cells (regsV x) 23)).heap.size) = K := ⟨_, rfl⟩
  have hz : K0 w.heap.size := by rw [← hK]; show _ < _; omega
  have hend : ∀ w', Kept K0 (w.alloc (.cells (regsV x) 23)) w' → Below w.heap.size w w' := fun w' h => by
    rw [← hK] at h
    exact b1.trans ((below_kept h).mono b1.size)
  rw [hK] at hL
  clear hK hs hf hs1
  generalize regsV x = R at b1 hL hbk hsz hsw S1 S2 hend ⊢
  go_enter Try.func5, Try.ntmps5
  go_wp2_with fail
  refine hL.mono ?_
  rintro r w1 ⟨d, k, ts, rfl, ⟨K, vl, hX⟩, hG, hlen, hk1⟩
  have hb1 := hk1.blk hz hbk
  have hD := hX.dag
  have hR := hX.ref
  have T1 := S1 K d ts w1 (by omega) hG hD
  have T2 := fun w h => S2 k vl ts w (by omega) hG h
  have T3 := fun w h => varsO_any K d n ts (by omega) hG w h
  have T4 := fun w h => rvarsO_any k vl n ts (by omega) hG w h
  generalize evO ts x n = E at T1 T2
  generalize vrO ts n = V at T3 T4
  obtain ⟨ea, eb⟩ := E
  obtain ⟨va, vb⟩ := V
  dsimp only at T1 T2 T3 T4
  clear hL S1 S2 hX hbk b1 hsw
  go_wp2_with (first | (refine wpList_load_row rfl 23 (.tmp 5) rfl w.heap.size rfl 23 R (0, 0) _ (by assumption) Try.underlying23 rfl (by rw [hsz]; kernel_rfl) ?_) | fail)
  refine T1.mono ?_
  rintro r w2 ⟨rfl, b2⟩
  have hb2 := blk_below hb1 b2
  have hD2 := hD.below b2
  have hR2 := hR.below b2
  have k2 := hk1.then_below b2
  clear T1 hb1 hD hR b2 hk1
  go_wp2_with (first | (refine wpList_load_row rfl 23 (.tmp 5) rfl w.heap.size rfl 23 R (0, 0) _ (by assumption) Try.underlying23 rfl (by rw [hsz]; kernel_rfl) ?_) | fail)
  refine (T2 _ hR2).mono ?_
  rintro r w3 ⟨rfl, b3⟩
  have hD3 := hD2.below b3
  have hR3 := hR2.below b3
  have k3 := k2.then_below b3
  clear T2 hb2 hD2 hR2 b3 k2
  go_wp2_with fail
  refine (T3 _ hD3).mono ?_
  rintro r w4 ⟨rfl, b4⟩
  have hR4 := hR3.below b4
  have k4 := k3.then_below b4
  clear T3 hD3 hR3 b4 k3
  go_wp2_with fail
  refine (T4 _ hR4).mono ?_
  rintro r w5 ⟨rfl, b5⟩
  have k5 := k4.then_below b5
  clear T4 hR4 b5 k4
  go_wp2_with fail
  refine (tfixed_any _).mono ?_
  rintro r w6 ⟨rfl, b6⟩
  have k6 := k5.then_below b6
  go_wp2_with fail
  go_ret
  exact ⟨rfl, hend _ k6⟩
end Go.Proofs.Ytkleidcepnmioaa
