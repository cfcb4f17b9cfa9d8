/- The law LiftFrom, walked. -/
import Derived.Test.YtaiggfknighhgaaGreatDoorIBoth
import Derived.Test.YtaiggfknighhgaaGreatDoorOpenC
set_option linter.unusedVariables false
set_option linter.unusedSimpArgs false
namespace Go.Proofs.YtaiggfknighhgaaGreatDoor
open Go.RowKit Go.Maps Go.MapKept

set_option maxRecDepth 100000 in
set_option maxHeartbeats 4000000 in
theorem law6_any (B : Nat) (e : TypeId) (v : Value) (xs : List SOp) (hf : ∀ x ∈ xs, x.Fits) (z : Nat → Int) (B' : Nat) (e' : TypeId) (v' : Value) (ys : List Ins) (w : World) (hs : SlN B e 5 SOp.five w v xs) (hs' : SlN B' e' 5 Ins.five w v' ys) (hT : Tab w) (hgz : 0 < w.heap.size) :
    Calls Tryz.prog 4 #[v, .agg (zV z), v'] w fun e w' => e = .returned (.bool true) ∧ Below w.heap.size w w' := by
  have b0 := (Below.refl w.heap.size w).alloc (Nat.le_refl _) (.cells (zV z) 32)
  have gZ := ZAt.new 32 w z
  have hs0 : (w.alloc (.cells (zV z) 32)).heap.size = w.heap.size + 1 := by simp
  have hL := laid_any B e v xs hf _ (hs.below b0)
  obtain ⟨K0, hK⟩ : ∃ K : Nat → Prop, (fun i => i < (w.alloc (.cells (zV z) 32)).heap.size) = K := ⟨_, rfl⟩
  have hg : K0 0 := by rw [← hK]; show _ < _; omega
  have hk0 : K0 w.heap.size := by rw [← hK]; show _ < _; omega
  have hend : ∀ w', Kept K0 (w.alloc (.cells (zV z) 32)) w' → Below w.heap.size w w' := fun w' h => by rw [← hK] at h; exact b0.trans ((below_kept h).mono b0.size)
  have hgs : ∀ w', Kept K0 (w.alloc (.cells (zV z) 32)) w' → 0 < w'.heap.size := fun w' h => by have := h.size; omega
  have hT0 := hT.below b0
  rw [hK] at hL
  clear hK hs hf hT
  obtain ⟨A, c, N, la, rfl, hN, hN2, hA, hq, hpl⟩ := cut30 hs'
  have hvK : ∀ w', Kept K0 (w.alloc (.cells (zV z) 32)) w' → SlN B' e' 5 Ins.five w' (.slice A N c) la := fun w' h => hA.below (hend w' h)
  clear hs' hA b0 hs0
  rcases hq with ⟨q1, q0, q2, q3⟩ | ⟨q1, q0, q2, q3⟩
  all_goals
    subst q2
    go_enter Tryz.func4, Tryz.ntmps4
    go_wp2_with fail
    refine hL.mono ?_
    rintro r w1 ⟨d, k, ts, rfl, hB, hG, hlen, k1⟩
    have T1 := hT0.kept k1 hg
    have gZ1 := gZ.kept k1 hk0
    have hF := both_from hB (xs := la) (by omega) (pc := 4096) (by decide) (fun w' h => hvK _ (k1.trans h)) z hG (by omega) hg T1
    have hRf := fun (K' : Nat → Prop) (w : World) (ts' : List Term) (V : Value) (h : BothM K' w d k ts' ts) (hv : ∀ w', Kept K' w w' → SlN B' e' 5 Ins.five w' V la) => both_rfrom h (xs := la) (by omega) (pc := 4096) (by decide) hv z hG (by omega)
    have hlR := fromO_len (z := z) (xs := la) (pc := 4096) hG (by omega) (by omega)
    rw [show ((4096 : Nat) : Int) = 4096 from rfl] at hF hRf
    generalize fromO ts z la 4096 = R at hF hRf hlR
    unfold ZAt at gZ1
    clear hL hT0 gZ hB hN
    go_wp2_with (first | (refine wpList_load_row rfl 32 (.tmp 4) rfl w.heap.size rfl 32 (zV z) (0, 0) _ gZ1 Tryz.underlying32 rfl (by rw [zV_size]; exact info_arr) ?_) | fail)
    refine hF.mono ?_
    rintro r w2 ⟨rfl, hB2, k2⟩
    have ba := (Below.refl w2.heap.size w2).alloc (Nat.le_refl _) (.cells (zV R.2.1) 32)
    have gA := ZAt.new 32 w2 R.2.1
    obtain ⟨K2, hB3, kk, kn⟩ := hB2.grow ba
    have e1 := kn w2.heap.size (Nat.le_refl _) (by simp)
    have gZ2 := blk_below (k2.blk hk0 gZ1) ba
    have k3 := (k1.trans k2).trans (Kept.below ba)
    have T3 := (T1.kept k2 hg).below ba
    have hC := hRf K2 _ _ _ hB3 (fun w' h => hvK _ (k3.trans (h.mono kk)))
    clear hF hRf hB2 k2 k1 T1 gZ1 ba kn hB3 hvK hG
    go_wp2_with (first | ((refine wpList_store_row rfl 32 (.tmp 10) (.tmp 32) rfl w2.heap.size (zV R.2.1) rfl rfl 32 _ (blk_new w2 _) (by rw [zV_size]; exact info_arr) rfl (zV_one _) ?_); rw [World.setRow_alloc_new]) | (refine wpList_load_row rfl 32 (.tmp 4) rfl w.heap.size rfl 32 (zV z) (0, 0) _ gZ2 Tryz.underlying32 rfl (by rw [zV_size]; exact info_arr) ?_) | fail)
    refine hC.mono ?_
    rintro r w3 ⟨rfl, hB4, k4⟩
    have bb := (Below.refl w3.heap.size w3).alloc (Nat.le_refl _) (.cells (zV R.2.1) 32)
    have gA2 := (gA.kept k4 e1).below bb
    have gB := ZAt.new 32 w3 R.2.1
    have hB5 := hB4.below bb
    have k5 := (k3.trans (k4.mono kk)).trans (Kept.below bb)
    have T5 := (T3.kept k4 (kk _ hg)).below bb
    have hq1 := fun w => eq_arr R.2.1 w
    have he : (R.2.2 == R.2.2) = true := by simp
    have hS := same_any R.1 (by omega) K2 d k _ hB5
    unfold ZAt at gA2 gB
    clear hC hB4 k4 k3 T3 gA bb hB5 kk
    go_wp2_with (first | ((refine wpList_store_row rfl 32 (.tmp 12) (.tmp 39) rfl w3.heap.size (zV R.2.1) rfl rfl 32 _ (blk_new w3 _) (by rw [zV_size]; exact info_arr) rfl (zV_one _) ?_); rw [World.setRow_alloc_new]) | (refine wpList_load_row rfl 32 (.tmp 10) rfl w2.heap.size rfl 32 (zV R.2.1) (0, 0) _ gA2 Tryz.underlying32 rfl (by rw [zV_size]; exact info_arr) ?_) | (refine wpList_load_row rfl 32 (.tmp 12) rfl w3.heap.size rfl 32 (zV R.2.1) (0, 0) _ gB Tryz.underlying32 rfl (by rw [zV_size]; exact info_arr) ?_) | fail)
    refine hS.mono ?_
    rintro r w4 ⟨rfl, b4⟩
    have k6 := k5.trans (Kept.below b4)
    go_wp2_with fail
    refine (lfixed_any _ (T5.below b4) (hgs _ k6)).mono ?_
    rintro r w5 ⟨rfl, b5⟩
    go_wp2_with fail
    go_ret
    exact ⟨rfl, hend _ (k6.trans (Kept.below b5))⟩
end Go.Proofs.YtaiggfknighhgaaGreatDoor
