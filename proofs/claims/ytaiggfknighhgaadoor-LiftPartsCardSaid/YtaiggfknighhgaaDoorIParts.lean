/- Instructions behind instructions: plain laws of LiftParts. -/
import Derived.Test.YtaiggfknighhgaaDoorIBlock
import Derived.Test.YtaiggfknighhgaaDoorIAgain
set_option linter.unusedVariables false
set_option linter.unusedSimpArgs false
namespace Go.Proofs.YtaiggfknighhgaaDoor

theorem oddL_append (a b : List Ins) : oddL (a ++ b) = (oddL a || oddL b) := by unfold oddL; rw [List.any_append]
theorem blockO_odd {ts : List Term} {y : List Ins} {pc : Nat} (h : oddL y = true) : blockO ts y pc = (ts, fun _ => 0, 120) := by unfold blockO; rw [if_pos h]
theorem blockO_blk {ts : List Term} {y : List Ins} {pc : Nat} (h : oddL y = false) : blockO ts y pc = ((blkT ts y pc).1, fun r => (((blkT ts y pc).2 r : Nat) : Int), 0) := by unfold blockO; rw [if_neg (by rw [h]; decide)]; rfl
theorem okX_in {ts : List Term} {x : Nat → Nat} (h : InT ts x) : okX ts (fun r => ((x r : Nat) : Int)) = true := okX_all fun r hr => inR_cast (h r hr)
theorem toN_cast (x : Nat → Nat) : toN (fun r => ((x r : Nat) : Int)) = x := by funext r; simp [toN]
theorem fromT_nil (ts : List Term) (x : Nat → Nat) (pc : Nat) : fromT ts x [] pc = (ts, x) := rfl
theorem start_same {ts us : List Term} {n : Nat} (h : Ext (startT ts n).1 us) : (startT us n).1 = us ∧ (((startT us n).1, (fun r => (((startT us n).2 r : Nat) : Int)), (0 : Int)) : List Term × (Nat → Int) × Int) = (us, startZ us n, 0) := by
  have e := startT_again n h
  unfold startZ
  exact ⟨by rw [e], by rw [e]⟩
theorem blockO_nil (ts : List Term) (pc : Nat) : blockO ts [] pc = ((startT ts 32).1, (fun r => (((startT ts 32).2 r : Nat) : Int)), (0 : Int)) := by
  rw [blockO_blk (show oddL [] = false from rfl)]
  unfold blkT
  rw [fromT_nil]
theorem parts_facts {a b : List Ins} {pc : Nat} (ha : a.length ≤ 20) (hb : b.length ≤ 20) (hpc : pc < 4294967296) :
    ∃ ts1 x e ts2 z g, blockO [] a pc = (ts1, x, e) ∧ Good ts1 ∧ ts1.length ≤ 90000 ∧ blockO ts1 (a ++ b) pc = (ts2, z, g) ∧ Good ts2 ∧ ts2.length ≤ 80000 + 1132 ∧
      ((e = 120 ∧ g = 120) ∨ (e = 0 ∧ fromO ts2 x b ((pc + 4 * a.length) % 4294967296) = (ts2, z, g) ∧ (startT ts2 32).1 = ts2 ∧ blockO ts2 [] pc = (ts2, startZ ts2 32, 0))) := by
  have hG0 : Good [] := good_of rfl
  cases hoa : oddL a with
  | true => exact ⟨[], _, _, [], _, _, blockO_odd hoa, hG0, Nat.zero_le _, blockO_odd (by rw [oddL_append, hoa]; rfl), hG0, Nat.zero_le _, Or.inl ⟨rfl, rfl⟩⟩
  | false =>
    have hpa := oddL_false hoa
    obtain ⟨f1, f2, f3⟩ := blkT_ok (pc := pc) hG0 hpa
    have fl := blkT_len (pc := pc) hG0 hpa (by omega) (by decide)
    have hS : ∀ ts, Ext (startT [] 32).1 ts → (startT ts 32).1 = ts ∧ blockO ts [] pc = (ts, startZ ts 32, 0) := fun ts h => by
      obtain ⟨e1, e2⟩ := start_same h
      exact ⟨e1, by rw [blockO_nil]; exact e2⟩
    cases hob : oddL b with
    | true =>
      refine ⟨_, _, _, _, _, _, blockO_blk hoa, f1, Nat.le_trans fl (by decide), blockO_odd (by rw [oddL_append, hob, Bool.or_true]), f1, Nat.le_trans fl (by decide), Or.inr ⟨rfl, ?_, hS _ f3⟩⟩
      unfold fromO
      rw [if_neg (by rw [okX_in f2]; decide), if_pos hob]
    | false =>
      have hpb := oddL_false hob
      have hoab : oddL (a ++ b) = false := by rw [oddL_append, hoa, hob]; rfl
      have hpab := oddL_false hoab
      have hgS := startT_good hG0 32 (Nat.le_refl _)
      have e1 : blkT [] (a ++ b) pc = fromT (blkT [] a pc).1 (blkT [] a pc).2 b ((pc + 4 * a.length) % 4294967296) := fromT_append a b _ _ pc hpc
      have e2 : blkT (blkT [] a pc).1 (a ++ b) pc = blkT [] (a ++ b) pc := by
        rw [e1]
        show fromT (startT (blkT [] a pc).1 32).1 (startT (blkT [] a pc).1 32).2 (a ++ b) pc = _
        rw [startT_again 32 f3]
        dsimp only
        rw [fromT_append _ _ _ _ _ hpc, fromT_again f1 a _ _ pc pc hgS (startT_in []) hpa (Or.inl rfl) (Ext.refl _)]
        rfl
      obtain ⟨g1, g2, g3⟩ := blkT_ok (pc := pc) hG0 hpab
      have gl := blkT_len (pc := pc) hG0 hpab (by rw [List.length_append]; omega) (by decide)
      have hE : Ext (blkT [] a pc).1 (blkT [] (a ++ b) pc).1 := by rw [e1]; exact (fromT_ok b _ _ _ f1 f2 hpb).2.2
      have e3 := fromT_again g1 b (blkT [] a pc).1 (blkT [] a pc).2 ((pc + 4 * a.length) % 4294967296) ((pc + 4 * a.length) % 4294967296) f1 f2 hpb (Or.inl rfl) (by rw [← e1]; exact Ext.refl _)
      refine ⟨_, _, _, _, _, _, blockO_blk hoa, f1, Nat.le_trans fl (by decide), blockO_blk hoab, by rw [e2]; exact g1, by rw [e2]; exact Nat.le_trans gl (by decide), Or.inr ⟨rfl, ?_, by rw [e2]; exact hS _ g3⟩⟩
      rw [e2, fromO_ok (okX_in (f2.ext hE)) hob, toN_cast, e3, ← e1]
end Go.Proofs.YtaiggfknighhgaaDoor
