/- strings.HasPrefix. -/
import Derived.Test.YtlpoebobfdmcmaaEMust
import Derived.Test.YtlpoebobfdmcmaaEFile
import Derived.Lib.Strings
import Derived.Laws.Strings3
set_option linter.unusedVariables false
set_option linter.unusedSimpArgs false
namespace Go.Proofs.Ytlpoebobfdmcmaa
open Go.RowKit

set_option maxHeartbeats 1000000 in
theorem prefix_in (s p : ByteArray) (w : World) :
    Calls Try.prog 28 #[.string s, .string p] w fun e w' => e = .returned (.bool (Lib.hasPrefix s.data.toList p.data.toList)) ∧ w' = w := by
  rw [← Lib.hasPrefix_of_take, ← Lib.size_eq, ← Lib.size_eq]
  go_enter Try.func28, Try.ntmps28
  go_wp2
  · rename_i h
    go_ret
    refine ⟨?_, rfl⟩
    show Ending.returned (Value.bool ((s.extract 0 p.size).toList == p.toList)) = _
    rw [Lib.extract_toList, Lib.toList_data]
    simp [h]
  · rename_i h
    go_ret
    refine ⟨?_, rfl⟩
    show Ending.returned (Value.bool false) = _
    simp [h]
theorem prefix_any (s p : ByteArray) (w : World) :
    Calls Try.prog 24 #[.string s, .string p] w fun e w' => e = .returned (.bool (Lib.hasPrefix s.data.toList p.data.toList)) ∧ w = w' := by
  go_enter Try.func24, Try.ntmps24
  go_wp2_with (first | (go_at_call 28; refine (prefix_in _ _ _).mono ?_; rintro e w' ⟨rfl, hw⟩; rw [hw]) | fail)
  go_ret
  exact ⟨rfl, rfl⟩
theorem prefix_magic (s : ByteArray) (w : World) :
    Calls Try.prog 24 #[.string s, .string ⟨#[127, 69, 76, 70, 1, 1, 1]⟩] w fun e w' => e = .returned (.bool (decide ((toL s).take 7 = magicL))) ∧ w = w' := by
  refine (prefix_any _ _ _).mono ?_
  rintro e w' ⟨rfl, rfl⟩
  refine ⟨?_, rfl⟩
  rw [← Lib.hasPrefix_of_take]
  congr 2
  show (decide (7 ≤ s.data.toList.length) && (List.take 7 s.data.toList == magicL)) = _
  rw [Bool.eq_iff_iff]
  simp only [Bool.and_eq_true, decide_eq_true_eq, beq_iff_eq]
  constructor
  · rintro ⟨_, h⟩; exact h
  · intro h
    refine ⟨?_, h⟩
    have h2 := congrArg List.length h
    rw [List.length_take] at h2
    simp only [magicL, List.length_cons, List.length_nil] at h2
    simp only [toL] at h2
    omega
end Go.Proofs.Ytlpoebobfdmcmaa
