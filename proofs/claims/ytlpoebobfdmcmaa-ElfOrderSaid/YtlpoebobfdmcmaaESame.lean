/- same. -/
import Derived.Test.YtlpoebobfdmcmaaEMust
set_option linter.unusedVariables false
set_option linter.unusedSimpArgs false
namespace Go.Proofs.Ytlpoebobfdmcmaa
open Go.RowKit

set_option maxRecDepth 100000 in
theorem same_any (s : ByteArray) (at_ n want : Nat) (w : World) (hn : n ≤ 4) (hs : s.size ≤ maxLen) (h : at_ + n ≤ s.size) :
    Calls Try.prog 25 #[.string s, .int .i64 at_, .int .i64 n, .int .i64 want] w fun r w' => w = w' ∧ ((num (toL s) at_ n = want ∧ r = .returned (.tuple #[])) ∨ (num (toL s) at_ n ≠ want ∧ r = .panicked [{ v := oddOf 61, recovered := false }])) := by
  have hnum := num_ok s at_ n w hn hs h
  generalize num (toL s) at_ n = q at hnum
  by_cases hq : q = want
  · have d : ((q : Int) == (want : Int)) = true := by rw [hq]; simp
    have hq2 := Lib.hid hq
    clear hq
    go_enter Try.func25, Try.ntmps25
    go_wp2_with (first | (go_at_call 26; refine hnum.mono ?_; rintro r w1 ⟨rfl, hw⟩; subst hw) | (go_at_call 22; refine (must_any _ _ _).mono ?_; rintro r w1 ⟨rfl, ⟨hm, rfl⟩ | ⟨hm, rfl⟩⟩ <;> first | exact absurd hm (by decide) | skip) | fail)
    go_end0
    exact ⟨rfl, Or.inl ⟨hq2.out, rfl⟩⟩
  · have d : ((q : Int) == (want : Int)) = false := by simp; omega
    have hq2 := Lib.hid hq
    clear hq
    go_enter Try.func25, Try.ntmps25
    go_wp2_with (first | (go_at_call 26; refine hnum.mono ?_; rintro r w1 ⟨rfl, hw⟩; subst hw) | (go_at_call 22; refine (must_any _ _ _).mono ?_; rintro r w1 ⟨rfl, ⟨hm, rfl⟩ | ⟨hm, rfl⟩⟩ <;> first | exact absurd hm (by decide) | skip) | fail)
    simp [bodyPost]
    exact hq2.out
end Go.Proofs.Ytlpoebobfdmcmaa
