/- How many terms a Dag has. -/
import Derived.Test.YtgnahjadjgjecaaGreatTTerm
set_option linter.unusedVariables false
set_option linter.unusedSimpArgs false
namespace Go.Proofs.YtgnahjadjgjecaaGreat
open Go.RowKit Go.Maps Go.MapKept
set_option maxRecDepth 100000 in
theorem len_any (K : Nat → Prop) (b : Nat) (ts : List Term) (w : World) (h : DagAt K w b ts) :
    Calls Tryz.prog 21 #[.pointer (some ⟨b, 0, none⟩)] w fun r w' =>
      r = .returned (.int .i64 (ts.length : Int)) ∧ w = w' := by
  obtain ⟨vl, c0, hs⟩ := h.list
  obtain ⟨A, c, rfl, q1, q2, q3⟩ := hs.open_
  go_enter Tryz.func21, Tryz.ntmps21
  go_wp2_with fail
  go_ret
  exact ⟨rfl, rfl⟩
end Go.Proofs.YtgnahjadjgjecaaGreat
