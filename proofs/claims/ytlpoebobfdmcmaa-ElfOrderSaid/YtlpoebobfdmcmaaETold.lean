/- told: what a deferred call makes of a panic. -/
import Derived.Test.YtlpoebobfdmcmaaEMust
import Derived.Laws.Pointers
set_option linter.unusedVariables false
set_option linter.unusedSimpArgs false
namespace Go.Proofs.Ytlpoebobfdmcmaa
open Go.RowKit

theorem odd_assert (v : Value) (w : World) : (Instr.typeAssert (Value.iface 60 v) 20 60 true).run Try.prog w = .ok (.tuple #[v, .bool true]) w := by kernel_rfl
set_option maxRecDepth 100000 in
set_option maxHeartbeats 800000 in
theorem told_panicking (b : Nat) (t : TypeId) (x e : Int) (older : List PanicEntry) (w : World) (hblk : w.heap[b]? = some (.cells #[.int .i64 x] t (0, 0))) :
    CallsD Try.prog 21 #[.pointer (some ⟨b, 0, none⟩)] (.panicking ({ v := oddOf e, recovered := false } :: older)) w fun r u' w' =>
      r = .returned (.tuple #[]) ∧ u' = .panicking ({ v := oddOf e, recovered := true } :: older) ∧ ∃ w1, Below w.heap.size w w1 ∧ w1.heap[b]? = some (.cells #[.int .i64 x] t (0, 0)) ∧ w' = w1.setCell ⟨b, 0, none⟩ (.int .i64 e) := by
  unfold oddOf
  have hb2 := blk_alloc hblk (.cells #[.int .i64 e] 60)
  have hc := cell_of hb2 0
  simp only [List.getElem?_toArray, List.getElem?_cons_zero] at hc
  have hz := frozen_of hb2 0
  have hta := odd_assert
  refine callsD_of_wpS Try.func21 rfl fun c₀ cs hu => ?_
  rw [show (#[Value.pointer (some ⟨b, 0, none⟩)] ++ Array.replicate (Try.f21.ntmps - #[Value.pointer (some ⟨b, 0, none⟩)].size) undef) = #[.pointer (some ⟨b, 0, none⟩), undef, undef, undef, undef, undef, undef, undef, undef, undef, undef, undef, undef, undef, undef] by rw [Try.ntmps21]; rfl]
  apply wpS_seq
  apply wpS_region
  simp [wpOpsS, go_sem, recoverD, hu, Try.ntmps21, Exit.thenS]
  refine wpS_of_wp ?_
  go_wp2
  cases c₀
  simp only at hu
  subst hu
  simp only [bodyPostS, results, Try.results21]
  refine ⟨trivial, _, rfl, .tuple #[], by simp [go_sem], rfl, rfl, _, (Below.refl _ _).alloc (Nat.le_refl _) _, hb2, rfl⟩
theorem told_idle (p : Addr) (w : World) :
    CallsD Try.prog 21 #[.pointer (some p)] .returning w fun r u' w' => r = .returned (.tuple #[]) ∧ u' = .returning ∧ w' = w := by
  refine callsD_of_wpS Try.func21 rfl fun c₀ cs hu => ?_
  rw [show (#[Value.pointer (some p)] ++ Array.replicate (Try.f21.ntmps - #[Value.pointer (some p)].size) undef) = #[.pointer (some p), undef, undef, undef, undef, undef, undef, undef, undef, undef, undef, undef, undef, undef, undef] by rw [Try.ntmps21]; rfl]
  apply wpS_seq
  apply wpS_region
  simp [wpOpsS, go_sem, recoverD, hu, Try.ntmps21, Exit.thenS]
  refine wpS_of_wp ?_
  go_wp2
  cases c₀
  simp_all [bodyPostS, results, Try.results21]
end Go.Proofs.Ytlpoebobfdmcmaa
