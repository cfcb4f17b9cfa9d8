/- The row of the law ElfOrder: whatever is handed in, it answers true, and what was handed in stays. No condition. -/
import Derived.Test.YtlpoebobfdmcmaaRows
import Derived.Test.YtlpoebobfdmcmaaEL5W
import Derived.Test.YtlpoebobfdmcmaaEOpen
import Derived.WalkKit
import Derived.ProofKit
import Derived.OpenShut
import Derived.ShutString
import Derived.ChangeOld
import Derived.Below
import Derived.SizedLaws
set_option linter.unusedVariables false
set_option linter.unusedSimpArgs false
namespace Go.Proofs.Ytlpoebobfdmcmaa.elfOrder
open Go.ChangeShapes Go.WideShapes Go.ChangeAt Go.RowKit
theorem own : ownKnob Try.prog.godebug = none := by kernel_rfl
theorem laidOut : laidOutB Try.prog = true := by kernel_rfl
set_option maxRecDepth 100000 in
theorem lifted (os : Os) (started : os.Started) (H : Type) (enc : TypeId × Value → H) :
    ReturnsInHanded {} Try.checked os 7 .any (Rows.elfOrderSpec.pre6 enc Try.prog Try.f7 Rows.elfOrderRow.domain false) (Rows.elfOrderSpec.post enc Try.prog Try.f7 false true false false) := by
  refine returnsInHanded_of_change_sized (C := Try.checked) own started (by kernel_rfl) Try.func7
    (ChangeSpec.witness6 (enc := enc) (C := Try.checked) false ⟨#[], #[.agg #[.int .u32 0, .int .u32 0, .slice none 0 0]], []⟩ 8 (by kernel_rfl) (by kernel_rfl) (by kernel_rfl) (by kernel_rfl)) ?_
  intro W base args ds gs before hval0 hW hcnd hsz0 _
  have hval : ∀ (j : Nat) t v, Try.f7.params[j]? = some t → args[j]? = some v → Value.okWide Try.prog W .any base t v := hval0
  have hW' := hW
  obtain ⟨p, q, hA0, hV, rfl, hfz, hnd⟩ := hW
  have hA : DataW.TrodAll enc Try.prog W 0 (fun _ => true) true Try.f7.params.toList args.toList ds p := hA0
  rw [Try.params7] at hA hval
  obtain ⟨v0, vs0, d0, ds0, p0, q0, hargs, rfl, rfl, h0, r0⟩ := trodAll_cons hA
  obtain ⟨rfl, rfl, rfl⟩ := trodAll_nil r0
  obtain rfl : args = #[v0] := by cases args; simp_all
  obtain ⟨rfl, rfl⟩ := trodVars_none hV
  have k0 := h0
  have lt0 : ∀ x ∈ p0, x.block < W.heap.size := by obtain ⟨m, hm⟩ := k0; exact DataW.trod_lt m _ _ _ hm
  obtain ⟨c0_0, c1_0, c2_0, y0, z0, s0, m0, rfl, hd0, hp0, he0, hf0, hu0⟩ := Go.Joins.open_agg3 Try.underlying25 (by kernel_rfl) cells_elf (hval 0 25 v0 rfl rfl) h0
  obtain ⟨en0, ee0, wen0⟩ := read_u32 he0
  obtain ⟨fl0, ef0, wfl0⟩ := read_u32 hf0
  obtain ⟨sl0, xs0, es0, w0⟩ := read_segs hu0
  simp only [List.cons.injEq, and_true] at ee0 ef0 es0
  subst ee0 ef0 es0
  clear hA0 hval0 hsz0
  refine (law5_any _ en0 fl0 _ xs0 W w0 wen0 wfl0).mono fun e W' ⟨he, bel⟩ => ?_
  subst he
  exact ⟨_, rfl, _, _, _, [], _, [], hW', trodAll_mk1 (shut_bool Try.underlying4 _), (trodAll_cons_mk (Below.trod laidOut (by kernel_rfl) (of_decide_eq_true (by kernel_rfl)) k0 bel lt0) trodAll_mk0), rfl, bel.frame _, fun h => by cases h⟩
theorem over : Rows.elfOrderRow.holds Try.pinned (OpenSpec.ofChange Rows.elfOrderSpec) :=
  OpenClaim.holds_of_wide 7 Try.f7 rfl rfl rfl rfl rfl rfl rfl ⟨rfl, rfl, rfl, rfl, rfl⟩ rfl rfl rfl rfl rfl (by kernel_rfl) Try.func7 (by kernel_rfl)
    (of_decide_eq_true (by kernel_rfl)) (by unfold Func.isWrapper; first | (rw [if_pos (by decide +kernel)]; kernel_rfl) | (rw [if_neg (by decide +kernel)]; exact ⟨rfl, rfl⟩))
    (fun os started H enc _ => lifted os started H enc)
theorem proved : Rows.ElfOrderSaid := over
end Go.Proofs.Ytlpoebobfdmcmaa.elfOrder
namespace Go.Proofs.Ytlpoebobfdmcmaa
theorem elfOrder_holds : Rows.ElfOrderSaid := elfOrder.proved
#print axioms elfOrder_holds
end Go.Proofs.Ytlpoebobfdmcmaa
