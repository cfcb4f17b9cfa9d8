/- The row of the law BlastTurns: whatever is handed in, it answers true, and what was handed in stays. No condition. -/
import Derived.Test.YtgnahjadjgjecaaGreatRows
import Derived.Test.YtgnahjadjgjecaaGreatBL4W
import Derived.Test.YtgnahjadjgjecaaGreatOpenQ
import Derived.WalkKit
import Derived.ProofKit
import Derived.OpenShut
import Derived.ShutString
import Derived.ChangeOld
import Derived.Below
import Derived.SizedLaws
set_option linter.unusedVariables false
set_option linter.unusedSimpArgs false
namespace Go.Proofs.YtgnahjadjgjecaaGreat.blastTurns
open Go.ChangeShapes Go.WideShapes Go.ChangeAt Go.RowKit
theorem own : ownKnob Tryz.prog.godebug = none := by kernel_rfl
theorem laidOut : laidOutB Tryz.prog = true := by kernel_rfl
set_option maxRecDepth 100000 in
theorem lifted (os : Os) (started : os.Started) (H : Type) (enc : TypeId × Value → H) :
    ReturnsInHanded {} Tryz.checked os 6 .any (Rows.blastTurnsSpec.pre6 enc Tryz.prog Tryz.f6 Rows.blastTurnsRow.domain false) (Rows.blastTurnsSpec.post enc Tryz.prog Tryz.f6 false true false false) := by
  refine returnsInHanded_of_change_sized (C := Tryz.checked) own started (by kernel_rfl) Tryz.func6
    (ChangeSpec.witness6 (enc := enc) (C := Tryz.checked) false ⟨#[], #[.agg #[.slice none 0 0, .slice none 0 0, .slice none 0 0], .agg #[.int .u32 0, .int .u32 0, .int .u32 0, .int .u32 0, .int .u32 0, .int .u32 0, .int .u32 0, .int .u32 0, .int .u32 0, .int .u32 0, .int .u32 0, .int .u32 0, .int .u32 0, .int .u32 0, .int .u32 0, .int .u32 0, .int .u32 0, .int .u32 0, .int .u32 0, .int .u32 0, .int .u32 0, .int .u32 0, .int .u32 0, .int .u32 0, .int .u32 0, .int .u32 0, .int .u32 0, .int .u32 0, .int .u32 0, .int .u32 0, .int .u32 0, .int .u32 0]], []⟩ 8 (by kernel_rfl) (by kernel_rfl) (by kernel_rfl) (by kernel_rfl)) ?_
  intro W base args ds gs before hval0 hW hcnd hsz0 _
  have hval : ∀ (j : Nat) t v, Tryz.f6.params[j]? = some t → args[j]? = some v → Value.okWide Tryz.prog W .any base t v := hval0
  have hW' := hW
  obtain ⟨p, q, hA0, hV, rfl, hfz, hnd⟩ := hW
  have hA : DataW.TrodAll enc Tryz.prog W 0 (fun _ => true) true Tryz.f6.params.toList args.toList ds p := hA0
  rw [Tryz.params6] at hA hval
  obtain ⟨v0, vs0, d0, ds0, p0, q0, hargs, rfl, rfl, h0, r0⟩ := trodAll_cons hA
  obtain ⟨v1, vs1, d1, ds1, p1, q1, rfl, rfl, rfl, h1, r1⟩ := trodAll_cons r0
  obtain ⟨rfl, rfl, rfl⟩ := trodAll_nil r1
  obtain rfl : args = #[v0, v1] := by cases args; simp_all
  obtain ⟨rfl, rfl⟩ := trodVars_none hV
  have k0 := h0
  have lt0 : ∀ x ∈ p0, x.block < W.heap.size := by obtain ⟨m, hm⟩ := k0; exact DataW.trod_lt m _ _ _ hm
  obtain ⟨c0_0, c1_0, c2_0, y0, z0, s0, m0, rfl, hd0, hp0, he0, hf0, hu0⟩ := Go.Joins.open_agg3 Tryz.underlying25 (by kernel_rfl) cells_query (hval 0 25 v0 rfl rfl) h0
  obtain ⟨sl0, xs0, es0, w0, wf0⟩ := read_sops he0
  obtain ⟨sa0, ax0, ea0, wa0⟩ := reads_ints _ _ _ _ _ _ _ _ _ hf0
  obtain ⟨sb0, bx0, eb0, wb0⟩ := reads_ints _ _ _ _ _ _ _ _ _ hu0
  simp only [List.cons.injEq, and_true] at es0 ea0 eb0
  subst es0 ea0 eb0
  obtain ⟨ta0, wa0⟩ := Sl.retype wa0
  obtain ⟨tb0, wb0⟩ := Sl.retype wb0
  have k1 := h1
  have lt1 : ∀ x ∈ p1, x.block < W.heap.size := by obtain ⟨m, hm⟩ := k1; exact DataW.trod_lt m _ _ _ hm
  obtain ⟨cs1, rfl, sz1⟩ := okWide_array Tryz.underlying27 (hval 1 27 v1 rfl rfl)
  obtain ⟨fu1, hf1⟩ := h1
  obtain ⟨g1, es1, wg1⟩ := read_regs hf1
  obtain rfl : cs1 = regsV g1 := by rw [← Array.toList_inj, ← es1]; rfl
  clear hA0 hval0 hsz0
  refine (blaw4_any _ _ ta0 tb0 _ _ _ xs0 ax0 bx0 wf0 g1 wg1 W w0 wa0 wb0).mono fun e W' ⟨he, bel⟩ => ?_
  subst he
  exact ⟨_, rfl, _, _, _, [], _, [], hW', trodAll_mk1 (shut_bool Tryz.underlying4 _), (trodAll_cons_mk (Below.trod laidOut (by kernel_rfl) (of_decide_eq_true (by kernel_rfl)) k0 bel lt0) (trodAll_cons_mk (Below.trod laidOut (by kernel_rfl) (of_decide_eq_true (by kernel_rfl)) k1 bel lt1) trodAll_mk0)), rfl, bel.frame _, fun h => by cases h⟩
theorem over : Rows.blastTurnsRow.holds Tryz.pinned (OpenSpec.ofChange Rows.blastTurnsSpec) :=
  OpenClaim.holds_of_wide 6 Tryz.f6 rfl rfl rfl rfl rfl rfl rfl ⟨rfl, rfl, rfl, rfl, rfl⟩ rfl rfl rfl rfl rfl (by kernel_rfl) Tryz.func6 (by kernel_rfl)
    (of_decide_eq_true (by kernel_rfl)) (by unfold Func.isWrapper; first | (rw [if_pos (by decide +kernel)]; kernel_rfl) | (rw [if_neg (by decide +kernel)]; exact ⟨rfl, rfl⟩))
    (fun os started H enc _ => lifted os started H enc)
theorem proved : Rows.BlastTurnsSaid := over
end Go.Proofs.YtgnahjadjgjecaaGreat.blastTurns
namespace Go.Proofs.YtgnahjadjgjecaaGreat
theorem blastTurns_holds : Rows.BlastTurnsSaid := blastTurns.proved
#print axioms blastTurns_holds
end Go.Proofs.YtgnahjadjgjecaaGreat
