/- append(s, make([]byte, k)...) where there is no room. -/
import Derived.Test.YtlpoebobfdmcmaaEPut
import Derived.Lib.AppendZerosOnto
set_option linter.unusedVariables false
set_option linter.unusedSimpArgs false
namespace Go.Proofs.Ytlpoebobfdmcmaa
open Go.RowKit

theorem zero_cells (k : Nat) : Builtin.zeroCells (Value.int .u8 0).cells k = Array.replicate k (.int .u8 0) := by
  unfold Builtin.zeroCells
  apply Array.ext
  · simp [Value.cells]
  · intro i h1 h2
    simp [Value.cells, Nat.mod_one]
section
variable {ops : Array Oper} {rest : List Oper} {o : Oper} {a : Act} {Q : Exit → Act → World → Prop}
theorem wpList_zeros {W : World} (B g : Nat) (hgd : o.guard = none) (s : Operand) (olds : List UInt8) (k : Nat)
    (ho : o.op = .call { callee := .builtin .append, args := #[s, .const (.int .i64 k)], argTypes := #[40, 3] })
    (hs : a.eval s = .slice (some ⟨g, 0, none⟩) olds.length olds.length) (hB : B ≤ W.heap.size) (h0 : 0 < k) (hk : k ≤ 1000) (hl : olds.length ≤ 1000)
    (hcells : ∀ j x, olds[j]? = some x → W.cell? ⟨g, j, none⟩ = some (.int .u8 (x.toNat : Int)))
    (h : ∀ v1 w1, Own B 5 U8 w1 v1 (olds ++ List.replicate k 0) → Below W.heap.size W w1 → wpList Try.prog ops Q rest (a.put o.dst v1) w1) :
    wpList Try.prog ops Q (o :: rest) a W := by
  obtain ⟨i0, hi, hzz⟩ := Option.map_eq_some_iff.1 info_u8
  simp only [Prod.mk.injEq] at hzz
  obtain ⟨hz0, hz1, hz2⟩ := hzz
  refine wpList_plain hgd fun K hK => ?_
  have hfirst := run_firstCells_some (P := Try.prog) W.drew i0.size olds.length ⟨g, 0, none⟩ olds.length olds.length (olds.map fun x => Value.int .u8 (x.toNat : Int)) (by simp [hz1]) (fun j v hv => by
    simp only [List.getElem?_map, Option.map_eq_some_iff] at hv
    obtain ⟨x, hx, rfl⟩ := hv
    have := hcells j x hx
    show W.cell? ((⟨g, 0, none⟩ : Addr).add j) = _
    rw [show (⟨g, 0, none⟩ : Addr).add j = ⟨g, j, none⟩ by by_cases hj : j = 0 <;> simp [Addr.add, hj]]
    exact this)
  have hr := Lib.run_append_grow_zeros (P := Try.prog) (ty := o.type) W 40 3 5 i0 (.int .u8 0) .i64 .i64 Try.underlying40 Try.underlying3 hi hz0 (some ⟨g, 0, none⟩) olds.length olds.length _ hfirst k h0 (by omega) (by omega) (by omega) (by rw [hz2]; omega) (growslice_fits (by omega) (by rw [hz2]; omega))
  rw [zero_cells, zero_cells] at hr
  have hge := grownCap_ge W (olds.length + k) olds.length 5
  have hcm : grownCap W (olds.length + k) olds.length 5 ≤ maxLen := grownCap_le_maxLen W (olds.length + k) olds.length 5 (by simp only [maxLen]; omega)
  have hown : Own B 5 U8 (W.drew.alloc (.cells ((olds.map fun x => Value.int .u8 (x.toNat : Int)).toArray ++ Array.replicate k (.int .u8 0) ++ Array.replicate (grownCap W (olds.length + k) olds.length 5 - (olds.length + k)) (.int .u8 0)) 5)) (.slice (some ⟨W.heap.size, 0, none⟩) (olds.length + k) (grownCap W (olds.length + k) olds.length 5)) (olds ++ List.replicate k 0) := by
    refine ⟨(olds.map fun x => Value.int .u8 (x.toNat : Int)) ++ List.replicate k (.int .u8 0), by simp, ⟨by simp, .inr ⟨W.heap.size, _, _, by simp, hB, heap_alloc_new W.drew _, by simpa using hge, hcm, by simp; omega, ?_⟩⟩, fun j x hx => ?_⟩
    · simp [List.take_append, List.take_replicate]
      exact List.take_of_length_le (by simp)
    · refine ⟨.int .u8 (x.toNat : Int), ?_, rfl⟩
      rw [List.getElem?_append] at hx ⊢
      simp only [List.length_map]
      split at hx
      · rename_i hlt
        rw [if_pos hlt]; simp [hx]
      · rename_i hlt
        rw [if_neg hlt]
        rw [List.getElem?_replicate] at hx ⊢
        split at hx
        · rename_i h2
          rw [if_pos h2]
          simp only [Option.some.injEq] at hx
          subst hx; rfl
        · cases hx
  have hfin := hK _ _ (h _ _ hown ((Below.refl W.heap.size W).drew.alloc (Nat.le_refl _) _))
  have hcst : a.eval (.const (.int .i64 k)) = .int .i64 k := rfl
  unfold Oper.wp execOp
  simp only [ho, resolve, invoke, builtin, Sem.run_bind, Sem.run_pure, Result.andThen_ok, List.map_toArray, List.map_cons, List.map_nil, hs, hcst, hr]
  exact hfin
end
end Go.Proofs.Ytlpoebobfdmcmaa
