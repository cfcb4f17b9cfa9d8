/- append(b, s...), s a string, b of the call's own. -/
import Derived.Test.YtlpoebobfdmcmaaEPut
import Derived.Lib.AppendStr
set_option linter.unusedVariables false
set_option linter.unusedSimpArgs false
namespace Go.Proofs.Ytlpoebobfdmcmaa
open Go.RowKit
section
variable {P : Program} {ops : Array Oper} {rest : List Oper} {o : Oper} {a : Act} {Q : Exit → Act → World → Prop}
theorem step_str {K : Act → World → Prop} {E : Prop} {w0 W : World} (B : Nat) (hgd : o.guard = none) (s x : Operand) (t u e : TypeId)
    (ho : o.op = .call { callee := .builtin .append, args := #[s, x], argTypes := #[t, u] })
    (ht : P.underlying t = some (.slice e)) (hu : P.underlying u = some .string) (hinfo : (P.info? e).map (fun i => (i.zero, i.size, i.bytes)) = some (some (.int .u8 0), 1, 1))
    {v : Value} {xs : List UInt8} {d : ByteArray} (HO : Own B e U8 W v xs) (hs : a.eval s = v) (hx : a.eval x = .string d) (HB : Below B w0 W) (hbase : B ≤ W.heap.size) (hl : xs.length + d.size ≤ 140737488355328)
    (h : ∀ v1 w1, Own B e U8 w1 v1 (xs ++ d.data.toList) → Below B w0 w1 → W.grownBy w1 v.ownBlock → K (a.put o.dst v1) w1) :
    if Region.wanted o (yielded ops a.tmps) = true then o.wp P a W K Q else E := by
  rw [if_pos (by simp [Region.wanted, hgd])]
  obtain ⟨i0, hi, hzz⟩ := Option.map_eq_some_iff.1 hinfo
  simp only [Prod.mk.injEq] at hzz
  obtain ⟨hz0, hz1, hz2⟩ := hzz
  obtain ⟨vs, hv1, hv2, hv3⟩ := HO
  obtain ⟨v', w', hr, h2, h3, h4⟩ := Lib.run_append_own_string (P := P) W B t u o.type e i0 ht hu hi hz0 hz1 hz2 v xs.length vs hv2 d (by simp only [maxLen]; omega) hl hbase
  have hO : Own B e U8 w' v' (xs ++ d.data.toList) := by
    have hdl : d.data.toList.length = d.size := by simp [Array.length_toList]
    refine ⟨vs ++ Lib.strCells d, by simp [hv1, Lib.strCells_length, hdl], by rw [List.length_append, hdl]; exact h2, fun k u hk => ?_⟩
    rw [List.getElem?_append] at hk ⊢
    rw [hv1]
    split at hk
    · rename_i hlt
      rw [if_pos hlt]
      exact hv3 k u hk
    · rename_i hlt
      rw [if_neg hlt]
      exact ⟨.int .u8 u.toNat, by simp [Lib.strCells, hk], rfl⟩
  have HO : Own B e U8 W v xs := ⟨vs, hv1, hv2, hv3⟩
  unfold Oper.wp execOp
  simp only [ho, resolve, invoke, builtin, Sem.run_bind, Sem.run_pure, Result.andThen_ok, List.map_toArray, List.map_cons, List.map_nil, hs, hx, hr]
  exact h v' w' hO (HO.below HB h3 hbase) h3
end
end Go.Proofs.Ytlpoebobfdmcmaa
