/- Slices of rows of k cells: append of a whole slice. -/
import Derived.Test.YtekleoccdockhaaDoorRowN
set_option linter.unusedVariables false
set_option linter.unusedSimpArgs false
namespace Go.Proofs.YtekleoccdockhaaDoor
open Go.RowKit

section
variable {P : Program} {ops : Array Oper} {rest : List Oper} {o : Oper} {a : Act} {Q : Exit → Act → World → Prop}
theorem flat_one {α : Type} {k : Nat} {enc : α → List Value} (E : EncN k enc) (ys : List α) : ∀ u ∈ ys.flatMap enc, u.oneCell' = true := by
  intro u hu
  obtain ⟨x, _, hx⟩ := List.mem_flatMap.1 hu
  exact E.one x u hx
theorem wp_appN {α : Type} {k : Nat} {enc : α → List Value} (E : EncN k enc) {K : Act → World → Prop} {w0 W : World} (B : Nat) (s x : Operand) (t e : TypeId) (z : Value) (bytes : Nat)
    (ho : o.op = .call { callee := .builtin .append, args := #[s, x], argTypes := #[t, t] }) (ht : P.underlying t = some (.slice e)) (hinfo : (P.info? e).map (fun i => (i.zero, i.size, i.bytes)) = some (some z, k, bytes)) (hz : z.cells.size = k) (hb0 : 0 < bytes)
    {v : Value} {xs ys : List α} {B' e' : Nat} {y : Value} (HO : OwnN B e k enc W v xs) (hy : SlN B' e' k enc W y ys) (hs : a.eval s = v) (hx : a.eval x = y) (HB : Below B w0 W) (hbase : B ≤ W.heap.size) (hl : (xs.length + ys.length) * bytes ≤ 140737488355328)
    (h : ∀ v1 w1, OwnN B e k enc w1 v1 (xs ++ ys) → Below B w0 w1 → W.grownBy w1 v.ownBlock → (v1.ownBlock = v.ownBlock ∨ ∃ g, v1.ownBlock = some g ∧ W.heap.size ≤ g) → K (a.put o.dst v1) w1) :
    o.wp P a W K Q := by
  obtain ⟨i0, hi, hzz⟩ := Option.map_eq_some_iff.1 hinfo
  simp only [Prod.mk.injEq] at hzz
  obtain ⟨hz0, hz1, hz2⟩ := hzz
  obtain ⟨A, c, rfl, c1, c2, c3, c4⟩ := hy
  have hlen : xs.length + ys.length ≤ 140737488355328 := Nat.le_trans (Nat.le_mul_of_pos_right _ hb0) hl
  cases A with
  | none =>
    have hc0 := c3 rfl
    subst hc0
    have hys : ys = [] := List.eq_nil_of_length_eq_zero (by omega)
    subst hys
    have hrun := run_append_owned_none (P := P) W B t o.type e i0 k ht hi v xs.length (xs.flatMap enc) HO
    unfold Oper.wp
    simp [execOp, ho, resolve, invoke, builtin, hs, hx, hrun, Result.andThen]
    exact h v W (by simpa using HO) HB (World.grownBy.refl _ _) (Or.inl rfl)
  | some ad =>
    have hnews : ∀ j u, (ys.flatMap enc)[j]? = some u → W.cell? (ad.add j) = some u := by
      intro j u hj
      have hjl := (List.getElem?_eq_some_iff.1 hj).1
      rw [flat_len E] at hjl
      have hk := E.pos
      have hq : j / k < ys.length := (Nat.div_lt_iff_lt_mul hk).2 hjl
      obtain ⟨b, off, e1, _, _, hc⟩ := c4 (Nat.lt_of_le_of_lt (Nat.zero_le _) hq)
      injection e1 with e1
      subst e1
      have hdm := Nat.div_add_mod j k
      have hm := Nat.mod_lt j hk
      have hf := flat_at E (xs := ys) (j := j / k) (x := ys[j / k]) (List.getElem?_eq_getElem hq) (j % k) hm
      rw [Nat.mul_comm] at hdm
      rw [hdm, hj] at hf
      have := hc (j / k) ys[j / k] (List.getElem?_eq_getElem hq) (j % k) u hf.symm
      have hadd : (⟨b, off, none⟩ : Addr).add j = ⟨b, off + j, none⟩ := by unfold Addr.add; split <;> simp_all
      rw [hadd, ← this]
      congr 2
      omega
    obtain ⟨v1, w1, hr, h2, h3, h4, h5⟩ := run_append_own_at (P := P) W B t o.type e i0 z k bytes ht hi hz0 hz1 hz2 hz E.pos v xs.length (xs.flatMap enc) HO ad ys.length c (ys.flatMap enc) (by rw [flat_len E])
      hnews (flat_one E ys) (by simp only [maxLen]; omega) hl hbase
    unfold Oper.wp execOp
    simp only [ho, resolve, invoke, builtin, Sem.run_bind, Sem.run_pure, Result.andThen_ok, List.map_toArray, List.map_cons, List.map_nil, hs, hx, hr]
    refine h v1 w1 ?_ (HO.below HB h3 hbase) h3 (h5.imp id fun e => ⟨_, e, Nat.le_refl _⟩)
    unfold OwnN
    rw [List.length_append, List.flatMap_append]
    exact h2
theorem wpList_appN {α : Type} {k : Nat} {enc : α → List Value} (E : EncN k enc) {w0 W : World} (B : Nat) (hgd : o.guard = none) (s x : Operand) (t e : TypeId) (z : Value) (bytes : Nat)
    (ho : o.op = .call { callee := .builtin .append, args := #[s, x], argTypes := #[t, t] }) (ht : P.underlying t = some (.slice e)) (hinfo : (P.info? e).map (fun i => (i.zero, i.size, i.bytes)) = some (some z, k, bytes)) (hz : z.cells.size = k) (hb0 : 0 < bytes)
    {v : Value} {xs ys : List α} {B' e' : Nat} {y : Value} (HO : OwnN B e k enc W v xs) (hy : SlN B' e' k enc W y ys) (hs : a.eval s = v) (hx : a.eval x = y) (HB : Below B w0 W) (hbase : B ≤ W.heap.size) (hl : (xs.length + ys.length) * bytes ≤ 140737488355328)
    (h : ∀ v1 w1, OwnN B e k enc w1 v1 (xs ++ ys) → Below B w0 w1 → W.grownBy w1 v.ownBlock → (v1.ownBlock = v.ownBlock ∨ ∃ g, v1.ownBlock = some g ∧ W.heap.size ≤ g) → wpList P ops Q rest (a.put o.dst v1) w1) :
    wpList P ops Q (o :: rest) a W :=
  wpList_plain hgd fun K hK => wp_appN E B s x t e z bytes ho ht hinfo hz hb0 HO hy hs hx HB hbase hl fun v1 w1 h2 h3 h4 h5 => hK _ _ (h v1 w1 h2 h3 h4 h5)
end
end Go.Proofs.YtekleoccdockhaaDoor
