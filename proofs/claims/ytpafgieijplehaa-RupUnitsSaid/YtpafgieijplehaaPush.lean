/- append onto an empty slice of whatever block, without room. -/
import Derived.Test.YtpafgieijplehaaCells
set_option linter.unusedVariables false
set_option linter.unusedSimpArgs false
namespace Go.Proofs.Ytpafgieijplehaa
open Go.RowKit

/-- A slice of the call's own, or an empty one without room. -/
def Own0 {α : Type} (B : Nat) (e : TypeId) (R : Rep α) : Rep (List α) := fun w v xs => Own B e R w v xs ∨ (xs = [] ∧ ∃ b, v = .slice (some b) 0 0)
theorem Own0.toSl {α : Type} {B : Nat} {e : TypeId} {R : Rep α} {w : World} {v : Value} {xs : List α} (h : Own0 B e R w v xs) (B' : Nat) : Sl B' e R w v xs := by
  rcases h with h | ⟨rfl, b, rfl⟩
  · exact h.toSl B'
  · exact ⟨some b, 0, rfl, Nat.le_refl _, Nat.zero_le _, (fun h => by cases h), fun h => absurd h (by simp)⟩
section
variable {P : Program} {ops : Array Oper} {rest : List Oper} {o : Oper} {a : Act} {Q : Exit → Act → World → Prop}
theorem append_empty (w : World) (t ty e : TypeId) (i : TypeInfo) (z : Value) (ht : P.underlying t = some (.slice e)) (hi : P.info? e = some i) (hz : i.zero = some z)
    (b a : Addr) (n c : Nat) (news : List Value) (hl : news.length = n * i.size) (hnews : ∀ j v, news[j]? = some v → w.cell? (a.add j) = some v)
    (h0 : 0 < n) (h63 : (n : Int) ≤ 9223372036854775807) (h48 : n * i.bytes ≤ 281474976710656) :
    (Builtin.append_ #[t, t] ty #[.slice (some b) 0 0, .slice (some a) n c]).run P w = (Builtin.append_ #[t, t] ty #[.slice none 0 0, .slice (some a) n c]).run P w := by
  rw [run_append_nil w t ty e i z ht hi hz a n c news hl hnews h0 h63 h48,
    run_append_grow w t ty e i z ht hi hz b 0 0 [] (by simp) (by simp) a n c news hl hnews (by omega) (by omega) (by rw [Nat.zero_add, nextslicecap_zero h0]; omega)]
  simp
theorem wp_push0 {α : Type} {K : Act → World → Prop} {w0 W : World} (B : Nat) (s x : Operand) (t e : TypeId) (z : Value) (bytes : Nat)
    (ho : o.op = .call { callee := .builtin .append, args := #[s, x], argTypes := #[t, t] })
    (ht : P.underlying t = some (.slice e)) (hinfo : (P.info? e).map (fun i => (i.zero, i.size, i.bytes)) = some (some z, 1, bytes)) (hz : z.cells.size = 1) (hb0 : 0 < bytes)
    {R : Rep α} (T : List TypeId) {v : Value} {xs : List α} {y : Value} {y0 : α}
    (HO : Own0 B e R W v xs) (HR : Stable B T R) (he : e ∉ T) (hy : R W y y0) (hs : a.eval s = v) (hx : a.eval x = .slice (some ⟨W.heap.size, 0, none⟩) 1 1) (h1 : y.oneCell' = true) (HB : Below B w0 W) (hbase : B ≤ W.heap.size) (hl : (xs.length + 1) * bytes ≤ 140737488355328)
    (h : ∀ v1 w1, Own B e R w1 v1 (xs ++ [y0]) → Below B w0 w1 → W.grownBy w1 v.ownBlock → K (a.put o.dst v1) w1) :
    o.wp P a (W.alloc (.cells #[y] e)) K Q := by
  rcases HO with HO | ⟨rfl, b, rfl⟩
  · exact wp_push B s x t e z bytes ho ht hinfo hz hb0 T HO HR he hy hs hx h1 HB hbase hl h
  obtain ⟨i0, hi, hzz⟩ := Option.map_eq_some_iff.1 hinfo
  simp only [Prod.mk.injEq] at hzz
  obtain ⟨hz0, hz1, hz2⟩ := hzz
  have hbb : bytes ≤ 140737488355328 := by simpa using hl
  have hcell := cell_one_new W y e
  obtain ⟨v', w', hr, h2, h3, h4, h5⟩ := run_append_own_at (P := P) (W.alloc (.cells #[y] e)) B t o.type e i0 z 1 bytes ht hi hz0 hz1 hz2 hz (by omega) (.slice none 0 0) 0 [] (World.ownsRow_nil _ B e 1)
    ⟨W.heap.size, 0, none⟩ 1 1 [y] rfl hcell (by simpa using h1) (by simp [maxLen]) (by omega) (by simp; omega)
  have hg2 : W.grownBy w' none := World.grownBy.trans (World.grownBy_alloc W _ _) h3
  have hg3 : W.grownBy w' (Value.ownBlock (.slice (some b) 0 0)) := ⟨hg2.os, hg2.tape, hg2.output, hg2.size, fun k hk _ => hg2.block k hk (by simp)⟩
  have hq : Quiet B T W w' := ⟨⟨none, hg2, fun g hg => by cases hg⟩⟩
  have hk := h v' w' ⟨[y], rfl, by simpa using h2, fun k u hk => by
    cases k with
    | zero =>
      simp only [List.nil_append, List.getElem?_cons_zero, Option.some.injEq] at hk
      subst hk
      exact ⟨y, rfl, HR _ _ _ _ hq hy⟩
    | succ k => simp at hk⟩ (HB.grown hg2 hbase fun g hg => by cases hg) hg3
  unfold Oper.wp execOp
  simp only [ho, resolve, invoke, builtin, Sem.run_bind, Sem.run_pure, Result.andThen_ok, List.map_toArray, List.map_cons, List.map_nil, hs, hx]
  rw [append_empty (W.alloc (.cells #[y] e)) t o.type e i0 z ht hi hz0 b ⟨W.heap.size, 0, none⟩ 1 1 [y] (by simp [hz1]) hcell (by omega) (by omega) (by rw [hz2]; omega), hr]
  exact hk
theorem wpList_push0 {α : Type} {w0 W : World} (B : Nat) (hgd : o.guard = none) (s x : Operand) (t e : TypeId) (z : Value) (bytes : Nat)
    (ho : o.op = .call { callee := .builtin .append, args := #[s, x], argTypes := #[t, t] })
    (ht : P.underlying t = some (.slice e)) (hinfo : (P.info? e).map (fun i => (i.zero, i.size, i.bytes)) = some (some z, 1, bytes)) (hz : z.cells.size = 1) (hb0 : 0 < bytes)
    {R : Rep α} (T : List TypeId) {v : Value} {xs : List α} {y : Value} {y0 : α}
    (HO : Own0 B e R W v xs) (HR : Stable B T R) (he : e ∉ T) (hy : R W y y0) (hs : a.eval s = v) (hx : a.eval x = .slice (some ⟨W.heap.size, 0, none⟩) 1 1) (h1 : y.oneCell' = true) (HB : Below B w0 W) (hbase : B ≤ W.heap.size) (hl : (xs.length + 1) * bytes ≤ 140737488355328)
    (h : ∀ v1 w1, Own B e R w1 v1 (xs ++ [y0]) → Below B w0 w1 → W.grownBy w1 v.ownBlock → wpList P ops Q rest (a.put o.dst v1) w1) :
    wpList P ops Q (o :: rest) a (W.alloc (.cells #[y] e)) :=
  wpList_plain hgd fun K hK => wp_push0 B s x t e z bytes ho ht hinfo hz hb0 T HO HR he hy hs hx h1 HB hbase hl fun v1 w1 h2 h3 h4 => hK _ _ (h v1 w1 h2 h3 h4)
end
theorem drop_back {α : Type} {xs : List α} {k : Nat} (h : k < xs.length) (d : α) : (xs.drop k).reverse = (xs.drop (k + 1)).reverse ++ [xs.getD k d] := by rw [drop_cons h d, List.reverse_cons]
/-- A literal of the call's own. -/
theorem Own.one {α : Type} {B : Nat} {e : TypeId} {R : Rep α} {w : World} {y : Value} {x : α} {g : Nat} (hB : B ≤ w.heap.size) (hg : w.heap.size = g) (h1 : y.oneCell' = true) (hx : R (w.alloc (.cells #[y] e)) y x) : Own B e R (w.alloc (.cells #[y] e)) (.slice (some ⟨g, 0, none⟩) 1 1) [x] := by
  subst hg
  refine ⟨[y], rfl, ?_, fun k u hk => ?_⟩
  · simpa using World.ownsRow_lit (base := B) (e := e) (size := 1) w #[y] 1 hB (by simp [maxLen]) (by simp)
  · cases k with
    | zero => simp only [List.getElem?_cons_zero, Option.some.injEq] at hk; subst hk; exact ⟨y, rfl, hx⟩
    | succ k => simp at hk
end Go.Proofs.Ytpafgieijplehaa
