/- term: calls at known terms. -/
import Derived.Test.YtgnahjadjgjecaaTTerm
set_option linter.unusedVariables false
set_option linter.unusedSimpArgs false
namespace Go.Proofs.Ytgnahjadjgjecaa
open Go.RowKit Go.Maps Go.MapKept

theorem Kept.then_below {K : Nat → Prop} {w w1 w2 : World} (h : Kept K w w1) (k : Below w1.heap.size w1 w2) : Kept K w w2 := h.trans (Kept.below k)
theorem Kept.then_alloc {K : Nat → Prop} {w w1 : World} (h : Kept K w w1) (o : Obj) : Kept K w (w1.alloc o) := h.trans (Kept.alloc _ _ _)
def goodTB (i : Nat) (t : Term) : Bool := (decide (t = constT t.v) && decide (t.v < 4294967296)) || (decide (t = varT t.v) && decide (1 ≤ t.v) && decide (t.v < 32)) || (decide (t = opT t.op t.a t.b) && (doW t.op 0 0).isSome && decide (t.a < i) && decide (t.b < i))
def goodB (ts : List Term) : Bool := (List.range ts.length).all fun i => goodTB i (ts.getD i default)
theorem good_of {ts : List Term} (h : goodB ts = true) : Good ts := by
  refine ⟨fun i t ht => ?_⟩
  obtain ⟨hi, he⟩ := List.getElem?_eq_some_iff.1 ht
  have h2 := (List.all_eq_true.1 h) i (List.mem_range.2 hi)
  rw [show ts.getD i default = t by rw [List.getD_eq_getElem?_getD, ht]; rfl] at h2
  unfold goodTB at h2
  simp only [Bool.or_eq_true, Bool.and_eq_true, decide_eq_true_eq] at h2
  rcases h2 with (⟨e, hv⟩ | ⟨⟨e, h1⟩, h32⟩) | ⟨⟨⟨e, ho⟩, ha⟩, hb⟩
  · exact Or.inl ⟨t.v, hv, e⟩
  · exact Or.inr (Or.inl ⟨t.v, h1, h32, e⟩)
  · exact Or.inr (Or.inr ⟨t.op, t.a, t.b, ho, ha, hb, e⟩)
theorem const_lit (K : Nat → Prop) (b : Nat) (ts ts' : List Term) (v' n' : Nat) (v n : Int) (hv : v = v') (hn : n = n') (hlt : v' < 4294967296) (hl : ts.length < 1000000000000) (hi : ins ts (constT v') = ts') (hp : pos ts (constT v') = n') (w : World) (h : DagAt K w b ts) :
    Calls Try.prog 26 #[.pointer (some ⟨b, 0, none⟩), .int .u32 v] w fun r w' => r = .returned (.int .i64 n) ∧ DagAt K w' b ts' ∧ Kept K w w' := by
  subst hv hn hi hp
  exact const_any K b v' ts hlt hl w h
theorem var_lit (K : Nat → Prop) (b : Nat) (ts ts' : List Term) (r' n' : Nat) (r n : Int) (hr : r = r') (hn : n = n') (hlt : r' < 32) (hl : ts.length < 1000000000000) (hi : ins ts (varTm r') = ts') (hp : pos ts (varTm r') = n') (w : World) (h : DagAt K w b ts) :
    Calls Try.prog 16 #[.pointer (some ⟨b, 0, none⟩), .int .i64 r] w fun e w' => e = .returned (.tuple #[.int .i64 n, .int .i64 0]) ∧ DagAt K w' b ts' ∧ Kept K w w' := by
  subst hr hn hi hp
  exact var_any K b r' ts hlt hl w h
theorem op_lit (K : Nat → Prop) (b : Nat) (ts ts' : List Term) (o' x' y' n' : Nat) (o x y n : Int) (hoo : o = o') (hxx : x = x') (hyy : y = y') (hn : n = n') (hl : ts.length < 1000000000000) (hx : x' < ts.length) (hy : y' < ts.length) (ho : (doW o' 0 0).isSome = true)
    (hi : ins ts (opT o' x' y') = ts') (hp : pos ts (opT o' x' y') = n') (w : World) (h : DagAt K w b ts) :
    Calls Try.prog 17 #[.pointer (some ⟨b, 0, none⟩), .int .i64 o, .int .i64 x, .int .i64 y] w fun e w' => e = .returned (.tuple #[.int .i64 n, .int .i64 0]) ∧ DagAt K w' b ts' ∧ Kept K w w' := by
  subst hoo hxx hyy hn hi hp
  exact op_any K b o' x' y' ts hl hx hy ho w h
theorem node_lit (K : Nat → Prop) (b : Nat) (ts : List Term) (n' k v o x y : Nat) (n k2 v2 o2 x2 y2 : Int) (hn : n = n') (hl : ts.length < 1000000000000) (hlt : n' < ts.length) (ht : ts.getD n' default = ⟨k, v, o, x, y⟩) (e1 : k2 = k) (e2 : v2 = v) (e3 : o2 = o) (e4 : x2 = x) (e5 : y2 = y) (w : World) (h : DagAt K w b ts) :
    Calls Try.prog 29 #[.pointer (some ⟨b, 0, none⟩), .int .i64 n] w fun r w' => r = .returned (.tuple #[.agg #[.int .i64 k2, .int .u32 v2, .int .i64 o2, .int .i64 x2, .int .i64 y2], .int .i64 0]) ∧ Below w.heap.size w w' := by
  subst hn e1 e2 e3 e4 e5
  have := node_any K b n' ts hl hlt w h
  rw [ht] at this
  exact this
theorem below_kept {w w' : World} (h : Kept (fun i => i < w.heap.size) w w') : Below w.heap.size w w' := ⟨h.os, h.tape, h.output, h.size, fun i hi => h.block i hi hi⟩
end Go.Proofs.Ytgnahjadjgjecaa
