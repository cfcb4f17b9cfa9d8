/- Regions that draw their order, walked by hand with values written down: a call, a store, an alloc. -/
import Derived.Deep.MidRow
import Derived.Deep.CutRange
import Derived.Laws.Tables
set_option linter.unusedVariables false
set_option linter.unusedSimpArgs false
namespace Go.Proofs.Ytgnahjadjgjecaa
theorem ite_yes {c : Prop} [Decidable c] {a b : Prop} (h : c) (ha : a) : if c then a else b := by rw [if_pos h]; exact ha
theorem wpOp_call {P : Program} {ops : Array Oper} {Q : Exit → Act → World → Prop} {i : Nat} {oi : Oper} {f : FuncId} {args : Array Value} {K : Act → World → Prop} {a : Act} {w : World} (d : Option Tmp) (hi : ops[i]? = some oi) (hd : oi.dst = d)
    (hw : Region.wanted oi (yielded ops a.tmps) = true) (he : (execOp a.eval oi).run P w = .ok (.enter f args) w) (h : Calls P f args w fun e w' => ∃ u, e = .returned u ∧ K (a.put d u) w') : wpOp P ops Q i K a w := by
  subst hd
  unfold wpOp
  rw [hi]
  simp only [hw, if_true]
  left
  unfold Oper.wp
  rw [he]
  exact Calls.mono h (fun e w'' he => by obtain ⟨u, rfl, hk⟩ := he; exact hk)
theorem wpAnyH_call {P : Program} {md : Region.Mode} {ops : Array Oper} {Q : Exit → Act → World → Prop} {S : World → Prop} {i : Nat} {oi : Oper} {f : FuncId} {args : Array Value} {fuel : Nat} {listed : Array Bool} {a : Act} {w : World} (d : Option Tmp) (hi : ops[i]? = some oi) (hd : oi.dst = d)
    (hr : Region.ready md ops listed = [i]) (hw : Region.wanted oi (yielded ops a.tmps) = true) (he : (execOp a.eval oi).run P w = .ok (.enter f args) w)
    (h : Calls P f args w fun e w' => ∃ u, e = .returned u ∧ S w' ∧ wpAnyH P md ops Q S fuel (listed.setIfInBounds i true) (a.put d u) w') : wpAnyH P md ops Q S (fuel + 1) listed a w := by
  refine wpAnyH_all hr (by simp) fun j hj => ?_
  obtain rfl : j = i := by simpa using hj
  exact wpOp_call d hi hd hw he h
theorem wpOp_ok {P : Program} {ops : Array Oper} {Q : Exit → Act → World → Prop} {i : Nat} {oi : Oper} {v : Value} {K : Act → World → Prop} {a : Act} {w w' : World} (d : Option Tmp) (hi : ops[i]? = some oi) (hd : oi.dst = d)
    (hw : Region.wanted oi (yielded ops a.tmps) = true) (he : (execOp a.eval oi).run P w = .ok (.value v) w') (h : K (a.put d v) w') : wpOp P ops Q i K a w := by
  subst hd
  unfold wpOp
  rw [hi]
  simp only [hw, if_true]
  left
  unfold Oper.wp
  rw [he]
  exact h
theorem wpOp_none {P : Program} {ops : Array Oper} {Q : Exit → Act → World → Prop} {i : Nat} {oi : Oper} {K : Act → World → Prop} {a : Act} {w w' : World} (d : Option Tmp) (hi : ops[i]? = some oi) (hd : oi.dst = d)
    (hw : Region.wanted oi (yielded ops a.tmps) = true) (he : (execOp a.eval oi).run P w = .ok .skip w') (h : K (a.put d undef) w') : wpOp P ops Q i K a w := by
  subst hd
  unfold wpOp
  rw [hi]
  simp only [hw, if_true]
  left
  unfold Oper.wp
  rw [he]
  exact h
theorem wpAnyH_val {P : Program} {md : Region.Mode} {ops : Array Oper} {Q : Exit → Act → World → Prop} {S : World → Prop} {i : Nat} {oi : Oper} {v : Value} {fuel : Nat} {listed : Array Bool} {a : Act} {w : World} (d : Option Tmp) (hi : ops[i]? = some oi) (hd : oi.dst = d)
    (hs : Region.noSelect ops = true) (hf : Region.free md ops listed i = true) (hr : (Region.ready md ops listed).contains i = true)
    (hQ : ∀ c a w, Q (.panic c) (a.put oi.dst v) w → Q (.panic c) a w) (hy : YieldsIf P ops S oi v a) (hS : S w)
    (h : wpAnyH P md ops Q S fuel (listed.setIfInBounds i true) (a.put d v) w) : wpAnyH P md ops Q S (fuel + 1) listed a w := wpAnyH_take hi hs hf hr hQ hy hS (by rw [hd]; exact h)
theorem wpOp_store_row {P : Program} {ops : Array Oper} {Q : Exit → Act → World → Prop} {i : Nat} {oi : Oper} {K : Act → World → Prop} {a : Act} {w : World} (d : Option Tmp) (hi : ops[i]? = some oi) (hd : oi.dst = d)
    (hw : Region.wanted oi (yielded ops a.tmps) = true) (ty : TypeId) (x y : Operand) (ho : oi.op = .store ty x y) (g : Nat) (cells : Array Value) (hx : a.eval x = .pointer (some ⟨g, 0, none⟩)) (hy : a.eval y = .agg cells)
    (t : TypeId) (old : Array Value) (hg : w.heap[g]? = some (.cells old t (0, 0))) (hs : (P.info? ty).map (·.size) = some cells.size) (hold : old.size = cells.size) (h1 : cells.all (·.oneCell') = true)
    (h : K (a.put d undef) (w.setRow g cells)) : wpOp P ops Q i K a w := by
  subst hd
  unfold wpOp
  rw [hi]
  simp only [hw, if_true]
  left
  exact wp_store_row ty x y ho g cells hx hy t old hg hs hold h1 h
theorem yieldsIf_cell {P : Program} {ops : Array Oper} {S : World → Prop} {op : Oper} {a : Act} (hw : Region.wanted op (yielded ops a.tmps) = true) (ty : TypeId) (x : Operand) (ho : op.op = .load ty x)
    (b o : Nat) (hx : a.eval x = .pointer (some ⟨b, o, none⟩)) (v : Value) (hA : ∀ w, (isAgg ty).run P w = .ok false w) (hS : ∀ w, S w → w.cell? ⟨b, o, none⟩ = some v) : YieldsIf P ops S op v a :=
  .inl ⟨hw, fun w hw' => by
    have hc := hS w hw'
    have hl : (load ⟨b, o, none⟩).run P w = .ok v w := by unfold load; rw [show (Sem.load Mode.plain ⟨b, o, none⟩ Sem.pure : Sem Value) = load ⟨b, o, none⟩ from rfl, run_load, hc]
    unfold execOp
    simp only [ho, hx, Instr.loadAt, Instr.sureAddr, loadVar, Sem.run_bind, Sem.run_pure, Result.andThen_ok, hA, Bool.false_eq_true, if_false, hl]⟩
theorem range_cell {w : World} {b o i : Nat} {cs : List Value} {v : Value} (h : w.rangeAt b o cs) (hv : cs[i]? = some v) : w.cell? ⟨b, o + i, none⟩ = some v := h i v hv
theorem eq_int_exec {P : Program} {oi : Oper} {a : Act} {k : IntKind} {i j : Int} (x y : Operand) (t t2 : TypeId) (ho : oi.op = .binOp .eql t x y t2) (hx : a.eval x = .int k i) (hy : a.eval y = .int k j) (h : i = j) (w : World) : (execOp a.eval oi).run P w = .ok (.value (.bool true)) w := by
  subst h
  unfold execOp
  simp only [ho, hx, hy]
  simp [eqGuard, binOp, Op.intCmp]
end Go.Proofs.Ytgnahjadjgjecaa
