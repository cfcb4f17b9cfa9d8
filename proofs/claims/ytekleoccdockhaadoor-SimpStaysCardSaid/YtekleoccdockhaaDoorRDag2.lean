/- The reference's Dag: Const, Var, Op. -/
import Derived.Test.YtekleoccdockhaaDoorRDag
set_option linter.unusedVariables false
set_option linter.unusedSimpArgs false
namespace Go.Proofs.YtekleoccdockhaaDoor
open Go.RowKit Go.Maps Go.MapKept

/-- Behind a term's making: the terms are ts', only its own blocks turned. -/
structure RAdd (w : World) (k : Nat) (vl : Value) (ts' : List Term) (w' : World) : Prop where mk_ ::
  kept : RefKept w w' k vl
  out : ∃ vl', RefAt w' k vl' ts' ∧ (vl'.ownBlock = vl.ownBlock ∨ ∃ g, vl'.ownBlock = some g ∧ w.heap.size ≤ g)
theorem RAdd.pre {w w1 w' : World} {k : Nat} {vl : Value} {ts' : List Term} (hb : Below w.heap.size w w1) (h : RAdd w1 k vl ts' w') : RAdd w k vl ts' w' := by
  obtain ⟨vl', h1, h2⟩ := h.out
  refine ⟨(Kept.below hb).trans h.kept, vl', h1, ?_⟩
  rcases h2 with h2 | ⟨g, h2, h3⟩
  · exact Or.inl h2
  · exact Or.inr ⟨g, h2, Nat.le_trans hb.size h3⟩
theorem RAdd.same {w w' : World} {k : Nat} {vl : Value} {ts : List Term} (h : RefAt w k vl ts) (hb : Below w.heap.size w w') : RAdd w k vl ts w' := ⟨Kept.below hb, vl, h.below hb, Or.inl rfl⟩
theorem constT_wf {v : Nat} (hv : v < 4294967296) : (constT v).WF := ⟨by show (0:Nat) < _; omega, hv, by show (0:Nat) < _; omega, by show (0:Nat) < _; omega, by show (0:Nat) < _; omega⟩
theorem varT_wf {r : Nat} (hr : r < 32) : (varT r).WF := ⟨by show (1:Nat) < _; omega, by show r < _; omega, by show (0:Nat) < _; omega, by show (0:Nat) < _; omega, by show (0:Nat) < _; omega⟩
theorem opT_wf {op a b : Nat} (ho : op < 45) (ha : a < 1000000000000) (hb : b < 1000000000000) : (opT op a b).WF := ⟨by show (2:Nat) < _; omega, by show (0:Nat) < _; omega, by show op < _; omega, by show a < _; omega, by show b < _; omega⟩
section
variable (k : Nat) (vl : Value) (ts : List Term) (w : World) (h : RefAt w k vl ts)
include h
theorem rconst_any (hl : ts.length < 1000000000000) (v : Nat) (hv : v < 4294967296) : Calls Tryd.prog 30 #[.pointer (some ⟨k, 0, none⟩), .int .u32 v] w fun r w' =>
      r = .returned (.int .i64 (pos ts (constT v) : Nat)) ∧ RAdd w k vl (ins ts (constT v)) w' := by
  have hA : Calls Tryd.prog 58 #[.pointer (some ⟨k, 0, none⟩), .agg #[.int .i64 0, .int .u32 v, .int .i64 0, .int .i64 0, .int .i64 0]] w fun r w' => r = .returned (.int .i64 (pos ts (constT v) : Nat)) ∧ RefKept w w' k vl ∧
      ∃ vl', RefAt w' k vl' (ins ts (constT v)) ∧ (vl'.ownBlock = vl.ownBlock ∨ ∃ g, vl'.ownBlock = some g ∧ w.heap.size ≤ g) := radd_any k (constT v) (constT_wf hv) vl ts hl w h
  go_enter Tryd.func30, Tryd.ntmps30
  go_wp2_with fail
  refine hA.mono ?_
  rintro r w1 ⟨rfl, h1, h2⟩
  go_wp2_with fail
  go_ret
  exact ⟨rfl, h1, h2⟩
set_option maxRecDepth 100000 in
theorem rvar_any (hl : ts.length < 1000000000000) (r : Nat) (hr : r < 32) : Calls Tryd.prog 50 #[.pointer (some ⟨k, 0, none⟩), .int .i64 r] w fun e w' =>
      e = .returned (.tuple #[.int .i64 (pos ts (varTm r) : Nat), .int .i64 0]) ∧ RAdd w k vl (ins ts (varTm r)) w' := by
  by_cases h0 : r = 0
  · subst h0
    have hC : Calls Tryd.prog 30 #[.pointer (some ⟨k, 0, none⟩), .int .u32 0] w fun r w' =>
      r = .returned (.int .i64 (pos ts (constT 0) : Nat)) ∧ RAdd w k vl (ins ts (constT 0)) w' := rconst_any k vl ts w h hl 0 (by omega)
    go_enter Tryd.func50, Tryd.ntmps50
    go_wp2_with fail
    refine hC.mono ?_
    rintro e w1 ⟨rfl, h1⟩
    go_wp2_with fail
    go_ret2
    exact ⟨rfl, h1⟩
  · have hA : Calls Tryd.prog 58 #[.pointer (some ⟨k, 0, none⟩), .agg #[.int .i64 1, .int .u32 r, .int .i64 0, .int .i64 0, .int .i64 0]] w fun e w' => e = .returned (.int .i64 (pos ts (varTm r) : Nat)) ∧ RefKept w w' k vl ∧
        ∃ vl', RefAt w' k vl' (ins ts (varTm r)) ∧ (vl'.ownBlock = vl.ownBlock ∨ ∃ g, vl'.ownBlock = some g ∧ w.heap.size ≤ g) := by
      rw [varTm, if_neg h0]
      exact radd_any k (varT r) (varT_wf hr) vl ts hl w h
    have hne : ((r : Int) == 0) = false := by simp; omega
    have hlt : (r : Int) ≤ 31 := by omega
    clear h0
    go_enter Tryd.func50, Tryd.ntmps50
    go_wp2_with fail
    refine hA.mono ?_
    rintro e w1 ⟨rfl, h1, h2⟩
    go_wp2_with fail
    go_ret2
    exact ⟨rfl, h1, h2⟩
set_option maxRecDepth 100000 in
theorem rop_no (op x y : Int) (hn : (inR x ts.length && inR y ts.length) = false) : Calls Tryd.prog 34 #[.pointer (some ⟨k, 0, none⟩), .int .i64 op, .int .i64 x, .int .i64 y] w fun e w' =>
      e = .returned (.tuple #[.int .i64 0, .int .i64 100]) ∧ w = w' := by
  obtain ⟨A, c, rfl, q1, q2, q3⟩ := (h.l.toSl encT 0).open_
  have c0 := one_cell h.hb
  have hcase : x < 0 ∨ (¬ x < 0 ∧ (ts.length : Int) ≤ x) ∨ (¬ x < 0 ∧ ¬ (ts.length : Int) ≤ x ∧ y < 0) ∨ (¬ x < 0 ∧ ¬ (ts.length : Int) ≤ x ∧ ¬ y < 0 ∧ (ts.length : Int) ≤ y) := by
    cases hx : inR x ts.length
    · have := inR_not hx; omega
    · rw [hx, Bool.true_and] at hn
      obtain ⟨m, rfl, hm⟩ := inR_nat hx
      have := inR_not hn
      omega
  clear hn h
  rcases hcase with h1 | ⟨h1, h2⟩ | ⟨h1, h2, h3⟩ | ⟨h1, h2, h3, h4⟩
  all_goals
    go_enter Tryd.func34, Tryd.ntmps34
    go_wp2_with fail
    go_ret2
    exact ⟨rfl, rfl⟩
set_option maxRecDepth 100000 in
theorem rop_bad (op : Int) (x y : Nat) (hx : x < ts.length) (hy : y < ts.length) (ho : opOk op = false) : Calls Tryd.prog 34 #[.pointer (some ⟨k, 0, none⟩), .int .i64 op, .int .i64 x, .int .i64 y] w fun e w' =>
      e = .returned (.tuple #[.int .i64 0, .int .i64 1]) ∧ w = w' := by
  obtain ⟨A, c, rfl, q1, q2, q3⟩ := (h.l.toSl encT 0).open_
  have c0 := one_cell h.hb
  have hD : Calls Tryd.prog 29 #[.int .i64 op, .int .u32 0, .int .u32 0] w fun r w' => r = .returned (.tuple #[.int .u32 0, .int .i64 1]) ∧ w = w' := rdo_no op ho 0 0 (by omega) (by omega) w
  have g1 : (x : Int) < ts.length := by omega
  have g2 : (y : Int) < ts.length := by omega
  clear ho h
  go_enter Tryd.func34, Tryd.ntmps34
  go_wp2_with fail
  refine hD.mono ?_
  rintro e w1 ⟨rfl, rfl⟩
  go_wp2_with fail
  go_ret2
  exact ⟨rfl, rfl⟩
set_option maxRecDepth 100000 in
theorem rop_any (hl : ts.length < 1000000000000) (op x y : Nat) (hx : x < ts.length) (hy : y < ts.length) (ho : (doW op 0 0).isSome = true) : Calls Tryd.prog 34 #[.pointer (some ⟨k, 0, none⟩), .int .i64 op, .int .i64 x, .int .i64 y] w fun e w' =>
      e = .returned (.tuple #[.int .i64 (pos ts (opT op x y) : Nat), .int .i64 0]) ∧ RAdd w k vl (ins ts (opT op x y)) w' := by
  have hD : Calls Tryd.prog 29 #[.int .i64 op, .int .u32 0, .int .u32 0] w fun r w' => r = .returned (.tuple #[.int .u32 (((doW op 0 0).getD 0 : Nat) : Int), .int .i64 0]) ∧ Below w.heap.size w w' := rdo_any op ho 0 0 (by omega) (by omega) w
  have hol := op_lt ho
  have hA : ∀ w1, RefAt w1 k vl ts → Calls Tryd.prog 58 #[.pointer (some ⟨k, 0, none⟩), .agg #[.int .i64 2, .int .u32 0, .int .i64 op, .int .i64 x, .int .i64 y]] w1 fun e w' => e = .returned (.int .i64 (pos ts (opT op x y) : Nat)) ∧ RefKept w1 w' k vl ∧
      ∃ vl', RefAt w' k vl' (ins ts (opT op x y)) ∧ (vl'.ownBlock = vl.ownBlock ∨ ∃ g, vl'.ownBlock = some g ∧ w1.heap.size ≤ g) := fun w1 h1 => radd_any k (opT op x y) (opT_wf hol (by omega) (by omega)) vl ts hl w1 h1
  obtain ⟨A, c, rfl, q1, q2, q3⟩ := (h.l.toSl encT 0).open_
  have c0 := one_cell h.hb
  have g1 : (x : Int) < ts.length := by omega
  have g2 : (y : Int) < ts.length := by omega
  clear ho hol
  go_enter Tryd.func34, Tryd.ntmps34
  go_wp2_with fail
  refine hD.mono ?_
  rintro e w1 ⟨rfl, b1⟩
  go_wp2_with fail
  refine (hA w1 (h.below b1)).mono ?_
  rintro e w2 ⟨rfl, h1, h2⟩
  go_wp2_with fail
  go_ret2
  exact ⟨rfl, RAdd.pre b1 ⟨h1, h2⟩⟩
end
theorem rvar_no (k : Nat) (r : Int) (hr : inR r 32 = false) (w : World) :
    Calls Tryd.prog 50 #[.pointer (some ⟨k, 0, none⟩), .int .i64 r] w fun e w' => e = .returned (.tuple #[.int .i64 0, .int .i64 1]) ∧ w = w' := by
  rcases inR_not hr with h | h
  · clear hr
    go_enter Tryd.func50, Tryd.ntmps50
    go_wp2_with fail
    go_ret2
    exact ⟨rfl, rfl⟩
  · have h0 : ¬ r < 0 := by omega
    have h1 : 31 < r := by omega
    clear hr h
    go_enter Tryd.func50, Tryd.ntmps50
    go_wp2_with fail
    go_ret2
    exact ⟨rfl, rfl⟩
end Go.Proofs.YtekleoccdockhaaDoor
