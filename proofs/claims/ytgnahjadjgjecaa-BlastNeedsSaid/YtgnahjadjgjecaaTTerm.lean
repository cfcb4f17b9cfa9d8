/- term: New, Const, Var, is, Len, Node, Op. -/
import Derived.Test.YtgnahjadjgjecaaTNumber
import Derived.Test.YtgnahjadjgjecaaTWord
import Derived.Deep.QuietTactic
set_option linter.unusedVariables false
set_option linter.unusedSimpArgs false
namespace Go.Proofs.Ytgnahjadjgjecaa
open Go.RowKit Go.Maps Go.MapKept

def inR (n : Int) (len : Nat) : Bool := decide (0 ≤ n) && decide (n < len)
theorem inR_nat {n : Int} {len : Nat} (h : inR n len = true) : ∃ k : Nat, n = k ∧ k < len := by
  unfold inR at h
  simp only [Bool.and_eq_true, decide_eq_true_eq] at h
  exact ⟨n.toNat, by omega, by omega⟩
theorem inR_cast {k len : Nat} (h : k < len) : inR (k : Int) len = true := by unfold inR; simp; omega
theorem inR_not {n : Int} {len : Nat} (h : inR n len = false) : n < 0 ∨ (len : Int) ≤ n := by
  unfold inR at h
  simp only [Bool.and_eq_false_iff, decide_eq_false_iff_not] at h
  omega
theorem Kept.alloc (K : Nat → Prop) (w : World) (o : Obj) : Kept K w (w.alloc o) := Kept.below ((Below.refl _ _).alloc (Nat.le_refl _) _)
set_option maxRecDepth 100000 in
theorem new_any (K : Nat → Prop) (w : World) (hK : ∀ i, K i → i < w.heap.size) :
    Calls Try.prog 15 #[] w fun r w' => r = .returned (.pointer (some ⟨w.heap.size, 0, none⟩)) ∧ DagAt K w' w.heap.size [] ∧ Below w.heap.size w w' := by
  go_enter Try.func15, Try.ntmps15
  go_wp2_with fail
  go_ret
  refine ⟨rfl, ⟨⟨.slice none 0 0, 0, .map none, ?_, OwnN.nil _ _ _, fun g hg => by simp [Value.ownBlock] at hg, fun h => by have := hK _ h; omega, Or.inl ⟨rfl, rfl⟩, fun i hi => ?_, by simp, by simp⟩⟩, ?_⟩
  · exact blk_new w _
  · have := hK i hi; simp; omega
  · exact (Below.refl _ _).alloc (Nat.le_refl _) _
set_option maxRecDepth 100000 in
theorem const_any (K : Nat → Prop) (b v : Nat) (ts : List Term) (hv : v < 4294967296) (hl : ts.length < 1000000000000) (w : World) (h : DagAt K w b ts) :
    Calls Try.prog 26 #[.pointer (some ⟨b, 0, none⟩), .int .u32 v] w fun r w' =>
      r = .returned (.int .i64 (pos ts (constT v) : Nat)) ∧ DagAt K w' b (ins ts (constT v)) ∧ Kept K w w' := by
  have hw : (⟨0, v, 0, 0, 0⟩ : Term).WF := ⟨by show (0:Nat) < _; omega, hv, by show (0:Nat) < _; omega, by show (0:Nat) < _; omega, by show (0:Nat) < _; omega⟩
  have hn : Calls Try.prog 34 #[.pointer (some ⟨b, 0, none⟩), .agg #[.int .i64 0, .int .u32 v, .int .i64 0, .int .i64 0, .int .i64 0]] w fun r w' =>
      r = .returned (.int .i64 (pos ts (constT v) : Nat)) ∧ DagAt K w' b (ins ts (constT v)) ∧ Kept K w w' := number_any K b 0 v 0 0 0 ts hw hl w h
  go_enter Try.func26, Try.ntmps26
  go_wp2_with fail
  refine hn.mono ?_
  rintro r w1 ⟨rfl, h1, h2⟩
  go_wp2_with fail
  go_ret
  exact ⟨rfl, h1, h2⟩
set_option maxRecDepth 100000 in
theorem is_any (K : Nat → Prop) (b : Nat) (n : Int) (ts : List Term) (hl : ts.length < 1000000000000) (w : World) (h : DagAt K w b ts) :
    Calls Try.prog 35 #[.pointer (some ⟨b, 0, none⟩), .int .i64 n] w fun r w' =>
      r = .returned (.bool (inR n ts.length)) ∧ w = w' := by
  obtain ⟨vl, c0, hs⟩ := h.list
  obtain ⟨A, c, rfl, q1, q2, q3⟩ := hs.open_
  have e : inR n ts.length = (decide (0 ≤ n) && decide (n < ts.length)) := rfl
  go_enter Try.func35, Try.ntmps35
  go_wp2_with fail
  · go_ret
    refine ⟨?_, rfl⟩
    have h0 : 0 ≤ n := by assumption
    simp [inR, h0]
  · go_ret
    refine ⟨?_, rfl⟩
    have h0 : n < 0 := by omega
    have h1 : ¬ 0 ≤ n := by omega
    simp [h1]
theorem node_fields (t : Term) : (Value.agg #[.int .i64 t.k, .int .u32 t.v, .int .i64 t.op, .int .i64 t.a, .int .i64 t.b]) = .agg t.five.toArray := rfl
def tv (t : Term) : Value := .agg #[.int .i64 (t.k : Int), .int .u32 (t.v : Int), .int .i64 (t.op : Int), .int .i64 (t.a : Int), .int .i64 (t.b : Int)]
set_option maxRecDepth 100000 in
theorem node_any (K : Nat → Prop) (b n : Nat) (ts : List Term) (hl : ts.length < 1000000000000) (hn : n < ts.length) (w : World) (h : DagAt K w b ts) :
    Calls Try.prog 29 #[.pointer (some ⟨b, 0, none⟩), .int .i64 n] w fun r w' =>
      r = .returned (.tuple #[tv (ts.getD n default), .int .i64 0]) ∧ Below w.heap.size w w' := by
  have hal := (Below.refl w.heap.size w).alloc (Nat.le_refl _) (.cells #[.int .i64 0, .int .u32 0, .int .i64 0, .int .i64 0, .int .i64 0] 82)
  have h' := h.below hal
  have hnew := blk_new w (.cells #[.int .i64 0, .int .u32 0, .int .i64 0, .int .i64 0, .int .i64 0] 82)
  have z := five_cells hnew
  obtain ⟨z0, z1, z2, z3, z4⟩ := z
  obtain ⟨vl, c0, hs⟩ := h'.list
  obtain ⟨A, c, rfl, q1, q2, q3⟩ := hs.open_
  obtain ⟨bb, off, rfl, hat, hlt⟩ := hs.at_ hn
  have hi := inR_cast hn
  rw [show ts[n] = ts.getD n default by simp [List.getD, hn]] at hat
  generalize ts.getD n default = t at hat ⊢
  have d0 := hat 0 _ rfl
  have d1 := hat 1 _ rfl
  have d2 := hat 2 _ rfl
  have d3 := hat 3 _ rfl
  have d4 := hat 4 _ rfl
  simp only [Nat.add_zero] at d0
  have hI := is_any K b n ts hl _ h'
  rw [hi] at hI
  clear hi hat hs
  go_enter Try.func29, Try.ntmps29
  go_wp2_with fail
  refine hI.mono ?_
  rintro r w1 ⟨rfl, rfl⟩
  have hlt2 : (n : Int) < ts.length := by omega
  go_wp2_with fail
  exact bodyPost_ret (v := .tuple #[tv t, .int .i64 0]) (by simp [results, Try.results29, go_sem, tv]) rfl ⟨rfl, (Below.refl _ _).alloc (Nat.le_refl _) _⟩
set_option maxRecDepth 100000 in
theorem node_no (K : Nat → Prop) (b : Nat) (n : Int) (ts : List Term) (hl : ts.length < 1000000000000) (hn : inR n ts.length = false) (w : World) (h : DagAt K w b ts) :
    Calls Try.prog 29 #[.pointer (some ⟨b, 0, none⟩), .int .i64 n] w fun r w' =>
      r = .returned (.tuple #[tv (constT 0), .int .i64 100]) ∧ Below w.heap.size w w' := by
  have hal := (Below.refl w.heap.size w).alloc (Nat.le_refl _) (.cells #[.int .i64 0, .int .u32 0, .int .i64 0, .int .i64 0, .int .i64 0] 82)
  have h' := h.below hal
  have hI := is_any K b n ts hl _ h'
  rw [hn] at hI
  clear hn
  go_enter Try.func29, Try.ntmps29
  go_wp2_with fail
  refine hI.mono ?_
  rintro r w1 ⟨rfl, rfl⟩
  go_wp2_with fail
  exact bodyPost_ret (v := .tuple #[tv (constT 0), .int .i64 100]) (by simp [results, Try.results29, go_sem, tv, constT]) rfl ⟨rfl, ((Below.refl _ _).alloc (Nat.le_refl _) _)⟩
set_option maxRecDepth 100000 in
theorem var_no (b : Nat) (r : Int) (hr : inR r 32 = false) (w : World) :
    Calls Try.prog 16 #[.pointer (some ⟨b, 0, none⟩), .int .i64 r] w fun e w' => e = .returned (.tuple #[.int .i64 0, .int .i64 1]) ∧ w = w' := by
  rcases inR_not hr with h | h
  · clear hr
    go_enter Try.func16, Try.ntmps16
    go_wp2_with fail
    go_ret2
    exact ⟨rfl, rfl⟩
  · have h0 : ¬ r < 0 := by omega
    have h1 : 32 ≤ r := h
    clear hr h
    go_enter Try.func16, Try.ntmps16
    go_wp2_with fail
    go_ret2
    exact ⟨rfl, rfl⟩
/-- A register's term. -/
def varTm (r : Nat) : Term := if r = 0 then constT 0 else varT r
set_option maxRecDepth 100000 in
theorem var_any (K : Nat → Prop) (b r : Nat) (ts : List Term) (hr : r < 32) (hl : ts.length < 1000000000000) (w : World) (h : DagAt K w b ts) :
    Calls Try.prog 16 #[.pointer (some ⟨b, 0, none⟩), .int .i64 r] w fun e w' =>
      e = .returned (.tuple #[.int .i64 (pos ts (varTm r) : Nat), .int .i64 0]) ∧ DagAt K w' b (ins ts (varTm r)) ∧ Kept K w w' := by
  by_cases h0 : r = 0
  · subst h0
    go_enter Try.func16, Try.ntmps16
    go_wp2_with fail
    refine (const_any K b 0 ts (by omega) hl w h).mono ?_
    rintro e w1 ⟨rfl, h1, h2⟩
    go_wp2_with fail
    go_ret2
    exact ⟨rfl, h1, h2⟩
  · have hw : (⟨1, r, 0, 0, 0⟩ : Term).WF := ⟨by show (1:Nat) < _; omega, by show r < _; omega, by show (0:Nat) < _; omega, by show (0:Nat) < _; omega, by show (0:Nat) < _; omega⟩
    have hn : Calls Try.prog 34 #[.pointer (some ⟨b, 0, none⟩), .agg #[.int .i64 1, .int .u32 r, .int .i64 0, .int .i64 0, .int .i64 0]] w fun e w' =>
      e = .returned (.int .i64 (pos ts (varTm r) : Nat)) ∧ DagAt K w' b (ins ts (varTm r)) ∧ Kept K w w' := by
      rw [varTm, if_neg h0]
      exact number_any K b 1 r 0 0 0 ts hw hl w h
    have hlt : 0 < (r : Int) := by omega
    have hne : ((r : Int) == 0) = false := by simp; omega
    clear hw h0
    go_enter Try.func16, Try.ntmps16
    go_wp2_with fail
    refine hn.mono ?_
    rintro e w1 ⟨rfl, h1, h2⟩
    go_wp2_with fail
    go_ret2
    exact ⟨rfl, h1, h2⟩
set_option maxRecDepth 100000 in
theorem op_no (K : Nat → Prop) (b : Nat) (op x y : Int) (ts : List Term) (hl : ts.length < 1000000000000) (hn : (inR x ts.length && inR y ts.length) = false) (w : World) (h : DagAt K w b ts) :
    Calls Try.prog 17 #[.pointer (some ⟨b, 0, none⟩), .int .i64 op, .int .i64 x, .int .i64 y] w fun e w' => e = .returned (.tuple #[.int .i64 0, .int .i64 100]) ∧ w = w' := by
  cases hx : inR x ts.length
  · have hX := is_any K b x ts hl w h
    rw [hx] at hX
    clear hn hx
    go_enter Try.func17, Try.ntmps17
    go_wp2_with fail
    refine hX.mono ?_
    rintro r w1 ⟨rfl, rfl⟩
    go_wp2_with fail
    go_ret2
    exact ⟨rfl, rfl⟩
  · rw [hx, Bool.true_and] at hn
    have hX := is_any K b x ts hl w h
    have hY := is_any K b y ts hl w h
    rw [hx] at hX
    rw [hn] at hY
    clear hn hx
    go_enter Try.func17, Try.ntmps17
    go_wp2_with fail
    refine hX.mono ?_
    rintro r w1 ⟨rfl, rfl⟩
    go_wp2_with fail
    refine hY.mono ?_
    rintro r w1 ⟨rfl, rfl⟩
    go_wp2_with fail
    go_ret2
    exact ⟨rfl, rfl⟩
set_option maxRecDepth 100000 in
theorem op_bad (K : Nat → Prop) (b : Nat) (op x y : Int) (ts : List Term) (hl : ts.length < 1000000000000) (hx : inR x ts.length = true) (hy : inR y ts.length = true) (ho : opOk op = false) (w : World) (h : DagAt K w b ts) :
    Calls Try.prog 17 #[.pointer (some ⟨b, 0, none⟩), .int .i64 op, .int .i64 x, .int .i64 y] w fun e w' => e = .returned (.tuple #[.int .i64 0, .int .i64 1]) ∧ w = w' := by
  have hX := is_any K b x ts hl w h
  have hY := is_any K b y ts hl w h
  rw [hx] at hX
  rw [hy] at hY
  have hD := do_no op ho (.int .u32 0) (.int .u32 0) w
  clear hx hy ho
  go_enter Try.func17, Try.ntmps17
  go_wp2_with fail
  refine hX.mono ?_
  rintro r w1 ⟨rfl, rfl⟩
  go_wp2_with fail
  refine hY.mono ?_
  rintro r w1 ⟨rfl, rfl⟩
  go_wp2_with fail
  refine hD.mono ?_
  rintro r w1 ⟨rfl, rfl⟩
  go_wp2_with fail
  go_ret2
  exact ⟨rfl, rfl⟩
set_option maxRecDepth 100000 in
theorem op_any (K : Nat → Prop) (b op x y : Nat) (ts : List Term) (hl : ts.length < 1000000000000) (hx : x < ts.length) (hy : y < ts.length) (ho : (doW op 0 0).isSome = true) (w : World) (h : DagAt K w b ts) :
    Calls Try.prog 17 #[.pointer (some ⟨b, 0, none⟩), .int .i64 op, .int .i64 x, .int .i64 y] w fun e w' =>
      e = .returned (.tuple #[.int .i64 (pos ts (opT op x y) : Nat), .int .i64 0]) ∧ DagAt K w' b (ins ts (opT op x y)) ∧ Kept K w w' := by
  have hX := is_any K b x ts hl w h
  have hY := is_any K b y ts hl w h
  rw [inR_cast hx] at hX
  rw [inR_cast hy] at hY
  have hD : Calls Try.prog 36 #[.int .i64 op, .int .u32 0, .int .u32 0] w fun r w' => r = .returned (.tuple #[.int .u32 (((doW op 0 0).getD 0 : Nat) : Int), .int .i64 0]) ∧ w = w' := do_any op ho 0 0 (by omega) (by omega) w
  have hol := op_lt ho
  have hw : (⟨2, 0, op, x, y⟩ : Term).WF := ⟨by show (2:Nat) < _; omega, by show (0:Nat) < _; omega, by show op < _; omega, by show x < _; omega, by show y < _; omega⟩
  have hn : Calls Try.prog 34 #[.pointer (some ⟨b, 0, none⟩), .agg #[.int .i64 2, .int .u32 0, .int .i64 op, .int .i64 x, .int .i64 y]] w fun e w' =>
      e = .returned (.int .i64 (pos ts (opT op x y) : Nat)) ∧ DagAt K w' b (ins ts (opT op x y)) ∧ Kept K w w' := number_any K b 2 0 op x y ts hw hl w h
  clear hw ho hol
  go_enter Try.func17, Try.ntmps17
  go_wp2_with fail
  refine hX.mono ?_
  rintro r w1 ⟨rfl, rfl⟩
  go_wp2_with fail
  refine hY.mono ?_
  rintro r w1 ⟨rfl, rfl⟩
  go_wp2_with fail
  refine hD.mono ?_
  rintro r w1 ⟨rfl, rfl⟩
  go_wp2_with fail
  refine hn.mono ?_
  rintro r w1 ⟨rfl, h1, h2⟩
  go_wp2_with fail
  go_ret2
  exact ⟨rfl, h1, h2⟩
end Go.Proofs.Ytgnahjadjgjecaa
