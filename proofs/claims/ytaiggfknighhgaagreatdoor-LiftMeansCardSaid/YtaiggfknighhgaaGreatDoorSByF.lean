/- simp: words that are powers of two. -/
/- simp: a reckoning of a term and a word, walked case by case (written by genBW.py). -/
/- simp: a reckoning of a term and a word, where the term counts, third part (written by genBW.py). -/
import Derived.Test.YtaiggfknighhgaaGreatDoorSBase
import Derived.Test.YtaiggfknighhgaaGreatDoorSGoes
set_option linter.unusedVariables false
set_option linter.unusedSimpArgs false
namespace Go.Proofs.YtaiggfknighhgaaGreatDoor
open Go.RowKit

theorem pow_and {v : Nat} (h : 1 < v) : (v &&& (v - 1) = 0) ↔ isPow v = true := by
  have hl := Nat.log2_self_le (n := v) (by omega)
  have hu := Nat.lt_log2_self (n := v)
  unfold isPow lg
  simp only [decide_eq_true_eq]
  generalize hj : v.log2 = j at hl hu ⊢
  constructor
  · intro h0
    refine ⟨?_, h⟩
    refine Classical.byContradiction fun hne => ?_
    have h1 : 2 ^ j ≤ v - 1 := by omega
    have t1 : v.testBit j = true := by
      rw [Nat.testBit_eq_decide_div_mod_eq]
      have : v / 2 ^ j = 1 := Nat.div_eq_of_lt_le (by omega) (by rw [Nat.pow_succ] at hu; omega)
      rw [this]; rfl
    have t2 : (v - 1).testBit j = true := by
      rw [Nat.testBit_eq_decide_div_mod_eq]
      have : (v - 1) / 2 ^ j = 1 := Nat.div_eq_of_lt_le (by omega) (by rw [Nat.pow_succ] at hu; omega)
      rw [this]; rfl
    have : (v &&& (v - 1)).testBit j = true := by rw [Nat.testBit_and, t1, t2]; rfl
    rw [h0, Nat.zero_testBit] at this
    cases this
  · rintro ⟨e, _⟩
    rw [e, Nat.and_two_pow_sub_one_eq_mod]
    exact Nat.mod_self _
theorem and_pred {v : Nat} (hv : v < 4294967296) (h : 1 < v) : (bits BinOp.and IntKind.u32 (v : Int) ((v : Int) - 1) == 0) = isPow v := by
  rw [show (v : Int) - 1 = ((v - 1 : Nat) : Int) by omega, u32_and v (v - 1) hv (by omega), Bool.eq_iff_iff, ← pow_and h]
  simp
theorem and_one_pred : bits BinOp.and IntKind.u32 1 0 = 0 := u32_and 1 0 (by omega) (by omega)
theorem and_ones_pred : bits BinOp.and IntKind.u32 4294967295 4294967294 = 4294967294 := u32_and 4294967295 4294967294 (by omega) (by omega)
theorem ctz_two : ∀ j, j < 32 → Lib.ctz 32 (2 ^ j) = j := by decide +kernel
theorem ctz_pow {v : Nat} (hv : v < 4294967296) (h : isPow v = true) : Lib.ctz 32 v = lg v := by
  unfold isPow at h
  simp only [decide_eq_true_eq] at h
  have hl := lg_lt hv h.2
  generalize lg v = j at h hl ⊢
  rw [h.1]
  exact ctz_two j hl.2
end Go.Proofs.YtaiggfknighhgaaGreatDoor
set_option linter.unusedVariables false
set_option linter.unusedSimpArgs false
namespace Go.Proofs.YtaiggfknighhgaaGreatDoor
open Go.RowKit Go.Maps Go.MapKept

def NonePost (K : Nat → Prop) (b : Nat) (w : World) (ts : List Term) (e : Ending) (w' : World) : Prop := e = .returned (.tuple #[.int .i64 0, .bool false]) ∧ DagAt K w' b ts ∧ Kept K w w'
theorem boxed (K : Nat → Prop) (b : Nat) (ts : List Term) (w : World) (h : DagAt K w b ts) (hg : K 0) (hT : Tab w) : ∃ K1 : Nat → Prop,
    DagAt K1 (w.alloc (.cells #[.pointer (some ⟨b, 0, none⟩)] 25)) b ts ∧ K1 0 ∧ Tab (w.alloc (.cells #[.pointer (some ⟨b, 0, none⟩)] 25)) ∧
    (w.alloc (.cells #[.pointer (some ⟨b, 0, none⟩)] 25)).cell? ⟨w.heap.size, 0, none⟩ = some (.pointer (some ⟨b, 0, none⟩)) ∧ K1 w.heap.size ∧ (∀ i, K i → K1 i) ∧
    Kept K w (w.alloc (.cells #[.pointer (some ⟨b, 0, none⟩)] 25)) :=
  ⟨More K w (w.alloc (.cells #[.pointer (some ⟨b, 0, none⟩)] 25)), h.more ((Below.refl _ _).alloc (Nat.le_refl _) _), Or.inl hg, hT.alloc _, (cell_of (blk_new w _) 0).trans rfl, Or.inr ⟨Nat.le_refl _, by simp⟩, fun i hi => Or.inl hi, Kept.alloc _ _ _⟩
theorem const0_any (K : Nat → Prop) (b : Nat) (ts : List Term) (hl : ts.length < 1000000000000) (w : World) (h : DagAt K w b ts) :
    Calls Tryz.prog 20 #[.pointer (some ⟨b, 0, none⟩), .int .u32 0] w fun r w' => r = .returned (.int .i64 (pos ts (constT 0) : Nat)) ∧ DagAt K w' b (ins ts (constT 0)) ∧ Kept K w w' := const_any K b 0 ts (by omega) hl w h
theorem makeFunc_run (fn : Fn) (first cap : Array Value) (w : World) : (Instr.makeFunc fn first cap).run Tryz.prog w = .ok (.func fn first cap) w := rfl

set_option maxRecDepth 100000 in
set_option maxHeartbeats 1000000 in
theorem by_r1z (f : Nat) (hM : MadeSpec f) (K : Nat → Prop) (b : Nat) (ts : List Term) (op x y : Nat) (w : World) (h : DagAt K w b ts) (hG : Good ts) (hg : K 0) (hT : Tab w) (ho : (doW op 0 0).isSome = true) (hx : x < ts.length) (hl : ts.length + (f + 1) < 1000000000000) (hop : (op = 27 ∨ op = 35 ∨ op = 32)) :
    Calls Tryz.prog 99 #[.pointer (some ⟨b, 0, none⟩), .int .i64 op, .int .i64 x, .int .i64 y, .int .u32 0] w (IsPost K b w (ts, x)) := by
  obtain ⟨K1, h1, hg1, hT1, hc1, hk1, hKK, k1⟩ := boxed K b ts w h hg hT
  have hmf := makeFunc_run
  have htz : ∀ w, Tab w → Calls Tryz.prog 109 #[.int .u32 0] w fun e w' => e = .returned (.int .i64 (Lib.ctz 32 0 : Nat)) ∧ w = w' := tz32_any 0 (by omega)
  have a27_35_32 : hasI (op : Int) [27, 35, 32] = true := by simp [hasI]; omega
  clear hG ho hT h hg
  go_enter Tryz.func99, Tryz.ntmps99
  go_wp2_with (first
    | (go_at_call 98; (with_reducible refine (among3 _ _ _ _ (g := _) (w := _) (hg := by simp)).mono ?_); rintro r w' ⟨rfl, rfl⟩)
    | (go_at_call 98; (with_reducible refine (among2 _ _ _ (g := _) (w := _) (hg := by simp)).mono ?_); rintro r w' ⟨rfl, rfl⟩)
    | (go_at_call 110; (with_reducible refine (shift_any _ _).mono ?_); rintro r w' ⟨rfl, rfl⟩)
    | (go_at_call 110; (with_reducible refine (hsh _).mono ?_); rintro r w' ⟨rfl, rfl⟩)
    | (go_at_call 109; (with_reducible refine (htz _ (by repeat (first | exact hT1 | refine Tab.alloc ?_ _))).mono ?_); rintro r w' ⟨rfl, rfl⟩)
    | fail)
  go_ret2
  exact ⟨rfl, DagAt.mono (by repeat (first | exact h1 | refine DagAt.alloc ?_ _)) hKK, (by repeat (first | exact k1 | refine Kept.then_alloc ?_ _))⟩
set_option maxRecDepth 100000 in
set_option maxHeartbeats 1000000 in
theorem by_r1o (f : Nat) (hM : MadeSpec f) (K : Nat → Prop) (b : Nat) (ts : List Term) (op x y : Nat) (w : World) (h : DagAt K w b ts) (hG : Good ts) (hg : K 0) (hT : Tab w) (ho : (doW op 0 0).isSome = true) (hx : x < ts.length) (hl : ts.length + (f + 1) < 1000000000000) (hop : (op = 37 ∨ op = 41 ∨ op = 42)) :
    Calls Tryz.prog 99 #[.pointer (some ⟨b, 0, none⟩), .int .i64 op, .int .i64 x, .int .i64 y, .int .u32 1] w (IsPost K b w (ts, x)) := by
  obtain ⟨K1, h1, hg1, hT1, hc1, hk1, hKK, k1⟩ := boxed K b ts w h hg hT
  have hmf := makeFunc_run
  have htz : ∀ w, Tab w → Calls Tryz.prog 109 #[.int .u32 1] w fun e w' => e = .returned (.int .i64 (Lib.ctz 32 1 : Nat)) ∧ w = w' := tz32_any 1 (by omega)
  have hb1 := and_one_pred
  have a37_41_42 : hasI (op : Int) [37, 41, 42] = true := by simp [hasI]; omega
  clear hG ho hT h hg
  go_enter Tryz.func99, Tryz.ntmps99
  go_wp2_with (first
    | (go_at_call 98; (with_reducible refine (among3 _ _ _ _ (g := _) (w := _) (hg := by simp)).mono ?_); rintro r w' ⟨rfl, rfl⟩)
    | (go_at_call 98; (with_reducible refine (among2 _ _ _ (g := _) (w := _) (hg := by simp)).mono ?_); rintro r w' ⟨rfl, rfl⟩)
    | (go_at_call 110; (with_reducible refine (shift_any _ _).mono ?_); rintro r w' ⟨rfl, rfl⟩)
    | (go_at_call 110; (with_reducible refine (hsh _).mono ?_); rintro r w' ⟨rfl, rfl⟩)
    | (go_at_call 109; (with_reducible refine (htz _ (by repeat (first | exact hT1 | refine Tab.alloc ?_ _))).mono ?_); rintro r w' ⟨rfl, rfl⟩)
    | fail)
  go_ret2
  exact ⟨rfl, DagAt.mono (by repeat (first | exact h1 | refine DagAt.alloc ?_ _)) hKK, (by repeat (first | exact k1 | refine Kept.then_alloc ?_ _))⟩
set_option maxRecDepth 100000 in
set_option maxHeartbeats 1000000 in
theorem by_r2z (f : Nat) (hM : MadeSpec f) (K : Nat → Prop) (b : Nat) (ts : List Term) (op x y : Nat) (w : World) (h : DagAt K w b ts) (hG : Good ts) (hg : K 0) (hT : Tab w) (ho : (doW op 0 0).isSome = true) (hx : x < ts.length) (hl : ts.length + (f + 1) < 1000000000000) (hop : (op = 36 ∨ op = 37 ∨ op = 31)) :
    Calls Tryz.prog 99 #[.pointer (some ⟨b, 0, none⟩), .int .i64 op, .int .i64 x, .int .i64 y, .int .u32 0] w (IsPost K b w (ins ts (constT 0), pos ts (constT 0))) := by
  obtain ⟨K1, h1, hg1, hT1, hc1, hk1, hKK, k1⟩ := boxed K b ts w h hg hT
  have hmf := makeFunc_run
  have htz : ∀ w, Tab w → Calls Tryz.prog 109 #[.int .u32 0] w fun e w' => e = .returned (.int .i64 (Lib.ctz 32 0 : Nat)) ∧ w = w' := tz32_any 0 (by omega)
  have a27_35_32 : hasI (op : Int) [27, 35, 32] = false := by simp [hasI]; omega
  have a36_37_31 : hasI (op : Int) [36, 37, 31] = true := by simp [hasI]; omega
  clear hG ho hT h hg
  go_enter Tryz.func99, Tryz.ntmps99
  go_wp2_with (first
    | (go_at_call 98; (with_reducible refine (among3 _ _ _ _ (g := _) (w := _) (hg := by simp)).mono ?_); rintro r w' ⟨rfl, rfl⟩)
    | (go_at_call 98; (with_reducible refine (among2 _ _ _ (g := _) (w := _) (hg := by simp)).mono ?_); rintro r w' ⟨rfl, rfl⟩)
    | (go_at_call 110; (with_reducible refine (shift_any _ _).mono ?_); rintro r w' ⟨rfl, rfl⟩)
    | (go_at_call 110; (with_reducible refine (hsh _).mono ?_); rintro r w' ⟨rfl, rfl⟩)
    | (go_at_call 109; (with_reducible refine (htz _ (by repeat (first | exact hT1 | refine Tab.alloc ?_ _))).mono ?_); rintro r w' ⟨rfl, rfl⟩)
    | fail)
  refine (const0_any K1 b ts (by omega) _ (by repeat (first | exact h1 | refine DagAt.alloc ?_ _))).mono ?_
  rintro r wz ⟨rfl, hz, kz⟩
  have kw := Kept.trans (K := K) (w := w) (by repeat (first | exact k1 | refine Kept.then_alloc ?_ _)) (kz.mono hKK)
  go_wp2_with fail
  go_ret2
  exact ⟨rfl, hz.mono hKK, kw⟩
set_option maxRecDepth 100000 in
set_option maxHeartbeats 1000000 in
theorem by_r2o (f : Nat) (hM : MadeSpec f) (K : Nat → Prop) (b : Nat) (ts : List Term) (op x y : Nat) (w : World) (h : DagAt K w b ts) (hG : Good ts) (hg : K 0) (hT : Tab w) (ho : (doW op 0 0).isSome = true) (hx : x < ts.length) (hl : ts.length + (f + 1) < 1000000000000) (hop : (op = 43 ∨ op = 44)) :
    Calls Tryz.prog 99 #[.pointer (some ⟨b, 0, none⟩), .int .i64 op, .int .i64 x, .int .i64 y, .int .u32 1] w (IsPost K b w (ins ts (constT 0), pos ts (constT 0))) := by
  obtain ⟨K1, h1, hg1, hT1, hc1, hk1, hKK, k1⟩ := boxed K b ts w h hg hT
  have hmf := makeFunc_run
  have htz : ∀ w, Tab w → Calls Tryz.prog 109 #[.int .u32 1] w fun e w' => e = .returned (.int .i64 (Lib.ctz 32 1 : Nat)) ∧ w = w' := tz32_any 1 (by omega)
  have hb1 := and_one_pred
  have a37_41_42 : hasI (op : Int) [37, 41, 42] = false := by simp [hasI]; omega
  have a43_44 : hasI (op : Int) [43, 44] = true := by simp [hasI]; omega
  clear hG ho hT h hg
  go_enter Tryz.func99, Tryz.ntmps99
  go_wp2_with (first
    | (go_at_call 98; (with_reducible refine (among3 _ _ _ _ (g := _) (w := _) (hg := by simp)).mono ?_); rintro r w' ⟨rfl, rfl⟩)
    | (go_at_call 98; (with_reducible refine (among2 _ _ _ (g := _) (w := _) (hg := by simp)).mono ?_); rintro r w' ⟨rfl, rfl⟩)
    | (go_at_call 110; (with_reducible refine (shift_any _ _).mono ?_); rintro r w' ⟨rfl, rfl⟩)
    | (go_at_call 110; (with_reducible refine (hsh _).mono ?_); rintro r w' ⟨rfl, rfl⟩)
    | (go_at_call 109; (with_reducible refine (htz _ (by repeat (first | exact hT1 | refine Tab.alloc ?_ _))).mono ?_); rintro r w' ⟨rfl, rfl⟩)
    | fail)
  refine (const0_any K1 b ts (by omega) _ (by repeat (first | exact h1 | refine DagAt.alloc ?_ _))).mono ?_
  rintro r wz ⟨rfl, hz, kz⟩
  have kw := Kept.trans (K := K) (w := w) (by repeat (first | exact k1 | refine Kept.then_alloc ?_ _)) (kz.mono hKK)
  go_wp2_with fail
  go_ret2
  exact ⟨rfl, hz.mono hKK, kw⟩
set_option maxRecDepth 100000 in
set_option maxHeartbeats 1000000 in
theorem by_r1m (f : Nat) (hM : MadeSpec f) (K : Nat → Prop) (b : Nat) (ts : List Term) (op x y : Nat) (w : World) (h : DagAt K w b ts) (hG : Good ts) (hg : K 0) (hT : Tab w) (ho : (doW op 0 0).isSome = true) (hx : x < ts.length) (hl : ts.length + (f + 1) < 1000000000000) (hop : op = 36) :
    Calls Tryz.prog 99 #[.pointer (some ⟨b, 0, none⟩), .int .i64 op, .int .i64 x, .int .i64 y, .int .u32 4294967295] w (IsPost K b w (ts, x)) := by
  obtain ⟨K1, h1, hg1, hT1, hc1, hk1, hKK, k1⟩ := boxed K b ts w h hg hT
  have hmf := makeFunc_run
  have htz : ∀ w, Tab w → Calls Tryz.prog 109 #[.int .u32 4294967295] w fun e w' => e = .returned (.int .i64 (Lib.ctz 32 4294967295 : Nat)) ∧ w = w' := tz32_any 4294967295 (by omega)
  have hb1 := and_ones_pred
  have y36 : ((op : Int) == 36) = true := by simp; omega
  clear hG ho hT h hg
  go_enter Tryz.func99, Tryz.ntmps99
  go_wp2_with (first
    | (go_at_call 98; (with_reducible refine (among3 _ _ _ _ (g := _) (w := _) (hg := by simp)).mono ?_); rintro r w' ⟨rfl, rfl⟩)
    | (go_at_call 98; (with_reducible refine (among2 _ _ _ (g := _) (w := _) (hg := by simp)).mono ?_); rintro r w' ⟨rfl, rfl⟩)
    | (go_at_call 110; (with_reducible refine (shift_any _ _).mono ?_); rintro r w' ⟨rfl, rfl⟩)
    | (go_at_call 110; (with_reducible refine (hsh _).mono ?_); rintro r w' ⟨rfl, rfl⟩)
    | (go_at_call 109; (with_reducible refine (htz _ (by repeat (first | exact hT1 | refine Tab.alloc ?_ _))).mono ?_); rintro r w' ⟨rfl, rfl⟩)
    | fail)
  go_ret2
  exact ⟨rfl, DagAt.mono (by repeat (first | exact h1 | refine DagAt.alloc ?_ _)) hKK, (by repeat (first | exact k1 | refine Kept.then_alloc ?_ _))⟩
set_option maxRecDepth 100000 in
set_option maxHeartbeats 1000000 in
theorem by_r3m (f : Nat) (hM : MadeSpec f) (K : Nat → Prop) (b : Nat) (ts : List Term) (op x y : Nat) (w : World) (h : DagAt K w b ts) (hG : Good ts) (hg : K 0) (hT : Tab w) (ho : (doW op 0 0).isSome = true) (hx : x < ts.length) (hl : ts.length + (f + 1) < 1000000000000) (hop : op = 35) :
    Calls Tryz.prog 99 #[.pointer (some ⟨b, 0, none⟩), .int .i64 op, .int .i64 x, .int .i64 y, .int .u32 4294967295] w (IsPost K b w (ts, y)) := by
  obtain ⟨K1, h1, hg1, hT1, hc1, hk1, hKK, k1⟩ := boxed K b ts w h hg hT
  have hmf := makeFunc_run
  have htz : ∀ w, Tab w → Calls Tryz.prog 109 #[.int .u32 4294967295] w fun e w' => e = .returned (.int .i64 (Lib.ctz 32 4294967295 : Nat)) ∧ w = w' := tz32_any 4294967295 (by omega)
  have hb1 := and_ones_pred
  have n36 : ((op : Int) == 36) = false := by simp; omega
  have y35 : ((op : Int) == 35) = true := by simp; omega
  clear hG ho hT h hg
  go_enter Tryz.func99, Tryz.ntmps99
  go_wp2_with (first
    | (go_at_call 98; (with_reducible refine (among3 _ _ _ _ (g := _) (w := _) (hg := by simp)).mono ?_); rintro r w' ⟨rfl, rfl⟩)
    | (go_at_call 98; (with_reducible refine (among2 _ _ _ (g := _) (w := _) (hg := by simp)).mono ?_); rintro r w' ⟨rfl, rfl⟩)
    | (go_at_call 110; (with_reducible refine (shift_any _ _).mono ?_); rintro r w' ⟨rfl, rfl⟩)
    | (go_at_call 110; (with_reducible refine (hsh _).mono ?_); rintro r w' ⟨rfl, rfl⟩)
    | (go_at_call 109; (with_reducible refine (htz _ (by repeat (first | exact hT1 | refine Tab.alloc ?_ _))).mono ?_); rintro r w' ⟨rfl, rfl⟩)
    | fail)
  go_ret2
  exact ⟨rfl, DagAt.mono (by repeat (first | exact h1 | refine DagAt.alloc ?_ _)) hKK, (by repeat (first | exact k1 | refine Kept.then_alloc ?_ _))⟩
set_option maxRecDepth 100000 in
set_option maxHeartbeats 1000000 in
theorem by_r4z (f : Nat) (hM : MadeSpec f) (K : Nat → Prop) (b : Nat) (ts : List Term) (op x y : Nat) (w : World) (h : DagAt K w b ts) (hG : Good ts) (hg : K 0) (hT : Tab w) (ho : (doW op 0 0).isSome = true) (hx : x < ts.length) (hl : ts.length + (f + 1) < 1000000000000) (hop : (op = 29 ∨ op = 33 ∨ op = 34)) :
    Calls Tryz.prog 99 #[.pointer (some ⟨b, 0, none⟩), .int .i64 op, .int .i64 x, .int .i64 y, .int .u32 0] w (IsPost K b w (ts, x)) := by
  obtain ⟨K1, h1, hg1, hT1, hc1, hk1, hKK, k1⟩ := boxed K b ts w h hg hT
  have hmf := makeFunc_run
  have htz : ∀ w, Tab w → Calls Tryz.prog 109 #[.int .u32 0] w fun e w' => e = .returned (.int .i64 (Lib.ctz 32 0 : Nat)) ∧ w = w' := tz32_any 0 (by omega)
  have a27_35_32 : hasI (op : Int) [27, 35, 32] = false := by simp [hasI]; omega
  have a36_37_31 : hasI (op : Int) [36, 37, 31] = false := by simp [hasI]; omega
  have sh : isShift op = true := by simp [isShift]; omega
  clear hG ho hT h hg
  go_enter Tryz.func99, Tryz.ntmps99
  go_wp2_with (first
    | (go_at_call 98; (with_reducible refine (among3 _ _ _ _ (g := _) (w := _) (hg := by simp)).mono ?_); rintro r w' ⟨rfl, rfl⟩)
    | (go_at_call 98; (with_reducible refine (among2 _ _ _ (g := _) (w := _) (hg := by simp)).mono ?_); rintro r w' ⟨rfl, rfl⟩)
    | (go_at_call 110; (with_reducible refine (shift_any _ _).mono ?_); rintro r w' ⟨rfl, rfl⟩)
    | (go_at_call 110; (with_reducible refine (hsh _).mono ?_); rintro r w' ⟨rfl, rfl⟩)
    | (go_at_call 109; (with_reducible refine (htz _ (by repeat (first | exact hT1 | refine Tab.alloc ?_ _))).mono ?_); rintro r w' ⟨rfl, rfl⟩)
    | fail)
  go_ret2
  exact ⟨rfl, DagAt.mono (by repeat (first | exact h1 | refine DagAt.alloc ?_ _)) hKK, (by repeat (first | exact k1 | refine Kept.then_alloc ?_ _))⟩
set_option maxRecDepth 100000 in
set_option maxHeartbeats 1000000 in
theorem by_r4g (f : Nat) (hM : MadeSpec f) (K : Nat → Prop) (b : Nat) (ts : List Term) (op x y v : Nat) (w : World) (h : DagAt K w b ts) (hG : Good ts) (hg : K 0) (hT : Tab w) (ho : (doW op 0 0).isSome = true) (hx : x < ts.length) (hl : ts.length + (f + 1) < 1000000000000) (hv : v < 4294967296) (hv1 : 1 < v) (hvm : v ≠ 4294967295) (hp : isPow v = false) (hop : (op = 29 ∨ op = 33 ∨ op = 34)) (h32 : v % 32 = 0) :
    Calls Tryz.prog 99 #[.pointer (some ⟨b, 0, none⟩), .int .i64 op, .int .i64 x, .int .i64 y, .int .u32 v] w (IsPost K b w (ts, x)) := by
  obtain ⟨K1, h1, hg1, hT1, hc1, hk1, hKK, k1⟩ := boxed K b ts w h hg hT
  have hmf := makeFunc_run
  have htz := tz32_any v hv
  have hone := and_pred hv hv1
  rw [hp] at hone
  have e0 : ((v : Int) == 0) = false := by simp; omega
  have e0' : ((v : Int) != 0) = true := by simp; omega
  have e1 : ((v : Int) == 1) = false := by simp; omega
  have em : ((v : Int) == 4294967295) = false := by simp; omega
  have l1 : (1 : Int) < v := by omega
  have sh : isShift op = true := by simp [isShift]; omega
  have m32 : ((v : Int) % 32 == 0) = true := by simp; omega
  clear hG ho hT h hg
  go_enter Tryz.func99, Tryz.ntmps99
  go_wp2_with (first
    | (go_at_call 98; (with_reducible refine (among3 _ _ _ _ (g := _) (w := _) (hg := by simp)).mono ?_); rintro r w' ⟨rfl, rfl⟩)
    | (go_at_call 98; (with_reducible refine (among2 _ _ _ (g := _) (w := _) (hg := by simp)).mono ?_); rintro r w' ⟨rfl, rfl⟩)
    | (go_at_call 110; (with_reducible refine (shift_any _ _).mono ?_); rintro r w' ⟨rfl, rfl⟩)
    | (go_at_call 110; (with_reducible refine (hsh _).mono ?_); rintro r w' ⟨rfl, rfl⟩)
    | (go_at_call 109; (with_reducible refine (htz _ (by repeat (first | exact hT1 | refine Tab.alloc ?_ _))).mono ?_); rintro r w' ⟨rfl, rfl⟩)
    | fail)
  go_ret2
  exact ⟨rfl, DagAt.mono (by repeat (first | exact h1 | refine DagAt.alloc ?_ _)) hKK, (by repeat (first | exact k1 | refine Kept.then_alloc ?_ _))⟩
set_option maxRecDepth 100000 in
set_option maxHeartbeats 1000000 in
theorem by_r5g (f : Nat) (hM : MadeSpec f) (K : Nat → Prop) (b : Nat) (ts : List Term) (op x y v : Nat) (w : World) (h : DagAt K w b ts) (hG : Good ts) (hg : K 0) (hT : Tab w) (ho : (doW op 0 0).isSome = true) (hx : x < ts.length) (hl : ts.length + (f + 1) < 1000000000000) (hv : v < 4294967296) (hv1 : 1 < v) (hvm : v ≠ 4294967295) (hp : isPow v = false) (hop : (op = 29 ∨ op = 33 ∨ op = 34)) (h32 : v % 32 ≠ 0) (h33 : 32 ≤ v) (hW : Went ts op x y (ins ts (constT (v % 32))) op x (pos ts (constT (v % 32)))) (hm : mz ts op x y < f + 1) :
    Calls Tryz.prog 99 #[.pointer (some ⟨b, 0, none⟩), .int .i64 op, .int .i64 x, .int .i64 y, .int .u32 v] w (IsPost K b w (madeF f (ins ts (constT (v % 32))) op x (pos ts (constT (v % 32))))) := by
  obtain ⟨K1, h1, hg1, hT1, hc1, hk1, hKK, k1⟩ := boxed K b ts w h hg hT
  have hmf := makeFunc_run
  have htz := tz32_any v hv
  have hone := and_pred hv hv1
  rw [hp] at hone
  have e0 : ((v : Int) == 0) = false := by simp; omega
  have e0' : ((v : Int) != 0) = true := by simp; omega
  have e1 : ((v : Int) == 1) = false := by simp; omega
  have em : ((v : Int) == 4294967295) = false := by simp; omega
  have l1 : (1 : Int) < v := by omega
  have sh : isShift op = true := by simp [isShift]; omega
  have m32 : ((v : Int) % 32 == 0) = false := by simp; omega
  have m33 : (32 : Int) ≤ v := by omega
  clear hT h hg
  go_enter Tryz.func99, Tryz.ntmps99
  go_wp2_with (first
    | (go_at_call 98; (with_reducible refine (among3 _ _ _ _ (g := _) (w := _) (hg := by simp)).mono ?_); rintro r w' ⟨rfl, rfl⟩)
    | (go_at_call 98; (with_reducible refine (among2 _ _ _ (g := _) (w := _) (hg := by simp)).mono ?_); rintro r w' ⟨rfl, rfl⟩)
    | (go_at_call 110; (with_reducible refine (shift_any _ _).mono ?_); rintro r w' ⟨rfl, rfl⟩)
    | (go_at_call 110; (with_reducible refine (hsh _).mono ?_); rintro r w' ⟨rfl, rfl⟩)
    | (go_at_call 109; (with_reducible refine (htz _ (by repeat (first | exact hT1 | refine Tab.alloc ?_ _))).mono ?_); rintro r w' ⟨rfl, rfl⟩)
    | fail)
  refine (goes_any f hM K1 b w.heap.size ts op x (v % 32) _ (by repeat (first | exact h1 | refine DagAt.alloc ?_ _)) hW.good hg1 (by repeat (first | exact hT1 | refine Tab.alloc ?_ _)) hW.ok hx (by omega) (by have := hW.less; omega) hl hk1 (by repeat (first | exact hc1 | refine cell_alloc0 ?_ _))).mono ?_
  rintro r wz ⟨rfl, hz, kz⟩
  have kw := Kept.trans (K := K) (w := w) (by repeat (first | exact k1 | refine Kept.then_alloc ?_ _)) (kz.mono hKK)
  go_wp2_with fail
  go_ret2
  exact ⟨rfl, hz.mono hKK, kw⟩
set_option maxRecDepth 100000 in
set_option maxHeartbeats 1000000 in
theorem by_r4p (f : Nat) (hM : MadeSpec f) (K : Nat → Prop) (b : Nat) (ts : List Term) (op x y v : Nat) (w : World) (h : DagAt K w b ts) (hG : Good ts) (hg : K 0) (hT : Tab w) (ho : (doW op 0 0).isSome = true) (hx : x < ts.length) (hl : ts.length + (f + 1) < 1000000000000) (hv : v < 4294967296) (hv1 : 1 < v) (hvm : v ≠ 4294967295) (hp : isPow v = true) (hop : (op = 29 ∨ op = 33 ∨ op = 34)) (h32 : v % 32 = 0) :
    Calls Tryz.prog 99 #[.pointer (some ⟨b, 0, none⟩), .int .i64 op, .int .i64 x, .int .i64 y, .int .u32 v] w (IsPost K b w (ts, x)) := by
  obtain ⟨K1, h1, hg1, hT1, hc1, hk1, hKK, k1⟩ := boxed K b ts w h hg hT
  have hmf := makeFunc_run
  have htz := tz32_any v hv
  have hone := and_pred hv hv1
  rw [hp] at hone
  have e0 : ((v : Int) == 0) = false := by simp; omega
  have e0' : ((v : Int) != 0) = true := by simp; omega
  have e1 : ((v : Int) == 1) = false := by simp; omega
  have em : ((v : Int) == 4294967295) = false := by simp; omega
  have l1 : (1 : Int) < v := by omega
  have sh : isShift op = true := by simp [isShift]; omega
  have m32 : ((v : Int) % 32 == 0) = true := by simp; omega
  clear hG ho hT h hg
  go_enter Tryz.func99, Tryz.ntmps99
  go_wp2_with (first
    | (go_at_call 98; (with_reducible refine (among3 _ _ _ _ (g := _) (w := _) (hg := by simp)).mono ?_); rintro r w' ⟨rfl, rfl⟩)
    | (go_at_call 98; (with_reducible refine (among2 _ _ _ (g := _) (w := _) (hg := by simp)).mono ?_); rintro r w' ⟨rfl, rfl⟩)
    | (go_at_call 110; (with_reducible refine (shift_any _ _).mono ?_); rintro r w' ⟨rfl, rfl⟩)
    | (go_at_call 110; (with_reducible refine (hsh _).mono ?_); rintro r w' ⟨rfl, rfl⟩)
    | (go_at_call 109; (with_reducible refine (htz _ (by repeat (first | exact hT1 | refine Tab.alloc ?_ _))).mono ?_); rintro r w' ⟨rfl, rfl⟩)
    | fail)
  go_ret2
  exact ⟨rfl, DagAt.mono (by repeat (first | exact h1 | refine DagAt.alloc ?_ _)) hKK, (by repeat (first | exact k1 | refine Kept.then_alloc ?_ _))⟩
set_option maxRecDepth 100000 in
set_option maxHeartbeats 1000000 in
theorem by_r5p (f : Nat) (hM : MadeSpec f) (K : Nat → Prop) (b : Nat) (ts : List Term) (op x y v : Nat) (w : World) (h : DagAt K w b ts) (hG : Good ts) (hg : K 0) (hT : Tab w) (ho : (doW op 0 0).isSome = true) (hx : x < ts.length) (hl : ts.length + (f + 1) < 1000000000000) (hv : v < 4294967296) (hv1 : 1 < v) (hvm : v ≠ 4294967295) (hp : isPow v = true) (hop : (op = 29 ∨ op = 33 ∨ op = 34)) (h32 : v % 32 ≠ 0) (h33 : 32 ≤ v) (hW : Went ts op x y (ins ts (constT (v % 32))) op x (pos ts (constT (v % 32)))) (hm : mz ts op x y < f + 1) :
    Calls Tryz.prog 99 #[.pointer (some ⟨b, 0, none⟩), .int .i64 op, .int .i64 x, .int .i64 y, .int .u32 v] w (IsPost K b w (madeF f (ins ts (constT (v % 32))) op x (pos ts (constT (v % 32))))) := by
  obtain ⟨K1, h1, hg1, hT1, hc1, hk1, hKK, k1⟩ := boxed K b ts w h hg hT
  have hmf := makeFunc_run
  have htz := tz32_any v hv
  have hone := and_pred hv hv1
  rw [hp] at hone
  have e0 : ((v : Int) == 0) = false := by simp; omega
  have e0' : ((v : Int) != 0) = true := by simp; omega
  have e1 : ((v : Int) == 1) = false := by simp; omega
  have em : ((v : Int) == 4294967295) = false := by simp; omega
  have l1 : (1 : Int) < v := by omega
  have sh : isShift op = true := by simp [isShift]; omega
  have m32 : ((v : Int) % 32 == 0) = false := by simp; omega
  have m33 : (32 : Int) ≤ v := by omega
  clear hT h hg
  go_enter Tryz.func99, Tryz.ntmps99
  go_wp2_with (first
    | (go_at_call 98; (with_reducible refine (among3 _ _ _ _ (g := _) (w := _) (hg := by simp)).mono ?_); rintro r w' ⟨rfl, rfl⟩)
    | (go_at_call 98; (with_reducible refine (among2 _ _ _ (g := _) (w := _) (hg := by simp)).mono ?_); rintro r w' ⟨rfl, rfl⟩)
    | (go_at_call 110; (with_reducible refine (shift_any _ _).mono ?_); rintro r w' ⟨rfl, rfl⟩)
    | (go_at_call 110; (with_reducible refine (hsh _).mono ?_); rintro r w' ⟨rfl, rfl⟩)
    | (go_at_call 109; (with_reducible refine (htz _ (by repeat (first | exact hT1 | refine Tab.alloc ?_ _))).mono ?_); rintro r w' ⟨rfl, rfl⟩)
    | fail)
  refine (goes_any f hM K1 b w.heap.size ts op x (v % 32) _ (by repeat (first | exact h1 | refine DagAt.alloc ?_ _)) hW.good hg1 (by repeat (first | exact hT1 | refine Tab.alloc ?_ _)) hW.ok hx (by omega) (by have := hW.less; omega) hl hk1 (by repeat (first | exact hc1 | refine cell_alloc0 ?_ _))).mono ?_
  rintro r wz ⟨rfl, hz, kz⟩
  have kw := Kept.trans (K := K) (w := w) (by repeat (first | exact k1 | refine Kept.then_alloc ?_ _)) (kz.mono hKK)
  go_wp2_with fail
  go_ret2
  exact ⟨rfl, hz.mono hKK, kw⟩
set_option maxRecDepth 100000 in
set_option maxHeartbeats 1000000 in
theorem by_r5m (f : Nat) (hM : MadeSpec f) (K : Nat → Prop) (b : Nat) (ts : List Term) (op x y : Nat) (w : World) (h : DagAt K w b ts) (hG : Good ts) (hg : K 0) (hT : Tab w) (ho : (doW op 0 0).isSome = true) (hx : x < ts.length) (hl : ts.length + (f + 1) < 1000000000000) (hop : (op = 29 ∨ op = 33 ∨ op = 34)) (hW : Went ts op x y (ins ts (constT 31)) op x (pos ts (constT 31))) (hm : mz ts op x y < f + 1) :
    Calls Tryz.prog 99 #[.pointer (some ⟨b, 0, none⟩), .int .i64 op, .int .i64 x, .int .i64 y, .int .u32 4294967295] w (IsPost K b w (madeF f (ins ts (constT 31)) op x (pos ts (constT 31)))) := by
  obtain ⟨K1, h1, hg1, hT1, hc1, hk1, hKK, k1⟩ := boxed K b ts w h hg hT
  have hmf := makeFunc_run
  have htz : ∀ w, Tab w → Calls Tryz.prog 109 #[.int .u32 4294967295] w fun e w' => e = .returned (.int .i64 (Lib.ctz 32 4294967295 : Nat)) ∧ w = w' := tz32_any 4294967295 (by omega)
  have hb1 := and_ones_pred
  have n36 : ((op : Int) == 36) = false := by simp; omega
  have n35 : ((op : Int) == 35) = false := by simp; omega
  have sh : isShift op = true := by simp [isShift]; omega
  clear hT h hg
  go_enter Tryz.func99, Tryz.ntmps99
  go_wp2_with (first
    | (go_at_call 98; (with_reducible refine (among3 _ _ _ _ (g := _) (w := _) (hg := by simp)).mono ?_); rintro r w' ⟨rfl, rfl⟩)
    | (go_at_call 98; (with_reducible refine (among2 _ _ _ (g := _) (w := _) (hg := by simp)).mono ?_); rintro r w' ⟨rfl, rfl⟩)
    | (go_at_call 110; (with_reducible refine (shift_any _ _).mono ?_); rintro r w' ⟨rfl, rfl⟩)
    | (go_at_call 110; (with_reducible refine (hsh _).mono ?_); rintro r w' ⟨rfl, rfl⟩)
    | (go_at_call 109; (with_reducible refine (htz _ (by repeat (first | exact hT1 | refine Tab.alloc ?_ _))).mono ?_); rintro r w' ⟨rfl, rfl⟩)
    | fail)
  refine (goes_any f hM K1 b w.heap.size ts op x 31 _ (by repeat (first | exact h1 | refine DagAt.alloc ?_ _)) hW.good hg1 (by repeat (first | exact hT1 | refine Tab.alloc ?_ _)) hW.ok hx (by omega) (by have := hW.less; omega) hl hk1 (by repeat (first | exact hc1 | refine cell_alloc0 ?_ _))).mono ?_
  rintro r wz ⟨rfl, hz, kz⟩
  have kw := Kept.trans (K := K) (w := w) (by repeat (first | exact k1 | refine Kept.then_alloc ?_ _)) (kz.mono hKK)
  go_wp2_with fail
  go_ret2
  exact ⟨rfl, hz.mono hKK, kw⟩
set_option maxRecDepth 100000 in
set_option maxHeartbeats 1000000 in
theorem by_r6 (f : Nat) (hM : MadeSpec f) (K : Nat → Prop) (b : Nat) (ts : List Term) (op x y v : Nat) (w : World) (h : DagAt K w b ts) (hG : Good ts) (hg : K 0) (hT : Tab w) (ho : (doW op 0 0).isSome = true) (hx : x < ts.length) (hl : ts.length + (f + 1) < 1000000000000) (hv : v < 4294967296) (hv1 : 1 < v) (hvm : v ≠ 4294967295) (hp : isPow v = true) (hop : op = 37) (hW : Went ts op x y (ins ts (constT (lg v))) 29 x (pos ts (constT (lg v)))) (hm : mz ts op x y < f + 1) :
    Calls Tryz.prog 99 #[.pointer (some ⟨b, 0, none⟩), .int .i64 op, .int .i64 x, .int .i64 y, .int .u32 v] w (IsPost K b w (madeF f (ins ts (constT (lg v))) 29 x (pos ts (constT (lg v))))) := by
  obtain ⟨K1, h1, hg1, hT1, hc1, hk1, hKK, k1⟩ := boxed K b ts w h hg hT
  have hmf := makeFunc_run
  have htz := tz32_any v hv
  have hone := and_pred hv hv1
  rw [hp] at hone
  have e0 : ((v : Int) == 0) = false := by simp; omega
  have e0' : ((v : Int) != 0) = true := by simp; omega
  have e1 : ((v : Int) == 1) = false := by simp; omega
  have em : ((v : Int) == 4294967295) = false := by simp; omega
  have l1 : (1 : Int) < v := by omega
  subst hop
  have hsh : ∀ w, Calls Tryz.prog 110 #[.int .i64 37] w fun e w' => e = .returned (.bool false) ∧ w.alloc (.cells #[.int .i64 29, .int .i64 33, .int .i64 34] 3) = w' := shift_any 37
  have hlg := ctz_pow hv hp
  have hlt := lg_lt hv hv1
  clear hT h hg
  go_enter Tryz.func99, Tryz.ntmps99
  go_wp2_with (first
    | (go_at_call 98; (with_reducible refine (among3 _ _ _ _ (g := _) (w := _) (hg := by simp)).mono ?_); rintro r w' ⟨rfl, rfl⟩)
    | (go_at_call 98; (with_reducible refine (among2 _ _ _ (g := _) (w := _) (hg := by simp)).mono ?_); rintro r w' ⟨rfl, rfl⟩)
    | (go_at_call 110; (with_reducible refine (shift_any _ _).mono ?_); rintro r w' ⟨rfl, rfl⟩)
    | (go_at_call 110; (with_reducible refine (hsh _).mono ?_); rintro r w' ⟨rfl, rfl⟩)
    | (go_at_call 109; (with_reducible refine (htz _ (by repeat (first | exact hT1 | refine Tab.alloc ?_ _))).mono ?_); rintro r w' ⟨rfl, rfl⟩)
    | fail)
  refine (goes_any f hM K1 b w.heap.size ts 29 x (lg v) _ (by repeat (first | exact h1 | refine DagAt.alloc ?_ _)) hW.good hg1 (by repeat (first | exact hT1 | refine Tab.alloc ?_ _)) hW.ok hx (by omega) (by have := hW.less; omega) hl hk1 (by repeat (first | exact hc1 | refine cell_alloc0 ?_ _))).mono ?_
  rintro r wz ⟨rfl, hz, kz⟩
  have kw := Kept.trans (K := K) (w := w) (by repeat (first | exact k1 | refine Kept.then_alloc ?_ _)) (kz.mono hKK)
  go_wp2_with fail
  go_ret2
  exact ⟨rfl, hz.mono hKK, kw⟩
set_option maxRecDepth 100000 in
set_option maxHeartbeats 1000000 in
theorem by_r7 (f : Nat) (hM : MadeSpec f) (K : Nat → Prop) (b : Nat) (ts : List Term) (op x y v : Nat) (w : World) (h : DagAt K w b ts) (hG : Good ts) (hg : K 0) (hT : Tab w) (ho : (doW op 0 0).isSome = true) (hx : x < ts.length) (hl : ts.length + (f + 1) < 1000000000000) (hv : v < 4294967296) (hv1 : 1 < v) (hvm : v ≠ 4294967295) (hp : isPow v = true) (hop : op = 42) (hW : Went ts op x y (ins ts (constT (lg v))) 33 x (pos ts (constT (lg v)))) (hm : mz ts op x y < f + 1) :
    Calls Tryz.prog 99 #[.pointer (some ⟨b, 0, none⟩), .int .i64 op, .int .i64 x, .int .i64 y, .int .u32 v] w (IsPost K b w (madeF f (ins ts (constT (lg v))) 33 x (pos ts (constT (lg v))))) := by
  obtain ⟨K1, h1, hg1, hT1, hc1, hk1, hKK, k1⟩ := boxed K b ts w h hg hT
  have hmf := makeFunc_run
  have htz := tz32_any v hv
  have hone := and_pred hv hv1
  rw [hp] at hone
  have e0 : ((v : Int) == 0) = false := by simp; omega
  have e0' : ((v : Int) != 0) = true := by simp; omega
  have e1 : ((v : Int) == 1) = false := by simp; omega
  have em : ((v : Int) == 4294967295) = false := by simp; omega
  have l1 : (1 : Int) < v := by omega
  subst hop
  have hsh : ∀ w, Calls Tryz.prog 110 #[.int .i64 42] w fun e w' => e = .returned (.bool false) ∧ w.alloc (.cells #[.int .i64 29, .int .i64 33, .int .i64 34] 3) = w' := shift_any 42
  have hlg := ctz_pow hv hp
  have hlt := lg_lt hv hv1
  clear hT h hg
  go_enter Tryz.func99, Tryz.ntmps99
  go_wp2_with (first
    | (go_at_call 98; (with_reducible refine (among3 _ _ _ _ (g := _) (w := _) (hg := by simp)).mono ?_); rintro r w' ⟨rfl, rfl⟩)
    | (go_at_call 98; (with_reducible refine (among2 _ _ _ (g := _) (w := _) (hg := by simp)).mono ?_); rintro r w' ⟨rfl, rfl⟩)
    | (go_at_call 110; (with_reducible refine (shift_any _ _).mono ?_); rintro r w' ⟨rfl, rfl⟩)
    | (go_at_call 110; (with_reducible refine (hsh _).mono ?_); rintro r w' ⟨rfl, rfl⟩)
    | (go_at_call 109; (with_reducible refine (htz _ (by repeat (first | exact hT1 | refine Tab.alloc ?_ _))).mono ?_); rintro r w' ⟨rfl, rfl⟩)
    | fail)
  refine (goes_any f hM K1 b w.heap.size ts 33 x (lg v) _ (by repeat (first | exact h1 | refine DagAt.alloc ?_ _)) hW.good hg1 (by repeat (first | exact hT1 | refine Tab.alloc ?_ _)) hW.ok hx (by omega) (by have := hW.less; omega) hl hk1 (by repeat (first | exact hc1 | refine cell_alloc0 ?_ _))).mono ?_
  rintro r wz ⟨rfl, hz, kz⟩
  have kw := Kept.trans (K := K) (w := w) (by repeat (first | exact k1 | refine Kept.then_alloc ?_ _)) (kz.mono hKK)
  go_wp2_with fail
  go_ret2
  exact ⟨rfl, hz.mono hKK, kw⟩
set_option maxRecDepth 100000 in
set_option maxHeartbeats 1000000 in
theorem by_r8 (f : Nat) (hM : MadeSpec f) (K : Nat → Prop) (b : Nat) (ts : List Term) (op x y v : Nat) (w : World) (h : DagAt K w b ts) (hG : Good ts) (hg : K 0) (hT : Tab w) (ho : (doW op 0 0).isSome = true) (hx : x < ts.length) (hl : ts.length + (f + 1) < 1000000000000) (hv : v < 4294967296) (hv1 : 1 < v) (hvm : v ≠ 4294967295) (hp : isPow v = true) (hop : op = 44) (hW : Went ts op x y (ins ts (constT (v - 1))) 36 x (pos ts (constT (v - 1)))) (hm : mz ts op x y < f + 1) :
    Calls Tryz.prog 99 #[.pointer (some ⟨b, 0, none⟩), .int .i64 op, .int .i64 x, .int .i64 y, .int .u32 v] w (IsPost K b w (madeF f (ins ts (constT (v - 1))) 36 x (pos ts (constT (v - 1))))) := by
  obtain ⟨K1, h1, hg1, hT1, hc1, hk1, hKK, k1⟩ := boxed K b ts w h hg hT
  have hmf := makeFunc_run
  have htz := tz32_any v hv
  have hone := and_pred hv hv1
  rw [hp] at hone
  have e0 : ((v : Int) == 0) = false := by simp; omega
  have e0' : ((v : Int) != 0) = true := by simp; omega
  have e1 : ((v : Int) == 1) = false := by simp; omega
  have em : ((v : Int) == 4294967295) = false := by simp; omega
  have l1 : (1 : Int) < v := by omega
  subst hop
  have hsh : ∀ w, Calls Tryz.prog 110 #[.int .i64 44] w fun e w' => e = .returned (.bool false) ∧ w.alloc (.cells #[.int .i64 29, .int .i64 33, .int .i64 34] 3) = w' := shift_any 44
  have hpred : (v : Int) - 1 = ((v - 1 : Nat) : Int) := by omega
  have HPRED := Lib.hid hpred
  clear hpred
  clear hT h hg
  go_enter Tryz.func99, Tryz.ntmps99
  go_wp2_with (first
    | (go_at_call 98; (with_reducible refine (among3 _ _ _ _ (g := _) (w := _) (hg := by simp)).mono ?_); rintro r w' ⟨rfl, rfl⟩)
    | (go_at_call 98; (with_reducible refine (among2 _ _ _ (g := _) (w := _) (hg := by simp)).mono ?_); rintro r w' ⟨rfl, rfl⟩)
    | (go_at_call 110; (with_reducible refine (shift_any _ _).mono ?_); rintro r w' ⟨rfl, rfl⟩)
    | (go_at_call 110; (with_reducible refine (hsh _).mono ?_); rintro r w' ⟨rfl, rfl⟩)
    | (go_at_call 109; (with_reducible refine (htz _ (by repeat (first | exact hT1 | refine Tab.alloc ?_ _))).mono ?_); rintro r w' ⟨rfl, rfl⟩)
    | fail)
  rw [HPRED.out]
  refine (goes_any f hM K1 b w.heap.size ts 36 x (v - 1) _ (by repeat (first | exact h1 | refine DagAt.alloc ?_ _)) hW.good hg1 (by repeat (first | exact hT1 | refine Tab.alloc ?_ _)) hW.ok hx (by omega) (by have := hW.less; omega) hl hk1 (by repeat (first | exact hc1 | refine cell_alloc0 ?_ _))).mono ?_
  rintro r wz ⟨rfl, hz, kz⟩
  have kw := Kept.trans (K := K) (w := w) (by repeat (first | exact k1 | refine Kept.then_alloc ?_ _)) (kz.mono hKK)
  go_wp2_with fail
  go_ret2
  exact ⟨rfl, hz.mono hKK, kw⟩
end Go.Proofs.YtaiggfknighhgaaGreatDoor
set_option linter.unusedVariables false
set_option linter.unusedSimpArgs false
namespace Go.Proofs.YtaiggfknighhgaaGreatDoor
open Go.RowKit Go.Maps Go.MapKept

set_option maxRecDepth 100000 in
set_option maxHeartbeats 1000000 in
theorem by_d1ng (f : Nat) (hM : MadeSpec f) (K : Nat → Prop) (b : Nat) (ts : List Term) (op x y v : Nat) (w : World) (h : DagAt K w b ts) (hG : Good ts) (hg : K 0) (hT : Tab w) (ho : (doW op 0 0).isSome = true) (hx : x < ts.length) (hl : ts.length + (f + 1) < 1000000000000) (hv : v < 4294967296) (hv1 : 1 < v) (hvm : v ≠ 4294967295) (hp : isPow v = false) (hop : (op = 28 ∨ op = 30 ∨ op = 31 ∨ op = 37 ∨ op = 38 ∨ op = 39 ∨ op = 40 ∨ op = 41 ∨ op = 42 ∨ op = 43 ∨ op = 44)) (t : Term) (ht : ts.getD x default = t) (hk : t.k ≠ 2) :
    Calls Tryz.prog 99 #[.pointer (some ⟨b, 0, none⟩), .int .i64 op, .int .i64 x, .int .i64 y, .int .u32 v] w (NonePost K b w ts) := by
  obtain ⟨K1, h1, hg1, hT1, hc1, hk1, hKK, k1⟩ := boxed K b ts w h hg hT
  have hmf := makeFunc_run
  have htz := tz32_any v hv
  have hone := and_pred hv hv1
  rw [hp] at hone
  have e0 : ((v : Int) == 0) = false := by simp; omega
  have e0' : ((v : Int) != 0) = true := by simp; omega
  have e1 : ((v : Int) == 1) = false := by simp; omega
  have em : ((v : Int) == 4294967295) = false := by simp; omega
  have l1 : (1 : Int) < v := by omega
  have sh : isShift op = false := by simp [isShift]; omega
  have k0 : ((t.k : Int) != 2) = true := by simp; omega
  clear hG ho hT h hg
  clear hk
  go_enter Tryz.func99, Tryz.ntmps99
  go_wp2_with (first
    | (go_at_call 98; (with_reducible refine (among3 _ _ _ _ (g := _) (w := _) (hg := by simp)).mono ?_); rintro r w' ⟨rfl, rfl⟩)
    | (go_at_call 98; (with_reducible refine (among2 _ _ _ (g := _) (w := _) (hg := by simp)).mono ?_); rintro r w' ⟨rfl, rfl⟩)
    | (go_at_call 110; (with_reducible refine (shift_any _ _).mono ?_); rintro r w' ⟨rfl, rfl⟩)
    | (go_at_call 110; (with_reducible refine (hsh _).mono ?_); rintro r w' ⟨rfl, rfl⟩)
    | (go_at_call 109; (with_reducible refine (htz _ (by repeat (first | exact hT1 | refine Tab.alloc ?_ _))).mono ?_); rintro r w' ⟨rfl, rfl⟩)
    | fail)
  have hN : ∀ w, DagAt K1 w b ts → Calls Tryz.prog 34 #[.pointer (some ⟨b, 0, none⟩), .int .i64 x] w fun r w' => r = .returned (.tuple #[.agg #[.int .i64 t.k, .int .u32 t.v, .int .i64 t.op, .int .i64 t.a, .int .i64 t.b], .int .i64 0]) ∧ Below w.heap.size w w' := by
    intro w hw
    have hq := node_any K1 b x ts (by omega) hx w hw
    rw [ht] at hq
    exact hq
  clear ht
  refine (hN _ (by repeat (first | exact h1 | refine DagAt.alloc ?_ _))).mono ?_
  rintro r w2 ⟨rfl, b2⟩
  have h2 := DagAt.below (K := K1) (b := b) (ts := ts) (by repeat (first | exact h1 | refine DagAt.alloc ?_ _)) b2
  have k2 := Kept.then_below (K := K) (w := w) (by repeat (first | exact k1 | refine Kept.then_alloc ?_ _)) b2
  have hT2 := Tab.below (by repeat (first | exact hT1 | refine Tab.alloc ?_ _)) b2
  have hc2 := cell_below (b := w.heap.size) (off := 0) (v := .pointer (some ⟨b, 0, none⟩)) b2 (by repeat (first | exact hc1 | refine cell_alloc0 ?_ _))
  have hne2 : w.heap.size ≠ w2.heap.size := by have := b2.size; simp at this; omega
  have hc2a := cell_alloc0 hc2 (.cells #[.int .i64 t.k, .int .u32 t.v, .int .i64 t.op, .int .i64 t.a, .int .i64 t.b] 68)
  obtain ⟨z0, z1, z2, z3, z4⟩ := five_cells (blk_new w2 (.cells #[.int .i64 t.k, .int .u32 t.v, .int .i64 t.op, .int .i64 t.a, .int .i64 t.b] 68))
  go_wp2_with fail
  go_ret2
  exact ⟨rfl, (h2.alloc _).mono hKK, k2.then_alloc _⟩
set_option maxRecDepth 100000 in
set_option maxHeartbeats 1000000 in
theorem by_d2ng (f : Nat) (hM : MadeSpec f) (K : Nat → Prop) (b : Nat) (ts : List Term) (op x y v : Nat) (w : World) (h : DagAt K w b ts) (hG : Good ts) (hg : K 0) (hT : Tab w) (ho : (doW op 0 0).isSome = true) (hx : x < ts.length) (hl : ts.length + (f + 1) < 1000000000000) (hv : v < 4294967296) (hv1 : 1 < v) (hvm : v ≠ 4294967295) (hp : isPow v = false) (hop : (op = 28 ∨ op = 30 ∨ op = 31 ∨ op = 37 ∨ op = 38 ∨ op = 39 ∨ op = 40 ∨ op = 41 ∨ op = 42 ∨ op = 43 ∨ op = 44)) (u q ta tb : Nat) (ht : ts.getD x default = ⟨2, u, q, ta, tb⟩) (hko : q ≠ op) :
    Calls Tryz.prog 99 #[.pointer (some ⟨b, 0, none⟩), .int .i64 op, .int .i64 x, .int .i64 y, .int .u32 v] w (NonePost K b w ts) := by
  obtain ⟨K1, h1, hg1, hT1, hc1, hk1, hKK, k1⟩ := boxed K b ts w h hg hT
  have hmf := makeFunc_run
  have htz := tz32_any v hv
  have hone := and_pred hv hv1
  rw [hp] at hone
  have e0 : ((v : Int) == 0) = false := by simp; omega
  have e0' : ((v : Int) != 0) = true := by simp; omega
  have e1 : ((v : Int) == 1) = false := by simp; omega
  have em : ((v : Int) == 4294967295) = false := by simp; omega
  have l1 : (1 : Int) < v := by omega
  have sh : isShift op = false := by simp [isShift]; omega
  have o0 : ((q : Int) != (op : Int)) = true := by simp; omega
  clear hG ho hT h hg
  clear hko
  go_enter Tryz.func99, Tryz.ntmps99
  go_wp2_with (first
    | (go_at_call 98; (with_reducible refine (among3 _ _ _ _ (g := _) (w := _) (hg := by simp)).mono ?_); rintro r w' ⟨rfl, rfl⟩)
    | (go_at_call 98; (with_reducible refine (among2 _ _ _ (g := _) (w := _) (hg := by simp)).mono ?_); rintro r w' ⟨rfl, rfl⟩)
    | (go_at_call 110; (with_reducible refine (shift_any _ _).mono ?_); rintro r w' ⟨rfl, rfl⟩)
    | (go_at_call 110; (with_reducible refine (hsh _).mono ?_); rintro r w' ⟨rfl, rfl⟩)
    | (go_at_call 109; (with_reducible refine (htz _ (by repeat (first | exact hT1 | refine Tab.alloc ?_ _))).mono ?_); rintro r w' ⟨rfl, rfl⟩)
    | fail)
  have hN : ∀ w, DagAt K1 w b ts → Calls Tryz.prog 34 #[.pointer (some ⟨b, 0, none⟩), .int .i64 x] w fun r w' => r = .returned (.tuple #[.agg #[.int .i64 2, .int .u32 u, .int .i64 q, .int .i64 ta, .int .i64 tb], .int .i64 0]) ∧ Below w.heap.size w w' := by
    intro w hw
    have hq := node_any K1 b x ts (by omega) hx w hw
    rw [ht] at hq
    exact hq
  clear ht
  refine (hN _ (by repeat (first | exact h1 | refine DagAt.alloc ?_ _))).mono ?_
  rintro r w2 ⟨rfl, b2⟩
  have h2 := DagAt.below (K := K1) (b := b) (ts := ts) (by repeat (first | exact h1 | refine DagAt.alloc ?_ _)) b2
  have k2 := Kept.then_below (K := K) (w := w) (by repeat (first | exact k1 | refine Kept.then_alloc ?_ _)) b2
  have hT2 := Tab.below (by repeat (first | exact hT1 | refine Tab.alloc ?_ _)) b2
  have hc2 := cell_below (b := w.heap.size) (off := 0) (v := .pointer (some ⟨b, 0, none⟩)) b2 (by repeat (first | exact hc1 | refine cell_alloc0 ?_ _))
  have hne2 : w.heap.size ≠ w2.heap.size := by have := b2.size; simp at this; omega
  have hc2a := cell_alloc0 hc2 (.cells #[.int .i64 2, .int .u32 u, .int .i64 q, .int .i64 ta, .int .i64 tb] 68)
  obtain ⟨z0, z1, z2, z3, z4⟩ := five_cells (blk_new w2 (.cells #[.int .i64 2, .int .u32 u, .int .i64 q, .int .i64 ta, .int .i64 tb] 68))
  go_wp2_with fail
  go_ret2
  exact ⟨rfl, (h2.alloc _).mono hKK, k2.then_alloc _⟩
set_option maxRecDepth 100000 in
set_option maxHeartbeats 1000000 in
theorem by_d3ng (f : Nat) (hM : MadeSpec f) (K : Nat → Prop) (b : Nat) (ts : List Term) (op x y v : Nat) (w : World) (h : DagAt K w b ts) (hG : Good ts) (hg : K 0) (hT : Tab w) (ho : (doW op 0 0).isSome = true) (hx : x < ts.length) (hl : ts.length + (f + 1) < 1000000000000) (hv : v < 4294967296) (hv1 : 1 < v) (hvm : v ≠ 4294967295) (hp : isPow v = false) (hop : (op = 28 ∨ op = 30 ∨ op = 31 ∨ op = 37 ∨ op = 38 ∨ op = 39 ∨ op = 40 ∨ op = 41 ∨ op = 42 ∨ op = 43 ∨ op = 44)) (ta tb : Nat) (ht : ts.getD x default = ⟨2, 0, op, ta, tb⟩) (htb : tb < ts.length) (hcb : isC ts tb = false) :
    Calls Tryz.prog 99 #[.pointer (some ⟨b, 0, none⟩), .int .i64 op, .int .i64 x, .int .i64 y, .int .u32 v] w (NonePost K b w ts) := by
  obtain ⟨K1, h1, hg1, hT1, hc1, hk1, hKK, k1⟩ := boxed K b ts w h hg hT
  have hmf := makeFunc_run
  have htz := tz32_any v hv
  have hone := and_pred hv hv1
  rw [hp] at hone
  have e0 : ((v : Int) == 0) = false := by simp; omega
  have e0' : ((v : Int) != 0) = true := by simp; omega
  have e1 : ((v : Int) == 1) = false := by simp; omega
  have em : ((v : Int) == 4294967295) = false := by simp; omega
  have l1 : (1 : Int) < v := by omega
  have sh : isShift op = false := by simp [isShift]; omega
  have hKn := fun w => known_any K1 b tb ts (by omega) htb w
  rw [hcb] at hKn
  clear hcb
  clear hG ho hT h hg
  go_enter Tryz.func99, Tryz.ntmps99
  go_wp2_with (first
    | (go_at_call 98; (with_reducible refine (among3 _ _ _ _ (g := _) (w := _) (hg := by simp)).mono ?_); rintro r w' ⟨rfl, rfl⟩)
    | (go_at_call 98; (with_reducible refine (among2 _ _ _ (g := _) (w := _) (hg := by simp)).mono ?_); rintro r w' ⟨rfl, rfl⟩)
    | (go_at_call 110; (with_reducible refine (shift_any _ _).mono ?_); rintro r w' ⟨rfl, rfl⟩)
    | (go_at_call 110; (with_reducible refine (hsh _).mono ?_); rintro r w' ⟨rfl, rfl⟩)
    | (go_at_call 109; (with_reducible refine (htz _ (by repeat (first | exact hT1 | refine Tab.alloc ?_ _))).mono ?_); rintro r w' ⟨rfl, rfl⟩)
    | fail)
  have hN : ∀ w, DagAt K1 w b ts → Calls Tryz.prog 34 #[.pointer (some ⟨b, 0, none⟩), .int .i64 x] w fun r w' => r = .returned (.tuple #[.agg #[.int .i64 2, .int .u32 0, .int .i64 op, .int .i64 ta, .int .i64 tb], .int .i64 0]) ∧ Below w.heap.size w w' := by
    intro w hw
    have hq := node_any K1 b x ts (by omega) hx w hw
    rw [ht] at hq
    exact hq
  clear ht
  refine (hN _ (by repeat (first | exact h1 | refine DagAt.alloc ?_ _))).mono ?_
  rintro r w2 ⟨rfl, b2⟩
  have h2 := DagAt.below (K := K1) (b := b) (ts := ts) (by repeat (first | exact h1 | refine DagAt.alloc ?_ _)) b2
  have k2 := Kept.then_below (K := K) (w := w) (by repeat (first | exact k1 | refine Kept.then_alloc ?_ _)) b2
  have hT2 := Tab.below (by repeat (first | exact hT1 | refine Tab.alloc ?_ _)) b2
  have hc2 := cell_below (b := w.heap.size) (off := 0) (v := .pointer (some ⟨b, 0, none⟩)) b2 (by repeat (first | exact hc1 | refine cell_alloc0 ?_ _))
  have hne2 : w.heap.size ≠ w2.heap.size := by have := b2.size; simp at this; omega
  have hc2a := cell_alloc0 hc2 (.cells #[.int .i64 2, .int .u32 0, .int .i64 op, .int .i64 ta, .int .i64 tb] 68)
  obtain ⟨z0, z1, z2, z3, z4⟩ := five_cells (blk_new w2 (.cells #[.int .i64 2, .int .u32 0, .int .i64 op, .int .i64 ta, .int .i64 tb] 68))
  go_wp2_with fail
  refine (hKn _ (h2.alloc _)).mono ?_
  rintro r w3 ⟨rfl, b3⟩
  have h3 := (h2.alloc _).below b3
  have k3 := (k2.then_alloc _).then_below b3
  have hT3 := (hT2.alloc _).below b3
  have hc3 := cell_below b3 (cell_alloc0 hc2 _)
  have y3 := cell_below b3 z3
  have y3a := cell_alloc0 y3 (.cells #[.int .i64 27, .int .i64 36, .int .i64 35, .int .i64 32] 3)
  have y3b := cell_alloc0 y3a (.cells #[.int .i64 29, .int .i64 33, .int .i64 34] 3)
  have hc3a := cell_alloc0 hc3 (.cells #[.int .i64 27, .int .i64 36, .int .i64 35, .int .i64 32] 3)
  have hc3b := cell_alloc0 hc3a (.cells #[.int .i64 29, .int .i64 33, .int .i64 34] 3)
  clear z0 z1 z2 z3 z4 hc2 hc2a hne2 hT2 h2 b2
  go_wp2_with fail
  go_ret2
  exact ⟨rfl, DagAt.mono (by repeat (first | exact h3 | refine DagAt.alloc ?_ _)) hKK, (by repeat (first | exact k3 | refine Kept.then_alloc ?_ _))⟩
set_option maxRecDepth 100000 in
set_option maxHeartbeats 1000000 in
theorem by_dnng (f : Nat) (hM : MadeSpec f) (K : Nat → Prop) (b : Nat) (ts : List Term) (op x y v : Nat) (w : World) (h : DagAt K w b ts) (hG : Good ts) (hg : K 0) (hT : Tab w) (ho : (doW op 0 0).isSome = true) (hx : x < ts.length) (hl : ts.length + (f + 1) < 1000000000000) (hv : v < 4294967296) (hv1 : 1 < v) (hvm : v ≠ 4294967295) (hp : isPow v = false) (hop : (op = 28 ∨ op = 30 ∨ op = 31 ∨ op = 37 ∨ op = 38 ∨ op = 39 ∨ op = 40 ∨ op = 41 ∨ op = 42 ∨ op = 43 ∨ op = 44)) (ta tb : Nat) (ht : ts.getD x default = ⟨2, 0, op, ta, tb⟩) (htb : tb < ts.length) (hcb : isC ts tb = true) :
    Calls Tryz.prog 99 #[.pointer (some ⟨b, 0, none⟩), .int .i64 op, .int .i64 x, .int .i64 y, .int .u32 v] w (NonePost K b w ts) := by
  obtain ⟨K1, h1, hg1, hT1, hc1, hk1, hKK, k1⟩ := boxed K b ts w h hg hT
  have hmf := makeFunc_run
  have htz := tz32_any v hv
  have hone := and_pred hv hv1
  rw [hp] at hone
  have e0 : ((v : Int) == 0) = false := by simp; omega
  have e0' : ((v : Int) != 0) = true := by simp; omega
  have e1 : ((v : Int) == 1) = false := by simp; omega
  have em : ((v : Int) == 4294967295) = false := by simp; omega
  have l1 : (1 : Int) < v := by omega
  have sh : isShift op = false := by simp [isShift]; omega
  have hKn := fun w => known_any K1 b tb ts (by omega) htb w
  rw [hcb] at hKn
  clear hcb
  have a4 : hasI (op : Int) [27, 36, 35, 32] = false := by simp [hasI]; omega
  clear hG ho hT h hg
  go_enter Tryz.func99, Tryz.ntmps99
  go_wp2_with (first
    | (go_at_call 98; (with_reducible refine (among3 _ _ _ _ (g := _) (w := _) (hg := by simp)).mono ?_); rintro r w' ⟨rfl, rfl⟩)
    | (go_at_call 98; (with_reducible refine (among2 _ _ _ (g := _) (w := _) (hg := by simp)).mono ?_); rintro r w' ⟨rfl, rfl⟩)
    | (go_at_call 110; (with_reducible refine (shift_any _ _).mono ?_); rintro r w' ⟨rfl, rfl⟩)
    | (go_at_call 110; (with_reducible refine (hsh _).mono ?_); rintro r w' ⟨rfl, rfl⟩)
    | (go_at_call 109; (with_reducible refine (htz _ (by repeat (first | exact hT1 | refine Tab.alloc ?_ _))).mono ?_); rintro r w' ⟨rfl, rfl⟩)
    | fail)
  have hN : ∀ w, DagAt K1 w b ts → Calls Tryz.prog 34 #[.pointer (some ⟨b, 0, none⟩), .int .i64 x] w fun r w' => r = .returned (.tuple #[.agg #[.int .i64 2, .int .u32 0, .int .i64 op, .int .i64 ta, .int .i64 tb], .int .i64 0]) ∧ Below w.heap.size w w' := by
    intro w hw
    have hq := node_any K1 b x ts (by omega) hx w hw
    rw [ht] at hq
    exact hq
  clear ht
  refine (hN _ (by repeat (first | exact h1 | refine DagAt.alloc ?_ _))).mono ?_
  rintro r w2 ⟨rfl, b2⟩
  have h2 := DagAt.below (K := K1) (b := b) (ts := ts) (by repeat (first | exact h1 | refine DagAt.alloc ?_ _)) b2
  have k2 := Kept.then_below (K := K) (w := w) (by repeat (first | exact k1 | refine Kept.then_alloc ?_ _)) b2
  have hT2 := Tab.below (by repeat (first | exact hT1 | refine Tab.alloc ?_ _)) b2
  have hc2 := cell_below (b := w.heap.size) (off := 0) (v := .pointer (some ⟨b, 0, none⟩)) b2 (by repeat (first | exact hc1 | refine cell_alloc0 ?_ _))
  have hne2 : w.heap.size ≠ w2.heap.size := by have := b2.size; simp at this; omega
  have hc2a := cell_alloc0 hc2 (.cells #[.int .i64 2, .int .u32 0, .int .i64 op, .int .i64 ta, .int .i64 tb] 68)
  obtain ⟨z0, z1, z2, z3, z4⟩ := five_cells (blk_new w2 (.cells #[.int .i64 2, .int .u32 0, .int .i64 op, .int .i64 ta, .int .i64 tb] 68))
  go_wp2_with fail
  refine (hKn _ (h2.alloc _)).mono ?_
  rintro r w3 ⟨rfl, b3⟩
  have h3 := (h2.alloc _).below b3
  have k3 := (k2.then_alloc _).then_below b3
  have hT3 := (hT2.alloc _).below b3
  have hc3 := cell_below b3 (cell_alloc0 hc2 _)
  have y3 := cell_below b3 z3
  have y3a := cell_alloc0 y3 (.cells #[.int .i64 27, .int .i64 36, .int .i64 35, .int .i64 32] 3)
  have y3b := cell_alloc0 y3a (.cells #[.int .i64 29, .int .i64 33, .int .i64 34] 3)
  have hc3a := cell_alloc0 hc3 (.cells #[.int .i64 27, .int .i64 36, .int .i64 35, .int .i64 32] 3)
  have hc3b := cell_alloc0 hc3a (.cells #[.int .i64 29, .int .i64 33, .int .i64 34] 3)
  clear z0 z1 z2 z3 z4 hc2 hc2a hne2 hT2 h2 b2
  go_wp2_with (first
    | (go_at_call 98; (with_reducible refine (among4 _ _ _ _ _ (g := _) (w := _) (hg := by simp)).mono ?_); rintro r w' ⟨rfl, rfl⟩)
    | (go_at_call 110; (with_reducible refine (shift_any _ _).mono ?_); rintro r w' ⟨rfl, rfl⟩)
    | (go_at_call 110; (with_reducible refine (hsh _).mono ?_); rintro r w' ⟨rfl, rfl⟩)
    | (go_at_call 42; (with_reducible refine (hDo _).mono ?_); rintro r w' ⟨rfl, rfl⟩)
    | fail)
  go_ret2
  exact ⟨rfl, DagAt.mono (by repeat (first | exact h3 | refine DagAt.alloc ?_ _)) hKK, (by repeat (first | exact k3 | refine Kept.then_alloc ?_ _))⟩
set_option maxRecDepth 100000 in
set_option maxHeartbeats 1000000 in
theorem by_d1np (f : Nat) (hM : MadeSpec f) (K : Nat → Prop) (b : Nat) (ts : List Term) (op x y v : Nat) (w : World) (h : DagAt K w b ts) (hG : Good ts) (hg : K 0) (hT : Tab w) (ho : (doW op 0 0).isSome = true) (hx : x < ts.length) (hl : ts.length + (f + 1) < 1000000000000) (hv : v < 4294967296) (hv1 : 1 < v) (hvm : v ≠ 4294967295) (hp : isPow v = true) (hop : (op = 28 ∨ op = 30 ∨ op = 31 ∨ op = 38 ∨ op = 39 ∨ op = 40 ∨ op = 41 ∨ op = 43)) (t : Term) (ht : ts.getD x default = t) (hk : t.k ≠ 2) :
    Calls Tryz.prog 99 #[.pointer (some ⟨b, 0, none⟩), .int .i64 op, .int .i64 x, .int .i64 y, .int .u32 v] w (NonePost K b w ts) := by
  obtain ⟨K1, h1, hg1, hT1, hc1, hk1, hKK, k1⟩ := boxed K b ts w h hg hT
  have hmf := makeFunc_run
  have htz := tz32_any v hv
  have hone := and_pred hv hv1
  rw [hp] at hone
  have e0 : ((v : Int) == 0) = false := by simp; omega
  have e0' : ((v : Int) != 0) = true := by simp; omega
  have e1 : ((v : Int) == 1) = false := by simp; omega
  have em : ((v : Int) == 4294967295) = false := by simp; omega
  have l1 : (1 : Int) < v := by omega
  have sh : isShift op = false := by simp [isShift]; omega
  have n37 : ((op : Int) == 37) = false := by simp; omega
  have n42 : ((op : Int) == 42) = false := by simp; omega
  have n44 : ((op : Int) == 44) = false := by simp; omega
  have k0 : ((t.k : Int) != 2) = true := by simp; omega
  clear hG ho hT h hg
  clear hk
  go_enter Tryz.func99, Tryz.ntmps99
  go_wp2_with (first
    | (go_at_call 98; (with_reducible refine (among3 _ _ _ _ (g := _) (w := _) (hg := by simp)).mono ?_); rintro r w' ⟨rfl, rfl⟩)
    | (go_at_call 98; (with_reducible refine (among2 _ _ _ (g := _) (w := _) (hg := by simp)).mono ?_); rintro r w' ⟨rfl, rfl⟩)
    | (go_at_call 110; (with_reducible refine (shift_any _ _).mono ?_); rintro r w' ⟨rfl, rfl⟩)
    | (go_at_call 110; (with_reducible refine (hsh _).mono ?_); rintro r w' ⟨rfl, rfl⟩)
    | (go_at_call 109; (with_reducible refine (htz _ (by repeat (first | exact hT1 | refine Tab.alloc ?_ _))).mono ?_); rintro r w' ⟨rfl, rfl⟩)
    | fail)
  have hN : ∀ w, DagAt K1 w b ts → Calls Tryz.prog 34 #[.pointer (some ⟨b, 0, none⟩), .int .i64 x] w fun r w' => r = .returned (.tuple #[.agg #[.int .i64 t.k, .int .u32 t.v, .int .i64 t.op, .int .i64 t.a, .int .i64 t.b], .int .i64 0]) ∧ Below w.heap.size w w' := by
    intro w hw
    have hq := node_any K1 b x ts (by omega) hx w hw
    rw [ht] at hq
    exact hq
  clear ht
  refine (hN _ (by repeat (first | exact h1 | refine DagAt.alloc ?_ _))).mono ?_
  rintro r w2 ⟨rfl, b2⟩
  have h2 := DagAt.below (K := K1) (b := b) (ts := ts) (by repeat (first | exact h1 | refine DagAt.alloc ?_ _)) b2
  have k2 := Kept.then_below (K := K) (w := w) (by repeat (first | exact k1 | refine Kept.then_alloc ?_ _)) b2
  have hT2 := Tab.below (by repeat (first | exact hT1 | refine Tab.alloc ?_ _)) b2
  have hc2 := cell_below (b := w.heap.size) (off := 0) (v := .pointer (some ⟨b, 0, none⟩)) b2 (by repeat (first | exact hc1 | refine cell_alloc0 ?_ _))
  have hne2 : w.heap.size ≠ w2.heap.size := by have := b2.size; simp at this; omega
  have hc2a := cell_alloc0 hc2 (.cells #[.int .i64 t.k, .int .u32 t.v, .int .i64 t.op, .int .i64 t.a, .int .i64 t.b] 68)
  obtain ⟨z0, z1, z2, z3, z4⟩ := five_cells (blk_new w2 (.cells #[.int .i64 t.k, .int .u32 t.v, .int .i64 t.op, .int .i64 t.a, .int .i64 t.b] 68))
  go_wp2_with fail
  go_ret2
  exact ⟨rfl, (h2.alloc _).mono hKK, k2.then_alloc _⟩
set_option maxRecDepth 100000 in
set_option maxHeartbeats 1000000 in
theorem by_d2np (f : Nat) (hM : MadeSpec f) (K : Nat → Prop) (b : Nat) (ts : List Term) (op x y v : Nat) (w : World) (h : DagAt K w b ts) (hG : Good ts) (hg : K 0) (hT : Tab w) (ho : (doW op 0 0).isSome = true) (hx : x < ts.length) (hl : ts.length + (f + 1) < 1000000000000) (hv : v < 4294967296) (hv1 : 1 < v) (hvm : v ≠ 4294967295) (hp : isPow v = true) (hop : (op = 28 ∨ op = 30 ∨ op = 31 ∨ op = 38 ∨ op = 39 ∨ op = 40 ∨ op = 41 ∨ op = 43)) (u q ta tb : Nat) (ht : ts.getD x default = ⟨2, u, q, ta, tb⟩) (hko : q ≠ op) :
    Calls Tryz.prog 99 #[.pointer (some ⟨b, 0, none⟩), .int .i64 op, .int .i64 x, .int .i64 y, .int .u32 v] w (NonePost K b w ts) := by
  obtain ⟨K1, h1, hg1, hT1, hc1, hk1, hKK, k1⟩ := boxed K b ts w h hg hT
  have hmf := makeFunc_run
  have htz := tz32_any v hv
  have hone := and_pred hv hv1
  rw [hp] at hone
  have e0 : ((v : Int) == 0) = false := by simp; omega
  have e0' : ((v : Int) != 0) = true := by simp; omega
  have e1 : ((v : Int) == 1) = false := by simp; omega
  have em : ((v : Int) == 4294967295) = false := by simp; omega
  have l1 : (1 : Int) < v := by omega
  have sh : isShift op = false := by simp [isShift]; omega
  have n37 : ((op : Int) == 37) = false := by simp; omega
  have n42 : ((op : Int) == 42) = false := by simp; omega
  have n44 : ((op : Int) == 44) = false := by simp; omega
  have o0 : ((q : Int) != (op : Int)) = true := by simp; omega
  clear hG ho hT h hg
  clear hko
  go_enter Tryz.func99, Tryz.ntmps99
  go_wp2_with (first
    | (go_at_call 98; (with_reducible refine (among3 _ _ _ _ (g := _) (w := _) (hg := by simp)).mono ?_); rintro r w' ⟨rfl, rfl⟩)
    | (go_at_call 98; (with_reducible refine (among2 _ _ _ (g := _) (w := _) (hg := by simp)).mono ?_); rintro r w' ⟨rfl, rfl⟩)
    | (go_at_call 110; (with_reducible refine (shift_any _ _).mono ?_); rintro r w' ⟨rfl, rfl⟩)
    | (go_at_call 110; (with_reducible refine (hsh _).mono ?_); rintro r w' ⟨rfl, rfl⟩)
    | (go_at_call 109; (with_reducible refine (htz _ (by repeat (first | exact hT1 | refine Tab.alloc ?_ _))).mono ?_); rintro r w' ⟨rfl, rfl⟩)
    | fail)
  have hN : ∀ w, DagAt K1 w b ts → Calls Tryz.prog 34 #[.pointer (some ⟨b, 0, none⟩), .int .i64 x] w fun r w' => r = .returned (.tuple #[.agg #[.int .i64 2, .int .u32 u, .int .i64 q, .int .i64 ta, .int .i64 tb], .int .i64 0]) ∧ Below w.heap.size w w' := by
    intro w hw
    have hq := node_any K1 b x ts (by omega) hx w hw
    rw [ht] at hq
    exact hq
  clear ht
  refine (hN _ (by repeat (first | exact h1 | refine DagAt.alloc ?_ _))).mono ?_
  rintro r w2 ⟨rfl, b2⟩
  have h2 := DagAt.below (K := K1) (b := b) (ts := ts) (by repeat (first | exact h1 | refine DagAt.alloc ?_ _)) b2
  have k2 := Kept.then_below (K := K) (w := w) (by repeat (first | exact k1 | refine Kept.then_alloc ?_ _)) b2
  have hT2 := Tab.below (by repeat (first | exact hT1 | refine Tab.alloc ?_ _)) b2
  have hc2 := cell_below (b := w.heap.size) (off := 0) (v := .pointer (some ⟨b, 0, none⟩)) b2 (by repeat (first | exact hc1 | refine cell_alloc0 ?_ _))
  have hne2 : w.heap.size ≠ w2.heap.size := by have := b2.size; simp at this; omega
  have hc2a := cell_alloc0 hc2 (.cells #[.int .i64 2, .int .u32 u, .int .i64 q, .int .i64 ta, .int .i64 tb] 68)
  obtain ⟨z0, z1, z2, z3, z4⟩ := five_cells (blk_new w2 (.cells #[.int .i64 2, .int .u32 u, .int .i64 q, .int .i64 ta, .int .i64 tb] 68))
  go_wp2_with fail
  go_ret2
  exact ⟨rfl, (h2.alloc _).mono hKK, k2.then_alloc _⟩
set_option maxRecDepth 100000 in
set_option maxHeartbeats 1000000 in
theorem by_d3np (f : Nat) (hM : MadeSpec f) (K : Nat → Prop) (b : Nat) (ts : List Term) (op x y v : Nat) (w : World) (h : DagAt K w b ts) (hG : Good ts) (hg : K 0) (hT : Tab w) (ho : (doW op 0 0).isSome = true) (hx : x < ts.length) (hl : ts.length + (f + 1) < 1000000000000) (hv : v < 4294967296) (hv1 : 1 < v) (hvm : v ≠ 4294967295) (hp : isPow v = true) (hop : (op = 28 ∨ op = 30 ∨ op = 31 ∨ op = 38 ∨ op = 39 ∨ op = 40 ∨ op = 41 ∨ op = 43)) (ta tb : Nat) (ht : ts.getD x default = ⟨2, 0, op, ta, tb⟩) (htb : tb < ts.length) (hcb : isC ts tb = false) :
    Calls Tryz.prog 99 #[.pointer (some ⟨b, 0, none⟩), .int .i64 op, .int .i64 x, .int .i64 y, .int .u32 v] w (NonePost K b w ts) := by
  obtain ⟨K1, h1, hg1, hT1, hc1, hk1, hKK, k1⟩ := boxed K b ts w h hg hT
  have hmf := makeFunc_run
  have htz := tz32_any v hv
  have hone := and_pred hv hv1
  rw [hp] at hone
  have e0 : ((v : Int) == 0) = false := by simp; omega
  have e0' : ((v : Int) != 0) = true := by simp; omega
  have e1 : ((v : Int) == 1) = false := by simp; omega
  have em : ((v : Int) == 4294967295) = false := by simp; omega
  have l1 : (1 : Int) < v := by omega
  have sh : isShift op = false := by simp [isShift]; omega
  have n37 : ((op : Int) == 37) = false := by simp; omega
  have n42 : ((op : Int) == 42) = false := by simp; omega
  have n44 : ((op : Int) == 44) = false := by simp; omega
  have hKn := fun w => known_any K1 b tb ts (by omega) htb w
  rw [hcb] at hKn
  clear hcb
  clear hG ho hT h hg
  go_enter Tryz.func99, Tryz.ntmps99
  go_wp2_with (first
    | (go_at_call 98; (with_reducible refine (among3 _ _ _ _ (g := _) (w := _) (hg := by simp)).mono ?_); rintro r w' ⟨rfl, rfl⟩)
    | (go_at_call 98; (with_reducible refine (among2 _ _ _ (g := _) (w := _) (hg := by simp)).mono ?_); rintro r w' ⟨rfl, rfl⟩)
    | (go_at_call 110; (with_reducible refine (shift_any _ _).mono ?_); rintro r w' ⟨rfl, rfl⟩)
    | (go_at_call 110; (with_reducible refine (hsh _).mono ?_); rintro r w' ⟨rfl, rfl⟩)
    | (go_at_call 109; (with_reducible refine (htz _ (by repeat (first | exact hT1 | refine Tab.alloc ?_ _))).mono ?_); rintro r w' ⟨rfl, rfl⟩)
    | fail)
  have hN : ∀ w, DagAt K1 w b ts → Calls Tryz.prog 34 #[.pointer (some ⟨b, 0, none⟩), .int .i64 x] w fun r w' => r = .returned (.tuple #[.agg #[.int .i64 2, .int .u32 0, .int .i64 op, .int .i64 ta, .int .i64 tb], .int .i64 0]) ∧ Below w.heap.size w w' := by
    intro w hw
    have hq := node_any K1 b x ts (by omega) hx w hw
    rw [ht] at hq
    exact hq
  clear ht
  refine (hN _ (by repeat (first | exact h1 | refine DagAt.alloc ?_ _))).mono ?_
  rintro r w2 ⟨rfl, b2⟩
  have h2 := DagAt.below (K := K1) (b := b) (ts := ts) (by repeat (first | exact h1 | refine DagAt.alloc ?_ _)) b2
  have k2 := Kept.then_below (K := K) (w := w) (by repeat (first | exact k1 | refine Kept.then_alloc ?_ _)) b2
  have hT2 := Tab.below (by repeat (first | exact hT1 | refine Tab.alloc ?_ _)) b2
  have hc2 := cell_below (b := w.heap.size) (off := 0) (v := .pointer (some ⟨b, 0, none⟩)) b2 (by repeat (first | exact hc1 | refine cell_alloc0 ?_ _))
  have hne2 : w.heap.size ≠ w2.heap.size := by have := b2.size; simp at this; omega
  have hc2a := cell_alloc0 hc2 (.cells #[.int .i64 2, .int .u32 0, .int .i64 op, .int .i64 ta, .int .i64 tb] 68)
  obtain ⟨z0, z1, z2, z3, z4⟩ := five_cells (blk_new w2 (.cells #[.int .i64 2, .int .u32 0, .int .i64 op, .int .i64 ta, .int .i64 tb] 68))
  go_wp2_with fail
  refine (hKn _ (h2.alloc _)).mono ?_
  rintro r w3 ⟨rfl, b3⟩
  have h3 := (h2.alloc _).below b3
  have k3 := (k2.then_alloc _).then_below b3
  have hT3 := (hT2.alloc _).below b3
  have hc3 := cell_below b3 (cell_alloc0 hc2 _)
  have y3 := cell_below b3 z3
  have y3a := cell_alloc0 y3 (.cells #[.int .i64 27, .int .i64 36, .int .i64 35, .int .i64 32] 3)
  have y3b := cell_alloc0 y3a (.cells #[.int .i64 29, .int .i64 33, .int .i64 34] 3)
  have hc3a := cell_alloc0 hc3 (.cells #[.int .i64 27, .int .i64 36, .int .i64 35, .int .i64 32] 3)
  have hc3b := cell_alloc0 hc3a (.cells #[.int .i64 29, .int .i64 33, .int .i64 34] 3)
  clear z0 z1 z2 z3 z4 hc2 hc2a hne2 hT2 h2 b2
  go_wp2_with fail
  go_ret2
  exact ⟨rfl, DagAt.mono (by repeat (first | exact h3 | refine DagAt.alloc ?_ _)) hKK, (by repeat (first | exact k3 | refine Kept.then_alloc ?_ _))⟩
set_option maxRecDepth 100000 in
set_option maxHeartbeats 1000000 in
theorem by_dnnp (f : Nat) (hM : MadeSpec f) (K : Nat → Prop) (b : Nat) (ts : List Term) (op x y v : Nat) (w : World) (h : DagAt K w b ts) (hG : Good ts) (hg : K 0) (hT : Tab w) (ho : (doW op 0 0).isSome = true) (hx : x < ts.length) (hl : ts.length + (f + 1) < 1000000000000) (hv : v < 4294967296) (hv1 : 1 < v) (hvm : v ≠ 4294967295) (hp : isPow v = true) (hop : (op = 28 ∨ op = 30 ∨ op = 31 ∨ op = 38 ∨ op = 39 ∨ op = 40 ∨ op = 41 ∨ op = 43)) (ta tb : Nat) (ht : ts.getD x default = ⟨2, 0, op, ta, tb⟩) (htb : tb < ts.length) (hcb : isC ts tb = true) :
    Calls Tryz.prog 99 #[.pointer (some ⟨b, 0, none⟩), .int .i64 op, .int .i64 x, .int .i64 y, .int .u32 v] w (NonePost K b w ts) := by
  obtain ⟨K1, h1, hg1, hT1, hc1, hk1, hKK, k1⟩ := boxed K b ts w h hg hT
  have hmf := makeFunc_run
  have htz := tz32_any v hv
  have hone := and_pred hv hv1
  rw [hp] at hone
  have e0 : ((v : Int) == 0) = false := by simp; omega
  have e0' : ((v : Int) != 0) = true := by simp; omega
  have e1 : ((v : Int) == 1) = false := by simp; omega
  have em : ((v : Int) == 4294967295) = false := by simp; omega
  have l1 : (1 : Int) < v := by omega
  have sh : isShift op = false := by simp [isShift]; omega
  have n37 : ((op : Int) == 37) = false := by simp; omega
  have n42 : ((op : Int) == 42) = false := by simp; omega
  have n44 : ((op : Int) == 44) = false := by simp; omega
  have hKn := fun w => known_any K1 b tb ts (by omega) htb w
  rw [hcb] at hKn
  clear hcb
  have a4 : hasI (op : Int) [27, 36, 35, 32] = false := by simp [hasI]; omega
  clear hG ho hT h hg
  go_enter Tryz.func99, Tryz.ntmps99
  go_wp2_with (first
    | (go_at_call 98; (with_reducible refine (among3 _ _ _ _ (g := _) (w := _) (hg := by simp)).mono ?_); rintro r w' ⟨rfl, rfl⟩)
    | (go_at_call 98; (with_reducible refine (among2 _ _ _ (g := _) (w := _) (hg := by simp)).mono ?_); rintro r w' ⟨rfl, rfl⟩)
    | (go_at_call 110; (with_reducible refine (shift_any _ _).mono ?_); rintro r w' ⟨rfl, rfl⟩)
    | (go_at_call 110; (with_reducible refine (hsh _).mono ?_); rintro r w' ⟨rfl, rfl⟩)
    | (go_at_call 109; (with_reducible refine (htz _ (by repeat (first | exact hT1 | refine Tab.alloc ?_ _))).mono ?_); rintro r w' ⟨rfl, rfl⟩)
    | fail)
  have hN : ∀ w, DagAt K1 w b ts → Calls Tryz.prog 34 #[.pointer (some ⟨b, 0, none⟩), .int .i64 x] w fun r w' => r = .returned (.tuple #[.agg #[.int .i64 2, .int .u32 0, .int .i64 op, .int .i64 ta, .int .i64 tb], .int .i64 0]) ∧ Below w.heap.size w w' := by
    intro w hw
    have hq := node_any K1 b x ts (by omega) hx w hw
    rw [ht] at hq
    exact hq
  clear ht
  refine (hN _ (by repeat (first | exact h1 | refine DagAt.alloc ?_ _))).mono ?_
  rintro r w2 ⟨rfl, b2⟩
  have h2 := DagAt.below (K := K1) (b := b) (ts := ts) (by repeat (first | exact h1 | refine DagAt.alloc ?_ _)) b2
  have k2 := Kept.then_below (K := K) (w := w) (by repeat (first | exact k1 | refine Kept.then_alloc ?_ _)) b2
  have hT2 := Tab.below (by repeat (first | exact hT1 | refine Tab.alloc ?_ _)) b2
  have hc2 := cell_below (b := w.heap.size) (off := 0) (v := .pointer (some ⟨b, 0, none⟩)) b2 (by repeat (first | exact hc1 | refine cell_alloc0 ?_ _))
  have hne2 : w.heap.size ≠ w2.heap.size := by have := b2.size; simp at this; omega
  have hc2a := cell_alloc0 hc2 (.cells #[.int .i64 2, .int .u32 0, .int .i64 op, .int .i64 ta, .int .i64 tb] 68)
  obtain ⟨z0, z1, z2, z3, z4⟩ := five_cells (blk_new w2 (.cells #[.int .i64 2, .int .u32 0, .int .i64 op, .int .i64 ta, .int .i64 tb] 68))
  go_wp2_with fail
  refine (hKn _ (h2.alloc _)).mono ?_
  rintro r w3 ⟨rfl, b3⟩
  have h3 := (h2.alloc _).below b3
  have k3 := (k2.then_alloc _).then_below b3
  have hT3 := (hT2.alloc _).below b3
  have hc3 := cell_below b3 (cell_alloc0 hc2 _)
  have y3 := cell_below b3 z3
  have y3a := cell_alloc0 y3 (.cells #[.int .i64 27, .int .i64 36, .int .i64 35, .int .i64 32] 3)
  have y3b := cell_alloc0 y3a (.cells #[.int .i64 29, .int .i64 33, .int .i64 34] 3)
  have hc3a := cell_alloc0 hc3 (.cells #[.int .i64 27, .int .i64 36, .int .i64 35, .int .i64 32] 3)
  have hc3b := cell_alloc0 hc3a (.cells #[.int .i64 29, .int .i64 33, .int .i64 34] 3)
  clear z0 z1 z2 z3 z4 hc2 hc2a hne2 hT2 h2 b2
  go_wp2_with (first
    | (go_at_call 98; (with_reducible refine (among4 _ _ _ _ _ (g := _) (w := _) (hg := by simp)).mono ?_); rintro r w' ⟨rfl, rfl⟩)
    | (go_at_call 110; (with_reducible refine (shift_any _ _).mono ?_); rintro r w' ⟨rfl, rfl⟩)
    | (go_at_call 110; (with_reducible refine (hsh _).mono ?_); rintro r w' ⟨rfl, rfl⟩)
    | (go_at_call 42; (with_reducible refine (hDo _).mono ?_); rintro r w' ⟨rfl, rfl⟩)
    | fail)
  go_ret2
  exact ⟨rfl, DagAt.mono (by repeat (first | exact h3 | refine DagAt.alloc ?_ _)) hKK, (by repeat (first | exact k3 | refine Kept.then_alloc ?_ _))⟩
set_option maxRecDepth 100000 in
set_option maxHeartbeats 1000000 in
theorem by_d1ag (f : Nat) (hM : MadeSpec f) (K : Nat → Prop) (b : Nat) (ts : List Term) (op x y v : Nat) (w : World) (h : DagAt K w b ts) (hG : Good ts) (hg : K 0) (hT : Tab w) (ho : (doW op 0 0).isSome = true) (hx : x < ts.length) (hl : ts.length + (f + 1) < 1000000000000) (hv : v < 4294967296) (hv1 : 1 < v) (hvm : v ≠ 4294967295) (hp : isPow v = false) (hop : (op = 27 ∨ op = 36 ∨ op = 35 ∨ op = 32)) (t : Term) (ht : ts.getD x default = t) (hk : t.k ≠ 2) :
    Calls Tryz.prog 99 #[.pointer (some ⟨b, 0, none⟩), .int .i64 op, .int .i64 x, .int .i64 y, .int .u32 v] w (NonePost K b w ts) := by
  obtain ⟨K1, h1, hg1, hT1, hc1, hk1, hKK, k1⟩ := boxed K b ts w h hg hT
  have hmf := makeFunc_run
  have htz := tz32_any v hv
  have hone := and_pred hv hv1
  rw [hp] at hone
  have e0 : ((v : Int) == 0) = false := by simp; omega
  have e0' : ((v : Int) != 0) = true := by simp; omega
  have e1 : ((v : Int) == 1) = false := by simp; omega
  have em : ((v : Int) == 4294967295) = false := by simp; omega
  have l1 : (1 : Int) < v := by omega
  have sh : isShift op = false := by simp [isShift]; omega
  have k0 : ((t.k : Int) != 2) = true := by simp; omega
  clear hG ho hT h hg
  clear hk
  go_enter Tryz.func99, Tryz.ntmps99
  go_wp2_with (first
    | (go_at_call 98; (with_reducible refine (among3 _ _ _ _ (g := _) (w := _) (hg := by simp)).mono ?_); rintro r w' ⟨rfl, rfl⟩)
    | (go_at_call 98; (with_reducible refine (among2 _ _ _ (g := _) (w := _) (hg := by simp)).mono ?_); rintro r w' ⟨rfl, rfl⟩)
    | (go_at_call 110; (with_reducible refine (shift_any _ _).mono ?_); rintro r w' ⟨rfl, rfl⟩)
    | (go_at_call 110; (with_reducible refine (hsh _).mono ?_); rintro r w' ⟨rfl, rfl⟩)
    | (go_at_call 109; (with_reducible refine (htz _ (by repeat (first | exact hT1 | refine Tab.alloc ?_ _))).mono ?_); rintro r w' ⟨rfl, rfl⟩)
    | fail)
  have hN : ∀ w, DagAt K1 w b ts → Calls Tryz.prog 34 #[.pointer (some ⟨b, 0, none⟩), .int .i64 x] w fun r w' => r = .returned (.tuple #[.agg #[.int .i64 t.k, .int .u32 t.v, .int .i64 t.op, .int .i64 t.a, .int .i64 t.b], .int .i64 0]) ∧ Below w.heap.size w w' := by
    intro w hw
    have hq := node_any K1 b x ts (by omega) hx w hw
    rw [ht] at hq
    exact hq
  clear ht
  refine (hN _ (by repeat (first | exact h1 | refine DagAt.alloc ?_ _))).mono ?_
  rintro r w2 ⟨rfl, b2⟩
  have h2 := DagAt.below (K := K1) (b := b) (ts := ts) (by repeat (first | exact h1 | refine DagAt.alloc ?_ _)) b2
  have k2 := Kept.then_below (K := K) (w := w) (by repeat (first | exact k1 | refine Kept.then_alloc ?_ _)) b2
  have hT2 := Tab.below (by repeat (first | exact hT1 | refine Tab.alloc ?_ _)) b2
  have hc2 := cell_below (b := w.heap.size) (off := 0) (v := .pointer (some ⟨b, 0, none⟩)) b2 (by repeat (first | exact hc1 | refine cell_alloc0 ?_ _))
  have hne2 : w.heap.size ≠ w2.heap.size := by have := b2.size; simp at this; omega
  have hc2a := cell_alloc0 hc2 (.cells #[.int .i64 t.k, .int .u32 t.v, .int .i64 t.op, .int .i64 t.a, .int .i64 t.b] 68)
  obtain ⟨z0, z1, z2, z3, z4⟩ := five_cells (blk_new w2 (.cells #[.int .i64 t.k, .int .u32 t.v, .int .i64 t.op, .int .i64 t.a, .int .i64 t.b] 68))
  go_wp2_with fail
  go_ret2
  exact ⟨rfl, (h2.alloc _).mono hKK, k2.then_alloc _⟩
set_option maxRecDepth 100000 in
set_option maxHeartbeats 1000000 in
theorem by_d2ag (f : Nat) (hM : MadeSpec f) (K : Nat → Prop) (b : Nat) (ts : List Term) (op x y v : Nat) (w : World) (h : DagAt K w b ts) (hG : Good ts) (hg : K 0) (hT : Tab w) (ho : (doW op 0 0).isSome = true) (hx : x < ts.length) (hl : ts.length + (f + 1) < 1000000000000) (hv : v < 4294967296) (hv1 : 1 < v) (hvm : v ≠ 4294967295) (hp : isPow v = false) (hop : (op = 27 ∨ op = 36 ∨ op = 35 ∨ op = 32)) (u q ta tb : Nat) (ht : ts.getD x default = ⟨2, u, q, ta, tb⟩) (hko : q ≠ op) :
    Calls Tryz.prog 99 #[.pointer (some ⟨b, 0, none⟩), .int .i64 op, .int .i64 x, .int .i64 y, .int .u32 v] w (NonePost K b w ts) := by
  obtain ⟨K1, h1, hg1, hT1, hc1, hk1, hKK, k1⟩ := boxed K b ts w h hg hT
  have hmf := makeFunc_run
  have htz := tz32_any v hv
  have hone := and_pred hv hv1
  rw [hp] at hone
  have e0 : ((v : Int) == 0) = false := by simp; omega
  have e0' : ((v : Int) != 0) = true := by simp; omega
  have e1 : ((v : Int) == 1) = false := by simp; omega
  have em : ((v : Int) == 4294967295) = false := by simp; omega
  have l1 : (1 : Int) < v := by omega
  have sh : isShift op = false := by simp [isShift]; omega
  have o0 : ((q : Int) != (op : Int)) = true := by simp; omega
  clear hG ho hT h hg
  clear hko
  go_enter Tryz.func99, Tryz.ntmps99
  go_wp2_with (first
    | (go_at_call 98; (with_reducible refine (among3 _ _ _ _ (g := _) (w := _) (hg := by simp)).mono ?_); rintro r w' ⟨rfl, rfl⟩)
    | (go_at_call 98; (with_reducible refine (among2 _ _ _ (g := _) (w := _) (hg := by simp)).mono ?_); rintro r w' ⟨rfl, rfl⟩)
    | (go_at_call 110; (with_reducible refine (shift_any _ _).mono ?_); rintro r w' ⟨rfl, rfl⟩)
    | (go_at_call 110; (with_reducible refine (hsh _).mono ?_); rintro r w' ⟨rfl, rfl⟩)
    | (go_at_call 109; (with_reducible refine (htz _ (by repeat (first | exact hT1 | refine Tab.alloc ?_ _))).mono ?_); rintro r w' ⟨rfl, rfl⟩)
    | fail)
  have hN : ∀ w, DagAt K1 w b ts → Calls Tryz.prog 34 #[.pointer (some ⟨b, 0, none⟩), .int .i64 x] w fun r w' => r = .returned (.tuple #[.agg #[.int .i64 2, .int .u32 u, .int .i64 q, .int .i64 ta, .int .i64 tb], .int .i64 0]) ∧ Below w.heap.size w w' := by
    intro w hw
    have hq := node_any K1 b x ts (by omega) hx w hw
    rw [ht] at hq
    exact hq
  clear ht
  refine (hN _ (by repeat (first | exact h1 | refine DagAt.alloc ?_ _))).mono ?_
  rintro r w2 ⟨rfl, b2⟩
  have h2 := DagAt.below (K := K1) (b := b) (ts := ts) (by repeat (first | exact h1 | refine DagAt.alloc ?_ _)) b2
  have k2 := Kept.then_below (K := K) (w := w) (by repeat (first | exact k1 | refine Kept.then_alloc ?_ _)) b2
  have hT2 := Tab.below (by repeat (first | exact hT1 | refine Tab.alloc ?_ _)) b2
  have hc2 := cell_below (b := w.heap.size) (off := 0) (v := .pointer (some ⟨b, 0, none⟩)) b2 (by repeat (first | exact hc1 | refine cell_alloc0 ?_ _))
  have hne2 : w.heap.size ≠ w2.heap.size := by have := b2.size; simp at this; omega
  have hc2a := cell_alloc0 hc2 (.cells #[.int .i64 2, .int .u32 u, .int .i64 q, .int .i64 ta, .int .i64 tb] 68)
  obtain ⟨z0, z1, z2, z3, z4⟩ := five_cells (blk_new w2 (.cells #[.int .i64 2, .int .u32 u, .int .i64 q, .int .i64 ta, .int .i64 tb] 68))
  go_wp2_with fail
  go_ret2
  exact ⟨rfl, (h2.alloc _).mono hKK, k2.then_alloc _⟩
set_option maxRecDepth 100000 in
set_option maxHeartbeats 1000000 in
theorem by_d3ag (f : Nat) (hM : MadeSpec f) (K : Nat → Prop) (b : Nat) (ts : List Term) (op x y v : Nat) (w : World) (h : DagAt K w b ts) (hG : Good ts) (hg : K 0) (hT : Tab w) (ho : (doW op 0 0).isSome = true) (hx : x < ts.length) (hl : ts.length + (f + 1) < 1000000000000) (hv : v < 4294967296) (hv1 : 1 < v) (hvm : v ≠ 4294967295) (hp : isPow v = false) (hop : (op = 27 ∨ op = 36 ∨ op = 35 ∨ op = 32)) (ta tb : Nat) (ht : ts.getD x default = ⟨2, 0, op, ta, tb⟩) (htb : tb < ts.length) (hcb : isC ts tb = false) :
    Calls Tryz.prog 99 #[.pointer (some ⟨b, 0, none⟩), .int .i64 op, .int .i64 x, .int .i64 y, .int .u32 v] w (NonePost K b w ts) := by
  obtain ⟨K1, h1, hg1, hT1, hc1, hk1, hKK, k1⟩ := boxed K b ts w h hg hT
  have hmf := makeFunc_run
  have htz := tz32_any v hv
  have hone := and_pred hv hv1
  rw [hp] at hone
  have e0 : ((v : Int) == 0) = false := by simp; omega
  have e0' : ((v : Int) != 0) = true := by simp; omega
  have e1 : ((v : Int) == 1) = false := by simp; omega
  have em : ((v : Int) == 4294967295) = false := by simp; omega
  have l1 : (1 : Int) < v := by omega
  have sh : isShift op = false := by simp [isShift]; omega
  have hKn := fun w => known_any K1 b tb ts (by omega) htb w
  rw [hcb] at hKn
  clear hcb
  clear hG ho hT h hg
  go_enter Tryz.func99, Tryz.ntmps99
  go_wp2_with (first
    | (go_at_call 98; (with_reducible refine (among3 _ _ _ _ (g := _) (w := _) (hg := by simp)).mono ?_); rintro r w' ⟨rfl, rfl⟩)
    | (go_at_call 98; (with_reducible refine (among2 _ _ _ (g := _) (w := _) (hg := by simp)).mono ?_); rintro r w' ⟨rfl, rfl⟩)
    | (go_at_call 110; (with_reducible refine (shift_any _ _).mono ?_); rintro r w' ⟨rfl, rfl⟩)
    | (go_at_call 110; (with_reducible refine (hsh _).mono ?_); rintro r w' ⟨rfl, rfl⟩)
    | (go_at_call 109; (with_reducible refine (htz _ (by repeat (first | exact hT1 | refine Tab.alloc ?_ _))).mono ?_); rintro r w' ⟨rfl, rfl⟩)
    | fail)
  have hN : ∀ w, DagAt K1 w b ts → Calls Tryz.prog 34 #[.pointer (some ⟨b, 0, none⟩), .int .i64 x] w fun r w' => r = .returned (.tuple #[.agg #[.int .i64 2, .int .u32 0, .int .i64 op, .int .i64 ta, .int .i64 tb], .int .i64 0]) ∧ Below w.heap.size w w' := by
    intro w hw
    have hq := node_any K1 b x ts (by omega) hx w hw
    rw [ht] at hq
    exact hq
  clear ht
  refine (hN _ (by repeat (first | exact h1 | refine DagAt.alloc ?_ _))).mono ?_
  rintro r w2 ⟨rfl, b2⟩
  have h2 := DagAt.below (K := K1) (b := b) (ts := ts) (by repeat (first | exact h1 | refine DagAt.alloc ?_ _)) b2
  have k2 := Kept.then_below (K := K) (w := w) (by repeat (first | exact k1 | refine Kept.then_alloc ?_ _)) b2
  have hT2 := Tab.below (by repeat (first | exact hT1 | refine Tab.alloc ?_ _)) b2
  have hc2 := cell_below (b := w.heap.size) (off := 0) (v := .pointer (some ⟨b, 0, none⟩)) b2 (by repeat (first | exact hc1 | refine cell_alloc0 ?_ _))
  have hne2 : w.heap.size ≠ w2.heap.size := by have := b2.size; simp at this; omega
  have hc2a := cell_alloc0 hc2 (.cells #[.int .i64 2, .int .u32 0, .int .i64 op, .int .i64 ta, .int .i64 tb] 68)
  obtain ⟨z0, z1, z2, z3, z4⟩ := five_cells (blk_new w2 (.cells #[.int .i64 2, .int .u32 0, .int .i64 op, .int .i64 ta, .int .i64 tb] 68))
  go_wp2_with fail
  refine (hKn _ (h2.alloc _)).mono ?_
  rintro r w3 ⟨rfl, b3⟩
  have h3 := (h2.alloc _).below b3
  have k3 := (k2.then_alloc _).then_below b3
  have hT3 := (hT2.alloc _).below b3
  have hc3 := cell_below b3 (cell_alloc0 hc2 _)
  have y3 := cell_below b3 z3
  have y3a := cell_alloc0 y3 (.cells #[.int .i64 27, .int .i64 36, .int .i64 35, .int .i64 32] 3)
  have y3b := cell_alloc0 y3a (.cells #[.int .i64 29, .int .i64 33, .int .i64 34] 3)
  have hc3a := cell_alloc0 hc3 (.cells #[.int .i64 27, .int .i64 36, .int .i64 35, .int .i64 32] 3)
  have hc3b := cell_alloc0 hc3a (.cells #[.int .i64 29, .int .i64 33, .int .i64 34] 3)
  clear z0 z1 z2 z3 z4 hc2 hc2a hne2 hT2 h2 b2
  go_wp2_with fail
  go_ret2
  exact ⟨rfl, DagAt.mono (by repeat (first | exact h3 | refine DagAt.alloc ?_ _)) hKK, (by repeat (first | exact k3 | refine Kept.then_alloc ?_ _))⟩
set_option maxRecDepth 100000 in
set_option maxHeartbeats 1000000 in
theorem by_daag (f : Nat) (hM : MadeSpec f) (K : Nat → Prop) (b : Nat) (ts : List Term) (op x y v : Nat) (w : World) (h : DagAt K w b ts) (hG : Good ts) (hg : K 0) (hT : Tab w) (ho : (doW op 0 0).isSome = true) (hx : x < ts.length) (hl : ts.length + (f + 1) < 1000000000000) (hv : v < 4294967296) (hv1 : 1 < v) (hvm : v ≠ 4294967295) (hp : isPow v = false) (hop : (op = 27 ∨ op = 36 ∨ op = 35 ∨ op = 32)) (ta tb : Nat) (ht : ts.getD x default = ⟨2, 0, op, ta, tb⟩) (htb : tb < ts.length) (hcb : isC ts tb = true) (hta : ta < ts.length) (hq : wd ts tb < 4294967296) (hW : Went ts op x y (ins ts (constT ((doW op (wd ts tb) v).getD 0))) op ta (pos ts (constT ((doW op (wd ts tb) v).getD 0)))) (hm : mz ts op x y < f + 1) :
    Calls Tryz.prog 99 #[.pointer (some ⟨b, 0, none⟩), .int .i64 op, .int .i64 x, .int .i64 y, .int .u32 v] w (IsPost K b w (madeF f (ins ts (constT ((doW op (wd ts tb) v).getD 0))) op ta (pos ts (constT ((doW op (wd ts tb) v).getD 0))))) := by
  obtain ⟨K1, h1, hg1, hT1, hc1, hk1, hKK, k1⟩ := boxed K b ts w h hg hT
  have hmf := makeFunc_run
  have htz := tz32_any v hv
  have hone := and_pred hv hv1
  rw [hp] at hone
  have e0 : ((v : Int) == 0) = false := by simp; omega
  have e0' : ((v : Int) != 0) = true := by simp; omega
  have e1 : ((v : Int) == 1) = false := by simp; omega
  have em : ((v : Int) == 4294967295) = false := by simp; omega
  have l1 : (1 : Int) < v := by omega
  have sh : isShift op = false := by simp [isShift]; omega
  have hKn := fun w => known_any K1 b tb ts (by omega) htb w
  rw [hcb] at hKn
  clear hcb
  have a4 : hasI (op : Int) [27, 36, 35, 32] = true := by simp [hasI]; omega
  have hDo : ∀ w, Calls Tryz.prog 42 #[.int .i64 op, .int .u32 (wd ts tb : Nat), .int .u32 v] w fun r w' => r = .returned (.tuple #[.int .u32 (((doW op (wd ts tb) v).getD 0 : Nat) : Int), .int .i64 0]) ∧ w = w' := do_any op ho (wd ts tb) v hq hv
  have hu := doW_lt ho hq (b := v) hv
  clear hT h hg
  go_enter Tryz.func99, Tryz.ntmps99
  go_wp2_with (first
    | (go_at_call 98; (with_reducible refine (among3 _ _ _ _ (g := _) (w := _) (hg := by simp)).mono ?_); rintro r w' ⟨rfl, rfl⟩)
    | (go_at_call 98; (with_reducible refine (among2 _ _ _ (g := _) (w := _) (hg := by simp)).mono ?_); rintro r w' ⟨rfl, rfl⟩)
    | (go_at_call 110; (with_reducible refine (shift_any _ _).mono ?_); rintro r w' ⟨rfl, rfl⟩)
    | (go_at_call 110; (with_reducible refine (hsh _).mono ?_); rintro r w' ⟨rfl, rfl⟩)
    | (go_at_call 109; (with_reducible refine (htz _ (by repeat (first | exact hT1 | refine Tab.alloc ?_ _))).mono ?_); rintro r w' ⟨rfl, rfl⟩)
    | fail)
  have hN : ∀ w, DagAt K1 w b ts → Calls Tryz.prog 34 #[.pointer (some ⟨b, 0, none⟩), .int .i64 x] w fun r w' => r = .returned (.tuple #[.agg #[.int .i64 2, .int .u32 0, .int .i64 op, .int .i64 ta, .int .i64 tb], .int .i64 0]) ∧ Below w.heap.size w w' := by
    intro w hw
    have hq := node_any K1 b x ts (by omega) hx w hw
    rw [ht] at hq
    exact hq
  clear ht
  refine (hN _ (by repeat (first | exact h1 | refine DagAt.alloc ?_ _))).mono ?_
  rintro r w2 ⟨rfl, b2⟩
  have h2 := DagAt.below (K := K1) (b := b) (ts := ts) (by repeat (first | exact h1 | refine DagAt.alloc ?_ _)) b2
  have k2 := Kept.then_below (K := K) (w := w) (by repeat (first | exact k1 | refine Kept.then_alloc ?_ _)) b2
  have hT2 := Tab.below (by repeat (first | exact hT1 | refine Tab.alloc ?_ _)) b2
  have hc2 := cell_below (b := w.heap.size) (off := 0) (v := .pointer (some ⟨b, 0, none⟩)) b2 (by repeat (first | exact hc1 | refine cell_alloc0 ?_ _))
  have hne2 : w.heap.size ≠ w2.heap.size := by have := b2.size; simp at this; omega
  have hc2a := cell_alloc0 hc2 (.cells #[.int .i64 2, .int .u32 0, .int .i64 op, .int .i64 ta, .int .i64 tb] 68)
  obtain ⟨z0, z1, z2, z3, z4⟩ := five_cells (blk_new w2 (.cells #[.int .i64 2, .int .u32 0, .int .i64 op, .int .i64 ta, .int .i64 tb] 68))
  go_wp2_with fail
  refine (hKn _ (h2.alloc _)).mono ?_
  rintro r w3 ⟨rfl, b3⟩
  have h3 := (h2.alloc _).below b3
  have k3 := (k2.then_alloc _).then_below b3
  have hT3 := (hT2.alloc _).below b3
  have hc3 := cell_below b3 (cell_alloc0 hc2 _)
  have y3 := cell_below b3 z3
  have y3a := cell_alloc0 y3 (.cells #[.int .i64 27, .int .i64 36, .int .i64 35, .int .i64 32] 3)
  have y3b := cell_alloc0 y3a (.cells #[.int .i64 29, .int .i64 33, .int .i64 34] 3)
  have hc3a := cell_alloc0 hc3 (.cells #[.int .i64 27, .int .i64 36, .int .i64 35, .int .i64 32] 3)
  have hc3b := cell_alloc0 hc3a (.cells #[.int .i64 29, .int .i64 33, .int .i64 34] 3)
  clear z0 z1 z2 z3 z4 hc2 hc2a hne2 hT2 h2 b2
  go_wp2_with (first
    | (go_at_call 98; (with_reducible refine (among4 _ _ _ _ _ (g := _) (w := _) (hg := by simp)).mono ?_); rintro r w' ⟨rfl, rfl⟩)
    | (go_at_call 110; (with_reducible refine (shift_any _ _).mono ?_); rintro r w' ⟨rfl, rfl⟩)
    | (go_at_call 110; (with_reducible refine (hsh _).mono ?_); rintro r w' ⟨rfl, rfl⟩)
    | (go_at_call 42; (with_reducible refine (hDo _).mono ?_); rintro r w' ⟨rfl, rfl⟩)
    | fail)
  refine (goes_any f hM K1 b w.heap.size ts op ta ((doW op (wd ts tb) v).getD 0) _ (by repeat (first | exact h3 | refine DagAt.alloc ?_ _)) hW.good hg1 (by repeat (first | exact hT3 | refine Tab.alloc ?_ _)) hW.ok hta hu (by have := hW.less; omega) hl hk1 (by repeat (first | exact hc3 | refine cell_alloc0 ?_ _))).mono ?_
  rintro r wz ⟨rfl, hz, kz⟩
  have kw := Kept.trans (K := K) (w := w) (by repeat (first | exact k3 | refine Kept.then_alloc ?_ _)) (kz.mono hKK)
  go_wp2_with fail
  go_ret2
  exact ⟨rfl, hz.mono hKK, kw⟩
set_option maxRecDepth 100000 in
set_option maxHeartbeats 1000000 in
theorem by_d1ap (f : Nat) (hM : MadeSpec f) (K : Nat → Prop) (b : Nat) (ts : List Term) (op x y v : Nat) (w : World) (h : DagAt K w b ts) (hG : Good ts) (hg : K 0) (hT : Tab w) (ho : (doW op 0 0).isSome = true) (hx : x < ts.length) (hl : ts.length + (f + 1) < 1000000000000) (hv : v < 4294967296) (hv1 : 1 < v) (hvm : v ≠ 4294967295) (hp : isPow v = true) (hop : (op = 27 ∨ op = 36 ∨ op = 35 ∨ op = 32)) (t : Term) (ht : ts.getD x default = t) (hk : t.k ≠ 2) :
    Calls Tryz.prog 99 #[.pointer (some ⟨b, 0, none⟩), .int .i64 op, .int .i64 x, .int .i64 y, .int .u32 v] w (NonePost K b w ts) := by
  obtain ⟨K1, h1, hg1, hT1, hc1, hk1, hKK, k1⟩ := boxed K b ts w h hg hT
  have hmf := makeFunc_run
  have htz := tz32_any v hv
  have hone := and_pred hv hv1
  rw [hp] at hone
  have e0 : ((v : Int) == 0) = false := by simp; omega
  have e0' : ((v : Int) != 0) = true := by simp; omega
  have e1 : ((v : Int) == 1) = false := by simp; omega
  have em : ((v : Int) == 4294967295) = false := by simp; omega
  have l1 : (1 : Int) < v := by omega
  have sh : isShift op = false := by simp [isShift]; omega
  have n37 : ((op : Int) == 37) = false := by simp; omega
  have n42 : ((op : Int) == 42) = false := by simp; omega
  have n44 : ((op : Int) == 44) = false := by simp; omega
  have k0 : ((t.k : Int) != 2) = true := by simp; omega
  clear hG ho hT h hg
  clear hk
  go_enter Tryz.func99, Tryz.ntmps99
  go_wp2_with (first
    | (go_at_call 98; (with_reducible refine (among3 _ _ _ _ (g := _) (w := _) (hg := by simp)).mono ?_); rintro r w' ⟨rfl, rfl⟩)
    | (go_at_call 98; (with_reducible refine (among2 _ _ _ (g := _) (w := _) (hg := by simp)).mono ?_); rintro r w' ⟨rfl, rfl⟩)
    | (go_at_call 110; (with_reducible refine (shift_any _ _).mono ?_); rintro r w' ⟨rfl, rfl⟩)
    | (go_at_call 110; (with_reducible refine (hsh _).mono ?_); rintro r w' ⟨rfl, rfl⟩)
    | (go_at_call 109; (with_reducible refine (htz _ (by repeat (first | exact hT1 | refine Tab.alloc ?_ _))).mono ?_); rintro r w' ⟨rfl, rfl⟩)
    | fail)
  have hN : ∀ w, DagAt K1 w b ts → Calls Tryz.prog 34 #[.pointer (some ⟨b, 0, none⟩), .int .i64 x] w fun r w' => r = .returned (.tuple #[.agg #[.int .i64 t.k, .int .u32 t.v, .int .i64 t.op, .int .i64 t.a, .int .i64 t.b], .int .i64 0]) ∧ Below w.heap.size w w' := by
    intro w hw
    have hq := node_any K1 b x ts (by omega) hx w hw
    rw [ht] at hq
    exact hq
  clear ht
  refine (hN _ (by repeat (first | exact h1 | refine DagAt.alloc ?_ _))).mono ?_
  rintro r w2 ⟨rfl, b2⟩
  have h2 := DagAt.below (K := K1) (b := b) (ts := ts) (by repeat (first | exact h1 | refine DagAt.alloc ?_ _)) b2
  have k2 := Kept.then_below (K := K) (w := w) (by repeat (first | exact k1 | refine Kept.then_alloc ?_ _)) b2
  have hT2 := Tab.below (by repeat (first | exact hT1 | refine Tab.alloc ?_ _)) b2
  have hc2 := cell_below (b := w.heap.size) (off := 0) (v := .pointer (some ⟨b, 0, none⟩)) b2 (by repeat (first | exact hc1 | refine cell_alloc0 ?_ _))
  have hne2 : w.heap.size ≠ w2.heap.size := by have := b2.size; simp at this; omega
  have hc2a := cell_alloc0 hc2 (.cells #[.int .i64 t.k, .int .u32 t.v, .int .i64 t.op, .int .i64 t.a, .int .i64 t.b] 68)
  obtain ⟨z0, z1, z2, z3, z4⟩ := five_cells (blk_new w2 (.cells #[.int .i64 t.k, .int .u32 t.v, .int .i64 t.op, .int .i64 t.a, .int .i64 t.b] 68))
  go_wp2_with fail
  go_ret2
  exact ⟨rfl, (h2.alloc _).mono hKK, k2.then_alloc _⟩
set_option maxRecDepth 100000 in
set_option maxHeartbeats 1000000 in
theorem by_d2ap (f : Nat) (hM : MadeSpec f) (K : Nat → Prop) (b : Nat) (ts : List Term) (op x y v : Nat) (w : World) (h : DagAt K w b ts) (hG : Good ts) (hg : K 0) (hT : Tab w) (ho : (doW op 0 0).isSome = true) (hx : x < ts.length) (hl : ts.length + (f + 1) < 1000000000000) (hv : v < 4294967296) (hv1 : 1 < v) (hvm : v ≠ 4294967295) (hp : isPow v = true) (hop : (op = 27 ∨ op = 36 ∨ op = 35 ∨ op = 32)) (u q ta tb : Nat) (ht : ts.getD x default = ⟨2, u, q, ta, tb⟩) (hko : q ≠ op) :
    Calls Tryz.prog 99 #[.pointer (some ⟨b, 0, none⟩), .int .i64 op, .int .i64 x, .int .i64 y, .int .u32 v] w (NonePost K b w ts) := by
  obtain ⟨K1, h1, hg1, hT1, hc1, hk1, hKK, k1⟩ := boxed K b ts w h hg hT
  have hmf := makeFunc_run
  have htz := tz32_any v hv
  have hone := and_pred hv hv1
  rw [hp] at hone
  have e0 : ((v : Int) == 0) = false := by simp; omega
  have e0' : ((v : Int) != 0) = true := by simp; omega
  have e1 : ((v : Int) == 1) = false := by simp; omega
  have em : ((v : Int) == 4294967295) = false := by simp; omega
  have l1 : (1 : Int) < v := by omega
  have sh : isShift op = false := by simp [isShift]; omega
  have n37 : ((op : Int) == 37) = false := by simp; omega
  have n42 : ((op : Int) == 42) = false := by simp; omega
  have n44 : ((op : Int) == 44) = false := by simp; omega
  have o0 : ((q : Int) != (op : Int)) = true := by simp; omega
  clear hG ho hT h hg
  clear hko
  go_enter Tryz.func99, Tryz.ntmps99
  go_wp2_with (first
    | (go_at_call 98; (with_reducible refine (among3 _ _ _ _ (g := _) (w := _) (hg := by simp)).mono ?_); rintro r w' ⟨rfl, rfl⟩)
    | (go_at_call 98; (with_reducible refine (among2 _ _ _ (g := _) (w := _) (hg := by simp)).mono ?_); rintro r w' ⟨rfl, rfl⟩)
    | (go_at_call 110; (with_reducible refine (shift_any _ _).mono ?_); rintro r w' ⟨rfl, rfl⟩)
    | (go_at_call 110; (with_reducible refine (hsh _).mono ?_); rintro r w' ⟨rfl, rfl⟩)
    | (go_at_call 109; (with_reducible refine (htz _ (by repeat (first | exact hT1 | refine Tab.alloc ?_ _))).mono ?_); rintro r w' ⟨rfl, rfl⟩)
    | fail)
  have hN : ∀ w, DagAt K1 w b ts → Calls Tryz.prog 34 #[.pointer (some ⟨b, 0, none⟩), .int .i64 x] w fun r w' => r = .returned (.tuple #[.agg #[.int .i64 2, .int .u32 u, .int .i64 q, .int .i64 ta, .int .i64 tb], .int .i64 0]) ∧ Below w.heap.size w w' := by
    intro w hw
    have hq := node_any K1 b x ts (by omega) hx w hw
    rw [ht] at hq
    exact hq
  clear ht
  refine (hN _ (by repeat (first | exact h1 | refine DagAt.alloc ?_ _))).mono ?_
  rintro r w2 ⟨rfl, b2⟩
  have h2 := DagAt.below (K := K1) (b := b) (ts := ts) (by repeat (first | exact h1 | refine DagAt.alloc ?_ _)) b2
  have k2 := Kept.then_below (K := K) (w := w) (by repeat (first | exact k1 | refine Kept.then_alloc ?_ _)) b2
  have hT2 := Tab.below (by repeat (first | exact hT1 | refine Tab.alloc ?_ _)) b2
  have hc2 := cell_below (b := w.heap.size) (off := 0) (v := .pointer (some ⟨b, 0, none⟩)) b2 (by repeat (first | exact hc1 | refine cell_alloc0 ?_ _))
  have hne2 : w.heap.size ≠ w2.heap.size := by have := b2.size; simp at this; omega
  have hc2a := cell_alloc0 hc2 (.cells #[.int .i64 2, .int .u32 u, .int .i64 q, .int .i64 ta, .int .i64 tb] 68)
  obtain ⟨z0, z1, z2, z3, z4⟩ := five_cells (blk_new w2 (.cells #[.int .i64 2, .int .u32 u, .int .i64 q, .int .i64 ta, .int .i64 tb] 68))
  go_wp2_with fail
  go_ret2
  exact ⟨rfl, (h2.alloc _).mono hKK, k2.then_alloc _⟩
set_option maxRecDepth 100000 in
set_option maxHeartbeats 1000000 in
theorem by_d3ap (f : Nat) (hM : MadeSpec f) (K : Nat → Prop) (b : Nat) (ts : List Term) (op x y v : Nat) (w : World) (h : DagAt K w b ts) (hG : Good ts) (hg : K 0) (hT : Tab w) (ho : (doW op 0 0).isSome = true) (hx : x < ts.length) (hl : ts.length + (f + 1) < 1000000000000) (hv : v < 4294967296) (hv1 : 1 < v) (hvm : v ≠ 4294967295) (hp : isPow v = true) (hop : (op = 27 ∨ op = 36 ∨ op = 35 ∨ op = 32)) (ta tb : Nat) (ht : ts.getD x default = ⟨2, 0, op, ta, tb⟩) (htb : tb < ts.length) (hcb : isC ts tb = false) :
    Calls Tryz.prog 99 #[.pointer (some ⟨b, 0, none⟩), .int .i64 op, .int .i64 x, .int .i64 y, .int .u32 v] w (NonePost K b w ts) := by
  obtain ⟨K1, h1, hg1, hT1, hc1, hk1, hKK, k1⟩ := boxed K b ts w h hg hT
  have hmf := makeFunc_run
  have htz := tz32_any v hv
  have hone := and_pred hv hv1
  rw [hp] at hone
  have e0 : ((v : Int) == 0) = false := by simp; omega
  have e0' : ((v : Int) != 0) = true := by simp; omega
  have e1 : ((v : Int) == 1) = false := by simp; omega
  have em : ((v : Int) == 4294967295) = false := by simp; omega
  have l1 : (1 : Int) < v := by omega
  have sh : isShift op = false := by simp [isShift]; omega
  have n37 : ((op : Int) == 37) = false := by simp; omega
  have n42 : ((op : Int) == 42) = false := by simp; omega
  have n44 : ((op : Int) == 44) = false := by simp; omega
  have hKn := fun w => known_any K1 b tb ts (by omega) htb w
  rw [hcb] at hKn
  clear hcb
  clear hG ho hT h hg
  go_enter Tryz.func99, Tryz.ntmps99
  go_wp2_with (first
    | (go_at_call 98; (with_reducible refine (among3 _ _ _ _ (g := _) (w := _) (hg := by simp)).mono ?_); rintro r w' ⟨rfl, rfl⟩)
    | (go_at_call 98; (with_reducible refine (among2 _ _ _ (g := _) (w := _) (hg := by simp)).mono ?_); rintro r w' ⟨rfl, rfl⟩)
    | (go_at_call 110; (with_reducible refine (shift_any _ _).mono ?_); rintro r w' ⟨rfl, rfl⟩)
    | (go_at_call 110; (with_reducible refine (hsh _).mono ?_); rintro r w' ⟨rfl, rfl⟩)
    | (go_at_call 109; (with_reducible refine (htz _ (by repeat (first | exact hT1 | refine Tab.alloc ?_ _))).mono ?_); rintro r w' ⟨rfl, rfl⟩)
    | fail)
  have hN : ∀ w, DagAt K1 w b ts → Calls Tryz.prog 34 #[.pointer (some ⟨b, 0, none⟩), .int .i64 x] w fun r w' => r = .returned (.tuple #[.agg #[.int .i64 2, .int .u32 0, .int .i64 op, .int .i64 ta, .int .i64 tb], .int .i64 0]) ∧ Below w.heap.size w w' := by
    intro w hw
    have hq := node_any K1 b x ts (by omega) hx w hw
    rw [ht] at hq
    exact hq
  clear ht
  refine (hN _ (by repeat (first | exact h1 | refine DagAt.alloc ?_ _))).mono ?_
  rintro r w2 ⟨rfl, b2⟩
  have h2 := DagAt.below (K := K1) (b := b) (ts := ts) (by repeat (first | exact h1 | refine DagAt.alloc ?_ _)) b2
  have k2 := Kept.then_below (K := K) (w := w) (by repeat (first | exact k1 | refine Kept.then_alloc ?_ _)) b2
  have hT2 := Tab.below (by repeat (first | exact hT1 | refine Tab.alloc ?_ _)) b2
  have hc2 := cell_below (b := w.heap.size) (off := 0) (v := .pointer (some ⟨b, 0, none⟩)) b2 (by repeat (first | exact hc1 | refine cell_alloc0 ?_ _))
  have hne2 : w.heap.size ≠ w2.heap.size := by have := b2.size; simp at this; omega
  have hc2a := cell_alloc0 hc2 (.cells #[.int .i64 2, .int .u32 0, .int .i64 op, .int .i64 ta, .int .i64 tb] 68)
  obtain ⟨z0, z1, z2, z3, z4⟩ := five_cells (blk_new w2 (.cells #[.int .i64 2, .int .u32 0, .int .i64 op, .int .i64 ta, .int .i64 tb] 68))
  go_wp2_with fail
  refine (hKn _ (h2.alloc _)).mono ?_
  rintro r w3 ⟨rfl, b3⟩
  have h3 := (h2.alloc _).below b3
  have k3 := (k2.then_alloc _).then_below b3
  have hT3 := (hT2.alloc _).below b3
  have hc3 := cell_below b3 (cell_alloc0 hc2 _)
  have y3 := cell_below b3 z3
  have y3a := cell_alloc0 y3 (.cells #[.int .i64 27, .int .i64 36, .int .i64 35, .int .i64 32] 3)
  have y3b := cell_alloc0 y3a (.cells #[.int .i64 29, .int .i64 33, .int .i64 34] 3)
  have hc3a := cell_alloc0 hc3 (.cells #[.int .i64 27, .int .i64 36, .int .i64 35, .int .i64 32] 3)
  have hc3b := cell_alloc0 hc3a (.cells #[.int .i64 29, .int .i64 33, .int .i64 34] 3)
  clear z0 z1 z2 z3 z4 hc2 hc2a hne2 hT2 h2 b2
  go_wp2_with fail
  go_ret2
  exact ⟨rfl, DagAt.mono (by repeat (first | exact h3 | refine DagAt.alloc ?_ _)) hKK, (by repeat (first | exact k3 | refine Kept.then_alloc ?_ _))⟩
set_option maxRecDepth 100000 in
set_option maxHeartbeats 1000000 in
theorem by_daap (f : Nat) (hM : MadeSpec f) (K : Nat → Prop) (b : Nat) (ts : List Term) (op x y v : Nat) (w : World) (h : DagAt K w b ts) (hG : Good ts) (hg : K 0) (hT : Tab w) (ho : (doW op 0 0).isSome = true) (hx : x < ts.length) (hl : ts.length + (f + 1) < 1000000000000) (hv : v < 4294967296) (hv1 : 1 < v) (hvm : v ≠ 4294967295) (hp : isPow v = true) (hop : (op = 27 ∨ op = 36 ∨ op = 35 ∨ op = 32)) (ta tb : Nat) (ht : ts.getD x default = ⟨2, 0, op, ta, tb⟩) (htb : tb < ts.length) (hcb : isC ts tb = true) (hta : ta < ts.length) (hq : wd ts tb < 4294967296) (hW : Went ts op x y (ins ts (constT ((doW op (wd ts tb) v).getD 0))) op ta (pos ts (constT ((doW op (wd ts tb) v).getD 0)))) (hm : mz ts op x y < f + 1) :
    Calls Tryz.prog 99 #[.pointer (some ⟨b, 0, none⟩), .int .i64 op, .int .i64 x, .int .i64 y, .int .u32 v] w (IsPost K b w (madeF f (ins ts (constT ((doW op (wd ts tb) v).getD 0))) op ta (pos ts (constT ((doW op (wd ts tb) v).getD 0))))) := by
  obtain ⟨K1, h1, hg1, hT1, hc1, hk1, hKK, k1⟩ := boxed K b ts w h hg hT
  have hmf := makeFunc_run
  have htz := tz32_any v hv
  have hone := and_pred hv hv1
  rw [hp] at hone
  have e0 : ((v : Int) == 0) = false := by simp; omega
  have e0' : ((v : Int) != 0) = true := by simp; omega
  have e1 : ((v : Int) == 1) = false := by simp; omega
  have em : ((v : Int) == 4294967295) = false := by simp; omega
  have l1 : (1 : Int) < v := by omega
  have sh : isShift op = false := by simp [isShift]; omega
  have n37 : ((op : Int) == 37) = false := by simp; omega
  have n42 : ((op : Int) == 42) = false := by simp; omega
  have n44 : ((op : Int) == 44) = false := by simp; omega
  have hKn := fun w => known_any K1 b tb ts (by omega) htb w
  rw [hcb] at hKn
  clear hcb
  have a4 : hasI (op : Int) [27, 36, 35, 32] = true := by simp [hasI]; omega
  have hDo : ∀ w, Calls Tryz.prog 42 #[.int .i64 op, .int .u32 (wd ts tb : Nat), .int .u32 v] w fun r w' => r = .returned (.tuple #[.int .u32 (((doW op (wd ts tb) v).getD 0 : Nat) : Int), .int .i64 0]) ∧ w = w' := do_any op ho (wd ts tb) v hq hv
  have hu := doW_lt ho hq (b := v) hv
  clear hT h hg
  go_enter Tryz.func99, Tryz.ntmps99
  go_wp2_with (first
    | (go_at_call 98; (with_reducible refine (among3 _ _ _ _ (g := _) (w := _) (hg := by simp)).mono ?_); rintro r w' ⟨rfl, rfl⟩)
    | (go_at_call 98; (with_reducible refine (among2 _ _ _ (g := _) (w := _) (hg := by simp)).mono ?_); rintro r w' ⟨rfl, rfl⟩)
    | (go_at_call 110; (with_reducible refine (shift_any _ _).mono ?_); rintro r w' ⟨rfl, rfl⟩)
    | (go_at_call 110; (with_reducible refine (hsh _).mono ?_); rintro r w' ⟨rfl, rfl⟩)
    | (go_at_call 109; (with_reducible refine (htz _ (by repeat (first | exact hT1 | refine Tab.alloc ?_ _))).mono ?_); rintro r w' ⟨rfl, rfl⟩)
    | fail)
  have hN : ∀ w, DagAt K1 w b ts → Calls Tryz.prog 34 #[.pointer (some ⟨b, 0, none⟩), .int .i64 x] w fun r w' => r = .returned (.tuple #[.agg #[.int .i64 2, .int .u32 0, .int .i64 op, .int .i64 ta, .int .i64 tb], .int .i64 0]) ∧ Below w.heap.size w w' := by
    intro w hw
    have hq := node_any K1 b x ts (by omega) hx w hw
    rw [ht] at hq
    exact hq
  clear ht
  refine (hN _ (by repeat (first | exact h1 | refine DagAt.alloc ?_ _))).mono ?_
  rintro r w2 ⟨rfl, b2⟩
  have h2 := DagAt.below (K := K1) (b := b) (ts := ts) (by repeat (first | exact h1 | refine DagAt.alloc ?_ _)) b2
  have k2 := Kept.then_below (K := K) (w := w) (by repeat (first | exact k1 | refine Kept.then_alloc ?_ _)) b2
  have hT2 := Tab.below (by repeat (first | exact hT1 | refine Tab.alloc ?_ _)) b2
  have hc2 := cell_below (b := w.heap.size) (off := 0) (v := .pointer (some ⟨b, 0, none⟩)) b2 (by repeat (first | exact hc1 | refine cell_alloc0 ?_ _))
  have hne2 : w.heap.size ≠ w2.heap.size := by have := b2.size; simp at this; omega
  have hc2a := cell_alloc0 hc2 (.cells #[.int .i64 2, .int .u32 0, .int .i64 op, .int .i64 ta, .int .i64 tb] 68)
  obtain ⟨z0, z1, z2, z3, z4⟩ := five_cells (blk_new w2 (.cells #[.int .i64 2, .int .u32 0, .int .i64 op, .int .i64 ta, .int .i64 tb] 68))
  go_wp2_with fail
  refine (hKn _ (h2.alloc _)).mono ?_
  rintro r w3 ⟨rfl, b3⟩
  have h3 := (h2.alloc _).below b3
  have k3 := (k2.then_alloc _).then_below b3
  have hT3 := (hT2.alloc _).below b3
  have hc3 := cell_below b3 (cell_alloc0 hc2 _)
  have y3 := cell_below b3 z3
  have y3a := cell_alloc0 y3 (.cells #[.int .i64 27, .int .i64 36, .int .i64 35, .int .i64 32] 3)
  have y3b := cell_alloc0 y3a (.cells #[.int .i64 29, .int .i64 33, .int .i64 34] 3)
  have hc3a := cell_alloc0 hc3 (.cells #[.int .i64 27, .int .i64 36, .int .i64 35, .int .i64 32] 3)
  have hc3b := cell_alloc0 hc3a (.cells #[.int .i64 29, .int .i64 33, .int .i64 34] 3)
  clear z0 z1 z2 z3 z4 hc2 hc2a hne2 hT2 h2 b2
  go_wp2_with (first
    | (go_at_call 98; (with_reducible refine (among4 _ _ _ _ _ (g := _) (w := _) (hg := by simp)).mono ?_); rintro r w' ⟨rfl, rfl⟩)
    | (go_at_call 110; (with_reducible refine (shift_any _ _).mono ?_); rintro r w' ⟨rfl, rfl⟩)
    | (go_at_call 110; (with_reducible refine (hsh _).mono ?_); rintro r w' ⟨rfl, rfl⟩)
    | (go_at_call 42; (with_reducible refine (hDo _).mono ?_); rintro r w' ⟨rfl, rfl⟩)
    | fail)
  refine (goes_any f hM K1 b w.heap.size ts op ta ((doW op (wd ts tb) v).getD 0) _ (by repeat (first | exact h3 | refine DagAt.alloc ?_ _)) hW.good hg1 (by repeat (first | exact hT3 | refine Tab.alloc ?_ _)) hW.ok hta hu (by have := hW.less; omega) hl hk1 (by repeat (first | exact hc3 | refine cell_alloc0 ?_ _))).mono ?_
  rintro r wz ⟨rfl, hz, kz⟩
  have kw := Kept.trans (K := K) (w := w) (by repeat (first | exact k3 | refine Kept.then_alloc ?_ _)) (kz.mono hKK)
  go_wp2_with fail
  go_ret2
  exact ⟨rfl, hz.mono hKK, kw⟩
end Go.Proofs.YtaiggfknighhgaaGreatDoor
