/- simp: a reckoning of a term and a word, walked case by case (written by genBW.py). -/
import Derived.Test.YtekleoccdockhaaDoorSGoes
import Derived.Test.YtekleoccdockhaaDoorSWordP
set_option linter.unusedVariables false
set_option linter.unusedSimpArgs false
namespace Go.Proofs.YtekleoccdockhaaDoor
open Go.RowKit Go.Maps Go.MapKept

def NonePost (K : Nat → Prop) (b : Nat) (w : World) (ts : List Term) (e : Ending) (w' : World) : Prop := e = .returned (.tuple #[.int .i64 0, .bool false]) ∧ DagAt K w' b ts ∧ Kept K w w'
theorem boxed (K : Nat → Prop) (b : Nat) (ts : List Term) (w : World) (h : DagAt K w b ts) (hg : K 0) (hT : Tab w) : ∃ K1 : Nat → Prop,
    DagAt K1 (w.alloc (.cells #[.pointer (some ⟨b, 0, none⟩)] 22)) b ts ∧ K1 0 ∧ Tab (w.alloc (.cells #[.pointer (some ⟨b, 0, none⟩)] 22)) ∧
    (w.alloc (.cells #[.pointer (some ⟨b, 0, none⟩)] 22)).cell? ⟨w.heap.size, 0, none⟩ = some (.pointer (some ⟨b, 0, none⟩)) ∧ K1 w.heap.size ∧ (∀ i, K i → K1 i) ∧
    Kept K w (w.alloc (.cells #[.pointer (some ⟨b, 0, none⟩)] 22)) :=
  ⟨More K w (w.alloc (.cells #[.pointer (some ⟨b, 0, none⟩)] 22)), h.more ((Below.refl _ _).alloc (Nat.le_refl _) _), Or.inl hg, hT.alloc _, (cell_of (blk_new w _) 0).trans rfl, Or.inr ⟨Nat.le_refl _, by simp⟩, fun i hi => Or.inl hi, Kept.alloc _ _ _⟩
theorem const0_any (K : Nat → Prop) (b : Nat) (ts : List Term) (hl : ts.length < 1000000000000) (w : World) (h : DagAt K w b ts) :
    Calls Tryd.prog 12 #[.pointer (some ⟨b, 0, none⟩), .int .u32 0] w fun r w' => r = .returned (.int .i64 (pos ts (constT 0) : Nat)) ∧ DagAt K w' b (ins ts (constT 0)) ∧ Kept K w w' := const_any K b 0 ts (by omega) hl w h
theorem makeFunc_run (fn : Fn) (first cap : Array Value) (w : World) : (Instr.makeFunc fn first cap).run Tryd.prog w = .ok (.func fn first cap) w := rfl

set_option maxRecDepth 100000 in
set_option maxHeartbeats 1000000 in
theorem by_r1z (f : Nat) (hM : MadeSpec f) (K : Nat → Prop) (b : Nat) (ts : List Term) (op x y : Nat) (w : World) (h : DagAt K w b ts) (hG : Good ts) (hg : K 0) (hT : Tab w) (ho : (doW op 0 0).isSome = true) (hx : x < ts.length) (hl : ts.length + (f + 1) < 1000000000000) (hop : (op = 27 ∨ op = 35 ∨ op = 32)) :
    Calls Tryd.prog 43 #[.pointer (some ⟨b, 0, none⟩), .int .i64 op, .int .i64 x, .int .i64 y, .int .u32 0] w (IsPost K b w (ts, x)) := by
  obtain ⟨K1, h1, hg1, hT1, hc1, hk1, hKK, k1⟩ := boxed K b ts w h hg hT
  have hmf := makeFunc_run
  have htz : ∀ w, Tab w → Calls Tryd.prog 65 #[.int .u32 0] w fun e w' => e = .returned (.int .i64 (Lib.ctz 32 0 : Nat)) ∧ w = w' := tz32_any 0 (by omega)
  have a27_35_32 : hasI (op : Int) [27, 35, 32] = true := by simp [hasI]; omega
  clear hG ho hT h hg
  go_enter Tryd.func43, Tryd.ntmps43
  go_wp2_with (first
    | (go_at_call 42; (with_reducible refine (among3 _ _ _ _ (g := _) (w := _) (hg := by simp)).mono ?_); rintro r w' ⟨rfl, rfl⟩)
    | (go_at_call 42; (with_reducible refine (among2 _ _ _ (g := _) (w := _) (hg := by simp)).mono ?_); rintro r w' ⟨rfl, rfl⟩)
    | (go_at_call 66; (with_reducible refine (shift_any _ _).mono ?_); rintro r w' ⟨rfl, rfl⟩)
    | (go_at_call 66; (with_reducible refine (hsh _).mono ?_); rintro r w' ⟨rfl, rfl⟩)
    | (go_at_call 65; (with_reducible refine (htz _ (by repeat (first | exact hT1 | refine Tab.alloc ?_ _))).mono ?_); rintro r w' ⟨rfl, rfl⟩)
    | fail)
  go_ret2
  exact ⟨rfl, DagAt.mono (by repeat (first | exact h1 | refine DagAt.alloc ?_ _)) hKK, (by repeat (first | exact k1 | refine Kept.then_alloc ?_ _))⟩
set_option maxRecDepth 100000 in
set_option maxHeartbeats 1000000 in
theorem by_r1o (f : Nat) (hM : MadeSpec f) (K : Nat → Prop) (b : Nat) (ts : List Term) (op x y : Nat) (w : World) (h : DagAt K w b ts) (hG : Good ts) (hg : K 0) (hT : Tab w) (ho : (doW op 0 0).isSome = true) (hx : x < ts.length) (hl : ts.length + (f + 1) < 1000000000000) (hop : (op = 37 ∨ op = 41 ∨ op = 42)) :
    Calls Tryd.prog 43 #[.pointer (some ⟨b, 0, none⟩), .int .i64 op, .int .i64 x, .int .i64 y, .int .u32 1] w (IsPost K b w (ts, x)) := by
  obtain ⟨K1, h1, hg1, hT1, hc1, hk1, hKK, k1⟩ := boxed K b ts w h hg hT
  have hmf := makeFunc_run
  have htz : ∀ w, Tab w → Calls Tryd.prog 65 #[.int .u32 1] w fun e w' => e = .returned (.int .i64 (Lib.ctz 32 1 : Nat)) ∧ w = w' := tz32_any 1 (by omega)
  have hb1 := and_one_pred
  have a37_41_42 : hasI (op : Int) [37, 41, 42] = true := by simp [hasI]; omega
  clear hG ho hT h hg
  go_enter Tryd.func43, Tryd.ntmps43
  go_wp2_with (first
    | (go_at_call 42; (with_reducible refine (among3 _ _ _ _ (g := _) (w := _) (hg := by simp)).mono ?_); rintro r w' ⟨rfl, rfl⟩)
    | (go_at_call 42; (with_reducible refine (among2 _ _ _ (g := _) (w := _) (hg := by simp)).mono ?_); rintro r w' ⟨rfl, rfl⟩)
    | (go_at_call 66; (with_reducible refine (shift_any _ _).mono ?_); rintro r w' ⟨rfl, rfl⟩)
    | (go_at_call 66; (with_reducible refine (hsh _).mono ?_); rintro r w' ⟨rfl, rfl⟩)
    | (go_at_call 65; (with_reducible refine (htz _ (by repeat (first | exact hT1 | refine Tab.alloc ?_ _))).mono ?_); rintro r w' ⟨rfl, rfl⟩)
    | fail)
  go_ret2
  exact ⟨rfl, DagAt.mono (by repeat (first | exact h1 | refine DagAt.alloc ?_ _)) hKK, (by repeat (first | exact k1 | refine Kept.then_alloc ?_ _))⟩
set_option maxRecDepth 100000 in
set_option maxHeartbeats 1000000 in
theorem by_r2z (f : Nat) (hM : MadeSpec f) (K : Nat → Prop) (b : Nat) (ts : List Term) (op x y : Nat) (w : World) (h : DagAt K w b ts) (hG : Good ts) (hg : K 0) (hT : Tab w) (ho : (doW op 0 0).isSome = true) (hx : x < ts.length) (hl : ts.length + (f + 1) < 1000000000000) (hop : (op = 36 ∨ op = 37 ∨ op = 31)) :
    Calls Tryd.prog 43 #[.pointer (some ⟨b, 0, none⟩), .int .i64 op, .int .i64 x, .int .i64 y, .int .u32 0] w (IsPost K b w (ins ts (constT 0), pos ts (constT 0))) := by
  obtain ⟨K1, h1, hg1, hT1, hc1, hk1, hKK, k1⟩ := boxed K b ts w h hg hT
  have hmf := makeFunc_run
  have htz : ∀ w, Tab w → Calls Tryd.prog 65 #[.int .u32 0] w fun e w' => e = .returned (.int .i64 (Lib.ctz 32 0 : Nat)) ∧ w = w' := tz32_any 0 (by omega)
  have a27_35_32 : hasI (op : Int) [27, 35, 32] = false := by simp [hasI]; omega
  have a36_37_31 : hasI (op : Int) [36, 37, 31] = true := by simp [hasI]; omega
  clear hG ho hT h hg
  go_enter Tryd.func43, Tryd.ntmps43
  go_wp2_with (first
    | (go_at_call 42; (with_reducible refine (among3 _ _ _ _ (g := _) (w := _) (hg := by simp)).mono ?_); rintro r w' ⟨rfl, rfl⟩)
    | (go_at_call 42; (with_reducible refine (among2 _ _ _ (g := _) (w := _) (hg := by simp)).mono ?_); rintro r w' ⟨rfl, rfl⟩)
    | (go_at_call 66; (with_reducible refine (shift_any _ _).mono ?_); rintro r w' ⟨rfl, rfl⟩)
    | (go_at_call 66; (with_reducible refine (hsh _).mono ?_); rintro r w' ⟨rfl, rfl⟩)
    | (go_at_call 65; (with_reducible refine (htz _ (by repeat (first | exact hT1 | refine Tab.alloc ?_ _))).mono ?_); rintro r w' ⟨rfl, rfl⟩)
    | fail)
  refine (const0_any K1 b ts (by omega) _ (by repeat (first | exact h1 | refine DagAt.alloc ?_ _))).mono ?_
  rintro r wz ⟨rfl, hz, kz⟩
  have kw := Kept.trans (K := K) (w := w) (by repeat (first | exact k1 | refine Kept.then_alloc ?_ _)) (kz.mono hKK)
  go_wp2_with fail
  go_ret2
  exact ⟨rfl, hz.mono hKK, kw⟩
set_option maxRecDepth 100000 in
set_option maxHeartbeats 1000000 in
theorem by_r2o (f : Nat) (hM : MadeSpec f) (K : Nat → Prop) (b : Nat) (ts : List Term) (op x y : Nat) (w : World) (h : DagAt K w b ts) (hG : Good ts) (hg : K 0) (hT : Tab w) (ho : (doW op 0 0).isSome = true) (hx : x < ts.length) (hl : ts.length + (f + 1) < 1000000000000) (hop : (op = 43 ∨ op = 44)) :
    Calls Tryd.prog 43 #[.pointer (some ⟨b, 0, none⟩), .int .i64 op, .int .i64 x, .int .i64 y, .int .u32 1] w (IsPost K b w (ins ts (constT 0), pos ts (constT 0))) := by
  obtain ⟨K1, h1, hg1, hT1, hc1, hk1, hKK, k1⟩ := boxed K b ts w h hg hT
  have hmf := makeFunc_run
  have htz : ∀ w, Tab w → Calls Tryd.prog 65 #[.int .u32 1] w fun e w' => e = .returned (.int .i64 (Lib.ctz 32 1 : Nat)) ∧ w = w' := tz32_any 1 (by omega)
  have hb1 := and_one_pred
  have a37_41_42 : hasI (op : Int) [37, 41, 42] = false := by simp [hasI]; omega
  have a43_44 : hasI (op : Int) [43, 44] = true := by simp [hasI]; omega
  clear hG ho hT h hg
  go_enter Tryd.func43, Tryd.ntmps43
  go_wp2_with (first
    | (go_at_call 42; (with_reducible refine (among3 _ _ _ _ (g := _) (w := _) (hg := by simp)).mono ?_); rintro r w' ⟨rfl, rfl⟩)
    | (go_at_call 42; (with_reducible refine (among2 _ _ _ (g := _) (w := _) (hg := by simp)).mono ?_); rintro r w' ⟨rfl, rfl⟩)
    | (go_at_call 66; (with_reducible refine (shift_any _ _).mono ?_); rintro r w' ⟨rfl, rfl⟩)
    | (go_at_call 66; (with_reducible refine (hsh _).mono ?_); rintro r w' ⟨rfl, rfl⟩)
    | (go_at_call 65; (with_reducible refine (htz _ (by repeat (first | exact hT1 | refine Tab.alloc ?_ _))).mono ?_); rintro r w' ⟨rfl, rfl⟩)
    | fail)
  refine (const0_any K1 b ts (by omega) _ (by repeat (first | exact h1 | refine DagAt.alloc ?_ _))).mono ?_
  rintro r wz ⟨rfl, hz, kz⟩
  have kw := Kept.trans (K := K) (w := w) (by repeat (first | exact k1 | refine Kept.then_alloc ?_ _)) (kz.mono hKK)
  go_wp2_with fail
  go_ret2
  exact ⟨rfl, hz.mono hKK, kw⟩
set_option maxRecDepth 100000 in
set_option maxHeartbeats 1000000 in
theorem by_r1m (f : Nat) (hM : MadeSpec f) (K : Nat → Prop) (b : Nat) (ts : List Term) (op x y : Nat) (w : World) (h : DagAt K w b ts) (hG : Good ts) (hg : K 0) (hT : Tab w) (ho : (doW op 0 0).isSome = true) (hx : x < ts.length) (hl : ts.length + (f + 1) < 1000000000000) (hop : op = 36) :
    Calls Tryd.prog 43 #[.pointer (some ⟨b, 0, none⟩), .int .i64 op, .int .i64 x, .int .i64 y, .int .u32 4294967295] w (IsPost K b w (ts, x)) := by
  obtain ⟨K1, h1, hg1, hT1, hc1, hk1, hKK, k1⟩ := boxed K b ts w h hg hT
  have hmf := makeFunc_run
  have htz : ∀ w, Tab w → Calls Tryd.prog 65 #[.int .u32 4294967295] w fun e w' => e = .returned (.int .i64 (Lib.ctz 32 4294967295 : Nat)) ∧ w = w' := tz32_any 4294967295 (by omega)
  have hb1 := and_ones_pred
  have y36 : ((op : Int) == 36) = true := by simp; omega
  clear hG ho hT h hg
  go_enter Tryd.func43, Tryd.ntmps43
  go_wp2_with (first
    | (go_at_call 42; (with_reducible refine (among3 _ _ _ _ (g := _) (w := _) (hg := by simp)).mono ?_); rintro r w' ⟨rfl, rfl⟩)
    | (go_at_call 42; (with_reducible refine (among2 _ _ _ (g := _) (w := _) (hg := by simp)).mono ?_); rintro r w' ⟨rfl, rfl⟩)
    | (go_at_call 66; (with_reducible refine (shift_any _ _).mono ?_); rintro r w' ⟨rfl, rfl⟩)
    | (go_at_call 66; (with_reducible refine (hsh _).mono ?_); rintro r w' ⟨rfl, rfl⟩)
    | (go_at_call 65; (with_reducible refine (htz _ (by repeat (first | exact hT1 | refine Tab.alloc ?_ _))).mono ?_); rintro r w' ⟨rfl, rfl⟩)
    | fail)
  go_ret2
  exact ⟨rfl, DagAt.mono (by repeat (first | exact h1 | refine DagAt.alloc ?_ _)) hKK, (by repeat (first | exact k1 | refine Kept.then_alloc ?_ _))⟩
set_option maxRecDepth 100000 in
set_option maxHeartbeats 1000000 in
theorem by_r3m (f : Nat) (hM : MadeSpec f) (K : Nat → Prop) (b : Nat) (ts : List Term) (op x y : Nat) (w : World) (h : DagAt K w b ts) (hG : Good ts) (hg : K 0) (hT : Tab w) (ho : (doW op 0 0).isSome = true) (hx : x < ts.length) (hl : ts.length + (f + 1) < 1000000000000) (hop : op = 35) :
    Calls Tryd.prog 43 #[.pointer (some ⟨b, 0, none⟩), .int .i64 op, .int .i64 x, .int .i64 y, .int .u32 4294967295] w (IsPost K b w (ts, y)) := by
  obtain ⟨K1, h1, hg1, hT1, hc1, hk1, hKK, k1⟩ := boxed K b ts w h hg hT
  have hmf := makeFunc_run
  have htz : ∀ w, Tab w → Calls Tryd.prog 65 #[.int .u32 4294967295] w fun e w' => e = .returned (.int .i64 (Lib.ctz 32 4294967295 : Nat)) ∧ w = w' := tz32_any 4294967295 (by omega)
  have hb1 := and_ones_pred
  have n36 : ((op : Int) == 36) = false := by simp; omega
  have y35 : ((op : Int) == 35) = true := by simp; omega
  clear hG ho hT h hg
  go_enter Tryd.func43, Tryd.ntmps43
  go_wp2_with (first
    | (go_at_call 42; (with_reducible refine (among3 _ _ _ _ (g := _) (w := _) (hg := by simp)).mono ?_); rintro r w' ⟨rfl, rfl⟩)
    | (go_at_call 42; (with_reducible refine (among2 _ _ _ (g := _) (w := _) (hg := by simp)).mono ?_); rintro r w' ⟨rfl, rfl⟩)
    | (go_at_call 66; (with_reducible refine (shift_any _ _).mono ?_); rintro r w' ⟨rfl, rfl⟩)
    | (go_at_call 66; (with_reducible refine (hsh _).mono ?_); rintro r w' ⟨rfl, rfl⟩)
    | (go_at_call 65; (with_reducible refine (htz _ (by repeat (first | exact hT1 | refine Tab.alloc ?_ _))).mono ?_); rintro r w' ⟨rfl, rfl⟩)
    | fail)
  go_ret2
  exact ⟨rfl, DagAt.mono (by repeat (first | exact h1 | refine DagAt.alloc ?_ _)) hKK, (by repeat (first | exact k1 | refine Kept.then_alloc ?_ _))⟩
set_option maxRecDepth 100000 in
set_option maxHeartbeats 1000000 in
theorem by_r4z (f : Nat) (hM : MadeSpec f) (K : Nat → Prop) (b : Nat) (ts : List Term) (op x y : Nat) (w : World) (h : DagAt K w b ts) (hG : Good ts) (hg : K 0) (hT : Tab w) (ho : (doW op 0 0).isSome = true) (hx : x < ts.length) (hl : ts.length + (f + 1) < 1000000000000) (hop : (op = 29 ∨ op = 33 ∨ op = 34)) :
    Calls Tryd.prog 43 #[.pointer (some ⟨b, 0, none⟩), .int .i64 op, .int .i64 x, .int .i64 y, .int .u32 0] w (IsPost K b w (ts, x)) := by
  obtain ⟨K1, h1, hg1, hT1, hc1, hk1, hKK, k1⟩ := boxed K b ts w h hg hT
  have hmf := makeFunc_run
  have htz : ∀ w, Tab w → Calls Tryd.prog 65 #[.int .u32 0] w fun e w' => e = .returned (.int .i64 (Lib.ctz 32 0 : Nat)) ∧ w = w' := tz32_any 0 (by omega)
  have a27_35_32 : hasI (op : Int) [27, 35, 32] = false := by simp [hasI]; omega
  have a36_37_31 : hasI (op : Int) [36, 37, 31] = false := by simp [hasI]; omega
  have sh : isShift op = true := by simp [isShift]; omega
  clear hG ho hT h hg
  go_enter Tryd.func43, Tryd.ntmps43
  go_wp2_with (first
    | (go_at_call 42; (with_reducible refine (among3 _ _ _ _ (g := _) (w := _) (hg := by simp)).mono ?_); rintro r w' ⟨rfl, rfl⟩)
    | (go_at_call 42; (with_reducible refine (among2 _ _ _ (g := _) (w := _) (hg := by simp)).mono ?_); rintro r w' ⟨rfl, rfl⟩)
    | (go_at_call 66; (with_reducible refine (shift_any _ _).mono ?_); rintro r w' ⟨rfl, rfl⟩)
    | (go_at_call 66; (with_reducible refine (hsh _).mono ?_); rintro r w' ⟨rfl, rfl⟩)
    | (go_at_call 65; (with_reducible refine (htz _ (by repeat (first | exact hT1 | refine Tab.alloc ?_ _))).mono ?_); rintro r w' ⟨rfl, rfl⟩)
    | fail)
  go_ret2
  exact ⟨rfl, DagAt.mono (by repeat (first | exact h1 | refine DagAt.alloc ?_ _)) hKK, (by repeat (first | exact k1 | refine Kept.then_alloc ?_ _))⟩
set_option maxRecDepth 100000 in
set_option maxHeartbeats 1000000 in
theorem by_r4g (f : Nat) (hM : MadeSpec f) (K : Nat → Prop) (b : Nat) (ts : List Term) (op x y v : Nat) (w : World) (h : DagAt K w b ts) (hG : Good ts) (hg : K 0) (hT : Tab w) (ho : (doW op 0 0).isSome = true) (hx : x < ts.length) (hl : ts.length + (f + 1) < 1000000000000) (hv : v < 4294967296) (hv1 : 1 < v) (hvm : v ≠ 4294967295) (hp : isPow v = false) (hop : (op = 29 ∨ op = 33 ∨ op = 34)) (h32 : v % 32 = 0) :
    Calls Tryd.prog 43 #[.pointer (some ⟨b, 0, none⟩), .int .i64 op, .int .i64 x, .int .i64 y, .int .u32 v] w (IsPost K b w (ts, x)) := by
  obtain ⟨K1, h1, hg1, hT1, hc1, hk1, hKK, k1⟩ := boxed K b ts w h hg hT
  have hmf := makeFunc_run
  have htz := tz32_any v hv
  have hone := and_pred hv hv1
  rw [hp] at hone
  have e0 : ((v : Int) == 0) = false := by simp; omega
  have e0' : ((v : Int) != 0) = true := by simp; omega
  have e1 : ((v : Int) == 1) = false := by simp; omega
  have em : ((v : Int) == 4294967295) = false := by simp; omega
  have l1 : (1 : Int) < v := by omega
  have sh : isShift op = true := by simp [isShift]; omega
  have m32 : ((v : Int) % 32 == 0) = true := by simp; omega
  clear hG ho hT h hg
  go_enter Tryd.func43, Tryd.ntmps43
  go_wp2_with (first
    | (go_at_call 42; (with_reducible refine (among3 _ _ _ _ (g := _) (w := _) (hg := by simp)).mono ?_); rintro r w' ⟨rfl, rfl⟩)
    | (go_at_call 42; (with_reducible refine (among2 _ _ _ (g := _) (w := _) (hg := by simp)).mono ?_); rintro r w' ⟨rfl, rfl⟩)
    | (go_at_call 66; (with_reducible refine (shift_any _ _).mono ?_); rintro r w' ⟨rfl, rfl⟩)
    | (go_at_call 66; (with_reducible refine (hsh _).mono ?_); rintro r w' ⟨rfl, rfl⟩)
    | (go_at_call 65; (with_reducible refine (htz _ (by repeat (first | exact hT1 | refine Tab.alloc ?_ _))).mono ?_); rintro r w' ⟨rfl, rfl⟩)
    | fail)
  go_ret2
  exact ⟨rfl, DagAt.mono (by repeat (first | exact h1 | refine DagAt.alloc ?_ _)) hKK, (by repeat (first | exact k1 | refine Kept.then_alloc ?_ _))⟩
set_option maxRecDepth 100000 in
set_option maxHeartbeats 1000000 in
theorem by_r5g (f : Nat) (hM : MadeSpec f) (K : Nat → Prop) (b : Nat) (ts : List Term) (op x y v : Nat) (w : World) (h : DagAt K w b ts) (hG : Good ts) (hg : K 0) (hT : Tab w) (ho : (doW op 0 0).isSome = true) (hx : x < ts.length) (hl : ts.length + (f + 1) < 1000000000000) (hv : v < 4294967296) (hv1 : 1 < v) (hvm : v ≠ 4294967295) (hp : isPow v = false) (hop : (op = 29 ∨ op = 33 ∨ op = 34)) (h32 : v % 32 ≠ 0) (h33 : 32 ≤ v) (hW : Went ts op x y (ins ts (constT (v % 32))) op x (pos ts (constT (v % 32)))) (hm : mz ts op x y < f + 1) :
    Calls Tryd.prog 43 #[.pointer (some ⟨b, 0, none⟩), .int .i64 op, .int .i64 x, .int .i64 y, .int .u32 v] w (IsPost K b w (madeF f (ins ts (constT (v % 32))) op x (pos ts (constT (v % 32))))) := by
  obtain ⟨K1, h1, hg1, hT1, hc1, hk1, hKK, k1⟩ := boxed K b ts w h hg hT
  have hmf := makeFunc_run
  have htz := tz32_any v hv
  have hone := and_pred hv hv1
  rw [hp] at hone
  have e0 : ((v : Int) == 0) = false := by simp; omega
  have e0' : ((v : Int) != 0) = true := by simp; omega
  have e1 : ((v : Int) == 1) = false := by simp; omega
  have em : ((v : Int) == 4294967295) = false := by simp; omega
  have l1 : (1 : Int) < v := by omega
  have sh : isShift op = true := by simp [isShift]; omega
  have m32 : ((v : Int) % 32 == 0) = false := by simp; omega
  have m33 : (32 : Int) ≤ v := by omega
  clear hT h hg
  go_enter Tryd.func43, Tryd.ntmps43
  go_wp2_with (first
    | (go_at_call 42; (with_reducible refine (among3 _ _ _ _ (g := _) (w := _) (hg := by simp)).mono ?_); rintro r w' ⟨rfl, rfl⟩)
    | (go_at_call 42; (with_reducible refine (among2 _ _ _ (g := _) (w := _) (hg := by simp)).mono ?_); rintro r w' ⟨rfl, rfl⟩)
    | (go_at_call 66; (with_reducible refine (shift_any _ _).mono ?_); rintro r w' ⟨rfl, rfl⟩)
    | (go_at_call 66; (with_reducible refine (hsh _).mono ?_); rintro r w' ⟨rfl, rfl⟩)
    | (go_at_call 65; (with_reducible refine (htz _ (by repeat (first | exact hT1 | refine Tab.alloc ?_ _))).mono ?_); rintro r w' ⟨rfl, rfl⟩)
    | fail)
  refine (goes_any f hM K1 b w.heap.size ts op x (v % 32) _ (by repeat (first | exact h1 | refine DagAt.alloc ?_ _)) hW.good hg1 (by repeat (first | exact hT1 | refine Tab.alloc ?_ _)) hW.ok hx (by omega) (by have := hW.less; omega) hl hk1 (by repeat (first | exact hc1 | refine cell_alloc0 ?_ _))).mono ?_
  rintro r wz ⟨rfl, hz, kz⟩
  have kw := Kept.trans (K := K) (w := w) (by repeat (first | exact k1 | refine Kept.then_alloc ?_ _)) (kz.mono hKK)
  go_wp2_with fail
  go_ret2
  exact ⟨rfl, hz.mono hKK, kw⟩
set_option maxRecDepth 100000 in
set_option maxHeartbeats 1000000 in
theorem by_r4p (f : Nat) (hM : MadeSpec f) (K : Nat → Prop) (b : Nat) (ts : List Term) (op x y v : Nat) (w : World) (h : DagAt K w b ts) (hG : Good ts) (hg : K 0) (hT : Tab w) (ho : (doW op 0 0).isSome = true) (hx : x < ts.length) (hl : ts.length + (f + 1) < 1000000000000) (hv : v < 4294967296) (hv1 : 1 < v) (hvm : v ≠ 4294967295) (hp : isPow v = true) (hop : (op = 29 ∨ op = 33 ∨ op = 34)) (h32 : v % 32 = 0) :
    Calls Tryd.prog 43 #[.pointer (some ⟨b, 0, none⟩), .int .i64 op, .int .i64 x, .int .i64 y, .int .u32 v] w (IsPost K b w (ts, x)) := by
  obtain ⟨K1, h1, hg1, hT1, hc1, hk1, hKK, k1⟩ := boxed K b ts w h hg hT
  have hmf := makeFunc_run
  have htz := tz32_any v hv
  have hone := and_pred hv hv1
  rw [hp] at hone
  have e0 : ((v : Int) == 0) = false := by simp; omega
  have e0' : ((v : Int) != 0) = true := by simp; omega
  have e1 : ((v : Int) == 1) = false := by simp; omega
  have em : ((v : Int) == 4294967295) = false := by simp; omega
  have l1 : (1 : Int) < v := by omega
  have sh : isShift op = true := by simp [isShift]; omega
  have m32 : ((v : Int) % 32 == 0) = true := by simp; omega
  clear hG ho hT h hg
  go_enter Tryd.func43, Tryd.ntmps43
  go_wp2_with (first
    | (go_at_call 42; (with_reducible refine (among3 _ _ _ _ (g := _) (w := _) (hg := by simp)).mono ?_); rintro r w' ⟨rfl, rfl⟩)
    | (go_at_call 42; (with_reducible refine (among2 _ _ _ (g := _) (w := _) (hg := by simp)).mono ?_); rintro r w' ⟨rfl, rfl⟩)
    | (go_at_call 66; (with_reducible refine (shift_any _ _).mono ?_); rintro r w' ⟨rfl, rfl⟩)
    | (go_at_call 66; (with_reducible refine (hsh _).mono ?_); rintro r w' ⟨rfl, rfl⟩)
    | (go_at_call 65; (with_reducible refine (htz _ (by repeat (first | exact hT1 | refine Tab.alloc ?_ _))).mono ?_); rintro r w' ⟨rfl, rfl⟩)
    | fail)
  go_ret2
  exact ⟨rfl, DagAt.mono (by repeat (first | exact h1 | refine DagAt.alloc ?_ _)) hKK, (by repeat (first | exact k1 | refine Kept.then_alloc ?_ _))⟩
set_option maxRecDepth 100000 in
set_option maxHeartbeats 1000000 in
theorem by_r5p (f : Nat) (hM : MadeSpec f) (K : Nat → Prop) (b : Nat) (ts : List Term) (op x y v : Nat) (w : World) (h : DagAt K w b ts) (hG : Good ts) (hg : K 0) (hT : Tab w) (ho : (doW op 0 0).isSome = true) (hx : x < ts.length) (hl : ts.length + (f + 1) < 1000000000000) (hv : v < 4294967296) (hv1 : 1 < v) (hvm : v ≠ 4294967295) (hp : isPow v = true) (hop : (op = 29 ∨ op = 33 ∨ op = 34)) (h32 : v % 32 ≠ 0) (h33 : 32 ≤ v) (hW : Went ts op x y (ins ts (constT (v % 32))) op x (pos ts (constT (v % 32)))) (hm : mz ts op x y < f + 1) :
    Calls Tryd.prog 43 #[.pointer (some ⟨b, 0, none⟩), .int .i64 op, .int .i64 x, .int .i64 y, .int .u32 v] w (IsPost K b w (madeF f (ins ts (constT (v % 32))) op x (pos ts (constT (v % 32))))) := by
  obtain ⟨K1, h1, hg1, hT1, hc1, hk1, hKK, k1⟩ := boxed K b ts w h hg hT
  have hmf := makeFunc_run
  have htz := tz32_any v hv
  have hone := and_pred hv hv1
  rw [hp] at hone
  have e0 : ((v : Int) == 0) = false := by simp; omega
  have e0' : ((v : Int) != 0) = true := by simp; omega
  have e1 : ((v : Int) == 1) = false := by simp; omega
  have em : ((v : Int) == 4294967295) = false := by simp; omega
  have l1 : (1 : Int) < v := by omega
  have sh : isShift op = true := by simp [isShift]; omega
  have m32 : ((v : Int) % 32 == 0) = false := by simp; omega
  have m33 : (32 : Int) ≤ v := by omega
  clear hT h hg
  go_enter Tryd.func43, Tryd.ntmps43
  go_wp2_with (first
    | (go_at_call 42; (with_reducible refine (among3 _ _ _ _ (g := _) (w := _) (hg := by simp)).mono ?_); rintro r w' ⟨rfl, rfl⟩)
    | (go_at_call 42; (with_reducible refine (among2 _ _ _ (g := _) (w := _) (hg := by simp)).mono ?_); rintro r w' ⟨rfl, rfl⟩)
    | (go_at_call 66; (with_reducible refine (shift_any _ _).mono ?_); rintro r w' ⟨rfl, rfl⟩)
    | (go_at_call 66; (with_reducible refine (hsh _).mono ?_); rintro r w' ⟨rfl, rfl⟩)
    | (go_at_call 65; (with_reducible refine (htz _ (by repeat (first | exact hT1 | refine Tab.alloc ?_ _))).mono ?_); rintro r w' ⟨rfl, rfl⟩)
    | fail)
  refine (goes_any f hM K1 b w.heap.size ts op x (v % 32) _ (by repeat (first | exact h1 | refine DagAt.alloc ?_ _)) hW.good hg1 (by repeat (first | exact hT1 | refine Tab.alloc ?_ _)) hW.ok hx (by omega) (by have := hW.less; omega) hl hk1 (by repeat (first | exact hc1 | refine cell_alloc0 ?_ _))).mono ?_
  rintro r wz ⟨rfl, hz, kz⟩
  have kw := Kept.trans (K := K) (w := w) (by repeat (first | exact k1 | refine Kept.then_alloc ?_ _)) (kz.mono hKK)
  go_wp2_with fail
  go_ret2
  exact ⟨rfl, hz.mono hKK, kw⟩
set_option maxRecDepth 100000 in
set_option maxHeartbeats 1000000 in
theorem by_r5m (f : Nat) (hM : MadeSpec f) (K : Nat → Prop) (b : Nat) (ts : List Term) (op x y : Nat) (w : World) (h : DagAt K w b ts) (hG : Good ts) (hg : K 0) (hT : Tab w) (ho : (doW op 0 0).isSome = true) (hx : x < ts.length) (hl : ts.length + (f + 1) < 1000000000000) (hop : (op = 29 ∨ op = 33 ∨ op = 34)) (hW : Went ts op x y (ins ts (constT 31)) op x (pos ts (constT 31))) (hm : mz ts op x y < f + 1) :
    Calls Tryd.prog 43 #[.pointer (some ⟨b, 0, none⟩), .int .i64 op, .int .i64 x, .int .i64 y, .int .u32 4294967295] w (IsPost K b w (madeF f (ins ts (constT 31)) op x (pos ts (constT 31)))) := by
  obtain ⟨K1, h1, hg1, hT1, hc1, hk1, hKK, k1⟩ := boxed K b ts w h hg hT
  have hmf := makeFunc_run
  have htz : ∀ w, Tab w → Calls Tryd.prog 65 #[.int .u32 4294967295] w fun e w' => e = .returned (.int .i64 (Lib.ctz 32 4294967295 : Nat)) ∧ w = w' := tz32_any 4294967295 (by omega)
  have hb1 := and_ones_pred
  have n36 : ((op : Int) == 36) = false := by simp; omega
  have n35 : ((op : Int) == 35) = false := by simp; omega
  have sh : isShift op = true := by simp [isShift]; omega
  clear hT h hg
  go_enter Tryd.func43, Tryd.ntmps43
  go_wp2_with (first
    | (go_at_call 42; (with_reducible refine (among3 _ _ _ _ (g := _) (w := _) (hg := by simp)).mono ?_); rintro r w' ⟨rfl, rfl⟩)
    | (go_at_call 42; (with_reducible refine (among2 _ _ _ (g := _) (w := _) (hg := by simp)).mono ?_); rintro r w' ⟨rfl, rfl⟩)
    | (go_at_call 66; (with_reducible refine (shift_any _ _).mono ?_); rintro r w' ⟨rfl, rfl⟩)
    | (go_at_call 66; (with_reducible refine (hsh _).mono ?_); rintro r w' ⟨rfl, rfl⟩)
    | (go_at_call 65; (with_reducible refine (htz _ (by repeat (first | exact hT1 | refine Tab.alloc ?_ _))).mono ?_); rintro r w' ⟨rfl, rfl⟩)
    | fail)
  refine (goes_any f hM K1 b w.heap.size ts op x 31 _ (by repeat (first | exact h1 | refine DagAt.alloc ?_ _)) hW.good hg1 (by repeat (first | exact hT1 | refine Tab.alloc ?_ _)) hW.ok hx (by omega) (by have := hW.less; omega) hl hk1 (by repeat (first | exact hc1 | refine cell_alloc0 ?_ _))).mono ?_
  rintro r wz ⟨rfl, hz, kz⟩
  have kw := Kept.trans (K := K) (w := w) (by repeat (first | exact k1 | refine Kept.then_alloc ?_ _)) (kz.mono hKK)
  go_wp2_with fail
  go_ret2
  exact ⟨rfl, hz.mono hKK, kw⟩
set_option maxRecDepth 100000 in
set_option maxHeartbeats 1000000 in
theorem by_r6 (f : Nat) (hM : MadeSpec f) (K : Nat → Prop) (b : Nat) (ts : List Term) (op x y v : Nat) (w : World) (h : DagAt K w b ts) (hG : Good ts) (hg : K 0) (hT : Tab w) (ho : (doW op 0 0).isSome = true) (hx : x < ts.length) (hl : ts.length + (f + 1) < 1000000000000) (hv : v < 4294967296) (hv1 : 1 < v) (hvm : v ≠ 4294967295) (hp : isPow v = true) (hop : op = 37) (hW : Went ts op x y (ins ts (constT (lg v))) 29 x (pos ts (constT (lg v)))) (hm : mz ts op x y < f + 1) :
    Calls Tryd.prog 43 #[.pointer (some ⟨b, 0, none⟩), .int .i64 op, .int .i64 x, .int .i64 y, .int .u32 v] w (IsPost K b w (madeF f (ins ts (constT (lg v))) 29 x (pos ts (constT (lg v))))) := by
  obtain ⟨K1, h1, hg1, hT1, hc1, hk1, hKK, k1⟩ := boxed K b ts w h hg hT
  have hmf := makeFunc_run
  have htz := tz32_any v hv
  have hone := and_pred hv hv1
  rw [hp] at hone
  have e0 : ((v : Int) == 0) = false := by simp; omega
  have e0' : ((v : Int) != 0) = true := by simp; omega
  have e1 : ((v : Int) == 1) = false := by simp; omega
  have em : ((v : Int) == 4294967295) = false := by simp; omega
  have l1 : (1 : Int) < v := by omega
  subst hop
  have hsh : ∀ w, Calls Tryd.prog 66 #[.int .i64 37] w fun e w' => e = .returned (.bool false) ∧ w.alloc (.cells #[.int .i64 29, .int .i64 33, .int .i64 34] 3) = w' := shift_any 37
  have hlg := ctz_pow hv hp
  have hlt := lg_lt hv hv1
  clear hT h hg
  go_enter Tryd.func43, Tryd.ntmps43
  go_wp2_with (first
    | (go_at_call 42; (with_reducible refine (among3 _ _ _ _ (g := _) (w := _) (hg := by simp)).mono ?_); rintro r w' ⟨rfl, rfl⟩)
    | (go_at_call 42; (with_reducible refine (among2 _ _ _ (g := _) (w := _) (hg := by simp)).mono ?_); rintro r w' ⟨rfl, rfl⟩)
    | (go_at_call 66; (with_reducible refine (shift_any _ _).mono ?_); rintro r w' ⟨rfl, rfl⟩)
    | (go_at_call 66; (with_reducible refine (hsh _).mono ?_); rintro r w' ⟨rfl, rfl⟩)
    | (go_at_call 65; (with_reducible refine (htz _ (by repeat (first | exact hT1 | refine Tab.alloc ?_ _))).mono ?_); rintro r w' ⟨rfl, rfl⟩)
    | fail)
  refine (goes_any f hM K1 b w.heap.size ts 29 x (lg v) _ (by repeat (first | exact h1 | refine DagAt.alloc ?_ _)) hW.good hg1 (by repeat (first | exact hT1 | refine Tab.alloc ?_ _)) hW.ok hx (by omega) (by have := hW.less; omega) hl hk1 (by repeat (first | exact hc1 | refine cell_alloc0 ?_ _))).mono ?_
  rintro r wz ⟨rfl, hz, kz⟩
  have kw := Kept.trans (K := K) (w := w) (by repeat (first | exact k1 | refine Kept.then_alloc ?_ _)) (kz.mono hKK)
  go_wp2_with fail
  go_ret2
  exact ⟨rfl, hz.mono hKK, kw⟩
set_option maxRecDepth 100000 in
set_option maxHeartbeats 1000000 in
theorem by_r7 (f : Nat) (hM : MadeSpec f) (K : Nat → Prop) (b : Nat) (ts : List Term) (op x y v : Nat) (w : World) (h : DagAt K w b ts) (hG : Good ts) (hg : K 0) (hT : Tab w) (ho : (doW op 0 0).isSome = true) (hx : x < ts.length) (hl : ts.length + (f + 1) < 1000000000000) (hv : v < 4294967296) (hv1 : 1 < v) (hvm : v ≠ 4294967295) (hp : isPow v = true) (hop : op = 42) (hW : Went ts op x y (ins ts (constT (lg v))) 33 x (pos ts (constT (lg v)))) (hm : mz ts op x y < f + 1) :
    Calls Tryd.prog 43 #[.pointer (some ⟨b, 0, none⟩), .int .i64 op, .int .i64 x, .int .i64 y, .int .u32 v] w (IsPost K b w (madeF f (ins ts (constT (lg v))) 33 x (pos ts (constT (lg v))))) := by
  obtain ⟨K1, h1, hg1, hT1, hc1, hk1, hKK, k1⟩ := boxed K b ts w h hg hT
  have hmf := makeFunc_run
  have htz := tz32_any v hv
  have hone := and_pred hv hv1
  rw [hp] at hone
  have e0 : ((v : Int) == 0) = false := by simp; omega
  have e0' : ((v : Int) != 0) = true := by simp; omega
  have e1 : ((v : Int) == 1) = false := by simp; omega
  have em : ((v : Int) == 4294967295) = false := by simp; omega
  have l1 : (1 : Int) < v := by omega
  subst hop
  have hsh : ∀ w, Calls Tryd.prog 66 #[.int .i64 42] w fun e w' => e = .returned (.bool false) ∧ w.alloc (.cells #[.int .i64 29, .int .i64 33, .int .i64 34] 3) = w' := shift_any 42
  have hlg := ctz_pow hv hp
  have hlt := lg_lt hv hv1
  clear hT h hg
  go_enter Tryd.func43, Tryd.ntmps43
  go_wp2_with (first
    | (go_at_call 42; (with_reducible refine (among3 _ _ _ _ (g := _) (w := _) (hg := by simp)).mono ?_); rintro r w' ⟨rfl, rfl⟩)
    | (go_at_call 42; (with_reducible refine (among2 _ _ _ (g := _) (w := _) (hg := by simp)).mono ?_); rintro r w' ⟨rfl, rfl⟩)
    | (go_at_call 66; (with_reducible refine (shift_any _ _).mono ?_); rintro r w' ⟨rfl, rfl⟩)
    | (go_at_call 66; (with_reducible refine (hsh _).mono ?_); rintro r w' ⟨rfl, rfl⟩)
    | (go_at_call 65; (with_reducible refine (htz _ (by repeat (first | exact hT1 | refine Tab.alloc ?_ _))).mono ?_); rintro r w' ⟨rfl, rfl⟩)
    | fail)
  refine (goes_any f hM K1 b w.heap.size ts 33 x (lg v) _ (by repeat (first | exact h1 | refine DagAt.alloc ?_ _)) hW.good hg1 (by repeat (first | exact hT1 | refine Tab.alloc ?_ _)) hW.ok hx (by omega) (by have := hW.less; omega) hl hk1 (by repeat (first | exact hc1 | refine cell_alloc0 ?_ _))).mono ?_
  rintro r wz ⟨rfl, hz, kz⟩
  have kw := Kept.trans (K := K) (w := w) (by repeat (first | exact k1 | refine Kept.then_alloc ?_ _)) (kz.mono hKK)
  go_wp2_with fail
  go_ret2
  exact ⟨rfl, hz.mono hKK, kw⟩
set_option maxRecDepth 100000 in
set_option maxHeartbeats 1000000 in
theorem by_r8 (f : Nat) (hM : MadeSpec f) (K : Nat → Prop) (b : Nat) (ts : List Term) (op x y v : Nat) (w : World) (h : DagAt K w b ts) (hG : Good ts) (hg : K 0) (hT : Tab w) (ho : (doW op 0 0).isSome = true) (hx : x < ts.length) (hl : ts.length + (f + 1) < 1000000000000) (hv : v < 4294967296) (hv1 : 1 < v) (hvm : v ≠ 4294967295) (hp : isPow v = true) (hop : op = 44) (hW : Went ts op x y (ins ts (constT (v - 1))) 36 x (pos ts (constT (v - 1)))) (hm : mz ts op x y < f + 1) :
    Calls Tryd.prog 43 #[.pointer (some ⟨b, 0, none⟩), .int .i64 op, .int .i64 x, .int .i64 y, .int .u32 v] w (IsPost K b w (madeF f (ins ts (constT (v - 1))) 36 x (pos ts (constT (v - 1))))) := by
  obtain ⟨K1, h1, hg1, hT1, hc1, hk1, hKK, k1⟩ := boxed K b ts w h hg hT
  have hmf := makeFunc_run
  have htz := tz32_any v hv
  have hone := and_pred hv hv1
  rw [hp] at hone
  have e0 : ((v : Int) == 0) = false := by simp; omega
  have e0' : ((v : Int) != 0) = true := by simp; omega
  have e1 : ((v : Int) == 1) = false := by simp; omega
  have em : ((v : Int) == 4294967295) = false := by simp; omega
  have l1 : (1 : Int) < v := by omega
  subst hop
  have hsh : ∀ w, Calls Tryd.prog 66 #[.int .i64 44] w fun e w' => e = .returned (.bool false) ∧ w.alloc (.cells #[.int .i64 29, .int .i64 33, .int .i64 34] 3) = w' := shift_any 44
  have hpred : (v : Int) - 1 = ((v - 1 : Nat) : Int) := by omega
  have HPRED := Lib.hid hpred
  clear hpred
  clear hT h hg
  go_enter Tryd.func43, Tryd.ntmps43
  go_wp2_with (first
    | (go_at_call 42; (with_reducible refine (among3 _ _ _ _ (g := _) (w := _) (hg := by simp)).mono ?_); rintro r w' ⟨rfl, rfl⟩)
    | (go_at_call 42; (with_reducible refine (among2 _ _ _ (g := _) (w := _) (hg := by simp)).mono ?_); rintro r w' ⟨rfl, rfl⟩)
    | (go_at_call 66; (with_reducible refine (shift_any _ _).mono ?_); rintro r w' ⟨rfl, rfl⟩)
    | (go_at_call 66; (with_reducible refine (hsh _).mono ?_); rintro r w' ⟨rfl, rfl⟩)
    | (go_at_call 65; (with_reducible refine (htz _ (by repeat (first | exact hT1 | refine Tab.alloc ?_ _))).mono ?_); rintro r w' ⟨rfl, rfl⟩)
    | fail)
  rw [HPRED.out]
  refine (goes_any f hM K1 b w.heap.size ts 36 x (v - 1) _ (by repeat (first | exact h1 | refine DagAt.alloc ?_ _)) hW.good hg1 (by repeat (first | exact hT1 | refine Tab.alloc ?_ _)) hW.ok hx (by omega) (by have := hW.less; omega) hl hk1 (by repeat (first | exact hc1 | refine cell_alloc0 ?_ _))).mono ?_
  rintro r wz ⟨rfl, hz, kz⟩
  have kw := Kept.trans (K := K) (w := w) (by repeat (first | exact k1 | refine Kept.then_alloc ?_ _)) (kz.mono hKK)
  go_wp2_with fail
  go_ret2
  exact ⟨rfl, hz.mono hKK, kw⟩
end Go.Proofs.YtekleoccdockhaaDoor
