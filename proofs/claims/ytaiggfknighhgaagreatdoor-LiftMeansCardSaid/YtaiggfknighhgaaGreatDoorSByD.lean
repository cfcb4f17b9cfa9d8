/- simp: a reckoning of a term and a word, where the term counts, first part (written by genBW.py). -/
import Derived.Test.YtaiggfknighhgaaGreatDoorSByF
set_option linter.unusedVariables false
set_option linter.unusedSimpArgs false
namespace Go.Proofs.YtaiggfknighhgaaGreatDoor
open Go.RowKit Go.Maps Go.MapKept

set_option maxRecDepth 100000 in
set_option maxHeartbeats 1000000 in
theorem by_d1nz (f : Nat) (hM : MadeSpec f) (K : Nat → Prop) (b : Nat) (ts : List Term) (op x y : Nat) (w : World) (h : DagAt K w b ts) (hG : Good ts) (hg : K 0) (hT : Tab w) (ho : (doW op 0 0).isSome = true) (hx : x < ts.length) (hl : ts.length + (f + 1) < 1000000000000) (hop : (op = 28 ∨ op = 30 ∨ op = 38 ∨ op = 39 ∨ op = 40 ∨ op = 41 ∨ op = 42 ∨ op = 43 ∨ op = 44)) (t : Term) (ht : ts.getD x default = t) (hk : t.k ≠ 2) :
    Calls Tryz.prog 99 #[.pointer (some ⟨b, 0, none⟩), .int .i64 op, .int .i64 x, .int .i64 y, .int .u32 0] w (NonePost K b w ts) := by
  obtain ⟨K1, h1, hg1, hT1, hc1, hk1, hKK, k1⟩ := boxed K b ts w h hg hT
  have hmf := makeFunc_run
  have htz : ∀ w, Tab w → Calls Tryz.prog 109 #[.int .u32 0] w fun e w' => e = .returned (.int .i64 (Lib.ctz 32 0 : Nat)) ∧ w = w' := tz32_any 0 (by omega)
  have a27_35_32 : hasI (op : Int) [27, 35, 32] = false := by simp [hasI]; omega
  have a36_37_31 : hasI (op : Int) [36, 37, 31] = false := by simp [hasI]; omega
  have sh : isShift op = false := by simp [isShift]; omega
  have k0 : ((t.k : Int) != 2) = true := by simp; omega
  clear hG ho hT h hg
  clear hk
  go_enter Tryz.func99, Tryz.ntmps99
  go_wp2_with (first
    | (go_at_call 98; (with_reducible refine (among3 _ _ _ _ (g := _) (w := _) (hg := by simp)).mono ?_); rintro r w' ⟨rfl, rfl⟩)
    | (go_at_call 98; (with_reducible refine (among2 _ _ _ (g := _) (w := _) (hg := by simp)).mono ?_); rintro r w' ⟨rfl, rfl⟩)
    | (go_at_call 110; (with_reducible refine (shift_any _ _).mono ?_); rintro r w' ⟨rfl, rfl⟩)
    | (go_at_call 110; (with_reducible refine (hsh _).mono ?_); rintro r w' ⟨rfl, rfl⟩)
    | (go_at_call 109; (with_reducible refine (htz _ (by repeat (first | exact hT1 | refine Tab.alloc ?_ _))).mono ?_); rintro r w' ⟨rfl, rfl⟩)
    | fail)
  have hN : ∀ w, DagAt K1 w b ts → Calls Tryz.prog 34 #[.pointer (some ⟨b, 0, none⟩), .int .i64 x] w fun r w' => r = .returned (.tuple #[.agg #[.int .i64 t.k, .int .u32 t.v, .int .i64 t.op, .int .i64 t.a, .int .i64 t.b], .int .i64 0]) ∧ Below w.heap.size w w' := by
    intro w hw
    have hq := node_any K1 b x ts (by omega) hx w hw
    rw [ht] at hq
    exact hq
  clear ht
  refine (hN _ (by repeat (first | exact h1 | refine DagAt.alloc ?_ _))).mono ?_
  rintro r w2 ⟨rfl, b2⟩
  have h2 := DagAt.below (K := K1) (b := b) (ts := ts) (by repeat (first | exact h1 | refine DagAt.alloc ?_ _)) b2
  have k2 := Kept.then_below (K := K) (w := w) (by repeat (first | exact k1 | refine Kept.then_alloc ?_ _)) b2
  have hT2 := Tab.below (by repeat (first | exact hT1 | refine Tab.alloc ?_ _)) b2
  have hc2 := cell_below (b := w.heap.size) (off := 0) (v := .pointer (some ⟨b, 0, none⟩)) b2 (by repeat (first | exact hc1 | refine cell_alloc0 ?_ _))
  have hne2 : w.heap.size ≠ w2.heap.size := by have := b2.size; simp at this; omega
  have hc2a := cell_alloc0 hc2 (.cells #[.int .i64 t.k, .int .u32 t.v, .int .i64 t.op, .int .i64 t.a, .int .i64 t.b] 68)
  obtain ⟨z0, z1, z2, z3, z4⟩ := five_cells (blk_new w2 (.cells #[.int .i64 t.k, .int .u32 t.v, .int .i64 t.op, .int .i64 t.a, .int .i64 t.b] 68))
  go_wp2_with fail
  go_ret2
  exact ⟨rfl, (h2.alloc _).mono hKK, k2.then_alloc _⟩
set_option maxRecDepth 100000 in
set_option maxHeartbeats 1000000 in
theorem by_d2nz (f : Nat) (hM : MadeSpec f) (K : Nat → Prop) (b : Nat) (ts : List Term) (op x y : Nat) (w : World) (h : DagAt K w b ts) (hG : Good ts) (hg : K 0) (hT : Tab w) (ho : (doW op 0 0).isSome = true) (hx : x < ts.length) (hl : ts.length + (f + 1) < 1000000000000) (hop : (op = 28 ∨ op = 30 ∨ op = 38 ∨ op = 39 ∨ op = 40 ∨ op = 41 ∨ op = 42 ∨ op = 43 ∨ op = 44)) (u q ta tb : Nat) (ht : ts.getD x default = ⟨2, u, q, ta, tb⟩) (hko : q ≠ op) :
    Calls Tryz.prog 99 #[.pointer (some ⟨b, 0, none⟩), .int .i64 op, .int .i64 x, .int .i64 y, .int .u32 0] w (NonePost K b w ts) := by
  obtain ⟨K1, h1, hg1, hT1, hc1, hk1, hKK, k1⟩ := boxed K b ts w h hg hT
  have hmf := makeFunc_run
  have htz : ∀ w, Tab w → Calls Tryz.prog 109 #[.int .u32 0] w fun e w' => e = .returned (.int .i64 (Lib.ctz 32 0 : Nat)) ∧ w = w' := tz32_any 0 (by omega)
  have a27_35_32 : hasI (op : Int) [27, 35, 32] = false := by simp [hasI]; omega
  have a36_37_31 : hasI (op : Int) [36, 37, 31] = false := by simp [hasI]; omega
  have sh : isShift op = false := by simp [isShift]; omega
  have o0 : ((q : Int) != (op : Int)) = true := by simp; omega
  clear hG ho hT h hg
  clear hko
  go_enter Tryz.func99, Tryz.ntmps99
  go_wp2_with (first
    | (go_at_call 98; (with_reducible refine (among3 _ _ _ _ (g := _) (w := _) (hg := by simp)).mono ?_); rintro r w' ⟨rfl, rfl⟩)
    | (go_at_call 98; (with_reducible refine (among2 _ _ _ (g := _) (w := _) (hg := by simp)).mono ?_); rintro r w' ⟨rfl, rfl⟩)
    | (go_at_call 110; (with_reducible refine (shift_any _ _).mono ?_); rintro r w' ⟨rfl, rfl⟩)
    | (go_at_call 110; (with_reducible refine (hsh _).mono ?_); rintro r w' ⟨rfl, rfl⟩)
    | (go_at_call 109; (with_reducible refine (htz _ (by repeat (first | exact hT1 | refine Tab.alloc ?_ _))).mono ?_); rintro r w' ⟨rfl, rfl⟩)
    | fail)
  have hN : ∀ w, DagAt K1 w b ts → Calls Tryz.prog 34 #[.pointer (some ⟨b, 0, none⟩), .int .i64 x] w fun r w' => r = .returned (.tuple #[.agg #[.int .i64 2, .int .u32 u, .int .i64 q, .int .i64 ta, .int .i64 tb], .int .i64 0]) ∧ Below w.heap.size w w' := by
    intro w hw
    have hq := node_any K1 b x ts (by omega) hx w hw
    rw [ht] at hq
    exact hq
  clear ht
  refine (hN _ (by repeat (first | exact h1 | refine DagAt.alloc ?_ _))).mono ?_
  rintro r w2 ⟨rfl, b2⟩
  have h2 := DagAt.below (K := K1) (b := b) (ts := ts) (by repeat (first | exact h1 | refine DagAt.alloc ?_ _)) b2
  have k2 := Kept.then_below (K := K) (w := w) (by repeat (first | exact k1 | refine Kept.then_alloc ?_ _)) b2
  have hT2 := Tab.below (by repeat (first | exact hT1 | refine Tab.alloc ?_ _)) b2
  have hc2 := cell_below (b := w.heap.size) (off := 0) (v := .pointer (some ⟨b, 0, none⟩)) b2 (by repeat (first | exact hc1 | refine cell_alloc0 ?_ _))
  have hne2 : w.heap.size ≠ w2.heap.size := by have := b2.size; simp at this; omega
  have hc2a := cell_alloc0 hc2 (.cells #[.int .i64 2, .int .u32 u, .int .i64 q, .int .i64 ta, .int .i64 tb] 68)
  obtain ⟨z0, z1, z2, z3, z4⟩ := five_cells (blk_new w2 (.cells #[.int .i64 2, .int .u32 u, .int .i64 q, .int .i64 ta, .int .i64 tb] 68))
  go_wp2_with fail
  go_ret2
  exact ⟨rfl, (h2.alloc _).mono hKK, k2.then_alloc _⟩
set_option maxRecDepth 100000 in
set_option maxHeartbeats 1000000 in
theorem by_d3nz (f : Nat) (hM : MadeSpec f) (K : Nat → Prop) (b : Nat) (ts : List Term) (op x y : Nat) (w : World) (h : DagAt K w b ts) (hG : Good ts) (hg : K 0) (hT : Tab w) (ho : (doW op 0 0).isSome = true) (hx : x < ts.length) (hl : ts.length + (f + 1) < 1000000000000) (hop : (op = 28 ∨ op = 30 ∨ op = 38 ∨ op = 39 ∨ op = 40 ∨ op = 41 ∨ op = 42 ∨ op = 43 ∨ op = 44)) (ta tb : Nat) (ht : ts.getD x default = ⟨2, 0, op, ta, tb⟩) (htb : tb < ts.length) (hcb : isC ts tb = false) :
    Calls Tryz.prog 99 #[.pointer (some ⟨b, 0, none⟩), .int .i64 op, .int .i64 x, .int .i64 y, .int .u32 0] w (NonePost K b w ts) := by
  obtain ⟨K1, h1, hg1, hT1, hc1, hk1, hKK, k1⟩ := boxed K b ts w h hg hT
  have hmf := makeFunc_run
  have htz : ∀ w, Tab w → Calls Tryz.prog 109 #[.int .u32 0] w fun e w' => e = .returned (.int .i64 (Lib.ctz 32 0 : Nat)) ∧ w = w' := tz32_any 0 (by omega)
  have a27_35_32 : hasI (op : Int) [27, 35, 32] = false := by simp [hasI]; omega
  have a36_37_31 : hasI (op : Int) [36, 37, 31] = false := by simp [hasI]; omega
  have sh : isShift op = false := by simp [isShift]; omega
  have hKn := fun w => known_any K1 b tb ts (by omega) htb w
  rw [hcb] at hKn
  clear hcb
  clear hG ho hT h hg
  go_enter Tryz.func99, Tryz.ntmps99
  go_wp2_with (first
    | (go_at_call 98; (with_reducible refine (among3 _ _ _ _ (g := _) (w := _) (hg := by simp)).mono ?_); rintro r w' ⟨rfl, rfl⟩)
    | (go_at_call 98; (with_reducible refine (among2 _ _ _ (g := _) (w := _) (hg := by simp)).mono ?_); rintro r w' ⟨rfl, rfl⟩)
    | (go_at_call 110; (with_reducible refine (shift_any _ _).mono ?_); rintro r w' ⟨rfl, rfl⟩)
    | (go_at_call 110; (with_reducible refine (hsh _).mono ?_); rintro r w' ⟨rfl, rfl⟩)
    | (go_at_call 109; (with_reducible refine (htz _ (by repeat (first | exact hT1 | refine Tab.alloc ?_ _))).mono ?_); rintro r w' ⟨rfl, rfl⟩)
    | fail)
  have hN : ∀ w, DagAt K1 w b ts → Calls Tryz.prog 34 #[.pointer (some ⟨b, 0, none⟩), .int .i64 x] w fun r w' => r = .returned (.tuple #[.agg #[.int .i64 2, .int .u32 0, .int .i64 op, .int .i64 ta, .int .i64 tb], .int .i64 0]) ∧ Below w.heap.size w w' := by
    intro w hw
    have hq := node_any K1 b x ts (by omega) hx w hw
    rw [ht] at hq
    exact hq
  clear ht
  refine (hN _ (by repeat (first | exact h1 | refine DagAt.alloc ?_ _))).mono ?_
  rintro r w2 ⟨rfl, b2⟩
  have h2 := DagAt.below (K := K1) (b := b) (ts := ts) (by repeat (first | exact h1 | refine DagAt.alloc ?_ _)) b2
  have k2 := Kept.then_below (K := K) (w := w) (by repeat (first | exact k1 | refine Kept.then_alloc ?_ _)) b2
  have hT2 := Tab.below (by repeat (first | exact hT1 | refine Tab.alloc ?_ _)) b2
  have hc2 := cell_below (b := w.heap.size) (off := 0) (v := .pointer (some ⟨b, 0, none⟩)) b2 (by repeat (first | exact hc1 | refine cell_alloc0 ?_ _))
  have hne2 : w.heap.size ≠ w2.heap.size := by have := b2.size; simp at this; omega
  have hc2a := cell_alloc0 hc2 (.cells #[.int .i64 2, .int .u32 0, .int .i64 op, .int .i64 ta, .int .i64 tb] 68)
  obtain ⟨z0, z1, z2, z3, z4⟩ := five_cells (blk_new w2 (.cells #[.int .i64 2, .int .u32 0, .int .i64 op, .int .i64 ta, .int .i64 tb] 68))
  go_wp2_with fail
  refine (hKn _ (h2.alloc _)).mono ?_
  rintro r w3 ⟨rfl, b3⟩
  have h3 := (h2.alloc _).below b3
  have k3 := (k2.then_alloc _).then_below b3
  have hT3 := (hT2.alloc _).below b3
  have hc3 := cell_below b3 (cell_alloc0 hc2 _)
  have y3 := cell_below b3 z3
  have y3a := cell_alloc0 y3 (.cells #[.int .i64 27, .int .i64 36, .int .i64 35, .int .i64 32] 3)
  have y3b := cell_alloc0 y3a (.cells #[.int .i64 29, .int .i64 33, .int .i64 34] 3)
  have hc3a := cell_alloc0 hc3 (.cells #[.int .i64 27, .int .i64 36, .int .i64 35, .int .i64 32] 3)
  have hc3b := cell_alloc0 hc3a (.cells #[.int .i64 29, .int .i64 33, .int .i64 34] 3)
  clear z0 z1 z2 z3 z4 hc2 hc2a hne2 hT2 h2 b2
  go_wp2_with fail
  go_ret2
  exact ⟨rfl, DagAt.mono (by repeat (first | exact h3 | refine DagAt.alloc ?_ _)) hKK, (by repeat (first | exact k3 | refine Kept.then_alloc ?_ _))⟩
set_option maxRecDepth 100000 in
set_option maxHeartbeats 1000000 in
theorem by_dnnz (f : Nat) (hM : MadeSpec f) (K : Nat → Prop) (b : Nat) (ts : List Term) (op x y : Nat) (w : World) (h : DagAt K w b ts) (hG : Good ts) (hg : K 0) (hT : Tab w) (ho : (doW op 0 0).isSome = true) (hx : x < ts.length) (hl : ts.length + (f + 1) < 1000000000000) (hop : (op = 28 ∨ op = 30 ∨ op = 38 ∨ op = 39 ∨ op = 40 ∨ op = 41 ∨ op = 42 ∨ op = 43 ∨ op = 44)) (ta tb : Nat) (ht : ts.getD x default = ⟨2, 0, op, ta, tb⟩) (htb : tb < ts.length) (hcb : isC ts tb = true) :
    Calls Tryz.prog 99 #[.pointer (some ⟨b, 0, none⟩), .int .i64 op, .int .i64 x, .int .i64 y, .int .u32 0] w (NonePost K b w ts) := by
  obtain ⟨K1, h1, hg1, hT1, hc1, hk1, hKK, k1⟩ := boxed K b ts w h hg hT
  have hmf := makeFunc_run
  have htz : ∀ w, Tab w → Calls Tryz.prog 109 #[.int .u32 0] w fun e w' => e = .returned (.int .i64 (Lib.ctz 32 0 : Nat)) ∧ w = w' := tz32_any 0 (by omega)
  have a27_35_32 : hasI (op : Int) [27, 35, 32] = false := by simp [hasI]; omega
  have a36_37_31 : hasI (op : Int) [36, 37, 31] = false := by simp [hasI]; omega
  have sh : isShift op = false := by simp [isShift]; omega
  have hKn := fun w => known_any K1 b tb ts (by omega) htb w
  rw [hcb] at hKn
  clear hcb
  have a4 : hasI (op : Int) [27, 36, 35, 32] = false := by simp [hasI]; omega
  clear hG ho hT h hg
  go_enter Tryz.func99, Tryz.ntmps99
  go_wp2_with (first
    | (go_at_call 98; (with_reducible refine (among3 _ _ _ _ (g := _) (w := _) (hg := by simp)).mono ?_); rintro r w' ⟨rfl, rfl⟩)
    | (go_at_call 98; (with_reducible refine (among2 _ _ _ (g := _) (w := _) (hg := by simp)).mono ?_); rintro r w' ⟨rfl, rfl⟩)
    | (go_at_call 110; (with_reducible refine (shift_any _ _).mono ?_); rintro r w' ⟨rfl, rfl⟩)
    | (go_at_call 110; (with_reducible refine (hsh _).mono ?_); rintro r w' ⟨rfl, rfl⟩)
    | (go_at_call 109; (with_reducible refine (htz _ (by repeat (first | exact hT1 | refine Tab.alloc ?_ _))).mono ?_); rintro r w' ⟨rfl, rfl⟩)
    | fail)
  have hN : ∀ w, DagAt K1 w b ts → Calls Tryz.prog 34 #[.pointer (some ⟨b, 0, none⟩), .int .i64 x] w fun r w' => r = .returned (.tuple #[.agg #[.int .i64 2, .int .u32 0, .int .i64 op, .int .i64 ta, .int .i64 tb], .int .i64 0]) ∧ Below w.heap.size w w' := by
    intro w hw
    have hq := node_any K1 b x ts (by omega) hx w hw
    rw [ht] at hq
    exact hq
  clear ht
  refine (hN _ (by repeat (first | exact h1 | refine DagAt.alloc ?_ _))).mono ?_
  rintro r w2 ⟨rfl, b2⟩
  have h2 := DagAt.below (K := K1) (b := b) (ts := ts) (by repeat (first | exact h1 | refine DagAt.alloc ?_ _)) b2
  have k2 := Kept.then_below (K := K) (w := w) (by repeat (first | exact k1 | refine Kept.then_alloc ?_ _)) b2
  have hT2 := Tab.below (by repeat (first | exact hT1 | refine Tab.alloc ?_ _)) b2
  have hc2 := cell_below (b := w.heap.size) (off := 0) (v := .pointer (some ⟨b, 0, none⟩)) b2 (by repeat (first | exact hc1 | refine cell_alloc0 ?_ _))
  have hne2 : w.heap.size ≠ w2.heap.size := by have := b2.size; simp at this; omega
  have hc2a := cell_alloc0 hc2 (.cells #[.int .i64 2, .int .u32 0, .int .i64 op, .int .i64 ta, .int .i64 tb] 68)
  obtain ⟨z0, z1, z2, z3, z4⟩ := five_cells (blk_new w2 (.cells #[.int .i64 2, .int .u32 0, .int .i64 op, .int .i64 ta, .int .i64 tb] 68))
  go_wp2_with fail
  refine (hKn _ (h2.alloc _)).mono ?_
  rintro r w3 ⟨rfl, b3⟩
  have h3 := (h2.alloc _).below b3
  have k3 := (k2.then_alloc _).then_below b3
  have hT3 := (hT2.alloc _).below b3
  have hc3 := cell_below b3 (cell_alloc0 hc2 _)
  have y3 := cell_below b3 z3
  have y3a := cell_alloc0 y3 (.cells #[.int .i64 27, .int .i64 36, .int .i64 35, .int .i64 32] 3)
  have y3b := cell_alloc0 y3a (.cells #[.int .i64 29, .int .i64 33, .int .i64 34] 3)
  have hc3a := cell_alloc0 hc3 (.cells #[.int .i64 27, .int .i64 36, .int .i64 35, .int .i64 32] 3)
  have hc3b := cell_alloc0 hc3a (.cells #[.int .i64 29, .int .i64 33, .int .i64 34] 3)
  clear z0 z1 z2 z3 z4 hc2 hc2a hne2 hT2 h2 b2
  go_wp2_with (first
    | (go_at_call 98; (with_reducible refine (among4 _ _ _ _ _ (g := _) (w := _) (hg := by simp)).mono ?_); rintro r w' ⟨rfl, rfl⟩)
    | (go_at_call 110; (with_reducible refine (shift_any _ _).mono ?_); rintro r w' ⟨rfl, rfl⟩)
    | (go_at_call 110; (with_reducible refine (hsh _).mono ?_); rintro r w' ⟨rfl, rfl⟩)
    | (go_at_call 42; (with_reducible refine (hDo _).mono ?_); rintro r w' ⟨rfl, rfl⟩)
    | fail)
  go_ret2
  exact ⟨rfl, DagAt.mono (by repeat (first | exact h3 | refine DagAt.alloc ?_ _)) hKK, (by repeat (first | exact k3 | refine Kept.then_alloc ?_ _))⟩
set_option maxRecDepth 100000 in
set_option maxHeartbeats 1000000 in
theorem by_d1no (f : Nat) (hM : MadeSpec f) (K : Nat → Prop) (b : Nat) (ts : List Term) (op x y : Nat) (w : World) (h : DagAt K w b ts) (hG : Good ts) (hg : K 0) (hT : Tab w) (ho : (doW op 0 0).isSome = true) (hx : x < ts.length) (hl : ts.length + (f + 1) < 1000000000000) (hop : (op = 28 ∨ op = 30 ∨ op = 31 ∨ op = 38 ∨ op = 39 ∨ op = 40)) (t : Term) (ht : ts.getD x default = t) (hk : t.k ≠ 2) :
    Calls Tryz.prog 99 #[.pointer (some ⟨b, 0, none⟩), .int .i64 op, .int .i64 x, .int .i64 y, .int .u32 1] w (NonePost K b w ts) := by
  obtain ⟨K1, h1, hg1, hT1, hc1, hk1, hKK, k1⟩ := boxed K b ts w h hg hT
  have hmf := makeFunc_run
  have htz : ∀ w, Tab w → Calls Tryz.prog 109 #[.int .u32 1] w fun e w' => e = .returned (.int .i64 (Lib.ctz 32 1 : Nat)) ∧ w = w' := tz32_any 1 (by omega)
  have hb1 := and_one_pred
  have a37_41_42 : hasI (op : Int) [37, 41, 42] = false := by simp [hasI]; omega
  have a43_44 : hasI (op : Int) [43, 44] = false := by simp [hasI]; omega
  have sh : isShift op = false := by simp [isShift]; omega
  have k0 : ((t.k : Int) != 2) = true := by simp; omega
  clear hG ho hT h hg
  clear hk
  go_enter Tryz.func99, Tryz.ntmps99
  go_wp2_with (first
    | (go_at_call 98; (with_reducible refine (among3 _ _ _ _ (g := _) (w := _) (hg := by simp)).mono ?_); rintro r w' ⟨rfl, rfl⟩)
    | (go_at_call 98; (with_reducible refine (among2 _ _ _ (g := _) (w := _) (hg := by simp)).mono ?_); rintro r w' ⟨rfl, rfl⟩)
    | (go_at_call 110; (with_reducible refine (shift_any _ _).mono ?_); rintro r w' ⟨rfl, rfl⟩)
    | (go_at_call 110; (with_reducible refine (hsh _).mono ?_); rintro r w' ⟨rfl, rfl⟩)
    | (go_at_call 109; (with_reducible refine (htz _ (by repeat (first | exact hT1 | refine Tab.alloc ?_ _))).mono ?_); rintro r w' ⟨rfl, rfl⟩)
    | fail)
  have hN : ∀ w, DagAt K1 w b ts → Calls Tryz.prog 34 #[.pointer (some ⟨b, 0, none⟩), .int .i64 x] w fun r w' => r = .returned (.tuple #[.agg #[.int .i64 t.k, .int .u32 t.v, .int .i64 t.op, .int .i64 t.a, .int .i64 t.b], .int .i64 0]) ∧ Below w.heap.size w w' := by
    intro w hw
    have hq := node_any K1 b x ts (by omega) hx w hw
    rw [ht] at hq
    exact hq
  clear ht
  refine (hN _ (by repeat (first | exact h1 | refine DagAt.alloc ?_ _))).mono ?_
  rintro r w2 ⟨rfl, b2⟩
  have h2 := DagAt.below (K := K1) (b := b) (ts := ts) (by repeat (first | exact h1 | refine DagAt.alloc ?_ _)) b2
  have k2 := Kept.then_below (K := K) (w := w) (by repeat (first | exact k1 | refine Kept.then_alloc ?_ _)) b2
  have hT2 := Tab.below (by repeat (first | exact hT1 | refine Tab.alloc ?_ _)) b2
  have hc2 := cell_below (b := w.heap.size) (off := 0) (v := .pointer (some ⟨b, 0, none⟩)) b2 (by repeat (first | exact hc1 | refine cell_alloc0 ?_ _))
  have hne2 : w.heap.size ≠ w2.heap.size := by have := b2.size; simp at this; omega
  have hc2a := cell_alloc0 hc2 (.cells #[.int .i64 t.k, .int .u32 t.v, .int .i64 t.op, .int .i64 t.a, .int .i64 t.b] 68)
  obtain ⟨z0, z1, z2, z3, z4⟩ := five_cells (blk_new w2 (.cells #[.int .i64 t.k, .int .u32 t.v, .int .i64 t.op, .int .i64 t.a, .int .i64 t.b] 68))
  go_wp2_with fail
  go_ret2
  exact ⟨rfl, (h2.alloc _).mono hKK, k2.then_alloc _⟩
set_option maxRecDepth 100000 in
set_option maxHeartbeats 1000000 in
theorem by_d2no (f : Nat) (hM : MadeSpec f) (K : Nat → Prop) (b : Nat) (ts : List Term) (op x y : Nat) (w : World) (h : DagAt K w b ts) (hG : Good ts) (hg : K 0) (hT : Tab w) (ho : (doW op 0 0).isSome = true) (hx : x < ts.length) (hl : ts.length + (f + 1) < 1000000000000) (hop : (op = 28 ∨ op = 30 ∨ op = 31 ∨ op = 38 ∨ op = 39 ∨ op = 40)) (u q ta tb : Nat) (ht : ts.getD x default = ⟨2, u, q, ta, tb⟩) (hko : q ≠ op) :
    Calls Tryz.prog 99 #[.pointer (some ⟨b, 0, none⟩), .int .i64 op, .int .i64 x, .int .i64 y, .int .u32 1] w (NonePost K b w ts) := by
  obtain ⟨K1, h1, hg1, hT1, hc1, hk1, hKK, k1⟩ := boxed K b ts w h hg hT
  have hmf := makeFunc_run
  have htz : ∀ w, Tab w → Calls Tryz.prog 109 #[.int .u32 1] w fun e w' => e = .returned (.int .i64 (Lib.ctz 32 1 : Nat)) ∧ w = w' := tz32_any 1 (by omega)
  have hb1 := and_one_pred
  have a37_41_42 : hasI (op : Int) [37, 41, 42] = false := by simp [hasI]; omega
  have a43_44 : hasI (op : Int) [43, 44] = false := by simp [hasI]; omega
  have sh : isShift op = false := by simp [isShift]; omega
  have o0 : ((q : Int) != (op : Int)) = true := by simp; omega
  clear hG ho hT h hg
  clear hko
  go_enter Tryz.func99, Tryz.ntmps99
  go_wp2_with (first
    | (go_at_call 98; (with_reducible refine (among3 _ _ _ _ (g := _) (w := _) (hg := by simp)).mono ?_); rintro r w' ⟨rfl, rfl⟩)
    | (go_at_call 98; (with_reducible refine (among2 _ _ _ (g := _) (w := _) (hg := by simp)).mono ?_); rintro r w' ⟨rfl, rfl⟩)
    | (go_at_call 110; (with_reducible refine (shift_any _ _).mono ?_); rintro r w' ⟨rfl, rfl⟩)
    | (go_at_call 110; (with_reducible refine (hsh _).mono ?_); rintro r w' ⟨rfl, rfl⟩)
    | (go_at_call 109; (with_reducible refine (htz _ (by repeat (first | exact hT1 | refine Tab.alloc ?_ _))).mono ?_); rintro r w' ⟨rfl, rfl⟩)
    | fail)
  have hN : ∀ w, DagAt K1 w b ts → Calls Tryz.prog 34 #[.pointer (some ⟨b, 0, none⟩), .int .i64 x] w fun r w' => r = .returned (.tuple #[.agg #[.int .i64 2, .int .u32 u, .int .i64 q, .int .i64 ta, .int .i64 tb], .int .i64 0]) ∧ Below w.heap.size w w' := by
    intro w hw
    have hq := node_any K1 b x ts (by omega) hx w hw
    rw [ht] at hq
    exact hq
  clear ht
  refine (hN _ (by repeat (first | exact h1 | refine DagAt.alloc ?_ _))).mono ?_
  rintro r w2 ⟨rfl, b2⟩
  have h2 := DagAt.below (K := K1) (b := b) (ts := ts) (by repeat (first | exact h1 | refine DagAt.alloc ?_ _)) b2
  have k2 := Kept.then_below (K := K) (w := w) (by repeat (first | exact k1 | refine Kept.then_alloc ?_ _)) b2
  have hT2 := Tab.below (by repeat (first | exact hT1 | refine Tab.alloc ?_ _)) b2
  have hc2 := cell_below (b := w.heap.size) (off := 0) (v := .pointer (some ⟨b, 0, none⟩)) b2 (by repeat (first | exact hc1 | refine cell_alloc0 ?_ _))
  have hne2 : w.heap.size ≠ w2.heap.size := by have := b2.size; simp at this; omega
  have hc2a := cell_alloc0 hc2 (.cells #[.int .i64 2, .int .u32 u, .int .i64 q, .int .i64 ta, .int .i64 tb] 68)
  obtain ⟨z0, z1, z2, z3, z4⟩ := five_cells (blk_new w2 (.cells #[.int .i64 2, .int .u32 u, .int .i64 q, .int .i64 ta, .int .i64 tb] 68))
  go_wp2_with fail
  go_ret2
  exact ⟨rfl, (h2.alloc _).mono hKK, k2.then_alloc _⟩
set_option maxRecDepth 100000 in
set_option maxHeartbeats 1000000 in
theorem by_d3no (f : Nat) (hM : MadeSpec f) (K : Nat → Prop) (b : Nat) (ts : List Term) (op x y : Nat) (w : World) (h : DagAt K w b ts) (hG : Good ts) (hg : K 0) (hT : Tab w) (ho : (doW op 0 0).isSome = true) (hx : x < ts.length) (hl : ts.length + (f + 1) < 1000000000000) (hop : (op = 28 ∨ op = 30 ∨ op = 31 ∨ op = 38 ∨ op = 39 ∨ op = 40)) (ta tb : Nat) (ht : ts.getD x default = ⟨2, 0, op, ta, tb⟩) (htb : tb < ts.length) (hcb : isC ts tb = false) :
    Calls Tryz.prog 99 #[.pointer (some ⟨b, 0, none⟩), .int .i64 op, .int .i64 x, .int .i64 y, .int .u32 1] w (NonePost K b w ts) := by
  obtain ⟨K1, h1, hg1, hT1, hc1, hk1, hKK, k1⟩ := boxed K b ts w h hg hT
  have hmf := makeFunc_run
  have htz : ∀ w, Tab w → Calls Tryz.prog 109 #[.int .u32 1] w fun e w' => e = .returned (.int .i64 (Lib.ctz 32 1 : Nat)) ∧ w = w' := tz32_any 1 (by omega)
  have hb1 := and_one_pred
  have a37_41_42 : hasI (op : Int) [37, 41, 42] = false := by simp [hasI]; omega
  have a43_44 : hasI (op : Int) [43, 44] = false := by simp [hasI]; omega
  have sh : isShift op = false := by simp [isShift]; omega
  have hKn := fun w => known_any K1 b tb ts (by omega) htb w
  rw [hcb] at hKn
  clear hcb
  clear hG ho hT h hg
  go_enter Tryz.func99, Tryz.ntmps99
  go_wp2_with (first
    | (go_at_call 98; (with_reducible refine (among3 _ _ _ _ (g := _) (w := _) (hg := by simp)).mono ?_); rintro r w' ⟨rfl, rfl⟩)
    | (go_at_call 98; (with_reducible refine (among2 _ _ _ (g := _) (w := _) (hg := by simp)).mono ?_); rintro r w' ⟨rfl, rfl⟩)
    | (go_at_call 110; (with_reducible refine (shift_any _ _).mono ?_); rintro r w' ⟨rfl, rfl⟩)
    | (go_at_call 110; (with_reducible refine (hsh _).mono ?_); rintro r w' ⟨rfl, rfl⟩)
    | (go_at_call 109; (with_reducible refine (htz _ (by repeat (first | exact hT1 | refine Tab.alloc ?_ _))).mono ?_); rintro r w' ⟨rfl, rfl⟩)
    | fail)
  have hN : ∀ w, DagAt K1 w b ts → Calls Tryz.prog 34 #[.pointer (some ⟨b, 0, none⟩), .int .i64 x] w fun r w' => r = .returned (.tuple #[.agg #[.int .i64 2, .int .u32 0, .int .i64 op, .int .i64 ta, .int .i64 tb], .int .i64 0]) ∧ Below w.heap.size w w' := by
    intro w hw
    have hq := node_any K1 b x ts (by omega) hx w hw
    rw [ht] at hq
    exact hq
  clear ht
  refine (hN _ (by repeat (first | exact h1 | refine DagAt.alloc ?_ _))).mono ?_
  rintro r w2 ⟨rfl, b2⟩
  have h2 := DagAt.below (K := K1) (b := b) (ts := ts) (by repeat (first | exact h1 | refine DagAt.alloc ?_ _)) b2
  have k2 := Kept.then_below (K := K) (w := w) (by repeat (first | exact k1 | refine Kept.then_alloc ?_ _)) b2
  have hT2 := Tab.below (by repeat (first | exact hT1 | refine Tab.alloc ?_ _)) b2
  have hc2 := cell_below (b := w.heap.size) (off := 0) (v := .pointer (some ⟨b, 0, none⟩)) b2 (by repeat (first | exact hc1 | refine cell_alloc0 ?_ _))
  have hne2 : w.heap.size ≠ w2.heap.size := by have := b2.size; simp at this; omega
  have hc2a := cell_alloc0 hc2 (.cells #[.int .i64 2, .int .u32 0, .int .i64 op, .int .i64 ta, .int .i64 tb] 68)
  obtain ⟨z0, z1, z2, z3, z4⟩ := five_cells (blk_new w2 (.cells #[.int .i64 2, .int .u32 0, .int .i64 op, .int .i64 ta, .int .i64 tb] 68))
  go_wp2_with fail
  refine (hKn _ (h2.alloc _)).mono ?_
  rintro r w3 ⟨rfl, b3⟩
  have h3 := (h2.alloc _).below b3
  have k3 := (k2.then_alloc _).then_below b3
  have hT3 := (hT2.alloc _).below b3
  have hc3 := cell_below b3 (cell_alloc0 hc2 _)
  have y3 := cell_below b3 z3
  have y3a := cell_alloc0 y3 (.cells #[.int .i64 27, .int .i64 36, .int .i64 35, .int .i64 32] 3)
  have y3b := cell_alloc0 y3a (.cells #[.int .i64 29, .int .i64 33, .int .i64 34] 3)
  have hc3a := cell_alloc0 hc3 (.cells #[.int .i64 27, .int .i64 36, .int .i64 35, .int .i64 32] 3)
  have hc3b := cell_alloc0 hc3a (.cells #[.int .i64 29, .int .i64 33, .int .i64 34] 3)
  clear z0 z1 z2 z3 z4 hc2 hc2a hne2 hT2 h2 b2
  go_wp2_with fail
  go_ret2
  exact ⟨rfl, DagAt.mono (by repeat (first | exact h3 | refine DagAt.alloc ?_ _)) hKK, (by repeat (first | exact k3 | refine Kept.then_alloc ?_ _))⟩
set_option maxRecDepth 100000 in
set_option maxHeartbeats 1000000 in
theorem by_dnno (f : Nat) (hM : MadeSpec f) (K : Nat → Prop) (b : Nat) (ts : List Term) (op x y : Nat) (w : World) (h : DagAt K w b ts) (hG : Good ts) (hg : K 0) (hT : Tab w) (ho : (doW op 0 0).isSome = true) (hx : x < ts.length) (hl : ts.length + (f + 1) < 1000000000000) (hop : (op = 28 ∨ op = 30 ∨ op = 31 ∨ op = 38 ∨ op = 39 ∨ op = 40)) (ta tb : Nat) (ht : ts.getD x default = ⟨2, 0, op, ta, tb⟩) (htb : tb < ts.length) (hcb : isC ts tb = true) :
    Calls Tryz.prog 99 #[.pointer (some ⟨b, 0, none⟩), .int .i64 op, .int .i64 x, .int .i64 y, .int .u32 1] w (NonePost K b w ts) := by
  obtain ⟨K1, h1, hg1, hT1, hc1, hk1, hKK, k1⟩ := boxed K b ts w h hg hT
  have hmf := makeFunc_run
  have htz : ∀ w, Tab w → Calls Tryz.prog 109 #[.int .u32 1] w fun e w' => e = .returned (.int .i64 (Lib.ctz 32 1 : Nat)) ∧ w = w' := tz32_any 1 (by omega)
  have hb1 := and_one_pred
  have a37_41_42 : hasI (op : Int) [37, 41, 42] = false := by simp [hasI]; omega
  have a43_44 : hasI (op : Int) [43, 44] = false := by simp [hasI]; omega
  have sh : isShift op = false := by simp [isShift]; omega
  have hKn := fun w => known_any K1 b tb ts (by omega) htb w
  rw [hcb] at hKn
  clear hcb
  have a4 : hasI (op : Int) [27, 36, 35, 32] = false := by simp [hasI]; omega
  clear hG ho hT h hg
  go_enter Tryz.func99, Tryz.ntmps99
  go_wp2_with (first
    | (go_at_call 98; (with_reducible refine (among3 _ _ _ _ (g := _) (w := _) (hg := by simp)).mono ?_); rintro r w' ⟨rfl, rfl⟩)
    | (go_at_call 98; (with_reducible refine (among2 _ _ _ (g := _) (w := _) (hg := by simp)).mono ?_); rintro r w' ⟨rfl, rfl⟩)
    | (go_at_call 110; (with_reducible refine (shift_any _ _).mono ?_); rintro r w' ⟨rfl, rfl⟩)
    | (go_at_call 110; (with_reducible refine (hsh _).mono ?_); rintro r w' ⟨rfl, rfl⟩)
    | (go_at_call 109; (with_reducible refine (htz _ (by repeat (first | exact hT1 | refine Tab.alloc ?_ _))).mono ?_); rintro r w' ⟨rfl, rfl⟩)
    | fail)
  have hN : ∀ w, DagAt K1 w b ts → Calls Tryz.prog 34 #[.pointer (some ⟨b, 0, none⟩), .int .i64 x] w fun r w' => r = .returned (.tuple #[.agg #[.int .i64 2, .int .u32 0, .int .i64 op, .int .i64 ta, .int .i64 tb], .int .i64 0]) ∧ Below w.heap.size w w' := by
    intro w hw
    have hq := node_any K1 b x ts (by omega) hx w hw
    rw [ht] at hq
    exact hq
  clear ht
  refine (hN _ (by repeat (first | exact h1 | refine DagAt.alloc ?_ _))).mono ?_
  rintro r w2 ⟨rfl, b2⟩
  have h2 := DagAt.below (K := K1) (b := b) (ts := ts) (by repeat (first | exact h1 | refine DagAt.alloc ?_ _)) b2
  have k2 := Kept.then_below (K := K) (w := w) (by repeat (first | exact k1 | refine Kept.then_alloc ?_ _)) b2
  have hT2 := Tab.below (by repeat (first | exact hT1 | refine Tab.alloc ?_ _)) b2
  have hc2 := cell_below (b := w.heap.size) (off := 0) (v := .pointer (some ⟨b, 0, none⟩)) b2 (by repeat (first | exact hc1 | refine cell_alloc0 ?_ _))
  have hne2 : w.heap.size ≠ w2.heap.size := by have := b2.size; simp at this; omega
  have hc2a := cell_alloc0 hc2 (.cells #[.int .i64 2, .int .u32 0, .int .i64 op, .int .i64 ta, .int .i64 tb] 68)
  obtain ⟨z0, z1, z2, z3, z4⟩ := five_cells (blk_new w2 (.cells #[.int .i64 2, .int .u32 0, .int .i64 op, .int .i64 ta, .int .i64 tb] 68))
  go_wp2_with fail
  refine (hKn _ (h2.alloc _)).mono ?_
  rintro r w3 ⟨rfl, b3⟩
  have h3 := (h2.alloc _).below b3
  have k3 := (k2.then_alloc _).then_below b3
  have hT3 := (hT2.alloc _).below b3
  have hc3 := cell_below b3 (cell_alloc0 hc2 _)
  have y3 := cell_below b3 z3
  have y3a := cell_alloc0 y3 (.cells #[.int .i64 27, .int .i64 36, .int .i64 35, .int .i64 32] 3)
  have y3b := cell_alloc0 y3a (.cells #[.int .i64 29, .int .i64 33, .int .i64 34] 3)
  have hc3a := cell_alloc0 hc3 (.cells #[.int .i64 27, .int .i64 36, .int .i64 35, .int .i64 32] 3)
  have hc3b := cell_alloc0 hc3a (.cells #[.int .i64 29, .int .i64 33, .int .i64 34] 3)
  clear z0 z1 z2 z3 z4 hc2 hc2a hne2 hT2 h2 b2
  go_wp2_with (first
    | (go_at_call 98; (with_reducible refine (among4 _ _ _ _ _ (g := _) (w := _) (hg := by simp)).mono ?_); rintro r w' ⟨rfl, rfl⟩)
    | (go_at_call 110; (with_reducible refine (shift_any _ _).mono ?_); rintro r w' ⟨rfl, rfl⟩)
    | (go_at_call 110; (with_reducible refine (hsh _).mono ?_); rintro r w' ⟨rfl, rfl⟩)
    | (go_at_call 42; (with_reducible refine (hDo _).mono ?_); rintro r w' ⟨rfl, rfl⟩)
    | fail)
  go_ret2
  exact ⟨rfl, DagAt.mono (by repeat (first | exact h3 | refine DagAt.alloc ?_ _)) hKK, (by repeat (first | exact k3 | refine Kept.then_alloc ?_ _))⟩
set_option maxRecDepth 100000 in
set_option maxHeartbeats 1000000 in
theorem by_d1ao (f : Nat) (hM : MadeSpec f) (K : Nat → Prop) (b : Nat) (ts : List Term) (op x y : Nat) (w : World) (h : DagAt K w b ts) (hG : Good ts) (hg : K 0) (hT : Tab w) (ho : (doW op 0 0).isSome = true) (hx : x < ts.length) (hl : ts.length + (f + 1) < 1000000000000) (hop : (op = 27 ∨ op = 36 ∨ op = 35 ∨ op = 32)) (t : Term) (ht : ts.getD x default = t) (hk : t.k ≠ 2) :
    Calls Tryz.prog 99 #[.pointer (some ⟨b, 0, none⟩), .int .i64 op, .int .i64 x, .int .i64 y, .int .u32 1] w (NonePost K b w ts) := by
  obtain ⟨K1, h1, hg1, hT1, hc1, hk1, hKK, k1⟩ := boxed K b ts w h hg hT
  have hmf := makeFunc_run
  have htz : ∀ w, Tab w → Calls Tryz.prog 109 #[.int .u32 1] w fun e w' => e = .returned (.int .i64 (Lib.ctz 32 1 : Nat)) ∧ w = w' := tz32_any 1 (by omega)
  have hb1 := and_one_pred
  have a37_41_42 : hasI (op : Int) [37, 41, 42] = false := by simp [hasI]; omega
  have a43_44 : hasI (op : Int) [43, 44] = false := by simp [hasI]; omega
  have sh : isShift op = false := by simp [isShift]; omega
  have k0 : ((t.k : Int) != 2) = true := by simp; omega
  clear hG ho hT h hg
  clear hk
  go_enter Tryz.func99, Tryz.ntmps99
  go_wp2_with (first
    | (go_at_call 98; (with_reducible refine (among3 _ _ _ _ (g := _) (w := _) (hg := by simp)).mono ?_); rintro r w' ⟨rfl, rfl⟩)
    | (go_at_call 98; (with_reducible refine (among2 _ _ _ (g := _) (w := _) (hg := by simp)).mono ?_); rintro r w' ⟨rfl, rfl⟩)
    | (go_at_call 110; (with_reducible refine (shift_any _ _).mono ?_); rintro r w' ⟨rfl, rfl⟩)
    | (go_at_call 110; (with_reducible refine (hsh _).mono ?_); rintro r w' ⟨rfl, rfl⟩)
    | (go_at_call 109; (with_reducible refine (htz _ (by repeat (first | exact hT1 | refine Tab.alloc ?_ _))).mono ?_); rintro r w' ⟨rfl, rfl⟩)
    | fail)
  have hN : ∀ w, DagAt K1 w b ts → Calls Tryz.prog 34 #[.pointer (some ⟨b, 0, none⟩), .int .i64 x] w fun r w' => r = .returned (.tuple #[.agg #[.int .i64 t.k, .int .u32 t.v, .int .i64 t.op, .int .i64 t.a, .int .i64 t.b], .int .i64 0]) ∧ Below w.heap.size w w' := by
    intro w hw
    have hq := node_any K1 b x ts (by omega) hx w hw
    rw [ht] at hq
    exact hq
  clear ht
  refine (hN _ (by repeat (first | exact h1 | refine DagAt.alloc ?_ _))).mono ?_
  rintro r w2 ⟨rfl, b2⟩
  have h2 := DagAt.below (K := K1) (b := b) (ts := ts) (by repeat (first | exact h1 | refine DagAt.alloc ?_ _)) b2
  have k2 := Kept.then_below (K := K) (w := w) (by repeat (first | exact k1 | refine Kept.then_alloc ?_ _)) b2
  have hT2 := Tab.below (by repeat (first | exact hT1 | refine Tab.alloc ?_ _)) b2
  have hc2 := cell_below (b := w.heap.size) (off := 0) (v := .pointer (some ⟨b, 0, none⟩)) b2 (by repeat (first | exact hc1 | refine cell_alloc0 ?_ _))
  have hne2 : w.heap.size ≠ w2.heap.size := by have := b2.size; simp at this; omega
  have hc2a := cell_alloc0 hc2 (.cells #[.int .i64 t.k, .int .u32 t.v, .int .i64 t.op, .int .i64 t.a, .int .i64 t.b] 68)
  obtain ⟨z0, z1, z2, z3, z4⟩ := five_cells (blk_new w2 (.cells #[.int .i64 t.k, .int .u32 t.v, .int .i64 t.op, .int .i64 t.a, .int .i64 t.b] 68))
  go_wp2_with fail
  go_ret2
  exact ⟨rfl, (h2.alloc _).mono hKK, k2.then_alloc _⟩
set_option maxRecDepth 100000 in
set_option maxHeartbeats 1000000 in
theorem by_d2ao (f : Nat) (hM : MadeSpec f) (K : Nat → Prop) (b : Nat) (ts : List Term) (op x y : Nat) (w : World) (h : DagAt K w b ts) (hG : Good ts) (hg : K 0) (hT : Tab w) (ho : (doW op 0 0).isSome = true) (hx : x < ts.length) (hl : ts.length + (f + 1) < 1000000000000) (hop : (op = 27 ∨ op = 36 ∨ op = 35 ∨ op = 32)) (u q ta tb : Nat) (ht : ts.getD x default = ⟨2, u, q, ta, tb⟩) (hko : q ≠ op) :
    Calls Tryz.prog 99 #[.pointer (some ⟨b, 0, none⟩), .int .i64 op, .int .i64 x, .int .i64 y, .int .u32 1] w (NonePost K b w ts) := by
  obtain ⟨K1, h1, hg1, hT1, hc1, hk1, hKK, k1⟩ := boxed K b ts w h hg hT
  have hmf := makeFunc_run
  have htz : ∀ w, Tab w → Calls Tryz.prog 109 #[.int .u32 1] w fun e w' => e = .returned (.int .i64 (Lib.ctz 32 1 : Nat)) ∧ w = w' := tz32_any 1 (by omega)
  have hb1 := and_one_pred
  have a37_41_42 : hasI (op : Int) [37, 41, 42] = false := by simp [hasI]; omega
  have a43_44 : hasI (op : Int) [43, 44] = false := by simp [hasI]; omega
  have sh : isShift op = false := by simp [isShift]; omega
  have o0 : ((q : Int) != (op : Int)) = true := by simp; omega
  clear hG ho hT h hg
  clear hko
  go_enter Tryz.func99, Tryz.ntmps99
  go_wp2_with (first
    | (go_at_call 98; (with_reducible refine (among3 _ _ _ _ (g := _) (w := _) (hg := by simp)).mono ?_); rintro r w' ⟨rfl, rfl⟩)
    | (go_at_call 98; (with_reducible refine (among2 _ _ _ (g := _) (w := _) (hg := by simp)).mono ?_); rintro r w' ⟨rfl, rfl⟩)
    | (go_at_call 110; (with_reducible refine (shift_any _ _).mono ?_); rintro r w' ⟨rfl, rfl⟩)
    | (go_at_call 110; (with_reducible refine (hsh _).mono ?_); rintro r w' ⟨rfl, rfl⟩)
    | (go_at_call 109; (with_reducible refine (htz _ (by repeat (first | exact hT1 | refine Tab.alloc ?_ _))).mono ?_); rintro r w' ⟨rfl, rfl⟩)
    | fail)
  have hN : ∀ w, DagAt K1 w b ts → Calls Tryz.prog 34 #[.pointer (some ⟨b, 0, none⟩), .int .i64 x] w fun r w' => r = .returned (.tuple #[.agg #[.int .i64 2, .int .u32 u, .int .i64 q, .int .i64 ta, .int .i64 tb], .int .i64 0]) ∧ Below w.heap.size w w' := by
    intro w hw
    have hq := node_any K1 b x ts (by omega) hx w hw
    rw [ht] at hq
    exact hq
  clear ht
  refine (hN _ (by repeat (first | exact h1 | refine DagAt.alloc ?_ _))).mono ?_
  rintro r w2 ⟨rfl, b2⟩
  have h2 := DagAt.below (K := K1) (b := b) (ts := ts) (by repeat (first | exact h1 | refine DagAt.alloc ?_ _)) b2
  have k2 := Kept.then_below (K := K) (w := w) (by repeat (first | exact k1 | refine Kept.then_alloc ?_ _)) b2
  have hT2 := Tab.below (by repeat (first | exact hT1 | refine Tab.alloc ?_ _)) b2
  have hc2 := cell_below (b := w.heap.size) (off := 0) (v := .pointer (some ⟨b, 0, none⟩)) b2 (by repeat (first | exact hc1 | refine cell_alloc0 ?_ _))
  have hne2 : w.heap.size ≠ w2.heap.size := by have := b2.size; simp at this; omega
  have hc2a := cell_alloc0 hc2 (.cells #[.int .i64 2, .int .u32 u, .int .i64 q, .int .i64 ta, .int .i64 tb] 68)
  obtain ⟨z0, z1, z2, z3, z4⟩ := five_cells (blk_new w2 (.cells #[.int .i64 2, .int .u32 u, .int .i64 q, .int .i64 ta, .int .i64 tb] 68))
  go_wp2_with fail
  go_ret2
  exact ⟨rfl, (h2.alloc _).mono hKK, k2.then_alloc _⟩
set_option maxRecDepth 100000 in
set_option maxHeartbeats 1000000 in
theorem by_d3ao (f : Nat) (hM : MadeSpec f) (K : Nat → Prop) (b : Nat) (ts : List Term) (op x y : Nat) (w : World) (h : DagAt K w b ts) (hG : Good ts) (hg : K 0) (hT : Tab w) (ho : (doW op 0 0).isSome = true) (hx : x < ts.length) (hl : ts.length + (f + 1) < 1000000000000) (hop : (op = 27 ∨ op = 36 ∨ op = 35 ∨ op = 32)) (ta tb : Nat) (ht : ts.getD x default = ⟨2, 0, op, ta, tb⟩) (htb : tb < ts.length) (hcb : isC ts tb = false) :
    Calls Tryz.prog 99 #[.pointer (some ⟨b, 0, none⟩), .int .i64 op, .int .i64 x, .int .i64 y, .int .u32 1] w (NonePost K b w ts) := by
  obtain ⟨K1, h1, hg1, hT1, hc1, hk1, hKK, k1⟩ := boxed K b ts w h hg hT
  have hmf := makeFunc_run
  have htz : ∀ w, Tab w → Calls Tryz.prog 109 #[.int .u32 1] w fun e w' => e = .returned (.int .i64 (Lib.ctz 32 1 : Nat)) ∧ w = w' := tz32_any 1 (by omega)
  have hb1 := and_one_pred
  have a37_41_42 : hasI (op : Int) [37, 41, 42] = false := by simp [hasI]; omega
  have a43_44 : hasI (op : Int) [43, 44] = false := by simp [hasI]; omega
  have sh : isShift op = false := by simp [isShift]; omega
  have hKn := fun w => known_any K1 b tb ts (by omega) htb w
  rw [hcb] at hKn
  clear hcb
  clear hG ho hT h hg
  go_enter Tryz.func99, Tryz.ntmps99
  go_wp2_with (first
    | (go_at_call 98; (with_reducible refine (among3 _ _ _ _ (g := _) (w := _) (hg := by simp)).mono ?_); rintro r w' ⟨rfl, rfl⟩)
    | (go_at_call 98; (with_reducible refine (among2 _ _ _ (g := _) (w := _) (hg := by simp)).mono ?_); rintro r w' ⟨rfl, rfl⟩)
    | (go_at_call 110; (with_reducible refine (shift_any _ _).mono ?_); rintro r w' ⟨rfl, rfl⟩)
    | (go_at_call 110; (with_reducible refine (hsh _).mono ?_); rintro r w' ⟨rfl, rfl⟩)
    | (go_at_call 109; (with_reducible refine (htz _ (by repeat (first | exact hT1 | refine Tab.alloc ?_ _))).mono ?_); rintro r w' ⟨rfl, rfl⟩)
    | fail)
  have hN : ∀ w, DagAt K1 w b ts → Calls Tryz.prog 34 #[.pointer (some ⟨b, 0, none⟩), .int .i64 x] w fun r w' => r = .returned (.tuple #[.agg #[.int .i64 2, .int .u32 0, .int .i64 op, .int .i64 ta, .int .i64 tb], .int .i64 0]) ∧ Below w.heap.size w w' := by
    intro w hw
    have hq := node_any K1 b x ts (by omega) hx w hw
    rw [ht] at hq
    exact hq
  clear ht
  refine (hN _ (by repeat (first | exact h1 | refine DagAt.alloc ?_ _))).mono ?_
  rintro r w2 ⟨rfl, b2⟩
  have h2 := DagAt.below (K := K1) (b := b) (ts := ts) (by repeat (first | exact h1 | refine DagAt.alloc ?_ _)) b2
  have k2 := Kept.then_below (K := K) (w := w) (by repeat (first | exact k1 | refine Kept.then_alloc ?_ _)) b2
  have hT2 := Tab.below (by repeat (first | exact hT1 | refine Tab.alloc ?_ _)) b2
  have hc2 := cell_below (b := w.heap.size) (off := 0) (v := .pointer (some ⟨b, 0, none⟩)) b2 (by repeat (first | exact hc1 | refine cell_alloc0 ?_ _))
  have hne2 : w.heap.size ≠ w2.heap.size := by have := b2.size; simp at this; omega
  have hc2a := cell_alloc0 hc2 (.cells #[.int .i64 2, .int .u32 0, .int .i64 op, .int .i64 ta, .int .i64 tb] 68)
  obtain ⟨z0, z1, z2, z3, z4⟩ := five_cells (blk_new w2 (.cells #[.int .i64 2, .int .u32 0, .int .i64 op, .int .i64 ta, .int .i64 tb] 68))
  go_wp2_with fail
  refine (hKn _ (h2.alloc _)).mono ?_
  rintro r w3 ⟨rfl, b3⟩
  have h3 := (h2.alloc _).below b3
  have k3 := (k2.then_alloc _).then_below b3
  have hT3 := (hT2.alloc _).below b3
  have hc3 := cell_below b3 (cell_alloc0 hc2 _)
  have y3 := cell_below b3 z3
  have y3a := cell_alloc0 y3 (.cells #[.int .i64 27, .int .i64 36, .int .i64 35, .int .i64 32] 3)
  have y3b := cell_alloc0 y3a (.cells #[.int .i64 29, .int .i64 33, .int .i64 34] 3)
  have hc3a := cell_alloc0 hc3 (.cells #[.int .i64 27, .int .i64 36, .int .i64 35, .int .i64 32] 3)
  have hc3b := cell_alloc0 hc3a (.cells #[.int .i64 29, .int .i64 33, .int .i64 34] 3)
  clear z0 z1 z2 z3 z4 hc2 hc2a hne2 hT2 h2 b2
  go_wp2_with fail
  go_ret2
  exact ⟨rfl, DagAt.mono (by repeat (first | exact h3 | refine DagAt.alloc ?_ _)) hKK, (by repeat (first | exact k3 | refine Kept.then_alloc ?_ _))⟩
set_option maxRecDepth 100000 in
set_option maxHeartbeats 1000000 in
theorem by_daao (f : Nat) (hM : MadeSpec f) (K : Nat → Prop) (b : Nat) (ts : List Term) (op x y : Nat) (w : World) (h : DagAt K w b ts) (hG : Good ts) (hg : K 0) (hT : Tab w) (ho : (doW op 0 0).isSome = true) (hx : x < ts.length) (hl : ts.length + (f + 1) < 1000000000000) (hop : (op = 27 ∨ op = 36 ∨ op = 35 ∨ op = 32)) (ta tb : Nat) (ht : ts.getD x default = ⟨2, 0, op, ta, tb⟩) (htb : tb < ts.length) (hcb : isC ts tb = true) (hta : ta < ts.length) (hq : wd ts tb < 4294967296) (hW : Went ts op x y (ins ts (constT ((doW op (wd ts tb) 1).getD 0))) op ta (pos ts (constT ((doW op (wd ts tb) 1).getD 0)))) (hm : mz ts op x y < f + 1) :
    Calls Tryz.prog 99 #[.pointer (some ⟨b, 0, none⟩), .int .i64 op, .int .i64 x, .int .i64 y, .int .u32 1] w (IsPost K b w (madeF f (ins ts (constT ((doW op (wd ts tb) 1).getD 0))) op ta (pos ts (constT ((doW op (wd ts tb) 1).getD 0))))) := by
  obtain ⟨K1, h1, hg1, hT1, hc1, hk1, hKK, k1⟩ := boxed K b ts w h hg hT
  have hmf := makeFunc_run
  have htz : ∀ w, Tab w → Calls Tryz.prog 109 #[.int .u32 1] w fun e w' => e = .returned (.int .i64 (Lib.ctz 32 1 : Nat)) ∧ w = w' := tz32_any 1 (by omega)
  have hb1 := and_one_pred
  have a37_41_42 : hasI (op : Int) [37, 41, 42] = false := by simp [hasI]; omega
  have a43_44 : hasI (op : Int) [43, 44] = false := by simp [hasI]; omega
  have sh : isShift op = false := by simp [isShift]; omega
  have hKn := fun w => known_any K1 b tb ts (by omega) htb w
  rw [hcb] at hKn
  clear hcb
  have a4 : hasI (op : Int) [27, 36, 35, 32] = true := by simp [hasI]; omega
  have hDo : ∀ w, Calls Tryz.prog 42 #[.int .i64 op, .int .u32 (wd ts tb : Nat), .int .u32 1] w fun r w' => r = .returned (.tuple #[.int .u32 (((doW op (wd ts tb) 1).getD 0 : Nat) : Int), .int .i64 0]) ∧ w = w' := do_any op ho (wd ts tb) 1 hq (by omega)
  have hu := doW_lt ho hq (b := 1) (by omega)
  clear hT h hg
  go_enter Tryz.func99, Tryz.ntmps99
  go_wp2_with (first
    | (go_at_call 98; (with_reducible refine (among3 _ _ _ _ (g := _) (w := _) (hg := by simp)).mono ?_); rintro r w' ⟨rfl, rfl⟩)
    | (go_at_call 98; (with_reducible refine (among2 _ _ _ (g := _) (w := _) (hg := by simp)).mono ?_); rintro r w' ⟨rfl, rfl⟩)
    | (go_at_call 110; (with_reducible refine (shift_any _ _).mono ?_); rintro r w' ⟨rfl, rfl⟩)
    | (go_at_call 110; (with_reducible refine (hsh _).mono ?_); rintro r w' ⟨rfl, rfl⟩)
    | (go_at_call 109; (with_reducible refine (htz _ (by repeat (first | exact hT1 | refine Tab.alloc ?_ _))).mono ?_); rintro r w' ⟨rfl, rfl⟩)
    | fail)
  have hN : ∀ w, DagAt K1 w b ts → Calls Tryz.prog 34 #[.pointer (some ⟨b, 0, none⟩), .int .i64 x] w fun r w' => r = .returned (.tuple #[.agg #[.int .i64 2, .int .u32 0, .int .i64 op, .int .i64 ta, .int .i64 tb], .int .i64 0]) ∧ Below w.heap.size w w' := by
    intro w hw
    have hq := node_any K1 b x ts (by omega) hx w hw
    rw [ht] at hq
    exact hq
  clear ht
  refine (hN _ (by repeat (first | exact h1 | refine DagAt.alloc ?_ _))).mono ?_
  rintro r w2 ⟨rfl, b2⟩
  have h2 := DagAt.below (K := K1) (b := b) (ts := ts) (by repeat (first | exact h1 | refine DagAt.alloc ?_ _)) b2
  have k2 := Kept.then_below (K := K) (w := w) (by repeat (first | exact k1 | refine Kept.then_alloc ?_ _)) b2
  have hT2 := Tab.below (by repeat (first | exact hT1 | refine Tab.alloc ?_ _)) b2
  have hc2 := cell_below (b := w.heap.size) (off := 0) (v := .pointer (some ⟨b, 0, none⟩)) b2 (by repeat (first | exact hc1 | refine cell_alloc0 ?_ _))
  have hne2 : w.heap.size ≠ w2.heap.size := by have := b2.size; simp at this; omega
  have hc2a := cell_alloc0 hc2 (.cells #[.int .i64 2, .int .u32 0, .int .i64 op, .int .i64 ta, .int .i64 tb] 68)
  obtain ⟨z0, z1, z2, z3, z4⟩ := five_cells (blk_new w2 (.cells #[.int .i64 2, .int .u32 0, .int .i64 op, .int .i64 ta, .int .i64 tb] 68))
  go_wp2_with fail
  refine (hKn _ (h2.alloc _)).mono ?_
  rintro r w3 ⟨rfl, b3⟩
  have h3 := (h2.alloc _).below b3
  have k3 := (k2.then_alloc _).then_below b3
  have hT3 := (hT2.alloc _).below b3
  have hc3 := cell_below b3 (cell_alloc0 hc2 _)
  have y3 := cell_below b3 z3
  have y3a := cell_alloc0 y3 (.cells #[.int .i64 27, .int .i64 36, .int .i64 35, .int .i64 32] 3)
  have y3b := cell_alloc0 y3a (.cells #[.int .i64 29, .int .i64 33, .int .i64 34] 3)
  have hc3a := cell_alloc0 hc3 (.cells #[.int .i64 27, .int .i64 36, .int .i64 35, .int .i64 32] 3)
  have hc3b := cell_alloc0 hc3a (.cells #[.int .i64 29, .int .i64 33, .int .i64 34] 3)
  clear z0 z1 z2 z3 z4 hc2 hc2a hne2 hT2 h2 b2
  go_wp2_with (first
    | (go_at_call 98; (with_reducible refine (among4 _ _ _ _ _ (g := _) (w := _) (hg := by simp)).mono ?_); rintro r w' ⟨rfl, rfl⟩)
    | (go_at_call 110; (with_reducible refine (shift_any _ _).mono ?_); rintro r w' ⟨rfl, rfl⟩)
    | (go_at_call 110; (with_reducible refine (hsh _).mono ?_); rintro r w' ⟨rfl, rfl⟩)
    | (go_at_call 42; (with_reducible refine (hDo _).mono ?_); rintro r w' ⟨rfl, rfl⟩)
    | fail)
  refine (goes_any f hM K1 b w.heap.size ts op ta ((doW op (wd ts tb) 1).getD 0) _ (by repeat (first | exact h3 | refine DagAt.alloc ?_ _)) hW.good hg1 (by repeat (first | exact hT3 | refine Tab.alloc ?_ _)) hW.ok hta hu (by have := hW.less; omega) hl hk1 (by repeat (first | exact hc3 | refine cell_alloc0 ?_ _))).mono ?_
  rintro r wz ⟨rfl, hz, kz⟩
  have kw := Kept.trans (K := K) (w := w) (by repeat (first | exact k3 | refine Kept.then_alloc ?_ _)) (kz.mono hKK)
  go_wp2_with fail
  go_ret2
  exact ⟨rfl, hz.mono hKK, kw⟩
set_option maxRecDepth 100000 in
set_option maxHeartbeats 1000000 in
theorem by_d1nm (f : Nat) (hM : MadeSpec f) (K : Nat → Prop) (b : Nat) (ts : List Term) (op x y : Nat) (w : World) (h : DagAt K w b ts) (hG : Good ts) (hg : K 0) (hT : Tab w) (ho : (doW op 0 0).isSome = true) (hx : x < ts.length) (hl : ts.length + (f + 1) < 1000000000000) (hop : (op = 28 ∨ op = 30 ∨ op = 31 ∨ op = 37 ∨ op = 38 ∨ op = 39 ∨ op = 40 ∨ op = 41 ∨ op = 42 ∨ op = 43 ∨ op = 44)) (t : Term) (ht : ts.getD x default = t) (hk : t.k ≠ 2) :
    Calls Tryz.prog 99 #[.pointer (some ⟨b, 0, none⟩), .int .i64 op, .int .i64 x, .int .i64 y, .int .u32 4294967295] w (NonePost K b w ts) := by
  obtain ⟨K1, h1, hg1, hT1, hc1, hk1, hKK, k1⟩ := boxed K b ts w h hg hT
  have hmf := makeFunc_run
  have htz : ∀ w, Tab w → Calls Tryz.prog 109 #[.int .u32 4294967295] w fun e w' => e = .returned (.int .i64 (Lib.ctz 32 4294967295 : Nat)) ∧ w = w' := tz32_any 4294967295 (by omega)
  have hb1 := and_ones_pred
  have n36 : ((op : Int) == 36) = false := by simp; omega
  have n35 : ((op : Int) == 35) = false := by simp; omega
  have sh : isShift op = false := by simp [isShift]; omega
  have k0 : ((t.k : Int) != 2) = true := by simp; omega
  clear hG ho hT h hg
  clear hk
  go_enter Tryz.func99, Tryz.ntmps99
  go_wp2_with (first
    | (go_at_call 98; (with_reducible refine (among3 _ _ _ _ (g := _) (w := _) (hg := by simp)).mono ?_); rintro r w' ⟨rfl, rfl⟩)
    | (go_at_call 98; (with_reducible refine (among2 _ _ _ (g := _) (w := _) (hg := by simp)).mono ?_); rintro r w' ⟨rfl, rfl⟩)
    | (go_at_call 110; (with_reducible refine (shift_any _ _).mono ?_); rintro r w' ⟨rfl, rfl⟩)
    | (go_at_call 110; (with_reducible refine (hsh _).mono ?_); rintro r w' ⟨rfl, rfl⟩)
    | (go_at_call 109; (with_reducible refine (htz _ (by repeat (first | exact hT1 | refine Tab.alloc ?_ _))).mono ?_); rintro r w' ⟨rfl, rfl⟩)
    | fail)
  have hN : ∀ w, DagAt K1 w b ts → Calls Tryz.prog 34 #[.pointer (some ⟨b, 0, none⟩), .int .i64 x] w fun r w' => r = .returned (.tuple #[.agg #[.int .i64 t.k, .int .u32 t.v, .int .i64 t.op, .int .i64 t.a, .int .i64 t.b], .int .i64 0]) ∧ Below w.heap.size w w' := by
    intro w hw
    have hq := node_any K1 b x ts (by omega) hx w hw
    rw [ht] at hq
    exact hq
  clear ht
  refine (hN _ (by repeat (first | exact h1 | refine DagAt.alloc ?_ _))).mono ?_
  rintro r w2 ⟨rfl, b2⟩
  have h2 := DagAt.below (K := K1) (b := b) (ts := ts) (by repeat (first | exact h1 | refine DagAt.alloc ?_ _)) b2
  have k2 := Kept.then_below (K := K) (w := w) (by repeat (first | exact k1 | refine Kept.then_alloc ?_ _)) b2
  have hT2 := Tab.below (by repeat (first | exact hT1 | refine Tab.alloc ?_ _)) b2
  have hc2 := cell_below (b := w.heap.size) (off := 0) (v := .pointer (some ⟨b, 0, none⟩)) b2 (by repeat (first | exact hc1 | refine cell_alloc0 ?_ _))
  have hne2 : w.heap.size ≠ w2.heap.size := by have := b2.size; simp at this; omega
  have hc2a := cell_alloc0 hc2 (.cells #[.int .i64 t.k, .int .u32 t.v, .int .i64 t.op, .int .i64 t.a, .int .i64 t.b] 68)
  obtain ⟨z0, z1, z2, z3, z4⟩ := five_cells (blk_new w2 (.cells #[.int .i64 t.k, .int .u32 t.v, .int .i64 t.op, .int .i64 t.a, .int .i64 t.b] 68))
  go_wp2_with fail
  go_ret2
  exact ⟨rfl, (h2.alloc _).mono hKK, k2.then_alloc _⟩
set_option maxRecDepth 100000 in
set_option maxHeartbeats 1000000 in
theorem by_d2nm (f : Nat) (hM : MadeSpec f) (K : Nat → Prop) (b : Nat) (ts : List Term) (op x y : Nat) (w : World) (h : DagAt K w b ts) (hG : Good ts) (hg : K 0) (hT : Tab w) (ho : (doW op 0 0).isSome = true) (hx : x < ts.length) (hl : ts.length + (f + 1) < 1000000000000) (hop : (op = 28 ∨ op = 30 ∨ op = 31 ∨ op = 37 ∨ op = 38 ∨ op = 39 ∨ op = 40 ∨ op = 41 ∨ op = 42 ∨ op = 43 ∨ op = 44)) (u q ta tb : Nat) (ht : ts.getD x default = ⟨2, u, q, ta, tb⟩) (hko : q ≠ op) :
    Calls Tryz.prog 99 #[.pointer (some ⟨b, 0, none⟩), .int .i64 op, .int .i64 x, .int .i64 y, .int .u32 4294967295] w (NonePost K b w ts) := by
  obtain ⟨K1, h1, hg1, hT1, hc1, hk1, hKK, k1⟩ := boxed K b ts w h hg hT
  have hmf := makeFunc_run
  have htz : ∀ w, Tab w → Calls Tryz.prog 109 #[.int .u32 4294967295] w fun e w' => e = .returned (.int .i64 (Lib.ctz 32 4294967295 : Nat)) ∧ w = w' := tz32_any 4294967295 (by omega)
  have hb1 := and_ones_pred
  have n36 : ((op : Int) == 36) = false := by simp; omega
  have n35 : ((op : Int) == 35) = false := by simp; omega
  have sh : isShift op = false := by simp [isShift]; omega
  have o0 : ((q : Int) != (op : Int)) = true := by simp; omega
  clear hG ho hT h hg
  clear hko
  go_enter Tryz.func99, Tryz.ntmps99
  go_wp2_with (first
    | (go_at_call 98; (with_reducible refine (among3 _ _ _ _ (g := _) (w := _) (hg := by simp)).mono ?_); rintro r w' ⟨rfl, rfl⟩)
    | (go_at_call 98; (with_reducible refine (among2 _ _ _ (g := _) (w := _) (hg := by simp)).mono ?_); rintro r w' ⟨rfl, rfl⟩)
    | (go_at_call 110; (with_reducible refine (shift_any _ _).mono ?_); rintro r w' ⟨rfl, rfl⟩)
    | (go_at_call 110; (with_reducible refine (hsh _).mono ?_); rintro r w' ⟨rfl, rfl⟩)
    | (go_at_call 109; (with_reducible refine (htz _ (by repeat (first | exact hT1 | refine Tab.alloc ?_ _))).mono ?_); rintro r w' ⟨rfl, rfl⟩)
    | fail)
  have hN : ∀ w, DagAt K1 w b ts → Calls Tryz.prog 34 #[.pointer (some ⟨b, 0, none⟩), .int .i64 x] w fun r w' => r = .returned (.tuple #[.agg #[.int .i64 2, .int .u32 u, .int .i64 q, .int .i64 ta, .int .i64 tb], .int .i64 0]) ∧ Below w.heap.size w w' := by
    intro w hw
    have hq := node_any K1 b x ts (by omega) hx w hw
    rw [ht] at hq
    exact hq
  clear ht
  refine (hN _ (by repeat (first | exact h1 | refine DagAt.alloc ?_ _))).mono ?_
  rintro r w2 ⟨rfl, b2⟩
  have h2 := DagAt.below (K := K1) (b := b) (ts := ts) (by repeat (first | exact h1 | refine DagAt.alloc ?_ _)) b2
  have k2 := Kept.then_below (K := K) (w := w) (by repeat (first | exact k1 | refine Kept.then_alloc ?_ _)) b2
  have hT2 := Tab.below (by repeat (first | exact hT1 | refine Tab.alloc ?_ _)) b2
  have hc2 := cell_below (b := w.heap.size) (off := 0) (v := .pointer (some ⟨b, 0, none⟩)) b2 (by repeat (first | exact hc1 | refine cell_alloc0 ?_ _))
  have hne2 : w.heap.size ≠ w2.heap.size := by have := b2.size; simp at this; omega
  have hc2a := cell_alloc0 hc2 (.cells #[.int .i64 2, .int .u32 u, .int .i64 q, .int .i64 ta, .int .i64 tb] 68)
  obtain ⟨z0, z1, z2, z3, z4⟩ := five_cells (blk_new w2 (.cells #[.int .i64 2, .int .u32 u, .int .i64 q, .int .i64 ta, .int .i64 tb] 68))
  go_wp2_with fail
  go_ret2
  exact ⟨rfl, (h2.alloc _).mono hKK, k2.then_alloc _⟩
set_option maxRecDepth 100000 in
set_option maxHeartbeats 1000000 in
theorem by_d3nm (f : Nat) (hM : MadeSpec f) (K : Nat → Prop) (b : Nat) (ts : List Term) (op x y : Nat) (w : World) (h : DagAt K w b ts) (hG : Good ts) (hg : K 0) (hT : Tab w) (ho : (doW op 0 0).isSome = true) (hx : x < ts.length) (hl : ts.length + (f + 1) < 1000000000000) (hop : (op = 28 ∨ op = 30 ∨ op = 31 ∨ op = 37 ∨ op = 38 ∨ op = 39 ∨ op = 40 ∨ op = 41 ∨ op = 42 ∨ op = 43 ∨ op = 44)) (ta tb : Nat) (ht : ts.getD x default = ⟨2, 0, op, ta, tb⟩) (htb : tb < ts.length) (hcb : isC ts tb = false) :
    Calls Tryz.prog 99 #[.pointer (some ⟨b, 0, none⟩), .int .i64 op, .int .i64 x, .int .i64 y, .int .u32 4294967295] w (NonePost K b w ts) := by
  obtain ⟨K1, h1, hg1, hT1, hc1, hk1, hKK, k1⟩ := boxed K b ts w h hg hT
  have hmf := makeFunc_run
  have htz : ∀ w, Tab w → Calls Tryz.prog 109 #[.int .u32 4294967295] w fun e w' => e = .returned (.int .i64 (Lib.ctz 32 4294967295 : Nat)) ∧ w = w' := tz32_any 4294967295 (by omega)
  have hb1 := and_ones_pred
  have n36 : ((op : Int) == 36) = false := by simp; omega
  have n35 : ((op : Int) == 35) = false := by simp; omega
  have sh : isShift op = false := by simp [isShift]; omega
  have hKn := fun w => known_any K1 b tb ts (by omega) htb w
  rw [hcb] at hKn
  clear hcb
  clear hG ho hT h hg
  go_enter Tryz.func99, Tryz.ntmps99
  go_wp2_with (first
    | (go_at_call 98; (with_reducible refine (among3 _ _ _ _ (g := _) (w := _) (hg := by simp)).mono ?_); rintro r w' ⟨rfl, rfl⟩)
    | (go_at_call 98; (with_reducible refine (among2 _ _ _ (g := _) (w := _) (hg := by simp)).mono ?_); rintro r w' ⟨rfl, rfl⟩)
    | (go_at_call 110; (with_reducible refine (shift_any _ _).mono ?_); rintro r w' ⟨rfl, rfl⟩)
    | (go_at_call 110; (with_reducible refine (hsh _).mono ?_); rintro r w' ⟨rfl, rfl⟩)
    | (go_at_call 109; (with_reducible refine (htz _ (by repeat (first | exact hT1 | refine Tab.alloc ?_ _))).mono ?_); rintro r w' ⟨rfl, rfl⟩)
    | fail)
  have hN : ∀ w, DagAt K1 w b ts → Calls Tryz.prog 34 #[.pointer (some ⟨b, 0, none⟩), .int .i64 x] w fun r w' => r = .returned (.tuple #[.agg #[.int .i64 2, .int .u32 0, .int .i64 op, .int .i64 ta, .int .i64 tb], .int .i64 0]) ∧ Below w.heap.size w w' := by
    intro w hw
    have hq := node_any K1 b x ts (by omega) hx w hw
    rw [ht] at hq
    exact hq
  clear ht
  refine (hN _ (by repeat (first | exact h1 | refine DagAt.alloc ?_ _))).mono ?_
  rintro r w2 ⟨rfl, b2⟩
  have h2 := DagAt.below (K := K1) (b := b) (ts := ts) (by repeat (first | exact h1 | refine DagAt.alloc ?_ _)) b2
  have k2 := Kept.then_below (K := K) (w := w) (by repeat (first | exact k1 | refine Kept.then_alloc ?_ _)) b2
  have hT2 := Tab.below (by repeat (first | exact hT1 | refine Tab.alloc ?_ _)) b2
  have hc2 := cell_below (b := w.heap.size) (off := 0) (v := .pointer (some ⟨b, 0, none⟩)) b2 (by repeat (first | exact hc1 | refine cell_alloc0 ?_ _))
  have hne2 : w.heap.size ≠ w2.heap.size := by have := b2.size; simp at this; omega
  have hc2a := cell_alloc0 hc2 (.cells #[.int .i64 2, .int .u32 0, .int .i64 op, .int .i64 ta, .int .i64 tb] 68)
  obtain ⟨z0, z1, z2, z3, z4⟩ := five_cells (blk_new w2 (.cells #[.int .i64 2, .int .u32 0, .int .i64 op, .int .i64 ta, .int .i64 tb] 68))
  go_wp2_with fail
  refine (hKn _ (h2.alloc _)).mono ?_
  rintro r w3 ⟨rfl, b3⟩
  have h3 := (h2.alloc _).below b3
  have k3 := (k2.then_alloc _).then_below b3
  have hT3 := (hT2.alloc _).below b3
  have hc3 := cell_below b3 (cell_alloc0 hc2 _)
  have y3 := cell_below b3 z3
  have y3a := cell_alloc0 y3 (.cells #[.int .i64 27, .int .i64 36, .int .i64 35, .int .i64 32] 3)
  have y3b := cell_alloc0 y3a (.cells #[.int .i64 29, .int .i64 33, .int .i64 34] 3)
  have hc3a := cell_alloc0 hc3 (.cells #[.int .i64 27, .int .i64 36, .int .i64 35, .int .i64 32] 3)
  have hc3b := cell_alloc0 hc3a (.cells #[.int .i64 29, .int .i64 33, .int .i64 34] 3)
  clear z0 z1 z2 z3 z4 hc2 hc2a hne2 hT2 h2 b2
  go_wp2_with fail
  go_ret2
  exact ⟨rfl, DagAt.mono (by repeat (first | exact h3 | refine DagAt.alloc ?_ _)) hKK, (by repeat (first | exact k3 | refine Kept.then_alloc ?_ _))⟩
set_option maxRecDepth 100000 in
set_option maxHeartbeats 1000000 in
theorem by_dnnm (f : Nat) (hM : MadeSpec f) (K : Nat → Prop) (b : Nat) (ts : List Term) (op x y : Nat) (w : World) (h : DagAt K w b ts) (hG : Good ts) (hg : K 0) (hT : Tab w) (ho : (doW op 0 0).isSome = true) (hx : x < ts.length) (hl : ts.length + (f + 1) < 1000000000000) (hop : (op = 28 ∨ op = 30 ∨ op = 31 ∨ op = 37 ∨ op = 38 ∨ op = 39 ∨ op = 40 ∨ op = 41 ∨ op = 42 ∨ op = 43 ∨ op = 44)) (ta tb : Nat) (ht : ts.getD x default = ⟨2, 0, op, ta, tb⟩) (htb : tb < ts.length) (hcb : isC ts tb = true) :
    Calls Tryz.prog 99 #[.pointer (some ⟨b, 0, none⟩), .int .i64 op, .int .i64 x, .int .i64 y, .int .u32 4294967295] w (NonePost K b w ts) := by
  obtain ⟨K1, h1, hg1, hT1, hc1, hk1, hKK, k1⟩ := boxed K b ts w h hg hT
  have hmf := makeFunc_run
  have htz : ∀ w, Tab w → Calls Tryz.prog 109 #[.int .u32 4294967295] w fun e w' => e = .returned (.int .i64 (Lib.ctz 32 4294967295 : Nat)) ∧ w = w' := tz32_any 4294967295 (by omega)
  have hb1 := and_ones_pred
  have n36 : ((op : Int) == 36) = false := by simp; omega
  have n35 : ((op : Int) == 35) = false := by simp; omega
  have sh : isShift op = false := by simp [isShift]; omega
  have hKn := fun w => known_any K1 b tb ts (by omega) htb w
  rw [hcb] at hKn
  clear hcb
  have a4 : hasI (op : Int) [27, 36, 35, 32] = false := by simp [hasI]; omega
  clear hG ho hT h hg
  go_enter Tryz.func99, Tryz.ntmps99
  go_wp2_with (first
    | (go_at_call 98; (with_reducible refine (among3 _ _ _ _ (g := _) (w := _) (hg := by simp)).mono ?_); rintro r w' ⟨rfl, rfl⟩)
    | (go_at_call 98; (with_reducible refine (among2 _ _ _ (g := _) (w := _) (hg := by simp)).mono ?_); rintro r w' ⟨rfl, rfl⟩)
    | (go_at_call 110; (with_reducible refine (shift_any _ _).mono ?_); rintro r w' ⟨rfl, rfl⟩)
    | (go_at_call 110; (with_reducible refine (hsh _).mono ?_); rintro r w' ⟨rfl, rfl⟩)
    | (go_at_call 109; (with_reducible refine (htz _ (by repeat (first | exact hT1 | refine Tab.alloc ?_ _))).mono ?_); rintro r w' ⟨rfl, rfl⟩)
    | fail)
  have hN : ∀ w, DagAt K1 w b ts → Calls Tryz.prog 34 #[.pointer (some ⟨b, 0, none⟩), .int .i64 x] w fun r w' => r = .returned (.tuple #[.agg #[.int .i64 2, .int .u32 0, .int .i64 op, .int .i64 ta, .int .i64 tb], .int .i64 0]) ∧ Below w.heap.size w w' := by
    intro w hw
    have hq := node_any K1 b x ts (by omega) hx w hw
    rw [ht] at hq
    exact hq
  clear ht
  refine (hN _ (by repeat (first | exact h1 | refine DagAt.alloc ?_ _))).mono ?_
  rintro r w2 ⟨rfl, b2⟩
  have h2 := DagAt.below (K := K1) (b := b) (ts := ts) (by repeat (first | exact h1 | refine DagAt.alloc ?_ _)) b2
  have k2 := Kept.then_below (K := K) (w := w) (by repeat (first | exact k1 | refine Kept.then_alloc ?_ _)) b2
  have hT2 := Tab.below (by repeat (first | exact hT1 | refine Tab.alloc ?_ _)) b2
  have hc2 := cell_below (b := w.heap.size) (off := 0) (v := .pointer (some ⟨b, 0, none⟩)) b2 (by repeat (first | exact hc1 | refine cell_alloc0 ?_ _))
  have hne2 : w.heap.size ≠ w2.heap.size := by have := b2.size; simp at this; omega
  have hc2a := cell_alloc0 hc2 (.cells #[.int .i64 2, .int .u32 0, .int .i64 op, .int .i64 ta, .int .i64 tb] 68)
  obtain ⟨z0, z1, z2, z3, z4⟩ := five_cells (blk_new w2 (.cells #[.int .i64 2, .int .u32 0, .int .i64 op, .int .i64 ta, .int .i64 tb] 68))
  go_wp2_with fail
  refine (hKn _ (h2.alloc _)).mono ?_
  rintro r w3 ⟨rfl, b3⟩
  have h3 := (h2.alloc _).below b3
  have k3 := (k2.then_alloc _).then_below b3
  have hT3 := (hT2.alloc _).below b3
  have hc3 := cell_below b3 (cell_alloc0 hc2 _)
  have y3 := cell_below b3 z3
  have y3a := cell_alloc0 y3 (.cells #[.int .i64 27, .int .i64 36, .int .i64 35, .int .i64 32] 3)
  have y3b := cell_alloc0 y3a (.cells #[.int .i64 29, .int .i64 33, .int .i64 34] 3)
  have hc3a := cell_alloc0 hc3 (.cells #[.int .i64 27, .int .i64 36, .int .i64 35, .int .i64 32] 3)
  have hc3b := cell_alloc0 hc3a (.cells #[.int .i64 29, .int .i64 33, .int .i64 34] 3)
  clear z0 z1 z2 z3 z4 hc2 hc2a hne2 hT2 h2 b2
  go_wp2_with (first
    | (go_at_call 98; (with_reducible refine (among4 _ _ _ _ _ (g := _) (w := _) (hg := by simp)).mono ?_); rintro r w' ⟨rfl, rfl⟩)
    | (go_at_call 110; (with_reducible refine (shift_any _ _).mono ?_); rintro r w' ⟨rfl, rfl⟩)
    | (go_at_call 110; (with_reducible refine (hsh _).mono ?_); rintro r w' ⟨rfl, rfl⟩)
    | (go_at_call 42; (with_reducible refine (hDo _).mono ?_); rintro r w' ⟨rfl, rfl⟩)
    | fail)
  go_ret2
  exact ⟨rfl, DagAt.mono (by repeat (first | exact h3 | refine DagAt.alloc ?_ _)) hKK, (by repeat (first | exact k3 | refine Kept.then_alloc ?_ _))⟩
set_option maxRecDepth 100000 in
set_option maxHeartbeats 1000000 in
theorem by_d1am (f : Nat) (hM : MadeSpec f) (K : Nat → Prop) (b : Nat) (ts : List Term) (op x y : Nat) (w : World) (h : DagAt K w b ts) (hG : Good ts) (hg : K 0) (hT : Tab w) (ho : (doW op 0 0).isSome = true) (hx : x < ts.length) (hl : ts.length + (f + 1) < 1000000000000) (hop : (op = 27 ∨ op = 32)) (t : Term) (ht : ts.getD x default = t) (hk : t.k ≠ 2) :
    Calls Tryz.prog 99 #[.pointer (some ⟨b, 0, none⟩), .int .i64 op, .int .i64 x, .int .i64 y, .int .u32 4294967295] w (NonePost K b w ts) := by
  obtain ⟨K1, h1, hg1, hT1, hc1, hk1, hKK, k1⟩ := boxed K b ts w h hg hT
  have hmf := makeFunc_run
  have htz : ∀ w, Tab w → Calls Tryz.prog 109 #[.int .u32 4294967295] w fun e w' => e = .returned (.int .i64 (Lib.ctz 32 4294967295 : Nat)) ∧ w = w' := tz32_any 4294967295 (by omega)
  have hb1 := and_ones_pred
  have n36 : ((op : Int) == 36) = false := by simp; omega
  have n35 : ((op : Int) == 35) = false := by simp; omega
  have sh : isShift op = false := by simp [isShift]; omega
  have k0 : ((t.k : Int) != 2) = true := by simp; omega
  clear hG ho hT h hg
  clear hk
  go_enter Tryz.func99, Tryz.ntmps99
  go_wp2_with (first
    | (go_at_call 98; (with_reducible refine (among3 _ _ _ _ (g := _) (w := _) (hg := by simp)).mono ?_); rintro r w' ⟨rfl, rfl⟩)
    | (go_at_call 98; (with_reducible refine (among2 _ _ _ (g := _) (w := _) (hg := by simp)).mono ?_); rintro r w' ⟨rfl, rfl⟩)
    | (go_at_call 110; (with_reducible refine (shift_any _ _).mono ?_); rintro r w' ⟨rfl, rfl⟩)
    | (go_at_call 110; (with_reducible refine (hsh _).mono ?_); rintro r w' ⟨rfl, rfl⟩)
    | (go_at_call 109; (with_reducible refine (htz _ (by repeat (first | exact hT1 | refine Tab.alloc ?_ _))).mono ?_); rintro r w' ⟨rfl, rfl⟩)
    | fail)
  have hN : ∀ w, DagAt K1 w b ts → Calls Tryz.prog 34 #[.pointer (some ⟨b, 0, none⟩), .int .i64 x] w fun r w' => r = .returned (.tuple #[.agg #[.int .i64 t.k, .int .u32 t.v, .int .i64 t.op, .int .i64 t.a, .int .i64 t.b], .int .i64 0]) ∧ Below w.heap.size w w' := by
    intro w hw
    have hq := node_any K1 b x ts (by omega) hx w hw
    rw [ht] at hq
    exact hq
  clear ht
  refine (hN _ (by repeat (first | exact h1 | refine DagAt.alloc ?_ _))).mono ?_
  rintro r w2 ⟨rfl, b2⟩
  have h2 := DagAt.below (K := K1) (b := b) (ts := ts) (by repeat (first | exact h1 | refine DagAt.alloc ?_ _)) b2
  have k2 := Kept.then_below (K := K) (w := w) (by repeat (first | exact k1 | refine Kept.then_alloc ?_ _)) b2
  have hT2 := Tab.below (by repeat (first | exact hT1 | refine Tab.alloc ?_ _)) b2
  have hc2 := cell_below (b := w.heap.size) (off := 0) (v := .pointer (some ⟨b, 0, none⟩)) b2 (by repeat (first | exact hc1 | refine cell_alloc0 ?_ _))
  have hne2 : w.heap.size ≠ w2.heap.size := by have := b2.size; simp at this; omega
  have hc2a := cell_alloc0 hc2 (.cells #[.int .i64 t.k, .int .u32 t.v, .int .i64 t.op, .int .i64 t.a, .int .i64 t.b] 68)
  obtain ⟨z0, z1, z2, z3, z4⟩ := five_cells (blk_new w2 (.cells #[.int .i64 t.k, .int .u32 t.v, .int .i64 t.op, .int .i64 t.a, .int .i64 t.b] 68))
  go_wp2_with fail
  go_ret2
  exact ⟨rfl, (h2.alloc _).mono hKK, k2.then_alloc _⟩
set_option maxRecDepth 100000 in
set_option maxHeartbeats 1000000 in
theorem by_d2am (f : Nat) (hM : MadeSpec f) (K : Nat → Prop) (b : Nat) (ts : List Term) (op x y : Nat) (w : World) (h : DagAt K w b ts) (hG : Good ts) (hg : K 0) (hT : Tab w) (ho : (doW op 0 0).isSome = true) (hx : x < ts.length) (hl : ts.length + (f + 1) < 1000000000000) (hop : (op = 27 ∨ op = 32)) (u q ta tb : Nat) (ht : ts.getD x default = ⟨2, u, q, ta, tb⟩) (hko : q ≠ op) :
    Calls Tryz.prog 99 #[.pointer (some ⟨b, 0, none⟩), .int .i64 op, .int .i64 x, .int .i64 y, .int .u32 4294967295] w (NonePost K b w ts) := by
  obtain ⟨K1, h1, hg1, hT1, hc1, hk1, hKK, k1⟩ := boxed K b ts w h hg hT
  have hmf := makeFunc_run
  have htz : ∀ w, Tab w → Calls Tryz.prog 109 #[.int .u32 4294967295] w fun e w' => e = .returned (.int .i64 (Lib.ctz 32 4294967295 : Nat)) ∧ w = w' := tz32_any 4294967295 (by omega)
  have hb1 := and_ones_pred
  have n36 : ((op : Int) == 36) = false := by simp; omega
  have n35 : ((op : Int) == 35) = false := by simp; omega
  have sh : isShift op = false := by simp [isShift]; omega
  have o0 : ((q : Int) != (op : Int)) = true := by simp; omega
  clear hG ho hT h hg
  clear hko
  go_enter Tryz.func99, Tryz.ntmps99
  go_wp2_with (first
    | (go_at_call 98; (with_reducible refine (among3 _ _ _ _ (g := _) (w := _) (hg := by simp)).mono ?_); rintro r w' ⟨rfl, rfl⟩)
    | (go_at_call 98; (with_reducible refine (among2 _ _ _ (g := _) (w := _) (hg := by simp)).mono ?_); rintro r w' ⟨rfl, rfl⟩)
    | (go_at_call 110; (with_reducible refine (shift_any _ _).mono ?_); rintro r w' ⟨rfl, rfl⟩)
    | (go_at_call 110; (with_reducible refine (hsh _).mono ?_); rintro r w' ⟨rfl, rfl⟩)
    | (go_at_call 109; (with_reducible refine (htz _ (by repeat (first | exact hT1 | refine Tab.alloc ?_ _))).mono ?_); rintro r w' ⟨rfl, rfl⟩)
    | fail)
  have hN : ∀ w, DagAt K1 w b ts → Calls Tryz.prog 34 #[.pointer (some ⟨b, 0, none⟩), .int .i64 x] w fun r w' => r = .returned (.tuple #[.agg #[.int .i64 2, .int .u32 u, .int .i64 q, .int .i64 ta, .int .i64 tb], .int .i64 0]) ∧ Below w.heap.size w w' := by
    intro w hw
    have hq := node_any K1 b x ts (by omega) hx w hw
    rw [ht] at hq
    exact hq
  clear ht
  refine (hN _ (by repeat (first | exact h1 | refine DagAt.alloc ?_ _))).mono ?_
  rintro r w2 ⟨rfl, b2⟩
  have h2 := DagAt.below (K := K1) (b := b) (ts := ts) (by repeat (first | exact h1 | refine DagAt.alloc ?_ _)) b2
  have k2 := Kept.then_below (K := K) (w := w) (by repeat (first | exact k1 | refine Kept.then_alloc ?_ _)) b2
  have hT2 := Tab.below (by repeat (first | exact hT1 | refine Tab.alloc ?_ _)) b2
  have hc2 := cell_below (b := w.heap.size) (off := 0) (v := .pointer (some ⟨b, 0, none⟩)) b2 (by repeat (first | exact hc1 | refine cell_alloc0 ?_ _))
  have hne2 : w.heap.size ≠ w2.heap.size := by have := b2.size; simp at this; omega
  have hc2a := cell_alloc0 hc2 (.cells #[.int .i64 2, .int .u32 u, .int .i64 q, .int .i64 ta, .int .i64 tb] 68)
  obtain ⟨z0, z1, z2, z3, z4⟩ := five_cells (blk_new w2 (.cells #[.int .i64 2, .int .u32 u, .int .i64 q, .int .i64 ta, .int .i64 tb] 68))
  go_wp2_with fail
  go_ret2
  exact ⟨rfl, (h2.alloc _).mono hKK, k2.then_alloc _⟩
set_option maxRecDepth 100000 in
set_option maxHeartbeats 1000000 in
theorem by_d3am (f : Nat) (hM : MadeSpec f) (K : Nat → Prop) (b : Nat) (ts : List Term) (op x y : Nat) (w : World) (h : DagAt K w b ts) (hG : Good ts) (hg : K 0) (hT : Tab w) (ho : (doW op 0 0).isSome = true) (hx : x < ts.length) (hl : ts.length + (f + 1) < 1000000000000) (hop : (op = 27 ∨ op = 32)) (ta tb : Nat) (ht : ts.getD x default = ⟨2, 0, op, ta, tb⟩) (htb : tb < ts.length) (hcb : isC ts tb = false) :
    Calls Tryz.prog 99 #[.pointer (some ⟨b, 0, none⟩), .int .i64 op, .int .i64 x, .int .i64 y, .int .u32 4294967295] w (NonePost K b w ts) := by
  obtain ⟨K1, h1, hg1, hT1, hc1, hk1, hKK, k1⟩ := boxed K b ts w h hg hT
  have hmf := makeFunc_run
  have htz : ∀ w, Tab w → Calls Tryz.prog 109 #[.int .u32 4294967295] w fun e w' => e = .returned (.int .i64 (Lib.ctz 32 4294967295 : Nat)) ∧ w = w' := tz32_any 4294967295 (by omega)
  have hb1 := and_ones_pred
  have n36 : ((op : Int) == 36) = false := by simp; omega
  have n35 : ((op : Int) == 35) = false := by simp; omega
  have sh : isShift op = false := by simp [isShift]; omega
  have hKn := fun w => known_any K1 b tb ts (by omega) htb w
  rw [hcb] at hKn
  clear hcb
  clear hG ho hT h hg
  go_enter Tryz.func99, Tryz.ntmps99
  go_wp2_with (first
    | (go_at_call 98; (with_reducible refine (among3 _ _ _ _ (g := _) (w := _) (hg := by simp)).mono ?_); rintro r w' ⟨rfl, rfl⟩)
    | (go_at_call 98; (with_reducible refine (among2 _ _ _ (g := _) (w := _) (hg := by simp)).mono ?_); rintro r w' ⟨rfl, rfl⟩)
    | (go_at_call 110; (with_reducible refine (shift_any _ _).mono ?_); rintro r w' ⟨rfl, rfl⟩)
    | (go_at_call 110; (with_reducible refine (hsh _).mono ?_); rintro r w' ⟨rfl, rfl⟩)
    | (go_at_call 109; (with_reducible refine (htz _ (by repeat (first | exact hT1 | refine Tab.alloc ?_ _))).mono ?_); rintro r w' ⟨rfl, rfl⟩)
    | fail)
  have hN : ∀ w, DagAt K1 w b ts → Calls Tryz.prog 34 #[.pointer (some ⟨b, 0, none⟩), .int .i64 x] w fun r w' => r = .returned (.tuple #[.agg #[.int .i64 2, .int .u32 0, .int .i64 op, .int .i64 ta, .int .i64 tb], .int .i64 0]) ∧ Below w.heap.size w w' := by
    intro w hw
    have hq := node_any K1 b x ts (by omega) hx w hw
    rw [ht] at hq
    exact hq
  clear ht
  refine (hN _ (by repeat (first | exact h1 | refine DagAt.alloc ?_ _))).mono ?_
  rintro r w2 ⟨rfl, b2⟩
  have h2 := DagAt.below (K := K1) (b := b) (ts := ts) (by repeat (first | exact h1 | refine DagAt.alloc ?_ _)) b2
  have k2 := Kept.then_below (K := K) (w := w) (by repeat (first | exact k1 | refine Kept.then_alloc ?_ _)) b2
  have hT2 := Tab.below (by repeat (first | exact hT1 | refine Tab.alloc ?_ _)) b2
  have hc2 := cell_below (b := w.heap.size) (off := 0) (v := .pointer (some ⟨b, 0, none⟩)) b2 (by repeat (first | exact hc1 | refine cell_alloc0 ?_ _))
  have hne2 : w.heap.size ≠ w2.heap.size := by have := b2.size; simp at this; omega
  have hc2a := cell_alloc0 hc2 (.cells #[.int .i64 2, .int .u32 0, .int .i64 op, .int .i64 ta, .int .i64 tb] 68)
  obtain ⟨z0, z1, z2, z3, z4⟩ := five_cells (blk_new w2 (.cells #[.int .i64 2, .int .u32 0, .int .i64 op, .int .i64 ta, .int .i64 tb] 68))
  go_wp2_with fail
  refine (hKn _ (h2.alloc _)).mono ?_
  rintro r w3 ⟨rfl, b3⟩
  have h3 := (h2.alloc _).below b3
  have k3 := (k2.then_alloc _).then_below b3
  have hT3 := (hT2.alloc _).below b3
  have hc3 := cell_below b3 (cell_alloc0 hc2 _)
  have y3 := cell_below b3 z3
  have y3a := cell_alloc0 y3 (.cells #[.int .i64 27, .int .i64 36, .int .i64 35, .int .i64 32] 3)
  have y3b := cell_alloc0 y3a (.cells #[.int .i64 29, .int .i64 33, .int .i64 34] 3)
  have hc3a := cell_alloc0 hc3 (.cells #[.int .i64 27, .int .i64 36, .int .i64 35, .int .i64 32] 3)
  have hc3b := cell_alloc0 hc3a (.cells #[.int .i64 29, .int .i64 33, .int .i64 34] 3)
  clear z0 z1 z2 z3 z4 hc2 hc2a hne2 hT2 h2 b2
  go_wp2_with fail
  go_ret2
  exact ⟨rfl, DagAt.mono (by repeat (first | exact h3 | refine DagAt.alloc ?_ _)) hKK, (by repeat (first | exact k3 | refine Kept.then_alloc ?_ _))⟩
set_option maxRecDepth 100000 in
set_option maxHeartbeats 1000000 in
theorem by_daam (f : Nat) (hM : MadeSpec f) (K : Nat → Prop) (b : Nat) (ts : List Term) (op x y : Nat) (w : World) (h : DagAt K w b ts) (hG : Good ts) (hg : K 0) (hT : Tab w) (ho : (doW op 0 0).isSome = true) (hx : x < ts.length) (hl : ts.length + (f + 1) < 1000000000000) (hop : (op = 27 ∨ op = 32)) (ta tb : Nat) (ht : ts.getD x default = ⟨2, 0, op, ta, tb⟩) (htb : tb < ts.length) (hcb : isC ts tb = true) (hta : ta < ts.length) (hq : wd ts tb < 4294967296) (hW : Went ts op x y (ins ts (constT ((doW op (wd ts tb) 4294967295).getD 0))) op ta (pos ts (constT ((doW op (wd ts tb) 4294967295).getD 0)))) (hm : mz ts op x y < f + 1) :
    Calls Tryz.prog 99 #[.pointer (some ⟨b, 0, none⟩), .int .i64 op, .int .i64 x, .int .i64 y, .int .u32 4294967295] w (IsPost K b w (madeF f (ins ts (constT ((doW op (wd ts tb) 4294967295).getD 0))) op ta (pos ts (constT ((doW op (wd ts tb) 4294967295).getD 0))))) := by
  obtain ⟨K1, h1, hg1, hT1, hc1, hk1, hKK, k1⟩ := boxed K b ts w h hg hT
  have hmf := makeFunc_run
  have htz : ∀ w, Tab w → Calls Tryz.prog 109 #[.int .u32 4294967295] w fun e w' => e = .returned (.int .i64 (Lib.ctz 32 4294967295 : Nat)) ∧ w = w' := tz32_any 4294967295 (by omega)
  have hb1 := and_ones_pred
  have n36 : ((op : Int) == 36) = false := by simp; omega
  have n35 : ((op : Int) == 35) = false := by simp; omega
  have sh : isShift op = false := by simp [isShift]; omega
  have hKn := fun w => known_any K1 b tb ts (by omega) htb w
  rw [hcb] at hKn
  clear hcb
  have a4 : hasI (op : Int) [27, 36, 35, 32] = true := by simp [hasI]; omega
  have hDo : ∀ w, Calls Tryz.prog 42 #[.int .i64 op, .int .u32 (wd ts tb : Nat), .int .u32 4294967295] w fun r w' => r = .returned (.tuple #[.int .u32 (((doW op (wd ts tb) 4294967295).getD 0 : Nat) : Int), .int .i64 0]) ∧ w = w' := do_any op ho (wd ts tb) 4294967295 hq (by omega)
  have hu := doW_lt ho hq (b := 4294967295) (by omega)
  clear hT h hg
  go_enter Tryz.func99, Tryz.ntmps99
  go_wp2_with (first
    | (go_at_call 98; (with_reducible refine (among3 _ _ _ _ (g := _) (w := _) (hg := by simp)).mono ?_); rintro r w' ⟨rfl, rfl⟩)
    | (go_at_call 98; (with_reducible refine (among2 _ _ _ (g := _) (w := _) (hg := by simp)).mono ?_); rintro r w' ⟨rfl, rfl⟩)
    | (go_at_call 110; (with_reducible refine (shift_any _ _).mono ?_); rintro r w' ⟨rfl, rfl⟩)
    | (go_at_call 110; (with_reducible refine (hsh _).mono ?_); rintro r w' ⟨rfl, rfl⟩)
    | (go_at_call 109; (with_reducible refine (htz _ (by repeat (first | exact hT1 | refine Tab.alloc ?_ _))).mono ?_); rintro r w' ⟨rfl, rfl⟩)
    | fail)
  have hN : ∀ w, DagAt K1 w b ts → Calls Tryz.prog 34 #[.pointer (some ⟨b, 0, none⟩), .int .i64 x] w fun r w' => r = .returned (.tuple #[.agg #[.int .i64 2, .int .u32 0, .int .i64 op, .int .i64 ta, .int .i64 tb], .int .i64 0]) ∧ Below w.heap.size w w' := by
    intro w hw
    have hq := node_any K1 b x ts (by omega) hx w hw
    rw [ht] at hq
    exact hq
  clear ht
  refine (hN _ (by repeat (first | exact h1 | refine DagAt.alloc ?_ _))).mono ?_
  rintro r w2 ⟨rfl, b2⟩
  have h2 := DagAt.below (K := K1) (b := b) (ts := ts) (by repeat (first | exact h1 | refine DagAt.alloc ?_ _)) b2
  have k2 := Kept.then_below (K := K) (w := w) (by repeat (first | exact k1 | refine Kept.then_alloc ?_ _)) b2
  have hT2 := Tab.below (by repeat (first | exact hT1 | refine Tab.alloc ?_ _)) b2
  have hc2 := cell_below (b := w.heap.size) (off := 0) (v := .pointer (some ⟨b, 0, none⟩)) b2 (by repeat (first | exact hc1 | refine cell_alloc0 ?_ _))
  have hne2 : w.heap.size ≠ w2.heap.size := by have := b2.size; simp at this; omega
  have hc2a := cell_alloc0 hc2 (.cells #[.int .i64 2, .int .u32 0, .int .i64 op, .int .i64 ta, .int .i64 tb] 68)
  obtain ⟨z0, z1, z2, z3, z4⟩ := five_cells (blk_new w2 (.cells #[.int .i64 2, .int .u32 0, .int .i64 op, .int .i64 ta, .int .i64 tb] 68))
  go_wp2_with fail
  refine (hKn _ (h2.alloc _)).mono ?_
  rintro r w3 ⟨rfl, b3⟩
  have h3 := (h2.alloc _).below b3
  have k3 := (k2.then_alloc _).then_below b3
  have hT3 := (hT2.alloc _).below b3
  have hc3 := cell_below b3 (cell_alloc0 hc2 _)
  have y3 := cell_below b3 z3
  have y3a := cell_alloc0 y3 (.cells #[.int .i64 27, .int .i64 36, .int .i64 35, .int .i64 32] 3)
  have y3b := cell_alloc0 y3a (.cells #[.int .i64 29, .int .i64 33, .int .i64 34] 3)
  have hc3a := cell_alloc0 hc3 (.cells #[.int .i64 27, .int .i64 36, .int .i64 35, .int .i64 32] 3)
  have hc3b := cell_alloc0 hc3a (.cells #[.int .i64 29, .int .i64 33, .int .i64 34] 3)
  clear z0 z1 z2 z3 z4 hc2 hc2a hne2 hT2 h2 b2
  go_wp2_with (first
    | (go_at_call 98; (with_reducible refine (among4 _ _ _ _ _ (g := _) (w := _) (hg := by simp)).mono ?_); rintro r w' ⟨rfl, rfl⟩)
    | (go_at_call 110; (with_reducible refine (shift_any _ _).mono ?_); rintro r w' ⟨rfl, rfl⟩)
    | (go_at_call 110; (with_reducible refine (hsh _).mono ?_); rintro r w' ⟨rfl, rfl⟩)
    | (go_at_call 42; (with_reducible refine (hDo _).mono ?_); rintro r w' ⟨rfl, rfl⟩)
    | fail)
  refine (goes_any f hM K1 b w.heap.size ts op ta ((doW op (wd ts tb) 4294967295).getD 0) _ (by repeat (first | exact h3 | refine DagAt.alloc ?_ _)) hW.good hg1 (by repeat (first | exact hT3 | refine Tab.alloc ?_ _)) hW.ok hta hu (by have := hW.less; omega) hl hk1 (by repeat (first | exact hc3 | refine cell_alloc0 ?_ _))).mono ?_
  rintro r wz ⟨rfl, hz, kz⟩
  have kw := Kept.trans (K := K) (w := w) (by repeat (first | exact k3 | refine Kept.then_alloc ?_ _)) (kz.mono hKK)
  go_wp2_with fail
  go_ret2
  exact ⟨rfl, hz.mono hKK, kw⟩
end Go.Proofs.YtaiggfknighhgaaGreatDoor
