/- simp: a reckoning of a term and a word, where the term counts, second part (written by genBW.py). -/
import Derived.Test.YtaiggfknighhgaaGreatDoorSByF
set_option linter.unusedVariables false
set_option linter.unusedSimpArgs false
namespace Go.Proofs.YtaiggfknighhgaaGreatDoor
open Go.RowKit Go.Maps Go.MapKept

set_option maxRecDepth 100000 in
set_option maxHeartbeats 1000000 in
theorem by_d1so (f : Nat) (hM : MadeSpec f) (K : Nat → Prop) (b : Nat) (ts : List Term) (op x y : Nat) (w : World) (h : DagAt K w b ts) (hG : Good ts) (hg : K 0) (hT : Tab w) (ho : (doW op 0 0).isSome = true) (hx : x < ts.length) (hl : ts.length + (f + 1) < 1000000000000) (hop : (op = 29 ∨ op = 33 ∨ op = 34)) (t : Term) (ht : ts.getD x default = t) (hk : t.k ≠ 2) :
    Calls Tryz.prog 99 #[.pointer (some ⟨b, 0, none⟩), .int .i64 op, .int .i64 x, .int .i64 y, .int .u32 1] w (NonePost K b w ts) := by
  obtain ⟨K1, h1, hg1, hT1, hc1, hk1, hKK, k1⟩ := boxed K b ts w h hg hT
  have hmf := makeFunc_run
  have htz : ∀ w, Tab w → Calls Tryz.prog 109 #[.int .u32 1] w fun e w' => e = .returned (.int .i64 (Lib.ctz 32 1 : Nat)) ∧ w = w' := tz32_any 1 (by omega)
  have hb1 := and_one_pred
  have a37_41_42 : hasI (op : Int) [37, 41, 42] = false := by simp [hasI]; omega
  have a43_44 : hasI (op : Int) [43, 44] = false := by simp [hasI]; omega
  have sh : isShift op = true := by simp [isShift]; omega
  have k0 : ((t.k : Int) != 2) = true := by simp; omega
  clear hG ho hT h hg
  clear hk
  go_enter Tryz.func99, Tryz.ntmps99
  go_wp2_with (first
    | (go_at_call 98; (with_reducible refine (among3 _ _ _ _ (g := _) (w := _) (hg := by simp)).mono ?_); rintro r w' ⟨rfl, rfl⟩)
    | (go_at_call 98; (with_reducible refine (among2 _ _ _ (g := _) (w := _) (hg := by simp)).mono ?_); rintro r w' ⟨rfl, rfl⟩)
    | (go_at_call 110; (with_reducible refine (shift_any _ _).mono ?_); rintro r w' ⟨rfl, rfl⟩)
    | (go_at_call 110; (with_reducible refine (hsh _).mono ?_); rintro r w' ⟨rfl, rfl⟩)
    | (go_at_call 109; (with_reducible refine (htz _ (by repeat (first | exact hT1 | refine Tab.alloc ?_ _))).mono ?_); rintro r w' ⟨rfl, rfl⟩)
    | fail)
  have hN : ∀ w, DagAt K1 w b ts → Calls Tryz.prog 34 #[.pointer (some ⟨b, 0, none⟩), .int .i64 x] w fun r w' => r = .returned (.tuple #[.agg #[.int .i64 t.k, .int .u32 t.v, .int .i64 t.op, .int .i64 t.a, .int .i64 t.b], .int .i64 0]) ∧ Below w.heap.size w w' := by
    intro w hw
    have hq := node_any K1 b x ts (by omega) hx w hw
    rw [ht] at hq
    exact hq
  clear ht
  refine (hN _ (by repeat (first | exact h1 | refine DagAt.alloc ?_ _))).mono ?_
  rintro r w2 ⟨rfl, b2⟩
  have h2 := DagAt.below (K := K1) (b := b) (ts := ts) (by repeat (first | exact h1 | refine DagAt.alloc ?_ _)) b2
  have k2 := Kept.then_below (K := K) (w := w) (by repeat (first | exact k1 | refine Kept.then_alloc ?_ _)) b2
  have hT2 := Tab.below (by repeat (first | exact hT1 | refine Tab.alloc ?_ _)) b2
  have hc2 := cell_below (b := w.heap.size) (off := 0) (v := .pointer (some ⟨b, 0, none⟩)) b2 (by repeat (first | exact hc1 | refine cell_alloc0 ?_ _))
  have hne2 : w.heap.size ≠ w2.heap.size := by have := b2.size; simp at this; omega
  have hc2a := cell_alloc0 hc2 (.cells #[.int .i64 t.k, .int .u32 t.v, .int .i64 t.op, .int .i64 t.a, .int .i64 t.b] 68)
  obtain ⟨z0, z1, z2, z3, z4⟩ := five_cells (blk_new w2 (.cells #[.int .i64 t.k, .int .u32 t.v, .int .i64 t.op, .int .i64 t.a, .int .i64 t.b] 68))
  go_wp2_with fail
  go_ret2
  exact ⟨rfl, (h2.alloc _).mono hKK, k2.then_alloc _⟩
set_option maxRecDepth 100000 in
set_option maxHeartbeats 1000000 in
theorem by_d2so (f : Nat) (hM : MadeSpec f) (K : Nat → Prop) (b : Nat) (ts : List Term) (op x y : Nat) (w : World) (h : DagAt K w b ts) (hG : Good ts) (hg : K 0) (hT : Tab w) (ho : (doW op 0 0).isSome = true) (hx : x < ts.length) (hl : ts.length + (f + 1) < 1000000000000) (hop : (op = 29 ∨ op = 33 ∨ op = 34)) (u q ta tb : Nat) (ht : ts.getD x default = ⟨2, u, q, ta, tb⟩) (hko : q ≠ op) :
    Calls Tryz.prog 99 #[.pointer (some ⟨b, 0, none⟩), .int .i64 op, .int .i64 x, .int .i64 y, .int .u32 1] w (NonePost K b w ts) := by
  obtain ⟨K1, h1, hg1, hT1, hc1, hk1, hKK, k1⟩ := boxed K b ts w h hg hT
  have hmf := makeFunc_run
  have htz : ∀ w, Tab w → Calls Tryz.prog 109 #[.int .u32 1] w fun e w' => e = .returned (.int .i64 (Lib.ctz 32 1 : Nat)) ∧ w = w' := tz32_any 1 (by omega)
  have hb1 := and_one_pred
  have a37_41_42 : hasI (op : Int) [37, 41, 42] = false := by simp [hasI]; omega
  have a43_44 : hasI (op : Int) [43, 44] = false := by simp [hasI]; omega
  have sh : isShift op = true := by simp [isShift]; omega
  have o0 : ((q : Int) != (op : Int)) = true := by simp; omega
  clear hG ho hT h hg
  clear hko
  go_enter Tryz.func99, Tryz.ntmps99
  go_wp2_with (first
    | (go_at_call 98; (with_reducible refine (among3 _ _ _ _ (g := _) (w := _) (hg := by simp)).mono ?_); rintro r w' ⟨rfl, rfl⟩)
    | (go_at_call 98; (with_reducible refine (among2 _ _ _ (g := _) (w := _) (hg := by simp)).mono ?_); rintro r w' ⟨rfl, rfl⟩)
    | (go_at_call 110; (with_reducible refine (shift_any _ _).mono ?_); rintro r w' ⟨rfl, rfl⟩)
    | (go_at_call 110; (with_reducible refine (hsh _).mono ?_); rintro r w' ⟨rfl, rfl⟩)
    | (go_at_call 109; (with_reducible refine (htz _ (by repeat (first | exact hT1 | refine Tab.alloc ?_ _))).mono ?_); rintro r w' ⟨rfl, rfl⟩)
    | fail)
  have hN : ∀ w, DagAt K1 w b ts → Calls Tryz.prog 34 #[.pointer (some ⟨b, 0, none⟩), .int .i64 x] w fun r w' => r = .returned (.tuple #[.agg #[.int .i64 2, .int .u32 u, .int .i64 q, .int .i64 ta, .int .i64 tb], .int .i64 0]) ∧ Below w.heap.size w w' := by
    intro w hw
    have hq := node_any K1 b x ts (by omega) hx w hw
    rw [ht] at hq
    exact hq
  clear ht
  refine (hN _ (by repeat (first | exact h1 | refine DagAt.alloc ?_ _))).mono ?_
  rintro r w2 ⟨rfl, b2⟩
  have h2 := DagAt.below (K := K1) (b := b) (ts := ts) (by repeat (first | exact h1 | refine DagAt.alloc ?_ _)) b2
  have k2 := Kept.then_below (K := K) (w := w) (by repeat (first | exact k1 | refine Kept.then_alloc ?_ _)) b2
  have hT2 := Tab.below (by repeat (first | exact hT1 | refine Tab.alloc ?_ _)) b2
  have hc2 := cell_below (b := w.heap.size) (off := 0) (v := .pointer (some ⟨b, 0, none⟩)) b2 (by repeat (first | exact hc1 | refine cell_alloc0 ?_ _))
  have hne2 : w.heap.size ≠ w2.heap.size := by have := b2.size; simp at this; omega
  have hc2a := cell_alloc0 hc2 (.cells #[.int .i64 2, .int .u32 u, .int .i64 q, .int .i64 ta, .int .i64 tb] 68)
  obtain ⟨z0, z1, z2, z3, z4⟩ := five_cells (blk_new w2 (.cells #[.int .i64 2, .int .u32 u, .int .i64 q, .int .i64 ta, .int .i64 tb] 68))
  go_wp2_with fail
  go_ret2
  exact ⟨rfl, (h2.alloc _).mono hKK, k2.then_alloc _⟩
set_option maxRecDepth 100000 in
set_option maxHeartbeats 1000000 in
theorem by_d3so (f : Nat) (hM : MadeSpec f) (K : Nat → Prop) (b : Nat) (ts : List Term) (op x y : Nat) (w : World) (h : DagAt K w b ts) (hG : Good ts) (hg : K 0) (hT : Tab w) (ho : (doW op 0 0).isSome = true) (hx : x < ts.length) (hl : ts.length + (f + 1) < 1000000000000) (hop : (op = 29 ∨ op = 33 ∨ op = 34)) (ta tb : Nat) (ht : ts.getD x default = ⟨2, 0, op, ta, tb⟩) (htb : tb < ts.length) (hcb : isC ts tb = false) :
    Calls Tryz.prog 99 #[.pointer (some ⟨b, 0, none⟩), .int .i64 op, .int .i64 x, .int .i64 y, .int .u32 1] w (NonePost K b w ts) := by
  obtain ⟨K1, h1, hg1, hT1, hc1, hk1, hKK, k1⟩ := boxed K b ts w h hg hT
  have hmf := makeFunc_run
  have htz : ∀ w, Tab w → Calls Tryz.prog 109 #[.int .u32 1] w fun e w' => e = .returned (.int .i64 (Lib.ctz 32 1 : Nat)) ∧ w = w' := tz32_any 1 (by omega)
  have hb1 := and_one_pred
  have a37_41_42 : hasI (op : Int) [37, 41, 42] = false := by simp [hasI]; omega
  have a43_44 : hasI (op : Int) [43, 44] = false := by simp [hasI]; omega
  have sh : isShift op = true := by simp [isShift]; omega
  have hKn := fun w => known_any K1 b tb ts (by omega) htb w
  rw [hcb] at hKn
  clear hcb
  clear hG ho hT h hg
  go_enter Tryz.func99, Tryz.ntmps99
  go_wp2_with (first
    | (go_at_call 98; (with_reducible refine (among3 _ _ _ _ (g := _) (w := _) (hg := by simp)).mono ?_); rintro r w' ⟨rfl, rfl⟩)
    | (go_at_call 98; (with_reducible refine (among2 _ _ _ (g := _) (w := _) (hg := by simp)).mono ?_); rintro r w' ⟨rfl, rfl⟩)
    | (go_at_call 110; (with_reducible refine (shift_any _ _).mono ?_); rintro r w' ⟨rfl, rfl⟩)
    | (go_at_call 110; (with_reducible refine (hsh _).mono ?_); rintro r w' ⟨rfl, rfl⟩)
    | (go_at_call 109; (with_reducible refine (htz _ (by repeat (first | exact hT1 | refine Tab.alloc ?_ _))).mono ?_); rintro r w' ⟨rfl, rfl⟩)
    | fail)
  have hN : ∀ w, DagAt K1 w b ts → Calls Tryz.prog 34 #[.pointer (some ⟨b, 0, none⟩), .int .i64 x] w fun r w' => r = .returned (.tuple #[.agg #[.int .i64 2, .int .u32 0, .int .i64 op, .int .i64 ta, .int .i64 tb], .int .i64 0]) ∧ Below w.heap.size w w' := by
    intro w hw
    have hq := node_any K1 b x ts (by omega) hx w hw
    rw [ht] at hq
    exact hq
  clear ht
  refine (hN _ (by repeat (first | exact h1 | refine DagAt.alloc ?_ _))).mono ?_
  rintro r w2 ⟨rfl, b2⟩
  have h2 := DagAt.below (K := K1) (b := b) (ts := ts) (by repeat (first | exact h1 | refine DagAt.alloc ?_ _)) b2
  have k2 := Kept.then_below (K := K) (w := w) (by repeat (first | exact k1 | refine Kept.then_alloc ?_ _)) b2
  have hT2 := Tab.below (by repeat (first | exact hT1 | refine Tab.alloc ?_ _)) b2
  have hc2 := cell_below (b := w.heap.size) (off := 0) (v := .pointer (some ⟨b, 0, none⟩)) b2 (by repeat (first | exact hc1 | refine cell_alloc0 ?_ _))
  have hne2 : w.heap.size ≠ w2.heap.size := by have := b2.size; simp at this; omega
  have hc2a := cell_alloc0 hc2 (.cells #[.int .i64 2, .int .u32 0, .int .i64 op, .int .i64 ta, .int .i64 tb] 68)
  obtain ⟨z0, z1, z2, z3, z4⟩ := five_cells (blk_new w2 (.cells #[.int .i64 2, .int .u32 0, .int .i64 op, .int .i64 ta, .int .i64 tb] 68))
  go_wp2_with fail
  refine (hKn _ (h2.alloc _)).mono ?_
  rintro r w3 ⟨rfl, b3⟩
  have h3 := (h2.alloc _).below b3
  have k3 := (k2.then_alloc _).then_below b3
  have hT3 := (hT2.alloc _).below b3
  have hc3 := cell_below b3 (cell_alloc0 hc2 _)
  have y3 := cell_below b3 z3
  have y3a := cell_alloc0 y3 (.cells #[.int .i64 27, .int .i64 36, .int .i64 35, .int .i64 32] 3)
  have y3b := cell_alloc0 y3a (.cells #[.int .i64 29, .int .i64 33, .int .i64 34] 3)
  have hc3a := cell_alloc0 hc3 (.cells #[.int .i64 27, .int .i64 36, .int .i64 35, .int .i64 32] 3)
  have hc3b := cell_alloc0 hc3a (.cells #[.int .i64 29, .int .i64 33, .int .i64 34] 3)
  clear z0 z1 z2 z3 z4 hc2 hc2a hne2 hT2 h2 b2
  go_wp2_with fail
  go_ret2
  exact ⟨rfl, DagAt.mono (by repeat (first | exact h3 | refine DagAt.alloc ?_ _)) hKK, (by repeat (first | exact k3 | refine Kept.then_alloc ?_ _))⟩
set_option maxRecDepth 100000 in
set_option maxHeartbeats 1000000 in
theorem by_s1so (f : Nat) (hM : MadeSpec f) (K : Nat → Prop) (b : Nat) (ts : List Term) (op x y : Nat) (w : World) (h : DagAt K w b ts) (hG : Good ts) (hg : K 0) (hT : Tab w) (ho : (doW op 0 0).isSome = true) (hx : x < ts.length) (hl : ts.length + (f + 1) < 1000000000000) (hop : (op = 29 ∨ op = 33 ∨ op = 34)) (ta tb : Nat) (ht : ts.getD x default = ⟨2, 0, op, ta, tb⟩) (htb : tb < ts.length) (hcb : isC ts tb = true) (hq : wd ts tb < 1) :
    Calls Tryz.prog 99 #[.pointer (some ⟨b, 0, none⟩), .int .i64 op, .int .i64 x, .int .i64 y, .int .u32 1] w (NonePost K b w ts) := by
  obtain ⟨K1, h1, hg1, hT1, hc1, hk1, hKK, k1⟩ := boxed K b ts w h hg hT
  have hmf := makeFunc_run
  have htz : ∀ w, Tab w → Calls Tryz.prog 109 #[.int .u32 1] w fun e w' => e = .returned (.int .i64 (Lib.ctz 32 1 : Nat)) ∧ w = w' := tz32_any 1 (by omega)
  have hb1 := and_one_pred
  have a37_41_42 : hasI (op : Int) [37, 41, 42] = false := by simp [hasI]; omega
  have a43_44 : hasI (op : Int) [43, 44] = false := by simp [hasI]; omega
  have sh : isShift op = true := by simp [isShift]; omega
  have hKn := fun w => known_any K1 b tb ts (by omega) htb w
  rw [hcb] at hKn
  clear hcb
  have a4 : hasI (op : Int) [27, 36, 35, 32] = false := by simp [hasI]; omega
  have q1 : (wd ts tb : Int) < 1 := by omega
  clear hG ho hT h hg
  go_enter Tryz.func99, Tryz.ntmps99
  go_wp2_with (first
    | (go_at_call 98; (with_reducible refine (among3 _ _ _ _ (g := _) (w := _) (hg := by simp)).mono ?_); rintro r w' ⟨rfl, rfl⟩)
    | (go_at_call 98; (with_reducible refine (among2 _ _ _ (g := _) (w := _) (hg := by simp)).mono ?_); rintro r w' ⟨rfl, rfl⟩)
    | (go_at_call 110; (with_reducible refine (shift_any _ _).mono ?_); rintro r w' ⟨rfl, rfl⟩)
    | (go_at_call 110; (with_reducible refine (hsh _).mono ?_); rintro r w' ⟨rfl, rfl⟩)
    | (go_at_call 109; (with_reducible refine (htz _ (by repeat (first | exact hT1 | refine Tab.alloc ?_ _))).mono ?_); rintro r w' ⟨rfl, rfl⟩)
    | fail)
  have hN : ∀ w, DagAt K1 w b ts → Calls Tryz.prog 34 #[.pointer (some ⟨b, 0, none⟩), .int .i64 x] w fun r w' => r = .returned (.tuple #[.agg #[.int .i64 2, .int .u32 0, .int .i64 op, .int .i64 ta, .int .i64 tb], .int .i64 0]) ∧ Below w.heap.size w w' := by
    intro w hw
    have hq := node_any K1 b x ts (by omega) hx w hw
    rw [ht] at hq
    exact hq
  clear ht
  refine (hN _ (by repeat (first | exact h1 | refine DagAt.alloc ?_ _))).mono ?_
  rintro r w2 ⟨rfl, b2⟩
  have h2 := DagAt.below (K := K1) (b := b) (ts := ts) (by repeat (first | exact h1 | refine DagAt.alloc ?_ _)) b2
  have k2 := Kept.then_below (K := K) (w := w) (by repeat (first | exact k1 | refine Kept.then_alloc ?_ _)) b2
  have hT2 := Tab.below (by repeat (first | exact hT1 | refine Tab.alloc ?_ _)) b2
  have hc2 := cell_below (b := w.heap.size) (off := 0) (v := .pointer (some ⟨b, 0, none⟩)) b2 (by repeat (first | exact hc1 | refine cell_alloc0 ?_ _))
  have hne2 : w.heap.size ≠ w2.heap.size := by have := b2.size; simp at this; omega
  have hc2a := cell_alloc0 hc2 (.cells #[.int .i64 2, .int .u32 0, .int .i64 op, .int .i64 ta, .int .i64 tb] 68)
  obtain ⟨z0, z1, z2, z3, z4⟩ := five_cells (blk_new w2 (.cells #[.int .i64 2, .int .u32 0, .int .i64 op, .int .i64 ta, .int .i64 tb] 68))
  go_wp2_with fail
  refine (hKn _ (h2.alloc _)).mono ?_
  rintro r w3 ⟨rfl, b3⟩
  have h3 := (h2.alloc _).below b3
  have k3 := (k2.then_alloc _).then_below b3
  have hT3 := (hT2.alloc _).below b3
  have hc3 := cell_below b3 (cell_alloc0 hc2 _)
  have y3 := cell_below b3 z3
  have y3a := cell_alloc0 y3 (.cells #[.int .i64 27, .int .i64 36, .int .i64 35, .int .i64 32] 3)
  have y3b := cell_alloc0 y3a (.cells #[.int .i64 29, .int .i64 33, .int .i64 34] 3)
  have hc3a := cell_alloc0 hc3 (.cells #[.int .i64 27, .int .i64 36, .int .i64 35, .int .i64 32] 3)
  have hc3b := cell_alloc0 hc3a (.cells #[.int .i64 29, .int .i64 33, .int .i64 34] 3)
  clear z0 z1 z2 z3 z4 hc2 hc2a hne2 hT2 h2 b2
  go_wp2_with (first
    | (go_at_call 98; (with_reducible refine (among4 _ _ _ _ _ (g := _) (w := _) (hg := by simp)).mono ?_); rintro r w' ⟨rfl, rfl⟩)
    | (go_at_call 110; (with_reducible refine (shift_any _ _).mono ?_); rintro r w' ⟨rfl, rfl⟩)
    | (go_at_call 110; (with_reducible refine (hsh _).mono ?_); rintro r w' ⟨rfl, rfl⟩)
    | (go_at_call 42; (with_reducible refine (hDo _).mono ?_); rintro r w' ⟨rfl, rfl⟩)
    | fail)
  go_ret2
  exact ⟨rfl, DagAt.mono (by repeat (first | exact h3 | refine DagAt.alloc ?_ _)) hKK, (by repeat (first | exact k3 | refine Kept.then_alloc ?_ _))⟩
set_option maxRecDepth 100000 in
set_option maxHeartbeats 1000000 in
theorem by_s2so (f : Nat) (hM : MadeSpec f) (K : Nat → Prop) (b : Nat) (ts : List Term) (op x y : Nat) (w : World) (h : DagAt K w b ts) (hG : Good ts) (hg : K 0) (hT : Tab w) (ho : (doW op 0 0).isSome = true) (hx : x < ts.length) (hl : ts.length + (f + 1) < 1000000000000) (hop : (op = 29 ∨ op = 33 ∨ op = 34)) (ta tb : Nat) (ht : ts.getD x default = ⟨2, 0, op, ta, tb⟩) (htb : tb < ts.length) (hcb : isC ts tb = true) (hq : 32 ≤ wd ts tb) (hqm : wd ts tb < 4294967296) :
    Calls Tryz.prog 99 #[.pointer (some ⟨b, 0, none⟩), .int .i64 op, .int .i64 x, .int .i64 y, .int .u32 1] w (NonePost K b w ts) := by
  obtain ⟨K1, h1, hg1, hT1, hc1, hk1, hKK, k1⟩ := boxed K b ts w h hg hT
  have hmf := makeFunc_run
  have htz : ∀ w, Tab w → Calls Tryz.prog 109 #[.int .u32 1] w fun e w' => e = .returned (.int .i64 (Lib.ctz 32 1 : Nat)) ∧ w = w' := tz32_any 1 (by omega)
  have hb1 := and_one_pred
  have a37_41_42 : hasI (op : Int) [37, 41, 42] = false := by simp [hasI]; omega
  have a43_44 : hasI (op : Int) [43, 44] = false := by simp [hasI]; omega
  have sh : isShift op = true := by simp [isShift]; omega
  have hKn := fun w => known_any K1 b tb ts (by omega) htb w
  rw [hcb] at hKn
  clear hcb
  have a4 : hasI (op : Int) [27, 36, 35, 32] = false := by simp [hasI]; omega
  have q1 : (1 : Int) ≤ (wd ts tb : Int) := by omega
  have q1' : ¬ (wd ts tb : Int) < 1 := by omega
  have q2 : (32 : Int) ≤ (wd ts tb : Int) := by omega
  clear hG ho hT h hg
  go_enter Tryz.func99, Tryz.ntmps99
  go_wp2_with (first
    | (go_at_call 98; (with_reducible refine (among3 _ _ _ _ (g := _) (w := _) (hg := by simp)).mono ?_); rintro r w' ⟨rfl, rfl⟩)
    | (go_at_call 98; (with_reducible refine (among2 _ _ _ (g := _) (w := _) (hg := by simp)).mono ?_); rintro r w' ⟨rfl, rfl⟩)
    | (go_at_call 110; (with_reducible refine (shift_any _ _).mono ?_); rintro r w' ⟨rfl, rfl⟩)
    | (go_at_call 110; (with_reducible refine (hsh _).mono ?_); rintro r w' ⟨rfl, rfl⟩)
    | (go_at_call 109; (with_reducible refine (htz _ (by repeat (first | exact hT1 | refine Tab.alloc ?_ _))).mono ?_); rintro r w' ⟨rfl, rfl⟩)
    | fail)
  have hN : ∀ w, DagAt K1 w b ts → Calls Tryz.prog 34 #[.pointer (some ⟨b, 0, none⟩), .int .i64 x] w fun r w' => r = .returned (.tuple #[.agg #[.int .i64 2, .int .u32 0, .int .i64 op, .int .i64 ta, .int .i64 tb], .int .i64 0]) ∧ Below w.heap.size w w' := by
    intro w hw
    have hq := node_any K1 b x ts (by omega) hx w hw
    rw [ht] at hq
    exact hq
  clear ht
  refine (hN _ (by repeat (first | exact h1 | refine DagAt.alloc ?_ _))).mono ?_
  rintro r w2 ⟨rfl, b2⟩
  have h2 := DagAt.below (K := K1) (b := b) (ts := ts) (by repeat (first | exact h1 | refine DagAt.alloc ?_ _)) b2
  have k2 := Kept.then_below (K := K) (w := w) (by repeat (first | exact k1 | refine Kept.then_alloc ?_ _)) b2
  have hT2 := Tab.below (by repeat (first | exact hT1 | refine Tab.alloc ?_ _)) b2
  have hc2 := cell_below (b := w.heap.size) (off := 0) (v := .pointer (some ⟨b, 0, none⟩)) b2 (by repeat (first | exact hc1 | refine cell_alloc0 ?_ _))
  have hne2 : w.heap.size ≠ w2.heap.size := by have := b2.size; simp at this; omega
  have hc2a := cell_alloc0 hc2 (.cells #[.int .i64 2, .int .u32 0, .int .i64 op, .int .i64 ta, .int .i64 tb] 68)
  obtain ⟨z0, z1, z2, z3, z4⟩ := five_cells (blk_new w2 (.cells #[.int .i64 2, .int .u32 0, .int .i64 op, .int .i64 ta, .int .i64 tb] 68))
  go_wp2_with fail
  refine (hKn _ (h2.alloc _)).mono ?_
  rintro r w3 ⟨rfl, b3⟩
  have h3 := (h2.alloc _).below b3
  have k3 := (k2.then_alloc _).then_below b3
  have hT3 := (hT2.alloc _).below b3
  have hc3 := cell_below b3 (cell_alloc0 hc2 _)
  have y3 := cell_below b3 z3
  have y3a := cell_alloc0 y3 (.cells #[.int .i64 27, .int .i64 36, .int .i64 35, .int .i64 32] 3)
  have y3b := cell_alloc0 y3a (.cells #[.int .i64 29, .int .i64 33, .int .i64 34] 3)
  have hc3a := cell_alloc0 hc3 (.cells #[.int .i64 27, .int .i64 36, .int .i64 35, .int .i64 32] 3)
  have hc3b := cell_alloc0 hc3a (.cells #[.int .i64 29, .int .i64 33, .int .i64 34] 3)
  clear z0 z1 z2 z3 z4 hc2 hc2a hne2 hT2 h2 b2
  go_wp2_with (first
    | (go_at_call 98; (with_reducible refine (among4 _ _ _ _ _ (g := _) (w := _) (hg := by simp)).mono ?_); rintro r w' ⟨rfl, rfl⟩)
    | (go_at_call 110; (with_reducible refine (shift_any _ _).mono ?_); rintro r w' ⟨rfl, rfl⟩)
    | (go_at_call 110; (with_reducible refine (hsh _).mono ?_); rintro r w' ⟨rfl, rfl⟩)
    | (go_at_call 42; (with_reducible refine (hDo _).mono ?_); rintro r w' ⟨rfl, rfl⟩)
    | fail)
  go_ret2
  exact ⟨rfl, DagAt.mono (by repeat (first | exact h3 | refine DagAt.alloc ?_ _)) hKK, (by repeat (first | exact k3 | refine Kept.then_alloc ?_ _))⟩
set_option maxRecDepth 100000 in
set_option maxHeartbeats 1000000 in
theorem by_s3so (f : Nat) (hM : MadeSpec f) (K : Nat → Prop) (b : Nat) (ts : List Term) (op x y : Nat) (w : World) (h : DagAt K w b ts) (hG : Good ts) (hg : K 0) (hT : Tab w) (ho : (doW op 0 0).isSome = true) (hx : x < ts.length) (hl : ts.length + (f + 1) < 1000000000000) (hop : (op = 29 ∨ op = 33 ∨ op = 34)) (ta tb : Nat) (ht : ts.getD x default = ⟨2, 0, op, ta, tb⟩) (htb : tb < ts.length) (hcb : isC ts tb = true) (hta : ta < ts.length) (hq : 1 ≤ wd ts tb) (hs : wd ts tb + 1 < 32) (hW : Went ts op x y (ins ts (constT (wd ts tb + 1))) op ta (pos ts (constT (wd ts tb + 1)))) (hm : mz ts op x y < f + 1) :
    Calls Tryz.prog 99 #[.pointer (some ⟨b, 0, none⟩), .int .i64 op, .int .i64 x, .int .i64 y, .int .u32 1] w (IsPost K b w (madeF f (ins ts (constT (wd ts tb + 1))) op ta (pos ts (constT (wd ts tb + 1))))) := by
  obtain ⟨K1, h1, hg1, hT1, hc1, hk1, hKK, k1⟩ := boxed K b ts w h hg hT
  have hmf := makeFunc_run
  have htz : ∀ w, Tab w → Calls Tryz.prog 109 #[.int .u32 1] w fun e w' => e = .returned (.int .i64 (Lib.ctz 32 1 : Nat)) ∧ w = w' := tz32_any 1 (by omega)
  have hb1 := and_one_pred
  have a37_41_42 : hasI (op : Int) [37, 41, 42] = false := by simp [hasI]; omega
  have a43_44 : hasI (op : Int) [43, 44] = false := by simp [hasI]; omega
  have sh : isShift op = true := by simp [isShift]; omega
  have hKn := fun w => known_any K1 b tb ts (by omega) htb w
  rw [hcb] at hKn
  clear hcb
  have a4 : hasI (op : Int) [27, 36, 35, 32] = false := by simp [hasI]; omega
  have q1 : (1 : Int) ≤ (wd ts tb : Int) := by omega
  have q1' : ¬ (wd ts tb : Int) < 1 := by omega
  have q2 : (wd ts tb : Int) < 32 := by omega
  have q3 : (wd ts tb : Int) + 1 < 32 := by omega
  have hcast : (wd ts tb : Int) + 1 = ((wd ts tb + 1 : Nat) : Int) := by omega
  have HCAST := Lib.hid hcast
  clear hcast
  clear hT h hg
  go_enter Tryz.func99, Tryz.ntmps99
  go_wp2_with (first
    | (go_at_call 98; (with_reducible refine (among3 _ _ _ _ (g := _) (w := _) (hg := by simp)).mono ?_); rintro r w' ⟨rfl, rfl⟩)
    | (go_at_call 98; (with_reducible refine (among2 _ _ _ (g := _) (w := _) (hg := by simp)).mono ?_); rintro r w' ⟨rfl, rfl⟩)
    | (go_at_call 110; (with_reducible refine (shift_any _ _).mono ?_); rintro r w' ⟨rfl, rfl⟩)
    | (go_at_call 110; (with_reducible refine (hsh _).mono ?_); rintro r w' ⟨rfl, rfl⟩)
    | (go_at_call 109; (with_reducible refine (htz _ (by repeat (first | exact hT1 | refine Tab.alloc ?_ _))).mono ?_); rintro r w' ⟨rfl, rfl⟩)
    | fail)
  have hN : ∀ w, DagAt K1 w b ts → Calls Tryz.prog 34 #[.pointer (some ⟨b, 0, none⟩), .int .i64 x] w fun r w' => r = .returned (.tuple #[.agg #[.int .i64 2, .int .u32 0, .int .i64 op, .int .i64 ta, .int .i64 tb], .int .i64 0]) ∧ Below w.heap.size w w' := by
    intro w hw
    have hq := node_any K1 b x ts (by omega) hx w hw
    rw [ht] at hq
    exact hq
  clear ht
  refine (hN _ (by repeat (first | exact h1 | refine DagAt.alloc ?_ _))).mono ?_
  rintro r w2 ⟨rfl, b2⟩
  have h2 := DagAt.below (K := K1) (b := b) (ts := ts) (by repeat (first | exact h1 | refine DagAt.alloc ?_ _)) b2
  have k2 := Kept.then_below (K := K) (w := w) (by repeat (first | exact k1 | refine Kept.then_alloc ?_ _)) b2
  have hT2 := Tab.below (by repeat (first | exact hT1 | refine Tab.alloc ?_ _)) b2
  have hc2 := cell_below (b := w.heap.size) (off := 0) (v := .pointer (some ⟨b, 0, none⟩)) b2 (by repeat (first | exact hc1 | refine cell_alloc0 ?_ _))
  have hne2 : w.heap.size ≠ w2.heap.size := by have := b2.size; simp at this; omega
  have hc2a := cell_alloc0 hc2 (.cells #[.int .i64 2, .int .u32 0, .int .i64 op, .int .i64 ta, .int .i64 tb] 68)
  obtain ⟨z0, z1, z2, z3, z4⟩ := five_cells (blk_new w2 (.cells #[.int .i64 2, .int .u32 0, .int .i64 op, .int .i64 ta, .int .i64 tb] 68))
  go_wp2_with fail
  refine (hKn _ (h2.alloc _)).mono ?_
  rintro r w3 ⟨rfl, b3⟩
  have h3 := (h2.alloc _).below b3
  have k3 := (k2.then_alloc _).then_below b3
  have hT3 := (hT2.alloc _).below b3
  have hc3 := cell_below b3 (cell_alloc0 hc2 _)
  have y3 := cell_below b3 z3
  have y3a := cell_alloc0 y3 (.cells #[.int .i64 27, .int .i64 36, .int .i64 35, .int .i64 32] 3)
  have y3b := cell_alloc0 y3a (.cells #[.int .i64 29, .int .i64 33, .int .i64 34] 3)
  have hc3a := cell_alloc0 hc3 (.cells #[.int .i64 27, .int .i64 36, .int .i64 35, .int .i64 32] 3)
  have hc3b := cell_alloc0 hc3a (.cells #[.int .i64 29, .int .i64 33, .int .i64 34] 3)
  clear z0 z1 z2 z3 z4 hc2 hc2a hne2 hT2 h2 b2
  go_wp2_with (first
    | (go_at_call 98; (with_reducible refine (among4 _ _ _ _ _ (g := _) (w := _) (hg := by simp)).mono ?_); rintro r w' ⟨rfl, rfl⟩)
    | (go_at_call 110; (with_reducible refine (shift_any _ _).mono ?_); rintro r w' ⟨rfl, rfl⟩)
    | (go_at_call 110; (with_reducible refine (hsh _).mono ?_); rintro r w' ⟨rfl, rfl⟩)
    | (go_at_call 42; (with_reducible refine (hDo _).mono ?_); rintro r w' ⟨rfl, rfl⟩)
    | fail)
  rw [HCAST.out]
  refine (goes_any f hM K1 b w.heap.size ts op ta (wd ts tb + 1) _ (by repeat (first | exact h3 | refine DagAt.alloc ?_ _)) hW.good hg1 (by repeat (first | exact hT3 | refine Tab.alloc ?_ _)) hW.ok hta (by omega) (by have := hW.less; omega) hl hk1 (by repeat (first | exact hc3 | refine cell_alloc0 ?_ _))).mono ?_
  rintro r wz ⟨rfl, hz, kz⟩
  have kw := Kept.trans (K := K) (w := w) (by repeat (first | exact k3 | refine Kept.then_alloc ?_ _)) (kz.mono hKK)
  go_wp2_with fail
  go_ret2
  exact ⟨rfl, hz.mono hKK, kw⟩
set_option maxRecDepth 100000 in
set_option maxHeartbeats 1000000 in
theorem by_s4so (f : Nat) (hM : MadeSpec f) (K : Nat → Prop) (b : Nat) (ts : List Term) (op x y : Nat) (w : World) (h : DagAt K w b ts) (hG : Good ts) (hg : K 0) (hT : Tab w) (ho : (doW op 0 0).isSome = true) (hx : x < ts.length) (hl : ts.length + (f + 1) < 1000000000000) (hop : (op = 29 ∨ op = 33 ∨ op = 34)) (ta tb : Nat) (ht : ts.getD x default = ⟨2, 0, op, ta, tb⟩) (htb : tb < ts.length) (hcb : isC ts tb = true) (hta : ta < ts.length) (hq : 1 ≤ wd ts tb) (hq2 : wd ts tb < 32) (hs : 32 ≤ wd ts tb + 1) (h34 : op = 34) (hW : Went ts op x y (ins ts (constT 31)) op ta (pos ts (constT 31))) (hm : mz ts op x y < f + 1) :
    Calls Tryz.prog 99 #[.pointer (some ⟨b, 0, none⟩), .int .i64 op, .int .i64 x, .int .i64 y, .int .u32 1] w (IsPost K b w (madeF f (ins ts (constT 31)) op ta (pos ts (constT 31)))) := by
  obtain ⟨K1, h1, hg1, hT1, hc1, hk1, hKK, k1⟩ := boxed K b ts w h hg hT
  have hmf := makeFunc_run
  have htz : ∀ w, Tab w → Calls Tryz.prog 109 #[.int .u32 1] w fun e w' => e = .returned (.int .i64 (Lib.ctz 32 1 : Nat)) ∧ w = w' := tz32_any 1 (by omega)
  have hb1 := and_one_pred
  subst h34
  have hsh : ∀ w, Calls Tryz.prog 110 #[.int .i64 34] w fun e w' => e = .returned (.bool true) ∧ w.alloc (.cells #[.int .i64 29, .int .i64 33, .int .i64 34] 3) = w' := shift_any 34
  have hKn := fun w => known_any K1 b tb ts (by omega) htb w
  rw [hcb] at hKn
  clear hcb
  have q1 : (1 : Int) ≤ (wd ts tb : Int) := by omega
  have q1' : ¬ (wd ts tb : Int) < 1 := by omega
  have q2 : (wd ts tb : Int) < 32 := by omega
  have q3 : 32 ≤ (wd ts tb : Int) + 1 := by omega
  have q3' : ¬ (wd ts tb : Int) + 1 < 32 := by omega

  have a4 : hasI 34 [27, 36, 35, 32] = false := by decide
  have aB : hasI 34 [37, 41, 42] = false := by decide
  have aD : hasI 34 [43, 44] = false := by decide
  clear hT h hg
  go_enter Tryz.func99, Tryz.ntmps99
  go_wp2_with (first
    | (go_at_call 98; (with_reducible refine (among3 _ _ _ _ (g := _) (w := _) (hg := by simp)).mono ?_); rintro r w' ⟨rfl, rfl⟩)
    | (go_at_call 98; (with_reducible refine (among2 _ _ _ (g := _) (w := _) (hg := by simp)).mono ?_); rintro r w' ⟨rfl, rfl⟩)
    | (go_at_call 110; (with_reducible refine (shift_any _ _).mono ?_); rintro r w' ⟨rfl, rfl⟩)
    | (go_at_call 110; (with_reducible refine (hsh _).mono ?_); rintro r w' ⟨rfl, rfl⟩)
    | (go_at_call 109; (with_reducible refine (htz _ (by repeat (first | exact hT1 | refine Tab.alloc ?_ _))).mono ?_); rintro r w' ⟨rfl, rfl⟩)
    | fail)
  have hN : ∀ w, DagAt K1 w b ts → Calls Tryz.prog 34 #[.pointer (some ⟨b, 0, none⟩), .int .i64 x] w fun r w' => r = .returned (.tuple #[.agg #[.int .i64 2, .int .u32 0, .int .i64 34, .int .i64 ta, .int .i64 tb], .int .i64 0]) ∧ Below w.heap.size w w' := by
    intro w hw
    have hq := node_any K1 b x ts (by omega) hx w hw
    rw [ht] at hq
    exact hq
  clear ht
  refine (hN _ (by repeat (first | exact h1 | refine DagAt.alloc ?_ _))).mono ?_
  rintro r w2 ⟨rfl, b2⟩
  have h2 := DagAt.below (K := K1) (b := b) (ts := ts) (by repeat (first | exact h1 | refine DagAt.alloc ?_ _)) b2
  have k2 := Kept.then_below (K := K) (w := w) (by repeat (first | exact k1 | refine Kept.then_alloc ?_ _)) b2
  have hT2 := Tab.below (by repeat (first | exact hT1 | refine Tab.alloc ?_ _)) b2
  have hc2 := cell_below (b := w.heap.size) (off := 0) (v := .pointer (some ⟨b, 0, none⟩)) b2 (by repeat (first | exact hc1 | refine cell_alloc0 ?_ _))
  have hne2 : w.heap.size ≠ w2.heap.size := by have := b2.size; simp at this; omega
  have hc2a := cell_alloc0 hc2 (.cells #[.int .i64 2, .int .u32 0, .int .i64 34, .int .i64 ta, .int .i64 tb] 68)
  obtain ⟨z0, z1, z2, z3, z4⟩ := five_cells (blk_new w2 (.cells #[.int .i64 2, .int .u32 0, .int .i64 34, .int .i64 ta, .int .i64 tb] 68))
  go_wp2_with fail
  refine (hKn _ (h2.alloc _)).mono ?_
  rintro r w3 ⟨rfl, b3⟩
  have h3 := (h2.alloc _).below b3
  have k3 := (k2.then_alloc _).then_below b3
  have hT3 := (hT2.alloc _).below b3
  have hc3 := cell_below b3 (cell_alloc0 hc2 _)
  have y3 := cell_below b3 z3
  have y3a := cell_alloc0 y3 (.cells #[.int .i64 27, .int .i64 36, .int .i64 35, .int .i64 32] 3)
  have y3b := cell_alloc0 y3a (.cells #[.int .i64 29, .int .i64 33, .int .i64 34] 3)
  have hc3a := cell_alloc0 hc3 (.cells #[.int .i64 27, .int .i64 36, .int .i64 35, .int .i64 32] 3)
  have hc3b := cell_alloc0 hc3a (.cells #[.int .i64 29, .int .i64 33, .int .i64 34] 3)
  clear z0 z1 z2 z3 z4 hc2 hc2a hne2 hT2 h2 b2
  go_wp2_with (first
    | (go_at_call 98; (with_reducible refine (among4 _ _ _ _ _ (g := _) (w := _) (hg := by simp)).mono ?_); rintro r w' ⟨rfl, rfl⟩)
    | (go_at_call 110; (with_reducible refine (shift_any _ _).mono ?_); rintro r w' ⟨rfl, rfl⟩)
    | (go_at_call 110; (with_reducible refine (hsh _).mono ?_); rintro r w' ⟨rfl, rfl⟩)
    | (go_at_call 42; (with_reducible refine (hDo _).mono ?_); rintro r w' ⟨rfl, rfl⟩)
    | fail)
  refine (goes_any f hM K1 b w.heap.size ts 34 ta 31 _ (by repeat (first | exact h3 | refine DagAt.alloc ?_ _)) hW.good hg1 (by repeat (first | exact hT3 | refine Tab.alloc ?_ _)) hW.ok hta (by omega) (by have := hW.less; omega) hl hk1 (by repeat (first | exact hc3 | refine cell_alloc0 ?_ _))).mono ?_
  rintro r wz ⟨rfl, hz, kz⟩
  have kw := Kept.trans (K := K) (w := w) (by repeat (first | exact k3 | refine Kept.then_alloc ?_ _)) (kz.mono hKK)
  go_wp2_with fail
  go_ret2
  exact ⟨rfl, hz.mono hKK, kw⟩
set_option maxRecDepth 100000 in
set_option maxHeartbeats 1000000 in
theorem by_s5so (f : Nat) (hM : MadeSpec f) (K : Nat → Prop) (b : Nat) (ts : List Term) (op x y : Nat) (w : World) (h : DagAt K w b ts) (hG : Good ts) (hg : K 0) (hT : Tab w) (ho : (doW op 0 0).isSome = true) (hx : x < ts.length) (hl : ts.length + (f + 1) < 1000000000000) (hop : (op = 29 ∨ op = 33 ∨ op = 34)) (ta tb : Nat) (ht : ts.getD x default = ⟨2, 0, op, ta, tb⟩) (htb : tb < ts.length) (hcb : isC ts tb = true) (hq : 1 ≤ wd ts tb) (hq2 : wd ts tb < 32) (hs : 32 ≤ wd ts tb + 1) (h34 : op ≠ 34) :
    Calls Tryz.prog 99 #[.pointer (some ⟨b, 0, none⟩), .int .i64 op, .int .i64 x, .int .i64 y, .int .u32 1] w (IsPost K b w (ins ts (constT 0), pos ts (constT 0))) := by
  obtain ⟨K1, h1, hg1, hT1, hc1, hk1, hKK, k1⟩ := boxed K b ts w h hg hT
  have hmf := makeFunc_run
  have htz : ∀ w, Tab w → Calls Tryz.prog 109 #[.int .u32 1] w fun e w' => e = .returned (.int .i64 (Lib.ctz 32 1 : Nat)) ∧ w = w' := tz32_any 1 (by omega)
  have hb1 := and_one_pred
  have a37_41_42 : hasI (op : Int) [37, 41, 42] = false := by simp [hasI]; omega
  have a43_44 : hasI (op : Int) [43, 44] = false := by simp [hasI]; omega
  have sh : isShift op = true := by simp [isShift]; omega
  have hKn := fun w => known_any K1 b tb ts (by omega) htb w
  rw [hcb] at hKn
  clear hcb
  have a4 : hasI (op : Int) [27, 36, 35, 32] = false := by simp [hasI]; omega
  have q1 : (1 : Int) ≤ (wd ts tb : Int) := by omega
  have q1' : ¬ (wd ts tb : Int) < 1 := by omega
  have q2 : (wd ts tb : Int) < 32 := by omega
  have q3 : 32 ≤ (wd ts tb : Int) + 1 := by omega
  have q3' : ¬ (wd ts tb : Int) + 1 < 32 := by omega
  have y34 : ((op : Int) == 34) = false := by simp; omega
  clear hG ho hT h hg
  go_enter Tryz.func99, Tryz.ntmps99
  go_wp2_with (first
    | (go_at_call 98; (with_reducible refine (among3 _ _ _ _ (g := _) (w := _) (hg := by simp)).mono ?_); rintro r w' ⟨rfl, rfl⟩)
    | (go_at_call 98; (with_reducible refine (among2 _ _ _ (g := _) (w := _) (hg := by simp)).mono ?_); rintro r w' ⟨rfl, rfl⟩)
    | (go_at_call 110; (with_reducible refine (shift_any _ _).mono ?_); rintro r w' ⟨rfl, rfl⟩)
    | (go_at_call 110; (with_reducible refine (hsh _).mono ?_); rintro r w' ⟨rfl, rfl⟩)
    | (go_at_call 109; (with_reducible refine (htz _ (by repeat (first | exact hT1 | refine Tab.alloc ?_ _))).mono ?_); rintro r w' ⟨rfl, rfl⟩)
    | fail)
  have hN : ∀ w, DagAt K1 w b ts → Calls Tryz.prog 34 #[.pointer (some ⟨b, 0, none⟩), .int .i64 x] w fun r w' => r = .returned (.tuple #[.agg #[.int .i64 2, .int .u32 0, .int .i64 op, .int .i64 ta, .int .i64 tb], .int .i64 0]) ∧ Below w.heap.size w w' := by
    intro w hw
    have hq := node_any K1 b x ts (by omega) hx w hw
    rw [ht] at hq
    exact hq
  clear ht
  refine (hN _ (by repeat (first | exact h1 | refine DagAt.alloc ?_ _))).mono ?_
  rintro r w2 ⟨rfl, b2⟩
  have h2 := DagAt.below (K := K1) (b := b) (ts := ts) (by repeat (first | exact h1 | refine DagAt.alloc ?_ _)) b2
  have k2 := Kept.then_below (K := K) (w := w) (by repeat (first | exact k1 | refine Kept.then_alloc ?_ _)) b2
  have hT2 := Tab.below (by repeat (first | exact hT1 | refine Tab.alloc ?_ _)) b2
  have hc2 := cell_below (b := w.heap.size) (off := 0) (v := .pointer (some ⟨b, 0, none⟩)) b2 (by repeat (first | exact hc1 | refine cell_alloc0 ?_ _))
  have hne2 : w.heap.size ≠ w2.heap.size := by have := b2.size; simp at this; omega
  have hc2a := cell_alloc0 hc2 (.cells #[.int .i64 2, .int .u32 0, .int .i64 op, .int .i64 ta, .int .i64 tb] 68)
  obtain ⟨z0, z1, z2, z3, z4⟩ := five_cells (blk_new w2 (.cells #[.int .i64 2, .int .u32 0, .int .i64 op, .int .i64 ta, .int .i64 tb] 68))
  go_wp2_with fail
  refine (hKn _ (h2.alloc _)).mono ?_
  rintro r w3 ⟨rfl, b3⟩
  have h3 := (h2.alloc _).below b3
  have k3 := (k2.then_alloc _).then_below b3
  have hT3 := (hT2.alloc _).below b3
  have hc3 := cell_below b3 (cell_alloc0 hc2 _)
  have y3 := cell_below b3 z3
  have y3a := cell_alloc0 y3 (.cells #[.int .i64 27, .int .i64 36, .int .i64 35, .int .i64 32] 3)
  have y3b := cell_alloc0 y3a (.cells #[.int .i64 29, .int .i64 33, .int .i64 34] 3)
  have hc3a := cell_alloc0 hc3 (.cells #[.int .i64 27, .int .i64 36, .int .i64 35, .int .i64 32] 3)
  have hc3b := cell_alloc0 hc3a (.cells #[.int .i64 29, .int .i64 33, .int .i64 34] 3)
  clear z0 z1 z2 z3 z4 hc2 hc2a hne2 hT2 h2 b2
  go_wp2_with (first
    | (go_at_call 98; (with_reducible refine (among4 _ _ _ _ _ (g := _) (w := _) (hg := by simp)).mono ?_); rintro r w' ⟨rfl, rfl⟩)
    | (go_at_call 110; (with_reducible refine (shift_any _ _).mono ?_); rintro r w' ⟨rfl, rfl⟩)
    | (go_at_call 110; (with_reducible refine (hsh _).mono ?_); rintro r w' ⟨rfl, rfl⟩)
    | (go_at_call 42; (with_reducible refine (hDo _).mono ?_); rintro r w' ⟨rfl, rfl⟩)
    | fail)
  refine (const0_any K1 b ts (by omega) _ (by repeat (first | exact h3 | refine DagAt.alloc ?_ _))).mono ?_
  rintro r wz ⟨rfl, hz, kz⟩
  have kw := Kept.trans (K := K) (w := w) (by repeat (first | exact k3 | refine Kept.then_alloc ?_ _)) (kz.mono hKK)
  go_wp2_with fail
  go_ret2
  exact ⟨rfl, hz.mono hKK, kw⟩
set_option maxRecDepth 100000 in
set_option maxHeartbeats 1000000 in
theorem by_d1sg (f : Nat) (hM : MadeSpec f) (K : Nat → Prop) (b : Nat) (ts : List Term) (op x y v : Nat) (w : World) (h : DagAt K w b ts) (hG : Good ts) (hg : K 0) (hT : Tab w) (ho : (doW op 0 0).isSome = true) (hx : x < ts.length) (hl : ts.length + (f + 1) < 1000000000000) (hv : v < 4294967296) (hv1 : 1 < v) (hvm : v ≠ 4294967295) (hp : isPow v = false) (hop : (op = 29 ∨ op = 33 ∨ op = 34)) (h32 : v < 32) (t : Term) (ht : ts.getD x default = t) (hk : t.k ≠ 2) :
    Calls Tryz.prog 99 #[.pointer (some ⟨b, 0, none⟩), .int .i64 op, .int .i64 x, .int .i64 y, .int .u32 v] w (NonePost K b w ts) := by
  obtain ⟨K1, h1, hg1, hT1, hc1, hk1, hKK, k1⟩ := boxed K b ts w h hg hT
  have hmf := makeFunc_run
  have htz := tz32_any v hv
  have hone := and_pred hv hv1
  rw [hp] at hone
  have e0 : ((v : Int) == 0) = false := by simp; omega
  have e0' : ((v : Int) != 0) = true := by simp; omega
  have e1 : ((v : Int) == 1) = false := by simp; omega
  have em : ((v : Int) == 4294967295) = false := by simp; omega
  have l1 : (1 : Int) < v := by omega
  have sh : isShift op = true := by simp [isShift]; omega
  have m32 : ((v : Int) % 32 == 0) = false := by simp; omega
  have m33 : (v : Int) < 32 := by omega
  have m33' : ¬ (32 : Int) ≤ v := by omega
  have k0 : ((t.k : Int) != 2) = true := by simp; omega
  clear hG ho hT h hg
  clear hk
  go_enter Tryz.func99, Tryz.ntmps99
  go_wp2_with (first
    | (go_at_call 98; (with_reducible refine (among3 _ _ _ _ (g := _) (w := _) (hg := by simp)).mono ?_); rintro r w' ⟨rfl, rfl⟩)
    | (go_at_call 98; (with_reducible refine (among2 _ _ _ (g := _) (w := _) (hg := by simp)).mono ?_); rintro r w' ⟨rfl, rfl⟩)
    | (go_at_call 110; (with_reducible refine (shift_any _ _).mono ?_); rintro r w' ⟨rfl, rfl⟩)
    | (go_at_call 110; (with_reducible refine (hsh _).mono ?_); rintro r w' ⟨rfl, rfl⟩)
    | (go_at_call 109; (with_reducible refine (htz _ (by repeat (first | exact hT1 | refine Tab.alloc ?_ _))).mono ?_); rintro r w' ⟨rfl, rfl⟩)
    | fail)
  have hN : ∀ w, DagAt K1 w b ts → Calls Tryz.prog 34 #[.pointer (some ⟨b, 0, none⟩), .int .i64 x] w fun r w' => r = .returned (.tuple #[.agg #[.int .i64 t.k, .int .u32 t.v, .int .i64 t.op, .int .i64 t.a, .int .i64 t.b], .int .i64 0]) ∧ Below w.heap.size w w' := by
    intro w hw
    have hq := node_any K1 b x ts (by omega) hx w hw
    rw [ht] at hq
    exact hq
  clear ht
  refine (hN _ (by repeat (first | exact h1 | refine DagAt.alloc ?_ _))).mono ?_
  rintro r w2 ⟨rfl, b2⟩
  have h2 := DagAt.below (K := K1) (b := b) (ts := ts) (by repeat (first | exact h1 | refine DagAt.alloc ?_ _)) b2
  have k2 := Kept.then_below (K := K) (w := w) (by repeat (first | exact k1 | refine Kept.then_alloc ?_ _)) b2
  have hT2 := Tab.below (by repeat (first | exact hT1 | refine Tab.alloc ?_ _)) b2
  have hc2 := cell_below (b := w.heap.size) (off := 0) (v := .pointer (some ⟨b, 0, none⟩)) b2 (by repeat (first | exact hc1 | refine cell_alloc0 ?_ _))
  have hne2 : w.heap.size ≠ w2.heap.size := by have := b2.size; simp at this; omega
  have hc2a := cell_alloc0 hc2 (.cells #[.int .i64 t.k, .int .u32 t.v, .int .i64 t.op, .int .i64 t.a, .int .i64 t.b] 68)
  obtain ⟨z0, z1, z2, z3, z4⟩ := five_cells (blk_new w2 (.cells #[.int .i64 t.k, .int .u32 t.v, .int .i64 t.op, .int .i64 t.a, .int .i64 t.b] 68))
  go_wp2_with fail
  go_ret2
  exact ⟨rfl, (h2.alloc _).mono hKK, k2.then_alloc _⟩
set_option maxRecDepth 100000 in
set_option maxHeartbeats 1000000 in
theorem by_d2sg (f : Nat) (hM : MadeSpec f) (K : Nat → Prop) (b : Nat) (ts : List Term) (op x y v : Nat) (w : World) (h : DagAt K w b ts) (hG : Good ts) (hg : K 0) (hT : Tab w) (ho : (doW op 0 0).isSome = true) (hx : x < ts.length) (hl : ts.length + (f + 1) < 1000000000000) (hv : v < 4294967296) (hv1 : 1 < v) (hvm : v ≠ 4294967295) (hp : isPow v = false) (hop : (op = 29 ∨ op = 33 ∨ op = 34)) (h32 : v < 32) (u q ta tb : Nat) (ht : ts.getD x default = ⟨2, u, q, ta, tb⟩) (hko : q ≠ op) :
    Calls Tryz.prog 99 #[.pointer (some ⟨b, 0, none⟩), .int .i64 op, .int .i64 x, .int .i64 y, .int .u32 v] w (NonePost K b w ts) := by
  obtain ⟨K1, h1, hg1, hT1, hc1, hk1, hKK, k1⟩ := boxed K b ts w h hg hT
  have hmf := makeFunc_run
  have htz := tz32_any v hv
  have hone := and_pred hv hv1
  rw [hp] at hone
  have e0 : ((v : Int) == 0) = false := by simp; omega
  have e0' : ((v : Int) != 0) = true := by simp; omega
  have e1 : ((v : Int) == 1) = false := by simp; omega
  have em : ((v : Int) == 4294967295) = false := by simp; omega
  have l1 : (1 : Int) < v := by omega
  have sh : isShift op = true := by simp [isShift]; omega
  have m32 : ((v : Int) % 32 == 0) = false := by simp; omega
  have m33 : (v : Int) < 32 := by omega
  have m33' : ¬ (32 : Int) ≤ v := by omega
  have o0 : ((q : Int) != (op : Int)) = true := by simp; omega
  clear hG ho hT h hg
  clear hko
  go_enter Tryz.func99, Tryz.ntmps99
  go_wp2_with (first
    | (go_at_call 98; (with_reducible refine (among3 _ _ _ _ (g := _) (w := _) (hg := by simp)).mono ?_); rintro r w' ⟨rfl, rfl⟩)
    | (go_at_call 98; (with_reducible refine (among2 _ _ _ (g := _) (w := _) (hg := by simp)).mono ?_); rintro r w' ⟨rfl, rfl⟩)
    | (go_at_call 110; (with_reducible refine (shift_any _ _).mono ?_); rintro r w' ⟨rfl, rfl⟩)
    | (go_at_call 110; (with_reducible refine (hsh _).mono ?_); rintro r w' ⟨rfl, rfl⟩)
    | (go_at_call 109; (with_reducible refine (htz _ (by repeat (first | exact hT1 | refine Tab.alloc ?_ _))).mono ?_); rintro r w' ⟨rfl, rfl⟩)
    | fail)
  have hN : ∀ w, DagAt K1 w b ts → Calls Tryz.prog 34 #[.pointer (some ⟨b, 0, none⟩), .int .i64 x] w fun r w' => r = .returned (.tuple #[.agg #[.int .i64 2, .int .u32 u, .int .i64 q, .int .i64 ta, .int .i64 tb], .int .i64 0]) ∧ Below w.heap.size w w' := by
    intro w hw
    have hq := node_any K1 b x ts (by omega) hx w hw
    rw [ht] at hq
    exact hq
  clear ht
  refine (hN _ (by repeat (first | exact h1 | refine DagAt.alloc ?_ _))).mono ?_
  rintro r w2 ⟨rfl, b2⟩
  have h2 := DagAt.below (K := K1) (b := b) (ts := ts) (by repeat (first | exact h1 | refine DagAt.alloc ?_ _)) b2
  have k2 := Kept.then_below (K := K) (w := w) (by repeat (first | exact k1 | refine Kept.then_alloc ?_ _)) b2
  have hT2 := Tab.below (by repeat (first | exact hT1 | refine Tab.alloc ?_ _)) b2
  have hc2 := cell_below (b := w.heap.size) (off := 0) (v := .pointer (some ⟨b, 0, none⟩)) b2 (by repeat (first | exact hc1 | refine cell_alloc0 ?_ _))
  have hne2 : w.heap.size ≠ w2.heap.size := by have := b2.size; simp at this; omega
  have hc2a := cell_alloc0 hc2 (.cells #[.int .i64 2, .int .u32 u, .int .i64 q, .int .i64 ta, .int .i64 tb] 68)
  obtain ⟨z0, z1, z2, z3, z4⟩ := five_cells (blk_new w2 (.cells #[.int .i64 2, .int .u32 u, .int .i64 q, .int .i64 ta, .int .i64 tb] 68))
  go_wp2_with fail
  go_ret2
  exact ⟨rfl, (h2.alloc _).mono hKK, k2.then_alloc _⟩
set_option maxRecDepth 100000 in
set_option maxHeartbeats 1000000 in
theorem by_d3sg (f : Nat) (hM : MadeSpec f) (K : Nat → Prop) (b : Nat) (ts : List Term) (op x y v : Nat) (w : World) (h : DagAt K w b ts) (hG : Good ts) (hg : K 0) (hT : Tab w) (ho : (doW op 0 0).isSome = true) (hx : x < ts.length) (hl : ts.length + (f + 1) < 1000000000000) (hv : v < 4294967296) (hv1 : 1 < v) (hvm : v ≠ 4294967295) (hp : isPow v = false) (hop : (op = 29 ∨ op = 33 ∨ op = 34)) (h32 : v < 32) (ta tb : Nat) (ht : ts.getD x default = ⟨2, 0, op, ta, tb⟩) (htb : tb < ts.length) (hcb : isC ts tb = false) :
    Calls Tryz.prog 99 #[.pointer (some ⟨b, 0, none⟩), .int .i64 op, .int .i64 x, .int .i64 y, .int .u32 v] w (NonePost K b w ts) := by
  obtain ⟨K1, h1, hg1, hT1, hc1, hk1, hKK, k1⟩ := boxed K b ts w h hg hT
  have hmf := makeFunc_run
  have htz := tz32_any v hv
  have hone := and_pred hv hv1
  rw [hp] at hone
  have e0 : ((v : Int) == 0) = false := by simp; omega
  have e0' : ((v : Int) != 0) = true := by simp; omega
  have e1 : ((v : Int) == 1) = false := by simp; omega
  have em : ((v : Int) == 4294967295) = false := by simp; omega
  have l1 : (1 : Int) < v := by omega
  have sh : isShift op = true := by simp [isShift]; omega
  have m32 : ((v : Int) % 32 == 0) = false := by simp; omega
  have m33 : (v : Int) < 32 := by omega
  have m33' : ¬ (32 : Int) ≤ v := by omega
  have hKn := fun w => known_any K1 b tb ts (by omega) htb w
  rw [hcb] at hKn
  clear hcb
  clear hG ho hT h hg
  go_enter Tryz.func99, Tryz.ntmps99
  go_wp2_with (first
    | (go_at_call 98; (with_reducible refine (among3 _ _ _ _ (g := _) (w := _) (hg := by simp)).mono ?_); rintro r w' ⟨rfl, rfl⟩)
    | (go_at_call 98; (with_reducible refine (among2 _ _ _ (g := _) (w := _) (hg := by simp)).mono ?_); rintro r w' ⟨rfl, rfl⟩)
    | (go_at_call 110; (with_reducible refine (shift_any _ _).mono ?_); rintro r w' ⟨rfl, rfl⟩)
    | (go_at_call 110; (with_reducible refine (hsh _).mono ?_); rintro r w' ⟨rfl, rfl⟩)
    | (go_at_call 109; (with_reducible refine (htz _ (by repeat (first | exact hT1 | refine Tab.alloc ?_ _))).mono ?_); rintro r w' ⟨rfl, rfl⟩)
    | fail)
  have hN : ∀ w, DagAt K1 w b ts → Calls Tryz.prog 34 #[.pointer (some ⟨b, 0, none⟩), .int .i64 x] w fun r w' => r = .returned (.tuple #[.agg #[.int .i64 2, .int .u32 0, .int .i64 op, .int .i64 ta, .int .i64 tb], .int .i64 0]) ∧ Below w.heap.size w w' := by
    intro w hw
    have hq := node_any K1 b x ts (by omega) hx w hw
    rw [ht] at hq
    exact hq
  clear ht
  refine (hN _ (by repeat (first | exact h1 | refine DagAt.alloc ?_ _))).mono ?_
  rintro r w2 ⟨rfl, b2⟩
  have h2 := DagAt.below (K := K1) (b := b) (ts := ts) (by repeat (first | exact h1 | refine DagAt.alloc ?_ _)) b2
  have k2 := Kept.then_below (K := K) (w := w) (by repeat (first | exact k1 | refine Kept.then_alloc ?_ _)) b2
  have hT2 := Tab.below (by repeat (first | exact hT1 | refine Tab.alloc ?_ _)) b2
  have hc2 := cell_below (b := w.heap.size) (off := 0) (v := .pointer (some ⟨b, 0, none⟩)) b2 (by repeat (first | exact hc1 | refine cell_alloc0 ?_ _))
  have hne2 : w.heap.size ≠ w2.heap.size := by have := b2.size; simp at this; omega
  have hc2a := cell_alloc0 hc2 (.cells #[.int .i64 2, .int .u32 0, .int .i64 op, .int .i64 ta, .int .i64 tb] 68)
  obtain ⟨z0, z1, z2, z3, z4⟩ := five_cells (blk_new w2 (.cells #[.int .i64 2, .int .u32 0, .int .i64 op, .int .i64 ta, .int .i64 tb] 68))
  go_wp2_with fail
  refine (hKn _ (h2.alloc _)).mono ?_
  rintro r w3 ⟨rfl, b3⟩
  have h3 := (h2.alloc _).below b3
  have k3 := (k2.then_alloc _).then_below b3
  have hT3 := (hT2.alloc _).below b3
  have hc3 := cell_below b3 (cell_alloc0 hc2 _)
  have y3 := cell_below b3 z3
  have y3a := cell_alloc0 y3 (.cells #[.int .i64 27, .int .i64 36, .int .i64 35, .int .i64 32] 3)
  have y3b := cell_alloc0 y3a (.cells #[.int .i64 29, .int .i64 33, .int .i64 34] 3)
  have hc3a := cell_alloc0 hc3 (.cells #[.int .i64 27, .int .i64 36, .int .i64 35, .int .i64 32] 3)
  have hc3b := cell_alloc0 hc3a (.cells #[.int .i64 29, .int .i64 33, .int .i64 34] 3)
  clear z0 z1 z2 z3 z4 hc2 hc2a hne2 hT2 h2 b2
  go_wp2_with fail
  go_ret2
  exact ⟨rfl, DagAt.mono (by repeat (first | exact h3 | refine DagAt.alloc ?_ _)) hKK, (by repeat (first | exact k3 | refine Kept.then_alloc ?_ _))⟩
set_option maxRecDepth 100000 in
set_option maxHeartbeats 1000000 in
theorem by_s1sg (f : Nat) (hM : MadeSpec f) (K : Nat → Prop) (b : Nat) (ts : List Term) (op x y v : Nat) (w : World) (h : DagAt K w b ts) (hG : Good ts) (hg : K 0) (hT : Tab w) (ho : (doW op 0 0).isSome = true) (hx : x < ts.length) (hl : ts.length + (f + 1) < 1000000000000) (hv : v < 4294967296) (hv1 : 1 < v) (hvm : v ≠ 4294967295) (hp : isPow v = false) (hop : (op = 29 ∨ op = 33 ∨ op = 34)) (h32 : v < 32) (ta tb : Nat) (ht : ts.getD x default = ⟨2, 0, op, ta, tb⟩) (htb : tb < ts.length) (hcb : isC ts tb = true) (hq : wd ts tb < 1) :
    Calls Tryz.prog 99 #[.pointer (some ⟨b, 0, none⟩), .int .i64 op, .int .i64 x, .int .i64 y, .int .u32 v] w (NonePost K b w ts) := by
  obtain ⟨K1, h1, hg1, hT1, hc1, hk1, hKK, k1⟩ := boxed K b ts w h hg hT
  have hmf := makeFunc_run
  have htz := tz32_any v hv
  have hone := and_pred hv hv1
  rw [hp] at hone
  have e0 : ((v : Int) == 0) = false := by simp; omega
  have e0' : ((v : Int) != 0) = true := by simp; omega
  have e1 : ((v : Int) == 1) = false := by simp; omega
  have em : ((v : Int) == 4294967295) = false := by simp; omega
  have l1 : (1 : Int) < v := by omega
  have sh : isShift op = true := by simp [isShift]; omega
  have m32 : ((v : Int) % 32 == 0) = false := by simp; omega
  have m33 : (v : Int) < 32 := by omega
  have m33' : ¬ (32 : Int) ≤ v := by omega
  have hKn := fun w => known_any K1 b tb ts (by omega) htb w
  rw [hcb] at hKn
  clear hcb
  have a4 : hasI (op : Int) [27, 36, 35, 32] = false := by simp [hasI]; omega
  have q1 : (wd ts tb : Int) < 1 := by omega
  clear hG ho hT h hg
  go_enter Tryz.func99, Tryz.ntmps99
  go_wp2_with (first
    | (go_at_call 98; (with_reducible refine (among3 _ _ _ _ (g := _) (w := _) (hg := by simp)).mono ?_); rintro r w' ⟨rfl, rfl⟩)
    | (go_at_call 98; (with_reducible refine (among2 _ _ _ (g := _) (w := _) (hg := by simp)).mono ?_); rintro r w' ⟨rfl, rfl⟩)
    | (go_at_call 110; (with_reducible refine (shift_any _ _).mono ?_); rintro r w' ⟨rfl, rfl⟩)
    | (go_at_call 110; (with_reducible refine (hsh _).mono ?_); rintro r w' ⟨rfl, rfl⟩)
    | (go_at_call 109; (with_reducible refine (htz _ (by repeat (first | exact hT1 | refine Tab.alloc ?_ _))).mono ?_); rintro r w' ⟨rfl, rfl⟩)
    | fail)
  have hN : ∀ w, DagAt K1 w b ts → Calls Tryz.prog 34 #[.pointer (some ⟨b, 0, none⟩), .int .i64 x] w fun r w' => r = .returned (.tuple #[.agg #[.int .i64 2, .int .u32 0, .int .i64 op, .int .i64 ta, .int .i64 tb], .int .i64 0]) ∧ Below w.heap.size w w' := by
    intro w hw
    have hq := node_any K1 b x ts (by omega) hx w hw
    rw [ht] at hq
    exact hq
  clear ht
  refine (hN _ (by repeat (first | exact h1 | refine DagAt.alloc ?_ _))).mono ?_
  rintro r w2 ⟨rfl, b2⟩
  have h2 := DagAt.below (K := K1) (b := b) (ts := ts) (by repeat (first | exact h1 | refine DagAt.alloc ?_ _)) b2
  have k2 := Kept.then_below (K := K) (w := w) (by repeat (first | exact k1 | refine Kept.then_alloc ?_ _)) b2
  have hT2 := Tab.below (by repeat (first | exact hT1 | refine Tab.alloc ?_ _)) b2
  have hc2 := cell_below (b := w.heap.size) (off := 0) (v := .pointer (some ⟨b, 0, none⟩)) b2 (by repeat (first | exact hc1 | refine cell_alloc0 ?_ _))
  have hne2 : w.heap.size ≠ w2.heap.size := by have := b2.size; simp at this; omega
  have hc2a := cell_alloc0 hc2 (.cells #[.int .i64 2, .int .u32 0, .int .i64 op, .int .i64 ta, .int .i64 tb] 68)
  obtain ⟨z0, z1, z2, z3, z4⟩ := five_cells (blk_new w2 (.cells #[.int .i64 2, .int .u32 0, .int .i64 op, .int .i64 ta, .int .i64 tb] 68))
  go_wp2_with fail
  refine (hKn _ (h2.alloc _)).mono ?_
  rintro r w3 ⟨rfl, b3⟩
  have h3 := (h2.alloc _).below b3
  have k3 := (k2.then_alloc _).then_below b3
  have hT3 := (hT2.alloc _).below b3
  have hc3 := cell_below b3 (cell_alloc0 hc2 _)
  have y3 := cell_below b3 z3
  have y3a := cell_alloc0 y3 (.cells #[.int .i64 27, .int .i64 36, .int .i64 35, .int .i64 32] 3)
  have y3b := cell_alloc0 y3a (.cells #[.int .i64 29, .int .i64 33, .int .i64 34] 3)
  have hc3a := cell_alloc0 hc3 (.cells #[.int .i64 27, .int .i64 36, .int .i64 35, .int .i64 32] 3)
  have hc3b := cell_alloc0 hc3a (.cells #[.int .i64 29, .int .i64 33, .int .i64 34] 3)
  clear z0 z1 z2 z3 z4 hc2 hc2a hne2 hT2 h2 b2
  go_wp2_with (first
    | (go_at_call 98; (with_reducible refine (among4 _ _ _ _ _ (g := _) (w := _) (hg := by simp)).mono ?_); rintro r w' ⟨rfl, rfl⟩)
    | (go_at_call 110; (with_reducible refine (shift_any _ _).mono ?_); rintro r w' ⟨rfl, rfl⟩)
    | (go_at_call 110; (with_reducible refine (hsh _).mono ?_); rintro r w' ⟨rfl, rfl⟩)
    | (go_at_call 42; (with_reducible refine (hDo _).mono ?_); rintro r w' ⟨rfl, rfl⟩)
    | fail)
  go_ret2
  exact ⟨rfl, DagAt.mono (by repeat (first | exact h3 | refine DagAt.alloc ?_ _)) hKK, (by repeat (first | exact k3 | refine Kept.then_alloc ?_ _))⟩
set_option maxRecDepth 100000 in
set_option maxHeartbeats 1000000 in
theorem by_s2sg (f : Nat) (hM : MadeSpec f) (K : Nat → Prop) (b : Nat) (ts : List Term) (op x y v : Nat) (w : World) (h : DagAt K w b ts) (hG : Good ts) (hg : K 0) (hT : Tab w) (ho : (doW op 0 0).isSome = true) (hx : x < ts.length) (hl : ts.length + (f + 1) < 1000000000000) (hv : v < 4294967296) (hv1 : 1 < v) (hvm : v ≠ 4294967295) (hp : isPow v = false) (hop : (op = 29 ∨ op = 33 ∨ op = 34)) (h32 : v < 32) (ta tb : Nat) (ht : ts.getD x default = ⟨2, 0, op, ta, tb⟩) (htb : tb < ts.length) (hcb : isC ts tb = true) (hq : 32 ≤ wd ts tb) (hqm : wd ts tb < 4294967296) :
    Calls Tryz.prog 99 #[.pointer (some ⟨b, 0, none⟩), .int .i64 op, .int .i64 x, .int .i64 y, .int .u32 v] w (NonePost K b w ts) := by
  obtain ⟨K1, h1, hg1, hT1, hc1, hk1, hKK, k1⟩ := boxed K b ts w h hg hT
  have hmf := makeFunc_run
  have htz := tz32_any v hv
  have hone := and_pred hv hv1
  rw [hp] at hone
  have e0 : ((v : Int) == 0) = false := by simp; omega
  have e0' : ((v : Int) != 0) = true := by simp; omega
  have e1 : ((v : Int) == 1) = false := by simp; omega
  have em : ((v : Int) == 4294967295) = false := by simp; omega
  have l1 : (1 : Int) < v := by omega
  have sh : isShift op = true := by simp [isShift]; omega
  have m32 : ((v : Int) % 32 == 0) = false := by simp; omega
  have m33 : (v : Int) < 32 := by omega
  have m33' : ¬ (32 : Int) ≤ v := by omega
  have hKn := fun w => known_any K1 b tb ts (by omega) htb w
  rw [hcb] at hKn
  clear hcb
  have a4 : hasI (op : Int) [27, 36, 35, 32] = false := by simp [hasI]; omega
  have q1 : (1 : Int) ≤ (wd ts tb : Int) := by omega
  have q1' : ¬ (wd ts tb : Int) < 1 := by omega
  have q2 : (32 : Int) ≤ (wd ts tb : Int) := by omega
  clear hG ho hT h hg
  go_enter Tryz.func99, Tryz.ntmps99
  go_wp2_with (first
    | (go_at_call 98; (with_reducible refine (among3 _ _ _ _ (g := _) (w := _) (hg := by simp)).mono ?_); rintro r w' ⟨rfl, rfl⟩)
    | (go_at_call 98; (with_reducible refine (among2 _ _ _ (g := _) (w := _) (hg := by simp)).mono ?_); rintro r w' ⟨rfl, rfl⟩)
    | (go_at_call 110; (with_reducible refine (shift_any _ _).mono ?_); rintro r w' ⟨rfl, rfl⟩)
    | (go_at_call 110; (with_reducible refine (hsh _).mono ?_); rintro r w' ⟨rfl, rfl⟩)
    | (go_at_call 109; (with_reducible refine (htz _ (by repeat (first | exact hT1 | refine Tab.alloc ?_ _))).mono ?_); rintro r w' ⟨rfl, rfl⟩)
    | fail)
  have hN : ∀ w, DagAt K1 w b ts → Calls Tryz.prog 34 #[.pointer (some ⟨b, 0, none⟩), .int .i64 x] w fun r w' => r = .returned (.tuple #[.agg #[.int .i64 2, .int .u32 0, .int .i64 op, .int .i64 ta, .int .i64 tb], .int .i64 0]) ∧ Below w.heap.size w w' := by
    intro w hw
    have hq := node_any K1 b x ts (by omega) hx w hw
    rw [ht] at hq
    exact hq
  clear ht
  refine (hN _ (by repeat (first | exact h1 | refine DagAt.alloc ?_ _))).mono ?_
  rintro r w2 ⟨rfl, b2⟩
  have h2 := DagAt.below (K := K1) (b := b) (ts := ts) (by repeat (first | exact h1 | refine DagAt.alloc ?_ _)) b2
  have k2 := Kept.then_below (K := K) (w := w) (by repeat (first | exact k1 | refine Kept.then_alloc ?_ _)) b2
  have hT2 := Tab.below (by repeat (first | exact hT1 | refine Tab.alloc ?_ _)) b2
  have hc2 := cell_below (b := w.heap.size) (off := 0) (v := .pointer (some ⟨b, 0, none⟩)) b2 (by repeat (first | exact hc1 | refine cell_alloc0 ?_ _))
  have hne2 : w.heap.size ≠ w2.heap.size := by have := b2.size; simp at this; omega
  have hc2a := cell_alloc0 hc2 (.cells #[.int .i64 2, .int .u32 0, .int .i64 op, .int .i64 ta, .int .i64 tb] 68)
  obtain ⟨z0, z1, z2, z3, z4⟩ := five_cells (blk_new w2 (.cells #[.int .i64 2, .int .u32 0, .int .i64 op, .int .i64 ta, .int .i64 tb] 68))
  go_wp2_with fail
  refine (hKn _ (h2.alloc _)).mono ?_
  rintro r w3 ⟨rfl, b3⟩
  have h3 := (h2.alloc _).below b3
  have k3 := (k2.then_alloc _).then_below b3
  have hT3 := (hT2.alloc _).below b3
  have hc3 := cell_below b3 (cell_alloc0 hc2 _)
  have y3 := cell_below b3 z3
  have y3a := cell_alloc0 y3 (.cells #[.int .i64 27, .int .i64 36, .int .i64 35, .int .i64 32] 3)
  have y3b := cell_alloc0 y3a (.cells #[.int .i64 29, .int .i64 33, .int .i64 34] 3)
  have hc3a := cell_alloc0 hc3 (.cells #[.int .i64 27, .int .i64 36, .int .i64 35, .int .i64 32] 3)
  have hc3b := cell_alloc0 hc3a (.cells #[.int .i64 29, .int .i64 33, .int .i64 34] 3)
  clear z0 z1 z2 z3 z4 hc2 hc2a hne2 hT2 h2 b2
  go_wp2_with (first
    | (go_at_call 98; (with_reducible refine (among4 _ _ _ _ _ (g := _) (w := _) (hg := by simp)).mono ?_); rintro r w' ⟨rfl, rfl⟩)
    | (go_at_call 110; (with_reducible refine (shift_any _ _).mono ?_); rintro r w' ⟨rfl, rfl⟩)
    | (go_at_call 110; (with_reducible refine (hsh _).mono ?_); rintro r w' ⟨rfl, rfl⟩)
    | (go_at_call 42; (with_reducible refine (hDo _).mono ?_); rintro r w' ⟨rfl, rfl⟩)
    | fail)
  go_ret2
  exact ⟨rfl, DagAt.mono (by repeat (first | exact h3 | refine DagAt.alloc ?_ _)) hKK, (by repeat (first | exact k3 | refine Kept.then_alloc ?_ _))⟩
set_option maxRecDepth 100000 in
set_option maxHeartbeats 1000000 in
theorem by_s3sg (f : Nat) (hM : MadeSpec f) (K : Nat → Prop) (b : Nat) (ts : List Term) (op x y v : Nat) (w : World) (h : DagAt K w b ts) (hG : Good ts) (hg : K 0) (hT : Tab w) (ho : (doW op 0 0).isSome = true) (hx : x < ts.length) (hl : ts.length + (f + 1) < 1000000000000) (hv : v < 4294967296) (hv1 : 1 < v) (hvm : v ≠ 4294967295) (hp : isPow v = false) (hop : (op = 29 ∨ op = 33 ∨ op = 34)) (h32 : v < 32) (ta tb : Nat) (ht : ts.getD x default = ⟨2, 0, op, ta, tb⟩) (htb : tb < ts.length) (hcb : isC ts tb = true) (hta : ta < ts.length) (hq : 1 ≤ wd ts tb) (hs : wd ts tb + v < 32) (hW : Went ts op x y (ins ts (constT (wd ts tb + v))) op ta (pos ts (constT (wd ts tb + v)))) (hm : mz ts op x y < f + 1) :
    Calls Tryz.prog 99 #[.pointer (some ⟨b, 0, none⟩), .int .i64 op, .int .i64 x, .int .i64 y, .int .u32 v] w (IsPost K b w (madeF f (ins ts (constT (wd ts tb + v))) op ta (pos ts (constT (wd ts tb + v))))) := by
  obtain ⟨K1, h1, hg1, hT1, hc1, hk1, hKK, k1⟩ := boxed K b ts w h hg hT
  have hmf := makeFunc_run
  have htz := tz32_any v hv
  have hone := and_pred hv hv1
  rw [hp] at hone
  have e0 : ((v : Int) == 0) = false := by simp; omega
  have e0' : ((v : Int) != 0) = true := by simp; omega
  have e1 : ((v : Int) == 1) = false := by simp; omega
  have em : ((v : Int) == 4294967295) = false := by simp; omega
  have l1 : (1 : Int) < v := by omega
  have sh : isShift op = true := by simp [isShift]; omega
  have m32 : ((v : Int) % 32 == 0) = false := by simp; omega
  have m33 : (v : Int) < 32 := by omega
  have m33' : ¬ (32 : Int) ≤ v := by omega
  have hKn := fun w => known_any K1 b tb ts (by omega) htb w
  rw [hcb] at hKn
  clear hcb
  have a4 : hasI (op : Int) [27, 36, 35, 32] = false := by simp [hasI]; omega
  have q1 : (1 : Int) ≤ (wd ts tb : Int) := by omega
  have q1' : ¬ (wd ts tb : Int) < 1 := by omega
  have q2 : (wd ts tb : Int) < 32 := by omega
  have q3 : (wd ts tb : Int) + v < 32 := by omega
  have hcast : (wd ts tb : Int) + v = ((wd ts tb + v : Nat) : Int) := by omega
  have HCAST := Lib.hid hcast
  clear hcast
  clear hT h hg
  go_enter Tryz.func99, Tryz.ntmps99
  go_wp2_with (first
    | (go_at_call 98; (with_reducible refine (among3 _ _ _ _ (g := _) (w := _) (hg := by simp)).mono ?_); rintro r w' ⟨rfl, rfl⟩)
    | (go_at_call 98; (with_reducible refine (among2 _ _ _ (g := _) (w := _) (hg := by simp)).mono ?_); rintro r w' ⟨rfl, rfl⟩)
    | (go_at_call 110; (with_reducible refine (shift_any _ _).mono ?_); rintro r w' ⟨rfl, rfl⟩)
    | (go_at_call 110; (with_reducible refine (hsh _).mono ?_); rintro r w' ⟨rfl, rfl⟩)
    | (go_at_call 109; (with_reducible refine (htz _ (by repeat (first | exact hT1 | refine Tab.alloc ?_ _))).mono ?_); rintro r w' ⟨rfl, rfl⟩)
    | fail)
  have hN : ∀ w, DagAt K1 w b ts → Calls Tryz.prog 34 #[.pointer (some ⟨b, 0, none⟩), .int .i64 x] w fun r w' => r = .returned (.tuple #[.agg #[.int .i64 2, .int .u32 0, .int .i64 op, .int .i64 ta, .int .i64 tb], .int .i64 0]) ∧ Below w.heap.size w w' := by
    intro w hw
    have hq := node_any K1 b x ts (by omega) hx w hw
    rw [ht] at hq
    exact hq
  clear ht
  refine (hN _ (by repeat (first | exact h1 | refine DagAt.alloc ?_ _))).mono ?_
  rintro r w2 ⟨rfl, b2⟩
  have h2 := DagAt.below (K := K1) (b := b) (ts := ts) (by repeat (first | exact h1 | refine DagAt.alloc ?_ _)) b2
  have k2 := Kept.then_below (K := K) (w := w) (by repeat (first | exact k1 | refine Kept.then_alloc ?_ _)) b2
  have hT2 := Tab.below (by repeat (first | exact hT1 | refine Tab.alloc ?_ _)) b2
  have hc2 := cell_below (b := w.heap.size) (off := 0) (v := .pointer (some ⟨b, 0, none⟩)) b2 (by repeat (first | exact hc1 | refine cell_alloc0 ?_ _))
  have hne2 : w.heap.size ≠ w2.heap.size := by have := b2.size; simp at this; omega
  have hc2a := cell_alloc0 hc2 (.cells #[.int .i64 2, .int .u32 0, .int .i64 op, .int .i64 ta, .int .i64 tb] 68)
  obtain ⟨z0, z1, z2, z3, z4⟩ := five_cells (blk_new w2 (.cells #[.int .i64 2, .int .u32 0, .int .i64 op, .int .i64 ta, .int .i64 tb] 68))
  go_wp2_with fail
  refine (hKn _ (h2.alloc _)).mono ?_
  rintro r w3 ⟨rfl, b3⟩
  have h3 := (h2.alloc _).below b3
  have k3 := (k2.then_alloc _).then_below b3
  have hT3 := (hT2.alloc _).below b3
  have hc3 := cell_below b3 (cell_alloc0 hc2 _)
  have y3 := cell_below b3 z3
  have y3a := cell_alloc0 y3 (.cells #[.int .i64 27, .int .i64 36, .int .i64 35, .int .i64 32] 3)
  have y3b := cell_alloc0 y3a (.cells #[.int .i64 29, .int .i64 33, .int .i64 34] 3)
  have hc3a := cell_alloc0 hc3 (.cells #[.int .i64 27, .int .i64 36, .int .i64 35, .int .i64 32] 3)
  have hc3b := cell_alloc0 hc3a (.cells #[.int .i64 29, .int .i64 33, .int .i64 34] 3)
  clear z0 z1 z2 z3 z4 hc2 hc2a hne2 hT2 h2 b2
  go_wp2_with (first
    | (go_at_call 98; (with_reducible refine (among4 _ _ _ _ _ (g := _) (w := _) (hg := by simp)).mono ?_); rintro r w' ⟨rfl, rfl⟩)
    | (go_at_call 110; (with_reducible refine (shift_any _ _).mono ?_); rintro r w' ⟨rfl, rfl⟩)
    | (go_at_call 110; (with_reducible refine (hsh _).mono ?_); rintro r w' ⟨rfl, rfl⟩)
    | (go_at_call 42; (with_reducible refine (hDo _).mono ?_); rintro r w' ⟨rfl, rfl⟩)
    | fail)
  rw [HCAST.out]
  refine (goes_any f hM K1 b w.heap.size ts op ta (wd ts tb + v) _ (by repeat (first | exact h3 | refine DagAt.alloc ?_ _)) hW.good hg1 (by repeat (first | exact hT3 | refine Tab.alloc ?_ _)) hW.ok hta (by omega) (by have := hW.less; omega) hl hk1 (by repeat (first | exact hc3 | refine cell_alloc0 ?_ _))).mono ?_
  rintro r wz ⟨rfl, hz, kz⟩
  have kw := Kept.trans (K := K) (w := w) (by repeat (first | exact k3 | refine Kept.then_alloc ?_ _)) (kz.mono hKK)
  go_wp2_with fail
  go_ret2
  exact ⟨rfl, hz.mono hKK, kw⟩
set_option maxRecDepth 100000 in
set_option maxHeartbeats 1000000 in
theorem by_s4sg (f : Nat) (hM : MadeSpec f) (K : Nat → Prop) (b : Nat) (ts : List Term) (op x y v : Nat) (w : World) (h : DagAt K w b ts) (hG : Good ts) (hg : K 0) (hT : Tab w) (ho : (doW op 0 0).isSome = true) (hx : x < ts.length) (hl : ts.length + (f + 1) < 1000000000000) (hv : v < 4294967296) (hv1 : 1 < v) (hvm : v ≠ 4294967295) (hp : isPow v = false) (hop : (op = 29 ∨ op = 33 ∨ op = 34)) (h32 : v < 32) (ta tb : Nat) (ht : ts.getD x default = ⟨2, 0, op, ta, tb⟩) (htb : tb < ts.length) (hcb : isC ts tb = true) (hta : ta < ts.length) (hq : 1 ≤ wd ts tb) (hq2 : wd ts tb < 32) (hs : 32 ≤ wd ts tb + v) (h34 : op = 34) (hW : Went ts op x y (ins ts (constT 31)) op ta (pos ts (constT 31))) (hm : mz ts op x y < f + 1) :
    Calls Tryz.prog 99 #[.pointer (some ⟨b, 0, none⟩), .int .i64 op, .int .i64 x, .int .i64 y, .int .u32 v] w (IsPost K b w (madeF f (ins ts (constT 31)) op ta (pos ts (constT 31)))) := by
  obtain ⟨K1, h1, hg1, hT1, hc1, hk1, hKK, k1⟩ := boxed K b ts w h hg hT
  have hmf := makeFunc_run
  have htz := tz32_any v hv
  have hone := and_pred hv hv1
  rw [hp] at hone
  have e0 : ((v : Int) == 0) = false := by simp; omega
  have e0' : ((v : Int) != 0) = true := by simp; omega
  have e1 : ((v : Int) == 1) = false := by simp; omega
  have em : ((v : Int) == 4294967295) = false := by simp; omega
  have l1 : (1 : Int) < v := by omega
  subst h34
  have hsh : ∀ w, Calls Tryz.prog 110 #[.int .i64 34] w fun e w' => e = .returned (.bool true) ∧ w.alloc (.cells #[.int .i64 29, .int .i64 33, .int .i64 34] 3) = w' := shift_any 34
  have m32 : ((v : Int) % 32 == 0) = false := by simp; omega
  have m33 : (v : Int) < 32 := by omega
  have m33' : ¬ (32 : Int) ≤ v := by omega
  have hKn := fun w => known_any K1 b tb ts (by omega) htb w
  rw [hcb] at hKn
  clear hcb
  have q1 : (1 : Int) ≤ (wd ts tb : Int) := by omega
  have q1' : ¬ (wd ts tb : Int) < 1 := by omega
  have q2 : (wd ts tb : Int) < 32 := by omega
  have q3 : 32 ≤ (wd ts tb : Int) + v := by omega
  have q3' : ¬ (wd ts tb : Int) + v < 32 := by omega

  have a4 : hasI 34 [27, 36, 35, 32] = false := by decide
  have aB : hasI 34 [37, 41, 42] = false := by decide
  have aD : hasI 34 [43, 44] = false := by decide
  clear hT h hg
  go_enter Tryz.func99, Tryz.ntmps99
  go_wp2_with (first
    | (go_at_call 98; (with_reducible refine (among3 _ _ _ _ (g := _) (w := _) (hg := by simp)).mono ?_); rintro r w' ⟨rfl, rfl⟩)
    | (go_at_call 98; (with_reducible refine (among2 _ _ _ (g := _) (w := _) (hg := by simp)).mono ?_); rintro r w' ⟨rfl, rfl⟩)
    | (go_at_call 110; (with_reducible refine (shift_any _ _).mono ?_); rintro r w' ⟨rfl, rfl⟩)
    | (go_at_call 110; (with_reducible refine (hsh _).mono ?_); rintro r w' ⟨rfl, rfl⟩)
    | (go_at_call 109; (with_reducible refine (htz _ (by repeat (first | exact hT1 | refine Tab.alloc ?_ _))).mono ?_); rintro r w' ⟨rfl, rfl⟩)
    | fail)
  have hN : ∀ w, DagAt K1 w b ts → Calls Tryz.prog 34 #[.pointer (some ⟨b, 0, none⟩), .int .i64 x] w fun r w' => r = .returned (.tuple #[.agg #[.int .i64 2, .int .u32 0, .int .i64 34, .int .i64 ta, .int .i64 tb], .int .i64 0]) ∧ Below w.heap.size w w' := by
    intro w hw
    have hq := node_any K1 b x ts (by omega) hx w hw
    rw [ht] at hq
    exact hq
  clear ht
  refine (hN _ (by repeat (first | exact h1 | refine DagAt.alloc ?_ _))).mono ?_
  rintro r w2 ⟨rfl, b2⟩
  have h2 := DagAt.below (K := K1) (b := b) (ts := ts) (by repeat (first | exact h1 | refine DagAt.alloc ?_ _)) b2
  have k2 := Kept.then_below (K := K) (w := w) (by repeat (first | exact k1 | refine Kept.then_alloc ?_ _)) b2
  have hT2 := Tab.below (by repeat (first | exact hT1 | refine Tab.alloc ?_ _)) b2
  have hc2 := cell_below (b := w.heap.size) (off := 0) (v := .pointer (some ⟨b, 0, none⟩)) b2 (by repeat (first | exact hc1 | refine cell_alloc0 ?_ _))
  have hne2 : w.heap.size ≠ w2.heap.size := by have := b2.size; simp at this; omega
  have hc2a := cell_alloc0 hc2 (.cells #[.int .i64 2, .int .u32 0, .int .i64 34, .int .i64 ta, .int .i64 tb] 68)
  obtain ⟨z0, z1, z2, z3, z4⟩ := five_cells (blk_new w2 (.cells #[.int .i64 2, .int .u32 0, .int .i64 34, .int .i64 ta, .int .i64 tb] 68))
  go_wp2_with fail
  refine (hKn _ (h2.alloc _)).mono ?_
  rintro r w3 ⟨rfl, b3⟩
  have h3 := (h2.alloc _).below b3
  have k3 := (k2.then_alloc _).then_below b3
  have hT3 := (hT2.alloc _).below b3
  have hc3 := cell_below b3 (cell_alloc0 hc2 _)
  have y3 := cell_below b3 z3
  have y3a := cell_alloc0 y3 (.cells #[.int .i64 27, .int .i64 36, .int .i64 35, .int .i64 32] 3)
  have y3b := cell_alloc0 y3a (.cells #[.int .i64 29, .int .i64 33, .int .i64 34] 3)
  have hc3a := cell_alloc0 hc3 (.cells #[.int .i64 27, .int .i64 36, .int .i64 35, .int .i64 32] 3)
  have hc3b := cell_alloc0 hc3a (.cells #[.int .i64 29, .int .i64 33, .int .i64 34] 3)
  clear z0 z1 z2 z3 z4 hc2 hc2a hne2 hT2 h2 b2
  go_wp2_with (first
    | (go_at_call 98; (with_reducible refine (among4 _ _ _ _ _ (g := _) (w := _) (hg := by simp)).mono ?_); rintro r w' ⟨rfl, rfl⟩)
    | (go_at_call 110; (with_reducible refine (shift_any _ _).mono ?_); rintro r w' ⟨rfl, rfl⟩)
    | (go_at_call 110; (with_reducible refine (hsh _).mono ?_); rintro r w' ⟨rfl, rfl⟩)
    | (go_at_call 42; (with_reducible refine (hDo _).mono ?_); rintro r w' ⟨rfl, rfl⟩)
    | fail)
  refine (goes_any f hM K1 b w.heap.size ts 34 ta 31 _ (by repeat (first | exact h3 | refine DagAt.alloc ?_ _)) hW.good hg1 (by repeat (first | exact hT3 | refine Tab.alloc ?_ _)) hW.ok hta (by omega) (by have := hW.less; omega) hl hk1 (by repeat (first | exact hc3 | refine cell_alloc0 ?_ _))).mono ?_
  rintro r wz ⟨rfl, hz, kz⟩
  have kw := Kept.trans (K := K) (w := w) (by repeat (first | exact k3 | refine Kept.then_alloc ?_ _)) (kz.mono hKK)
  go_wp2_with fail
  go_ret2
  exact ⟨rfl, hz.mono hKK, kw⟩
set_option maxRecDepth 100000 in
set_option maxHeartbeats 1000000 in
theorem by_s5sg (f : Nat) (hM : MadeSpec f) (K : Nat → Prop) (b : Nat) (ts : List Term) (op x y v : Nat) (w : World) (h : DagAt K w b ts) (hG : Good ts) (hg : K 0) (hT : Tab w) (ho : (doW op 0 0).isSome = true) (hx : x < ts.length) (hl : ts.length + (f + 1) < 1000000000000) (hv : v < 4294967296) (hv1 : 1 < v) (hvm : v ≠ 4294967295) (hp : isPow v = false) (hop : (op = 29 ∨ op = 33 ∨ op = 34)) (h32 : v < 32) (ta tb : Nat) (ht : ts.getD x default = ⟨2, 0, op, ta, tb⟩) (htb : tb < ts.length) (hcb : isC ts tb = true) (hq : 1 ≤ wd ts tb) (hq2 : wd ts tb < 32) (hs : 32 ≤ wd ts tb + v) (h34 : op ≠ 34) :
    Calls Tryz.prog 99 #[.pointer (some ⟨b, 0, none⟩), .int .i64 op, .int .i64 x, .int .i64 y, .int .u32 v] w (IsPost K b w (ins ts (constT 0), pos ts (constT 0))) := by
  obtain ⟨K1, h1, hg1, hT1, hc1, hk1, hKK, k1⟩ := boxed K b ts w h hg hT
  have hmf := makeFunc_run
  have htz := tz32_any v hv
  have hone := and_pred hv hv1
  rw [hp] at hone
  have e0 : ((v : Int) == 0) = false := by simp; omega
  have e0' : ((v : Int) != 0) = true := by simp; omega
  have e1 : ((v : Int) == 1) = false := by simp; omega
  have em : ((v : Int) == 4294967295) = false := by simp; omega
  have l1 : (1 : Int) < v := by omega
  have sh : isShift op = true := by simp [isShift]; omega
  have m32 : ((v : Int) % 32 == 0) = false := by simp; omega
  have m33 : (v : Int) < 32 := by omega
  have m33' : ¬ (32 : Int) ≤ v := by omega
  have hKn := fun w => known_any K1 b tb ts (by omega) htb w
  rw [hcb] at hKn
  clear hcb
  have a4 : hasI (op : Int) [27, 36, 35, 32] = false := by simp [hasI]; omega
  have q1 : (1 : Int) ≤ (wd ts tb : Int) := by omega
  have q1' : ¬ (wd ts tb : Int) < 1 := by omega
  have q2 : (wd ts tb : Int) < 32 := by omega
  have q3 : 32 ≤ (wd ts tb : Int) + v := by omega
  have q3' : ¬ (wd ts tb : Int) + v < 32 := by omega
  have y34 : ((op : Int) == 34) = false := by simp; omega
  clear hG ho hT h hg
  go_enter Tryz.func99, Tryz.ntmps99
  go_wp2_with (first
    | (go_at_call 98; (with_reducible refine (among3 _ _ _ _ (g := _) (w := _) (hg := by simp)).mono ?_); rintro r w' ⟨rfl, rfl⟩)
    | (go_at_call 98; (with_reducible refine (among2 _ _ _ (g := _) (w := _) (hg := by simp)).mono ?_); rintro r w' ⟨rfl, rfl⟩)
    | (go_at_call 110; (with_reducible refine (shift_any _ _).mono ?_); rintro r w' ⟨rfl, rfl⟩)
    | (go_at_call 110; (with_reducible refine (hsh _).mono ?_); rintro r w' ⟨rfl, rfl⟩)
    | (go_at_call 109; (with_reducible refine (htz _ (by repeat (first | exact hT1 | refine Tab.alloc ?_ _))).mono ?_); rintro r w' ⟨rfl, rfl⟩)
    | fail)
  have hN : ∀ w, DagAt K1 w b ts → Calls Tryz.prog 34 #[.pointer (some ⟨b, 0, none⟩), .int .i64 x] w fun r w' => r = .returned (.tuple #[.agg #[.int .i64 2, .int .u32 0, .int .i64 op, .int .i64 ta, .int .i64 tb], .int .i64 0]) ∧ Below w.heap.size w w' := by
    intro w hw
    have hq := node_any K1 b x ts (by omega) hx w hw
    rw [ht] at hq
    exact hq
  clear ht
  refine (hN _ (by repeat (first | exact h1 | refine DagAt.alloc ?_ _))).mono ?_
  rintro r w2 ⟨rfl, b2⟩
  have h2 := DagAt.below (K := K1) (b := b) (ts := ts) (by repeat (first | exact h1 | refine DagAt.alloc ?_ _)) b2
  have k2 := Kept.then_below (K := K) (w := w) (by repeat (first | exact k1 | refine Kept.then_alloc ?_ _)) b2
  have hT2 := Tab.below (by repeat (first | exact hT1 | refine Tab.alloc ?_ _)) b2
  have hc2 := cell_below (b := w.heap.size) (off := 0) (v := .pointer (some ⟨b, 0, none⟩)) b2 (by repeat (first | exact hc1 | refine cell_alloc0 ?_ _))
  have hne2 : w.heap.size ≠ w2.heap.size := by have := b2.size; simp at this; omega
  have hc2a := cell_alloc0 hc2 (.cells #[.int .i64 2, .int .u32 0, .int .i64 op, .int .i64 ta, .int .i64 tb] 68)
  obtain ⟨z0, z1, z2, z3, z4⟩ := five_cells (blk_new w2 (.cells #[.int .i64 2, .int .u32 0, .int .i64 op, .int .i64 ta, .int .i64 tb] 68))
  go_wp2_with fail
  refine (hKn _ (h2.alloc _)).mono ?_
  rintro r w3 ⟨rfl, b3⟩
  have h3 := (h2.alloc _).below b3
  have k3 := (k2.then_alloc _).then_below b3
  have hT3 := (hT2.alloc _).below b3
  have hc3 := cell_below b3 (cell_alloc0 hc2 _)
  have y3 := cell_below b3 z3
  have y3a := cell_alloc0 y3 (.cells #[.int .i64 27, .int .i64 36, .int .i64 35, .int .i64 32] 3)
  have y3b := cell_alloc0 y3a (.cells #[.int .i64 29, .int .i64 33, .int .i64 34] 3)
  have hc3a := cell_alloc0 hc3 (.cells #[.int .i64 27, .int .i64 36, .int .i64 35, .int .i64 32] 3)
  have hc3b := cell_alloc0 hc3a (.cells #[.int .i64 29, .int .i64 33, .int .i64 34] 3)
  clear z0 z1 z2 z3 z4 hc2 hc2a hne2 hT2 h2 b2
  go_wp2_with (first
    | (go_at_call 98; (with_reducible refine (among4 _ _ _ _ _ (g := _) (w := _) (hg := by simp)).mono ?_); rintro r w' ⟨rfl, rfl⟩)
    | (go_at_call 110; (with_reducible refine (shift_any _ _).mono ?_); rintro r w' ⟨rfl, rfl⟩)
    | (go_at_call 110; (with_reducible refine (hsh _).mono ?_); rintro r w' ⟨rfl, rfl⟩)
    | (go_at_call 42; (with_reducible refine (hDo _).mono ?_); rintro r w' ⟨rfl, rfl⟩)
    | fail)
  refine (const0_any K1 b ts (by omega) _ (by repeat (first | exact h3 | refine DagAt.alloc ?_ _))).mono ?_
  rintro r wz ⟨rfl, hz, kz⟩
  have kw := Kept.trans (K := K) (w := w) (by repeat (first | exact k3 | refine Kept.then_alloc ?_ _)) (kz.mono hKK)
  go_wp2_with fail
  go_ret2
  exact ⟨rfl, hz.mono hKK, kw⟩
set_option maxRecDepth 100000 in
set_option maxHeartbeats 1000000 in
theorem by_d1sp (f : Nat) (hM : MadeSpec f) (K : Nat → Prop) (b : Nat) (ts : List Term) (op x y v : Nat) (w : World) (h : DagAt K w b ts) (hG : Good ts) (hg : K 0) (hT : Tab w) (ho : (doW op 0 0).isSome = true) (hx : x < ts.length) (hl : ts.length + (f + 1) < 1000000000000) (hv : v < 4294967296) (hv1 : 1 < v) (hvm : v ≠ 4294967295) (hp : isPow v = true) (hop : (op = 29 ∨ op = 33 ∨ op = 34)) (h32 : v < 32) (t : Term) (ht : ts.getD x default = t) (hk : t.k ≠ 2) :
    Calls Tryz.prog 99 #[.pointer (some ⟨b, 0, none⟩), .int .i64 op, .int .i64 x, .int .i64 y, .int .u32 v] w (NonePost K b w ts) := by
  obtain ⟨K1, h1, hg1, hT1, hc1, hk1, hKK, k1⟩ := boxed K b ts w h hg hT
  have hmf := makeFunc_run
  have htz := tz32_any v hv
  have hone := and_pred hv hv1
  rw [hp] at hone
  have e0 : ((v : Int) == 0) = false := by simp; omega
  have e0' : ((v : Int) != 0) = true := by simp; omega
  have e1 : ((v : Int) == 1) = false := by simp; omega
  have em : ((v : Int) == 4294967295) = false := by simp; omega
  have l1 : (1 : Int) < v := by omega
  have sh : isShift op = true := by simp [isShift]; omega
  have m32 : ((v : Int) % 32 == 0) = false := by simp; omega
  have m33 : (v : Int) < 32 := by omega
  have m33' : ¬ (32 : Int) ≤ v := by omega
  have n37 : ((op : Int) == 37) = false := by simp; omega
  have n42 : ((op : Int) == 42) = false := by simp; omega
  have n44 : ((op : Int) == 44) = false := by simp; omega
  have k0 : ((t.k : Int) != 2) = true := by simp; omega
  clear hG ho hT h hg
  clear hk
  go_enter Tryz.func99, Tryz.ntmps99
  go_wp2_with (first
    | (go_at_call 98; (with_reducible refine (among3 _ _ _ _ (g := _) (w := _) (hg := by simp)).mono ?_); rintro r w' ⟨rfl, rfl⟩)
    | (go_at_call 98; (with_reducible refine (among2 _ _ _ (g := _) (w := _) (hg := by simp)).mono ?_); rintro r w' ⟨rfl, rfl⟩)
    | (go_at_call 110; (with_reducible refine (shift_any _ _).mono ?_); rintro r w' ⟨rfl, rfl⟩)
    | (go_at_call 110; (with_reducible refine (hsh _).mono ?_); rintro r w' ⟨rfl, rfl⟩)
    | (go_at_call 109; (with_reducible refine (htz _ (by repeat (first | exact hT1 | refine Tab.alloc ?_ _))).mono ?_); rintro r w' ⟨rfl, rfl⟩)
    | fail)
  have hN : ∀ w, DagAt K1 w b ts → Calls Tryz.prog 34 #[.pointer (some ⟨b, 0, none⟩), .int .i64 x] w fun r w' => r = .returned (.tuple #[.agg #[.int .i64 t.k, .int .u32 t.v, .int .i64 t.op, .int .i64 t.a, .int .i64 t.b], .int .i64 0]) ∧ Below w.heap.size w w' := by
    intro w hw
    have hq := node_any K1 b x ts (by omega) hx w hw
    rw [ht] at hq
    exact hq
  clear ht
  refine (hN _ (by repeat (first | exact h1 | refine DagAt.alloc ?_ _))).mono ?_
  rintro r w2 ⟨rfl, b2⟩
  have h2 := DagAt.below (K := K1) (b := b) (ts := ts) (by repeat (first | exact h1 | refine DagAt.alloc ?_ _)) b2
  have k2 := Kept.then_below (K := K) (w := w) (by repeat (first | exact k1 | refine Kept.then_alloc ?_ _)) b2
  have hT2 := Tab.below (by repeat (first | exact hT1 | refine Tab.alloc ?_ _)) b2
  have hc2 := cell_below (b := w.heap.size) (off := 0) (v := .pointer (some ⟨b, 0, none⟩)) b2 (by repeat (first | exact hc1 | refine cell_alloc0 ?_ _))
  have hne2 : w.heap.size ≠ w2.heap.size := by have := b2.size; simp at this; omega
  have hc2a := cell_alloc0 hc2 (.cells #[.int .i64 t.k, .int .u32 t.v, .int .i64 t.op, .int .i64 t.a, .int .i64 t.b] 68)
  obtain ⟨z0, z1, z2, z3, z4⟩ := five_cells (blk_new w2 (.cells #[.int .i64 t.k, .int .u32 t.v, .int .i64 t.op, .int .i64 t.a, .int .i64 t.b] 68))
  go_wp2_with fail
  go_ret2
  exact ⟨rfl, (h2.alloc _).mono hKK, k2.then_alloc _⟩
set_option maxRecDepth 100000 in
set_option maxHeartbeats 1000000 in
theorem by_d2sp (f : Nat) (hM : MadeSpec f) (K : Nat → Prop) (b : Nat) (ts : List Term) (op x y v : Nat) (w : World) (h : DagAt K w b ts) (hG : Good ts) (hg : K 0) (hT : Tab w) (ho : (doW op 0 0).isSome = true) (hx : x < ts.length) (hl : ts.length + (f + 1) < 1000000000000) (hv : v < 4294967296) (hv1 : 1 < v) (hvm : v ≠ 4294967295) (hp : isPow v = true) (hop : (op = 29 ∨ op = 33 ∨ op = 34)) (h32 : v < 32) (u q ta tb : Nat) (ht : ts.getD x default = ⟨2, u, q, ta, tb⟩) (hko : q ≠ op) :
    Calls Tryz.prog 99 #[.pointer (some ⟨b, 0, none⟩), .int .i64 op, .int .i64 x, .int .i64 y, .int .u32 v] w (NonePost K b w ts) := by
  obtain ⟨K1, h1, hg1, hT1, hc1, hk1, hKK, k1⟩ := boxed K b ts w h hg hT
  have hmf := makeFunc_run
  have htz := tz32_any v hv
  have hone := and_pred hv hv1
  rw [hp] at hone
  have e0 : ((v : Int) == 0) = false := by simp; omega
  have e0' : ((v : Int) != 0) = true := by simp; omega
  have e1 : ((v : Int) == 1) = false := by simp; omega
  have em : ((v : Int) == 4294967295) = false := by simp; omega
  have l1 : (1 : Int) < v := by omega
  have sh : isShift op = true := by simp [isShift]; omega
  have m32 : ((v : Int) % 32 == 0) = false := by simp; omega
  have m33 : (v : Int) < 32 := by omega
  have m33' : ¬ (32 : Int) ≤ v := by omega
  have n37 : ((op : Int) == 37) = false := by simp; omega
  have n42 : ((op : Int) == 42) = false := by simp; omega
  have n44 : ((op : Int) == 44) = false := by simp; omega
  have o0 : ((q : Int) != (op : Int)) = true := by simp; omega
  clear hG ho hT h hg
  clear hko
  go_enter Tryz.func99, Tryz.ntmps99
  go_wp2_with (first
    | (go_at_call 98; (with_reducible refine (among3 _ _ _ _ (g := _) (w := _) (hg := by simp)).mono ?_); rintro r w' ⟨rfl, rfl⟩)
    | (go_at_call 98; (with_reducible refine (among2 _ _ _ (g := _) (w := _) (hg := by simp)).mono ?_); rintro r w' ⟨rfl, rfl⟩)
    | (go_at_call 110; (with_reducible refine (shift_any _ _).mono ?_); rintro r w' ⟨rfl, rfl⟩)
    | (go_at_call 110; (with_reducible refine (hsh _).mono ?_); rintro r w' ⟨rfl, rfl⟩)
    | (go_at_call 109; (with_reducible refine (htz _ (by repeat (first | exact hT1 | refine Tab.alloc ?_ _))).mono ?_); rintro r w' ⟨rfl, rfl⟩)
    | fail)
  have hN : ∀ w, DagAt K1 w b ts → Calls Tryz.prog 34 #[.pointer (some ⟨b, 0, none⟩), .int .i64 x] w fun r w' => r = .returned (.tuple #[.agg #[.int .i64 2, .int .u32 u, .int .i64 q, .int .i64 ta, .int .i64 tb], .int .i64 0]) ∧ Below w.heap.size w w' := by
    intro w hw
    have hq := node_any K1 b x ts (by omega) hx w hw
    rw [ht] at hq
    exact hq
  clear ht
  refine (hN _ (by repeat (first | exact h1 | refine DagAt.alloc ?_ _))).mono ?_
  rintro r w2 ⟨rfl, b2⟩
  have h2 := DagAt.below (K := K1) (b := b) (ts := ts) (by repeat (first | exact h1 | refine DagAt.alloc ?_ _)) b2
  have k2 := Kept.then_below (K := K) (w := w) (by repeat (first | exact k1 | refine Kept.then_alloc ?_ _)) b2
  have hT2 := Tab.below (by repeat (first | exact hT1 | refine Tab.alloc ?_ _)) b2
  have hc2 := cell_below (b := w.heap.size) (off := 0) (v := .pointer (some ⟨b, 0, none⟩)) b2 (by repeat (first | exact hc1 | refine cell_alloc0 ?_ _))
  have hne2 : w.heap.size ≠ w2.heap.size := by have := b2.size; simp at this; omega
  have hc2a := cell_alloc0 hc2 (.cells #[.int .i64 2, .int .u32 u, .int .i64 q, .int .i64 ta, .int .i64 tb] 68)
  obtain ⟨z0, z1, z2, z3, z4⟩ := five_cells (blk_new w2 (.cells #[.int .i64 2, .int .u32 u, .int .i64 q, .int .i64 ta, .int .i64 tb] 68))
  go_wp2_with fail
  go_ret2
  exact ⟨rfl, (h2.alloc _).mono hKK, k2.then_alloc _⟩
set_option maxRecDepth 100000 in
set_option maxHeartbeats 1000000 in
theorem by_d3sp (f : Nat) (hM : MadeSpec f) (K : Nat → Prop) (b : Nat) (ts : List Term) (op x y v : Nat) (w : World) (h : DagAt K w b ts) (hG : Good ts) (hg : K 0) (hT : Tab w) (ho : (doW op 0 0).isSome = true) (hx : x < ts.length) (hl : ts.length + (f + 1) < 1000000000000) (hv : v < 4294967296) (hv1 : 1 < v) (hvm : v ≠ 4294967295) (hp : isPow v = true) (hop : (op = 29 ∨ op = 33 ∨ op = 34)) (h32 : v < 32) (ta tb : Nat) (ht : ts.getD x default = ⟨2, 0, op, ta, tb⟩) (htb : tb < ts.length) (hcb : isC ts tb = false) :
    Calls Tryz.prog 99 #[.pointer (some ⟨b, 0, none⟩), .int .i64 op, .int .i64 x, .int .i64 y, .int .u32 v] w (NonePost K b w ts) := by
  obtain ⟨K1, h1, hg1, hT1, hc1, hk1, hKK, k1⟩ := boxed K b ts w h hg hT
  have hmf := makeFunc_run
  have htz := tz32_any v hv
  have hone := and_pred hv hv1
  rw [hp] at hone
  have e0 : ((v : Int) == 0) = false := by simp; omega
  have e0' : ((v : Int) != 0) = true := by simp; omega
  have e1 : ((v : Int) == 1) = false := by simp; omega
  have em : ((v : Int) == 4294967295) = false := by simp; omega
  have l1 : (1 : Int) < v := by omega
  have sh : isShift op = true := by simp [isShift]; omega
  have m32 : ((v : Int) % 32 == 0) = false := by simp; omega
  have m33 : (v : Int) < 32 := by omega
  have m33' : ¬ (32 : Int) ≤ v := by omega
  have n37 : ((op : Int) == 37) = false := by simp; omega
  have n42 : ((op : Int) == 42) = false := by simp; omega
  have n44 : ((op : Int) == 44) = false := by simp; omega
  have hKn := fun w => known_any K1 b tb ts (by omega) htb w
  rw [hcb] at hKn
  clear hcb
  clear hG ho hT h hg
  go_enter Tryz.func99, Tryz.ntmps99
  go_wp2_with (first
    | (go_at_call 98; (with_reducible refine (among3 _ _ _ _ (g := _) (w := _) (hg := by simp)).mono ?_); rintro r w' ⟨rfl, rfl⟩)
    | (go_at_call 98; (with_reducible refine (among2 _ _ _ (g := _) (w := _) (hg := by simp)).mono ?_); rintro r w' ⟨rfl, rfl⟩)
    | (go_at_call 110; (with_reducible refine (shift_any _ _).mono ?_); rintro r w' ⟨rfl, rfl⟩)
    | (go_at_call 110; (with_reducible refine (hsh _).mono ?_); rintro r w' ⟨rfl, rfl⟩)
    | (go_at_call 109; (with_reducible refine (htz _ (by repeat (first | exact hT1 | refine Tab.alloc ?_ _))).mono ?_); rintro r w' ⟨rfl, rfl⟩)
    | fail)
  have hN : ∀ w, DagAt K1 w b ts → Calls Tryz.prog 34 #[.pointer (some ⟨b, 0, none⟩), .int .i64 x] w fun r w' => r = .returned (.tuple #[.agg #[.int .i64 2, .int .u32 0, .int .i64 op, .int .i64 ta, .int .i64 tb], .int .i64 0]) ∧ Below w.heap.size w w' := by
    intro w hw
    have hq := node_any K1 b x ts (by omega) hx w hw
    rw [ht] at hq
    exact hq
  clear ht
  refine (hN _ (by repeat (first | exact h1 | refine DagAt.alloc ?_ _))).mono ?_
  rintro r w2 ⟨rfl, b2⟩
  have h2 := DagAt.below (K := K1) (b := b) (ts := ts) (by repeat (first | exact h1 | refine DagAt.alloc ?_ _)) b2
  have k2 := Kept.then_below (K := K) (w := w) (by repeat (first | exact k1 | refine Kept.then_alloc ?_ _)) b2
  have hT2 := Tab.below (by repeat (first | exact hT1 | refine Tab.alloc ?_ _)) b2
  have hc2 := cell_below (b := w.heap.size) (off := 0) (v := .pointer (some ⟨b, 0, none⟩)) b2 (by repeat (first | exact hc1 | refine cell_alloc0 ?_ _))
  have hne2 : w.heap.size ≠ w2.heap.size := by have := b2.size; simp at this; omega
  have hc2a := cell_alloc0 hc2 (.cells #[.int .i64 2, .int .u32 0, .int .i64 op, .int .i64 ta, .int .i64 tb] 68)
  obtain ⟨z0, z1, z2, z3, z4⟩ := five_cells (blk_new w2 (.cells #[.int .i64 2, .int .u32 0, .int .i64 op, .int .i64 ta, .int .i64 tb] 68))
  go_wp2_with fail
  refine (hKn _ (h2.alloc _)).mono ?_
  rintro r w3 ⟨rfl, b3⟩
  have h3 := (h2.alloc _).below b3
  have k3 := (k2.then_alloc _).then_below b3
  have hT3 := (hT2.alloc _).below b3
  have hc3 := cell_below b3 (cell_alloc0 hc2 _)
  have y3 := cell_below b3 z3
  have y3a := cell_alloc0 y3 (.cells #[.int .i64 27, .int .i64 36, .int .i64 35, .int .i64 32] 3)
  have y3b := cell_alloc0 y3a (.cells #[.int .i64 29, .int .i64 33, .int .i64 34] 3)
  have hc3a := cell_alloc0 hc3 (.cells #[.int .i64 27, .int .i64 36, .int .i64 35, .int .i64 32] 3)
  have hc3b := cell_alloc0 hc3a (.cells #[.int .i64 29, .int .i64 33, .int .i64 34] 3)
  clear z0 z1 z2 z3 z4 hc2 hc2a hne2 hT2 h2 b2
  go_wp2_with fail
  go_ret2
  exact ⟨rfl, DagAt.mono (by repeat (first | exact h3 | refine DagAt.alloc ?_ _)) hKK, (by repeat (first | exact k3 | refine Kept.then_alloc ?_ _))⟩
set_option maxRecDepth 100000 in
set_option maxHeartbeats 1000000 in
theorem by_s1sp (f : Nat) (hM : MadeSpec f) (K : Nat → Prop) (b : Nat) (ts : List Term) (op x y v : Nat) (w : World) (h : DagAt K w b ts) (hG : Good ts) (hg : K 0) (hT : Tab w) (ho : (doW op 0 0).isSome = true) (hx : x < ts.length) (hl : ts.length + (f + 1) < 1000000000000) (hv : v < 4294967296) (hv1 : 1 < v) (hvm : v ≠ 4294967295) (hp : isPow v = true) (hop : (op = 29 ∨ op = 33 ∨ op = 34)) (h32 : v < 32) (ta tb : Nat) (ht : ts.getD x default = ⟨2, 0, op, ta, tb⟩) (htb : tb < ts.length) (hcb : isC ts tb = true) (hq : wd ts tb < 1) :
    Calls Tryz.prog 99 #[.pointer (some ⟨b, 0, none⟩), .int .i64 op, .int .i64 x, .int .i64 y, .int .u32 v] w (NonePost K b w ts) := by
  obtain ⟨K1, h1, hg1, hT1, hc1, hk1, hKK, k1⟩ := boxed K b ts w h hg hT
  have hmf := makeFunc_run
  have htz := tz32_any v hv
  have hone := and_pred hv hv1
  rw [hp] at hone
  have e0 : ((v : Int) == 0) = false := by simp; omega
  have e0' : ((v : Int) != 0) = true := by simp; omega
  have e1 : ((v : Int) == 1) = false := by simp; omega
  have em : ((v : Int) == 4294967295) = false := by simp; omega
  have l1 : (1 : Int) < v := by omega
  have sh : isShift op = true := by simp [isShift]; omega
  have m32 : ((v : Int) % 32 == 0) = false := by simp; omega
  have m33 : (v : Int) < 32 := by omega
  have m33' : ¬ (32 : Int) ≤ v := by omega
  have n37 : ((op : Int) == 37) = false := by simp; omega
  have n42 : ((op : Int) == 42) = false := by simp; omega
  have n44 : ((op : Int) == 44) = false := by simp; omega
  have hKn := fun w => known_any K1 b tb ts (by omega) htb w
  rw [hcb] at hKn
  clear hcb
  have a4 : hasI (op : Int) [27, 36, 35, 32] = false := by simp [hasI]; omega
  have q1 : (wd ts tb : Int) < 1 := by omega
  clear hG ho hT h hg
  go_enter Tryz.func99, Tryz.ntmps99
  go_wp2_with (first
    | (go_at_call 98; (with_reducible refine (among3 _ _ _ _ (g := _) (w := _) (hg := by simp)).mono ?_); rintro r w' ⟨rfl, rfl⟩)
    | (go_at_call 98; (with_reducible refine (among2 _ _ _ (g := _) (w := _) (hg := by simp)).mono ?_); rintro r w' ⟨rfl, rfl⟩)
    | (go_at_call 110; (with_reducible refine (shift_any _ _).mono ?_); rintro r w' ⟨rfl, rfl⟩)
    | (go_at_call 110; (with_reducible refine (hsh _).mono ?_); rintro r w' ⟨rfl, rfl⟩)
    | (go_at_call 109; (with_reducible refine (htz _ (by repeat (first | exact hT1 | refine Tab.alloc ?_ _))).mono ?_); rintro r w' ⟨rfl, rfl⟩)
    | fail)
  have hN : ∀ w, DagAt K1 w b ts → Calls Tryz.prog 34 #[.pointer (some ⟨b, 0, none⟩), .int .i64 x] w fun r w' => r = .returned (.tuple #[.agg #[.int .i64 2, .int .u32 0, .int .i64 op, .int .i64 ta, .int .i64 tb], .int .i64 0]) ∧ Below w.heap.size w w' := by
    intro w hw
    have hq := node_any K1 b x ts (by omega) hx w hw
    rw [ht] at hq
    exact hq
  clear ht
  refine (hN _ (by repeat (first | exact h1 | refine DagAt.alloc ?_ _))).mono ?_
  rintro r w2 ⟨rfl, b2⟩
  have h2 := DagAt.below (K := K1) (b := b) (ts := ts) (by repeat (first | exact h1 | refine DagAt.alloc ?_ _)) b2
  have k2 := Kept.then_below (K := K) (w := w) (by repeat (first | exact k1 | refine Kept.then_alloc ?_ _)) b2
  have hT2 := Tab.below (by repeat (first | exact hT1 | refine Tab.alloc ?_ _)) b2
  have hc2 := cell_below (b := w.heap.size) (off := 0) (v := .pointer (some ⟨b, 0, none⟩)) b2 (by repeat (first | exact hc1 | refine cell_alloc0 ?_ _))
  have hne2 : w.heap.size ≠ w2.heap.size := by have := b2.size; simp at this; omega
  have hc2a := cell_alloc0 hc2 (.cells #[.int .i64 2, .int .u32 0, .int .i64 op, .int .i64 ta, .int .i64 tb] 68)
  obtain ⟨z0, z1, z2, z3, z4⟩ := five_cells (blk_new w2 (.cells #[.int .i64 2, .int .u32 0, .int .i64 op, .int .i64 ta, .int .i64 tb] 68))
  go_wp2_with fail
  refine (hKn _ (h2.alloc _)).mono ?_
  rintro r w3 ⟨rfl, b3⟩
  have h3 := (h2.alloc _).below b3
  have k3 := (k2.then_alloc _).then_below b3
  have hT3 := (hT2.alloc _).below b3
  have hc3 := cell_below b3 (cell_alloc0 hc2 _)
  have y3 := cell_below b3 z3
  have y3a := cell_alloc0 y3 (.cells #[.int .i64 27, .int .i64 36, .int .i64 35, .int .i64 32] 3)
  have y3b := cell_alloc0 y3a (.cells #[.int .i64 29, .int .i64 33, .int .i64 34] 3)
  have hc3a := cell_alloc0 hc3 (.cells #[.int .i64 27, .int .i64 36, .int .i64 35, .int .i64 32] 3)
  have hc3b := cell_alloc0 hc3a (.cells #[.int .i64 29, .int .i64 33, .int .i64 34] 3)
  clear z0 z1 z2 z3 z4 hc2 hc2a hne2 hT2 h2 b2
  go_wp2_with (first
    | (go_at_call 98; (with_reducible refine (among4 _ _ _ _ _ (g := _) (w := _) (hg := by simp)).mono ?_); rintro r w' ⟨rfl, rfl⟩)
    | (go_at_call 110; (with_reducible refine (shift_any _ _).mono ?_); rintro r w' ⟨rfl, rfl⟩)
    | (go_at_call 110; (with_reducible refine (hsh _).mono ?_); rintro r w' ⟨rfl, rfl⟩)
    | (go_at_call 42; (with_reducible refine (hDo _).mono ?_); rintro r w' ⟨rfl, rfl⟩)
    | fail)
  go_ret2
  exact ⟨rfl, DagAt.mono (by repeat (first | exact h3 | refine DagAt.alloc ?_ _)) hKK, (by repeat (first | exact k3 | refine Kept.then_alloc ?_ _))⟩
set_option maxRecDepth 100000 in
set_option maxHeartbeats 1000000 in
theorem by_s2sp (f : Nat) (hM : MadeSpec f) (K : Nat → Prop) (b : Nat) (ts : List Term) (op x y v : Nat) (w : World) (h : DagAt K w b ts) (hG : Good ts) (hg : K 0) (hT : Tab w) (ho : (doW op 0 0).isSome = true) (hx : x < ts.length) (hl : ts.length + (f + 1) < 1000000000000) (hv : v < 4294967296) (hv1 : 1 < v) (hvm : v ≠ 4294967295) (hp : isPow v = true) (hop : (op = 29 ∨ op = 33 ∨ op = 34)) (h32 : v < 32) (ta tb : Nat) (ht : ts.getD x default = ⟨2, 0, op, ta, tb⟩) (htb : tb < ts.length) (hcb : isC ts tb = true) (hq : 32 ≤ wd ts tb) (hqm : wd ts tb < 4294967296) :
    Calls Tryz.prog 99 #[.pointer (some ⟨b, 0, none⟩), .int .i64 op, .int .i64 x, .int .i64 y, .int .u32 v] w (NonePost K b w ts) := by
  obtain ⟨K1, h1, hg1, hT1, hc1, hk1, hKK, k1⟩ := boxed K b ts w h hg hT
  have hmf := makeFunc_run
  have htz := tz32_any v hv
  have hone := and_pred hv hv1
  rw [hp] at hone
  have e0 : ((v : Int) == 0) = false := by simp; omega
  have e0' : ((v : Int) != 0) = true := by simp; omega
  have e1 : ((v : Int) == 1) = false := by simp; omega
  have em : ((v : Int) == 4294967295) = false := by simp; omega
  have l1 : (1 : Int) < v := by omega
  have sh : isShift op = true := by simp [isShift]; omega
  have m32 : ((v : Int) % 32 == 0) = false := by simp; omega
  have m33 : (v : Int) < 32 := by omega
  have m33' : ¬ (32 : Int) ≤ v := by omega
  have n37 : ((op : Int) == 37) = false := by simp; omega
  have n42 : ((op : Int) == 42) = false := by simp; omega
  have n44 : ((op : Int) == 44) = false := by simp; omega
  have hKn := fun w => known_any K1 b tb ts (by omega) htb w
  rw [hcb] at hKn
  clear hcb
  have a4 : hasI (op : Int) [27, 36, 35, 32] = false := by simp [hasI]; omega
  have q1 : (1 : Int) ≤ (wd ts tb : Int) := by omega
  have q1' : ¬ (wd ts tb : Int) < 1 := by omega
  have q2 : (32 : Int) ≤ (wd ts tb : Int) := by omega
  clear hG ho hT h hg
  go_enter Tryz.func99, Tryz.ntmps99
  go_wp2_with (first
    | (go_at_call 98; (with_reducible refine (among3 _ _ _ _ (g := _) (w := _) (hg := by simp)).mono ?_); rintro r w' ⟨rfl, rfl⟩)
    | (go_at_call 98; (with_reducible refine (among2 _ _ _ (g := _) (w := _) (hg := by simp)).mono ?_); rintro r w' ⟨rfl, rfl⟩)
    | (go_at_call 110; (with_reducible refine (shift_any _ _).mono ?_); rintro r w' ⟨rfl, rfl⟩)
    | (go_at_call 110; (with_reducible refine (hsh _).mono ?_); rintro r w' ⟨rfl, rfl⟩)
    | (go_at_call 109; (with_reducible refine (htz _ (by repeat (first | exact hT1 | refine Tab.alloc ?_ _))).mono ?_); rintro r w' ⟨rfl, rfl⟩)
    | fail)
  have hN : ∀ w, DagAt K1 w b ts → Calls Tryz.prog 34 #[.pointer (some ⟨b, 0, none⟩), .int .i64 x] w fun r w' => r = .returned (.tuple #[.agg #[.int .i64 2, .int .u32 0, .int .i64 op, .int .i64 ta, .int .i64 tb], .int .i64 0]) ∧ Below w.heap.size w w' := by
    intro w hw
    have hq := node_any K1 b x ts (by omega) hx w hw
    rw [ht] at hq
    exact hq
  clear ht
  refine (hN _ (by repeat (first | exact h1 | refine DagAt.alloc ?_ _))).mono ?_
  rintro r w2 ⟨rfl, b2⟩
  have h2 := DagAt.below (K := K1) (b := b) (ts := ts) (by repeat (first | exact h1 | refine DagAt.alloc ?_ _)) b2
  have k2 := Kept.then_below (K := K) (w := w) (by repeat (first | exact k1 | refine Kept.then_alloc ?_ _)) b2
  have hT2 := Tab.below (by repeat (first | exact hT1 | refine Tab.alloc ?_ _)) b2
  have hc2 := cell_below (b := w.heap.size) (off := 0) (v := .pointer (some ⟨b, 0, none⟩)) b2 (by repeat (first | exact hc1 | refine cell_alloc0 ?_ _))
  have hne2 : w.heap.size ≠ w2.heap.size := by have := b2.size; simp at this; omega
  have hc2a := cell_alloc0 hc2 (.cells #[.int .i64 2, .int .u32 0, .int .i64 op, .int .i64 ta, .int .i64 tb] 68)
  obtain ⟨z0, z1, z2, z3, z4⟩ := five_cells (blk_new w2 (.cells #[.int .i64 2, .int .u32 0, .int .i64 op, .int .i64 ta, .int .i64 tb] 68))
  go_wp2_with fail
  refine (hKn _ (h2.alloc _)).mono ?_
  rintro r w3 ⟨rfl, b3⟩
  have h3 := (h2.alloc _).below b3
  have k3 := (k2.then_alloc _).then_below b3
  have hT3 := (hT2.alloc _).below b3
  have hc3 := cell_below b3 (cell_alloc0 hc2 _)
  have y3 := cell_below b3 z3
  have y3a := cell_alloc0 y3 (.cells #[.int .i64 27, .int .i64 36, .int .i64 35, .int .i64 32] 3)
  have y3b := cell_alloc0 y3a (.cells #[.int .i64 29, .int .i64 33, .int .i64 34] 3)
  have hc3a := cell_alloc0 hc3 (.cells #[.int .i64 27, .int .i64 36, .int .i64 35, .int .i64 32] 3)
  have hc3b := cell_alloc0 hc3a (.cells #[.int .i64 29, .int .i64 33, .int .i64 34] 3)
  clear z0 z1 z2 z3 z4 hc2 hc2a hne2 hT2 h2 b2
  go_wp2_with (first
    | (go_at_call 98; (with_reducible refine (among4 _ _ _ _ _ (g := _) (w := _) (hg := by simp)).mono ?_); rintro r w' ⟨rfl, rfl⟩)
    | (go_at_call 110; (with_reducible refine (shift_any _ _).mono ?_); rintro r w' ⟨rfl, rfl⟩)
    | (go_at_call 110; (with_reducible refine (hsh _).mono ?_); rintro r w' ⟨rfl, rfl⟩)
    | (go_at_call 42; (with_reducible refine (hDo _).mono ?_); rintro r w' ⟨rfl, rfl⟩)
    | fail)
  go_ret2
  exact ⟨rfl, DagAt.mono (by repeat (first | exact h3 | refine DagAt.alloc ?_ _)) hKK, (by repeat (first | exact k3 | refine Kept.then_alloc ?_ _))⟩
set_option maxRecDepth 100000 in
set_option maxHeartbeats 1000000 in
theorem by_s3sp (f : Nat) (hM : MadeSpec f) (K : Nat → Prop) (b : Nat) (ts : List Term) (op x y v : Nat) (w : World) (h : DagAt K w b ts) (hG : Good ts) (hg : K 0) (hT : Tab w) (ho : (doW op 0 0).isSome = true) (hx : x < ts.length) (hl : ts.length + (f + 1) < 1000000000000) (hv : v < 4294967296) (hv1 : 1 < v) (hvm : v ≠ 4294967295) (hp : isPow v = true) (hop : (op = 29 ∨ op = 33 ∨ op = 34)) (h32 : v < 32) (ta tb : Nat) (ht : ts.getD x default = ⟨2, 0, op, ta, tb⟩) (htb : tb < ts.length) (hcb : isC ts tb = true) (hta : ta < ts.length) (hq : 1 ≤ wd ts tb) (hs : wd ts tb + v < 32) (hW : Went ts op x y (ins ts (constT (wd ts tb + v))) op ta (pos ts (constT (wd ts tb + v)))) (hm : mz ts op x y < f + 1) :
    Calls Tryz.prog 99 #[.pointer (some ⟨b, 0, none⟩), .int .i64 op, .int .i64 x, .int .i64 y, .int .u32 v] w (IsPost K b w (madeF f (ins ts (constT (wd ts tb + v))) op ta (pos ts (constT (wd ts tb + v))))) := by
  obtain ⟨K1, h1, hg1, hT1, hc1, hk1, hKK, k1⟩ := boxed K b ts w h hg hT
  have hmf := makeFunc_run
  have htz := tz32_any v hv
  have hone := and_pred hv hv1
  rw [hp] at hone
  have e0 : ((v : Int) == 0) = false := by simp; omega
  have e0' : ((v : Int) != 0) = true := by simp; omega
  have e1 : ((v : Int) == 1) = false := by simp; omega
  have em : ((v : Int) == 4294967295) = false := by simp; omega
  have l1 : (1 : Int) < v := by omega
  have sh : isShift op = true := by simp [isShift]; omega
  have m32 : ((v : Int) % 32 == 0) = false := by simp; omega
  have m33 : (v : Int) < 32 := by omega
  have m33' : ¬ (32 : Int) ≤ v := by omega
  have n37 : ((op : Int) == 37) = false := by simp; omega
  have n42 : ((op : Int) == 42) = false := by simp; omega
  have n44 : ((op : Int) == 44) = false := by simp; omega
  have hKn := fun w => known_any K1 b tb ts (by omega) htb w
  rw [hcb] at hKn
  clear hcb
  have a4 : hasI (op : Int) [27, 36, 35, 32] = false := by simp [hasI]; omega
  have q1 : (1 : Int) ≤ (wd ts tb : Int) := by omega
  have q1' : ¬ (wd ts tb : Int) < 1 := by omega
  have q2 : (wd ts tb : Int) < 32 := by omega
  have q3 : (wd ts tb : Int) + v < 32 := by omega
  have hcast : (wd ts tb : Int) + v = ((wd ts tb + v : Nat) : Int) := by omega
  have HCAST := Lib.hid hcast
  clear hcast
  clear hT h hg
  go_enter Tryz.func99, Tryz.ntmps99
  go_wp2_with (first
    | (go_at_call 98; (with_reducible refine (among3 _ _ _ _ (g := _) (w := _) (hg := by simp)).mono ?_); rintro r w' ⟨rfl, rfl⟩)
    | (go_at_call 98; (with_reducible refine (among2 _ _ _ (g := _) (w := _) (hg := by simp)).mono ?_); rintro r w' ⟨rfl, rfl⟩)
    | (go_at_call 110; (with_reducible refine (shift_any _ _).mono ?_); rintro r w' ⟨rfl, rfl⟩)
    | (go_at_call 110; (with_reducible refine (hsh _).mono ?_); rintro r w' ⟨rfl, rfl⟩)
    | (go_at_call 109; (with_reducible refine (htz _ (by repeat (first | exact hT1 | refine Tab.alloc ?_ _))).mono ?_); rintro r w' ⟨rfl, rfl⟩)
    | fail)
  have hN : ∀ w, DagAt K1 w b ts → Calls Tryz.prog 34 #[.pointer (some ⟨b, 0, none⟩), .int .i64 x] w fun r w' => r = .returned (.tuple #[.agg #[.int .i64 2, .int .u32 0, .int .i64 op, .int .i64 ta, .int .i64 tb], .int .i64 0]) ∧ Below w.heap.size w w' := by
    intro w hw
    have hq := node_any K1 b x ts (by omega) hx w hw
    rw [ht] at hq
    exact hq
  clear ht
  refine (hN _ (by repeat (first | exact h1 | refine DagAt.alloc ?_ _))).mono ?_
  rintro r w2 ⟨rfl, b2⟩
  have h2 := DagAt.below (K := K1) (b := b) (ts := ts) (by repeat (first | exact h1 | refine DagAt.alloc ?_ _)) b2
  have k2 := Kept.then_below (K := K) (w := w) (by repeat (first | exact k1 | refine Kept.then_alloc ?_ _)) b2
  have hT2 := Tab.below (by repeat (first | exact hT1 | refine Tab.alloc ?_ _)) b2
  have hc2 := cell_below (b := w.heap.size) (off := 0) (v := .pointer (some ⟨b, 0, none⟩)) b2 (by repeat (first | exact hc1 | refine cell_alloc0 ?_ _))
  have hne2 : w.heap.size ≠ w2.heap.size := by have := b2.size; simp at this; omega
  have hc2a := cell_alloc0 hc2 (.cells #[.int .i64 2, .int .u32 0, .int .i64 op, .int .i64 ta, .int .i64 tb] 68)
  obtain ⟨z0, z1, z2, z3, z4⟩ := five_cells (blk_new w2 (.cells #[.int .i64 2, .int .u32 0, .int .i64 op, .int .i64 ta, .int .i64 tb] 68))
  go_wp2_with fail
  refine (hKn _ (h2.alloc _)).mono ?_
  rintro r w3 ⟨rfl, b3⟩
  have h3 := (h2.alloc _).below b3
  have k3 := (k2.then_alloc _).then_below b3
  have hT3 := (hT2.alloc _).below b3
  have hc3 := cell_below b3 (cell_alloc0 hc2 _)
  have y3 := cell_below b3 z3
  have y3a := cell_alloc0 y3 (.cells #[.int .i64 27, .int .i64 36, .int .i64 35, .int .i64 32] 3)
  have y3b := cell_alloc0 y3a (.cells #[.int .i64 29, .int .i64 33, .int .i64 34] 3)
  have hc3a := cell_alloc0 hc3 (.cells #[.int .i64 27, .int .i64 36, .int .i64 35, .int .i64 32] 3)
  have hc3b := cell_alloc0 hc3a (.cells #[.int .i64 29, .int .i64 33, .int .i64 34] 3)
  clear z0 z1 z2 z3 z4 hc2 hc2a hne2 hT2 h2 b2
  go_wp2_with (first
    | (go_at_call 98; (with_reducible refine (among4 _ _ _ _ _ (g := _) (w := _) (hg := by simp)).mono ?_); rintro r w' ⟨rfl, rfl⟩)
    | (go_at_call 110; (with_reducible refine (shift_any _ _).mono ?_); rintro r w' ⟨rfl, rfl⟩)
    | (go_at_call 110; (with_reducible refine (hsh _).mono ?_); rintro r w' ⟨rfl, rfl⟩)
    | (go_at_call 42; (with_reducible refine (hDo _).mono ?_); rintro r w' ⟨rfl, rfl⟩)
    | fail)
  rw [HCAST.out]
  refine (goes_any f hM K1 b w.heap.size ts op ta (wd ts tb + v) _ (by repeat (first | exact h3 | refine DagAt.alloc ?_ _)) hW.good hg1 (by repeat (first | exact hT3 | refine Tab.alloc ?_ _)) hW.ok hta (by omega) (by have := hW.less; omega) hl hk1 (by repeat (first | exact hc3 | refine cell_alloc0 ?_ _))).mono ?_
  rintro r wz ⟨rfl, hz, kz⟩
  have kw := Kept.trans (K := K) (w := w) (by repeat (first | exact k3 | refine Kept.then_alloc ?_ _)) (kz.mono hKK)
  go_wp2_with fail
  go_ret2
  exact ⟨rfl, hz.mono hKK, kw⟩
set_option maxRecDepth 100000 in
set_option maxHeartbeats 1000000 in
theorem by_s4sp (f : Nat) (hM : MadeSpec f) (K : Nat → Prop) (b : Nat) (ts : List Term) (op x y v : Nat) (w : World) (h : DagAt K w b ts) (hG : Good ts) (hg : K 0) (hT : Tab w) (ho : (doW op 0 0).isSome = true) (hx : x < ts.length) (hl : ts.length + (f + 1) < 1000000000000) (hv : v < 4294967296) (hv1 : 1 < v) (hvm : v ≠ 4294967295) (hp : isPow v = true) (hop : (op = 29 ∨ op = 33 ∨ op = 34)) (h32 : v < 32) (ta tb : Nat) (ht : ts.getD x default = ⟨2, 0, op, ta, tb⟩) (htb : tb < ts.length) (hcb : isC ts tb = true) (hta : ta < ts.length) (hq : 1 ≤ wd ts tb) (hq2 : wd ts tb < 32) (hs : 32 ≤ wd ts tb + v) (h34 : op = 34) (hW : Went ts op x y (ins ts (constT 31)) op ta (pos ts (constT 31))) (hm : mz ts op x y < f + 1) :
    Calls Tryz.prog 99 #[.pointer (some ⟨b, 0, none⟩), .int .i64 op, .int .i64 x, .int .i64 y, .int .u32 v] w (IsPost K b w (madeF f (ins ts (constT 31)) op ta (pos ts (constT 31)))) := by
  obtain ⟨K1, h1, hg1, hT1, hc1, hk1, hKK, k1⟩ := boxed K b ts w h hg hT
  have hmf := makeFunc_run
  have htz := tz32_any v hv
  have hone := and_pred hv hv1
  rw [hp] at hone
  have e0 : ((v : Int) == 0) = false := by simp; omega
  have e0' : ((v : Int) != 0) = true := by simp; omega
  have e1 : ((v : Int) == 1) = false := by simp; omega
  have em : ((v : Int) == 4294967295) = false := by simp; omega
  have l1 : (1 : Int) < v := by omega
  subst h34
  have hsh : ∀ w, Calls Tryz.prog 110 #[.int .i64 34] w fun e w' => e = .returned (.bool true) ∧ w.alloc (.cells #[.int .i64 29, .int .i64 33, .int .i64 34] 3) = w' := shift_any 34
  have m32 : ((v : Int) % 32 == 0) = false := by simp; omega
  have m33 : (v : Int) < 32 := by omega
  have m33' : ¬ (32 : Int) ≤ v := by omega
  have hKn := fun w => known_any K1 b tb ts (by omega) htb w
  rw [hcb] at hKn
  clear hcb
  have q1 : (1 : Int) ≤ (wd ts tb : Int) := by omega
  have q1' : ¬ (wd ts tb : Int) < 1 := by omega
  have q2 : (wd ts tb : Int) < 32 := by omega
  have q3 : 32 ≤ (wd ts tb : Int) + v := by omega
  have q3' : ¬ (wd ts tb : Int) + v < 32 := by omega

  have a4 : hasI 34 [27, 36, 35, 32] = false := by decide
  have aB : hasI 34 [37, 41, 42] = false := by decide
  have aD : hasI 34 [43, 44] = false := by decide
  clear hT h hg
  go_enter Tryz.func99, Tryz.ntmps99
  go_wp2_with (first
    | (go_at_call 98; (with_reducible refine (among3 _ _ _ _ (g := _) (w := _) (hg := by simp)).mono ?_); rintro r w' ⟨rfl, rfl⟩)
    | (go_at_call 98; (with_reducible refine (among2 _ _ _ (g := _) (w := _) (hg := by simp)).mono ?_); rintro r w' ⟨rfl, rfl⟩)
    | (go_at_call 110; (with_reducible refine (shift_any _ _).mono ?_); rintro r w' ⟨rfl, rfl⟩)
    | (go_at_call 110; (with_reducible refine (hsh _).mono ?_); rintro r w' ⟨rfl, rfl⟩)
    | (go_at_call 109; (with_reducible refine (htz _ (by repeat (first | exact hT1 | refine Tab.alloc ?_ _))).mono ?_); rintro r w' ⟨rfl, rfl⟩)
    | fail)
  have hN : ∀ w, DagAt K1 w b ts → Calls Tryz.prog 34 #[.pointer (some ⟨b, 0, none⟩), .int .i64 x] w fun r w' => r = .returned (.tuple #[.agg #[.int .i64 2, .int .u32 0, .int .i64 34, .int .i64 ta, .int .i64 tb], .int .i64 0]) ∧ Below w.heap.size w w' := by
    intro w hw
    have hq := node_any K1 b x ts (by omega) hx w hw
    rw [ht] at hq
    exact hq
  clear ht
  refine (hN _ (by repeat (first | exact h1 | refine DagAt.alloc ?_ _))).mono ?_
  rintro r w2 ⟨rfl, b2⟩
  have h2 := DagAt.below (K := K1) (b := b) (ts := ts) (by repeat (first | exact h1 | refine DagAt.alloc ?_ _)) b2
  have k2 := Kept.then_below (K := K) (w := w) (by repeat (first | exact k1 | refine Kept.then_alloc ?_ _)) b2
  have hT2 := Tab.below (by repeat (first | exact hT1 | refine Tab.alloc ?_ _)) b2
  have hc2 := cell_below (b := w.heap.size) (off := 0) (v := .pointer (some ⟨b, 0, none⟩)) b2 (by repeat (first | exact hc1 | refine cell_alloc0 ?_ _))
  have hne2 : w.heap.size ≠ w2.heap.size := by have := b2.size; simp at this; omega
  have hc2a := cell_alloc0 hc2 (.cells #[.int .i64 2, .int .u32 0, .int .i64 34, .int .i64 ta, .int .i64 tb] 68)
  obtain ⟨z0, z1, z2, z3, z4⟩ := five_cells (blk_new w2 (.cells #[.int .i64 2, .int .u32 0, .int .i64 34, .int .i64 ta, .int .i64 tb] 68))
  go_wp2_with fail
  refine (hKn _ (h2.alloc _)).mono ?_
  rintro r w3 ⟨rfl, b3⟩
  have h3 := (h2.alloc _).below b3
  have k3 := (k2.then_alloc _).then_below b3
  have hT3 := (hT2.alloc _).below b3
  have hc3 := cell_below b3 (cell_alloc0 hc2 _)
  have y3 := cell_below b3 z3
  have y3a := cell_alloc0 y3 (.cells #[.int .i64 27, .int .i64 36, .int .i64 35, .int .i64 32] 3)
  have y3b := cell_alloc0 y3a (.cells #[.int .i64 29, .int .i64 33, .int .i64 34] 3)
  have hc3a := cell_alloc0 hc3 (.cells #[.int .i64 27, .int .i64 36, .int .i64 35, .int .i64 32] 3)
  have hc3b := cell_alloc0 hc3a (.cells #[.int .i64 29, .int .i64 33, .int .i64 34] 3)
  clear z0 z1 z2 z3 z4 hc2 hc2a hne2 hT2 h2 b2
  go_wp2_with (first
    | (go_at_call 98; (with_reducible refine (among4 _ _ _ _ _ (g := _) (w := _) (hg := by simp)).mono ?_); rintro r w' ⟨rfl, rfl⟩)
    | (go_at_call 110; (with_reducible refine (shift_any _ _).mono ?_); rintro r w' ⟨rfl, rfl⟩)
    | (go_at_call 110; (with_reducible refine (hsh _).mono ?_); rintro r w' ⟨rfl, rfl⟩)
    | (go_at_call 42; (with_reducible refine (hDo _).mono ?_); rintro r w' ⟨rfl, rfl⟩)
    | fail)
  refine (goes_any f hM K1 b w.heap.size ts 34 ta 31 _ (by repeat (first | exact h3 | refine DagAt.alloc ?_ _)) hW.good hg1 (by repeat (first | exact hT3 | refine Tab.alloc ?_ _)) hW.ok hta (by omega) (by have := hW.less; omega) hl hk1 (by repeat (first | exact hc3 | refine cell_alloc0 ?_ _))).mono ?_
  rintro r wz ⟨rfl, hz, kz⟩
  have kw := Kept.trans (K := K) (w := w) (by repeat (first | exact k3 | refine Kept.then_alloc ?_ _)) (kz.mono hKK)
  go_wp2_with fail
  go_ret2
  exact ⟨rfl, hz.mono hKK, kw⟩
set_option maxRecDepth 100000 in
set_option maxHeartbeats 1000000 in
theorem by_s5sp (f : Nat) (hM : MadeSpec f) (K : Nat → Prop) (b : Nat) (ts : List Term) (op x y v : Nat) (w : World) (h : DagAt K w b ts) (hG : Good ts) (hg : K 0) (hT : Tab w) (ho : (doW op 0 0).isSome = true) (hx : x < ts.length) (hl : ts.length + (f + 1) < 1000000000000) (hv : v < 4294967296) (hv1 : 1 < v) (hvm : v ≠ 4294967295) (hp : isPow v = true) (hop : (op = 29 ∨ op = 33 ∨ op = 34)) (h32 : v < 32) (ta tb : Nat) (ht : ts.getD x default = ⟨2, 0, op, ta, tb⟩) (htb : tb < ts.length) (hcb : isC ts tb = true) (hq : 1 ≤ wd ts tb) (hq2 : wd ts tb < 32) (hs : 32 ≤ wd ts tb + v) (h34 : op ≠ 34) :
    Calls Tryz.prog 99 #[.pointer (some ⟨b, 0, none⟩), .int .i64 op, .int .i64 x, .int .i64 y, .int .u32 v] w (IsPost K b w (ins ts (constT 0), pos ts (constT 0))) := by
  obtain ⟨K1, h1, hg1, hT1, hc1, hk1, hKK, k1⟩ := boxed K b ts w h hg hT
  have hmf := makeFunc_run
  have htz := tz32_any v hv
  have hone := and_pred hv hv1
  rw [hp] at hone
  have e0 : ((v : Int) == 0) = false := by simp; omega
  have e0' : ((v : Int) != 0) = true := by simp; omega
  have e1 : ((v : Int) == 1) = false := by simp; omega
  have em : ((v : Int) == 4294967295) = false := by simp; omega
  have l1 : (1 : Int) < v := by omega
  have sh : isShift op = true := by simp [isShift]; omega
  have m32 : ((v : Int) % 32 == 0) = false := by simp; omega
  have m33 : (v : Int) < 32 := by omega
  have m33' : ¬ (32 : Int) ≤ v := by omega
  have n37 : ((op : Int) == 37) = false := by simp; omega
  have n42 : ((op : Int) == 42) = false := by simp; omega
  have n44 : ((op : Int) == 44) = false := by simp; omega
  have hKn := fun w => known_any K1 b tb ts (by omega) htb w
  rw [hcb] at hKn
  clear hcb
  have a4 : hasI (op : Int) [27, 36, 35, 32] = false := by simp [hasI]; omega
  have q1 : (1 : Int) ≤ (wd ts tb : Int) := by omega
  have q1' : ¬ (wd ts tb : Int) < 1 := by omega
  have q2 : (wd ts tb : Int) < 32 := by omega
  have q3 : 32 ≤ (wd ts tb : Int) + v := by omega
  have q3' : ¬ (wd ts tb : Int) + v < 32 := by omega
  have y34 : ((op : Int) == 34) = false := by simp; omega
  clear hG ho hT h hg
  go_enter Tryz.func99, Tryz.ntmps99
  go_wp2_with (first
    | (go_at_call 98; (with_reducible refine (among3 _ _ _ _ (g := _) (w := _) (hg := by simp)).mono ?_); rintro r w' ⟨rfl, rfl⟩)
    | (go_at_call 98; (with_reducible refine (among2 _ _ _ (g := _) (w := _) (hg := by simp)).mono ?_); rintro r w' ⟨rfl, rfl⟩)
    | (go_at_call 110; (with_reducible refine (shift_any _ _).mono ?_); rintro r w' ⟨rfl, rfl⟩)
    | (go_at_call 110; (with_reducible refine (hsh _).mono ?_); rintro r w' ⟨rfl, rfl⟩)
    | (go_at_call 109; (with_reducible refine (htz _ (by repeat (first | exact hT1 | refine Tab.alloc ?_ _))).mono ?_); rintro r w' ⟨rfl, rfl⟩)
    | fail)
  have hN : ∀ w, DagAt K1 w b ts → Calls Tryz.prog 34 #[.pointer (some ⟨b, 0, none⟩), .int .i64 x] w fun r w' => r = .returned (.tuple #[.agg #[.int .i64 2, .int .u32 0, .int .i64 op, .int .i64 ta, .int .i64 tb], .int .i64 0]) ∧ Below w.heap.size w w' := by
    intro w hw
    have hq := node_any K1 b x ts (by omega) hx w hw
    rw [ht] at hq
    exact hq
  clear ht
  refine (hN _ (by repeat (first | exact h1 | refine DagAt.alloc ?_ _))).mono ?_
  rintro r w2 ⟨rfl, b2⟩
  have h2 := DagAt.below (K := K1) (b := b) (ts := ts) (by repeat (first | exact h1 | refine DagAt.alloc ?_ _)) b2
  have k2 := Kept.then_below (K := K) (w := w) (by repeat (first | exact k1 | refine Kept.then_alloc ?_ _)) b2
  have hT2 := Tab.below (by repeat (first | exact hT1 | refine Tab.alloc ?_ _)) b2
  have hc2 := cell_below (b := w.heap.size) (off := 0) (v := .pointer (some ⟨b, 0, none⟩)) b2 (by repeat (first | exact hc1 | refine cell_alloc0 ?_ _))
  have hne2 : w.heap.size ≠ w2.heap.size := by have := b2.size; simp at this; omega
  have hc2a := cell_alloc0 hc2 (.cells #[.int .i64 2, .int .u32 0, .int .i64 op, .int .i64 ta, .int .i64 tb] 68)
  obtain ⟨z0, z1, z2, z3, z4⟩ := five_cells (blk_new w2 (.cells #[.int .i64 2, .int .u32 0, .int .i64 op, .int .i64 ta, .int .i64 tb] 68))
  go_wp2_with fail
  refine (hKn _ (h2.alloc _)).mono ?_
  rintro r w3 ⟨rfl, b3⟩
  have h3 := (h2.alloc _).below b3
  have k3 := (k2.then_alloc _).then_below b3
  have hT3 := (hT2.alloc _).below b3
  have hc3 := cell_below b3 (cell_alloc0 hc2 _)
  have y3 := cell_below b3 z3
  have y3a := cell_alloc0 y3 (.cells #[.int .i64 27, .int .i64 36, .int .i64 35, .int .i64 32] 3)
  have y3b := cell_alloc0 y3a (.cells #[.int .i64 29, .int .i64 33, .int .i64 34] 3)
  have hc3a := cell_alloc0 hc3 (.cells #[.int .i64 27, .int .i64 36, .int .i64 35, .int .i64 32] 3)
  have hc3b := cell_alloc0 hc3a (.cells #[.int .i64 29, .int .i64 33, .int .i64 34] 3)
  clear z0 z1 z2 z3 z4 hc2 hc2a hne2 hT2 h2 b2
  go_wp2_with (first
    | (go_at_call 98; (with_reducible refine (among4 _ _ _ _ _ (g := _) (w := _) (hg := by simp)).mono ?_); rintro r w' ⟨rfl, rfl⟩)
    | (go_at_call 110; (with_reducible refine (shift_any _ _).mono ?_); rintro r w' ⟨rfl, rfl⟩)
    | (go_at_call 110; (with_reducible refine (hsh _).mono ?_); rintro r w' ⟨rfl, rfl⟩)
    | (go_at_call 42; (with_reducible refine (hDo _).mono ?_); rintro r w' ⟨rfl, rfl⟩)
    | fail)
  refine (const0_any K1 b ts (by omega) _ (by repeat (first | exact h3 | refine DagAt.alloc ?_ _))).mono ?_
  rintro r wz ⟨rfl, hz, kz⟩
  have kw := Kept.trans (K := K) (w := w) (by repeat (first | exact k3 | refine Kept.then_alloc ?_ _)) (kz.mono hKK)
  go_wp2_with fail
  go_ret2
  exact ⟨rfl, hz.mono hKK, kw⟩
end Go.Proofs.YtaiggfknighhgaaGreatDoor
