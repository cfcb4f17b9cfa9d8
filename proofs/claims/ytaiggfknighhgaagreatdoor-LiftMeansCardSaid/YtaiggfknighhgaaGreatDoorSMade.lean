/- simp: made, walked case by case and joined (written by genM.py). -/
import Derived.Test.YtaiggfknighhgaaGreatDoorSByX
set_option linter.unusedVariables false
set_option linter.unusedSimpArgs false
namespace Go.Proofs.YtaiggfknighhgaaGreatDoor
open Go.RowKit Go.Maps Go.MapKept

set_option maxRecDepth 100000 in
set_option maxHeartbeats 1000000 in
theorem made_A (f : Nat) (hM : MadeSpec f) (K : Nat → Prop) (b : Nat) (ts : List Term) (op x y : Nat) (w : World) (h : DagAt K w b ts) (hG : Good ts) (hg : K 0) (hT : Tab w) (ho : (doW op 0 0).isSome = true) (hx : x < ts.length) (hy : y < ts.length) (hl : ts.length + (f + 1) < 1000000000000) (hcx : isC ts x = true) (hcy : isC ts y = true) (u : Nat) (hu : (doW op (wd ts x) (wd ts y)).getD 0 = u) (hul : u < 4294967296) :
    Calls Tryz.prog 86 #[.pointer (some ⟨b, 0, none⟩), .int .i64 op, .int .i64 x, .int .i64 y] w (MadePost K b w (ins ts (constT u), pos ts (constT u))) := by
  have hK1 := known_any K b x ts (by omega) hx w h
  have hK2 := fun w1 h1 => known_any K b y ts (by omega) hy w1 h1
  rw [hcx] at hK1
  rw [hcy] at hK2
  have hA := among_turns op
  have hDo := fun w => do_any op ho (wd ts x) (wd ts y) (hG.wd_lt hx) (hG.wd_lt hy) w
  rw [hu] at hDo
  clear hu
  clear hcx hcy
  go_enter Tryz.func86, Tryz.ntmps86
  go_wp2_with fail
  refine hK1.mono ?_
  rintro r w1 ⟨rfl, b1⟩
  have h1 := h.below b1
  go_wp2_with fail
  refine (hK2 w1 h1).mono ?_
  rintro r w2 ⟨rfl, b2⟩
  have h2 := h1.below b2
  have hT2 := (hT.below b1).below b2
  have k2 : Kept K w w2 := (Kept.below b1).then_below b2
  have h3 := h2.alloc (.cells #[.int .i64 27, .int .i64 36, .int .i64 35, .int .i64 32, .int .i64 37, .int .i64 38, .int .i64 40] 3)
  have k3 := k2.then_alloc (.cells #[.int .i64 27, .int .i64 36, .int .i64 35, .int .i64 32, .int .i64 37, .int .i64 38, .int .i64 40] 3)
  have hT3 := hT2.alloc (.cells #[.int .i64 27, .int .i64 36, .int .i64 35, .int .i64 32, .int .i64 37, .int .i64 38, .int .i64 40] 3)
  clear hK1 hK2 b1 b2 h1 h2 hT2 k2 h hT
  go_wp2_with (first
    | (go_at_call 98; (with_reducible refine (hA _ _ (by simp)).mono ?_); rintro r w' ⟨rfl, rfl⟩)
    | fail)
  refine (hDo _).mono ?_
  rintro r w4 ⟨rfl, rfl⟩
  go_wp2_with fail
  refine (const_any K b u ts hul (by omega) _ h3).mono ?_
  rintro r w5 ⟨rfl, h5, k5⟩
  go_wp2_with fail
  go_ret
  exact ⟨rfl, h5, k3.trans k5⟩
set_option maxRecDepth 100000 in
set_option maxHeartbeats 1000000 in
theorem made_B1 (f : Nat) (hM : MadeSpec f) (K : Nat → Prop) (b : Nat) (ts : List Term) (op x y : Nat) (w : World) (h : DagAt K w b ts) (hG : Good ts) (hg : K 0) (hT : Tab w) (ho : (doW op 0 0).isSome = true) (hx : x < ts.length) (hy : y < ts.length) (hl : ts.length + (f + 1) < 1000000000000) (hcx : isC ts x = true) (hcy : isC ts y = false) (ht : turns op = true) (hm : mz ts op y x < f) :
    Calls Tryz.prog 86 #[.pointer (some ⟨b, 0, none⟩), .int .i64 op, .int .i64 x, .int .i64 y] w (MadePost K b w (madeF f ts op y x)) := by
  have hK1 := known_any K b x ts (by omega) hx w h
  have hK2 := fun w1 h1 => known_any K b y ts (by omega) hy w1 h1
  rw [hcx] at hK1
  rw [hcy] at hK2
  have hA := among_turns op
  rw [ht] at hA
  have hS := hM K b ts op y x
  generalize madeF f ts op y x = R at hS ⊢
  clear hcx hcy
  go_enter Tryz.func86, Tryz.ntmps86
  go_wp2_with fail
  refine hK1.mono ?_
  rintro r w1 ⟨rfl, b1⟩
  have h1 := h.below b1
  go_wp2_with fail
  refine (hK2 w1 h1).mono ?_
  rintro r w2 ⟨rfl, b2⟩
  have h2 := h1.below b2
  have hT2 := (hT.below b1).below b2
  have k2 : Kept K w w2 := (Kept.below b1).then_below b2
  have h3 := h2.alloc (.cells #[.int .i64 27, .int .i64 36, .int .i64 35, .int .i64 32, .int .i64 37, .int .i64 38, .int .i64 40] 3)
  have k3 := k2.then_alloc (.cells #[.int .i64 27, .int .i64 36, .int .i64 35, .int .i64 32, .int .i64 37, .int .i64 38, .int .i64 40] 3)
  have hT3 := hT2.alloc (.cells #[.int .i64 27, .int .i64 36, .int .i64 35, .int .i64 32, .int .i64 37, .int .i64 38, .int .i64 40] 3)
  clear hK1 hK2 b1 b2 h1 h2 hT2 k2 h hT
  go_wp2_with (first
    | (go_at_call 98; (with_reducible refine (hA _ _ (by simp)).mono ?_); rintro r w' ⟨rfl, rfl⟩)
    | fail)
  refine (hS _ h3 hG hg hT3 ho hy hx hm (by omega)).mono ?_
  rintro r w5 ⟨rfl, h5, k5⟩
  go_wp2_with fail
  go_ret
  exact ⟨rfl, h5, k3.trans k5⟩
set_option maxRecDepth 100000 in
set_option maxHeartbeats 1000000 in
theorem made_B2 (f : Nat) (hM : MadeSpec f) (K : Nat → Prop) (b : Nat) (ts : List Term) (op x y : Nat) (w : World) (h : DagAt K w b ts) (hG : Good ts) (hg : K 0) (hT : Tab w) (ho : (doW op 0 0).isSome = true) (hx : x < ts.length) (hy : y < ts.length) (hl : ts.length + (f + 1) < 1000000000000) (hcx : isC ts x = false) (hcy : isC ts y = false) (ht : turns op = true) (hm : mz ts op y x < f) (hlt : y < x) :
    Calls Tryz.prog 86 #[.pointer (some ⟨b, 0, none⟩), .int .i64 op, .int .i64 x, .int .i64 y] w (MadePost K b w (madeF f ts op y x)) := by
  have hK1 := known_any K b x ts (by omega) hx w h
  have hK2 := fun w1 h1 => known_any K b y ts (by omega) hy w1 h1
  rw [hcx] at hK1
  rw [hcy] at hK2
  have hA := among_turns op
  rw [ht] at hA
  have hS := hM K b ts op y x
  generalize madeF f ts op y x = R at hS ⊢
  have hlt' : (y : Int) < x := by omega
  clear hcx hcy
  go_enter Tryz.func86, Tryz.ntmps86
  go_wp2_with fail
  refine hK1.mono ?_
  rintro r w1 ⟨rfl, b1⟩
  have h1 := h.below b1
  go_wp2_with fail
  refine (hK2 w1 h1).mono ?_
  rintro r w2 ⟨rfl, b2⟩
  have h2 := h1.below b2
  have hT2 := (hT.below b1).below b2
  have k2 : Kept K w w2 := (Kept.below b1).then_below b2
  have h3 := h2.alloc (.cells #[.int .i64 27, .int .i64 36, .int .i64 35, .int .i64 32, .int .i64 37, .int .i64 38, .int .i64 40] 3)
  have k3 := k2.then_alloc (.cells #[.int .i64 27, .int .i64 36, .int .i64 35, .int .i64 32, .int .i64 37, .int .i64 38, .int .i64 40] 3)
  have hT3 := hT2.alloc (.cells #[.int .i64 27, .int .i64 36, .int .i64 35, .int .i64 32, .int .i64 37, .int .i64 38, .int .i64 40] 3)
  clear hK1 hK2 b1 b2 h1 h2 hT2 k2 h hT
  go_wp2_with (first
    | (go_at_call 98; (with_reducible refine (hA _ _ (by simp)).mono ?_); rintro r w' ⟨rfl, rfl⟩)
    | fail)
  refine (hS _ h3 hG hg hT3 ho hy hx hm (by omega)).mono ?_
  rintro r w5 ⟨rfl, h5, k5⟩
  go_wp2_with fail
  go_ret
  exact ⟨rfl, h5, k3.trans k5⟩
set_option maxRecDepth 100000 in
set_option maxHeartbeats 1000000 in
theorem made_C (f : Nat) (hM : MadeSpec f) (K : Nat → Prop) (b : Nat) (ts : List Term) (op x y : Nat) (w : World) (h : DagAt K w b ts) (hG : Good ts) (hg : K 0) (hT : Tab w) (ho : (doW op 0 0).isSome = true) (hx : x < ts.length) (hy : y < ts.length) (hl : ts.length + (f + 1) < 1000000000000) (hcx : isC ts x = false) (hcy : isC ts y = true) (hop : op = 28) (hW : Went ts op x y (ins ts (constT (us (-(wd ts y : Int))))) 27 x (pos ts (constT (us (-(wd ts y : Int)))))) (hm : mz ts op x y < f + 1) :
    Calls Tryz.prog 86 #[.pointer (some ⟨b, 0, none⟩), .int .i64 op, .int .i64 x, .int .i64 y] w (MadePost K b w (madeF f (ins ts (constT (us (-(wd ts y : Int))))) 27 x (pos ts (constT (us (-(wd ts y : Int))))))) := by
  have hK1 := known_any K b x ts (by omega) hx w h
  have hK2 := fun w1 h1 => known_any K b y ts (by omega) hy w1 h1
  rw [hcx] at hK1
  rw [hcy] at hK2
  have hA := among_turns op
  subst hop
  have hA : ∀ (g : Nat) (w : World), w.heap.size = g → Calls Tryz.prog 98 #[.int .i64 28, .slice (some ⟨g, 0, none⟩) 7 7] (w.alloc (.cells #[.int .i64 27, .int .i64 36, .int .i64 35, .int .i64 32, .int .i64 37, .int .i64 38, .int .i64 40] 3)) fun e w' =>
      e = .returned (.bool false) ∧ w.alloc (.cells #[.int .i64 27, .int .i64 36, .int .i64 35, .int .i64 32, .int .i64 37, .int .i64 38, .int .i64 40] 3) = w' := among_turns 28
  have hneg : -(wd ts y : Int) % 4294967296 = ((us (-(wd ts y : Int)) : Nat) : Int) := (us_cast _).symm
  have hul := us_lt (-(wd ts y : Int))
  have hC := fun w h => const_any K b (us (-(wd ts y : Int))) ts hul (by omega) w h
  have hS := hM K b (ins ts (constT (us (-(wd ts y : Int))))) 27 x (pos ts (constT (us (-(wd ts y : Int)))))
  generalize madeF f (ins ts (constT (us (-(wd ts y : Int))))) 27 x (pos ts (constT (us (-(wd ts y : Int))))) = R at hS ⊢
  clear hcx hcy
  go_enter Tryz.func86, Tryz.ntmps86
  go_wp2_with fail
  refine hK1.mono ?_
  rintro r w1 ⟨rfl, b1⟩
  have h1 := h.below b1
  go_wp2_with fail
  refine (hK2 w1 h1).mono ?_
  rintro r w2 ⟨rfl, b2⟩
  have h2 := h1.below b2
  have hT2 := (hT.below b1).below b2
  have k2 : Kept K w w2 := (Kept.below b1).then_below b2
  have h3 := h2.alloc (.cells #[.int .i64 27, .int .i64 36, .int .i64 35, .int .i64 32, .int .i64 37, .int .i64 38, .int .i64 40] 3)
  have k3 := k2.then_alloc (.cells #[.int .i64 27, .int .i64 36, .int .i64 35, .int .i64 32, .int .i64 37, .int .i64 38, .int .i64 40] 3)
  have hT3 := hT2.alloc (.cells #[.int .i64 27, .int .i64 36, .int .i64 35, .int .i64 32, .int .i64 37, .int .i64 38, .int .i64 40] 3)
  clear hK1 hK2 b1 b2 h1 h2 hT2 k2 h hT
  go_wp2_with (first
    | (go_at_call 98; (with_reducible refine (hA _ _ (by simp)).mono ?_); rintro r w' ⟨rfl, rfl⟩)
    | fail)
  rw [hneg]
  refine (hC _ h3).mono ?_
  rintro r w4 ⟨rfl, h4, k4⟩
  go_wp2_with fail
  refine (hS _ h4 hW.good hg (hT3.kept k4 hg) hW.ok hW.ina hW.inb (by have := hW.less; omega) (by have := hW.len; omega)).mono ?_
  rintro r w5 ⟨rfl, h5, k5⟩
  go_wp2_with fail
  go_ret
  exact ⟨rfl, h5, k3.trans (k4.trans k5)⟩
set_option maxRecDepth 100000 in
set_option maxHeartbeats 1000000 in
theorem made_Dt (f : Nat) (hM : MadeSpec f) (K : Nat → Prop) (b : Nat) (ts : List Term) (op x y : Nat) (w : World) (h : DagAt K w b ts) (hG : Good ts) (hg : K 0) (hT : Tab w) (ho : (doW op 0 0).isSome = true) (hx : x < ts.length) (hy : y < ts.length) (hl : ts.length + (f + 1) < 1000000000000) (hcx : isC ts x = false) (hcy : isC ts y = true) (ht : turns op = true) (nx : Nx) (hn : byN ts op x y (wd ts y) = some nx) (hop : op ≠ 28) (hm : mz ts op x y < f + 1) (hok : ∀ nx, byN ts op x y (wd ts y) = some nx → nx.ok ts op x y) :
    Calls Tryz.prog 86 #[.pointer (some ⟨b, 0, none⟩), .int .i64 op, .int .i64 x, .int .i64 y] w (MadePost K b w (nx.fin (madeF f))) := by
  have hK1 := known_any K b x ts (by omega) hx w h
  have hK2 := fun w1 h1 => known_any K b y ts (by omega) hy w1 h1
  rw [hcx] at hK1
  rw [hcy] at hK2
  have hA := among_turns op
  rw [ht] at hA
  have hB : ∀ w, DagAt K w b ts → Tab w → Calls Tryz.prog 99 #[.pointer (some ⟨b, 0, none⟩), .int .i64 op, .int .i64 x, .int .i64 y, .int .u32 (wd ts y : Nat)] w (IsPost K b w (nx.fin (madeF f))) := by
    intro w h hT
    have hq := byWord_any f hM K b ts op x y (wd ts y) (hG.wd_lt hy) w h hG hg hT ho hx hl hm hok
    rw [hn] at hq
    exact hq
  have n28 : ((op : Int) == 28) = false := by simp; omega
  clear hok hn
  generalize nx.fin (madeF f) = R at hB ⊢
  clear hcx hcy
  go_enter Tryz.func86, Tryz.ntmps86
  go_wp2_with fail
  refine hK1.mono ?_
  rintro r w1 ⟨rfl, b1⟩
  have h1 := h.below b1
  go_wp2_with fail
  refine (hK2 w1 h1).mono ?_
  rintro r w2 ⟨rfl, b2⟩
  have h2 := h1.below b2
  have hT2 := (hT.below b1).below b2
  have k2 : Kept K w w2 := (Kept.below b1).then_below b2
  have h3 := h2.alloc (.cells #[.int .i64 27, .int .i64 36, .int .i64 35, .int .i64 32, .int .i64 37, .int .i64 38, .int .i64 40] 3)
  have k3 := k2.then_alloc (.cells #[.int .i64 27, .int .i64 36, .int .i64 35, .int .i64 32, .int .i64 37, .int .i64 38, .int .i64 40] 3)
  have hT3 := hT2.alloc (.cells #[.int .i64 27, .int .i64 36, .int .i64 35, .int .i64 32, .int .i64 37, .int .i64 38, .int .i64 40] 3)
  clear hK1 hK2 b1 b2 h1 h2 hT2 k2 h hT
  go_wp2_with (first
    | (go_at_call 98; (with_reducible refine (hA _ _ (by simp)).mono ?_); rintro r w' ⟨rfl, rfl⟩)
    | fail)
  refine (hB _ h3 hT3).mono ?_
  rintro r w5 ⟨rfl, h5, k5⟩
  go_wp2_with fail
  go_ret
  exact ⟨rfl, h5, k3.trans k5⟩
set_option maxRecDepth 100000 in
set_option maxHeartbeats 1000000 in
theorem made_Et (f : Nat) (hM : MadeSpec f) (K : Nat → Prop) (b : Nat) (ts : List Term) (op x y : Nat) (w : World) (h : DagAt K w b ts) (hG : Good ts) (hg : K 0) (hT : Tab w) (ho : (doW op 0 0).isSome = true) (hx : x < ts.length) (hy : y < ts.length) (hl : ts.length + (f + 1) < 1000000000000) (hcx : isC ts x = false) (hcy : isC ts y = true) (ht : turns op = true) (hn : byN ts op x y (wd ts y) = none) (hxy : x ≠ y) (hop : op ≠ 28) (hm : mz ts op x y < f + 1) (hok : ∀ nx, byN ts op x y (wd ts y) = some nx → nx.ok ts op x y) :
    Calls Tryz.prog 86 #[.pointer (some ⟨b, 0, none⟩), .int .i64 op, .int .i64 x, .int .i64 y] w (MadePost K b w (ins ts (opT op x y), pos ts (opT op x y))) := by
  have hK1 := known_any K b x ts (by omega) hx w h
  have hK2 := fun w1 h1 => known_any K b y ts (by omega) hy w1 h1
  rw [hcx] at hK1
  rw [hcy] at hK2
  have hA := among_turns op
  rw [ht] at hA
  have hB : ∀ w, DagAt K w b ts → Tab w → Calls Tryz.prog 99 #[.pointer (some ⟨b, 0, none⟩), .int .i64 op, .int .i64 x, .int .i64 y, .int .u32 (wd ts y : Nat)] w (NonePost K b w ts) := by
    intro w h hT
    have hq := byWord_any f hM K b ts op x y (wd ts y) (hG.wd_lt hy) w h hG hg hT ho hx hl hm hok
    rw [hn] at hq
    exact hq
  have n28 : ((op : Int) == 28) = false := by simp; omega
  clear hok hn
  have hO := fun w h => op_any K b _ x y ts (by omega) hx hy ho w h
  have hne : ((x : Int) == y) = false := by simp; omega
  clear hcx hcy
  go_enter Tryz.func86, Tryz.ntmps86
  go_wp2_with fail
  refine hK1.mono ?_
  rintro r w1 ⟨rfl, b1⟩
  have h1 := h.below b1
  go_wp2_with fail
  refine (hK2 w1 h1).mono ?_
  rintro r w2 ⟨rfl, b2⟩
  have h2 := h1.below b2
  have hT2 := (hT.below b1).below b2
  have k2 : Kept K w w2 := (Kept.below b1).then_below b2
  have h3 := h2.alloc (.cells #[.int .i64 27, .int .i64 36, .int .i64 35, .int .i64 32, .int .i64 37, .int .i64 38, .int .i64 40] 3)
  have k3 := k2.then_alloc (.cells #[.int .i64 27, .int .i64 36, .int .i64 35, .int .i64 32, .int .i64 37, .int .i64 38, .int .i64 40] 3)
  have hT3 := hT2.alloc (.cells #[.int .i64 27, .int .i64 36, .int .i64 35, .int .i64 32, .int .i64 37, .int .i64 38, .int .i64 40] 3)
  clear hK1 hK2 b1 b2 h1 h2 hT2 k2 h hT
  go_wp2_with (first
    | (go_at_call 98; (with_reducible refine (hA _ _ (by simp)).mono ?_); rintro r w' ⟨rfl, rfl⟩)
    | fail)
  refine (hB _ h3 hT3).mono ?_
  rintro r w4 ⟨rfl, h4, k4⟩
  go_wp2_with fail
  refine (hO _ h4).mono ?_
  rintro r w5 ⟨rfl, h5, k5⟩
  go_wp2_with fail
  go_ret
  exact ⟨rfl, h5, k3.trans (k4.trans k5)⟩
set_option maxRecDepth 100000 in
set_option maxHeartbeats 1000000 in
theorem made_Df (f : Nat) (hM : MadeSpec f) (K : Nat → Prop) (b : Nat) (ts : List Term) (op x y : Nat) (w : World) (h : DagAt K w b ts) (hG : Good ts) (hg : K 0) (hT : Tab w) (ho : (doW op 0 0).isSome = true) (hx : x < ts.length) (hy : y < ts.length) (hl : ts.length + (f + 1) < 1000000000000) (hcx : isC ts x = false) (hcy : isC ts y = true) (ht : turns op = false) (nx : Nx) (hn : byN ts op x y (wd ts y) = some nx) (hop : op ≠ 28) (hm : mz ts op x y < f + 1) (hok : ∀ nx, byN ts op x y (wd ts y) = some nx → nx.ok ts op x y) :
    Calls Tryz.prog 86 #[.pointer (some ⟨b, 0, none⟩), .int .i64 op, .int .i64 x, .int .i64 y] w (MadePost K b w (nx.fin (madeF f))) := by
  have hK1 := known_any K b x ts (by omega) hx w h
  have hK2 := fun w1 h1 => known_any K b y ts (by omega) hy w1 h1
  rw [hcx] at hK1
  rw [hcy] at hK2
  have hA := among_turns op
  rw [ht] at hA
  have hB : ∀ w, DagAt K w b ts → Tab w → Calls Tryz.prog 99 #[.pointer (some ⟨b, 0, none⟩), .int .i64 op, .int .i64 x, .int .i64 y, .int .u32 (wd ts y : Nat)] w (IsPost K b w (nx.fin (madeF f))) := by
    intro w h hT
    have hq := byWord_any f hM K b ts op x y (wd ts y) (hG.wd_lt hy) w h hG hg hT ho hx hl hm hok
    rw [hn] at hq
    exact hq
  have n28 : ((op : Int) == 28) = false := by simp; omega
  clear hok hn
  generalize nx.fin (madeF f) = R at hB ⊢
  clear hcx hcy
  go_enter Tryz.func86, Tryz.ntmps86
  go_wp2_with fail
  refine hK1.mono ?_
  rintro r w1 ⟨rfl, b1⟩
  have h1 := h.below b1
  go_wp2_with fail
  refine (hK2 w1 h1).mono ?_
  rintro r w2 ⟨rfl, b2⟩
  have h2 := h1.below b2
  have hT2 := (hT.below b1).below b2
  have k2 : Kept K w w2 := (Kept.below b1).then_below b2
  have h3 := h2.alloc (.cells #[.int .i64 27, .int .i64 36, .int .i64 35, .int .i64 32, .int .i64 37, .int .i64 38, .int .i64 40] 3)
  have k3 := k2.then_alloc (.cells #[.int .i64 27, .int .i64 36, .int .i64 35, .int .i64 32, .int .i64 37, .int .i64 38, .int .i64 40] 3)
  have hT3 := hT2.alloc (.cells #[.int .i64 27, .int .i64 36, .int .i64 35, .int .i64 32, .int .i64 37, .int .i64 38, .int .i64 40] 3)
  clear hK1 hK2 b1 b2 h1 h2 hT2 k2 h hT
  go_wp2_with (first
    | (go_at_call 98; (with_reducible refine (hA _ _ (by simp)).mono ?_); rintro r w' ⟨rfl, rfl⟩)
    | fail)
  refine (hB _ h3 hT3).mono ?_
  rintro r w5 ⟨rfl, h5, k5⟩
  go_wp2_with fail
  go_ret
  exact ⟨rfl, h5, k3.trans k5⟩
set_option maxRecDepth 100000 in
set_option maxHeartbeats 1000000 in
theorem made_Ef (f : Nat) (hM : MadeSpec f) (K : Nat → Prop) (b : Nat) (ts : List Term) (op x y : Nat) (w : World) (h : DagAt K w b ts) (hG : Good ts) (hg : K 0) (hT : Tab w) (ho : (doW op 0 0).isSome = true) (hx : x < ts.length) (hy : y < ts.length) (hl : ts.length + (f + 1) < 1000000000000) (hcx : isC ts x = false) (hcy : isC ts y = true) (ht : turns op = false) (hn : byN ts op x y (wd ts y) = none) (hxy : x ≠ y) (hop : op ≠ 28) (hm : mz ts op x y < f + 1) (hok : ∀ nx, byN ts op x y (wd ts y) = some nx → nx.ok ts op x y) :
    Calls Tryz.prog 86 #[.pointer (some ⟨b, 0, none⟩), .int .i64 op, .int .i64 x, .int .i64 y] w (MadePost K b w (ins ts (opT op x y), pos ts (opT op x y))) := by
  have hK1 := known_any K b x ts (by omega) hx w h
  have hK2 := fun w1 h1 => known_any K b y ts (by omega) hy w1 h1
  rw [hcx] at hK1
  rw [hcy] at hK2
  have hA := among_turns op
  rw [ht] at hA
  have hB : ∀ w, DagAt K w b ts → Tab w → Calls Tryz.prog 99 #[.pointer (some ⟨b, 0, none⟩), .int .i64 op, .int .i64 x, .int .i64 y, .int .u32 (wd ts y : Nat)] w (NonePost K b w ts) := by
    intro w h hT
    have hq := byWord_any f hM K b ts op x y (wd ts y) (hG.wd_lt hy) w h hG hg hT ho hx hl hm hok
    rw [hn] at hq
    exact hq
  have n28 : ((op : Int) == 28) = false := by simp; omega
  clear hok hn
  have hO := fun w h => op_any K b _ x y ts (by omega) hx hy ho w h
  have hne : ((x : Int) == y) = false := by simp; omega
  clear hcx hcy
  go_enter Tryz.func86, Tryz.ntmps86
  go_wp2_with fail
  refine hK1.mono ?_
  rintro r w1 ⟨rfl, b1⟩
  have h1 := h.below b1
  go_wp2_with fail
  refine (hK2 w1 h1).mono ?_
  rintro r w2 ⟨rfl, b2⟩
  have h2 := h1.below b2
  have hT2 := (hT.below b1).below b2
  have k2 : Kept K w w2 := (Kept.below b1).then_below b2
  have h3 := h2.alloc (.cells #[.int .i64 27, .int .i64 36, .int .i64 35, .int .i64 32, .int .i64 37, .int .i64 38, .int .i64 40] 3)
  have k3 := k2.then_alloc (.cells #[.int .i64 27, .int .i64 36, .int .i64 35, .int .i64 32, .int .i64 37, .int .i64 38, .int .i64 40] 3)
  have hT3 := hT2.alloc (.cells #[.int .i64 27, .int .i64 36, .int .i64 35, .int .i64 32, .int .i64 37, .int .i64 38, .int .i64 40] 3)
  clear hK1 hK2 b1 b2 h1 h2 hT2 k2 h hT
  go_wp2_with (first
    | (go_at_call 98; (with_reducible refine (hA _ _ (by simp)).mono ?_); rintro r w' ⟨rfl, rfl⟩)
    | fail)
  refine (hB _ h3 hT3).mono ?_
  rintro r w4 ⟨rfl, h4, k4⟩
  go_wp2_with fail
  refine (hO _ h4).mono ?_
  rintro r w5 ⟨rfl, h5, k5⟩
  go_wp2_with fail
  go_ret
  exact ⟨rfl, h5, k3.trans (k4.trans k5)⟩
set_option maxRecDepth 100000 in
set_option maxHeartbeats 1000000 in
theorem made_F1s (f : Nat) (hM : MadeSpec f) (K : Nat → Prop) (b : Nat) (ts : List Term) (op x y : Nat) (w : World) (h : DagAt K w b ts) (hG : Good ts) (hg : K 0) (hT : Tab w) (ho : (doW op 0 0).isSome = true) (hx : x < ts.length) (hy : y < ts.length) (hl : ts.length + (f + 1) < 1000000000000) (hcx : isC ts x = true) (hcy : isC ts y = false) (ht : turns op = false) (hop : op = 28) (hxy : x ≠ y) :
    Calls Tryz.prog 86 #[.pointer (some ⟨b, 0, none⟩), .int .i64 op, .int .i64 x, .int .i64 y] w (MadePost K b w (ins ts (opT op x y), pos ts (opT op x y))) := by
  have hK1 := known_any K b x ts (by omega) hx w h
  have hK2 := fun w1 h1 => known_any K b y ts (by omega) hy w1 h1
  rw [hcx] at hK1
  rw [hcy] at hK2
  subst hop
  have hA : ∀ (g : Nat) (w : World), w.heap.size = g → Calls Tryz.prog 98 #[.int .i64 28, .slice (some ⟨g, 0, none⟩) 7 7] (w.alloc (.cells #[.int .i64 27, .int .i64 36, .int .i64 35, .int .i64 32, .int .i64 37, .int .i64 38, .int .i64 40] 3)) fun e w' =>
      e = .returned (.bool false) ∧ w.alloc (.cells #[.int .i64 27, .int .i64 36, .int .i64 35, .int .i64 32, .int .i64 37, .int .i64 38, .int .i64 40] 3) = w' := among_turns 28
  have hO := fun w h => op_any K b _ x y ts (by omega) hx hy ho w h
  have hne : ((x : Int) == y) = false := by simp; omega
  clear hcx hcy
  go_enter Tryz.func86, Tryz.ntmps86
  go_wp2_with fail
  refine hK1.mono ?_
  rintro r w1 ⟨rfl, b1⟩
  have h1 := h.below b1
  go_wp2_with fail
  refine (hK2 w1 h1).mono ?_
  rintro r w2 ⟨rfl, b2⟩
  have h2 := h1.below b2
  have hT2 := (hT.below b1).below b2
  have k2 : Kept K w w2 := (Kept.below b1).then_below b2
  have h3 := h2.alloc (.cells #[.int .i64 27, .int .i64 36, .int .i64 35, .int .i64 32, .int .i64 37, .int .i64 38, .int .i64 40] 3)
  have k3 := k2.then_alloc (.cells #[.int .i64 27, .int .i64 36, .int .i64 35, .int .i64 32, .int .i64 37, .int .i64 38, .int .i64 40] 3)
  have hT3 := hT2.alloc (.cells #[.int .i64 27, .int .i64 36, .int .i64 35, .int .i64 32, .int .i64 37, .int .i64 38, .int .i64 40] 3)
  clear hK1 hK2 b1 b2 h1 h2 hT2 k2 h hT
  go_wp2_with (first
    | (go_at_call 98; (with_reducible refine (hA _ _ (by simp)).mono ?_); rintro r w' ⟨rfl, rfl⟩)
    | fail)
  refine (hO _ h3).mono ?_
  rintro r w5 ⟨rfl, h5, k5⟩
  go_wp2_with fail
  go_ret
  exact ⟨rfl, h5, k3.trans k5⟩
set_option maxRecDepth 100000 in
set_option maxHeartbeats 1000000 in
theorem made_F1n (f : Nat) (hM : MadeSpec f) (K : Nat → Prop) (b : Nat) (ts : List Term) (op x y : Nat) (w : World) (h : DagAt K w b ts) (hG : Good ts) (hg : K 0) (hT : Tab w) (ho : (doW op 0 0).isSome = true) (hx : x < ts.length) (hy : y < ts.length) (hl : ts.length + (f + 1) < 1000000000000) (hcx : isC ts x = true) (hcy : isC ts y = false) (ht : turns op = false) (hop : op ≠ 28) (hxy : x ≠ y) :
    Calls Tryz.prog 86 #[.pointer (some ⟨b, 0, none⟩), .int .i64 op, .int .i64 x, .int .i64 y] w (MadePost K b w (ins ts (opT op x y), pos ts (opT op x y))) := by
  have hK1 := known_any K b x ts (by omega) hx w h
  have hK2 := fun w1 h1 => known_any K b y ts (by omega) hy w1 h1
  rw [hcx] at hK1
  rw [hcy] at hK2
  have hA := among_turns op
  rw [ht] at hA
  have n28 : ((op : Int) == 28) = false := by simp; omega
  have hO := fun w h => op_any K b _ x y ts (by omega) hx hy ho w h
  have hne : ((x : Int) == y) = false := by simp; omega
  clear hcx hcy
  go_enter Tryz.func86, Tryz.ntmps86
  go_wp2_with fail
  refine hK1.mono ?_
  rintro r w1 ⟨rfl, b1⟩
  have h1 := h.below b1
  go_wp2_with fail
  refine (hK2 w1 h1).mono ?_
  rintro r w2 ⟨rfl, b2⟩
  have h2 := h1.below b2
  have hT2 := (hT.below b1).below b2
  have k2 : Kept K w w2 := (Kept.below b1).then_below b2
  have h3 := h2.alloc (.cells #[.int .i64 27, .int .i64 36, .int .i64 35, .int .i64 32, .int .i64 37, .int .i64 38, .int .i64 40] 3)
  have k3 := k2.then_alloc (.cells #[.int .i64 27, .int .i64 36, .int .i64 35, .int .i64 32, .int .i64 37, .int .i64 38, .int .i64 40] 3)
  have hT3 := hT2.alloc (.cells #[.int .i64 27, .int .i64 36, .int .i64 35, .int .i64 32, .int .i64 37, .int .i64 38, .int .i64 40] 3)
  clear hK1 hK2 b1 b2 h1 h2 hT2 k2 h hT
  go_wp2_with (first
    | (go_at_call 98; (with_reducible refine (hA _ _ (by simp)).mono ?_); rintro r w' ⟨rfl, rfl⟩)
    | fail)
  refine (hO _ h3).mono ?_
  rintro r w5 ⟨rfl, h5, k5⟩
  go_wp2_with fail
  go_ret
  exact ⟨rfl, h5, k3.trans k5⟩
set_option maxRecDepth 100000 in
set_option maxHeartbeats 1000000 in
theorem made_F2s (f : Nat) (hM : MadeSpec f) (K : Nat → Prop) (b : Nat) (ts : List Term) (op x y : Nat) (w : World) (h : DagAt K w b ts) (hG : Good ts) (hg : K 0) (hT : Tab w) (ho : (doW op 0 0).isSome = true) (hx : x < ts.length) (hy : y < ts.length) (hl : ts.length + (f + 1) < 1000000000000) (hcx : isC ts x = false) (hcy : isC ts y = false) (ht : turns op = false) (hop : op = 28) (hxy : x ≠ y) :
    Calls Tryz.prog 86 #[.pointer (some ⟨b, 0, none⟩), .int .i64 op, .int .i64 x, .int .i64 y] w (MadePost K b w (ins ts (opT op x y), pos ts (opT op x y))) := by
  have hK1 := known_any K b x ts (by omega) hx w h
  have hK2 := fun w1 h1 => known_any K b y ts (by omega) hy w1 h1
  rw [hcx] at hK1
  rw [hcy] at hK2
  subst hop
  have hA : ∀ (g : Nat) (w : World), w.heap.size = g → Calls Tryz.prog 98 #[.int .i64 28, .slice (some ⟨g, 0, none⟩) 7 7] (w.alloc (.cells #[.int .i64 27, .int .i64 36, .int .i64 35, .int .i64 32, .int .i64 37, .int .i64 38, .int .i64 40] 3)) fun e w' =>
      e = .returned (.bool false) ∧ w.alloc (.cells #[.int .i64 27, .int .i64 36, .int .i64 35, .int .i64 32, .int .i64 37, .int .i64 38, .int .i64 40] 3) = w' := among_turns 28
  have hO := fun w h => op_any K b _ x y ts (by omega) hx hy ho w h
  have hne : ((x : Int) == y) = false := by simp; omega
  clear hcx hcy
  go_enter Tryz.func86, Tryz.ntmps86
  go_wp2_with fail
  refine hK1.mono ?_
  rintro r w1 ⟨rfl, b1⟩
  have h1 := h.below b1
  go_wp2_with fail
  refine (hK2 w1 h1).mono ?_
  rintro r w2 ⟨rfl, b2⟩
  have h2 := h1.below b2
  have hT2 := (hT.below b1).below b2
  have k2 : Kept K w w2 := (Kept.below b1).then_below b2
  have h3 := h2.alloc (.cells #[.int .i64 27, .int .i64 36, .int .i64 35, .int .i64 32, .int .i64 37, .int .i64 38, .int .i64 40] 3)
  have k3 := k2.then_alloc (.cells #[.int .i64 27, .int .i64 36, .int .i64 35, .int .i64 32, .int .i64 37, .int .i64 38, .int .i64 40] 3)
  have hT3 := hT2.alloc (.cells #[.int .i64 27, .int .i64 36, .int .i64 35, .int .i64 32, .int .i64 37, .int .i64 38, .int .i64 40] 3)
  clear hK1 hK2 b1 b2 h1 h2 hT2 k2 h hT
  go_wp2_with (first
    | (go_at_call 98; (with_reducible refine (hA _ _ (by simp)).mono ?_); rintro r w' ⟨rfl, rfl⟩)
    | fail)
  refine (hO _ h3).mono ?_
  rintro r w5 ⟨rfl, h5, k5⟩
  go_wp2_with fail
  go_ret
  exact ⟨rfl, h5, k3.trans k5⟩
set_option maxRecDepth 100000 in
set_option maxHeartbeats 1000000 in
theorem made_F2n (f : Nat) (hM : MadeSpec f) (K : Nat → Prop) (b : Nat) (ts : List Term) (op x y : Nat) (w : World) (h : DagAt K w b ts) (hG : Good ts) (hg : K 0) (hT : Tab w) (ho : (doW op 0 0).isSome = true) (hx : x < ts.length) (hy : y < ts.length) (hl : ts.length + (f + 1) < 1000000000000) (hcx : isC ts x = false) (hcy : isC ts y = false) (ht : turns op = false) (hop : op ≠ 28) (hxy : x ≠ y) :
    Calls Tryz.prog 86 #[.pointer (some ⟨b, 0, none⟩), .int .i64 op, .int .i64 x, .int .i64 y] w (MadePost K b w (ins ts (opT op x y), pos ts (opT op x y))) := by
  have hK1 := known_any K b x ts (by omega) hx w h
  have hK2 := fun w1 h1 => known_any K b y ts (by omega) hy w1 h1
  rw [hcx] at hK1
  rw [hcy] at hK2
  have hA := among_turns op
  rw [ht] at hA
  have n28 : ((op : Int) == 28) = false := by simp; omega
  have hO := fun w h => op_any K b _ x y ts (by omega) hx hy ho w h
  have hne : ((x : Int) == y) = false := by simp; omega
  clear hcx hcy
  go_enter Tryz.func86, Tryz.ntmps86
  go_wp2_with fail
  refine hK1.mono ?_
  rintro r w1 ⟨rfl, b1⟩
  have h1 := h.below b1
  go_wp2_with fail
  refine (hK2 w1 h1).mono ?_
  rintro r w2 ⟨rfl, b2⟩
  have h2 := h1.below b2
  have hT2 := (hT.below b1).below b2
  have k2 : Kept K w w2 := (Kept.below b1).then_below b2
  have h3 := h2.alloc (.cells #[.int .i64 27, .int .i64 36, .int .i64 35, .int .i64 32, .int .i64 37, .int .i64 38, .int .i64 40] 3)
  have k3 := k2.then_alloc (.cells #[.int .i64 27, .int .i64 36, .int .i64 35, .int .i64 32, .int .i64 37, .int .i64 38, .int .i64 40] 3)
  have hT3 := hT2.alloc (.cells #[.int .i64 27, .int .i64 36, .int .i64 35, .int .i64 32, .int .i64 37, .int .i64 38, .int .i64 40] 3)
  clear hK1 hK2 b1 b2 h1 h2 hT2 k2 h hT
  go_wp2_with (first
    | (go_at_call 98; (with_reducible refine (hA _ _ (by simp)).mono ?_); rintro r w' ⟨rfl, rfl⟩)
    | fail)
  refine (hO _ h3).mono ?_
  rintro r w5 ⟨rfl, h5, k5⟩
  go_wp2_with fail
  go_ret
  exact ⟨rfl, h5, k3.trans k5⟩
set_option maxRecDepth 100000 in
set_option maxHeartbeats 1000000 in
theorem made_F3n (f : Nat) (hM : MadeSpec f) (K : Nat → Prop) (b : Nat) (ts : List Term) (op x y : Nat) (w : World) (h : DagAt K w b ts) (hG : Good ts) (hg : K 0) (hT : Tab w) (ho : (doW op 0 0).isSome = true) (hx : x < ts.length) (hy : y < ts.length) (hl : ts.length + (f + 1) < 1000000000000) (hcx : isC ts x = false) (hcy : isC ts y = false) (ht : turns op = true) (hop : op ≠ 28) (hlt : ¬ y < x) (hxy : x ≠ y) :
    Calls Tryz.prog 86 #[.pointer (some ⟨b, 0, none⟩), .int .i64 op, .int .i64 x, .int .i64 y] w (MadePost K b w (ins ts (opT op x y), pos ts (opT op x y))) := by
  have hK1 := known_any K b x ts (by omega) hx w h
  have hK2 := fun w1 h1 => known_any K b y ts (by omega) hy w1 h1
  rw [hcx] at hK1
  rw [hcy] at hK2
  have hA := among_turns op
  rw [ht] at hA
  have n28 : ((op : Int) == 28) = false := by simp; omega
  have hlt' : ¬ (y : Int) < x := by omega
  have hO := fun w h => op_any K b _ x y ts (by omega) hx hy ho w h
  have hne : ((x : Int) == y) = false := by simp; omega
  clear hcx hcy
  go_enter Tryz.func86, Tryz.ntmps86
  go_wp2_with fail
  refine hK1.mono ?_
  rintro r w1 ⟨rfl, b1⟩
  have h1 := h.below b1
  go_wp2_with fail
  refine (hK2 w1 h1).mono ?_
  rintro r w2 ⟨rfl, b2⟩
  have h2 := h1.below b2
  have hT2 := (hT.below b1).below b2
  have k2 : Kept K w w2 := (Kept.below b1).then_below b2
  have h3 := h2.alloc (.cells #[.int .i64 27, .int .i64 36, .int .i64 35, .int .i64 32, .int .i64 37, .int .i64 38, .int .i64 40] 3)
  have k3 := k2.then_alloc (.cells #[.int .i64 27, .int .i64 36, .int .i64 35, .int .i64 32, .int .i64 37, .int .i64 38, .int .i64 40] 3)
  have hT3 := hT2.alloc (.cells #[.int .i64 27, .int .i64 36, .int .i64 35, .int .i64 32, .int .i64 37, .int .i64 38, .int .i64 40] 3)
  clear hK1 hK2 b1 b2 h1 h2 hT2 k2 h hT
  go_wp2_with (first
    | (go_at_call 98; (with_reducible refine (hA _ _ (by simp)).mono ?_); rintro r w' ⟨rfl, rfl⟩)
    | fail)
  refine (hO _ h3).mono ?_
  rintro r w5 ⟨rfl, h5, k5⟩
  go_wp2_with fail
  go_ret
  exact ⟨rfl, h5, k3.trans k5⟩
set_option maxRecDepth 100000 in
set_option maxHeartbeats 1000000 in
theorem made_Gtn (f : Nat) (hM : MadeSpec f) (K : Nat → Prop) (b : Nat) (ts : List Term) (op x y : Nat) (w : World) (h : DagAt K w b ts) (hG : Good ts) (hg : K 0) (hT : Tab w) (ho : (doW op 0 0).isSome = true) (hx : x < ts.length) (hy : y < ts.length) (hl : ts.length + (f + 1) < 1000000000000) (hcx : isC ts x = false) (hcy : isC ts y = false) (ht : turns op = true) (hop : op ≠ 28) (hxy : x = y) (nx : Nx) (hn : twiceN ts op x = some nx) (hok : nx.ok ts op x x) (hm : mz ts op x x < f + 1) :
    Calls Tryz.prog 86 #[.pointer (some ⟨b, 0, none⟩), .int .i64 op, .int .i64 x, .int .i64 y] w (MadePost K b w (nx.fin (madeF f))) := by
  have hK1 := known_any K b x ts (by omega) hx w h
  have hK2 := fun w1 h1 => known_any K b y ts (by omega) hy w1 h1
  rw [hcx] at hK1
  rw [hcy] at hK2
  subst hxy
  have hlt' : ¬ (x : Int) < x := by omega
  have hA := among_turns op
  rw [ht] at hA
  have n28 : ((op : Int) == 28) = false := by simp; omega
  have hB := fun w h hT => twice_yes f hM K b _ x ts nx hn hok w h hg hT hx hm hl
  clear hok hn
  generalize nx.fin (madeF f) = R at hB ⊢
  clear hcx hcy
  go_enter Tryz.func86, Tryz.ntmps86
  go_wp2_with fail
  refine hK1.mono ?_
  rintro r w1 ⟨rfl, b1⟩
  have h1 := h.below b1
  go_wp2_with fail
  refine (hK2 w1 h1).mono ?_
  rintro r w2 ⟨rfl, b2⟩
  have h2 := h1.below b2
  have hT2 := (hT.below b1).below b2
  have k2 : Kept K w w2 := (Kept.below b1).then_below b2
  have h3 := h2.alloc (.cells #[.int .i64 27, .int .i64 36, .int .i64 35, .int .i64 32, .int .i64 37, .int .i64 38, .int .i64 40] 3)
  have k3 := k2.then_alloc (.cells #[.int .i64 27, .int .i64 36, .int .i64 35, .int .i64 32, .int .i64 37, .int .i64 38, .int .i64 40] 3)
  have hT3 := hT2.alloc (.cells #[.int .i64 27, .int .i64 36, .int .i64 35, .int .i64 32, .int .i64 37, .int .i64 38, .int .i64 40] 3)
  clear hK1 hK2 b1 b2 h1 h2 hT2 k2 h hT
  go_wp2_with (first
    | (go_at_call 98; (with_reducible refine (hA _ _ (by simp)).mono ?_); rintro r w' ⟨rfl, rfl⟩)
    | fail)
  refine (hB _ h3 hT3).mono ?_
  rintro r w5 ⟨rfl, h5, k5⟩
  go_wp2_with fail
  go_ret
  exact ⟨rfl, h5, k3.trans k5⟩
set_option maxRecDepth 100000 in
set_option maxHeartbeats 1000000 in
theorem made_Htn (f : Nat) (hM : MadeSpec f) (K : Nat → Prop) (b : Nat) (ts : List Term) (op x y : Nat) (w : World) (h : DagAt K w b ts) (hG : Good ts) (hg : K 0) (hT : Tab w) (ho : (doW op 0 0).isSome = true) (hx : x < ts.length) (hy : y < ts.length) (hl : ts.length + (f + 1) < 1000000000000) (hcx : isC ts x = false) (hcy : isC ts y = false) (ht : turns op = true) (hop : op ≠ 28) (hxy : x = y) (hn : twiceN ts op x = none) :
    Calls Tryz.prog 86 #[.pointer (some ⟨b, 0, none⟩), .int .i64 op, .int .i64 x, .int .i64 y] w (MadePost K b w (ins ts (opT op x y), pos ts (opT op x y))) := by
  have hK1 := known_any K b x ts (by omega) hx w h
  have hK2 := fun w1 h1 => known_any K b y ts (by omega) hy w1 h1
  rw [hcx] at hK1
  rw [hcy] at hK2
  subst hxy
  have hlt' : ¬ (x : Int) < x := by omega
  have hA := among_turns op
  rw [ht] at hA
  have n28 : ((op : Int) == 28) = false := by simp; omega
  have hB := fun w => twice_no b _ x ts hn w
  clear hn
  have hO := fun w h => op_any K b _ x x ts (by omega) hx hx ho w h
  clear hcx hcy
  go_enter Tryz.func86, Tryz.ntmps86
  go_wp2_with fail
  refine hK1.mono ?_
  rintro r w1 ⟨rfl, b1⟩
  have h1 := h.below b1
  go_wp2_with fail
  refine (hK2 w1 h1).mono ?_
  rintro r w2 ⟨rfl, b2⟩
  have h2 := h1.below b2
  have hT2 := (hT.below b1).below b2
  have k2 : Kept K w w2 := (Kept.below b1).then_below b2
  have h3 := h2.alloc (.cells #[.int .i64 27, .int .i64 36, .int .i64 35, .int .i64 32, .int .i64 37, .int .i64 38, .int .i64 40] 3)
  have k3 := k2.then_alloc (.cells #[.int .i64 27, .int .i64 36, .int .i64 35, .int .i64 32, .int .i64 37, .int .i64 38, .int .i64 40] 3)
  have hT3 := hT2.alloc (.cells #[.int .i64 27, .int .i64 36, .int .i64 35, .int .i64 32, .int .i64 37, .int .i64 38, .int .i64 40] 3)
  clear hK1 hK2 b1 b2 h1 h2 hT2 k2 h hT
  go_wp2_with (first
    | (go_at_call 98; (with_reducible refine (hA _ _ (by simp)).mono ?_); rintro r w' ⟨rfl, rfl⟩)
    | fail)
  refine (hB _).mono ?_
  rintro r w4 ⟨rfl, rfl⟩
  go_wp2_with fail
  refine (hO _ h3).mono ?_
  rintro r w5 ⟨rfl, h5, k5⟩
  go_wp2_with fail
  go_ret
  exact ⟨rfl, h5, k3.trans k5⟩
set_option maxRecDepth 100000 in
set_option maxHeartbeats 1000000 in
theorem made_Gfs (f : Nat) (hM : MadeSpec f) (K : Nat → Prop) (b : Nat) (ts : List Term) (op x y : Nat) (w : World) (h : DagAt K w b ts) (hG : Good ts) (hg : K 0) (hT : Tab w) (ho : (doW op 0 0).isSome = true) (hx : x < ts.length) (hy : y < ts.length) (hl : ts.length + (f + 1) < 1000000000000) (hcx : isC ts x = false) (hcy : isC ts y = false) (ht : turns op = false) (hop : op = 28) (hxy : x = y) (nx : Nx) (hn : twiceN ts op x = some nx) (hok : nx.ok ts op x x) (hm : mz ts op x x < f + 1) :
    Calls Tryz.prog 86 #[.pointer (some ⟨b, 0, none⟩), .int .i64 op, .int .i64 x, .int .i64 y] w (MadePost K b w (nx.fin (madeF f))) := by
  have hK1 := known_any K b x ts (by omega) hx w h
  have hK2 := fun w1 h1 => known_any K b y ts (by omega) hy w1 h1
  rw [hcx] at hK1
  rw [hcy] at hK2
  subst hxy
  have hlt' : ¬ (x : Int) < x := by omega
  subst hop
  have hA : ∀ (g : Nat) (w : World), w.heap.size = g → Calls Tryz.prog 98 #[.int .i64 28, .slice (some ⟨g, 0, none⟩) 7 7] (w.alloc (.cells #[.int .i64 27, .int .i64 36, .int .i64 35, .int .i64 32, .int .i64 37, .int .i64 38, .int .i64 40] 3)) fun e w' =>
      e = .returned (.bool false) ∧ w.alloc (.cells #[.int .i64 27, .int .i64 36, .int .i64 35, .int .i64 32, .int .i64 37, .int .i64 38, .int .i64 40] 3) = w' := among_turns 28
  have hB := fun w h hT => twice_yes f hM K b _ x ts nx hn hok w h hg hT hx hm hl
  clear hok hn
  generalize nx.fin (madeF f) = R at hB ⊢
  clear hcx hcy
  go_enter Tryz.func86, Tryz.ntmps86
  go_wp2_with fail
  refine hK1.mono ?_
  rintro r w1 ⟨rfl, b1⟩
  have h1 := h.below b1
  go_wp2_with fail
  refine (hK2 w1 h1).mono ?_
  rintro r w2 ⟨rfl, b2⟩
  have h2 := h1.below b2
  have hT2 := (hT.below b1).below b2
  have k2 : Kept K w w2 := (Kept.below b1).then_below b2
  have h3 := h2.alloc (.cells #[.int .i64 27, .int .i64 36, .int .i64 35, .int .i64 32, .int .i64 37, .int .i64 38, .int .i64 40] 3)
  have k3 := k2.then_alloc (.cells #[.int .i64 27, .int .i64 36, .int .i64 35, .int .i64 32, .int .i64 37, .int .i64 38, .int .i64 40] 3)
  have hT3 := hT2.alloc (.cells #[.int .i64 27, .int .i64 36, .int .i64 35, .int .i64 32, .int .i64 37, .int .i64 38, .int .i64 40] 3)
  clear hK1 hK2 b1 b2 h1 h2 hT2 k2 h hT
  go_wp2_with (first
    | (go_at_call 98; (with_reducible refine (hA _ _ (by simp)).mono ?_); rintro r w' ⟨rfl, rfl⟩)
    | fail)
  refine (hB _ h3 hT3).mono ?_
  rintro r w5 ⟨rfl, h5, k5⟩
  go_wp2_with fail
  go_ret
  exact ⟨rfl, h5, k3.trans k5⟩
set_option maxRecDepth 100000 in
set_option maxHeartbeats 1000000 in
theorem made_Hfs (f : Nat) (hM : MadeSpec f) (K : Nat → Prop) (b : Nat) (ts : List Term) (op x y : Nat) (w : World) (h : DagAt K w b ts) (hG : Good ts) (hg : K 0) (hT : Tab w) (ho : (doW op 0 0).isSome = true) (hx : x < ts.length) (hy : y < ts.length) (hl : ts.length + (f + 1) < 1000000000000) (hcx : isC ts x = false) (hcy : isC ts y = false) (ht : turns op = false) (hop : op = 28) (hxy : x = y) (hn : twiceN ts op x = none) :
    Calls Tryz.prog 86 #[.pointer (some ⟨b, 0, none⟩), .int .i64 op, .int .i64 x, .int .i64 y] w (MadePost K b w (ins ts (opT op x y), pos ts (opT op x y))) := by
  have hK1 := known_any K b x ts (by omega) hx w h
  have hK2 := fun w1 h1 => known_any K b y ts (by omega) hy w1 h1
  rw [hcx] at hK1
  rw [hcy] at hK2
  subst hxy
  have hlt' : ¬ (x : Int) < x := by omega
  subst hop
  have hA : ∀ (g : Nat) (w : World), w.heap.size = g → Calls Tryz.prog 98 #[.int .i64 28, .slice (some ⟨g, 0, none⟩) 7 7] (w.alloc (.cells #[.int .i64 27, .int .i64 36, .int .i64 35, .int .i64 32, .int .i64 37, .int .i64 38, .int .i64 40] 3)) fun e w' =>
      e = .returned (.bool false) ∧ w.alloc (.cells #[.int .i64 27, .int .i64 36, .int .i64 35, .int .i64 32, .int .i64 37, .int .i64 38, .int .i64 40] 3) = w' := among_turns 28
  have hB := fun w => twice_no b _ x ts hn w
  clear hn
  have hO := fun w h => op_any K b _ x x ts (by omega) hx hx ho w h
  clear hcx hcy
  go_enter Tryz.func86, Tryz.ntmps86
  go_wp2_with fail
  refine hK1.mono ?_
  rintro r w1 ⟨rfl, b1⟩
  have h1 := h.below b1
  go_wp2_with fail
  refine (hK2 w1 h1).mono ?_
  rintro r w2 ⟨rfl, b2⟩
  have h2 := h1.below b2
  have hT2 := (hT.below b1).below b2
  have k2 : Kept K w w2 := (Kept.below b1).then_below b2
  have h3 := h2.alloc (.cells #[.int .i64 27, .int .i64 36, .int .i64 35, .int .i64 32, .int .i64 37, .int .i64 38, .int .i64 40] 3)
  have k3 := k2.then_alloc (.cells #[.int .i64 27, .int .i64 36, .int .i64 35, .int .i64 32, .int .i64 37, .int .i64 38, .int .i64 40] 3)
  have hT3 := hT2.alloc (.cells #[.int .i64 27, .int .i64 36, .int .i64 35, .int .i64 32, .int .i64 37, .int .i64 38, .int .i64 40] 3)
  clear hK1 hK2 b1 b2 h1 h2 hT2 k2 h hT
  go_wp2_with (first
    | (go_at_call 98; (with_reducible refine (hA _ _ (by simp)).mono ?_); rintro r w' ⟨rfl, rfl⟩)
    | fail)
  refine (hB _).mono ?_
  rintro r w4 ⟨rfl, rfl⟩
  go_wp2_with fail
  refine (hO _ h3).mono ?_
  rintro r w5 ⟨rfl, h5, k5⟩
  go_wp2_with fail
  go_ret
  exact ⟨rfl, h5, k3.trans k5⟩
set_option maxRecDepth 100000 in
set_option maxHeartbeats 1000000 in
theorem made_Gfn (f : Nat) (hM : MadeSpec f) (K : Nat → Prop) (b : Nat) (ts : List Term) (op x y : Nat) (w : World) (h : DagAt K w b ts) (hG : Good ts) (hg : K 0) (hT : Tab w) (ho : (doW op 0 0).isSome = true) (hx : x < ts.length) (hy : y < ts.length) (hl : ts.length + (f + 1) < 1000000000000) (hcx : isC ts x = false) (hcy : isC ts y = false) (ht : turns op = false) (hop : op ≠ 28) (hxy : x = y) (nx : Nx) (hn : twiceN ts op x = some nx) (hok : nx.ok ts op x x) (hm : mz ts op x x < f + 1) :
    Calls Tryz.prog 86 #[.pointer (some ⟨b, 0, none⟩), .int .i64 op, .int .i64 x, .int .i64 y] w (MadePost K b w (nx.fin (madeF f))) := by
  have hK1 := known_any K b x ts (by omega) hx w h
  have hK2 := fun w1 h1 => known_any K b y ts (by omega) hy w1 h1
  rw [hcx] at hK1
  rw [hcy] at hK2
  subst hxy
  have hlt' : ¬ (x : Int) < x := by omega
  have hA := among_turns op
  rw [ht] at hA
  have n28 : ((op : Int) == 28) = false := by simp; omega
  have hB := fun w h hT => twice_yes f hM K b _ x ts nx hn hok w h hg hT hx hm hl
  clear hok hn
  generalize nx.fin (madeF f) = R at hB ⊢
  clear hcx hcy
  go_enter Tryz.func86, Tryz.ntmps86
  go_wp2_with fail
  refine hK1.mono ?_
  rintro r w1 ⟨rfl, b1⟩
  have h1 := h.below b1
  go_wp2_with fail
  refine (hK2 w1 h1).mono ?_
  rintro r w2 ⟨rfl, b2⟩
  have h2 := h1.below b2
  have hT2 := (hT.below b1).below b2
  have k2 : Kept K w w2 := (Kept.below b1).then_below b2
  have h3 := h2.alloc (.cells #[.int .i64 27, .int .i64 36, .int .i64 35, .int .i64 32, .int .i64 37, .int .i64 38, .int .i64 40] 3)
  have k3 := k2.then_alloc (.cells #[.int .i64 27, .int .i64 36, .int .i64 35, .int .i64 32, .int .i64 37, .int .i64 38, .int .i64 40] 3)
  have hT3 := hT2.alloc (.cells #[.int .i64 27, .int .i64 36, .int .i64 35, .int .i64 32, .int .i64 37, .int .i64 38, .int .i64 40] 3)
  clear hK1 hK2 b1 b2 h1 h2 hT2 k2 h hT
  go_wp2_with (first
    | (go_at_call 98; (with_reducible refine (hA _ _ (by simp)).mono ?_); rintro r w' ⟨rfl, rfl⟩)
    | fail)
  refine (hB _ h3 hT3).mono ?_
  rintro r w5 ⟨rfl, h5, k5⟩
  go_wp2_with fail
  go_ret
  exact ⟨rfl, h5, k3.trans k5⟩
set_option maxRecDepth 100000 in
set_option maxHeartbeats 1000000 in
theorem made_Hfn (f : Nat) (hM : MadeSpec f) (K : Nat → Prop) (b : Nat) (ts : List Term) (op x y : Nat) (w : World) (h : DagAt K w b ts) (hG : Good ts) (hg : K 0) (hT : Tab w) (ho : (doW op 0 0).isSome = true) (hx : x < ts.length) (hy : y < ts.length) (hl : ts.length + (f + 1) < 1000000000000) (hcx : isC ts x = false) (hcy : isC ts y = false) (ht : turns op = false) (hop : op ≠ 28) (hxy : x = y) (hn : twiceN ts op x = none) :
    Calls Tryz.prog 86 #[.pointer (some ⟨b, 0, none⟩), .int .i64 op, .int .i64 x, .int .i64 y] w (MadePost K b w (ins ts (opT op x y), pos ts (opT op x y))) := by
  have hK1 := known_any K b x ts (by omega) hx w h
  have hK2 := fun w1 h1 => known_any K b y ts (by omega) hy w1 h1
  rw [hcx] at hK1
  rw [hcy] at hK2
  subst hxy
  have hlt' : ¬ (x : Int) < x := by omega
  have hA := among_turns op
  rw [ht] at hA
  have n28 : ((op : Int) == 28) = false := by simp; omega
  have hB := fun w => twice_no b _ x ts hn w
  clear hn
  have hO := fun w h => op_any K b _ x x ts (by omega) hx hx ho w h
  clear hcx hcy
  go_enter Tryz.func86, Tryz.ntmps86
  go_wp2_with fail
  refine hK1.mono ?_
  rintro r w1 ⟨rfl, b1⟩
  have h1 := h.below b1
  go_wp2_with fail
  refine (hK2 w1 h1).mono ?_
  rintro r w2 ⟨rfl, b2⟩
  have h2 := h1.below b2
  have hT2 := (hT.below b1).below b2
  have k2 : Kept K w w2 := (Kept.below b1).then_below b2
  have h3 := h2.alloc (.cells #[.int .i64 27, .int .i64 36, .int .i64 35, .int .i64 32, .int .i64 37, .int .i64 38, .int .i64 40] 3)
  have k3 := k2.then_alloc (.cells #[.int .i64 27, .int .i64 36, .int .i64 35, .int .i64 32, .int .i64 37, .int .i64 38, .int .i64 40] 3)
  have hT3 := hT2.alloc (.cells #[.int .i64 27, .int .i64 36, .int .i64 35, .int .i64 32, .int .i64 37, .int .i64 38, .int .i64 40] 3)
  clear hK1 hK2 b1 b2 h1 h2 hT2 k2 h hT
  go_wp2_with (first
    | (go_at_call 98; (with_reducible refine (hA _ _ (by simp)).mono ?_); rintro r w' ⟨rfl, rfl⟩)
    | fail)
  refine (hB _).mono ?_
  rintro r w4 ⟨rfl, rfl⟩
  go_wp2_with fail
  refine (hO _ h3).mono ?_
  rintro r w5 ⟨rfl, h5, k5⟩
  go_wp2_with fail
  go_ret
  exact ⟨rfl, h5, k3.trans k5⟩
theorem made_step (f : Nat) (hM : MadeSpec f) : MadeSpec (f + 1) := by
  intro K b ts op x y w h hG hg hT ho hx hy hm hl
  have hnx := next_ok hG ho hx hy
  have e1 : madeF (f + 1) ts op x y = (next ts op x y).fin (madeF f) := rfl
  rw [e1]
  clear e1
  have t28 : turns 28 = false := by decide
  revert hnx
  unfold next
  by_cases c1 : isC ts x = true ∧ isC ts y = true
  · rw [if_pos c1]
    intro hnx
    exact made_A f hM K b ts op x y w h hG hg hT ho hx hy hl c1.1 c1.2 _ rfl (doW_lt ho (hG.wd_lt hx) (hG.wd_lt hy))
  rw [if_neg c1]
  by_cases c2 : turns op = true ∧ ((isC ts x = true ∧ isC ts y = false) ∨ (isC ts x = false ∧ isC ts y = false ∧ y < x))
  · rw [if_pos c2]
    intro hnx
    have hW : Went ts op x y ts op y x := hnx
    have hl2 := hW.less
    obtain ⟨ht, ⟨hc1, hc2⟩ | ⟨hc1, hc2, hlt⟩⟩ := c2
    · exact made_B1 f hM K b ts op x y w h hG hg hT ho hx hy hl hc1 hc2 ht (by omega)
    · exact made_B2 f hM K b ts op x y w h hG hg hT ho hx hy hl hc1 hc2 ht (by omega) hlt
  rw [if_neg c2]
  by_cases c3 : op = 28 ∧ isC ts y = true
  · rw [if_pos c3]
    intro hnx
    have hcx : isC ts x = false := by
      cases e : isC ts x with
      | false => rfl
      | true => exact absurd ⟨e, c3.2⟩ c1
    exact made_C f hM K b ts op x y w h hG hg hT ho hx hy hl hcx c3.2 c3.1 hnx hm
  rw [if_neg c3]
  cases hcy : isC ts y with
  | true =>
    have hcx : isC ts x = false := by
      cases e : isC ts x with
      | false => rfl
      | true => exact absurd ⟨e, hcy⟩ c1
    have hop : op ≠ 28 := fun e => c3 ⟨e, hcy⟩
    have hxy : x ≠ y := by rintro rfl; rw [hcx] at hcy; cases hcy
    have hok := byN_ok hG ho hx hy hcx hcy
    rw [if_pos rfl]
    cases hn : byN ts op x y (wd ts y) with
    | some nx =>
      intro _
      cases ht : turns op with
      | true => exact made_Dt f hM K b ts op x y w h hG hg hT ho hx hy hl hcx hcy ht nx hn hop hm hok
      | false => exact made_Df f hM K b ts op x y w h hG hg hT ho hx hy hl hcx hcy ht nx hn hop hm hok
    | none =>
      simp only [if_neg hxy]
      intro _
      cases ht : turns op with
      | true => exact made_Et f hM K b ts op x y w h hG hg hT ho hx hy hl hcx hcy ht hn hxy hop hm hok
      | false => exact made_Ef f hM K b ts op x y w h hG hg hT ho hx hy hl hcx hcy ht hn hxy hop hm hok
  | false =>
    rw [if_neg (by decide)]
    by_cases hxy : x = y
    · simp only [if_pos hxy]
      have hcx : isC ts x = false := by rw [hxy]; exact hcy
      have hsub : op = 28 → turns op = false := by rintro rfl; exact t28
      cases hn : twiceN ts op x with
      | some nx =>
        intro hnx
        have hok : nx.ok ts op x x := by
          have : nx.ok ts op x y := hnx
          rw [← hxy] at this
          exact this
        have hm2 : mz ts op x x < f + 1 := by rw [← hxy] at hm; exact hm
        by_cases hop : op = 28
        · exact made_Gfs f hM K b ts op x y w h hG hg hT ho hx hy hl hcx hcy (hsub hop) hop hxy nx hn hok hm2
        · cases ht : turns op with
          | true => exact made_Gtn f hM K b ts op x y w h hG hg hT ho hx hy hl hcx hcy ht hop hxy nx hn hok hm2
          | false => exact made_Gfn f hM K b ts op x y w h hG hg hT ho hx hy hl hcx hcy ht hop hxy nx hn hok hm2
      | none =>
        intro _
        by_cases hop : op = 28
        · exact made_Hfs f hM K b ts op x y w h hG hg hT ho hx hy hl hcx hcy (hsub hop) hop hxy hn
        · cases ht : turns op with
          | true => exact made_Htn f hM K b ts op x y w h hG hg hT ho hx hy hl hcx hcy ht hop hxy hn
          | false => exact made_Hfn f hM K b ts op x y w h hG hg hT ho hx hy hl hcx hcy ht hop hxy hn
    · simp only [if_neg hxy]
      intro _
      cases hcx : isC ts x with
      | true =>
        have ht : turns op = false := by
          cases e : turns op with
          | false => rfl
          | true => exact absurd ⟨e, Or.inl ⟨hcx, hcy⟩⟩ c2
        by_cases hop : op = 28
        · exact made_F1s f hM K b ts op x y w h hG hg hT ho hx hy hl hcx hcy ht hop hxy
        · exact made_F1n f hM K b ts op x y w h hG hg hT ho hx hy hl hcx hcy ht hop hxy
      | false =>
        by_cases hop : op = 28
        · exact made_F2s f hM K b ts op x y w h hG hg hT ho hx hy hl hcx hcy (by rw [hop]; exact t28) hop hxy
        · cases ht : turns op with
          | false => exact made_F2n f hM K b ts op x y w h hG hg hT ho hx hy hl hcx hcy ht hop hxy
          | true => exact made_F3n f hM K b ts op x y w h hG hg hT ho hx hy hl hcx hcy ht hop (fun hlt => c2 ⟨ht, Or.inr ⟨hcx, hcy, hlt⟩⟩) hxy
/-- A reckoning's term, made simple: whatever terms. -/
theorem made_any : ∀ f, MadeSpec f
  | 0 => fun K b ts op x y w h hG hg hT ho hx hy hm hl => by omega
  | f + 1 => made_step f (made_any f)
end Go.Proofs.YtaiggfknighhgaaGreatDoor
