/- simp: made, walked case by case and joined (written by genM.py). -/
/- simp.Op. -/
/- lift.one. -/
import Derived.Test.YtaiggfknighhgaaGreatDoorSByX
import Derived.Test.YtaiggfknighhgaaGreatDoorIStart
import Derived.Test.YtaiggfknighhgaaGreatDoorIAny
import Derived.Deep.QuietTactic
set_option linter.unusedVariables false
set_option linter.unusedSimpArgs false
namespace Go.Proofs.YtaiggfknighhgaaGreatDoor
open Go.RowKit Go.Maps Go.MapKept

set_option maxRecDepth 100000 in
set_option maxHeartbeats 1000000 in
theorem made_A (f : Nat) (hM : MadeSpec f) (K : Nat → Prop) (b : Nat) (ts : List Term) (op x y : Nat) (w : World) (h : DagAt K w b ts) (hG : Good ts) (hg : K 0) (hT : Tab w) (ho : (doW op 0 0).isSome = true) (hx : x < ts.length) (hy : y < ts.length) (hl : ts.length + (f + 1) < 1000000000000) (hcx : isC ts x = true) (hcy : isC ts y = true) (u : Nat) (hu : (doW op (wd ts x) (wd ts y)).getD 0 = u) (hul : u < 4294967296) :
    Calls Tryz.prog 86 #[.pointer (some ⟨b, 0, none⟩), .int .i64 op, .int .i64 x, .int .i64 y] w (MadePost K b w (ins ts (constT u), pos ts (constT u))) := by
  have hK1 := known_any K b x ts (by omega) hx w h
  have hK2 := fun w1 h1 => known_any K b y ts (by omega) hy w1 h1
  rw [hcx] at hK1
  rw [hcy] at hK2
  have hA := among_turns op
  have hDo := fun w => do_any op ho (wd ts x) (wd ts y) (hG.wd_lt hx) (hG.wd_lt hy) w
  rw [hu] at hDo
  clear hu
  clear hcx hcy
  go_enter Tryz.func86, Tryz.ntmps86
  go_wp2_with fail
  refine hK1.mono ?_
  rintro r w1 ⟨rfl, b1⟩
  have h1 := h.below b1
  go_wp2_with fail
  refine (hK2 w1 h1).mono ?_
  rintro r w2 ⟨rfl, b2⟩
  have h2 := h1.below b2
  have hT2 := (hT.below b1).below b2
  have k2 : Kept K w w2 := (Kept.below b1).then_below b2
  have h3 := h2.alloc (.cells #[.int .i64 27, .int .i64 36, .int .i64 35, .int .i64 32, .int .i64 37, .int .i64 38, .int .i64 40] 3)
  have k3 := k2.then_alloc (.cells #[.int .i64 27, .int .i64 36, .int .i64 35, .int .i64 32, .int .i64 37, .int .i64 38, .int .i64 40] 3)
  have hT3 := hT2.alloc (.cells #[.int .i64 27, .int .i64 36, .int .i64 35, .int .i64 32, .int .i64 37, .int .i64 38, .int .i64 40] 3)
  clear hK1 hK2 b1 b2 h1 h2 hT2 k2 h hT
  go_wp2_with (first
    | (go_at_call 98; (with_reducible refine (hA _ _ (by simp)).mono ?_); rintro r w' ⟨rfl, rfl⟩)
    | fail)
  refine (hDo _).mono ?_
  rintro r w4 ⟨rfl, rfl⟩
  go_wp2_with fail
  refine (const_any K b u ts hul (by omega) _ h3).mono ?_
  rintro r w5 ⟨rfl, h5, k5⟩
  go_wp2_with fail
  go_ret
  exact ⟨rfl, h5, k3.trans k5⟩
set_option maxRecDepth 100000 in
set_option maxHeartbeats 1000000 in
theorem made_B1 (f : Nat) (hM : MadeSpec f) (K : Nat → Prop) (b : Nat) (ts : List Term) (op x y : Nat) (w : World) (h : DagAt K w b ts) (hG : Good ts) (hg : K 0) (hT : Tab w) (ho : (doW op 0 0).isSome = true) (hx : x < ts.length) (hy : y < ts.length) (hl : ts.length + (f + 1) < 1000000000000) (hcx : isC ts x = true) (hcy : isC ts y = false) (ht : turns op = true) (hm : mz ts op y x < f) :
    Calls Tryz.prog 86 #[.pointer (some ⟨b, 0, none⟩), .int .i64 op, .int .i64 x, .int .i64 y] w (MadePost K b w (madeF f ts op y x)) := by
  have hK1 := known_any K b x ts (by omega) hx w h
  have hK2 := fun w1 h1 => known_any K b y ts (by omega) hy w1 h1
  rw [hcx] at hK1
  rw [hcy] at hK2
  have hA := among_turns op
  rw [ht] at hA
  have hS := hM K b ts op y x
  generalize madeF f ts op y x = R at hS ⊢
  clear hcx hcy
  go_enter Tryz.func86, Tryz.ntmps86
  go_wp2_with fail
  refine hK1.mono ?_
  rintro r w1 ⟨rfl, b1⟩
  have h1 := h.below b1
  go_wp2_with fail
  refine (hK2 w1 h1).mono ?_
  rintro r w2 ⟨rfl, b2⟩
  have h2 := h1.below b2
  have hT2 := (hT.below b1).below b2
  have k2 : Kept K w w2 := (Kept.below b1).then_below b2
  have h3 := h2.alloc (.cells #[.int .i64 27, .int .i64 36, .int .i64 35, .int .i64 32, .int .i64 37, .int .i64 38, .int .i64 40] 3)
  have k3 := k2.then_alloc (.cells #[.int .i64 27, .int .i64 36, .int .i64 35, .int .i64 32, .int .i64 37, .int .i64 38, .int .i64 40] 3)
  have hT3 := hT2.alloc (.cells #[.int .i64 27, .int .i64 36, .int .i64 35, .int .i64 32, .int .i64 37, .int .i64 38, .int .i64 40] 3)
  clear hK1 hK2 b1 b2 h1 h2 hT2 k2 h hT
  go_wp2_with (first
    | (go_at_call 98; (with_reducible refine (hA _ _ (by simp)).mono ?_); rintro r w' ⟨rfl, rfl⟩)
    | fail)
  refine (hS _ h3 hG hg hT3 ho hy hx hm (by omega)).mono ?_
  rintro r w5 ⟨rfl, h5, k5⟩
  go_wp2_with fail
  go_ret
  exact ⟨rfl, h5, k3.trans k5⟩
set_option maxRecDepth 100000 in
set_option maxHeartbeats 1000000 in
theorem made_B2 (f : Nat) (hM : MadeSpec f) (K : Nat → Prop) (b : Nat) (ts : List Term) (op x y : Nat) (w : World) (h : DagAt K w b ts) (hG : Good ts) (hg : K 0) (hT : Tab w) (ho : (doW op 0 0).isSome = true) (hx : x < ts.length) (hy : y < ts.length) (hl : ts.length + (f + 1) < 1000000000000) (hcx : isC ts x = false) (hcy : isC ts y = false) (ht : turns op = true) (hm : mz ts op y x < f) (hlt : y < x) :
    Calls Tryz.prog 86 #[.pointer (some ⟨b, 0, none⟩), .int .i64 op, .int .i64 x, .int .i64 y] w (MadePost K b w (madeF f ts op y x)) := by
  have hK1 := known_any K b x ts (by omega) hx w h
  have hK2 := fun w1 h1 => known_any K b y ts (by omega) hy w1 h1
  rw [hcx] at hK1
  rw [hcy] at hK2
  have hA := among_turns op
  rw [ht] at hA
  have hS := hM K b ts op y x
  generalize madeF f ts op y x = R at hS ⊢
  have hlt' : (y : Int) < x := by omega
  clear hcx hcy
  go_enter Tryz.func86, Tryz.ntmps86
  go_wp2_with fail
  refine hK1.mono ?_
  rintro r w1 ⟨rfl, b1⟩
  have h1 := h.below b1
  go_wp2_with fail
  refine (hK2 w1 h1).mono ?_
  rintro r w2 ⟨rfl, b2⟩
  have h2 := h1.below b2
  have hT2 := (hT.below b1).below b2
  have k2 : Kept K w w2 := (Kept.below b1).then_below b2
  have h3 := h2.alloc (.cells #[.int .i64 27, .int .i64 36, .int .i64 35, .int .i64 32, .int .i64 37, .int .i64 38, .int .i64 40] 3)
  have k3 := k2.then_alloc (.cells #[.int .i64 27, .int .i64 36, .int .i64 35, .int .i64 32, .int .i64 37, .int .i64 38, .int .i64 40] 3)
  have hT3 := hT2.alloc (.cells #[.int .i64 27, .int .i64 36, .int .i64 35, .int .i64 32, .int .i64 37, .int .i64 38, .int .i64 40] 3)
  clear hK1 hK2 b1 b2 h1 h2 hT2 k2 h hT
  go_wp2_with (first
    | (go_at_call 98; (with_reducible refine (hA _ _ (by simp)).mono ?_); rintro r w' ⟨rfl, rfl⟩)
    | fail)
  refine (hS _ h3 hG hg hT3 ho hy hx hm (by omega)).mono ?_
  rintro r w5 ⟨rfl, h5, k5⟩
  go_wp2_with fail
  go_ret
  exact ⟨rfl, h5, k3.trans k5⟩
set_option maxRecDepth 100000 in
set_option maxHeartbeats 1000000 in
theorem made_C (f : Nat) (hM : MadeSpec f) (K : Nat → Prop) (b : Nat) (ts : List Term) (op x y : Nat) (w : World) (h : DagAt K w b ts) (hG : Good ts) (hg : K 0) (hT : Tab w) (ho : (doW op 0 0).isSome = true) (hx : x < ts.length) (hy : y < ts.length) (hl : ts.length + (f + 1) < 1000000000000) (hcx : isC ts x = false) (hcy : isC ts y = true) (hop : op = 28) (hW : Went ts op x y (ins ts (constT (us (-(wd ts y : Int))))) 27 x (pos ts (constT (us (-(wd ts y : Int)))))) (hm : mz ts op x y < f + 1) :
    Calls Tryz.prog 86 #[.pointer (some ⟨b, 0, none⟩), .int .i64 op, .int .i64 x, .int .i64 y] w (MadePost K b w (madeF f (ins ts (constT (us (-(wd ts y : Int))))) 27 x (pos ts (constT (us (-(wd ts y : Int))))))) := by
  have hK1 := known_any K b x ts (by omega) hx w h
  have hK2 := fun w1 h1 => known_any K b y ts (by omega) hy w1 h1
  rw [hcx] at hK1
  rw [hcy] at hK2
  have hA := among_turns op
  subst hop
  have hA : ∀ (g : Nat) (w : World), w.heap.size = g → Calls Tryz.prog 98 #[.int .i64 28, .slice (some ⟨g, 0, none⟩) 7 7] (w.alloc (.cells #[.int .i64 27, .int .i64 36, .int .i64 35, .int .i64 32, .int .i64 37, .int .i64 38, .int .i64 40] 3)) fun e w' =>
      e = .returned (.bool false) ∧ w.alloc (.cells #[.int .i64 27, .int .i64 36, .int .i64 35, .int .i64 32, .int .i64 37, .int .i64 38, .int .i64 40] 3) = w' := among_turns 28
  have hneg : -(wd ts y : Int) % 4294967296 = ((us (-(wd ts y : Int)) : Nat) : Int) := (us_cast _).symm
  have hul := us_lt (-(wd ts y : Int))
  have hC := fun w h => const_any K b (us (-(wd ts y : Int))) ts hul (by omega) w h
  have hS := hM K b (ins ts (constT (us (-(wd ts y : Int))))) 27 x (pos ts (constT (us (-(wd ts y : Int)))))
  generalize madeF f (ins ts (constT (us (-(wd ts y : Int))))) 27 x (pos ts (constT (us (-(wd ts y : Int))))) = R at hS ⊢
  clear hcx hcy
  go_enter Tryz.func86, Tryz.ntmps86
  go_wp2_with fail
  refine hK1.mono ?_
  rintro r w1 ⟨rfl, b1⟩
  have h1 := h.below b1
  go_wp2_with fail
  refine (hK2 w1 h1).mono ?_
  rintro r w2 ⟨rfl, b2⟩
  have h2 := h1.below b2
  have hT2 := (hT.below b1).below b2
  have k2 : Kept K w w2 := (Kept.below b1).then_below b2
  have h3 := h2.alloc (.cells #[.int .i64 27, .int .i64 36, .int .i64 35, .int .i64 32, .int .i64 37, .int .i64 38, .int .i64 40] 3)
  have k3 := k2.then_alloc (.cells #[.int .i64 27, .int .i64 36, .int .i64 35, .int .i64 32, .int .i64 37, .int .i64 38, .int .i64 40] 3)
  have hT3 := hT2.alloc (.cells #[.int .i64 27, .int .i64 36, .int .i64 35, .int .i64 32, .int .i64 37, .int .i64 38, .int .i64 40] 3)
  clear hK1 hK2 b1 b2 h1 h2 hT2 k2 h hT
  go_wp2_with (first
    | (go_at_call 98; (with_reducible refine (hA _ _ (by simp)).mono ?_); rintro r w' ⟨rfl, rfl⟩)
    | fail)
  rw [hneg]
  refine (hC _ h3).mono ?_
  rintro r w4 ⟨rfl, h4, k4⟩
  go_wp2_with fail
  refine (hS _ h4 hW.good hg (hT3.kept k4 hg) hW.ok hW.ina hW.inb (by have := hW.less; omega) (by have := hW.len; omega)).mono ?_
  rintro r w5 ⟨rfl, h5, k5⟩
  go_wp2_with fail
  go_ret
  exact ⟨rfl, h5, k3.trans (k4.trans k5)⟩
set_option maxRecDepth 100000 in
set_option maxHeartbeats 1000000 in
theorem made_Dt (f : Nat) (hM : MadeSpec f) (K : Nat → Prop) (b : Nat) (ts : List Term) (op x y : Nat) (w : World) (h : DagAt K w b ts) (hG : Good ts) (hg : K 0) (hT : Tab w) (ho : (doW op 0 0).isSome = true) (hx : x < ts.length) (hy : y < ts.length) (hl : ts.length + (f + 1) < 1000000000000) (hcx : isC ts x = false) (hcy : isC ts y = true) (ht : turns op = true) (nx : Nx) (hn : byN ts op x y (wd ts y) = some nx) (hop : op ≠ 28) (hm : mz ts op x y < f + 1) (hok : ∀ nx, byN ts op x y (wd ts y) = some nx → nx.ok ts op x y) :
    Calls Tryz.prog 86 #[.pointer (some ⟨b, 0, none⟩), .int .i64 op, .int .i64 x, .int .i64 y] w (MadePost K b w (nx.fin (madeF f))) := by
  have hK1 := known_any K b x ts (by omega) hx w h
  have hK2 := fun w1 h1 => known_any K b y ts (by omega) hy w1 h1
  rw [hcx] at hK1
  rw [hcy] at hK2
  have hA := among_turns op
  rw [ht] at hA
  have hB : ∀ w, DagAt K w b ts → Tab w → Calls Tryz.prog 99 #[.pointer (some ⟨b, 0, none⟩), .int .i64 op, .int .i64 x, .int .i64 y, .int .u32 (wd ts y : Nat)] w (IsPost K b w (nx.fin (madeF f))) := by
    intro w h hT
    have hq := byWord_any f hM K b ts op x y (wd ts y) (hG.wd_lt hy) w h hG hg hT ho hx hl hm hok
    rw [hn] at hq
    exact hq
  have n28 : ((op : Int) == 28) = false := by simp; omega
  clear hok hn
  generalize nx.fin (madeF f) = R at hB ⊢
  clear hcx hcy
  go_enter Tryz.func86, Tryz.ntmps86
  go_wp2_with fail
  refine hK1.mono ?_
  rintro r w1 ⟨rfl, b1⟩
  have h1 := h.below b1
  go_wp2_with fail
  refine (hK2 w1 h1).mono ?_
  rintro r w2 ⟨rfl, b2⟩
  have h2 := h1.below b2
  have hT2 := (hT.below b1).below b2
  have k2 : Kept K w w2 := (Kept.below b1).then_below b2
  have h3 := h2.alloc (.cells #[.int .i64 27, .int .i64 36, .int .i64 35, .int .i64 32, .int .i64 37, .int .i64 38, .int .i64 40] 3)
  have k3 := k2.then_alloc (.cells #[.int .i64 27, .int .i64 36, .int .i64 35, .int .i64 32, .int .i64 37, .int .i64 38, .int .i64 40] 3)
  have hT3 := hT2.alloc (.cells #[.int .i64 27, .int .i64 36, .int .i64 35, .int .i64 32, .int .i64 37, .int .i64 38, .int .i64 40] 3)
  clear hK1 hK2 b1 b2 h1 h2 hT2 k2 h hT
  go_wp2_with (first
    | (go_at_call 98; (with_reducible refine (hA _ _ (by simp)).mono ?_); rintro r w' ⟨rfl, rfl⟩)
    | fail)
  refine (hB _ h3 hT3).mono ?_
  rintro r w5 ⟨rfl, h5, k5⟩
  go_wp2_with fail
  go_ret
  exact ⟨rfl, h5, k3.trans k5⟩
set_option maxRecDepth 100000 in
set_option maxHeartbeats 1000000 in
theorem made_Et (f : Nat) (hM : MadeSpec f) (K : Nat → Prop) (b : Nat) (ts : List Term) (op x y : Nat) (w : World) (h : DagAt K w b ts) (hG : Good ts) (hg : K 0) (hT : Tab w) (ho : (doW op 0 0).isSome = true) (hx : x < ts.length) (hy : y < ts.length) (hl : ts.length + (f + 1) < 1000000000000) (hcx : isC ts x = false) (hcy : isC ts y = true) (ht : turns op = true) (hn : byN ts op x y (wd ts y) = none) (hxy : x ≠ y) (hop : op ≠ 28) (hm : mz ts op x y < f + 1) (hok : ∀ nx, byN ts op x y (wd ts y) = some nx → nx.ok ts op x y) :
    Calls Tryz.prog 86 #[.pointer (some ⟨b, 0, none⟩), .int .i64 op, .int .i64 x, .int .i64 y] w (MadePost K b w (ins ts (opT op x y), pos ts (opT op x y))) := by
  have hK1 := known_any K b x ts (by omega) hx w h
  have hK2 := fun w1 h1 => known_any K b y ts (by omega) hy w1 h1
  rw [hcx] at hK1
  rw [hcy] at hK2
  have hA := among_turns op
  rw [ht] at hA
  have hB : ∀ w, DagAt K w b ts → Tab w → Calls Tryz.prog 99 #[.pointer (some ⟨b, 0, none⟩), .int .i64 op, .int .i64 x, .int .i64 y, .int .u32 (wd ts y : Nat)] w (NonePost K b w ts) := by
    intro w h hT
    have hq := byWord_any f hM K b ts op x y (wd ts y) (hG.wd_lt hy) w h hG hg hT ho hx hl hm hok
    rw [hn] at hq
    exact hq
  have n28 : ((op : Int) == 28) = false := by simp; omega
  clear hok hn
  have hO := fun w h => op_any K b _ x y ts (by omega) hx hy ho w h
  have hne : ((x : Int) == y) = false := by simp; omega
  clear hcx hcy
  go_enter Tryz.func86, Tryz.ntmps86
  go_wp2_with fail
  refine hK1.mono ?_
  rintro r w1 ⟨rfl, b1⟩
  have h1 := h.below b1
  go_wp2_with fail
  refine (hK2 w1 h1).mono ?_
  rintro r w2 ⟨rfl, b2⟩
  have h2 := h1.below b2
  have hT2 := (hT.below b1).below b2
  have k2 : Kept K w w2 := (Kept.below b1).then_below b2
  have h3 := h2.alloc (.cells #[.int .i64 27, .int .i64 36, .int .i64 35, .int .i64 32, .int .i64 37, .int .i64 38, .int .i64 40] 3)
  have k3 := k2.then_alloc (.cells #[.int .i64 27, .int .i64 36, .int .i64 35, .int .i64 32, .int .i64 37, .int .i64 38, .int .i64 40] 3)
  have hT3 := hT2.alloc (.cells #[.int .i64 27, .int .i64 36, .int .i64 35, .int .i64 32, .int .i64 37, .int .i64 38, .int .i64 40] 3)
  clear hK1 hK2 b1 b2 h1 h2 hT2 k2 h hT
  go_wp2_with (first
    | (go_at_call 98; (with_reducible refine (hA _ _ (by simp)).mono ?_); rintro r w' ⟨rfl, rfl⟩)
    | fail)
  refine (hB _ h3 hT3).mono ?_
  rintro r w4 ⟨rfl, h4, k4⟩
  go_wp2_with fail
  refine (hO _ h4).mono ?_
  rintro r w5 ⟨rfl, h5, k5⟩
  go_wp2_with fail
  go_ret
  exact ⟨rfl, h5, k3.trans (k4.trans k5)⟩
set_option maxRecDepth 100000 in
set_option maxHeartbeats 1000000 in
theorem made_Df (f : Nat) (hM : MadeSpec f) (K : Nat → Prop) (b : Nat) (ts : List Term) (op x y : Nat) (w : World) (h : DagAt K w b ts) (hG : Good ts) (hg : K 0) (hT : Tab w) (ho : (doW op 0 0).isSome = true) (hx : x < ts.length) (hy : y < ts.length) (hl : ts.length + (f + 1) < 1000000000000) (hcx : isC ts x = false) (hcy : isC ts y = true) (ht : turns op = false) (nx : Nx) (hn : byN ts op x y (wd ts y) = some nx) (hop : op ≠ 28) (hm : mz ts op x y < f + 1) (hok : ∀ nx, byN ts op x y (wd ts y) = some nx → nx.ok ts op x y) :
    Calls Tryz.prog 86 #[.pointer (some ⟨b, 0, none⟩), .int .i64 op, .int .i64 x, .int .i64 y] w (MadePost K b w (nx.fin (madeF f))) := by
  have hK1 := known_any K b x ts (by omega) hx w h
  have hK2 := fun w1 h1 => known_any K b y ts (by omega) hy w1 h1
  rw [hcx] at hK1
  rw [hcy] at hK2
  have hA := among_turns op
  rw [ht] at hA
  have hB : ∀ w, DagAt K w b ts → Tab w → Calls Tryz.prog 99 #[.pointer (some ⟨b, 0, none⟩), .int .i64 op, .int .i64 x, .int .i64 y, .int .u32 (wd ts y : Nat)] w (IsPost K b w (nx.fin (madeF f))) := by
    intro w h hT
    have hq := byWord_any f hM K b ts op x y (wd ts y) (hG.wd_lt hy) w h hG hg hT ho hx hl hm hok
    rw [hn] at hq
    exact hq
  have n28 : ((op : Int) == 28) = false := by simp; omega
  clear hok hn
  generalize nx.fin (madeF f) = R at hB ⊢
  clear hcx hcy
  go_enter Tryz.func86, Tryz.ntmps86
  go_wp2_with fail
  refine hK1.mono ?_
  rintro r w1 ⟨rfl, b1⟩
  have h1 := h.below b1
  go_wp2_with fail
  refine (hK2 w1 h1).mono ?_
  rintro r w2 ⟨rfl, b2⟩
  have h2 := h1.below b2
  have hT2 := (hT.below b1).below b2
  have k2 : Kept K w w2 := (Kept.below b1).then_below b2
  have h3 := h2.alloc (.cells #[.int .i64 27, .int .i64 36, .int .i64 35, .int .i64 32, .int .i64 37, .int .i64 38, .int .i64 40] 3)
  have k3 := k2.then_alloc (.cells #[.int .i64 27, .int .i64 36, .int .i64 35, .int .i64 32, .int .i64 37, .int .i64 38, .int .i64 40] 3)
  have hT3 := hT2.alloc (.cells #[.int .i64 27, .int .i64 36, .int .i64 35, .int .i64 32, .int .i64 37, .int .i64 38, .int .i64 40] 3)
  clear hK1 hK2 b1 b2 h1 h2 hT2 k2 h hT
  go_wp2_with (first
    | (go_at_call 98; (with_reducible refine (hA _ _ (by simp)).mono ?_); rintro r w' ⟨rfl, rfl⟩)
    | fail)
  refine (hB _ h3 hT3).mono ?_
  rintro r w5 ⟨rfl, h5, k5⟩
  go_wp2_with fail
  go_ret
  exact ⟨rfl, h5, k3.trans k5⟩
set_option maxRecDepth 100000 in
set_option maxHeartbeats 1000000 in
theorem made_Ef (f : Nat) (hM : MadeSpec f) (K : Nat → Prop) (b : Nat) (ts : List Term) (op x y : Nat) (w : World) (h : DagAt K w b ts) (hG : Good ts) (hg : K 0) (hT : Tab w) (ho : (doW op 0 0).isSome = true) (hx : x < ts.length) (hy : y < ts.length) (hl : ts.length + (f + 1) < 1000000000000) (hcx : isC ts x = false) (hcy : isC ts y = true) (ht : turns op = false) (hn : byN ts op x y (wd ts y) = none) (hxy : x ≠ y) (hop : op ≠ 28) (hm : mz ts op x y < f + 1) (hok : ∀ nx, byN ts op x y (wd ts y) = some nx → nx.ok ts op x y) :
    Calls Tryz.prog 86 #[.pointer (some ⟨b, 0, none⟩), .int .i64 op, .int .i64 x, .int .i64 y] w (MadePost K b w (ins ts (opT op x y), pos ts (opT op x y))) := by
  have hK1 := known_any K b x ts (by omega) hx w h
  have hK2 := fun w1 h1 => known_any K b y ts (by omega) hy w1 h1
  rw [hcx] at hK1
  rw [hcy] at hK2
  have hA := among_turns op
  rw [ht] at hA
  have hB : ∀ w, DagAt K w b ts → Tab w → Calls Tryz.prog 99 #[.pointer (some ⟨b, 0, none⟩), .int .i64 op, .int .i64 x, .int .i64 y, .int .u32 (wd ts y : Nat)] w (NonePost K b w ts) := by
    intro w h hT
    have hq := byWord_any f hM K b ts op x y (wd ts y) (hG.wd_lt hy) w h hG hg hT ho hx hl hm hok
    rw [hn] at hq
    exact hq
  have n28 : ((op : Int) == 28) = false := by simp; omega
  clear hok hn
  have hO := fun w h => op_any K b _ x y ts (by omega) hx hy ho w h
  have hne : ((x : Int) == y) = false := by simp; omega
  clear hcx hcy
  go_enter Tryz.func86, Tryz.ntmps86
  go_wp2_with fail
  refine hK1.mono ?_
  rintro r w1 ⟨rfl, b1⟩
  have h1 := h.below b1
  go_wp2_with fail
  refine (hK2 w1 h1).mono ?_
  rintro r w2 ⟨rfl, b2⟩
  have h2 := h1.below b2
  have hT2 := (hT.below b1).below b2
  have k2 : Kept K w w2 := (Kept.below b1).then_below b2
  have h3 := h2.alloc (.cells #[.int .i64 27, .int .i64 36, .int .i64 35, .int .i64 32, .int .i64 37, .int .i64 38, .int .i64 40] 3)
  have k3 := k2.then_alloc (.cells #[.int .i64 27, .int .i64 36, .int .i64 35, .int .i64 32, .int .i64 37, .int .i64 38, .int .i64 40] 3)
  have hT3 := hT2.alloc (.cells #[.int .i64 27, .int .i64 36, .int .i64 35, .int .i64 32, .int .i64 37, .int .i64 38, .int .i64 40] 3)
  clear hK1 hK2 b1 b2 h1 h2 hT2 k2 h hT
  go_wp2_with (first
    | (go_at_call 98; (with_reducible refine (hA _ _ (by simp)).mono ?_); rintro r w' ⟨rfl, rfl⟩)
    | fail)
  refine (hB _ h3 hT3).mono ?_
  rintro r w4 ⟨rfl, h4, k4⟩
  go_wp2_with fail
  refine (hO _ h4).mono ?_
  rintro r w5 ⟨rfl, h5, k5⟩
  go_wp2_with fail
  go_ret
  exact ⟨rfl, h5, k3.trans (k4.trans k5)⟩
set_option maxRecDepth 100000 in
set_option maxHeartbeats 1000000 in
theorem made_F1s (f : Nat) (hM : MadeSpec f) (K : Nat → Prop) (b : Nat) (ts : List Term) (op x y : Nat) (w : World) (h : DagAt K w b ts) (hG : Good ts) (hg : K 0) (hT : Tab w) (ho : (doW op 0 0).isSome = true) (hx : x < ts.length) (hy : y < ts.length) (hl : ts.length + (f + 1) < 1000000000000) (hcx : isC ts x = true) (hcy : isC ts y = false) (ht : turns op = false) (hop : op = 28) (hxy : x ≠ y) :
    Calls Tryz.prog 86 #[.pointer (some ⟨b, 0, none⟩), .int .i64 op, .int .i64 x, .int .i64 y] w (MadePost K b w (ins ts (opT op x y), pos ts (opT op x y))) := by
  have hK1 := known_any K b x ts (by omega) hx w h
  have hK2 := fun w1 h1 => known_any K b y ts (by omega) hy w1 h1
  rw [hcx] at hK1
  rw [hcy] at hK2
  subst hop
  have hA : ∀ (g : Nat) (w : World), w.heap.size = g → Calls Tryz.prog 98 #[.int .i64 28, .slice (some ⟨g, 0, none⟩) 7 7] (w.alloc (.cells #[.int .i64 27, .int .i64 36, .int .i64 35, .int .i64 32, .int .i64 37, .int .i64 38, .int .i64 40] 3)) fun e w' =>
      e = .returned (.bool false) ∧ w.alloc (.cells #[.int .i64 27, .int .i64 36, .int .i64 35, .int .i64 32, .int .i64 37, .int .i64 38, .int .i64 40] 3) = w' := among_turns 28
  have hO := fun w h => op_any K b _ x y ts (by omega) hx hy ho w h
  have hne : ((x : Int) == y) = false := by simp; omega
  clear hcx hcy
  go_enter Tryz.func86, Tryz.ntmps86
  go_wp2_with fail
  refine hK1.mono ?_
  rintro r w1 ⟨rfl, b1⟩
  have h1 := h.below b1
  go_wp2_with fail
  refine (hK2 w1 h1).mono ?_
  rintro r w2 ⟨rfl, b2⟩
  have h2 := h1.below b2
  have hT2 := (hT.below b1).below b2
  have k2 : Kept K w w2 := (Kept.below b1).then_below b2
  have h3 := h2.alloc (.cells #[.int .i64 27, .int .i64 36, .int .i64 35, .int .i64 32, .int .i64 37, .int .i64 38, .int .i64 40] 3)
  have k3 := k2.then_alloc (.cells #[.int .i64 27, .int .i64 36, .int .i64 35, .int .i64 32, .int .i64 37, .int .i64 38, .int .i64 40] 3)
  have hT3 := hT2.alloc (.cells #[.int .i64 27, .int .i64 36, .int .i64 35, .int .i64 32, .int .i64 37, .int .i64 38, .int .i64 40] 3)
  clear hK1 hK2 b1 b2 h1 h2 hT2 k2 h hT
  go_wp2_with (first
    | (go_at_call 98; (with_reducible refine (hA _ _ (by simp)).mono ?_); rintro r w' ⟨rfl, rfl⟩)
    | fail)
  refine (hO _ h3).mono ?_
  rintro r w5 ⟨rfl, h5, k5⟩
  go_wp2_with fail
  go_ret
  exact ⟨rfl, h5, k3.trans k5⟩
set_option maxRecDepth 100000 in
set_option maxHeartbeats 1000000 in
theorem made_F1n (f : Nat) (hM : MadeSpec f) (K : Nat → Prop) (b : Nat) (ts : List Term) (op x y : Nat) (w : World) (h : DagAt K w b ts) (hG : Good ts) (hg : K 0) (hT : Tab w) (ho : (doW op 0 0).isSome = true) (hx : x < ts.length) (hy : y < ts.length) (hl : ts.length + (f + 1) < 1000000000000) (hcx : isC ts x = true) (hcy : isC ts y = false) (ht : turns op = false) (hop : op ≠ 28) (hxy : x ≠ y) :
    Calls Tryz.prog 86 #[.pointer (some ⟨b, 0, none⟩), .int .i64 op, .int .i64 x, .int .i64 y] w (MadePost K b w (ins ts (opT op x y), pos ts (opT op x y))) := by
  have hK1 := known_any K b x ts (by omega) hx w h
  have hK2 := fun w1 h1 => known_any K b y ts (by omega) hy w1 h1
  rw [hcx] at hK1
  rw [hcy] at hK2
  have hA := among_turns op
  rw [ht] at hA
  have n28 : ((op : Int) == 28) = false := by simp; omega
  have hO := fun w h => op_any K b _ x y ts (by omega) hx hy ho w h
  have hne : ((x : Int) == y) = false := by simp; omega
  clear hcx hcy
  go_enter Tryz.func86, Tryz.ntmps86
  go_wp2_with fail
  refine hK1.mono ?_
  rintro r w1 ⟨rfl, b1⟩
  have h1 := h.below b1
  go_wp2_with fail
  refine (hK2 w1 h1).mono ?_
  rintro r w2 ⟨rfl, b2⟩
  have h2 := h1.below b2
  have hT2 := (hT.below b1).below b2
  have k2 : Kept K w w2 := (Kept.below b1).then_below b2
  have h3 := h2.alloc (.cells #[.int .i64 27, .int .i64 36, .int .i64 35, .int .i64 32, .int .i64 37, .int .i64 38, .int .i64 40] 3)
  have k3 := k2.then_alloc (.cells #[.int .i64 27, .int .i64 36, .int .i64 35, .int .i64 32, .int .i64 37, .int .i64 38, .int .i64 40] 3)
  have hT3 := hT2.alloc (.cells #[.int .i64 27, .int .i64 36, .int .i64 35, .int .i64 32, .int .i64 37, .int .i64 38, .int .i64 40] 3)
  clear hK1 hK2 b1 b2 h1 h2 hT2 k2 h hT
  go_wp2_with (first
    | (go_at_call 98; (with_reducible refine (hA _ _ (by simp)).mono ?_); rintro r w' ⟨rfl, rfl⟩)
    | fail)
  refine (hO _ h3).mono ?_
  rintro r w5 ⟨rfl, h5, k5⟩
  go_wp2_with fail
  go_ret
  exact ⟨rfl, h5, k3.trans k5⟩
set_option maxRecDepth 100000 in
set_option maxHeartbeats 1000000 in
theorem made_F2s (f : Nat) (hM : MadeSpec f) (K : Nat → Prop) (b : Nat) (ts : List Term) (op x y : Nat) (w : World) (h : DagAt K w b ts) (hG : Good ts) (hg : K 0) (hT : Tab w) (ho : (doW op 0 0).isSome = true) (hx : x < ts.length) (hy : y < ts.length) (hl : ts.length + (f + 1) < 1000000000000) (hcx : isC ts x = false) (hcy : isC ts y = false) (ht : turns op = false) (hop : op = 28) (hxy : x ≠ y) :
    Calls Tryz.prog 86 #[.pointer (some ⟨b, 0, none⟩), .int .i64 op, .int .i64 x, .int .i64 y] w (MadePost K b w (ins ts (opT op x y), pos ts (opT op x y))) := by
  have hK1 := known_any K b x ts (by omega) hx w h
  have hK2 := fun w1 h1 => known_any K b y ts (by omega) hy w1 h1
  rw [hcx] at hK1
  rw [hcy] at hK2
  subst hop
  have hA : ∀ (g : Nat) (w : World), w.heap.size = g → Calls Tryz.prog 98 #[.int .i64 28, .slice (some ⟨g, 0, none⟩) 7 7] (w.alloc (.cells #[.int .i64 27, .int .i64 36, .int .i64 35, .int .i64 32, .int .i64 37, .int .i64 38, .int .i64 40] 3)) fun e w' =>
      e = .returned (.bool false) ∧ w.alloc (.cells #[.int .i64 27, .int .i64 36, .int .i64 35, .int .i64 32, .int .i64 37, .int .i64 38, .int .i64 40] 3) = w' := among_turns 28
  have hO := fun w h => op_any K b _ x y ts (by omega) hx hy ho w h
  have hne : ((x : Int) == y) = false := by simp; omega
  clear hcx hcy
  go_enter Tryz.func86, Tryz.ntmps86
  go_wp2_with fail
  refine hK1.mono ?_
  rintro r w1 ⟨rfl, b1⟩
  have h1 := h.below b1
  go_wp2_with fail
  refine (hK2 w1 h1).mono ?_
  rintro r w2 ⟨rfl, b2⟩
  have h2 := h1.below b2
  have hT2 := (hT.below b1).below b2
  have k2 : Kept K w w2 := (Kept.below b1).then_below b2
  have h3 := h2.alloc (.cells #[.int .i64 27, .int .i64 36, .int .i64 35, .int .i64 32, .int .i64 37, .int .i64 38, .int .i64 40] 3)
  have k3 := k2.then_alloc (.cells #[.int .i64 27, .int .i64 36, .int .i64 35, .int .i64 32, .int .i64 37, .int .i64 38, .int .i64 40] 3)
  have hT3 := hT2.alloc (.cells #[.int .i64 27, .int .i64 36, .int .i64 35, .int .i64 32, .int .i64 37, .int .i64 38, .int .i64 40] 3)
  clear hK1 hK2 b1 b2 h1 h2 hT2 k2 h hT
  go_wp2_with (first
    | (go_at_call 98; (with_reducible refine (hA _ _ (by simp)).mono ?_); rintro r w' ⟨rfl, rfl⟩)
    | fail)
  refine (hO _ h3).mono ?_
  rintro r w5 ⟨rfl, h5, k5⟩
  go_wp2_with fail
  go_ret
  exact ⟨rfl, h5, k3.trans k5⟩
set_option maxRecDepth 100000 in
set_option maxHeartbeats 1000000 in
theorem made_F2n (f : Nat) (hM : MadeSpec f) (K : Nat → Prop) (b : Nat) (ts : List Term) (op x y : Nat) (w : World) (h : DagAt K w b ts) (hG : Good ts) (hg : K 0) (hT : Tab w) (ho : (doW op 0 0).isSome = true) (hx : x < ts.length) (hy : y < ts.length) (hl : ts.length + (f + 1) < 1000000000000) (hcx : isC ts x = false) (hcy : isC ts y = false) (ht : turns op = false) (hop : op ≠ 28) (hxy : x ≠ y) :
    Calls Tryz.prog 86 #[.pointer (some ⟨b, 0, none⟩), .int .i64 op, .int .i64 x, .int .i64 y] w (MadePost K b w (ins ts (opT op x y), pos ts (opT op x y))) := by
  have hK1 := known_any K b x ts (by omega) hx w h
  have hK2 := fun w1 h1 => known_any K b y ts (by omega) hy w1 h1
  rw [hcx] at hK1
  rw [hcy] at hK2
  have hA := among_turns op
  rw [ht] at hA
  have n28 : ((op : Int) == 28) = false := by simp; omega
  have hO := fun w h => op_any K b _ x y ts (by omega) hx hy ho w h
  have hne : ((x : Int) == y) = false := by simp; omega
  clear hcx hcy
  go_enter Tryz.func86, Tryz.ntmps86
  go_wp2_with fail
  refine hK1.mono ?_
  rintro r w1 ⟨rfl, b1⟩
  have h1 := h.below b1
  go_wp2_with fail
  refine (hK2 w1 h1).mono ?_
  rintro r w2 ⟨rfl, b2⟩
  have h2 := h1.below b2
  have hT2 := (hT.below b1).below b2
  have k2 : Kept K w w2 := (Kept.below b1).then_below b2
  have h3 := h2.alloc (.cells #[.int .i64 27, .int .i64 36, .int .i64 35, .int .i64 32, .int .i64 37, .int .i64 38, .int .i64 40] 3)
  have k3 := k2.then_alloc (.cells #[.int .i64 27, .int .i64 36, .int .i64 35, .int .i64 32, .int .i64 37, .int .i64 38, .int .i64 40] 3)
  have hT3 := hT2.alloc (.cells #[.int .i64 27, .int .i64 36, .int .i64 35, .int .i64 32, .int .i64 37, .int .i64 38, .int .i64 40] 3)
  clear hK1 hK2 b1 b2 h1 h2 hT2 k2 h hT
  go_wp2_with (first
    | (go_at_call 98; (with_reducible refine (hA _ _ (by simp)).mono ?_); rintro r w' ⟨rfl, rfl⟩)
    | fail)
  refine (hO _ h3).mono ?_
  rintro r w5 ⟨rfl, h5, k5⟩
  go_wp2_with fail
  go_ret
  exact ⟨rfl, h5, k3.trans k5⟩
set_option maxRecDepth 100000 in
set_option maxHeartbeats 1000000 in
theorem made_F3n (f : Nat) (hM : MadeSpec f) (K : Nat → Prop) (b : Nat) (ts : List Term) (op x y : Nat) (w : World) (h : DagAt K w b ts) (hG : Good ts) (hg : K 0) (hT : Tab w) (ho : (doW op 0 0).isSome = true) (hx : x < ts.length) (hy : y < ts.length) (hl : ts.length + (f + 1) < 1000000000000) (hcx : isC ts x = false) (hcy : isC ts y = false) (ht : turns op = true) (hop : op ≠ 28) (hlt : ¬ y < x) (hxy : x ≠ y) :
    Calls Tryz.prog 86 #[.pointer (some ⟨b, 0, none⟩), .int .i64 op, .int .i64 x, .int .i64 y] w (MadePost K b w (ins ts (opT op x y), pos ts (opT op x y))) := by
  have hK1 := known_any K b x ts (by omega) hx w h
  have hK2 := fun w1 h1 => known_any K b y ts (by omega) hy w1 h1
  rw [hcx] at hK1
  rw [hcy] at hK2
  have hA := among_turns op
  rw [ht] at hA
  have n28 : ((op : Int) == 28) = false := by simp; omega
  have hlt' : ¬ (y : Int) < x := by omega
  have hO := fun w h => op_any K b _ x y ts (by omega) hx hy ho w h
  have hne : ((x : Int) == y) = false := by simp; omega
  clear hcx hcy
  go_enter Tryz.func86, Tryz.ntmps86
  go_wp2_with fail
  refine hK1.mono ?_
  rintro r w1 ⟨rfl, b1⟩
  have h1 := h.below b1
  go_wp2_with fail
  refine (hK2 w1 h1).mono ?_
  rintro r w2 ⟨rfl, b2⟩
  have h2 := h1.below b2
  have hT2 := (hT.below b1).below b2
  have k2 : Kept K w w2 := (Kept.below b1).then_below b2
  have h3 := h2.alloc (.cells #[.int .i64 27, .int .i64 36, .int .i64 35, .int .i64 32, .int .i64 37, .int .i64 38, .int .i64 40] 3)
  have k3 := k2.then_alloc (.cells #[.int .i64 27, .int .i64 36, .int .i64 35, .int .i64 32, .int .i64 37, .int .i64 38, .int .i64 40] 3)
  have hT3 := hT2.alloc (.cells #[.int .i64 27, .int .i64 36, .int .i64 35, .int .i64 32, .int .i64 37, .int .i64 38, .int .i64 40] 3)
  clear hK1 hK2 b1 b2 h1 h2 hT2 k2 h hT
  go_wp2_with (first
    | (go_at_call 98; (with_reducible refine (hA _ _ (by simp)).mono ?_); rintro r w' ⟨rfl, rfl⟩)
    | fail)
  refine (hO _ h3).mono ?_
  rintro r w5 ⟨rfl, h5, k5⟩
  go_wp2_with fail
  go_ret
  exact ⟨rfl, h5, k3.trans k5⟩
set_option maxRecDepth 100000 in
set_option maxHeartbeats 1000000 in
theorem made_Gtn (f : Nat) (hM : MadeSpec f) (K : Nat → Prop) (b : Nat) (ts : List Term) (op x y : Nat) (w : World) (h : DagAt K w b ts) (hG : Good ts) (hg : K 0) (hT : Tab w) (ho : (doW op 0 0).isSome = true) (hx : x < ts.length) (hy : y < ts.length) (hl : ts.length + (f + 1) < 1000000000000) (hcx : isC ts x = false) (hcy : isC ts y = false) (ht : turns op = true) (hop : op ≠ 28) (hxy : x = y) (nx : Nx) (hn : twiceN ts op x = some nx) (hok : nx.ok ts op x x) (hm : mz ts op x x < f + 1) :
    Calls Tryz.prog 86 #[.pointer (some ⟨b, 0, none⟩), .int .i64 op, .int .i64 x, .int .i64 y] w (MadePost K b w (nx.fin (madeF f))) := by
  have hK1 := known_any K b x ts (by omega) hx w h
  have hK2 := fun w1 h1 => known_any K b y ts (by omega) hy w1 h1
  rw [hcx] at hK1
  rw [hcy] at hK2
  subst hxy
  have hlt' : ¬ (x : Int) < x := by omega
  have hA := among_turns op
  rw [ht] at hA
  have n28 : ((op : Int) == 28) = false := by simp; omega
  have hB := fun w h hT => twice_yes f hM K b _ x ts nx hn hok w h hg hT hx hm hl
  clear hok hn
  generalize nx.fin (madeF f) = R at hB ⊢
  clear hcx hcy
  go_enter Tryz.func86, Tryz.ntmps86
  go_wp2_with fail
  refine hK1.mono ?_
  rintro r w1 ⟨rfl, b1⟩
  have h1 := h.below b1
  go_wp2_with fail
  refine (hK2 w1 h1).mono ?_
  rintro r w2 ⟨rfl, b2⟩
  have h2 := h1.below b2
  have hT2 := (hT.below b1).below b2
  have k2 : Kept K w w2 := (Kept.below b1).then_below b2
  have h3 := h2.alloc (.cells #[.int .i64 27, .int .i64 36, .int .i64 35, .int .i64 32, .int .i64 37, .int .i64 38, .int .i64 40] 3)
  have k3 := k2.then_alloc (.cells #[.int .i64 27, .int .i64 36, .int .i64 35, .int .i64 32, .int .i64 37, .int .i64 38, .int .i64 40] 3)
  have hT3 := hT2.alloc (.cells #[.int .i64 27, .int .i64 36, .int .i64 35, .int .i64 32, .int .i64 37, .int .i64 38, .int .i64 40] 3)
  clear hK1 hK2 b1 b2 h1 h2 hT2 k2 h hT
  go_wp2_with (first
    | (go_at_call 98; (with_reducible refine (hA _ _ (by simp)).mono ?_); rintro r w' ⟨rfl, rfl⟩)
    | fail)
  refine (hB _ h3 hT3).mono ?_
  rintro r w5 ⟨rfl, h5, k5⟩
  go_wp2_with fail
  go_ret
  exact ⟨rfl, h5, k3.trans k5⟩
set_option maxRecDepth 100000 in
set_option maxHeartbeats 1000000 in
theorem made_Htn (f : Nat) (hM : MadeSpec f) (K : Nat → Prop) (b : Nat) (ts : List Term) (op x y : Nat) (w : World) (h : DagAt K w b ts) (hG : Good ts) (hg : K 0) (hT : Tab w) (ho : (doW op 0 0).isSome = true) (hx : x < ts.length) (hy : y < ts.length) (hl : ts.length + (f + 1) < 1000000000000) (hcx : isC ts x = false) (hcy : isC ts y = false) (ht : turns op = true) (hop : op ≠ 28) (hxy : x = y) (hn : twiceN ts op x = none) :
    Calls Tryz.prog 86 #[.pointer (some ⟨b, 0, none⟩), .int .i64 op, .int .i64 x, .int .i64 y] w (MadePost K b w (ins ts (opT op x y), pos ts (opT op x y))) := by
  have hK1 := known_any K b x ts (by omega) hx w h
  have hK2 := fun w1 h1 => known_any K b y ts (by omega) hy w1 h1
  rw [hcx] at hK1
  rw [hcy] at hK2
  subst hxy
  have hlt' : ¬ (x : Int) < x := by omega
  have hA := among_turns op
  rw [ht] at hA
  have n28 : ((op : Int) == 28) = false := by simp; omega
  have hB := fun w => twice_no b _ x ts hn w
  clear hn
  have hO := fun w h => op_any K b _ x x ts (by omega) hx hx ho w h
  clear hcx hcy
  go_enter Tryz.func86, Tryz.ntmps86
  go_wp2_with fail
  refine hK1.mono ?_
  rintro r w1 ⟨rfl, b1⟩
  have h1 := h.below b1
  go_wp2_with fail
  refine (hK2 w1 h1).mono ?_
  rintro r w2 ⟨rfl, b2⟩
  have h2 := h1.below b2
  have hT2 := (hT.below b1).below b2
  have k2 : Kept K w w2 := (Kept.below b1).then_below b2
  have h3 := h2.alloc (.cells #[.int .i64 27, .int .i64 36, .int .i64 35, .int .i64 32, .int .i64 37, .int .i64 38, .int .i64 40] 3)
  have k3 := k2.then_alloc (.cells #[.int .i64 27, .int .i64 36, .int .i64 35, .int .i64 32, .int .i64 37, .int .i64 38, .int .i64 40] 3)
  have hT3 := hT2.alloc (.cells #[.int .i64 27, .int .i64 36, .int .i64 35, .int .i64 32, .int .i64 37, .int .i64 38, .int .i64 40] 3)
  clear hK1 hK2 b1 b2 h1 h2 hT2 k2 h hT
  go_wp2_with (first
    | (go_at_call 98; (with_reducible refine (hA _ _ (by simp)).mono ?_); rintro r w' ⟨rfl, rfl⟩)
    | fail)
  refine (hB _).mono ?_
  rintro r w4 ⟨rfl, rfl⟩
  go_wp2_with fail
  refine (hO _ h3).mono ?_
  rintro r w5 ⟨rfl, h5, k5⟩
  go_wp2_with fail
  go_ret
  exact ⟨rfl, h5, k3.trans k5⟩
set_option maxRecDepth 100000 in
set_option maxHeartbeats 1000000 in
theorem made_Gfs (f : Nat) (hM : MadeSpec f) (K : Nat → Prop) (b : Nat) (ts : List Term) (op x y : Nat) (w : World) (h : DagAt K w b ts) (hG : Good ts) (hg : K 0) (hT : Tab w) (ho : (doW op 0 0).isSome = true) (hx : x < ts.length) (hy : y < ts.length) (hl : ts.length + (f + 1) < 1000000000000) (hcx : isC ts x = false) (hcy : isC ts y = false) (ht : turns op = false) (hop : op = 28) (hxy : x = y) (nx : Nx) (hn : twiceN ts op x = some nx) (hok : nx.ok ts op x x) (hm : mz ts op x x < f + 1) :
    Calls Tryz.prog 86 #[.pointer (some ⟨b, 0, none⟩), .int .i64 op, .int .i64 x, .int .i64 y] w (MadePost K b w (nx.fin (madeF f))) := by
  have hK1 := known_any K b x ts (by omega) hx w h
  have hK2 := fun w1 h1 => known_any K b y ts (by omega) hy w1 h1
  rw [hcx] at hK1
  rw [hcy] at hK2
  subst hxy
  have hlt' : ¬ (x : Int) < x := by omega
  subst hop
  have hA : ∀ (g : Nat) (w : World), w.heap.size = g → Calls Tryz.prog 98 #[.int .i64 28, .slice (some ⟨g, 0, none⟩) 7 7] (w.alloc (.cells #[.int .i64 27, .int .i64 36, .int .i64 35, .int .i64 32, .int .i64 37, .int .i64 38, .int .i64 40] 3)) fun e w' =>
      e = .returned (.bool false) ∧ w.alloc (.cells #[.int .i64 27, .int .i64 36, .int .i64 35, .int .i64 32, .int .i64 37, .int .i64 38, .int .i64 40] 3) = w' := among_turns 28
  have hB := fun w h hT => twice_yes f hM K b _ x ts nx hn hok w h hg hT hx hm hl
  clear hok hn
  generalize nx.fin (madeF f) = R at hB ⊢
  clear hcx hcy
  go_enter Tryz.func86, Tryz.ntmps86
  go_wp2_with fail
  refine hK1.mono ?_
  rintro r w1 ⟨rfl, b1⟩
  have h1 := h.below b1
  go_wp2_with fail
  refine (hK2 w1 h1).mono ?_
  rintro r w2 ⟨rfl, b2⟩
  have h2 := h1.below b2
  have hT2 := (hT.below b1).below b2
  have k2 : Kept K w w2 := (Kept.below b1).then_below b2
  have h3 := h2.alloc (.cells #[.int .i64 27, .int .i64 36, .int .i64 35, .int .i64 32, .int .i64 37, .int .i64 38, .int .i64 40] 3)
  have k3 := k2.then_alloc (.cells #[.int .i64 27, .int .i64 36, .int .i64 35, .int .i64 32, .int .i64 37, .int .i64 38, .int .i64 40] 3)
  have hT3 := hT2.alloc (.cells #[.int .i64 27, .int .i64 36, .int .i64 35, .int .i64 32, .int .i64 37, .int .i64 38, .int .i64 40] 3)
  clear hK1 hK2 b1 b2 h1 h2 hT2 k2 h hT
  go_wp2_with (first
    | (go_at_call 98; (with_reducible refine (hA _ _ (by simp)).mono ?_); rintro r w' ⟨rfl, rfl⟩)
    | fail)
  refine (hB _ h3 hT3).mono ?_
  rintro r w5 ⟨rfl, h5, k5⟩
  go_wp2_with fail
  go_ret
  exact ⟨rfl, h5, k3.trans k5⟩
set_option maxRecDepth 100000 in
set_option maxHeartbeats 1000000 in
theorem made_Hfs (f : Nat) (hM : MadeSpec f) (K : Nat → Prop) (b : Nat) (ts : List Term) (op x y : Nat) (w : World) (h : DagAt K w b ts) (hG : Good ts) (hg : K 0) (hT : Tab w) (ho : (doW op 0 0).isSome = true) (hx : x < ts.length) (hy : y < ts.length) (hl : ts.length + (f + 1) < 1000000000000) (hcx : isC ts x = false) (hcy : isC ts y = false) (ht : turns op = false) (hop : op = 28) (hxy : x = y) (hn : twiceN ts op x = none) :
    Calls Tryz.prog 86 #[.pointer (some ⟨b, 0, none⟩), .int .i64 op, .int .i64 x, .int .i64 y] w (MadePost K b w (ins ts (opT op x y), pos ts (opT op x y))) := by
  have hK1 := known_any K b x ts (by omega) hx w h
  have hK2 := fun w1 h1 => known_any K b y ts (by omega) hy w1 h1
  rw [hcx] at hK1
  rw [hcy] at hK2
  subst hxy
  have hlt' : ¬ (x : Int) < x := by omega
  subst hop
  have hA : ∀ (g : Nat) (w : World), w.heap.size = g → Calls Tryz.prog 98 #[.int .i64 28, .slice (some ⟨g, 0, none⟩) 7 7] (w.alloc (.cells #[.int .i64 27, .int .i64 36, .int .i64 35, .int .i64 32, .int .i64 37, .int .i64 38, .int .i64 40] 3)) fun e w' =>
      e = .returned (.bool false) ∧ w.alloc (.cells #[.int .i64 27, .int .i64 36, .int .i64 35, .int .i64 32, .int .i64 37, .int .i64 38, .int .i64 40] 3) = w' := among_turns 28
  have hB := fun w => twice_no b _ x ts hn w
  clear hn
  have hO := fun w h => op_any K b _ x x ts (by omega) hx hx ho w h
  clear hcx hcy
  go_enter Tryz.func86, Tryz.ntmps86
  go_wp2_with fail
  refine hK1.mono ?_
  rintro r w1 ⟨rfl, b1⟩
  have h1 := h.below b1
  go_wp2_with fail
  refine (hK2 w1 h1).mono ?_
  rintro r w2 ⟨rfl, b2⟩
  have h2 := h1.below b2
  have hT2 := (hT.below b1).below b2
  have k2 : Kept K w w2 := (Kept.below b1).then_below b2
  have h3 := h2.alloc (.cells #[.int .i64 27, .int .i64 36, .int .i64 35, .int .i64 32, .int .i64 37, .int .i64 38, .int .i64 40] 3)
  have k3 := k2.then_alloc (.cells #[.int .i64 27, .int .i64 36, .int .i64 35, .int .i64 32, .int .i64 37, .int .i64 38, .int .i64 40] 3)
  have hT3 := hT2.alloc (.cells #[.int .i64 27, .int .i64 36, .int .i64 35, .int .i64 32, .int .i64 37, .int .i64 38, .int .i64 40] 3)
  clear hK1 hK2 b1 b2 h1 h2 hT2 k2 h hT
  go_wp2_with (first
    | (go_at_call 98; (with_reducible refine (hA _ _ (by simp)).mono ?_); rintro r w' ⟨rfl, rfl⟩)
    | fail)
  refine (hB _).mono ?_
  rintro r w4 ⟨rfl, rfl⟩
  go_wp2_with fail
  refine (hO _ h3).mono ?_
  rintro r w5 ⟨rfl, h5, k5⟩
  go_wp2_with fail
  go_ret
  exact ⟨rfl, h5, k3.trans k5⟩
set_option maxRecDepth 100000 in
set_option maxHeartbeats 1000000 in
theorem made_Gfn (f : Nat) (hM : MadeSpec f) (K : Nat → Prop) (b : Nat) (ts : List Term) (op x y : Nat) (w : World) (h : DagAt K w b ts) (hG : Good ts) (hg : K 0) (hT : Tab w) (ho : (doW op 0 0).isSome = true) (hx : x < ts.length) (hy : y < ts.length) (hl : ts.length + (f + 1) < 1000000000000) (hcx : isC ts x = false) (hcy : isC ts y = false) (ht : turns op = false) (hop : op ≠ 28) (hxy : x = y) (nx : Nx) (hn : twiceN ts op x = some nx) (hok : nx.ok ts op x x) (hm : mz ts op x x < f + 1) :
    Calls Tryz.prog 86 #[.pointer (some ⟨b, 0, none⟩), .int .i64 op, .int .i64 x, .int .i64 y] w (MadePost K b w (nx.fin (madeF f))) := by
  have hK1 := known_any K b x ts (by omega) hx w h
  have hK2 := fun w1 h1 => known_any K b y ts (by omega) hy w1 h1
  rw [hcx] at hK1
  rw [hcy] at hK2
  subst hxy
  have hlt' : ¬ (x : Int) < x := by omega
  have hA := among_turns op
  rw [ht] at hA
  have n28 : ((op : Int) == 28) = false := by simp; omega
  have hB := fun w h hT => twice_yes f hM K b _ x ts nx hn hok w h hg hT hx hm hl
  clear hok hn
  generalize nx.fin (madeF f) = R at hB ⊢
  clear hcx hcy
  go_enter Tryz.func86, Tryz.ntmps86
  go_wp2_with fail
  refine hK1.mono ?_
  rintro r w1 ⟨rfl, b1⟩
  have h1 := h.below b1
  go_wp2_with fail
  refine (hK2 w1 h1).mono ?_
  rintro r w2 ⟨rfl, b2⟩
  have h2 := h1.below b2
  have hT2 := (hT.below b1).below b2
  have k2 : Kept K w w2 := (Kept.below b1).then_below b2
  have h3 := h2.alloc (.cells #[.int .i64 27, .int .i64 36, .int .i64 35, .int .i64 32, .int .i64 37, .int .i64 38, .int .i64 40] 3)
  have k3 := k2.then_alloc (.cells #[.int .i64 27, .int .i64 36, .int .i64 35, .int .i64 32, .int .i64 37, .int .i64 38, .int .i64 40] 3)
  have hT3 := hT2.alloc (.cells #[.int .i64 27, .int .i64 36, .int .i64 35, .int .i64 32, .int .i64 37, .int .i64 38, .int .i64 40] 3)
  clear hK1 hK2 b1 b2 h1 h2 hT2 k2 h hT
  go_wp2_with (first
    | (go_at_call 98; (with_reducible refine (hA _ _ (by simp)).mono ?_); rintro r w' ⟨rfl, rfl⟩)
    | fail)
  refine (hB _ h3 hT3).mono ?_
  rintro r w5 ⟨rfl, h5, k5⟩
  go_wp2_with fail
  go_ret
  exact ⟨rfl, h5, k3.trans k5⟩
set_option maxRecDepth 100000 in
set_option maxHeartbeats 1000000 in
theorem made_Hfn (f : Nat) (hM : MadeSpec f) (K : Nat → Prop) (b : Nat) (ts : List Term) (op x y : Nat) (w : World) (h : DagAt K w b ts) (hG : Good ts) (hg : K 0) (hT : Tab w) (ho : (doW op 0 0).isSome = true) (hx : x < ts.length) (hy : y < ts.length) (hl : ts.length + (f + 1) < 1000000000000) (hcx : isC ts x = false) (hcy : isC ts y = false) (ht : turns op = false) (hop : op ≠ 28) (hxy : x = y) (hn : twiceN ts op x = none) :
    Calls Tryz.prog 86 #[.pointer (some ⟨b, 0, none⟩), .int .i64 op, .int .i64 x, .int .i64 y] w (MadePost K b w (ins ts (opT op x y), pos ts (opT op x y))) := by
  have hK1 := known_any K b x ts (by omega) hx w h
  have hK2 := fun w1 h1 => known_any K b y ts (by omega) hy w1 h1
  rw [hcx] at hK1
  rw [hcy] at hK2
  subst hxy
  have hlt' : ¬ (x : Int) < x := by omega
  have hA := among_turns op
  rw [ht] at hA
  have n28 : ((op : Int) == 28) = false := by simp; omega
  have hB := fun w => twice_no b _ x ts hn w
  clear hn
  have hO := fun w h => op_any K b _ x x ts (by omega) hx hx ho w h
  clear hcx hcy
  go_enter Tryz.func86, Tryz.ntmps86
  go_wp2_with fail
  refine hK1.mono ?_
  rintro r w1 ⟨rfl, b1⟩
  have h1 := h.below b1
  go_wp2_with fail
  refine (hK2 w1 h1).mono ?_
  rintro r w2 ⟨rfl, b2⟩
  have h2 := h1.below b2
  have hT2 := (hT.below b1).below b2
  have k2 : Kept K w w2 := (Kept.below b1).then_below b2
  have h3 := h2.alloc (.cells #[.int .i64 27, .int .i64 36, .int .i64 35, .int .i64 32, .int .i64 37, .int .i64 38, .int .i64 40] 3)
  have k3 := k2.then_alloc (.cells #[.int .i64 27, .int .i64 36, .int .i64 35, .int .i64 32, .int .i64 37, .int .i64 38, .int .i64 40] 3)
  have hT3 := hT2.alloc (.cells #[.int .i64 27, .int .i64 36, .int .i64 35, .int .i64 32, .int .i64 37, .int .i64 38, .int .i64 40] 3)
  clear hK1 hK2 b1 b2 h1 h2 hT2 k2 h hT
  go_wp2_with (first
    | (go_at_call 98; (with_reducible refine (hA _ _ (by simp)).mono ?_); rintro r w' ⟨rfl, rfl⟩)
    | fail)
  refine (hB _).mono ?_
  rintro r w4 ⟨rfl, rfl⟩
  go_wp2_with fail
  refine (hO _ h3).mono ?_
  rintro r w5 ⟨rfl, h5, k5⟩
  go_wp2_with fail
  go_ret
  exact ⟨rfl, h5, k3.trans k5⟩
theorem made_step (f : Nat) (hM : MadeSpec f) : MadeSpec (f + 1) := by
  intro K b ts op x y w h hG hg hT ho hx hy hm hl
  have hnx := next_ok hG ho hx hy
  have e1 : madeF (f + 1) ts op x y = (next ts op x y).fin (madeF f) := rfl
  rw [e1]
  clear e1
  have t28 : turns 28 = false := by decide
  revert hnx
  unfold next
  by_cases c1 : isC ts x = true ∧ isC ts y = true
  · rw [if_pos c1]
    intro hnx
    exact made_A f hM K b ts op x y w h hG hg hT ho hx hy hl c1.1 c1.2 _ rfl (doW_lt ho (hG.wd_lt hx) (hG.wd_lt hy))
  rw [if_neg c1]
  by_cases c2 : turns op = true ∧ ((isC ts x = true ∧ isC ts y = false) ∨ (isC ts x = false ∧ isC ts y = false ∧ y < x))
  · rw [if_pos c2]
    intro hnx
    have hW : Went ts op x y ts op y x := hnx
    have hl2 := hW.less
    obtain ⟨ht, ⟨hc1, hc2⟩ | ⟨hc1, hc2, hlt⟩⟩ := c2
    · exact made_B1 f hM K b ts op x y w h hG hg hT ho hx hy hl hc1 hc2 ht (by omega)
    · exact made_B2 f hM K b ts op x y w h hG hg hT ho hx hy hl hc1 hc2 ht (by omega) hlt
  rw [if_neg c2]
  by_cases c3 : op = 28 ∧ isC ts y = true
  · rw [if_pos c3]
    intro hnx
    have hcx : isC ts x = false := by
      cases e : isC ts x with
      | false => rfl
      | true => exact absurd ⟨e, c3.2⟩ c1
    exact made_C f hM K b ts op x y w h hG hg hT ho hx hy hl hcx c3.2 c3.1 hnx hm
  rw [if_neg c3]
  cases hcy : isC ts y with
  | true =>
    have hcx : isC ts x = false := by
      cases e : isC ts x with
      | false => rfl
      | true => exact absurd ⟨e, hcy⟩ c1
    have hop : op ≠ 28 := fun e => c3 ⟨e, hcy⟩
    have hxy : x ≠ y := by rintro rfl; rw [hcx] at hcy; cases hcy
    have hok := byN_ok hG ho hx hy hcx hcy
    rw [if_pos rfl]
    cases hn : byN ts op x y (wd ts y) with
    | some nx =>
      intro _
      cases ht : turns op with
      | true => exact made_Dt f hM K b ts op x y w h hG hg hT ho hx hy hl hcx hcy ht nx hn hop hm hok
      | false => exact made_Df f hM K b ts op x y w h hG hg hT ho hx hy hl hcx hcy ht nx hn hop hm hok
    | none =>
      simp only [if_neg hxy]
      intro _
      cases ht : turns op with
      | true => exact made_Et f hM K b ts op x y w h hG hg hT ho hx hy hl hcx hcy ht hn hxy hop hm hok
      | false => exact made_Ef f hM K b ts op x y w h hG hg hT ho hx hy hl hcx hcy ht hn hxy hop hm hok
  | false =>
    rw [if_neg (by decide)]
    by_cases hxy : x = y
    · simp only [if_pos hxy]
      have hcx : isC ts x = false := by rw [hxy]; exact hcy
      have hsub : op = 28 → turns op = false := by rintro rfl; exact t28
      cases hn : twiceN ts op x with
      | some nx =>
        intro hnx
        have hok : nx.ok ts op x x := by
          have : nx.ok ts op x y := hnx
          rw [← hxy] at this
          exact this
        have hm2 : mz ts op x x < f + 1 := by rw [← hxy] at hm; exact hm
        by_cases hop : op = 28
        · exact made_Gfs f hM K b ts op x y w h hG hg hT ho hx hy hl hcx hcy (hsub hop) hop hxy nx hn hok hm2
        · cases ht : turns op with
          | true => exact made_Gtn f hM K b ts op x y w h hG hg hT ho hx hy hl hcx hcy ht hop hxy nx hn hok hm2
          | false => exact made_Gfn f hM K b ts op x y w h hG hg hT ho hx hy hl hcx hcy ht hop hxy nx hn hok hm2
      | none =>
        intro _
        by_cases hop : op = 28
        · exact made_Hfs f hM K b ts op x y w h hG hg hT ho hx hy hl hcx hcy (hsub hop) hop hxy hn
        · cases ht : turns op with
          | true => exact made_Htn f hM K b ts op x y w h hG hg hT ho hx hy hl hcx hcy ht hop hxy hn
          | false => exact made_Hfn f hM K b ts op x y w h hG hg hT ho hx hy hl hcx hcy ht hop hxy hn
    · simp only [if_neg hxy]
      intro _
      cases hcx : isC ts x with
      | true =>
        have ht : turns op = false := by
          cases e : turns op with
          | false => rfl
          | true => exact absurd ⟨e, Or.inl ⟨hcx, hcy⟩⟩ c2
        by_cases hop : op = 28
        · exact made_F1s f hM K b ts op x y w h hG hg hT ho hx hy hl hcx hcy ht hop hxy
        · exact made_F1n f hM K b ts op x y w h hG hg hT ho hx hy hl hcx hcy ht hop hxy
      | false =>
        by_cases hop : op = 28
        · exact made_F2s f hM K b ts op x y w h hG hg hT ho hx hy hl hcx hcy (by rw [hop]; exact t28) hop hxy
        · cases ht : turns op with
          | false => exact made_F2n f hM K b ts op x y w h hG hg hT ho hx hy hl hcx hcy ht hop hxy
          | true => exact made_F3n f hM K b ts op x y w h hG hg hT ho hx hy hl hcx hcy ht hop (fun hlt => c2 ⟨ht, Or.inr ⟨hcx, hcy, hlt⟩⟩) hxy
/-- A reckoning's term, made simple: whatever terms. -/
theorem made_any : ∀ f, MadeSpec f
  | 0 => fun K b ts op x y w h hG hg hT ho hx hy hm hl => by omega
  | f + 1 => made_step f (made_any f)
end Go.Proofs.YtaiggfknighhgaaGreatDoor
set_option linter.unusedVariables false
set_option linter.unusedSimpArgs false
namespace Go.Proofs.YtaiggfknighhgaaGreatDoor
open Go.RowKit Go.Maps Go.MapKept

set_option maxRecDepth 100000 in
theorem simpOp_no (K : Nat → Prop) (b : Nat) (op x y : Int) (ts : List Term) (hl : ts.length < 1000000000000) (hn : (inR x ts.length && inR y ts.length) = false) (w : World) (h : DagAt K w b ts) :
    Calls Tryz.prog 62 #[.pointer (some ⟨b, 0, none⟩), .int .i64 op, .int .i64 x, .int .i64 y] w fun e w' => e = .returned (.tuple #[.int .i64 0, .int .i64 100]) ∧ Below w.heap.size w w' := by
  cases hx : inR x ts.length
  · have hX := node_no K b x ts hl hx w h
    clear hn hx
    go_enter Tryz.func62, Tryz.ntmps62
    go_wp2_with fail
    refine hX.mono ?_
    rintro r w1 ⟨rfl, b1⟩
    unfold tv constT
    go_wp2_with fail
    go_ret2
    exact ⟨rfl, b1.alloc b1.size _⟩
  · rw [hx, Bool.true_and] at hn
    obtain ⟨k, rfl, hk⟩ := inR_nat hx
    have hX := node_any K b k ts hl hk w h
    have hY := fun w h => node_no K b y ts hl hn w h
    generalize ts.getD k default = t at hX
    unfold tv at hX
    clear hn hx
    go_enter Tryz.func62, Tryz.ntmps62
    go_wp2_with fail
    refine hX.mono ?_
    rintro r w1 ⟨rfl, b1⟩
    have h1 := h.below b1
    go_wp2_with fail
    refine (hY _ (h1.alloc _)).mono ?_
    rintro r w2 ⟨rfl, b2⟩
    unfold tv constT
    have b3 := below_then (below_alloc1 b1 _) b2
    clear hX hY b2
    go_wp2_with fail
    go_ret2
    exact ⟨rfl, b3.alloc b3.size _⟩
set_option maxRecDepth 100000 in
theorem simpOp_bad (K : Nat → Prop) (b : Nat) (op : Int) (x y : Nat) (ts : List Term) (hl : ts.length < 1000000000000) (hx : x < ts.length) (hy : y < ts.length) (ho : opOk op = false) (w : World) (h : DagAt K w b ts) :
    Calls Tryz.prog 62 #[.pointer (some ⟨b, 0, none⟩), .int .i64 op, .int .i64 x, .int .i64 y] w fun e w' => e = .returned (.tuple #[.int .i64 0, .int .i64 1]) ∧ Below w.heap.size w w' := by
  have hX := node_any K b x ts hl hx w h
  have hY := fun w h => node_any K b y ts hl hy w h
  generalize ts.getD x default = t at hX
  generalize ts.getD y default = u at hY
  unfold tv at hX hY
  have hD := fun w => do_no op ho (.int .u32 0) (.int .u32 0) w
  clear ho
  go_enter Tryz.func62, Tryz.ntmps62
  go_wp2_with fail
  refine hX.mono ?_
  rintro r w1 ⟨rfl, b1⟩
  have h1 := h.below b1
  go_wp2_with fail
  refine (hY _ (h1.alloc _)).mono ?_
  rintro r w2 ⟨rfl, b2⟩
  have b3 := below_then (below_alloc1 b1 _) b2
  clear hX hY b2
  go_wp2_with fail
  refine (hD _).mono ?_
  rintro r w3 ⟨rfl, rfl⟩
  go_wp2_with fail
  go_ret2
  exact ⟨rfl, b3.alloc b3.size _⟩
/-- What simp.Op tells: the terms behind it, the number. -/
def OpPost (K : Nat → Prop) (b : Nat) (w : World) (R : Made) (e : Ending) (w' : World) : Prop := e = .returned (.tuple #[.int .i64 (R.2 : Nat), .int .i64 0]) ∧ DagAt K w' b R.1 ∧ Kept K w w'
set_option maxRecDepth 100000 in
theorem simpOp_any (K : Nat → Prop) (b op x y : Nat) (ts : List Term) (hl : ts.length < 100000000000) (hx : x < ts.length) (hy : y < ts.length) (ho : (doW op 0 0).isSome = true) (hG : Good ts) (hg : K 0) (w : World) (hT : Tab w) (h : DagAt K w b ts) :
    Calls Tryz.prog 62 #[.pointer (some ⟨b, 0, none⟩), .int .i64 op, .int .i64 x, .int .i64 y] w (OpPost K b w (made ts op x y)) := by
  have hX := node_any K b x ts (by omega) hx w h
  have hY := fun w h => node_any K b y ts (by omega) hy w h
  generalize ts.getD x default = t at hX
  generalize ts.getD y default = u at hY
  unfold tv at hX hY
  have hD : ∀ w, Calls Tryz.prog 42 #[.int .i64 op, .int .u32 0, .int .u32 0] w fun r w' => r = .returned (.tuple #[.int .u32 (((doW op 0 0).getD 0 : Nat) : Int), .int .i64 0]) ∧ w = w' := do_any op ho 0 0 (by omega) (by omega)
  have hm := mz_le (op := op) (b := y) hx
  have hM := fun w h hT => made_any (8 * ts.length + 10) K b ts op x y w h hG hg hT ho hx hy (by omega) (by omega)
  have e : madeF (8 * ts.length + 10) ts op x y = made ts op x y := rfl
  rw [e] at hM
  clear e hm
  generalize made ts op x y = R at hM ⊢
  go_enter Tryz.func62, Tryz.ntmps62
  go_wp2_with fail
  refine hX.mono ?_
  rintro r w1 ⟨rfl, b1⟩
  have h1 := h.below b1
  go_wp2_with fail
  refine (hY _ (h1.alloc _)).mono ?_
  rintro r w2 ⟨rfl, b2⟩
  have h2 := (h1.alloc _).below b2
  have b3 := below_then (below_alloc1 b1 _) b2
  have hT2 := hT.below b3
  clear hX hY b2
  go_wp2_with fail
  refine (hD _).mono ?_
  rintro r w3 ⟨rfl, rfl⟩
  go_wp2_with fail
  refine (hM _ (h2.alloc _) (hT2.alloc _)).mono ?_
  rintro r w4 ⟨rfl, h4, k4⟩
  have k5 := (Kept.below (K := K) (below_alloc1 b3 _)).trans k4
  go_wp2_with fail
  go_ret2
  exact ⟨rfl, h4, k5⟩
end Go.Proofs.YtaiggfknighhgaaGreatDoor
set_option linter.unusedVariables false
set_option linter.unusedSimpArgs false
namespace Go.Proofs.YtaiggfknighhgaaGreatDoor
open Go.RowKit Go.Maps Go.MapKept

theorem up_eq (imm : Int) : imm % 4294967296 * 4096 % 4294967296 = ((up imm : Nat) : Int) := by
  unfold up us
  omega
theorem us_int (imm : Int) : imm % 4294967296 = ((us imm : Nat) : Int) := by unfold us; omega
set_option maxRecDepth 100000 in
theorem one_lui (K : Nat → Prop) (b : Nat) (ts : List Term) (z : Nat → Int) (rd rs1 rs2 imm : Int) (pc : Nat) (hl : ts.length < 100000000000) (w : World) (h : DagAt K w b ts) :
    Calls Tryz.prog 35 #[.pointer (some ⟨b, 0, none⟩), .agg (zV z), .agg #[.int .i64 0, .int .i64 rd, .int .i64 rs1, .int .i64 rs2, .int .i64 imm], .int .u32 pc] w
      fun e w' => e = .returned (.int .i64 (pos ts (constT (up imm)) : Nat)) ∧ DagAt K w' b (ins ts (constT (up imm))) ∧ Kept K w w' := by
  have b1 := (Below.refl w.heap.size w).alloc (Nat.le_refl _) (.cells (zV z) 32)
  have b2 := b1.alloc (by simp) (.cells #[.int .i64 0, .int .i64 rd, .int .i64 rs1, .int .i64 rs2, .int .i64 imm] 31)
  obtain ⟨z0, z1, z2, z3, z4⟩ := five_cells (blk_new (w.alloc (.cells (zV z) 32)) (.cells #[.int .i64 0, .int .i64 rd, .int .i64 rs1, .int .i64 rs2, .int .i64 imm] 31))
  have hC := const_any K b (up imm) ts (up_lt imm) (by omega) _ (h.below b2)
  rw [← up_eq] at hC
  go_enter Tryz.func35, Tryz.ntmps35
  go_wp2_with fail
  refine hC.mono ?_
  rintro r w1 ⟨rfl, hD, hk⟩
  go_wp2_with fail
  go_ret
  exact ⟨rfl, hD, (Kept.below b2).trans hk⟩
theorem up_add (imm : Int) (pc v : Nat) (hv : v = (up imm + pc) % 4294967296) : (imm % 4294967296 * 4096 + (pc : Int)) % 4294967296 = (v : Int) := by
  rw [hv]
  unfold up us
  omega
set_option maxRecDepth 100000 in
set_option maxHeartbeats 2000000 in
theorem one_auipc (K : Nat → Prop) (b : Nat) (ts : List Term) (z : Nat → Int) (rd rs1 rs2 imm : Int) (pc v : Nat) (hv : v = (up imm + pc) % 4294967296) (hl : ts.length < 100000000000) (w : World) (h : DagAt K w b ts) :
    Calls Tryz.prog 35 #[.pointer (some ⟨b, 0, none⟩), .agg (zV z), .agg #[.int .i64 1, .int .i64 rd, .int .i64 rs1, .int .i64 rs2, .int .i64 imm], .int .u32 pc] w
      fun e w' => e = .returned (.int .i64 (pos ts (constT v) : Nat)) ∧ DagAt K w' b (ins ts (constT v)) ∧ Kept K w w' := by
  have b1 := (Below.refl w.heap.size w).alloc (Nat.le_refl _) (.cells (zV z) 32)
  have b2 := b1.alloc (by simp) (.cells #[.int .i64 1, .int .i64 rd, .int .i64 rs1, .int .i64 rs2, .int .i64 imm] 31)
  obtain ⟨z0, z1, z2, z3, z4⟩ := five_cells (blk_new (w.alloc (.cells (zV z) 32)) (.cells #[.int .i64 1, .int .i64 rd, .int .i64 rs1, .int .i64 rs2, .int .i64 imm] 31))
  have hC := const_any K b v ts (by rw [hv]; exact Nat.mod_lt _ (by decide)) (by omega) _ (h.below b2)
  rw [← up_add imm pc v hv] at hC
  clear hv
  go_enter Tryz.func35, Tryz.ntmps35
  go_wp2_with fail
  refine hC.mono ?_
  rintro r w1 ⟨rfl, hD, hk⟩
  go_wp2_with fail
  go_ret
  exact ⟨rfl, hD, (Kept.below b2).trans hk⟩
set_option maxRecDepth 100000 in
set_option maxHeartbeats 2000000 in
theorem one_op (K : Nat → Prop) (b : Nat) (ts : List Term) (x : Nat → Nat) (op rd : Int) (r1 r2 : Nat) (imm : Int) (pc : Nat) (hl : ts.length < 10000000000) (hr1 : r1 < 32) (hr2 : r2 < 32) (h0 : op ≠ 0) (h1 : op ≠ 1)
    (hp : plainI ⟨op, rd, r1, r2, imm⟩ = true) (hG : Good ts) (hx : InT ts x) (hg : K 0) (w : World) (hT : Tab w) (h : DagAt K w b ts) :
    Calls Tryz.prog 35 #[.pointer (some ⟨b, 0, none⟩), .agg (zV fun r => (x r : Int)), .agg #[.int .i64 op, .int .i64 rd, .int .i64 r1, .int .i64 r2, .int .i64 imm], .int .u32 pc] w
      fun e w' => e = .returned (.int .i64 ((oneT ts x ⟨op, rd, r1, r2, imm⟩ pc).2 : Nat)) ∧ DagAt K w' b (oneT ts x ⟨op, rd, r1, r2, imm⟩ pc).1 ∧ Kept K w w' := by
  have b1 := (Below.refl w.heap.size w).alloc (Nat.le_refl _) (.cells (zV fun r => (x r : Int)) 32)
  have b2 := b1.alloc (by simp) (.cells #[.int .i64 op, .int .i64 rd, .int .i64 r1, .int .i64 r2, .int .i64 imm] 31)
  obtain ⟨z0, z1, z2, z3, z4⟩ := five_cells (blk_new (w.alloc (.cells (zV fun r => (x r : Int)) 32)) (.cells #[.int .i64 op, .int .i64 rd, .int .i64 r1, .int .i64 r2, .int .i64 imm] 31))
  have hZ := (ZAt.new 32 w (fun r => (x r : Int))).below ((Below.refl _ _).alloc (Nat.le_refl _) (.cells #[.int .i64 op, .int .i64 rd, .int .i64 r1, .int .i64 r2, .int .i64 imm] 31))
  have c1 := hZ.cell hr1
  have c2 := hZ.cell hr2
  have g1 : (r1 : Int) < 32 := by omega
  have g2 : (r2 : Int) < 32 := by omega
  have e0 : (op == 0) = false := by simpa using h0
  have e1 : (op == 1) = false := by simpa using h1
  have hD := h.more b2
  have hsz2 : ((w.alloc (.cells (zV fun r => (x r : Int)) 32)).alloc (.cells #[.int .i64 op, .int .i64 rd, .int .i64 r1, .int .i64 r2, .int .i64 imm] 31)).heap.size = w.heap.size + 2 := by simp
  have hs1 : (w.alloc (.cells (zV fun r => (x r : Int)) 32)).heap.size = w.heap.size + 1 := by simp
  rw [hs1] at z0 z1 z2 z3 z4
  generalize hK : More K w ((w.alloc (.cells (zV fun r => (x r : Int)) 32)).alloc (.cells #[.int .i64 op, .int .i64 rd, .int .i64 r1, .int .i64 r2, .int .i64 imm] 31)) = K1 at hD
  have k0 : K1 w.heap.size := by rw [← hK]; exact Or.inr ⟨Nat.le_refl _, by omega⟩
  have k1 : K1 (w.heap.size + 1) := by rw [← hK]; exact Or.inr ⟨by omega, by omega⟩
  have kk : ∀ i, K i → K1 i := fun i hi => by rw [← hK]; exact Or.inl hi
  clear hK hsz2 hs1
  have hg1 := kk _ hg
  have hT2 := hT.below b2
  have hI := plain_inst op
  have hx1 := hx r1 hr1
  have hx2 := hx r2 hr2
  have hu := us_int imm
  have kb := Kept.below (K := K) b2
  rcases plainI_kind hp with h | h | ⟨o, ho, hd, h0', h1'⟩ | ⟨o, ho, hn, hd, h0', h1'⟩
  · exact absurd h h0
  · exact absurd h h1
  · have he : oneT ts x ⟨op, rd, r1, r2, imm⟩ pc = made (ins ts (constT (us imm))) o (x r1) (pos ts (constT (us imm))) := by
      unfold oneT
      rw [if_neg h0', if_neg h1', ho]
      rfl
    rw [he]
    dsimp only at ho
    rw [ho] at hI
    change ∀ w, Calls Tryz.prog 23 #[.int .i64 op] w fun e w' => e = .returned (.tuple #[.int .i64 (o : Nat), .bool true]) ∧ w = w' at hI
    have hC := fun w hD => const_any K1 b (us imm) ts (us_lt imm) (by omega) w hD
    rw [← hu] at hC
    have hE := ext_ins ts (constT (us imm))
    have hl2 := (ins_len ts (constT (us imm))).2
    have hM := fun w hT hD => simpOp_any K1 b o (x r1) (pos ts (constT (us imm))) (ins ts (constT (us imm))) (by omega) (Nat.lt_of_lt_of_le hx1 hE.len) (pos_lt _ _) hd (hG.const (us_lt imm)) hg1 w hT hD
    unfold OpPost at hM
    generalize made (ins ts (constT (us imm))) o (x r1) (pos ts (constT (us imm))) = R at hM ⊢
    generalize ins ts (constT (us imm)) = ts1 at hC hM
    generalize pos ts (constT (us imm)) = n1 at hC hM
    clear he hE hl2 hu hp hG hx hd ho h0' h1' h0 h1 hT h
    go_enter Tryz.func35, Tryz.ntmps35
    go_wp2_with fail
    go_quiet (fail)
    have hd : ∀ (W : World) n, Below W.heap.size W (W.drewN n) := fun W n => below_drewN (Below.refl _ W) n
    have hD3 := hD.below (hd _ nq)
    have hT3 := hT2.below (hd _ nq)
    have k3 := kb.trans (Kept.below (hd _ nq))
    have y0 := cell_below (hd _ nq) z0
    have y2 := cell_below (hd _ nq) z2
    have y4 := cell_below (hd _ nq) z4
    have hZ3 := hZ.below (hd _ nq)
    clear hD hT2 kb hd z0 z1 z2 z3 z4 c1 c2 b1 b2 hZ
    go_wp2_with fail
    refine (hI _).mono ?_
    rintro r w3 ⟨rfl, rfl⟩
    go_wp2_with fail
    refine (hC _ hD3).mono ?_
    rintro r w4 ⟨rfl, hD4, k4⟩
    have x2 := k4.cell k1 y2
    have c1 := (hZ3.kept k4 k0).cell hr1
    have hT4 := hT3.kept k4 hg1
    have k5 := k3.trans (k4.mono kk)
    clear hZ3 hD3 hT3 k3 k4 y0 y2 y4
    go_wp2_with fail
    refine (hM _ hT4 hD4).mono ?_
    rintro r w5 ⟨rfl, hD5, k6⟩
    go_wp2_with fail
    go_ret
    exact ⟨rfl, hD5.mono kk, k5.trans (k6.mono kk)⟩
  · have he : oneT ts x ⟨op, rd, r1, r2, imm⟩ pc = made ts o (x r1) (x r2) := by
      unfold oneT
      rw [if_neg h0', if_neg h1', hn]
      dsimp only
      rw [show op.toNat = o from by rw [show op = (o : Int) from ho]; rfl]
      rfl
    rw [he]
    dsimp only at hn ho
    rw [hn] at hI
    change ∀ w, Calls Tryz.prog 23 #[.int .i64 op] w fun e w' => e = .returned (.tuple #[.int .i64 0, .bool false]) ∧ w = w' at hI
    have hM := fun w hT hD => simpOp_any K1 b o (x r1) (x r2) ts (by omega) hx1 hx2 hd hG hg1 w hT hD
    unfold OpPost at hM
    subst ho
    generalize made ts o (x r1) (x r2) = R at hM ⊢
    clear he hu hp hG hx hd hn h0' h1' h0 h1 hT h
    go_enter Tryz.func35, Tryz.ntmps35
    go_wp2_with fail
    go_quiet (fail)
    have hd : ∀ (W : World) n, Below W.heap.size W (W.drewN n) := fun W n => below_drewN (Below.refl _ W) n
    have hD3 := hD.below (hd _ nq)
    have hT3 := hT2.below (hd _ nq)
    have k3 := kb.trans (Kept.below (hd _ nq))
    have y0 := cell_below (hd _ nq) z0
    have y2 := cell_below (hd _ nq) z2
    have hZ3 := (hZ.below (hd _ nq)).cell hr1
    clear hD hT2 kb hd z0 z1 z2 z3 z4 c1 c2 b1 b2 hZ
    go_wp2_with fail
    refine (hI _).mono ?_
    rintro r w3 ⟨rfl, rfl⟩
    go_wp2_with fail
    refine (hM _ hT3 hD3).mono ?_
    rintro r w5 ⟨rfl, hD5, k6⟩
    go_wp2_with fail
    go_ret
    exact ⟨rfl, hD5.mono kk, k3.trans (k6.mono kk)⟩
theorem lone_any (K : Nat → Prop) (b : Nat) (ts : List Term) (x : Nat → Nat) (i : Ins) (pc : Nat) (hl : ts.length < 10000000000)
    (hp : plainI i = true) (hG : Good ts) (hx : InT ts x) (hg : K 0) (w : World) (hT : Tab w) (h : DagAt K w b ts) :
    Calls Tryz.prog 35 #[.pointer (some ⟨b, 0, none⟩), .agg (zV fun r => (x r : Int)), .agg i.five.toArray, .int .u32 pc] w
      fun e w' => e = .returned (.int .i64 ((oneT ts x i pc).2 : Nat)) ∧ DagAt K w' b (oneT ts x i pc).1 ∧ Kept K w w' := by
  have hr : rightI i = true := by unfold plainI at hp; rw [Bool.and_eq_true] at hp; exact hp.1
  obtain ⟨_, h1, h2⟩ := rightI_regs hr
  obtain ⟨op, rd, rs1, rs2, imm⟩ := i
  dsimp only at h1 h2
  obtain ⟨r1, rfl⟩ : ∃ k : Nat, rs1 = k := ⟨rs1.toNat, by omega⟩
  obtain ⟨r2, rfl⟩ : ∃ k : Nat, rs2 = k := ⟨rs2.toNat, by omega⟩
  by_cases e0 : op = 0
  · subst e0
    exact one_lui K b ts _ rd r1 r2 imm pc (by omega) w h
  by_cases e1 : op = 1
  · subst e1
    exact one_auipc K b ts _ rd r1 r2 imm pc _ rfl (by omega) w h
  exact one_op K b ts x op rd r1 r2 imm pc hl (by omega) (by omega) e0 e1 hp hG hx hg w hT h
end Go.Proofs.YtaiggfknighhgaaGreatDoor
