/- simp.Op. -/
import Derived.Test.YtaiggfknighhgaaGreatDoorSMade
set_option linter.unusedVariables false
set_option linter.unusedSimpArgs false
namespace Go.Proofs.YtaiggfknighhgaaGreatDoor
open Go.RowKit Go.Maps Go.MapKept

set_option maxRecDepth 100000 in
theorem simpOp_no (K : Nat → Prop) (b : Nat) (op x y : Int) (ts : List Term) (hl : ts.length < 1000000000000) (hn : (inR x ts.length && inR y ts.length) = false) (w : World) (h : DagAt K w b ts) :
    Calls Tryz.prog 62 #[.pointer (some ⟨b, 0, none⟩), .int .i64 op, .int .i64 x, .int .i64 y] w fun e w' => e = .returned (.tuple #[.int .i64 0, .int .i64 100]) ∧ Below w.heap.size w w' := by
  cases hx : inR x ts.length
  · have hX := node_no K b x ts hl hx w h
    clear hn hx
    go_enter Tryz.func62, Tryz.ntmps62
    go_wp2_with fail
    refine hX.mono ?_
    rintro r w1 ⟨rfl, b1⟩
    unfold tv constT
    go_wp2_with fail
    go_ret2
    exact ⟨rfl, b1.alloc b1.size _⟩
  · rw [hx, Bool.true_and] at hn
    obtain ⟨k, rfl, hk⟩ := inR_nat hx
    have hX := node_any K b k ts hl hk w h
    have hY := fun w h => node_no K b y ts hl hn w h
    generalize ts.getD k default = t at hX
    unfold tv at hX
    clear hn hx
    go_enter Tryz.func62, Tryz.ntmps62
    go_wp2_with fail
    refine hX.mono ?_
    rintro r w1 ⟨rfl, b1⟩
    have h1 := h.below b1
    go_wp2_with fail
    refine (hY _ (h1.alloc _)).mono ?_
    rintro r w2 ⟨rfl, b2⟩
    unfold tv constT
    have b3 := below_then (below_alloc1 b1 _) b2
    clear hX hY b2
    go_wp2_with fail
    go_ret2
    exact ⟨rfl, b3.alloc b3.size _⟩
set_option maxRecDepth 100000 in
theorem simpOp_bad (K : Nat → Prop) (b : Nat) (op : Int) (x y : Nat) (ts : List Term) (hl : ts.length < 1000000000000) (hx : x < ts.length) (hy : y < ts.length) (ho : opOk op = false) (w : World) (h : DagAt K w b ts) :
    Calls Tryz.prog 62 #[.pointer (some ⟨b, 0, none⟩), .int .i64 op, .int .i64 x, .int .i64 y] w fun e w' => e = .returned (.tuple #[.int .i64 0, .int .i64 1]) ∧ Below w.heap.size w w' := by
  have hX := node_any K b x ts hl hx w h
  have hY := fun w h => node_any K b y ts hl hy w h
  generalize ts.getD x default = t at hX
  generalize ts.getD y default = u at hY
  unfold tv at hX hY
  have hD := fun w => do_no op ho (.int .u32 0) (.int .u32 0) w
  clear ho
  go_enter Tryz.func62, Tryz.ntmps62
  go_wp2_with fail
  refine hX.mono ?_
  rintro r w1 ⟨rfl, b1⟩
  have h1 := h.below b1
  go_wp2_with fail
  refine (hY _ (h1.alloc _)).mono ?_
  rintro r w2 ⟨rfl, b2⟩
  have b3 := below_then (below_alloc1 b1 _) b2
  clear hX hY b2
  go_wp2_with fail
  refine (hD _).mono ?_
  rintro r w3 ⟨rfl, rfl⟩
  go_wp2_with fail
  go_ret2
  exact ⟨rfl, b3.alloc b3.size _⟩
/-- What simp.Op tells: the terms behind it, the number. -/
def OpPost (K : Nat → Prop) (b : Nat) (w : World) (R : Made) (e : Ending) (w' : World) : Prop := e = .returned (.tuple #[.int .i64 (R.2 : Nat), .int .i64 0]) ∧ DagAt K w' b R.1 ∧ Kept K w w'
set_option maxRecDepth 100000 in
theorem simpOp_any (K : Nat → Prop) (b op x y : Nat) (ts : List Term) (hl : ts.length < 100000000000) (hx : x < ts.length) (hy : y < ts.length) (ho : (doW op 0 0).isSome = true) (hG : Good ts) (hg : K 0) (w : World) (hT : Tab w) (h : DagAt K w b ts) :
    Calls Tryz.prog 62 #[.pointer (some ⟨b, 0, none⟩), .int .i64 op, .int .i64 x, .int .i64 y] w (OpPost K b w (made ts op x y)) := by
  have hX := node_any K b x ts (by omega) hx w h
  have hY := fun w h => node_any K b y ts (by omega) hy w h
  generalize ts.getD x default = t at hX
  generalize ts.getD y default = u at hY
  unfold tv at hX hY
  have hD : ∀ w, Calls Tryz.prog 42 #[.int .i64 op, .int .u32 0, .int .u32 0] w fun r w' => r = .returned (.tuple #[.int .u32 (((doW op 0 0).getD 0 : Nat) : Int), .int .i64 0]) ∧ w = w' := do_any op ho 0 0 (by omega) (by omega)
  have hm := mz_le (op := op) (b := y) hx
  have hM := fun w h hT => made_any (8 * ts.length + 10) K b ts op x y w h hG hg hT ho hx hy (by omega) (by omega)
  have e : madeF (8 * ts.length + 10) ts op x y = made ts op x y := rfl
  rw [e] at hM
  clear e hm
  generalize made ts op x y = R at hM ⊢
  go_enter Tryz.func62, Tryz.ntmps62
  go_wp2_with fail
  refine hX.mono ?_
  rintro r w1 ⟨rfl, b1⟩
  have h1 := h.below b1
  go_wp2_with fail
  refine (hY _ (h1.alloc _)).mono ?_
  rintro r w2 ⟨rfl, b2⟩
  have h2 := (h1.alloc _).below b2
  have b3 := below_then (below_alloc1 b1 _) b2
  have hT2 := hT.below b3
  clear hX hY b2
  go_wp2_with fail
  refine (hD _).mono ?_
  rintro r w3 ⟨rfl, rfl⟩
  go_wp2_with fail
  refine (hM _ (h2.alloc _) (hT2.alloc _)).mono ?_
  rintro r w4 ⟨rfl, h4, k4⟩
  have k5 := (Kept.below (K := K) (below_alloc1 b3 _)).trans k4
  go_wp2_with fail
  go_ret2
  exact ⟨rfl, h4, k5⟩
end Go.Proofs.YtaiggfknighhgaaGreatDoor
