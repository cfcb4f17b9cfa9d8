/- simp: what made asks itself, a word's rule begun, twice. -/
import Derived.Test.YtaiggfknighhgaaGreatDoorSBase
import Derived.Deep.RegionHeld3
set_option linter.unusedVariables false
set_option linter.unusedSimpArgs false
namespace Go.Proofs.YtaiggfknighhgaaGreatDoor
open Go.RowKit Go.Maps Go.MapKept

/-- What becomes of a reckoning that goes on (R: its terms and number). -/
def MadePost (K : Nat → Prop) (b : Nat) (w : World) (R : Made) (e : Ending) (w' : World) : Prop := e = .returned (.int .i64 (R.2 : Nat)) ∧ DagAt K w' b R.1 ∧ Kept K w w'
def IsPost (K : Nat → Prop) (b : Nat) (w : World) (R : Made) (e : Ending) (w' : World) : Prop := e = .returned (.tuple #[.int .i64 (R.2 : Nat), .bool true]) ∧ DagAt K w' b R.1 ∧ Kept K w w'
def MadeSpec (f : Nat) : Prop := ∀ (K : Nat → Prop) (b : Nat) (ts : List Term) (op x y : Nat) (w : World), DagAt K w b ts → Good ts → K 0 → Tab w → (doW op 0 0).isSome = true → x < ts.length → y < ts.length →
  mz ts op x y < f → ts.length + f < 1000000000000 → Calls Tryz.prog 86 #[.pointer (some ⟨b, 0, none⟩), .int .i64 op, .int .i64 x, .int .i64 y] w (MadePost K b w (madeF f ts op x y))
set_option maxRecDepth 100000 in
theorem goes_any (f : Nat) (hM : MadeSpec f) (K : Nat → Prop) (b g : Nat) (ts : List Term) (op x v : Nat) (w : World) (h : DagAt K w b ts) (hG : Good (ins ts (constT v))) (hg : K 0) (hT : Tab w) (ho : (doW op 0 0).isSome = true) (hx : x < ts.length) (hv : v < 4294967296)
    (hm : mz (ins ts (constT v)) op x (pos ts (constT v)) < f) (hl : ts.length + (f + 1) < 1000000000000) (hk : K g) (hc : w.cell? ⟨g, 0, none⟩ = some (.pointer (some ⟨b, 0, none⟩))) :
    Calls Tryz.prog 108 #[.int .i64 op, .int .i64 x, .int .u32 v, .pointer (some ⟨g, 0, none⟩)] w (IsPost K b w (madeF f (ins ts (constT v)) op x (pos ts (constT v)))) := by
  unfold MadeSpec at hM
  have hl2 := (ins_len ts (constT v)).2
  have hl3 := (ins_len ts (constT v)).1
  have hp := pos_lt ts (constT v)
  generalize hR : madeF f (ins ts (constT v)) op x (pos ts (constT v)) = R
  have HR := Lib.hid hR
  clear hR
  go_enter Tryz.func108, Tryz.ntmps108
  go_wp2_with fail
  have h' : DagAt K w.drew b ts := h.below ((Below.refl _ _).drew)
  have hT' : Tab w.drew := hT.below ((Below.refl _ _).drew)
  have hc' : w.drew.cell? ⟨g, 0, none⟩ = some (.pointer (some ⟨b, 0, none⟩)) := hc
  have hk0 : Kept K w w.drew := (Kept.refl K w).drew
  go_region_held3 (fun w' => w'.cell? ⟨g, 0, none⟩ = some (.pointer (some ⟨b, 0, none⟩)))
    (first | go_keep | exact hc1)
    (first
      | (go_at_call 20; (with_reducible refine (const_any K b v ts hv (by omega) _ h').mono ?_); rintro r w1 ⟨rfl, h1, k1⟩; have hc1 := k1.cell hk hc'; have hT1 := hT'.kept k1 hg; have k2 := hk0.trans k1)
      | (go_at_call 86; (with_reducible refine (hM K b _ op x _ _ h1 hG hg hT1 ho (by omega) hp hm (by omega)).mono ?_); rw [HR.out]; rintro r w2 ⟨rfl, h3, k3⟩; have hc1 := k3.cell hk hc1; have k4 := k2.trans k3))
  go_wp2_with fail
  go_ret2
  exact ⟨rfl, h3, k4⟩
theorem twice_none {ts : List Term} {op a : Nat} (h : twiceN ts op a = none) : op ≠ 28 ∧ op ≠ 32 ∧ op ≠ 30 ∧ op ≠ 31 ∧ op ≠ 36 ∧ op ≠ 35 ∧ op ≠ 27 := by
  unfold twiceN at h
  split at h
  · cases h
  split at h
  · cases h
  split at h
  · cases h
  omega
theorem int_ne {a : Nat} {k : Nat} (h : a ≠ k) : ((a : Int) == (k : Int)) = false := by simp; omega
set_option maxRecDepth 100000 in
theorem twice_no (b op x : Nat) (ts : List Term) (hn : twiceN ts op x = none) (w : World) :
    Calls Tryz.prog 100 #[.pointer (some ⟨b, 0, none⟩), .int .i64 op, .int .i64 x] w fun e w' => e = .returned (.tuple #[.int .i64 0, .bool false]) ∧ w = w' := by
  obtain ⟨h1, h2, h3, h4, h5, h6, h7⟩ := twice_none hn
  have g1 := int_ne h1
  have g2 := int_ne h2
  have g3 := int_ne h3
  have g4 := int_ne h4
  have g5 := int_ne h5
  have g6 := int_ne h6
  have g7 := int_ne h7
  clear h1 h2 h3 h4 h5 h6 h7 hn
  go_enter Tryz.func100, Tryz.ntmps100
  go_wp2_with fail
  go_ret2
  exact ⟨rfl, rfl⟩
set_option maxRecDepth 100000 in
theorem twice28 (K : Nat → Prop) (b x : Nat) (ts : List Term) (w : World) (h : DagAt K w b ts) (hl : ts.length < 1000000000000) :
    Calls Tryz.prog 100 #[.pointer (some ⟨b, 0, none⟩), .int .i64 28, .int .i64 x] w (IsPost K b w (ins ts (constT 0), pos ts (constT 0))) := by
  have hC := const_any K b 0 ts (by omega) hl w h
  go_enter Tryz.func100, Tryz.ntmps100
  go_wp2_with fail
  refine hC.mono ?_
  rintro r w1 ⟨rfl, h1, k1⟩
  go_wp2_with fail
  go_ret2
  exact ⟨rfl, h1, k1⟩
set_option maxRecDepth 100000 in
theorem twice32 (K : Nat → Prop) (b x : Nat) (ts : List Term) (w : World) (h : DagAt K w b ts) (hl : ts.length < 1000000000000) :
    Calls Tryz.prog 100 #[.pointer (some ⟨b, 0, none⟩), .int .i64 32, .int .i64 x] w (IsPost K b w (ins ts (constT 0), pos ts (constT 0))) := by
  have hC := const_any K b 0 ts (by omega) hl w h
  go_enter Tryz.func100, Tryz.ntmps100
  go_wp2_with fail
  refine hC.mono ?_
  rintro r w1 ⟨rfl, h1, k1⟩
  go_wp2_with fail
  go_ret2
  exact ⟨rfl, h1, k1⟩
set_option maxRecDepth 100000 in
theorem twice30 (K : Nat → Prop) (b x : Nat) (ts : List Term) (w : World) (h : DagAt K w b ts) (hl : ts.length < 1000000000000) :
    Calls Tryz.prog 100 #[.pointer (some ⟨b, 0, none⟩), .int .i64 30, .int .i64 x] w (IsPost K b w (ins ts (constT 0), pos ts (constT 0))) := by
  have hC := const_any K b 0 ts (by omega) hl w h
  go_enter Tryz.func100, Tryz.ntmps100
  go_wp2_with fail
  refine hC.mono ?_
  rintro r w1 ⟨rfl, h1, k1⟩
  go_wp2_with fail
  go_ret2
  exact ⟨rfl, h1, k1⟩
set_option maxRecDepth 100000 in
theorem twice31 (K : Nat → Prop) (b x : Nat) (ts : List Term) (w : World) (h : DagAt K w b ts) (hl : ts.length < 1000000000000) :
    Calls Tryz.prog 100 #[.pointer (some ⟨b, 0, none⟩), .int .i64 31, .int .i64 x] w (IsPost K b w (ins ts (constT 0), pos ts (constT 0))) := by
  have hC := const_any K b 0 ts (by omega) hl w h
  go_enter Tryz.func100, Tryz.ntmps100
  go_wp2_with fail
  refine hC.mono ?_
  rintro r w1 ⟨rfl, h1, k1⟩
  go_wp2_with fail
  go_ret2
  exact ⟨rfl, h1, k1⟩
set_option maxRecDepth 100000 in
theorem twice36 (K : Nat → Prop) (b x : Nat) (ts : List Term) (w : World) (h : DagAt K w b ts) :
    Calls Tryz.prog 100 #[.pointer (some ⟨b, 0, none⟩), .int .i64 36, .int .i64 x] w (IsPost K b w (ts, x)) := by
  go_enter Tryz.func100, Tryz.ntmps100
  go_wp2_with fail
  go_ret2
  exact ⟨rfl, h, Kept.refl K w⟩
set_option maxRecDepth 100000 in
theorem twice35 (K : Nat → Prop) (b x : Nat) (ts : List Term) (w : World) (h : DagAt K w b ts) :
    Calls Tryz.prog 100 #[.pointer (some ⟨b, 0, none⟩), .int .i64 35, .int .i64 x] w (IsPost K b w (ts, x)) := by
  go_enter Tryz.func100, Tryz.ntmps100
  go_wp2_with fail
  go_ret2
  exact ⟨rfl, h, Kept.refl K w⟩
set_option maxRecDepth 100000 in
theorem twice27 (f : Nat) (hM : MadeSpec f) (K : Nat → Prop) (b : Nat) (ts : List Term) (x : Nat) (w : World) (h : DagAt K w b ts) (hG : Good (ins ts (constT 1))) (hg : K 0) (hT : Tab w) (hx : x < ts.length)
    (hm : mz (ins ts (constT 1)) 29 x (pos ts (constT 1)) < f) (hl : ts.length + (f + 1) < 1000000000000) :
    Calls Tryz.prog 100 #[.pointer (some ⟨b, 0, none⟩), .int .i64 27, .int .i64 x] w (IsPost K b w (madeF f (ins ts (constT 1)) 29 x (pos ts (constT 1)))) := by
  unfold MadeSpec at hM
  have hl2 := (ins_len ts (constT 1)).2
  have hl3 := (ins_len ts (constT 1)).1
  have hp := pos_lt ts (constT 1)
  have hC := const_any K b 1 ts (by omega) (by omega) w h
  have hS := hM K b (ins ts (constT 1)) 29 x (pos ts (constT 1))
  generalize madeF f (ins ts (constT 1)) 29 x (pos ts (constT 1)) = R at hS ⊢
  go_enter Tryz.func100, Tryz.ntmps100
  go_wp2_with fail
  refine hC.mono ?_
  rintro r w1 ⟨rfl, h1, k1⟩
  go_wp2_with fail
  refine (hS w1 h1 hG hg (hT.kept k1 hg) rfl (by omega) hp hm (by omega)).mono ?_
  rintro r w2 ⟨rfl, h2, k2⟩
  go_wp2_with fail
  go_ret2
  exact ⟨rfl, h2, k1.trans k2⟩
/-- A reckoning of a term and itself. -/
theorem twice_yes (f : Nat) (hM : MadeSpec f) (K : Nat → Prop) (b op x : Nat) (ts : List Term) (nx : Nx) (hn : twiceN ts op x = some nx) (hok : nx.ok ts op x x) (w : World) (h : DagAt K w b ts) (hg : K 0) (hT : Tab w) (hx : x < ts.length)
    (hm : mz ts op x x < f + 1) (hl : ts.length + (f + 1) < 1000000000000) :
    Calls Tryz.prog 100 #[.pointer (some ⟨b, 0, none⟩), .int .i64 op, .int .i64 x] w (IsPost K b w (nx.fin (madeF f))) := by
  unfold twiceN at hn
  rcases ite_some hn with ⟨ho, rfl⟩ | ⟨_, hn⟩
  · rcases ho with rfl | rfl | rfl | rfl
    · exact twice28 K b x ts w h (by omega)
    · exact twice32 K b x ts w h (by omega)
    · exact twice30 K b x ts w h (by omega)
    · exact twice31 K b x ts w h (by omega)
  rcases ite_some hn with ⟨ho, rfl⟩ | ⟨_, hn⟩
  · rcases ho with rfl | rfl
    · exact twice36 K b x ts w h
    · exact twice35 K b x ts w h
  rcases ite_some hn with ⟨rfl, rfl⟩ | ⟨_, hn⟩
  · have hW : Went ts 27 x x (ins ts (constT 1)) 29 x (pos ts (constT 1)) := hok
    exact twice27 f hM K b ts x w h hW.good hg hT hx (by have := hW.less; omega) hl
  · cases hn
end Go.Proofs.YtaiggfknighhgaaGreatDoor
