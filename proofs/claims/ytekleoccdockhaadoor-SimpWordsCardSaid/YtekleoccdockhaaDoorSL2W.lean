/- The law SimpWords, walked. -/
import Derived.Test.YtekleoccdockhaaDoorSFix
import Derived.Test.YtekleoccdockhaaDoorSAllW
set_option linter.unusedVariables false
set_option linter.unusedSimpArgs false
namespace Go.Proofs.YtekleoccdockhaaDoor
open Go.RowKit Go.Maps Go.MapKept

theorem allT_leaf {ts : List Term} {n : Nat} (hk : (ts.getD n default).k ≠ 2) : allT ts n = (ts, n) := by
  unfold allT allF dn0
  dsimp only
  rw [if_neg hk]
def wo2 (a b : Nat) : List Term := ins [constT a] (constT b)
def woy (a b : Nat) : Nat := pos [constT a] (constT b)
def wo3 (a b : Nat) : List Term := ins (wo2 a b) (varT 7)
def wor (a b : Nat) : Nat := pos (wo2 a b) (varT 7)
def wou (op a b : Nat) : Nat := (doW op a b).getD 0
def wo4 (op a b : Nat) : List Term := ins (wo3 a b) (constT (wou op a b))
def won (op a b : Nat) : Nat := pos (wo3 a b) (constT (wou op a b))
theorem good_one {a : Nat} (ha : a < 4294967296) : Good [constT a] := (Good.nil.const ha : Good (ins [] (constT a)))
theorem wo2_ext (a b : Nat) : Ext [constT a] (wo2 a b) := ext_ins _ _
theorem wo3_ext (a b : Nat) : Ext (wo2 a b) (wo3 a b) := ext_ins _ _
theorem wo3_good {a b : Nat} (ha : a < 4294967296) (hb : b < 4294967296) : Good (wo3 a b) := ((good_one ha).const hb).var (by omega) (by omega)
theorem wo3_x (a b : Nat) : 0 < (wo3 a b).length ∧ isC (wo3 a b) 0 = true ∧ wd (wo3 a b) 0 = a := by
  have e := (wo2_ext a b).trans (wo3_ext a b)
  exact ⟨Nat.lt_of_lt_of_le (by simp : 0 < [constT a].length) e.len, by rw [e.isC (by simp : 0 < [constT a].length)]; rfl, by rw [e.wd (by simp : 0 < [constT a].length)]; rfl⟩
theorem wo3_y (a b : Nat) : woy a b < (wo3 a b).length ∧ isC (wo3 a b) (woy a b) = true ∧ wd (wo3 a b) (woy a b) = b := by
  have hl : woy a b < (wo2 a b).length := pos_lt _ _
  have h1 : isC (wo2 a b) (woy a b) = true := ins_const_isC _ _
  have h2 : wd (wo2 a b) (woy a b) = b := ins_const_wd _ _
  exact ⟨Nat.lt_of_lt_of_le hl (wo3_ext a b).len, by rw [(wo3_ext a b).isC hl]; exact h1, by rw [(wo3_ext a b).wd hl]; exact h2⟩
theorem wo_made {op a b : Nat} (ha : a < 4294967296) (hb : b < 4294967296) (ho : (doW op 0 0).isSome = true) : made (wo3 a b) op 0 (woy a b) = (wo4 op a b, won op a b) := by
  obtain ⟨x1, x2, x3⟩ := wo3_x a b
  obtain ⟨y1, y2, y3⟩ := wo3_y a b
  rw [made_next (wo3_good ha hb) ho x1 y1]
  have e : next (wo3 a b) op 0 (woy a b) = cst (wo3 a b) (wou op a b) := by
    unfold next
    rw [if_pos ⟨x2, y2⟩, x3, y3]
    rfl
  rw [e]
  rfl
theorem wo4_at (op a b : Nat) : (wo4 op a b).getD (won op a b) default = ⟨0, wou op a b, 0, 0, 0⟩ ∧ won op a b < (wo4 op a b).length := ⟨ins_getD _ _ _, pos_lt _ _⟩
theorem wo4_x (op a b : Nat) : 0 < (wo4 op a b).length ∧ ((wo4 op a b).getD 0 default).k ≠ 2 := by
  obtain ⟨x1, x2, x3⟩ := wo3_x a b
  have e : Ext (wo3 a b) (wo4 op a b) := ext_ins _ _
  refine ⟨Nat.lt_of_lt_of_le x1 e.len, ?_⟩
  rw [e.getD x1]
  unfold isC at x2
  simp only [decide_eq_true_eq] at x2
  omega
theorem wo4_r (op a b : Nat) : wor a b < (wo4 op a b).length ∧ ((wo4 op a b).getD (wor a b) default).k ≠ 2 := by
  have e : Ext (wo3 a b) (wo4 op a b) := ext_ins _ _
  have hl : wor a b < (wo3 a b).length := pos_lt _ _
  refine ⟨Nat.lt_of_lt_of_le hl e.len, ?_⟩
  rw [e.getD hl]
  have h : (wo3 a b).getD (wor a b) default = varT 7 := ins_getD _ _ _
  rw [h]
  simp [varT]
theorem wo_lens (op a b : Nat) : (wo2 a b).length ≤ 2 ∧ (wo3 a b).length ≤ 3 ∧ (wo4 op a b).length ≤ 4 := by
  have l2 : (wo2 a b).length ≤ 2 := (ins_len [constT a] (constT b)).2
  have l3 : (wo3 a b).length ≤ (wo2 a b).length + 1 := (ins_len _ _).2
  have l4 : (wo4 op a b).length ≤ (wo3 a b).length + 1 := (ins_len _ _).2
  omega
set_option maxRecDepth 100000 in
set_option maxHeartbeats 4000000 in
theorem law2_no (op : Int) (a b : Nat) (ho : opOk op = false) (ha : a < 4294967296) (hb : b < 4294967296) (w : World) (hT : Tab w) (hgz : 0 < w.heap.size) :
    Calls Tryd.prog 4 #[.int .i64 op, .int .u32 a, .int .u32 b] w fun e w' => e = .returned (.bool true) ∧ Below w.heap.size w w' := by
  obtain ⟨K, hK⟩ : ∃ K : Nat → Prop, (fun i => i < w.heap.size) = K := ⟨_, rfl⟩
  have hN := new_any (fun i => i < w.heap.size) w (fun i hi => hi)
  have hg : K 0 := by rw [← hK]; exact hgz
  have hend : ∀ w', Kept K w w' → Below w.heap.size w w' := fun w' h => by rw [← hK] at h; exact below_kept h
  rw [hK] at hN
  clear hK
  generalize hbb : w.heap.size = d at hN hgz ⊢
  have HB := Lib.hid hbb
  clear hbb
  have hC1 : ∀ w, DagAt K w d [] → Calls Tryd.prog 12 #[.pointer (some ⟨d, 0, none⟩), .int .u32 a] w fun e w' => e = .returned (.int .i64 0) ∧ DagAt K w' d [constT a] ∧ Kept K w w' := const_any K d a [] ha (by decide)
  have hC2 : ∀ w, DagAt K w d [constT a] → Calls Tryd.prog 12 #[.pointer (some ⟨d, 0, none⟩), .int .u32 b] w fun e w' => e = .returned (.int .i64 (woy a b : Nat)) ∧ DagAt K w' d (wo2 a b) ∧ Kept K w w' := const_any K d b [constT a] hb (by simp)
  obtain ⟨l2, l3, _⟩ := wo_lens 0 a b
  have hV : ∀ w, DagAt K w d (wo2 a b) → Calls Tryd.prog 10 #[.pointer (some ⟨d, 0, none⟩), .int .i64 7] w fun e w' => e = .returned (.tuple #[.int .i64 (wor a b : Nat), .int .i64 0]) ∧ DagAt K w' d (wo3 a b) ∧ Kept K w w' := var_any K d 7 (wo2 a b) (by decide) (by omega)
  obtain ⟨y1, y2, y3⟩ := wo3_y a b
  obtain ⟨x1, x2, x3⟩ := wo3_x a b
  have hgd := wo3_good ha hb
  have hO : ∀ w, DagAt K w d (wo3 a b) → Calls Tryd.prog 11 #[.pointer (some ⟨d, 0, none⟩), .int .i64 op, .int .i64 0, .int .i64 (woy a b : Nat)] w fun e w' => e = .returned (.tuple #[.int .i64 0, .int .i64 1]) ∧ Below w.heap.size w w' := simpOp_bad K d op 0 (woy a b) (wo3 a b) (by omega) x1 y1 ho
  clear ho x1 x2 x3 y1 y2 y3 hgd l2 l3
  go_enter Tryd.func4, Tryd.ntmps4
  go_wp2_with fail
  refine hN.mono ?_
  rintro r w0 ⟨rfl, h0, b0⟩
  have k0 : Kept K w w0 := Kept.below (by rw [HB.out]; exact b0)
  have hT0 := hT.kept k0 hg
  clear hN b0 hT
  go_wp2_with fail
  refine (hC1 w0 h0).mono ?_
  rintro r w1 ⟨rfl, h1, q1⟩
  have k1 := k0.trans q1
  have hT1 := hT0.kept q1 hg
  clear h0 k0 hT0 q1
  go_wp2_with fail
  refine (hC2 w1 h1).mono ?_
  rintro r w2 ⟨rfl, h2, q2⟩
  have k2 := k1.trans q2
  have hT2 := hT1.kept q2 hg
  clear h1 k1 hT1 q2
  go_wp2_with fail
  refine (hV w2 h2).mono ?_
  rintro r w3 ⟨rfl, h3, q3⟩
  have k3 := k2.trans q3
  have hT3 := hT2.kept q3 hg
  clear h2 k2 hT2 q3
  go_wp2_with fail
  refine (hO w3 h3).mono ?_
  rintro r w4 ⟨rfl, b4⟩
  have k4 := k3.then_below b4
  have hT4 := hT3.below b4
  go_wp2_with fail
  refine (fixed_any w4 hT4 (Nat.lt_of_lt_of_le hgz (by have := k4.size; rw [HB.out] at this; exact this))).mono ?_
  rintro r wz ⟨rfl, bz⟩
  have kz := k4.then_below bz
  go_wp2_with fail
  go_ret
  exact ⟨rfl, by rw [← HB.out]; exact hend _ kz⟩
set_option maxRecDepth 100000 in
set_option maxHeartbeats 4000000 in
theorem law2_yes (op a b : Nat) (ho : (doW op 0 0).isSome = true) (ha : a < 4294967296) (hb : b < 4294967296) (w : World) (hT : Tab w) (hgz : 0 < w.heap.size) :
    Calls Tryd.prog 4 #[.int .i64 op, .int .u32 a, .int .u32 b] w fun e w' => e = .returned (.bool true) ∧ Below w.heap.size w w' := by
  obtain ⟨K, hK⟩ : ∃ K : Nat → Prop, (fun i => i < w.heap.size) = K := ⟨_, rfl⟩
  have hN := new_any (fun i => i < w.heap.size) w (fun i hi => hi)
  have hg : K 0 := by rw [← hK]; exact hgz
  have hend : ∀ w', Kept K w w' → Below w.heap.size w w' := fun w' h => by rw [← hK] at h; exact below_kept h
  rw [hK] at hN
  clear hK
  generalize hbb : w.heap.size = d at hN hgz ⊢
  have HB := Lib.hid hbb
  clear hbb
  have hC1 : ∀ w, DagAt K w d [] → Calls Tryd.prog 12 #[.pointer (some ⟨d, 0, none⟩), .int .u32 a] w fun e w' => e = .returned (.int .i64 0) ∧ DagAt K w' d [constT a] ∧ Kept K w w' := const_any K d a [] ha (by decide)
  have hC2 : ∀ w, DagAt K w d [constT a] → Calls Tryd.prog 12 #[.pointer (some ⟨d, 0, none⟩), .int .u32 b] w fun e w' => e = .returned (.int .i64 (woy a b : Nat)) ∧ DagAt K w' d (wo2 a b) ∧ Kept K w w' := const_any K d b [constT a] hb (by simp)
  obtain ⟨l2, l3, _⟩ := wo_lens 0 a b
  have hV : ∀ w, DagAt K w d (wo2 a b) → Calls Tryd.prog 10 #[.pointer (some ⟨d, 0, none⟩), .int .i64 7] w fun e w' => e = .returned (.tuple #[.int .i64 (wor a b : Nat), .int .i64 0]) ∧ DagAt K w' d (wo3 a b) ∧ Kept K w w' := var_any K d 7 (wo2 a b) (by decide) (by omega)
  obtain ⟨y1, y2, y3⟩ := wo3_y a b
  obtain ⟨x1, x2, x3⟩ := wo3_x a b
  have hgd := wo3_good ha hb
  have hO : ∀ w, Tab w → DagAt K w d (wo3 a b) → Calls Tryd.prog 11 #[.pointer (some ⟨d, 0, none⟩), .int .i64 op, .int .i64 0, .int .i64 (woy a b : Nat)] w fun e w' => e = .returned (.tuple #[.int .i64 (won op a b : Nat), .int .i64 0]) ∧ DagAt K w' d (wo4 op a b) ∧ Kept K w w' := by
    intro w hT h
    have hq := simpOp_any K d op 0 (woy a b) (wo3 a b) (by omega) x1 y1 ho hgd hg w hT h
    rw [wo_made ha hb ho] at hq
    exact hq
  obtain ⟨_, _, l4⟩ := wo_lens op a b
  obtain ⟨p1, p2⟩ := wo4_at op a b
  obtain ⟨r1, r2⟩ := wo4_x op a b
  obtain ⟨s1, s2⟩ := wo4_r op a b
  have hg4 : Good (wo4 op a b) := hgd.const (doW_lt ho ha hb)
  have hNd : ∀ w, DagAt K w d (wo4 op a b) → Calls Tryd.prog 14 #[.pointer (some ⟨d, 0, none⟩), .int .i64 (won op a b : Nat)] w fun e w' => e = .returned (.tuple #[.agg #[.int .i64 0, .int .u32 (wou op a b : Nat), .int .i64 0, .int .i64 0, .int .i64 0], .int .i64 0]) ∧ Below w.heap.size w w' := by
    intro w h
    have hq := node_any K d (won op a b) (wo4 op a b) (by omega) p2 w h
    rw [p1] at hq
    exact hq
  have hA1 : ∀ K : Nat → Prop, K 0 → ∀ w, Tab w → DagAt K w d (wo4 op a b) → Calls Tryd.prog 15 #[.pointer (some ⟨d, 0, none⟩), .int .i64 0] w fun e w' => e = .returned (.tuple #[.int .i64 0, .int .i64 0]) ∧ DagAt K w' d (wo4 op a b) ∧ Kept K w w' := by
    intro K hg w hT h
    have hq := simpAll_any K d 0 (wo4 op a b) (by rw [allT_leaf r2]; show (wo4 op a b).length < _; omega) r1 hg4 hg w hT h
    rw [allT_leaf r2] at hq
    exact hq
  have hA2 : ∀ K : Nat → Prop, K 0 → ∀ w, Tab w → DagAt K w d (wo4 op a b) → Calls Tryd.prog 15 #[.pointer (some ⟨d, 0, none⟩), .int .i64 (wor a b : Nat)] w fun e w' => e = .returned (.tuple #[.int .i64 (wor a b : Nat), .int .i64 0]) ∧ DagAt K w' d (wo4 op a b) ∧ Kept K w w' := by
    intro K hg w hT h
    have hq := simpAll_any K d (wor a b) (wo4 op a b) (by rw [allT_leaf s2]; show (wo4 op a b).length < _; omega) s1 hg4 hg w hT h
    rw [allT_leaf s2] at hq
    exact hq
  clear ho x1 x2 x3 y1 y2 y3 hgd l2 l3 l4 p1 p2 r1 r2 s1 s2 hg4
  go_enter Tryd.func4, Tryd.ntmps4
  go_wp2_with fail
  refine hN.mono ?_
  rintro r w0 ⟨rfl, h0, b0⟩
  have k0 : Kept K w w0 := Kept.below (by rw [HB.out]; exact b0)
  have hT0 := hT.kept k0 hg
  clear hN b0 hT
  go_wp2_with fail
  refine (hC1 w0 h0).mono ?_
  rintro r w1 ⟨rfl, h1, q1⟩
  have k1 := k0.trans q1
  have hT1 := hT0.kept q1 hg
  clear h0 k0 hT0 q1
  go_wp2_with fail
  refine (hC2 w1 h1).mono ?_
  rintro r w2 ⟨rfl, h2, q2⟩
  have k2 := k1.trans q2
  have hT2 := hT1.kept q2 hg
  clear h1 k1 hT1 q2
  go_wp2_with fail
  refine (hV w2 h2).mono ?_
  rintro r w3 ⟨rfl, h3, q3⟩
  have k3 := k2.trans q3
  have hT3 := hT2.kept q3 hg
  clear h2 k2 hT2 q3
  go_wp2_with fail
  refine (hO w3 hT3 h3).mono ?_
  rintro r w4 ⟨rfl, h4, q4⟩
  have k4 := k3.trans q4
  have hT4 := hT3.kept q4 hg
  clear h3 k3 hT3 q4
  go_wp2_with fail
  refine (hNd w4 h4).mono ?_
  rintro r w5 ⟨rfl, b5⟩
  have h6 := (h4.below b5).more ((Below.refl w5.heap.size w5).alloc (Nat.le_refl _) (.cells #[.int .i64 0, .int .u32 (wou op a b : Nat), .int .i64 0, .int .i64 0, .int .i64 0] 33))
  have k6 := (k4.then_below b5).then_alloc (.cells #[.int .i64 0, .int .u32 (wou op a b : Nat), .int .i64 0, .int .i64 0, .int .i64 0] 33)
  have hT6 := (hT4.below b5).alloc (.cells #[.int .i64 0, .int .u32 (wou op a b : Nat), .int .i64 0, .int .i64 0, .int .i64 0] 33)
  obtain ⟨g5, _⟩ := five_cells (blk_new w5 (.cells #[.int .i64 0, .int .u32 (wou op a b : Nat), .int .i64 0, .int .i64 0, .int .i64 0] 33))
  have hk5 : More K w5 (w5.alloc (.cells #[.int .i64 0, .int .u32 (wou op a b : Nat), .int .i64 0, .int .i64 0, .int .i64 0] 33)) w5.heap.size := Or.inr ⟨Nat.le_refl _, by simp⟩
  have hKK : ∀ i, K i → More K w5 (w5.alloc (.cells #[.int .i64 0, .int .u32 (wou op a b : Nat), .int .i64 0, .int .i64 0, .int .i64 0] 33)) i := fun i hi => Or.inl hi
  generalize More K w5 (w5.alloc (.cells #[.int .i64 0, .int .u32 (wou op a b : Nat), .int .i64 0, .int .i64 0, .int .i64 0] 33)) = K1 at h6 hk5 hKK
  clear k4 hT4 h4
  go_wp2_with fail
  refine (hA1 K1 (hKK _ hg) _ hT6 h6).mono ?_
  rintro r w7 ⟨rfl, h7, q7⟩
  have k7 := k6.trans (q7.mono hKK)
  have hT7 := hT6.kept q7 (hKK _ hg)
  have g7 := q7.cell hk5 g5
  clear h6 k6 hT6 g5 q7
  go_wp2_with fail
  refine (hA2 K1 (hKK _ hg) _ hT7 h7).mono ?_
  rintro r w8 ⟨rfl, h8, q8⟩
  have k8 := k7.trans (q8.mono hKK)
  have hT8 := hT7.kept q8 (hKK _ hg)
  have g8 := q8.cell hk5 g7
  clear h7 k7 hT7 g7 q8
  go_wp2_with fail
  refine (fixed_any w8 hT8 (Nat.lt_of_lt_of_le hgz (by have := k8.size; rw [HB.out] at this; exact this))).mono ?_
  rintro r wz ⟨rfl, bz⟩
  have kz := k8.then_below bz
  go_wp2_with fail
  go_ret
  exact ⟨rfl, by rw [← HB.out]; exact hend _ kz⟩
theorem law2_any (op : Int) (a b : Nat) (ha : a < 4294967296) (hb : b < 4294967296) (w : World) (hT : Tab w) (hgz : 0 < w.heap.size) :
    Calls Tryd.prog 4 #[.int .i64 op, .int .u32 a, .int .u32 b] w fun e w' => e = .returned (.bool true) ∧ Below w.heap.size w w' := by
  cases ho : opOk op with
  | false => exact law2_no op a b ho ha hb w hT hgz
  | true =>
    obtain ⟨n, rfl, hn⟩ := opOk_nat ho
    exact law2_yes n a b hn ha hb w hT hgz
end Go.Proofs.YtekleoccdockhaaDoor
