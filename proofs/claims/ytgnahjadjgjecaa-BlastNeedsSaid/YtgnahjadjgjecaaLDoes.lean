/- whetstonelaw10.does, walked (written by genLD.py). -/
import Derived.Test.YtgnahjadjgjecaaLBoth
set_option linter.unusedVariables false
set_option linter.unusedSimpArgs false
namespace Go.Proofs.Ytgnahjadjgjecaa
open Go.RowKit Go.Maps Go.MapKept

structure DoesOut (K0 : Nat → Prop) (w : World) (d k : Nat) (ts ts' : List Term) (w' : World) : Prop where
  both : BothM K0 w' d k ts' ts'
  kept : Kept K0 w w'
  good : Good ts'
  ext : Ext ts ts'
  len : ts'.length ≤ ts.length + 1
def DoesPost (K0 : Nat → Prop) (w : World) (d k : Nat) (ts : List Term) (e : Ending) (w' : World) : Prop := e = .returned (.bool true) ∧ ∃ ts', DoesOut K0 w d k ts ts' w'
theorem does_fin {K0 K1 : Nat → Prop} {w w1 w' : World} {d k : Nat} {ts ts' : List Term} (hb : BothM K1 w' d k ts' ts') (hk : Kept K1 w1 w') (hKK : ∀ i, K0 i → K1 i) (h1 : Kept K0 w w1) (hg : Good ts') (he : Ext ts ts') (hl : ts'.length ≤ ts.length + 1) : ∃ ts', DoesOut K0 w d k ts ts' w' :=
  ⟨ts', hb.mono hKK, h1.trans (hk.mono hKK), hg, he, hl⟩
set_option maxRecDepth 100000 in
set_option maxHeartbeats 1000000 in
theorem does_const (K0 : Nat → Prop) (d k : Nat) (ts : List Term) (op a b : Int) (v : Nat) (hv : v < 4294967296) (hl : ts.length < 100000000000) (hG : Good ts) (w : World) (h : BothM K0 w d k ts ts) :
    Calls Try.prog 27 #[.pointer (some ⟨d, 0, none⟩), .pointer (some ⟨k, 0, none⟩), .agg #[.int .i64 0, .int .u32 v, .int .i64 op, .int .i64 a, .int .i64 b]] w (DoesPost K0 w d k ts) := by
  have hb1 := (Below.refl w.heap.size w).alloc (Nat.le_refl _) (.cells #[.int .i64 0, .int .u32 v, .int .i64 op, .int .i64 a, .int .i64 b] 78)
  have H := h.more hb1
  have k1 : Kept K0 w (w.alloc (.cells #[.int .i64 0, .int .u32 v, .int .i64 op, .int .i64 a, .int .i64 b] 78)) := Kept.below hb1
  have hx : More K0 w (w.alloc (.cells #[.int .i64 0, .int .u32 v, .int .i64 op, .int .i64 a, .int .i64 b] 78)) w.heap.size := Or.inr ⟨Nat.le_refl _, by simp⟩
  have hKK : ∀ i, K0 i → More K0 w (w.alloc (.cells #[.int .i64 0, .int .u32 v, .int .i64 op, .int .i64 a, .int .i64 b] 78)) i := fun i hi => Or.inl hi
  generalize More K0 w (w.alloc (.cells #[.int .i64 0, .int .u32 v, .int .i64 op, .int .i64 a, .int .i64 b] 78)) = K1 at H hx hKK
  obtain ⟨z0, z1, z2, z3, z4⟩ := five_cells (blk_new w (.cells #[.int .i64 0, .int .u32 v, .int .i64 op, .int .i64 a, .int .i64 b] 78))
  clear h hb1
  go_enter Try.func27, Try.ntmps27
  go_wp2_with fail
  refine (both_const H v hv (by omega)).mono ?_
  rintro r w2 ⟨rfl, H2, q2⟩
  have y1 := q2.cell hx z1
  have y2 := q2.cell hx z2
  have y3 := q2.cell hx z3
  have y4 := q2.cell hx z4
  clear z0 z1 z2 z3 z4
  go_wp2_with fail
  refine (both_rconst H2 v hv (by omega)).mono ?_
  rintro r w3 ⟨rfl, H3, q3⟩
  go_wp2_with fail
  go_ret
  exact ⟨rfl, does_fin H3 (q2.trans q3) hKK k1 (hG.const hv) (ext_ins _ _) (ins_len _ _).2⟩
set_option maxRecDepth 100000 in
set_option maxHeartbeats 1000000 in
theorem does_var (K0 : Nat → Prop) (d k : Nat) (ts : List Term) (op b : Int) (a : Nat) (hr : a < 32) (v : Nat) (hv : v < 4294967296) (hl : ts.length < 100000000000) (hG : Good ts) (w : World) (h : BothM K0 w d k ts ts) :
    Calls Try.prog 27 #[.pointer (some ⟨d, 0, none⟩), .pointer (some ⟨k, 0, none⟩), .agg #[.int .i64 1, .int .u32 v, .int .i64 op, .int .i64 a, .int .i64 b]] w (DoesPost K0 w d k ts) := by
  have hb1 := (Below.refl w.heap.size w).alloc (Nat.le_refl _) (.cells #[.int .i64 1, .int .u32 v, .int .i64 op, .int .i64 a, .int .i64 b] 78)
  have H := h.more hb1
  have k1 : Kept K0 w (w.alloc (.cells #[.int .i64 1, .int .u32 v, .int .i64 op, .int .i64 a, .int .i64 b] 78)) := Kept.below hb1
  have hx : More K0 w (w.alloc (.cells #[.int .i64 1, .int .u32 v, .int .i64 op, .int .i64 a, .int .i64 b] 78)) w.heap.size := Or.inr ⟨Nat.le_refl _, by simp⟩
  have hKK : ∀ i, K0 i → More K0 w (w.alloc (.cells #[.int .i64 1, .int .u32 v, .int .i64 op, .int .i64 a, .int .i64 b] 78)) i := fun i hi => Or.inl hi
  generalize More K0 w (w.alloc (.cells #[.int .i64 1, .int .u32 v, .int .i64 op, .int .i64 a, .int .i64 b] 78)) = K1 at H hx hKK
  obtain ⟨z0, z1, z2, z3, z4⟩ := five_cells (blk_new w (.cells #[.int .i64 1, .int .u32 v, .int .i64 op, .int .i64 a, .int .i64 b] 78))
  clear h hb1
  go_enter Try.func27, Try.ntmps27
  go_wp2_with fail
  refine (both_var H a hr (by omega)).mono ?_
  rintro r w2 ⟨rfl, H2, q2⟩
  have y1 := q2.cell hx z1
  have y2 := q2.cell hx z2
  have y3 := q2.cell hx z3
  have y4 := q2.cell hx z4
  clear z0 z1 z2 z3 z4
  go_wp2_with fail
  refine (both_rvar H2 a hr (by omega)).mono ?_
  rintro r w3 ⟨rfl, H3, q3⟩
  go_wp2_with fail
  go_ret
  exact ⟨rfl, does_fin H3 (q2.trans q3) hKK k1 (by unfold varTm; split; exact hG.const (by omega); exact hG.var (by omega) hr) (ext_ins _ _) (ins_len _ _).2⟩
set_option maxRecDepth 100000 in
set_option maxHeartbeats 1000000 in
theorem does_var_no (K0 : Nat → Prop) (d k : Nat) (ts : List Term) (op a b : Int) (hr : inR a 32 = false) (v : Nat) (hv : v < 4294967296) (hl : ts.length < 100000000000) (hG : Good ts) (w : World) (h : BothM K0 w d k ts ts) :
    Calls Try.prog 27 #[.pointer (some ⟨d, 0, none⟩), .pointer (some ⟨k, 0, none⟩), .agg #[.int .i64 1, .int .u32 v, .int .i64 op, .int .i64 a, .int .i64 b]] w (DoesPost K0 w d k ts) := by
  have hb1 := (Below.refl w.heap.size w).alloc (Nat.le_refl _) (.cells #[.int .i64 1, .int .u32 v, .int .i64 op, .int .i64 a, .int .i64 b] 78)
  have H := h.more hb1
  have k1 : Kept K0 w (w.alloc (.cells #[.int .i64 1, .int .u32 v, .int .i64 op, .int .i64 a, .int .i64 b] 78)) := Kept.below hb1
  have hx : More K0 w (w.alloc (.cells #[.int .i64 1, .int .u32 v, .int .i64 op, .int .i64 a, .int .i64 b] 78)) w.heap.size := Or.inr ⟨Nat.le_refl _, by simp⟩
  have hKK : ∀ i, K0 i → More K0 w (w.alloc (.cells #[.int .i64 1, .int .u32 v, .int .i64 op, .int .i64 a, .int .i64 b] 78)) i := fun i hi => Or.inl hi
  generalize More K0 w (w.alloc (.cells #[.int .i64 1, .int .u32 v, .int .i64 op, .int .i64 a, .int .i64 b] 78)) = K1 at H hx hKK
  obtain ⟨z0, z1, z2, z3, z4⟩ := five_cells (blk_new w (.cells #[.int .i64 1, .int .u32 v, .int .i64 op, .int .i64 a, .int .i64 b] 78))
  clear h hb1
  go_enter Try.func27, Try.ntmps27
  go_wp2_with fail
  refine (var_no d a hr _).mono ?_
  rintro r w2 ⟨rfl, rfl⟩
  go_wp2_with fail
  refine (rvar_no k a hr _).mono ?_
  rintro r w3 ⟨rfl, rfl⟩
  go_wp2_with fail
  go_ret
  exact ⟨rfl, does_fin H (Kept.refl _ _) hKK k1 hG (Ext.refl _) (by omega)⟩
set_option maxRecDepth 100000 in
set_option maxHeartbeats 1000000 in
theorem does_op (K0 : Nat → Prop) (d k : Nat) (ts : List Term) (op a b : Nat) (ha : a < ts.length) (hb : b < ts.length) (ho : (doW op 0 0).isSome = true) (v : Nat) (hv : v < 4294967296) (hl : ts.length < 100000000000) (hG : Good ts) (w : World) (h : BothM K0 w d k ts ts) :
    Calls Try.prog 27 #[.pointer (some ⟨d, 0, none⟩), .pointer (some ⟨k, 0, none⟩), .agg #[.int .i64 2, .int .u32 v, .int .i64 op, .int .i64 a, .int .i64 b]] w (DoesPost K0 w d k ts) := by
  have hb1 := (Below.refl w.heap.size w).alloc (Nat.le_refl _) (.cells #[.int .i64 2, .int .u32 v, .int .i64 op, .int .i64 a, .int .i64 b] 78)
  have H := h.more hb1
  have k1 : Kept K0 w (w.alloc (.cells #[.int .i64 2, .int .u32 v, .int .i64 op, .int .i64 a, .int .i64 b] 78)) := Kept.below hb1
  have hx : More K0 w (w.alloc (.cells #[.int .i64 2, .int .u32 v, .int .i64 op, .int .i64 a, .int .i64 b] 78)) w.heap.size := Or.inr ⟨Nat.le_refl _, by simp⟩
  have hKK : ∀ i, K0 i → More K0 w (w.alloc (.cells #[.int .i64 2, .int .u32 v, .int .i64 op, .int .i64 a, .int .i64 b] 78)) i := fun i hi => Or.inl hi
  generalize More K0 w (w.alloc (.cells #[.int .i64 2, .int .u32 v, .int .i64 op, .int .i64 a, .int .i64 b] 78)) = K1 at H hx hKK
  obtain ⟨z0, z1, z2, z3, z4⟩ := five_cells (blk_new w (.cells #[.int .i64 2, .int .u32 v, .int .i64 op, .int .i64 a, .int .i64 b] 78))
  clear h hb1
  go_enter Try.func27, Try.ntmps27
  go_wp2_with fail
  refine (both_op H op a b ha hb ho (by omega)).mono ?_
  rintro r w2 ⟨rfl, H2, q2⟩
  have y1 := q2.cell hx z1
  have y2 := q2.cell hx z2
  have y3 := q2.cell hx z3
  have y4 := q2.cell hx z4
  clear z0 z1 z2 z3 z4
  go_wp2_with fail
  refine (both_rop H2 op a b ha hb ho (by omega)).mono ?_
  rintro r w3 ⟨rfl, H3, q3⟩
  go_wp2_with fail
  go_ret
  exact ⟨rfl, does_fin H3 (q2.trans q3) hKK k1 (hG.op ho ha hb) (ext_ins _ _) (ins_len _ _).2⟩
set_option maxRecDepth 100000 in
set_option maxHeartbeats 1000000 in
theorem does_op_no (K0 : Nat → Prop) (d k : Nat) (ts : List Term) (op a b : Int) (hn : (inR a ts.length && inR b ts.length) = false) (v : Nat) (hv : v < 4294967296) (hl : ts.length < 100000000000) (hG : Good ts) (w : World) (h : BothM K0 w d k ts ts) :
    Calls Try.prog 27 #[.pointer (some ⟨d, 0, none⟩), .pointer (some ⟨k, 0, none⟩), .agg #[.int .i64 2, .int .u32 v, .int .i64 op, .int .i64 a, .int .i64 b]] w (DoesPost K0 w d k ts) := by
  have hb1 := (Below.refl w.heap.size w).alloc (Nat.le_refl _) (.cells #[.int .i64 2, .int .u32 v, .int .i64 op, .int .i64 a, .int .i64 b] 78)
  have H := h.more hb1
  have k1 : Kept K0 w (w.alloc (.cells #[.int .i64 2, .int .u32 v, .int .i64 op, .int .i64 a, .int .i64 b] 78)) := Kept.below hb1
  have hx : More K0 w (w.alloc (.cells #[.int .i64 2, .int .u32 v, .int .i64 op, .int .i64 a, .int .i64 b] 78)) w.heap.size := Or.inr ⟨Nat.le_refl _, by simp⟩
  have hKK : ∀ i, K0 i → More K0 w (w.alloc (.cells #[.int .i64 2, .int .u32 v, .int .i64 op, .int .i64 a, .int .i64 b] 78)) i := fun i hi => Or.inl hi
  generalize More K0 w (w.alloc (.cells #[.int .i64 2, .int .u32 v, .int .i64 op, .int .i64 a, .int .i64 b] 78)) = K1 at H hx hKK
  obtain ⟨z0, z1, z2, z3, z4⟩ := five_cells (blk_new w (.cells #[.int .i64 2, .int .u32 v, .int .i64 op, .int .i64 a, .int .i64 b] 78))
  clear h hb1
  go_enter Try.func27, Try.ntmps27
  go_wp2_with fail
  refine (both_op_no H op a b hn (by omega)).mono ?_
  rintro r w2 ⟨rfl, rfl⟩
  go_wp2_with fail
  refine (both_rop_no H op a b hn).mono ?_
  rintro r w3 ⟨rfl, rfl⟩
  go_wp2_with fail
  go_ret
  exact ⟨rfl, does_fin H (Kept.refl _ _) hKK k1 hG (Ext.refl _) (by omega)⟩
set_option maxRecDepth 100000 in
set_option maxHeartbeats 1000000 in
theorem does_op_bad (K0 : Nat → Prop) (d k : Nat) (ts : List Term) (op : Int) (a b : Nat) (ha : a < ts.length) (hb : b < ts.length) (ho : opOk op = false) (v : Nat) (hv : v < 4294967296) (hl : ts.length < 100000000000) (hG : Good ts) (w : World) (h : BothM K0 w d k ts ts) :
    Calls Try.prog 27 #[.pointer (some ⟨d, 0, none⟩), .pointer (some ⟨k, 0, none⟩), .agg #[.int .i64 2, .int .u32 v, .int .i64 op, .int .i64 a, .int .i64 b]] w (DoesPost K0 w d k ts) := by
  have hb1 := (Below.refl w.heap.size w).alloc (Nat.le_refl _) (.cells #[.int .i64 2, .int .u32 v, .int .i64 op, .int .i64 a, .int .i64 b] 78)
  have H := h.more hb1
  have k1 : Kept K0 w (w.alloc (.cells #[.int .i64 2, .int .u32 v, .int .i64 op, .int .i64 a, .int .i64 b] 78)) := Kept.below hb1
  have hx : More K0 w (w.alloc (.cells #[.int .i64 2, .int .u32 v, .int .i64 op, .int .i64 a, .int .i64 b] 78)) w.heap.size := Or.inr ⟨Nat.le_refl _, by simp⟩
  have hKK : ∀ i, K0 i → More K0 w (w.alloc (.cells #[.int .i64 2, .int .u32 v, .int .i64 op, .int .i64 a, .int .i64 b] 78)) i := fun i hi => Or.inl hi
  generalize More K0 w (w.alloc (.cells #[.int .i64 2, .int .u32 v, .int .i64 op, .int .i64 a, .int .i64 b] 78)) = K1 at H hx hKK
  obtain ⟨z0, z1, z2, z3, z4⟩ := five_cells (blk_new w (.cells #[.int .i64 2, .int .u32 v, .int .i64 op, .int .i64 a, .int .i64 b] 78))
  clear h hb1
  go_enter Try.func27, Try.ntmps27
  go_wp2_with fail
  refine (both_op_bad H op a b (inR_cast ha) (inR_cast hb) ho (by omega)).mono ?_
  rintro r w2 ⟨rfl, rfl⟩
  go_wp2_with fail
  refine (both_rop_bad H op a b ha hb ho).mono ?_
  rintro r w3 ⟨rfl, rfl⟩
  go_wp2_with fail
  go_ret
  exact ⟨rfl, does_fin H (Kept.refl _ _) hKK k1 hG (Ext.refl _) (by omega)⟩
set_option maxRecDepth 100000 in
set_option maxHeartbeats 1000000 in
theorem does_else (K0 : Nat → Prop) (d k : Nat) (ts : List Term) (kd op a b : Int) (h0 : (kd == 0) = false) (h1 : (kd == 1) = false) (h2 : (kd == 2) = false) (v : Nat) (hv : v < 4294967296) (hl : ts.length < 100000000000) (hG : Good ts) (w : World) (h : BothM K0 w d k ts ts) :
    Calls Try.prog 27 #[.pointer (some ⟨d, 0, none⟩), .pointer (some ⟨k, 0, none⟩), .agg #[.int .i64 kd, .int .u32 v, .int .i64 op, .int .i64 a, .int .i64 b]] w (DoesPost K0 w d k ts) := by
  have hb1 := (Below.refl w.heap.size w).alloc (Nat.le_refl _) (.cells #[.int .i64 kd, .int .u32 v, .int .i64 op, .int .i64 a, .int .i64 b] 78)
  have H := h.more hb1
  have k1 : Kept K0 w (w.alloc (.cells #[.int .i64 kd, .int .u32 v, .int .i64 op, .int .i64 a, .int .i64 b] 78)) := Kept.below hb1
  have hx : More K0 w (w.alloc (.cells #[.int .i64 kd, .int .u32 v, .int .i64 op, .int .i64 a, .int .i64 b] 78)) w.heap.size := Or.inr ⟨Nat.le_refl _, by simp⟩
  have hKK : ∀ i, K0 i → More K0 w (w.alloc (.cells #[.int .i64 kd, .int .u32 v, .int .i64 op, .int .i64 a, .int .i64 b] 78)) i := fun i hi => Or.inl hi
  generalize More K0 w (w.alloc (.cells #[.int .i64 kd, .int .u32 v, .int .i64 op, .int .i64 a, .int .i64 b] 78)) = K1 at H hx hKK
  obtain ⟨z0, z1, z2, z3, z4⟩ := five_cells (blk_new w (.cells #[.int .i64 kd, .int .u32 v, .int .i64 op, .int .i64 a, .int .i64 b] 78))
  clear h hb1
  go_enter Try.func27, Try.ntmps27
  go_wp2_with fail
  go_ret
  exact ⟨rfl, does_fin H (Kept.refl _ _) hKK k1 hG (Ext.refl _) (by omega)⟩
theorem does_any (K0 : Nat → Prop) (d k : Nat) (ts : List Term) (kd op a b : Int) (v : Nat) (hv : v < 4294967296) (hl : ts.length < 100000000000) (hG : Good ts) (w : World) (h : BothM K0 w d k ts ts) :
    Calls Try.prog 27 #[.pointer (some ⟨d, 0, none⟩), .pointer (some ⟨k, 0, none⟩), .agg #[.int .i64 kd, .int .u32 v, .int .i64 op, .int .i64 a, .int .i64 b]] w (DoesPost K0 w d k ts) := by
  by_cases e0 : kd = 0
  · subst e0; exact does_const K0 d k ts op a b v hv hl hG w h
  by_cases e1 : kd = 1
  · subst e1
    cases hr : inR a 32 with
    | false => exact does_var_no K0 d k ts op a b hr v hv hl hG w h
    | true =>
      obtain ⟨n, rfl, hn⟩ := inR_nat hr
      exact does_var K0 d k ts op b n hn v hv hl hG w h
  by_cases e2 : kd = 2
  · subst e2
    cases hn : inR a ts.length && inR b ts.length with
    | false => exact does_op_no K0 d k ts op a b hn v hv hl hG w h
    | true =>
      rw [Bool.and_eq_true] at hn
      obtain ⟨x, rfl, hx⟩ := inR_nat hn.1
      obtain ⟨y, rfl, hy⟩ := inR_nat hn.2
      cases ho : opOk op with
      | false => exact does_op_bad K0 d k ts op x y hx hy ho v hv hl hG w h
      | true =>
        obtain ⟨n, rfl, hn⟩ := opOk_nat ho
        exact does_op K0 d k ts n x y hx hy hn v hv hl hG w h
  exact does_else K0 d k ts kd op a b (by simp [e0]) (by simp [e1]) (by simp [e2]) v hv hl hG w h
end Go.Proofs.Ytgnahjadjgjecaa
