/- The reference of simp: deep, walked case by case (written by genGD.py). -/
import Derived.Test.YtaiggfknighhgaaGreatDoorGPlain
set_option linter.unusedVariables false
set_option linter.unusedSimpArgs false
namespace Go.Proofs.YtaiggfknighhgaaGreatDoor
open Go.RowKit Go.Maps Go.MapKept

set_option maxRecDepth 100000 in
set_option maxHeartbeats 1000000 in
theorem rd_1 (f : Nat) (hM : RMadeSpec f) (k : Nat) (vl : Value) (ts : List Term) (op x y v tk tv to ta tb kb u : Nat) (w : World) (h : RefAt w k vl ts) (hx : x < ts.length) (hl : ts.length + (f + 1) < 1000000000000) (hv : v < 4294967296)
    (ht : ts.getD x default = ⟨tk, tv, to, ta, tb⟩) (k0 : ((tk : Int) != 2) = true) :
    Calls Tryz.prog 66 #[.pointer (some ⟨k, 0, none⟩), .int .i64 op, .int .i64 x, .int .u32 v] w (RNone w) := by
  obtain ⟨A, c, rfl, q1, q2, q3⟩ := (h.l.toSl encT 0).open_
  obtain ⟨bb, off, rfl, hat, hbl⟩ := (h.l.toSl encT 0).at_ hx
  rw [show ts[x] = ts.getD x default by simp [List.getD, hx], ht] at hat
  have d0 : w.cell? ⟨bb, off + x * 5, none⟩ = some (.int .i64 tk) := hat 0 _ rfl
  have d1 : w.cell? ⟨bb, off + x * 5 + 1, none⟩ = some (.int .u32 tv) := hat 1 _ rfl
  have d2 : w.cell? ⟨bb, off + x * 5 + 2, none⟩ = some (.int .i64 to) := hat 2 _ rfl
  have d3 : w.cell? ⟨bb, off + x * 5 + 3, none⟩ = some (.int .i64 ta) := hat 3 _ rfl
  have d4 : w.cell? ⟨bb, off + x * 5 + 4, none⟩ = some (.int .i64 tb) := hat 4 _ rfl
  have c0 := one_cell h.hb
  have gx : (x : Int) < ts.length := by omega
  obtain ⟨z0, z1, z2, z3, z4⟩ := five_cells (blk_new w (.cells #[.int .i64 tk, .int .u32 tv, .int .i64 to, .int .i64 ta, .int .i64 tb] 68))
  have c1 := cell_alloc0 c0 (.cells #[.int .i64 tk, .int .u32 tv, .int .i64 to, .int .i64 ta, .int .i64 tb] 68)
  have h1 := h.alloc (.cells #[.int .i64 tk, .int .u32 tv, .int .i64 to, .int .i64 ta, .int .i64 tb] 68)
  have bl1 := below_al (Below.refl w.heap.size w) (.cells #[.int .i64 tk, .int .u32 tv, .int .i64 to, .int .i64 ta, .int .i64 tb] 68)
  clear hat ht
  go_enter Tryz.func66, Tryz.ntmps66
  go_wp2_with fail
  go_quiet (fail)
  have h2 := h1.below (below_drewN (Below.refl _ _) nq)
  have bl2 := below_drewN bl1 nq
  have x3 := cell_below (below_drewN (Below.refl _ _) nq) z3
  have x4 := cell_below (below_drewN (Below.refl _ _) nq) z4
  have c2 := cell_below (below_drewN (Below.refl _ _) nq) c1
  generalize (w.alloc (.cells #[.int .i64 tk, .int .u32 tv, .int .i64 to, .int .i64 ta, .int .i64 tb] 68)).drewN nq = w2 at *
  clear h1 bl1 z0 z1 z2 z3 z4 c1 d0 d1 d2 d3 d4 c0 gx
  go_wp2_with fail
  go_ret2
  exact ⟨rfl, bl2⟩
set_option maxRecDepth 100000 in
set_option maxHeartbeats 1000000 in
theorem rd_2 (f : Nat) (hM : RMadeSpec f) (k : Nat) (vl : Value) (ts : List Term) (op x y v tk tv to ta tb kb u : Nat) (w : World) (h : RefAt w k vl ts) (hx : x < ts.length) (hl : ts.length + (f + 1) < 1000000000000) (hv : v < 4294967296)
    (ht : ts.getD x default = ⟨tk, tv, to, ta, tb⟩) (k0 : ((tk : Int) != 2) = false) (o0 : ((to : Int) != (op : Int)) = true) :
    Calls Tryz.prog 66 #[.pointer (some ⟨k, 0, none⟩), .int .i64 op, .int .i64 x, .int .u32 v] w (RNone w) := by
  obtain ⟨A, c, rfl, q1, q2, q3⟩ := (h.l.toSl encT 0).open_
  obtain ⟨bb, off, rfl, hat, hbl⟩ := (h.l.toSl encT 0).at_ hx
  rw [show ts[x] = ts.getD x default by simp [List.getD, hx], ht] at hat
  have d0 : w.cell? ⟨bb, off + x * 5, none⟩ = some (.int .i64 tk) := hat 0 _ rfl
  have d1 : w.cell? ⟨bb, off + x * 5 + 1, none⟩ = some (.int .u32 tv) := hat 1 _ rfl
  have d2 : w.cell? ⟨bb, off + x * 5 + 2, none⟩ = some (.int .i64 to) := hat 2 _ rfl
  have d3 : w.cell? ⟨bb, off + x * 5 + 3, none⟩ = some (.int .i64 ta) := hat 3 _ rfl
  have d4 : w.cell? ⟨bb, off + x * 5 + 4, none⟩ = some (.int .i64 tb) := hat 4 _ rfl
  have c0 := one_cell h.hb
  have gx : (x : Int) < ts.length := by omega
  obtain ⟨z0, z1, z2, z3, z4⟩ := five_cells (blk_new w (.cells #[.int .i64 tk, .int .u32 tv, .int .i64 to, .int .i64 ta, .int .i64 tb] 68))
  have c1 := cell_alloc0 c0 (.cells #[.int .i64 tk, .int .u32 tv, .int .i64 to, .int .i64 ta, .int .i64 tb] 68)
  have h1 := h.alloc (.cells #[.int .i64 tk, .int .u32 tv, .int .i64 to, .int .i64 ta, .int .i64 tb] 68)
  have bl1 := below_al (Below.refl w.heap.size w) (.cells #[.int .i64 tk, .int .u32 tv, .int .i64 to, .int .i64 ta, .int .i64 tb] 68)
  clear hat ht
  go_enter Tryz.func66, Tryz.ntmps66
  go_wp2_with fail
  go_quiet (fail)
  have h2 := h1.below (below_drewN (Below.refl _ _) nq)
  have bl2 := below_drewN bl1 nq
  have x3 := cell_below (below_drewN (Below.refl _ _) nq) z3
  have x4 := cell_below (below_drewN (Below.refl _ _) nq) z4
  have c2 := cell_below (below_drewN (Below.refl _ _) nq) c1
  generalize (w.alloc (.cells #[.int .i64 tk, .int .u32 tv, .int .i64 to, .int .i64 ta, .int .i64 tb] 68)).drewN nq = w2 at *
  clear h1 bl1 z0 z1 z2 z3 z4 c1 d0 d1 d2 d3 d4 c0 gx
  go_wp2_with fail
  go_ret2
  exact ⟨rfl, bl2⟩
set_option maxRecDepth 100000 in
set_option maxHeartbeats 1000000 in
theorem rd_3 (f : Nat) (hM : RMadeSpec f) (k : Nat) (vl : Value) (ts : List Term) (op x y v tk tv to ta tb kb u : Nat) (w : World) (h : RefAt w k vl ts) (hx : x < ts.length) (hl : ts.length + (f + 1) < 1000000000000) (hv : v < 4294967296)
    (ht : ts.getD x default = ⟨tk, tv, to, ta, tb⟩) (k0 : ((tk : Int) != 2) = false) (o0 : ((to : Int) != (op : Int)) = false) (htb : tb < ts.length) (hkb : (ts.getD tb default).k = kb) (hu : (ts.getD tb default).v = u) (b0 : ((kb : Int) != 0) = true) :
    Calls Tryz.prog 66 #[.pointer (some ⟨k, 0, none⟩), .int .i64 op, .int .i64 x, .int .u32 v] w (RNone w) := by
  obtain ⟨A, c, rfl, q1, q2, q3⟩ := (h.l.toSl encT 0).open_
  obtain ⟨bb, off, rfl, hat, hbl⟩ := (h.l.toSl encT 0).at_ hx
  rw [show ts[x] = ts.getD x default by simp [List.getD, hx], ht] at hat
  have d0 : w.cell? ⟨bb, off + x * 5, none⟩ = some (.int .i64 tk) := hat 0 _ rfl
  have d1 : w.cell? ⟨bb, off + x * 5 + 1, none⟩ = some (.int .u32 tv) := hat 1 _ rfl
  have d2 : w.cell? ⟨bb, off + x * 5 + 2, none⟩ = some (.int .i64 to) := hat 2 _ rfl
  have d3 : w.cell? ⟨bb, off + x * 5 + 3, none⟩ = some (.int .i64 ta) := hat 3 _ rfl
  have d4 : w.cell? ⟨bb, off + x * 5 + 4, none⟩ = some (.int .i64 tb) := hat 4 _ rfl
  have c0 := one_cell h.hb
  have gx : (x : Int) < ts.length := by omega
  obtain ⟨z0, z1, z2, z3, z4⟩ := five_cells (blk_new w (.cells #[.int .i64 tk, .int .u32 tv, .int .i64 to, .int .i64 ta, .int .i64 tb] 68))
  have c1 := cell_alloc0 c0 (.cells #[.int .i64 tk, .int .u32 tv, .int .i64 to, .int .i64 ta, .int .i64 tb] 68)
  have h1 := h.alloc (.cells #[.int .i64 tk, .int .u32 tv, .int .i64 to, .int .i64 ta, .int .i64 tb] 68)
  have bl1 := below_al (Below.refl w.heap.size w) (.cells #[.int .i64 tk, .int .u32 tv, .int .i64 to, .int .i64 ta, .int .i64 tb] 68)
  have hB := (h.l.toSl encT 0).at_ htb
  obtain ⟨bb2, off2, eA, hat2, _⟩ := hB
  rw [show ts[tb] = ts.getD tb default by simp [List.getD, htb]] at hat2
  simp only [Option.some.injEq, Addr.mk.injEq, and_true] at eA
  obtain ⟨rfl, rfl⟩ := eA
  have a0 : w.cell? ⟨bb, off + tb * 5, none⟩ = some (.int .i64 kb) := by rw [← hkb]; exact hat2 0 _ rfl
  have a1 : w.cell? ⟨bb, off + tb * 5 + 1, none⟩ = some (.int .u32 u) := by rw [← hu]; exact hat2 1 _ rfl
  have y0 := cell_alloc0 a0 (.cells #[.int .i64 tk, .int .u32 tv, .int .i64 to, .int .i64 ta, .int .i64 tb] 68)
  have y1 := cell_alloc0 a1 (.cells #[.int .i64 tk, .int .u32 tv, .int .i64 to, .int .i64 ta, .int .i64 tb] 68)
  have gb : (tb : Int) < ts.length := by omega
  clear hat2 a0 a1
  clear hat ht
  go_enter Tryz.func66, Tryz.ntmps66
  go_wp2_with fail
  go_quiet (fail)
  have h2 := h1.below (below_drewN (Below.refl _ _) nq)
  have bl2 := below_drewN bl1 nq
  have x3 := cell_below (below_drewN (Below.refl _ _) nq) z3
  have x4 := cell_below (below_drewN (Below.refl _ _) nq) z4
  have c2 := cell_below (below_drewN (Below.refl _ _) nq) c1
  have u1 := cell_below (below_drewN (Below.refl _ _) nq) y1
  generalize (w.alloc (.cells #[.int .i64 tk, .int .u32 tv, .int .i64 to, .int .i64 ta, .int .i64 tb] 68)).drewN nq = w2 at *
  clear h1 bl1 z0 z1 z2 z3 z4 c1 d0 d1 d2 d3 d4 c0 gx y0 y1
  go_wp2_with fail
  go_ret2
  exact ⟨rfl, bl2⟩
set_option maxRecDepth 100000 in
set_option maxHeartbeats 1000000 in
theorem rd_a (f : Nat) (hM : RMadeSpec f) (k : Nat) (vl : Value) (ts : List Term) (op x y v tk tv to ta tb kb u : Nat) (w : World) (h : RefAt w k vl ts) (hx : x < ts.length) (hl : ts.length + (f + 1) < 1000000000000) (hv : v < 4294967296)
    (ht : ts.getD x default = ⟨tk, tv, to, ta, tb⟩) (k0 : ((tk : Int) != 2) = false) (o0 : ((to : Int) != (op : Int)) = false) (htb : tb < ts.length) (hkb : (ts.getD tb default).k = kb) (hu : (ts.getD tb default).v = u) (b0 : ((kb : Int) != 0) = false) (f4 : hasI (op : Int) [27, 36, 35, 32] = true) (ho : (doW op 0 0).isSome = true) (hul : u < 4294967296) (hW : Went ts op x y (ins ts (constT ((doW op u v).getD 0))) op ta (pos ts (constT ((doW op u v).getD 0)))) (hm : mz ts op x y < f + 1) :
    Calls Tryz.prog 66 #[.pointer (some ⟨k, 0, none⟩), .int .i64 op, .int .i64 x, .int .u32 v] w (RIs k vl w (madeF f (ins ts (constT ((doW op u v).getD 0))) op ta (pos ts (constT ((doW op u v).getD 0))))) := by
  obtain ⟨A, c, rfl, q1, q2, q3⟩ := (h.l.toSl encT 0).open_
  obtain ⟨bb, off, rfl, hat, hbl⟩ := (h.l.toSl encT 0).at_ hx
  rw [show ts[x] = ts.getD x default by simp [List.getD, hx], ht] at hat
  have d0 : w.cell? ⟨bb, off + x * 5, none⟩ = some (.int .i64 tk) := hat 0 _ rfl
  have d1 : w.cell? ⟨bb, off + x * 5 + 1, none⟩ = some (.int .u32 tv) := hat 1 _ rfl
  have d2 : w.cell? ⟨bb, off + x * 5 + 2, none⟩ = some (.int .i64 to) := hat 2 _ rfl
  have d3 : w.cell? ⟨bb, off + x * 5 + 3, none⟩ = some (.int .i64 ta) := hat 3 _ rfl
  have d4 : w.cell? ⟨bb, off + x * 5 + 4, none⟩ = some (.int .i64 tb) := hat 4 _ rfl
  have c0 := one_cell h.hb
  have gx : (x : Int) < ts.length := by omega
  obtain ⟨z0, z1, z2, z3, z4⟩ := five_cells (blk_new w (.cells #[.int .i64 tk, .int .u32 tv, .int .i64 to, .int .i64 ta, .int .i64 tb] 68))
  have c1 := cell_alloc0 c0 (.cells #[.int .i64 tk, .int .u32 tv, .int .i64 to, .int .i64 ta, .int .i64 tb] 68)
  have h1 := h.alloc (.cells #[.int .i64 tk, .int .u32 tv, .int .i64 to, .int .i64 ta, .int .i64 tb] 68)
  have bl1 := below_al (Below.refl w.heap.size w) (.cells #[.int .i64 tk, .int .u32 tv, .int .i64 to, .int .i64 ta, .int .i64 tb] 68)
  have hB := (h.l.toSl encT 0).at_ htb
  obtain ⟨bb2, off2, eA, hat2, _⟩ := hB
  rw [show ts[tb] = ts.getD tb default by simp [List.getD, htb]] at hat2
  simp only [Option.some.injEq, Addr.mk.injEq, and_true] at eA
  obtain ⟨rfl, rfl⟩ := eA
  have a0 : w.cell? ⟨bb, off + tb * 5, none⟩ = some (.int .i64 kb) := by rw [← hkb]; exact hat2 0 _ rfl
  have a1 : w.cell? ⟨bb, off + tb * 5 + 1, none⟩ = some (.int .u32 u) := by rw [← hu]; exact hat2 1 _ rfl
  have y0 := cell_alloc0 a0 (.cells #[.int .i64 tk, .int .u32 tv, .int .i64 to, .int .i64 ta, .int .i64 tb] 68)
  have y1 := cell_alloc0 a1 (.cells #[.int .i64 tk, .int .u32 tv, .int .i64 to, .int .i64 ta, .int .i64 tb] 68)
  have gb : (tb : Int) < ts.length := by omega
  clear hat2 a0 a1
  clear hat ht
  go_enter Tryz.func66, Tryz.ntmps66
  go_wp2_with fail
  go_quiet (fail)
  have h2 := h1.below (below_drewN (Below.refl _ _) nq)
  have bl2 := below_drewN bl1 nq
  have x3 := cell_below (below_drewN (Below.refl _ _) nq) z3
  have x4 := cell_below (below_drewN (Below.refl _ _) nq) z4
  have c2 := cell_below (below_drewN (Below.refl _ _) nq) c1
  have u1 := cell_below (below_drewN (Below.refl _ _) nq) y1
  generalize (w.alloc (.cells #[.int .i64 tk, .int .u32 tv, .int .i64 to, .int .i64 ta, .int .i64 tb] 68)).drewN nq = w2 at *
  clear h1 bl1 z0 z1 z2 z3 z4 c1 d0 d1 d2 d3 d4 c0 gx y0 y1
  go_wp2_with fail
  go_quiet (fail)
  have h3 := h2.below (below_drewN (Below.refl _ _) nq)
  have bl3 := below_drewN bl2 nq
  have x5 := cell_below (below_drewN (Below.refl _ _) nq) x3
  generalize w2.drewN nq = w3 at *
  clear h2 bl2 x3 x4 c2 u1
  have x6 := cell_alloc0 x5 (.cells #[.int .i64 27, .int .i64 36, .int .i64 35, .int .i64 32] 3)
  have x7 := cell_alloc0 x6 (.cells #[.int .i64 29, .int .i64 33, .int .i64 34] 3)
  go_wp2_with (first
    | (go_at_call 64; (with_reducible refine (rin_shift _ (g := _) (w := _) (hg := by simp)).mono ?_); rintro r w' ⟨rfl, rfl⟩)
    | (go_at_call 64; (with_reducible refine (rin4 _ _ _ _ _ (g := _) (w := _) (hg := by simp)).mono ?_); rintro r w' ⟨rfl, rfl⟩)
    | fail)
  refine (rdo_any op ho u v hul hv _).mono ?_
  rintro r w4 ⟨rfl, b4⟩
  have h5 := (h3.alloc (.cells #[.int .i64 27, .int .i64 36, .int .i64 35, .int .i64 32] 3)).below b4
  have bl5 := below_then (below_al bl3 (.cells #[.int .i64 27, .int .i64 36, .int .i64 35, .int .i64 32] 3)) b4
  have x8 := cell_below b4 x6
  have hdl := doW_lt ho hul (b := v) hv
  go_wp2_with fail
  refine (rgoes_any f hM k (.slice (some ⟨bb, off, none⟩) ts.length c) ts op ta ((doW op u v).getD 0) _ h5 hW.good hW.ok hW.ina hdl (by have := hW.less; omega) hl).mono ?_
  rintro r wz ⟨rfl, hz⟩
  go_wp2_with fail
  go_ret2
  exact ⟨rfl, RAdd.pre bl5 hz⟩
set_option maxRecDepth 100000 in
set_option maxHeartbeats 1000000 in
theorem rd_n (f : Nat) (hM : RMadeSpec f) (k : Nat) (vl : Value) (ts : List Term) (op x y v tk tv to ta tb kb u : Nat) (w : World) (h : RefAt w k vl ts) (hx : x < ts.length) (hl : ts.length + (f + 1) < 1000000000000) (hv : v < 4294967296)
    (ht : ts.getD x default = ⟨tk, tv, to, ta, tb⟩) (k0 : ((tk : Int) != 2) = false) (o0 : ((to : Int) != (op : Int)) = false) (htb : tb < ts.length) (hkb : (ts.getD tb default).k = kb) (hu : (ts.getD tb default).v = u) (b0 : ((kb : Int) != 0) = false) (f4 : hasI (op : Int) [27, 36, 35, 32] = false) (fS : isShift op = false) :
    Calls Tryz.prog 66 #[.pointer (some ⟨k, 0, none⟩), .int .i64 op, .int .i64 x, .int .u32 v] w (RNone w) := by
  obtain ⟨A, c, rfl, q1, q2, q3⟩ := (h.l.toSl encT 0).open_
  obtain ⟨bb, off, rfl, hat, hbl⟩ := (h.l.toSl encT 0).at_ hx
  rw [show ts[x] = ts.getD x default by simp [List.getD, hx], ht] at hat
  have d0 : w.cell? ⟨bb, off + x * 5, none⟩ = some (.int .i64 tk) := hat 0 _ rfl
  have d1 : w.cell? ⟨bb, off + x * 5 + 1, none⟩ = some (.int .u32 tv) := hat 1 _ rfl
  have d2 : w.cell? ⟨bb, off + x * 5 + 2, none⟩ = some (.int .i64 to) := hat 2 _ rfl
  have d3 : w.cell? ⟨bb, off + x * 5 + 3, none⟩ = some (.int .i64 ta) := hat 3 _ rfl
  have d4 : w.cell? ⟨bb, off + x * 5 + 4, none⟩ = some (.int .i64 tb) := hat 4 _ rfl
  have c0 := one_cell h.hb
  have gx : (x : Int) < ts.length := by omega
  obtain ⟨z0, z1, z2, z3, z4⟩ := five_cells (blk_new w (.cells #[.int .i64 tk, .int .u32 tv, .int .i64 to, .int .i64 ta, .int .i64 tb] 68))
  have c1 := cell_alloc0 c0 (.cells #[.int .i64 tk, .int .u32 tv, .int .i64 to, .int .i64 ta, .int .i64 tb] 68)
  have h1 := h.alloc (.cells #[.int .i64 tk, .int .u32 tv, .int .i64 to, .int .i64 ta, .int .i64 tb] 68)
  have bl1 := below_al (Below.refl w.heap.size w) (.cells #[.int .i64 tk, .int .u32 tv, .int .i64 to, .int .i64 ta, .int .i64 tb] 68)
  have hB := (h.l.toSl encT 0).at_ htb
  obtain ⟨bb2, off2, eA, hat2, _⟩ := hB
  rw [show ts[tb] = ts.getD tb default by simp [List.getD, htb]] at hat2
  simp only [Option.some.injEq, Addr.mk.injEq, and_true] at eA
  obtain ⟨rfl, rfl⟩ := eA
  have a0 : w.cell? ⟨bb, off + tb * 5, none⟩ = some (.int .i64 kb) := by rw [← hkb]; exact hat2 0 _ rfl
  have a1 : w.cell? ⟨bb, off + tb * 5 + 1, none⟩ = some (.int .u32 u) := by rw [← hu]; exact hat2 1 _ rfl
  have y0 := cell_alloc0 a0 (.cells #[.int .i64 tk, .int .u32 tv, .int .i64 to, .int .i64 ta, .int .i64 tb] 68)
  have y1 := cell_alloc0 a1 (.cells #[.int .i64 tk, .int .u32 tv, .int .i64 to, .int .i64 ta, .int .i64 tb] 68)
  have gb : (tb : Int) < ts.length := by omega
  clear hat2 a0 a1
  clear hat ht
  go_enter Tryz.func66, Tryz.ntmps66
  go_wp2_with fail
  go_quiet (fail)
  have h2 := h1.below (below_drewN (Below.refl _ _) nq)
  have bl2 := below_drewN bl1 nq
  have x3 := cell_below (below_drewN (Below.refl _ _) nq) z3
  have x4 := cell_below (below_drewN (Below.refl _ _) nq) z4
  have c2 := cell_below (below_drewN (Below.refl _ _) nq) c1
  have u1 := cell_below (below_drewN (Below.refl _ _) nq) y1
  generalize (w.alloc (.cells #[.int .i64 tk, .int .u32 tv, .int .i64 to, .int .i64 ta, .int .i64 tb] 68)).drewN nq = w2 at *
  clear h1 bl1 z0 z1 z2 z3 z4 c1 d0 d1 d2 d3 d4 c0 gx y0 y1
  go_wp2_with fail
  go_quiet (fail)
  have h3 := h2.below (below_drewN (Below.refl _ _) nq)
  have bl3 := below_drewN bl2 nq
  have x5 := cell_below (below_drewN (Below.refl _ _) nq) x3
  generalize w2.drewN nq = w3 at *
  clear h2 bl2 x3 x4 c2 u1
  have x6 := cell_alloc0 x5 (.cells #[.int .i64 27, .int .i64 36, .int .i64 35, .int .i64 32] 3)
  have x7 := cell_alloc0 x6 (.cells #[.int .i64 29, .int .i64 33, .int .i64 34] 3)
  go_wp2_with (first
    | (go_at_call 64; (with_reducible refine (rin_shift _ (g := _) (w := _) (hg := by simp)).mono ?_); rintro r w' ⟨rfl, rfl⟩)
    | (go_at_call 64; (with_reducible refine (rin4 _ _ _ _ _ (g := _) (w := _) (hg := by simp)).mono ?_); rintro r w' ⟨rfl, rfl⟩)
    | fail)
  go_ret2
  exact ⟨rfl, (by repeat (first | exact bl3 | refine below_al ?_ _))⟩
set_option maxRecDepth 100000 in
set_option maxHeartbeats 1000000 in
theorem rd_s1 (f : Nat) (hM : RMadeSpec f) (k : Nat) (vl : Value) (ts : List Term) (op x y v tk tv to ta tb kb u : Nat) (w : World) (h : RefAt w k vl ts) (hx : x < ts.length) (hl : ts.length + (f + 1) < 1000000000000) (hv : v < 4294967296)
    (ht : ts.getD x default = ⟨tk, tv, to, ta, tb⟩) (k0 : ((tk : Int) != 2) = false) (o0 : ((to : Int) != (op : Int)) = false) (htb : tb < ts.length) (hkb : (ts.getD tb default).k = kb) (hu : (ts.getD tb default).v = u) (b0 : ((kb : Int) != 0) = false) (f4 : hasI (op : Int) [27, 36, 35, 32] = false) (fS : isShift op = true) (g1 : (u : Int) < 1) :
    Calls Tryz.prog 66 #[.pointer (some ⟨k, 0, none⟩), .int .i64 op, .int .i64 x, .int .u32 v] w (RNone w) := by
  obtain ⟨A, c, rfl, q1, q2, q3⟩ := (h.l.toSl encT 0).open_
  obtain ⟨bb, off, rfl, hat, hbl⟩ := (h.l.toSl encT 0).at_ hx
  rw [show ts[x] = ts.getD x default by simp [List.getD, hx], ht] at hat
  have d0 : w.cell? ⟨bb, off + x * 5, none⟩ = some (.int .i64 tk) := hat 0 _ rfl
  have d1 : w.cell? ⟨bb, off + x * 5 + 1, none⟩ = some (.int .u32 tv) := hat 1 _ rfl
  have d2 : w.cell? ⟨bb, off + x * 5 + 2, none⟩ = some (.int .i64 to) := hat 2 _ rfl
  have d3 : w.cell? ⟨bb, off + x * 5 + 3, none⟩ = some (.int .i64 ta) := hat 3 _ rfl
  have d4 : w.cell? ⟨bb, off + x * 5 + 4, none⟩ = some (.int .i64 tb) := hat 4 _ rfl
  have c0 := one_cell h.hb
  have gx : (x : Int) < ts.length := by omega
  obtain ⟨z0, z1, z2, z3, z4⟩ := five_cells (blk_new w (.cells #[.int .i64 tk, .int .u32 tv, .int .i64 to, .int .i64 ta, .int .i64 tb] 68))
  have c1 := cell_alloc0 c0 (.cells #[.int .i64 tk, .int .u32 tv, .int .i64 to, .int .i64 ta, .int .i64 tb] 68)
  have h1 := h.alloc (.cells #[.int .i64 tk, .int .u32 tv, .int .i64 to, .int .i64 ta, .int .i64 tb] 68)
  have bl1 := below_al (Below.refl w.heap.size w) (.cells #[.int .i64 tk, .int .u32 tv, .int .i64 to, .int .i64 ta, .int .i64 tb] 68)
  have hB := (h.l.toSl encT 0).at_ htb
  obtain ⟨bb2, off2, eA, hat2, _⟩ := hB
  rw [show ts[tb] = ts.getD tb default by simp [List.getD, htb]] at hat2
  simp only [Option.some.injEq, Addr.mk.injEq, and_true] at eA
  obtain ⟨rfl, rfl⟩ := eA
  have a0 : w.cell? ⟨bb, off + tb * 5, none⟩ = some (.int .i64 kb) := by rw [← hkb]; exact hat2 0 _ rfl
  have a1 : w.cell? ⟨bb, off + tb * 5 + 1, none⟩ = some (.int .u32 u) := by rw [← hu]; exact hat2 1 _ rfl
  have y0 := cell_alloc0 a0 (.cells #[.int .i64 tk, .int .u32 tv, .int .i64 to, .int .i64 ta, .int .i64 tb] 68)
  have y1 := cell_alloc0 a1 (.cells #[.int .i64 tk, .int .u32 tv, .int .i64 to, .int .i64 ta, .int .i64 tb] 68)
  have gb : (tb : Int) < ts.length := by omega
  clear hat2 a0 a1
  clear hat ht
  go_enter Tryz.func66, Tryz.ntmps66
  go_wp2_with fail
  go_quiet (fail)
  have h2 := h1.below (below_drewN (Below.refl _ _) nq)
  have bl2 := below_drewN bl1 nq
  have x3 := cell_below (below_drewN (Below.refl _ _) nq) z3
  have x4 := cell_below (below_drewN (Below.refl _ _) nq) z4
  have c2 := cell_below (below_drewN (Below.refl _ _) nq) c1
  have u1 := cell_below (below_drewN (Below.refl _ _) nq) y1
  generalize (w.alloc (.cells #[.int .i64 tk, .int .u32 tv, .int .i64 to, .int .i64 ta, .int .i64 tb] 68)).drewN nq = w2 at *
  clear h1 bl1 z0 z1 z2 z3 z4 c1 d0 d1 d2 d3 d4 c0 gx y0 y1
  go_wp2_with fail
  go_quiet (fail)
  have h3 := h2.below (below_drewN (Below.refl _ _) nq)
  have bl3 := below_drewN bl2 nq
  have x5 := cell_below (below_drewN (Below.refl _ _) nq) x3
  generalize w2.drewN nq = w3 at *
  clear h2 bl2 x3 x4 c2 u1
  have x6 := cell_alloc0 x5 (.cells #[.int .i64 27, .int .i64 36, .int .i64 35, .int .i64 32] 3)
  have x7 := cell_alloc0 x6 (.cells #[.int .i64 29, .int .i64 33, .int .i64 34] 3)
  go_wp2_with (first
    | (go_at_call 64; (with_reducible refine (rin_shift _ (g := _) (w := _) (hg := by simp)).mono ?_); rintro r w' ⟨rfl, rfl⟩)
    | (go_at_call 64; (with_reducible refine (rin4 _ _ _ _ _ (g := _) (w := _) (hg := by simp)).mono ?_); rintro r w' ⟨rfl, rfl⟩)
    | fail)
  go_ret2
  exact ⟨rfl, (by repeat (first | exact bl3 | refine below_al ?_ _))⟩
set_option maxRecDepth 100000 in
set_option maxHeartbeats 1000000 in
theorem rd_s2 (f : Nat) (hM : RMadeSpec f) (k : Nat) (vl : Value) (ts : List Term) (op x y v tk tv to ta tb kb u : Nat) (w : World) (h : RefAt w k vl ts) (hx : x < ts.length) (hl : ts.length + (f + 1) < 1000000000000) (hv : v < 4294967296)
    (ht : ts.getD x default = ⟨tk, tv, to, ta, tb⟩) (k0 : ((tk : Int) != 2) = false) (o0 : ((to : Int) != (op : Int)) = false) (htb : tb < ts.length) (hkb : (ts.getD tb default).k = kb) (hu : (ts.getD tb default).v = u) (b0 : ((kb : Int) != 0) = false) (f4 : hasI (op : Int) [27, 36, 35, 32] = false) (fS : isShift op = true) (g1 : (1 : Int) ≤ u) (g2 : (31 : Int) < u) (hul : u < 4294967296) :
    Calls Tryz.prog 66 #[.pointer (some ⟨k, 0, none⟩), .int .i64 op, .int .i64 x, .int .u32 v] w (RNone w) := by
  obtain ⟨A, c, rfl, q1, q2, q3⟩ := (h.l.toSl encT 0).open_
  obtain ⟨bb, off, rfl, hat, hbl⟩ := (h.l.toSl encT 0).at_ hx
  rw [show ts[x] = ts.getD x default by simp [List.getD, hx], ht] at hat
  have d0 : w.cell? ⟨bb, off + x * 5, none⟩ = some (.int .i64 tk) := hat 0 _ rfl
  have d1 : w.cell? ⟨bb, off + x * 5 + 1, none⟩ = some (.int .u32 tv) := hat 1 _ rfl
  have d2 : w.cell? ⟨bb, off + x * 5 + 2, none⟩ = some (.int .i64 to) := hat 2 _ rfl
  have d3 : w.cell? ⟨bb, off + x * 5 + 3, none⟩ = some (.int .i64 ta) := hat 3 _ rfl
  have d4 : w.cell? ⟨bb, off + x * 5 + 4, none⟩ = some (.int .i64 tb) := hat 4 _ rfl
  have c0 := one_cell h.hb
  have gx : (x : Int) < ts.length := by omega
  obtain ⟨z0, z1, z2, z3, z4⟩ := five_cells (blk_new w (.cells #[.int .i64 tk, .int .u32 tv, .int .i64 to, .int .i64 ta, .int .i64 tb] 68))
  have c1 := cell_alloc0 c0 (.cells #[.int .i64 tk, .int .u32 tv, .int .i64 to, .int .i64 ta, .int .i64 tb] 68)
  have h1 := h.alloc (.cells #[.int .i64 tk, .int .u32 tv, .int .i64 to, .int .i64 ta, .int .i64 tb] 68)
  have bl1 := below_al (Below.refl w.heap.size w) (.cells #[.int .i64 tk, .int .u32 tv, .int .i64 to, .int .i64 ta, .int .i64 tb] 68)
  have hB := (h.l.toSl encT 0).at_ htb
  obtain ⟨bb2, off2, eA, hat2, _⟩ := hB
  rw [show ts[tb] = ts.getD tb default by simp [List.getD, htb]] at hat2
  simp only [Option.some.injEq, Addr.mk.injEq, and_true] at eA
  obtain ⟨rfl, rfl⟩ := eA
  have a0 : w.cell? ⟨bb, off + tb * 5, none⟩ = some (.int .i64 kb) := by rw [← hkb]; exact hat2 0 _ rfl
  have a1 : w.cell? ⟨bb, off + tb * 5 + 1, none⟩ = some (.int .u32 u) := by rw [← hu]; exact hat2 1 _ rfl
  have y0 := cell_alloc0 a0 (.cells #[.int .i64 tk, .int .u32 tv, .int .i64 to, .int .i64 ta, .int .i64 tb] 68)
  have y1 := cell_alloc0 a1 (.cells #[.int .i64 tk, .int .u32 tv, .int .i64 to, .int .i64 ta, .int .i64 tb] 68)
  have gb : (tb : Int) < ts.length := by omega
  clear hat2 a0 a1
  clear hat ht
  go_enter Tryz.func66, Tryz.ntmps66
  go_wp2_with fail
  go_quiet (fail)
  have h2 := h1.below (below_drewN (Below.refl _ _) nq)
  have bl2 := below_drewN bl1 nq
  have x3 := cell_below (below_drewN (Below.refl _ _) nq) z3
  have x4 := cell_below (below_drewN (Below.refl _ _) nq) z4
  have c2 := cell_below (below_drewN (Below.refl _ _) nq) c1
  have u1 := cell_below (below_drewN (Below.refl _ _) nq) y1
  generalize (w.alloc (.cells #[.int .i64 tk, .int .u32 tv, .int .i64 to, .int .i64 ta, .int .i64 tb] 68)).drewN nq = w2 at *
  clear h1 bl1 z0 z1 z2 z3 z4 c1 d0 d1 d2 d3 d4 c0 gx y0 y1
  go_wp2_with fail
  go_quiet (fail)
  have h3 := h2.below (below_drewN (Below.refl _ _) nq)
  have bl3 := below_drewN bl2 nq
  have x5 := cell_below (below_drewN (Below.refl _ _) nq) x3
  generalize w2.drewN nq = w3 at *
  clear h2 bl2 x3 x4 c2 u1
  have x6 := cell_alloc0 x5 (.cells #[.int .i64 27, .int .i64 36, .int .i64 35, .int .i64 32] 3)
  have x7 := cell_alloc0 x6 (.cells #[.int .i64 29, .int .i64 33, .int .i64 34] 3)
  go_wp2_with (first
    | (go_at_call 64; (with_reducible refine (rin_shift _ (g := _) (w := _) (hg := by simp)).mono ?_); rintro r w' ⟨rfl, rfl⟩)
    | (go_at_call 64; (with_reducible refine (rin4 _ _ _ _ _ (g := _) (w := _) (hg := by simp)).mono ?_); rintro r w' ⟨rfl, rfl⟩)
    | fail)
  go_ret2
  exact ⟨rfl, (by repeat (first | exact bl3 | refine below_al ?_ _))⟩
set_option maxRecDepth 100000 in
set_option maxHeartbeats 1000000 in
theorem rd_s3 (f : Nat) (hM : RMadeSpec f) (k : Nat) (vl : Value) (ts : List Term) (op x y v tk tv to ta tb kb u : Nat) (w : World) (h : RefAt w k vl ts) (hx : x < ts.length) (hl : ts.length + (f + 1) < 1000000000000) (hv : v < 4294967296)
    (ht : ts.getD x default = ⟨tk, tv, to, ta, tb⟩) (k0 : ((tk : Int) != 2) = false) (o0 : ((to : Int) != (op : Int)) = false) (htb : tb < ts.length) (hkb : (ts.getD tb default).k = kb) (hu : (ts.getD tb default).v = u) (b0 : ((kb : Int) != 0) = false) (f4 : hasI (op : Int) [27, 36, 35, 32] = false) (fS : isShift op = true) (g1 : (1 : Int) ≤ u) (g2 : (u : Int) ≤ 31) (hv32 : v < 32) (g3 : (u : Int) + v < 32) (hW : Went ts op x y (ins ts (constT (u + v))) op ta (pos ts (constT (u + v)))) (hm : mz ts op x y < f + 1) :
    Calls Tryz.prog 66 #[.pointer (some ⟨k, 0, none⟩), .int .i64 op, .int .i64 x, .int .u32 v] w (RIs k vl w (madeF f (ins ts (constT (u + v))) op ta (pos ts (constT (u + v))))) := by
  obtain ⟨A, c, rfl, q1, q2, q3⟩ := (h.l.toSl encT 0).open_
  obtain ⟨bb, off, rfl, hat, hbl⟩ := (h.l.toSl encT 0).at_ hx
  rw [show ts[x] = ts.getD x default by simp [List.getD, hx], ht] at hat
  have d0 : w.cell? ⟨bb, off + x * 5, none⟩ = some (.int .i64 tk) := hat 0 _ rfl
  have d1 : w.cell? ⟨bb, off + x * 5 + 1, none⟩ = some (.int .u32 tv) := hat 1 _ rfl
  have d2 : w.cell? ⟨bb, off + x * 5 + 2, none⟩ = some (.int .i64 to) := hat 2 _ rfl
  have d3 : w.cell? ⟨bb, off + x * 5 + 3, none⟩ = some (.int .i64 ta) := hat 3 _ rfl
  have d4 : w.cell? ⟨bb, off + x * 5 + 4, none⟩ = some (.int .i64 tb) := hat 4 _ rfl
  have c0 := one_cell h.hb
  have gx : (x : Int) < ts.length := by omega
  obtain ⟨z0, z1, z2, z3, z4⟩ := five_cells (blk_new w (.cells #[.int .i64 tk, .int .u32 tv, .int .i64 to, .int .i64 ta, .int .i64 tb] 68))
  have c1 := cell_alloc0 c0 (.cells #[.int .i64 tk, .int .u32 tv, .int .i64 to, .int .i64 ta, .int .i64 tb] 68)
  have h1 := h.alloc (.cells #[.int .i64 tk, .int .u32 tv, .int .i64 to, .int .i64 ta, .int .i64 tb] 68)
  have bl1 := below_al (Below.refl w.heap.size w) (.cells #[.int .i64 tk, .int .u32 tv, .int .i64 to, .int .i64 ta, .int .i64 tb] 68)
  have hB := (h.l.toSl encT 0).at_ htb
  obtain ⟨bb2, off2, eA, hat2, _⟩ := hB
  rw [show ts[tb] = ts.getD tb default by simp [List.getD, htb]] at hat2
  simp only [Option.some.injEq, Addr.mk.injEq, and_true] at eA
  obtain ⟨rfl, rfl⟩ := eA
  have a0 : w.cell? ⟨bb, off + tb * 5, none⟩ = some (.int .i64 kb) := by rw [← hkb]; exact hat2 0 _ rfl
  have a1 : w.cell? ⟨bb, off + tb * 5 + 1, none⟩ = some (.int .u32 u) := by rw [← hu]; exact hat2 1 _ rfl
  have y0 := cell_alloc0 a0 (.cells #[.int .i64 tk, .int .u32 tv, .int .i64 to, .int .i64 ta, .int .i64 tb] 68)
  have y1 := cell_alloc0 a1 (.cells #[.int .i64 tk, .int .u32 tv, .int .i64 to, .int .i64 ta, .int .i64 tb] 68)
  have gb : (tb : Int) < ts.length := by omega
  clear hat2 a0 a1
  clear hat ht
  have hadd : (u : Int) + v = ((u + v : Nat) : Int) := by omega
  have HADD := Lib.hid hadd
  clear hadd
  go_enter Tryz.func66, Tryz.ntmps66
  go_wp2_with fail
  go_quiet (fail)
  have h2 := h1.below (below_drewN (Below.refl _ _) nq)
  have bl2 := below_drewN bl1 nq
  have x3 := cell_below (below_drewN (Below.refl _ _) nq) z3
  have x4 := cell_below (below_drewN (Below.refl _ _) nq) z4
  have c2 := cell_below (below_drewN (Below.refl _ _) nq) c1
  have u1 := cell_below (below_drewN (Below.refl _ _) nq) y1
  generalize (w.alloc (.cells #[.int .i64 tk, .int .u32 tv, .int .i64 to, .int .i64 ta, .int .i64 tb] 68)).drewN nq = w2 at *
  clear h1 bl1 z0 z1 z2 z3 z4 c1 d0 d1 d2 d3 d4 c0 gx y0 y1
  go_wp2_with fail
  go_quiet (fail)
  have h3 := h2.below (below_drewN (Below.refl _ _) nq)
  have bl3 := below_drewN bl2 nq
  have x5 := cell_below (below_drewN (Below.refl _ _) nq) x3
  generalize w2.drewN nq = w3 at *
  clear h2 bl2 x3 x4 c2 u1
  have x6 := cell_alloc0 x5 (.cells #[.int .i64 27, .int .i64 36, .int .i64 35, .int .i64 32] 3)
  have x7 := cell_alloc0 x6 (.cells #[.int .i64 29, .int .i64 33, .int .i64 34] 3)
  go_wp2_with (first
    | (go_at_call 64; (with_reducible refine (rin_shift _ (g := _) (w := _) (hg := by simp)).mono ?_); rintro r w' ⟨rfl, rfl⟩)
    | (go_at_call 64; (with_reducible refine (rin4 _ _ _ _ _ (g := _) (w := _) (hg := by simp)).mono ?_); rintro r w' ⟨rfl, rfl⟩)
    | fail)
  rw [HADD.out]
  refine (rgoes_any f hM k (.slice (some ⟨bb, off, none⟩) ts.length c) ts op ta (u + v) _ (by repeat (first | exact h3 | refine RefAt.alloc ?_ _)) hW.good hW.ok hW.ina (by omega) (by have := hW.less; omega) hl).mono ?_
  rintro r wz ⟨rfl, hz⟩
  go_wp2_with fail
  go_ret2
  exact ⟨rfl, RAdd.pre (by repeat (first | exact bl3 | refine below_al ?_ _)) hz⟩
set_option maxRecDepth 100000 in
set_option maxHeartbeats 1000000 in
theorem rd_s4 (f : Nat) (hM : RMadeSpec f) (k : Nat) (vl : Value) (ts : List Term) (op x y v tk tv to ta tb kb u : Nat) (w : World) (h : RefAt w k vl ts) (hx : x < ts.length) (hl : ts.length + (f + 1) < 1000000000000) (hv : v < 4294967296)
    (ht : ts.getD x default = ⟨tk, tv, to, ta, tb⟩) (k0 : ((tk : Int) != 2) = false) (o0 : ((to : Int) != (op : Int)) = false) (htb : tb < ts.length) (hkb : (ts.getD tb default).k = kb) (hu : (ts.getD tb default).v = u) (b0 : ((kb : Int) != 0) = false) (f4 : hasI (op : Int) [27, 36, 35, 32] = false) (fS : isShift op = true) (g1 : (1 : Int) ≤ u) (g2 : (u : Int) ≤ 31) (hv32 : v < 32) (g3 : (32 : Int) ≤ (u : Int) + v) (n34 : ((op : Int) == 34) = true) (hW : Went ts op x y (ins ts (constT 31)) op ta (pos ts (constT 31))) (hm : mz ts op x y < f + 1) :
    Calls Tryz.prog 66 #[.pointer (some ⟨k, 0, none⟩), .int .i64 op, .int .i64 x, .int .u32 v] w (RIs k vl w (madeF f (ins ts (constT 31)) op ta (pos ts (constT 31)))) := by
  obtain ⟨A, c, rfl, q1, q2, q3⟩ := (h.l.toSl encT 0).open_
  obtain ⟨bb, off, rfl, hat, hbl⟩ := (h.l.toSl encT 0).at_ hx
  rw [show ts[x] = ts.getD x default by simp [List.getD, hx], ht] at hat
  have d0 : w.cell? ⟨bb, off + x * 5, none⟩ = some (.int .i64 tk) := hat 0 _ rfl
  have d1 : w.cell? ⟨bb, off + x * 5 + 1, none⟩ = some (.int .u32 tv) := hat 1 _ rfl
  have d2 : w.cell? ⟨bb, off + x * 5 + 2, none⟩ = some (.int .i64 to) := hat 2 _ rfl
  have d3 : w.cell? ⟨bb, off + x * 5 + 3, none⟩ = some (.int .i64 ta) := hat 3 _ rfl
  have d4 : w.cell? ⟨bb, off + x * 5 + 4, none⟩ = some (.int .i64 tb) := hat 4 _ rfl
  have c0 := one_cell h.hb
  have gx : (x : Int) < ts.length := by omega
  obtain ⟨z0, z1, z2, z3, z4⟩ := five_cells (blk_new w (.cells #[.int .i64 tk, .int .u32 tv, .int .i64 to, .int .i64 ta, .int .i64 tb] 68))
  have c1 := cell_alloc0 c0 (.cells #[.int .i64 tk, .int .u32 tv, .int .i64 to, .int .i64 ta, .int .i64 tb] 68)
  have h1 := h.alloc (.cells #[.int .i64 tk, .int .u32 tv, .int .i64 to, .int .i64 ta, .int .i64 tb] 68)
  have bl1 := below_al (Below.refl w.heap.size w) (.cells #[.int .i64 tk, .int .u32 tv, .int .i64 to, .int .i64 ta, .int .i64 tb] 68)
  have hB := (h.l.toSl encT 0).at_ htb
  obtain ⟨bb2, off2, eA, hat2, _⟩ := hB
  rw [show ts[tb] = ts.getD tb default by simp [List.getD, htb]] at hat2
  simp only [Option.some.injEq, Addr.mk.injEq, and_true] at eA
  obtain ⟨rfl, rfl⟩ := eA
  have a0 : w.cell? ⟨bb, off + tb * 5, none⟩ = some (.int .i64 kb) := by rw [← hkb]; exact hat2 0 _ rfl
  have a1 : w.cell? ⟨bb, off + tb * 5 + 1, none⟩ = some (.int .u32 u) := by rw [← hu]; exact hat2 1 _ rfl
  have y0 := cell_alloc0 a0 (.cells #[.int .i64 tk, .int .u32 tv, .int .i64 to, .int .i64 ta, .int .i64 tb] 68)
  have y1 := cell_alloc0 a1 (.cells #[.int .i64 tk, .int .u32 tv, .int .i64 to, .int .i64 ta, .int .i64 tb] 68)
  have gb : (tb : Int) < ts.length := by omega
  clear hat2 a0 a1
  clear hat ht
  have hG : ∀ w1, RefAt w1 k (.slice (some ⟨bb, off, none⟩) ts.length c) ts → Calls Tryz.prog 87 #[.pointer (some ⟨k, 0, none⟩), .int .i64 op, .int .i64 ta, .int .u32 31] w1 (RIs k (.slice (some ⟨bb, off, none⟩) ts.length c) w1 (madeF f (ins ts (constT 31)) op ta (pos ts (constT 31)))) := fun w1 h1 => rgoes_any f hM k (.slice (some ⟨bb, off, none⟩) ts.length c) ts op ta 31 w1 h1 hW.good hW.ok hW.ina (by omega) (by have := hW.less; omega) hl
  go_enter Tryz.func66, Tryz.ntmps66
  go_wp2_with fail
  go_quiet (fail)
  have h2 := h1.below (below_drewN (Below.refl _ _) nq)
  have bl2 := below_drewN bl1 nq
  have x3 := cell_below (below_drewN (Below.refl _ _) nq) z3
  have x4 := cell_below (below_drewN (Below.refl _ _) nq) z4
  have c2 := cell_below (below_drewN (Below.refl _ _) nq) c1
  have u1 := cell_below (below_drewN (Below.refl _ _) nq) y1
  generalize (w.alloc (.cells #[.int .i64 tk, .int .u32 tv, .int .i64 to, .int .i64 ta, .int .i64 tb] 68)).drewN nq = w2 at *
  clear h1 bl1 z0 z1 z2 z3 z4 c1 d0 d1 d2 d3 d4 c0 gx y0 y1
  go_wp2_with fail
  go_quiet (fail)
  have h3 := h2.below (below_drewN (Below.refl _ _) nq)
  have bl3 := below_drewN bl2 nq
  have x5 := cell_below (below_drewN (Below.refl _ _) nq) x3
  generalize w2.drewN nq = w3 at *
  clear h2 bl2 x3 x4 c2 u1
  have x6 := cell_alloc0 x5 (.cells #[.int .i64 27, .int .i64 36, .int .i64 35, .int .i64 32] 3)
  have x7 := cell_alloc0 x6 (.cells #[.int .i64 29, .int .i64 33, .int .i64 34] 3)
  go_wp2_with (first
    | (go_at_call 64; (with_reducible refine (rin_shift _ (g := _) (w := _) (hg := by simp)).mono ?_); rintro r w' ⟨rfl, rfl⟩)
    | (go_at_call 64; (with_reducible refine (rin4 _ _ _ _ _ (g := _) (w := _) (hg := by simp)).mono ?_); rintro r w' ⟨rfl, rfl⟩)
    | fail)
  refine (hG _ (by repeat (first | exact h3 | refine RefAt.alloc ?_ _))).mono ?_
  rintro r wz ⟨rfl, hz⟩
  go_wp2_with fail
  go_ret2
  exact ⟨rfl, RAdd.pre (by repeat (first | exact bl3 | refine below_al ?_ _)) hz⟩
set_option maxRecDepth 100000 in
set_option maxHeartbeats 1000000 in
theorem rd_s5 (f : Nat) (hM : RMadeSpec f) (k : Nat) (vl : Value) (ts : List Term) (op x y v tk tv to ta tb kb u : Nat) (w : World) (h : RefAt w k vl ts) (hx : x < ts.length) (hl : ts.length + (f + 1) < 1000000000000) (hv : v < 4294967296)
    (ht : ts.getD x default = ⟨tk, tv, to, ta, tb⟩) (k0 : ((tk : Int) != 2) = false) (o0 : ((to : Int) != (op : Int)) = false) (htb : tb < ts.length) (hkb : (ts.getD tb default).k = kb) (hu : (ts.getD tb default).v = u) (b0 : ((kb : Int) != 0) = false) (f4 : hasI (op : Int) [27, 36, 35, 32] = false) (fS : isShift op = true) (g1 : (1 : Int) ≤ u) (g2 : (u : Int) ≤ 31) (hv32 : v < 32) (g3 : (32 : Int) ≤ (u : Int) + v) (n34 : ((op : Int) == 34) = false) :
    Calls Tryz.prog 66 #[.pointer (some ⟨k, 0, none⟩), .int .i64 op, .int .i64 x, .int .u32 v] w (RIs k vl w (ins ts (constT 0), pos ts (constT 0))) := by
  obtain ⟨A, c, rfl, q1, q2, q3⟩ := (h.l.toSl encT 0).open_
  obtain ⟨bb, off, rfl, hat, hbl⟩ := (h.l.toSl encT 0).at_ hx
  rw [show ts[x] = ts.getD x default by simp [List.getD, hx], ht] at hat
  have d0 : w.cell? ⟨bb, off + x * 5, none⟩ = some (.int .i64 tk) := hat 0 _ rfl
  have d1 : w.cell? ⟨bb, off + x * 5 + 1, none⟩ = some (.int .u32 tv) := hat 1 _ rfl
  have d2 : w.cell? ⟨bb, off + x * 5 + 2, none⟩ = some (.int .i64 to) := hat 2 _ rfl
  have d3 : w.cell? ⟨bb, off + x * 5 + 3, none⟩ = some (.int .i64 ta) := hat 3 _ rfl
  have d4 : w.cell? ⟨bb, off + x * 5 + 4, none⟩ = some (.int .i64 tb) := hat 4 _ rfl
  have c0 := one_cell h.hb
  have gx : (x : Int) < ts.length := by omega
  obtain ⟨z0, z1, z2, z3, z4⟩ := five_cells (blk_new w (.cells #[.int .i64 tk, .int .u32 tv, .int .i64 to, .int .i64 ta, .int .i64 tb] 68))
  have c1 := cell_alloc0 c0 (.cells #[.int .i64 tk, .int .u32 tv, .int .i64 to, .int .i64 ta, .int .i64 tb] 68)
  have h1 := h.alloc (.cells #[.int .i64 tk, .int .u32 tv, .int .i64 to, .int .i64 ta, .int .i64 tb] 68)
  have bl1 := below_al (Below.refl w.heap.size w) (.cells #[.int .i64 tk, .int .u32 tv, .int .i64 to, .int .i64 ta, .int .i64 tb] 68)
  have hB := (h.l.toSl encT 0).at_ htb
  obtain ⟨bb2, off2, eA, hat2, _⟩ := hB
  rw [show ts[tb] = ts.getD tb default by simp [List.getD, htb]] at hat2
  simp only [Option.some.injEq, Addr.mk.injEq, and_true] at eA
  obtain ⟨rfl, rfl⟩ := eA
  have a0 : w.cell? ⟨bb, off + tb * 5, none⟩ = some (.int .i64 kb) := by rw [← hkb]; exact hat2 0 _ rfl
  have a1 : w.cell? ⟨bb, off + tb * 5 + 1, none⟩ = some (.int .u32 u) := by rw [← hu]; exact hat2 1 _ rfl
  have y0 := cell_alloc0 a0 (.cells #[.int .i64 tk, .int .u32 tv, .int .i64 to, .int .i64 ta, .int .i64 tb] 68)
  have y1 := cell_alloc0 a1 (.cells #[.int .i64 tk, .int .u32 tv, .int .i64 to, .int .i64 ta, .int .i64 tb] 68)
  have gb : (tb : Int) < ts.length := by omega
  clear hat2 a0 a1
  clear hat ht
  go_enter Tryz.func66, Tryz.ntmps66
  go_wp2_with fail
  go_quiet (fail)
  have h2 := h1.below (below_drewN (Below.refl _ _) nq)
  have bl2 := below_drewN bl1 nq
  have x3 := cell_below (below_drewN (Below.refl _ _) nq) z3
  have x4 := cell_below (below_drewN (Below.refl _ _) nq) z4
  have c2 := cell_below (below_drewN (Below.refl _ _) nq) c1
  have u1 := cell_below (below_drewN (Below.refl _ _) nq) y1
  generalize (w.alloc (.cells #[.int .i64 tk, .int .u32 tv, .int .i64 to, .int .i64 ta, .int .i64 tb] 68)).drewN nq = w2 at *
  clear h1 bl1 z0 z1 z2 z3 z4 c1 d0 d1 d2 d3 d4 c0 gx y0 y1
  go_wp2_with fail
  go_quiet (fail)
  have h3 := h2.below (below_drewN (Below.refl _ _) nq)
  have bl3 := below_drewN bl2 nq
  have x5 := cell_below (below_drewN (Below.refl _ _) nq) x3
  generalize w2.drewN nq = w3 at *
  clear h2 bl2 x3 x4 c2 u1
  have x6 := cell_alloc0 x5 (.cells #[.int .i64 27, .int .i64 36, .int .i64 35, .int .i64 32] 3)
  have x7 := cell_alloc0 x6 (.cells #[.int .i64 29, .int .i64 33, .int .i64 34] 3)
  go_wp2_with (first
    | (go_at_call 64; (with_reducible refine (rin_shift _ (g := _) (w := _) (hg := by simp)).mono ?_); rintro r w' ⟨rfl, rfl⟩)
    | (go_at_call 64; (with_reducible refine (rin4 _ _ _ _ _ (g := _) (w := _) (hg := by simp)).mono ?_); rintro r w' ⟨rfl, rfl⟩)
    | fail)
  refine (rconst0_any k (.slice (some ⟨bb, off, none⟩) ts.length c) ts _ (by repeat (first | exact h3 | refine RefAt.alloc ?_ _)) (by omega)).mono ?_
  rintro r wz ⟨rfl, hz⟩
  go_wp2_with fail
  go_ret2
  exact ⟨rfl, RAdd.pre (by repeat (first | exact bl3 | refine below_al ?_ _)) hz⟩
end Go.Proofs.YtaiggfknighhgaaGreatDoor
