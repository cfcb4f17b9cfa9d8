/- The reference of simp: Op, case by case (written by genGO.py). -/
import Derived.Test.YtaiggfknighhgaaGreatDoorGDX
import Derived.BigRegion
import Derived.Deep.CutRange
set_option linter.unusedVariables false
set_option linter.unusedSimpArgs false
namespace Go.Proofs.YtaiggfknighhgaaGreatDoor
open Go.RowKit Go.Maps Go.MapKept
set_option maxRecDepth 100000 in
set_option maxHeartbeats 4000000 in
theorem rop_F2s (f : Nat) (hM : RMadeSpec f) (k : Nat) (vl : Value) (ts : List Term) (op x y : Nat) (w : World) (h : RefAt w k vl ts) (hG : Good ts) (ho : (doW op 0 0).isSome = true) (hx : x < ts.length) (hy : y < ts.length) (hl : ts.length + (f + 1) < 1000000000000) (t u : Term) (ht : ts.getD x default = t) (hu : ts.getD y default = u) (kx : ((t.k : Int) == 0) = false) (ky : ((u.k : Int) == 0) = false) (kyn : ((u.k : Int) != 0) = true) (hT : turns op = false) (n28 : ((op : Int) == 28) = true) (hne : ((x : Int) == y) = false) :
    Calls Tryz.prog 37 #[.pointer (some ⟨k, 0, none⟩), .int .i64 op, .int .i64 x, .int .i64 y] w (RPost k vl w (ins ts (opT op x y), pos ts (opT op x y))) := by
  obtain ⟨A, c, rfl, q1, q2, q3⟩ := (h.l.toSl encT 0).open_
  obtain ⟨bb, off, rfl, hat, hbl⟩ := (h.l.toSl encT 0).at_ hx
  obtain ⟨bb2, off2, eA, hat2, _⟩ := (h.l.toSl encT 0).at_ hy
  simp only [Option.some.injEq, Addr.mk.injEq, and_true] at eA
  obtain ⟨rfl, rfl⟩ := eA
  rw [show ts[x] = ts.getD x default by simp [List.getD, hx]] at hat
  rw [show ts[y] = ts.getD y default by simp [List.getD, hy]] at hat2
  rw [ht] at hat
  rw [hu] at hat2
  have hA := rin_turns op
  rw [hT] at hA
  have hO := fun vl2 w h => rop_any k vl2 ts w h (by omega) op x y hx hy ho
  clear ht hu
  have d0 : w.cell? ⟨bb, off + x * 5, none⟩ = some (.int .i64 t.k) := hat 0 _ rfl
  have d1 := hat 1 _ rfl
  have d2 := hat 2 _ rfl
  have d3 := hat 3 _ rfl
  have d4 := hat 4 _ rfl
  have e0 : w.cell? ⟨bb, off + y * 5, none⟩ = some (.int .i64 u.k) := hat2 0 _ rfl
  have e1 := hat2 1 _ rfl
  have e2 := hat2 2 _ rfl
  have e3 := hat2 3 _ rfl
  have e4 := hat2 4 _ rfl
  have c0 := one_cell h.hb
  have gx : (x : Int) < ts.length := by omega
  have gy : (y : Int) < ts.length := by omega
  have hDo := rdo_any op ho 0 0 (by omega) (by omega) w
  go_enter Tryz.func37, Tryz.ntmps37
  go_wp2_with fail
  refine hDo.mono ?_
  rintro r w1 ⟨rfl, b1⟩
  have hR1 := h.below b1
  have c1 := cell_below b1 c0
  have d0 := cell_below b1 d0
  have d1 := cell_below b1 d1
  have d2 := cell_below b1 d2
  have d3 := cell_below b1 d3
  have d4 := cell_below b1 d4
  have e0 := cell_below b1 e0
  have e1 := cell_below b1 e1
  have e2 := cell_below b1 e2
  have e3 := cell_below b1 e3
  have e4 := cell_below b1 e4
  have pc1 := cell_alloc0 c1 (.cells #[.int .i64 0, .int .u32 0, .int .i64 0, .int .i64 0, .int .i64 0] 68)
  have qc1 := cell_alloc0 pc1 (.cells #[.int .i64 0, .int .u32 0, .int .i64 0, .int .i64 0, .int .i64 0] 68)
  have pd0 := cell_alloc0 d0 (.cells #[.int .i64 0, .int .u32 0, .int .i64 0, .int .i64 0, .int .i64 0] 68)
  have qd0 := cell_alloc0 pd0 (.cells #[.int .i64 0, .int .u32 0, .int .i64 0, .int .i64 0, .int .i64 0] 68)
  have pd1 := cell_alloc0 d1 (.cells #[.int .i64 0, .int .u32 0, .int .i64 0, .int .i64 0, .int .i64 0] 68)
  have qd1 := cell_alloc0 pd1 (.cells #[.int .i64 0, .int .u32 0, .int .i64 0, .int .i64 0, .int .i64 0] 68)
  have pd2 := cell_alloc0 d2 (.cells #[.int .i64 0, .int .u32 0, .int .i64 0, .int .i64 0, .int .i64 0] 68)
  have qd2 := cell_alloc0 pd2 (.cells #[.int .i64 0, .int .u32 0, .int .i64 0, .int .i64 0, .int .i64 0] 68)
  have pd3 := cell_alloc0 d3 (.cells #[.int .i64 0, .int .u32 0, .int .i64 0, .int .i64 0, .int .i64 0] 68)
  have qd3 := cell_alloc0 pd3 (.cells #[.int .i64 0, .int .u32 0, .int .i64 0, .int .i64 0, .int .i64 0] 68)
  have pd4 := cell_alloc0 d4 (.cells #[.int .i64 0, .int .u32 0, .int .i64 0, .int .i64 0, .int .i64 0] 68)
  have qd4 := cell_alloc0 pd4 (.cells #[.int .i64 0, .int .u32 0, .int .i64 0, .int .i64 0, .int .i64 0] 68)
  have pe0 := cell_alloc0 e0 (.cells #[.int .i64 0, .int .u32 0, .int .i64 0, .int .i64 0, .int .i64 0] 68)
  have qe0 := cell_alloc0 pe0 (.cells #[.int .i64 0, .int .u32 0, .int .i64 0, .int .i64 0, .int .i64 0] 68)
  have pe1 := cell_alloc0 e1 (.cells #[.int .i64 0, .int .u32 0, .int .i64 0, .int .i64 0, .int .i64 0] 68)
  have qe1 := cell_alloc0 pe1 (.cells #[.int .i64 0, .int .u32 0, .int .i64 0, .int .i64 0, .int .i64 0] 68)
  have pe2 := cell_alloc0 e2 (.cells #[.int .i64 0, .int .u32 0, .int .i64 0, .int .i64 0, .int .i64 0] 68)
  have qe2 := cell_alloc0 pe2 (.cells #[.int .i64 0, .int .u32 0, .int .i64 0, .int .i64 0, .int .i64 0] 68)
  have pe3 := cell_alloc0 e3 (.cells #[.int .i64 0, .int .u32 0, .int .i64 0, .int .i64 0, .int .i64 0] 68)
  have qe3 := cell_alloc0 pe3 (.cells #[.int .i64 0, .int .u32 0, .int .i64 0, .int .i64 0, .int .i64 0] 68)
  have pe4 := cell_alloc0 e4 (.cells #[.int .i64 0, .int .u32 0, .int .i64 0, .int .i64 0, .int .i64 0] 68)
  have qe4 := cell_alloc0 pe4 (.cells #[.int .i64 0, .int .u32 0, .int .i64 0, .int .i64 0, .int .i64 0] 68)
  have r0c1 := cell_alloc0 (cell_alloc0 c1 (.cells #[.int .i64 0, .int .u32 0, .int .i64 0, .int .i64 0, .int .i64 0] 68)) (.cells #[.int .i64 t.k, .int .u32 t.v, .int .i64 t.op, .int .i64 t.a, .int .i64 t.b] 68)
  have r0d0 := cell_alloc0 (cell_alloc0 d0 (.cells #[.int .i64 0, .int .u32 0, .int .i64 0, .int .i64 0, .int .i64 0] 68)) (.cells #[.int .i64 t.k, .int .u32 t.v, .int .i64 t.op, .int .i64 t.a, .int .i64 t.b] 68)
  have r0d1 := cell_alloc0 (cell_alloc0 d1 (.cells #[.int .i64 0, .int .u32 0, .int .i64 0, .int .i64 0, .int .i64 0] 68)) (.cells #[.int .i64 t.k, .int .u32 t.v, .int .i64 t.op, .int .i64 t.a, .int .i64 t.b] 68)
  have r0d2 := cell_alloc0 (cell_alloc0 d2 (.cells #[.int .i64 0, .int .u32 0, .int .i64 0, .int .i64 0, .int .i64 0] 68)) (.cells #[.int .i64 t.k, .int .u32 t.v, .int .i64 t.op, .int .i64 t.a, .int .i64 t.b] 68)
  have r0d3 := cell_alloc0 (cell_alloc0 d3 (.cells #[.int .i64 0, .int .u32 0, .int .i64 0, .int .i64 0, .int .i64 0] 68)) (.cells #[.int .i64 t.k, .int .u32 t.v, .int .i64 t.op, .int .i64 t.a, .int .i64 t.b] 68)
  have r0d4 := cell_alloc0 (cell_alloc0 d4 (.cells #[.int .i64 0, .int .u32 0, .int .i64 0, .int .i64 0, .int .i64 0] 68)) (.cells #[.int .i64 t.k, .int .u32 t.v, .int .i64 t.op, .int .i64 t.a, .int .i64 t.b] 68)
  have r0e0 := cell_alloc0 (cell_alloc0 e0 (.cells #[.int .i64 0, .int .u32 0, .int .i64 0, .int .i64 0, .int .i64 0] 68)) (.cells #[.int .i64 t.k, .int .u32 t.v, .int .i64 t.op, .int .i64 t.a, .int .i64 t.b] 68)
  have r0e1 := cell_alloc0 (cell_alloc0 e1 (.cells #[.int .i64 0, .int .u32 0, .int .i64 0, .int .i64 0, .int .i64 0] 68)) (.cells #[.int .i64 t.k, .int .u32 t.v, .int .i64 t.op, .int .i64 t.a, .int .i64 t.b] 68)
  have r0e2 := cell_alloc0 (cell_alloc0 e2 (.cells #[.int .i64 0, .int .u32 0, .int .i64 0, .int .i64 0, .int .i64 0] 68)) (.cells #[.int .i64 t.k, .int .u32 t.v, .int .i64 t.op, .int .i64 t.a, .int .i64 t.b] 68)
  have r0e3 := cell_alloc0 (cell_alloc0 e3 (.cells #[.int .i64 0, .int .u32 0, .int .i64 0, .int .i64 0, .int .i64 0] 68)) (.cells #[.int .i64 t.k, .int .u32 t.v, .int .i64 t.op, .int .i64 t.a, .int .i64 t.b] 68)
  have r0e4 := cell_alloc0 (cell_alloc0 e4 (.cells #[.int .i64 0, .int .u32 0, .int .i64 0, .int .i64 0, .int .i64 0] 68)) (.cells #[.int .i64 t.k, .int .u32 t.v, .int .i64 t.op, .int .i64 t.a, .int .i64 t.b] 68)
  have r1c1 := cell_alloc0 (cell_alloc0 c1 (.cells #[.int .i64 t.k, .int .u32 t.v, .int .i64 t.op, .int .i64 t.a, .int .i64 t.b] 68)) (.cells #[.int .i64 0, .int .u32 0, .int .i64 0, .int .i64 0, .int .i64 0] 68)
  have r1d0 := cell_alloc0 (cell_alloc0 d0 (.cells #[.int .i64 t.k, .int .u32 t.v, .int .i64 t.op, .int .i64 t.a, .int .i64 t.b] 68)) (.cells #[.int .i64 0, .int .u32 0, .int .i64 0, .int .i64 0, .int .i64 0] 68)
  have r1d1 := cell_alloc0 (cell_alloc0 d1 (.cells #[.int .i64 t.k, .int .u32 t.v, .int .i64 t.op, .int .i64 t.a, .int .i64 t.b] 68)) (.cells #[.int .i64 0, .int .u32 0, .int .i64 0, .int .i64 0, .int .i64 0] 68)
  have r1d2 := cell_alloc0 (cell_alloc0 d2 (.cells #[.int .i64 t.k, .int .u32 t.v, .int .i64 t.op, .int .i64 t.a, .int .i64 t.b] 68)) (.cells #[.int .i64 0, .int .u32 0, .int .i64 0, .int .i64 0, .int .i64 0] 68)
  have r1d3 := cell_alloc0 (cell_alloc0 d3 (.cells #[.int .i64 t.k, .int .u32 t.v, .int .i64 t.op, .int .i64 t.a, .int .i64 t.b] 68)) (.cells #[.int .i64 0, .int .u32 0, .int .i64 0, .int .i64 0, .int .i64 0] 68)
  have r1d4 := cell_alloc0 (cell_alloc0 d4 (.cells #[.int .i64 t.k, .int .u32 t.v, .int .i64 t.op, .int .i64 t.a, .int .i64 t.b] 68)) (.cells #[.int .i64 0, .int .u32 0, .int .i64 0, .int .i64 0, .int .i64 0] 68)
  have r1e0 := cell_alloc0 (cell_alloc0 e0 (.cells #[.int .i64 t.k, .int .u32 t.v, .int .i64 t.op, .int .i64 t.a, .int .i64 t.b] 68)) (.cells #[.int .i64 0, .int .u32 0, .int .i64 0, .int .i64 0, .int .i64 0] 68)
  have r1e1 := cell_alloc0 (cell_alloc0 e1 (.cells #[.int .i64 t.k, .int .u32 t.v, .int .i64 t.op, .int .i64 t.a, .int .i64 t.b] 68)) (.cells #[.int .i64 0, .int .u32 0, .int .i64 0, .int .i64 0, .int .i64 0] 68)
  have r1e2 := cell_alloc0 (cell_alloc0 e2 (.cells #[.int .i64 t.k, .int .u32 t.v, .int .i64 t.op, .int .i64 t.a, .int .i64 t.b] 68)) (.cells #[.int .i64 0, .int .u32 0, .int .i64 0, .int .i64 0, .int .i64 0] 68)
  have r1e3 := cell_alloc0 (cell_alloc0 e3 (.cells #[.int .i64 t.k, .int .u32 t.v, .int .i64 t.op, .int .i64 t.a, .int .i64 t.b] 68)) (.cells #[.int .i64 0, .int .u32 0, .int .i64 0, .int .i64 0, .int .i64 0] 68)
  have r1e4 := cell_alloc0 (cell_alloc0 e4 (.cells #[.int .i64 t.k, .int .u32 t.v, .int .i64 t.op, .int .i64 t.a, .int .i64 t.b] 68)) (.cells #[.int .i64 0, .int .u32 0, .int .i64 0, .int .i64 0, .int .i64 0] 68)
  have r2c1 := cell_alloc0 (cell_alloc0 c1 (.cells #[.int .i64 0, .int .u32 0, .int .i64 0, .int .i64 0, .int .i64 0] 68)) (.cells #[.int .i64 u.k, .int .u32 u.v, .int .i64 u.op, .int .i64 u.a, .int .i64 u.b] 68)
  have r2d0 := cell_alloc0 (cell_alloc0 d0 (.cells #[.int .i64 0, .int .u32 0, .int .i64 0, .int .i64 0, .int .i64 0] 68)) (.cells #[.int .i64 u.k, .int .u32 u.v, .int .i64 u.op, .int .i64 u.a, .int .i64 u.b] 68)
  have r2d1 := cell_alloc0 (cell_alloc0 d1 (.cells #[.int .i64 0, .int .u32 0, .int .i64 0, .int .i64 0, .int .i64 0] 68)) (.cells #[.int .i64 u.k, .int .u32 u.v, .int .i64 u.op, .int .i64 u.a, .int .i64 u.b] 68)
  have r2d2 := cell_alloc0 (cell_alloc0 d2 (.cells #[.int .i64 0, .int .u32 0, .int .i64 0, .int .i64 0, .int .i64 0] 68)) (.cells #[.int .i64 u.k, .int .u32 u.v, .int .i64 u.op, .int .i64 u.a, .int .i64 u.b] 68)
  have r2d3 := cell_alloc0 (cell_alloc0 d3 (.cells #[.int .i64 0, .int .u32 0, .int .i64 0, .int .i64 0, .int .i64 0] 68)) (.cells #[.int .i64 u.k, .int .u32 u.v, .int .i64 u.op, .int .i64 u.a, .int .i64 u.b] 68)
  have r2d4 := cell_alloc0 (cell_alloc0 d4 (.cells #[.int .i64 0, .int .u32 0, .int .i64 0, .int .i64 0, .int .i64 0] 68)) (.cells #[.int .i64 u.k, .int .u32 u.v, .int .i64 u.op, .int .i64 u.a, .int .i64 u.b] 68)
  have r2e0 := cell_alloc0 (cell_alloc0 e0 (.cells #[.int .i64 0, .int .u32 0, .int .i64 0, .int .i64 0, .int .i64 0] 68)) (.cells #[.int .i64 u.k, .int .u32 u.v, .int .i64 u.op, .int .i64 u.a, .int .i64 u.b] 68)
  have r2e1 := cell_alloc0 (cell_alloc0 e1 (.cells #[.int .i64 0, .int .u32 0, .int .i64 0, .int .i64 0, .int .i64 0] 68)) (.cells #[.int .i64 u.k, .int .u32 u.v, .int .i64 u.op, .int .i64 u.a, .int .i64 u.b] 68)
  have r2e2 := cell_alloc0 (cell_alloc0 e2 (.cells #[.int .i64 0, .int .u32 0, .int .i64 0, .int .i64 0, .int .i64 0] 68)) (.cells #[.int .i64 u.k, .int .u32 u.v, .int .i64 u.op, .int .i64 u.a, .int .i64 u.b] 68)
  have r2e3 := cell_alloc0 (cell_alloc0 e3 (.cells #[.int .i64 0, .int .u32 0, .int .i64 0, .int .i64 0, .int .i64 0] 68)) (.cells #[.int .i64 u.k, .int .u32 u.v, .int .i64 u.op, .int .i64 u.a, .int .i64 u.b] 68)
  have r2e4 := cell_alloc0 (cell_alloc0 e4 (.cells #[.int .i64 0, .int .u32 0, .int .i64 0, .int .i64 0, .int .i64 0] 68)) (.cells #[.int .i64 u.k, .int .u32 u.v, .int .i64 u.op, .int .i64 u.a, .int .i64 u.b] 68)
  have r3c1 := cell_alloc0 (cell_alloc0 c1 (.cells #[.int .i64 u.k, .int .u32 u.v, .int .i64 u.op, .int .i64 u.a, .int .i64 u.b] 68)) (.cells #[.int .i64 0, .int .u32 0, .int .i64 0, .int .i64 0, .int .i64 0] 68)
  have r3d0 := cell_alloc0 (cell_alloc0 d0 (.cells #[.int .i64 u.k, .int .u32 u.v, .int .i64 u.op, .int .i64 u.a, .int .i64 u.b] 68)) (.cells #[.int .i64 0, .int .u32 0, .int .i64 0, .int .i64 0, .int .i64 0] 68)
  have r3d1 := cell_alloc0 (cell_alloc0 d1 (.cells #[.int .i64 u.k, .int .u32 u.v, .int .i64 u.op, .int .i64 u.a, .int .i64 u.b] 68)) (.cells #[.int .i64 0, .int .u32 0, .int .i64 0, .int .i64 0, .int .i64 0] 68)
  have r3d2 := cell_alloc0 (cell_alloc0 d2 (.cells #[.int .i64 u.k, .int .u32 u.v, .int .i64 u.op, .int .i64 u.a, .int .i64 u.b] 68)) (.cells #[.int .i64 0, .int .u32 0, .int .i64 0, .int .i64 0, .int .i64 0] 68)
  have r3d3 := cell_alloc0 (cell_alloc0 d3 (.cells #[.int .i64 u.k, .int .u32 u.v, .int .i64 u.op, .int .i64 u.a, .int .i64 u.b] 68)) (.cells #[.int .i64 0, .int .u32 0, .int .i64 0, .int .i64 0, .int .i64 0] 68)
  have r3d4 := cell_alloc0 (cell_alloc0 d4 (.cells #[.int .i64 u.k, .int .u32 u.v, .int .i64 u.op, .int .i64 u.a, .int .i64 u.b] 68)) (.cells #[.int .i64 0, .int .u32 0, .int .i64 0, .int .i64 0, .int .i64 0] 68)
  have r3e0 := cell_alloc0 (cell_alloc0 e0 (.cells #[.int .i64 u.k, .int .u32 u.v, .int .i64 u.op, .int .i64 u.a, .int .i64 u.b] 68)) (.cells #[.int .i64 0, .int .u32 0, .int .i64 0, .int .i64 0, .int .i64 0] 68)
  have r3e1 := cell_alloc0 (cell_alloc0 e1 (.cells #[.int .i64 u.k, .int .u32 u.v, .int .i64 u.op, .int .i64 u.a, .int .i64 u.b] 68)) (.cells #[.int .i64 0, .int .u32 0, .int .i64 0, .int .i64 0, .int .i64 0] 68)
  have r3e2 := cell_alloc0 (cell_alloc0 e2 (.cells #[.int .i64 u.k, .int .u32 u.v, .int .i64 u.op, .int .i64 u.a, .int .i64 u.b] 68)) (.cells #[.int .i64 0, .int .u32 0, .int .i64 0, .int .i64 0, .int .i64 0] 68)
  have r3e3 := cell_alloc0 (cell_alloc0 e3 (.cells #[.int .i64 u.k, .int .u32 u.v, .int .i64 u.op, .int .i64 u.a, .int .i64 u.b] 68)) (.cells #[.int .i64 0, .int .u32 0, .int .i64 0, .int .i64 0, .int .i64 0] 68)
  have r3e4 := cell_alloc0 (cell_alloc0 e4 (.cells #[.int .i64 u.k, .int .u32 u.v, .int .i64 u.op, .int .i64 u.a, .int .i64 u.b] 68)) (.cells #[.int .i64 0, .int .u32 0, .int .i64 0, .int .i64 0, .int .i64 0] 68)
  clear c0 hG hM hat hat2 hDo h
  go_upto_region 6 with fail
  go_cut [12, 13] from 50 to 63 (fun p q wx => ∃ ix iy : Nat, p = .pointer (some ⟨ix, 0, none⟩) ∧ q = .pointer (some ⟨iy, 0, none⟩) ∧ wx.heap[ix]? = some (.cells #[.int .i64 t.k, .int .u32 t.v, .int .i64 t.op, .int .i64 t.a, .int .i64 t.b] 68 (0, 0)) ∧ wx.heap[iy]? = some (.cells #[.int .i64 u.k, .int .u32 u.v, .int .i64 u.op, .int .i64 u.a, .int .i64 u.b] 68 (0, 0)) ∧ w1.heap.size ≤ ix ∧ w1.heap.size ≤ iy ∧ Below w1.heap.size w1 wx)
  case first =>
    go_region
    all_goals (go_wp2_with fail; go_meet)
    · exact ⟨w1.heap.size, w1.heap.size + 1, rfl, rfl, blk_alloc (blk_new w1 _) _, blk_top (by simp), Nat.le_refl _, by omega, (below_al (below_al (Below.refl _ _) _) _).drew⟩
    · exact ⟨w1.heap.size + 1, w1.heap.size, rfl, rfl, blk_top (by simp), blk_alloc (blk_new w1 _) _, by omega, Nat.le_refl _, (below_al (below_al (Below.refl _ _) _) _).drew⟩
  case rest =>
    obtain ⟨ix, iy, rfl, rfl, hix, hiy, lx, ly, bc⟩ := hcut
    have hR := hR1.below bc
    have bw := below_then b1 bc
    obtain ⟨x0, x1, x2, x3, x4⟩ := five_cells hix
    obtain ⟨y0, y1, y2, y3, y4⟩ := five_cells hiy
    have hR7 := hR.alloc (.cells #[.int .i64 27, .int .i64 36, .int .i64 35, .int .i64 32, .int .i64 37, .int .i64 38, .int .i64 40] 3)
    have bw7 := below_al bw (.cells #[.int .i64 27, .int .i64 36, .int .i64 35, .int .i64 32, .int .i64 37, .int .i64 38, .int .i64 40] 3)
    have xa0 := cell_alloc0 x0 (.cells #[.int .i64 27, .int .i64 36, .int .i64 35, .int .i64 32, .int .i64 37, .int .i64 38, .int .i64 40] 3)
    have xa1 := cell_alloc0 x1 (.cells #[.int .i64 27, .int .i64 36, .int .i64 35, .int .i64 32, .int .i64 37, .int .i64 38, .int .i64 40] 3)
    have ya0 := cell_alloc0 y0 (.cells #[.int .i64 27, .int .i64 36, .int .i64 35, .int .i64 32, .int .i64 37, .int .i64 38, .int .i64 40] 3)
    have ya1 := cell_alloc0 y1 (.cells #[.int .i64 27, .int .i64 36, .int .i64 35, .int .i64 32, .int .i64 37, .int .i64 38, .int .i64 40] 3)
    clear hix hiy lx ly bc hR1 b1
    go_wp2_with (first
      | (go_at_call 64; (with_reducible refine (hA _ _ (by simp)).mono ?_); rintro r w' ⟨rfl, rfl⟩)
      | fail)
    refine (hO _ _ hR7).mono ?_
    rintro r w6 ⟨rfl, h6⟩
    go_wp2_with fail
    go_ret2
    exact ⟨rfl, RAdd.pre bw7 h6⟩
set_option maxRecDepth 100000 in
set_option maxHeartbeats 4000000 in
theorem rop_F2n (f : Nat) (hM : RMadeSpec f) (k : Nat) (vl : Value) (ts : List Term) (op x y : Nat) (w : World) (h : RefAt w k vl ts) (hG : Good ts) (ho : (doW op 0 0).isSome = true) (hx : x < ts.length) (hy : y < ts.length) (hl : ts.length + (f + 1) < 1000000000000) (t u : Term) (ht : ts.getD x default = t) (hu : ts.getD y default = u) (kx : ((t.k : Int) == 0) = false) (ky : ((u.k : Int) == 0) = false) (kyn : ((u.k : Int) != 0) = true) (hT : turns op = false) (n28 : ((op : Int) == 28) = false) (hne : ((x : Int) == y) = false) :
    Calls Tryz.prog 37 #[.pointer (some ⟨k, 0, none⟩), .int .i64 op, .int .i64 x, .int .i64 y] w (RPost k vl w (ins ts (opT op x y), pos ts (opT op x y))) := by
  obtain ⟨A, c, rfl, q1, q2, q3⟩ := (h.l.toSl encT 0).open_
  obtain ⟨bb, off, rfl, hat, hbl⟩ := (h.l.toSl encT 0).at_ hx
  obtain ⟨bb2, off2, eA, hat2, _⟩ := (h.l.toSl encT 0).at_ hy
  simp only [Option.some.injEq, Addr.mk.injEq, and_true] at eA
  obtain ⟨rfl, rfl⟩ := eA
  rw [show ts[x] = ts.getD x default by simp [List.getD, hx]] at hat
  rw [show ts[y] = ts.getD y default by simp [List.getD, hy]] at hat2
  rw [ht] at hat
  rw [hu] at hat2
  have hA := rin_turns op
  rw [hT] at hA
  have hO := fun vl2 w h => rop_any k vl2 ts w h (by omega) op x y hx hy ho
  clear ht hu
  have d0 : w.cell? ⟨bb, off + x * 5, none⟩ = some (.int .i64 t.k) := hat 0 _ rfl
  have d1 := hat 1 _ rfl
  have d2 := hat 2 _ rfl
  have d3 := hat 3 _ rfl
  have d4 := hat 4 _ rfl
  have e0 : w.cell? ⟨bb, off + y * 5, none⟩ = some (.int .i64 u.k) := hat2 0 _ rfl
  have e1 := hat2 1 _ rfl
  have e2 := hat2 2 _ rfl
  have e3 := hat2 3 _ rfl
  have e4 := hat2 4 _ rfl
  have c0 := one_cell h.hb
  have gx : (x : Int) < ts.length := by omega
  have gy : (y : Int) < ts.length := by omega
  have hDo := rdo_any op ho 0 0 (by omega) (by omega) w
  go_enter Tryz.func37, Tryz.ntmps37
  go_wp2_with fail
  refine hDo.mono ?_
  rintro r w1 ⟨rfl, b1⟩
  have hR1 := h.below b1
  have c1 := cell_below b1 c0
  have d0 := cell_below b1 d0
  have d1 := cell_below b1 d1
  have d2 := cell_below b1 d2
  have d3 := cell_below b1 d3
  have d4 := cell_below b1 d4
  have e0 := cell_below b1 e0
  have e1 := cell_below b1 e1
  have e2 := cell_below b1 e2
  have e3 := cell_below b1 e3
  have e4 := cell_below b1 e4
  have pc1 := cell_alloc0 c1 (.cells #[.int .i64 0, .int .u32 0, .int .i64 0, .int .i64 0, .int .i64 0] 68)
  have qc1 := cell_alloc0 pc1 (.cells #[.int .i64 0, .int .u32 0, .int .i64 0, .int .i64 0, .int .i64 0] 68)
  have pd0 := cell_alloc0 d0 (.cells #[.int .i64 0, .int .u32 0, .int .i64 0, .int .i64 0, .int .i64 0] 68)
  have qd0 := cell_alloc0 pd0 (.cells #[.int .i64 0, .int .u32 0, .int .i64 0, .int .i64 0, .int .i64 0] 68)
  have pd1 := cell_alloc0 d1 (.cells #[.int .i64 0, .int .u32 0, .int .i64 0, .int .i64 0, .int .i64 0] 68)
  have qd1 := cell_alloc0 pd1 (.cells #[.int .i64 0, .int .u32 0, .int .i64 0, .int .i64 0, .int .i64 0] 68)
  have pd2 := cell_alloc0 d2 (.cells #[.int .i64 0, .int .u32 0, .int .i64 0, .int .i64 0, .int .i64 0] 68)
  have qd2 := cell_alloc0 pd2 (.cells #[.int .i64 0, .int .u32 0, .int .i64 0, .int .i64 0, .int .i64 0] 68)
  have pd3 := cell_alloc0 d3 (.cells #[.int .i64 0, .int .u32 0, .int .i64 0, .int .i64 0, .int .i64 0] 68)
  have qd3 := cell_alloc0 pd3 (.cells #[.int .i64 0, .int .u32 0, .int .i64 0, .int .i64 0, .int .i64 0] 68)
  have pd4 := cell_alloc0 d4 (.cells #[.int .i64 0, .int .u32 0, .int .i64 0, .int .i64 0, .int .i64 0] 68)
  have qd4 := cell_alloc0 pd4 (.cells #[.int .i64 0, .int .u32 0, .int .i64 0, .int .i64 0, .int .i64 0] 68)
  have pe0 := cell_alloc0 e0 (.cells #[.int .i64 0, .int .u32 0, .int .i64 0, .int .i64 0, .int .i64 0] 68)
  have qe0 := cell_alloc0 pe0 (.cells #[.int .i64 0, .int .u32 0, .int .i64 0, .int .i64 0, .int .i64 0] 68)
  have pe1 := cell_alloc0 e1 (.cells #[.int .i64 0, .int .u32 0, .int .i64 0, .int .i64 0, .int .i64 0] 68)
  have qe1 := cell_alloc0 pe1 (.cells #[.int .i64 0, .int .u32 0, .int .i64 0, .int .i64 0, .int .i64 0] 68)
  have pe2 := cell_alloc0 e2 (.cells #[.int .i64 0, .int .u32 0, .int .i64 0, .int .i64 0, .int .i64 0] 68)
  have qe2 := cell_alloc0 pe2 (.cells #[.int .i64 0, .int .u32 0, .int .i64 0, .int .i64 0, .int .i64 0] 68)
  have pe3 := cell_alloc0 e3 (.cells #[.int .i64 0, .int .u32 0, .int .i64 0, .int .i64 0, .int .i64 0] 68)
  have qe3 := cell_alloc0 pe3 (.cells #[.int .i64 0, .int .u32 0, .int .i64 0, .int .i64 0, .int .i64 0] 68)
  have pe4 := cell_alloc0 e4 (.cells #[.int .i64 0, .int .u32 0, .int .i64 0, .int .i64 0, .int .i64 0] 68)
  have qe4 := cell_alloc0 pe4 (.cells #[.int .i64 0, .int .u32 0, .int .i64 0, .int .i64 0, .int .i64 0] 68)
  have r0c1 := cell_alloc0 (cell_alloc0 c1 (.cells #[.int .i64 0, .int .u32 0, .int .i64 0, .int .i64 0, .int .i64 0] 68)) (.cells #[.int .i64 t.k, .int .u32 t.v, .int .i64 t.op, .int .i64 t.a, .int .i64 t.b] 68)
  have r0d0 := cell_alloc0 (cell_alloc0 d0 (.cells #[.int .i64 0, .int .u32 0, .int .i64 0, .int .i64 0, .int .i64 0] 68)) (.cells #[.int .i64 t.k, .int .u32 t.v, .int .i64 t.op, .int .i64 t.a, .int .i64 t.b] 68)
  have r0d1 := cell_alloc0 (cell_alloc0 d1 (.cells #[.int .i64 0, .int .u32 0, .int .i64 0, .int .i64 0, .int .i64 0] 68)) (.cells #[.int .i64 t.k, .int .u32 t.v, .int .i64 t.op, .int .i64 t.a, .int .i64 t.b] 68)
  have r0d2 := cell_alloc0 (cell_alloc0 d2 (.cells #[.int .i64 0, .int .u32 0, .int .i64 0, .int .i64 0, .int .i64 0] 68)) (.cells #[.int .i64 t.k, .int .u32 t.v, .int .i64 t.op, .int .i64 t.a, .int .i64 t.b] 68)
  have r0d3 := cell_alloc0 (cell_alloc0 d3 (.cells #[.int .i64 0, .int .u32 0, .int .i64 0, .int .i64 0, .int .i64 0] 68)) (.cells #[.int .i64 t.k, .int .u32 t.v, .int .i64 t.op, .int .i64 t.a, .int .i64 t.b] 68)
  have r0d4 := cell_alloc0 (cell_alloc0 d4 (.cells #[.int .i64 0, .int .u32 0, .int .i64 0, .int .i64 0, .int .i64 0] 68)) (.cells #[.int .i64 t.k, .int .u32 t.v, .int .i64 t.op, .int .i64 t.a, .int .i64 t.b] 68)
  have r0e0 := cell_alloc0 (cell_alloc0 e0 (.cells #[.int .i64 0, .int .u32 0, .int .i64 0, .int .i64 0, .int .i64 0] 68)) (.cells #[.int .i64 t.k, .int .u32 t.v, .int .i64 t.op, .int .i64 t.a, .int .i64 t.b] 68)
  have r0e1 := cell_alloc0 (cell_alloc0 e1 (.cells #[.int .i64 0, .int .u32 0, .int .i64 0, .int .i64 0, .int .i64 0] 68)) (.cells #[.int .i64 t.k, .int .u32 t.v, .int .i64 t.op, .int .i64 t.a, .int .i64 t.b] 68)
  have r0e2 := cell_alloc0 (cell_alloc0 e2 (.cells #[.int .i64 0, .int .u32 0, .int .i64 0, .int .i64 0, .int .i64 0] 68)) (.cells #[.int .i64 t.k, .int .u32 t.v, .int .i64 t.op, .int .i64 t.a, .int .i64 t.b] 68)
  have r0e3 := cell_alloc0 (cell_alloc0 e3 (.cells #[.int .i64 0, .int .u32 0, .int .i64 0, .int .i64 0, .int .i64 0] 68)) (.cells #[.int .i64 t.k, .int .u32 t.v, .int .i64 t.op, .int .i64 t.a, .int .i64 t.b] 68)
  have r0e4 := cell_alloc0 (cell_alloc0 e4 (.cells #[.int .i64 0, .int .u32 0, .int .i64 0, .int .i64 0, .int .i64 0] 68)) (.cells #[.int .i64 t.k, .int .u32 t.v, .int .i64 t.op, .int .i64 t.a, .int .i64 t.b] 68)
  have r1c1 := cell_alloc0 (cell_alloc0 c1 (.cells #[.int .i64 t.k, .int .u32 t.v, .int .i64 t.op, .int .i64 t.a, .int .i64 t.b] 68)) (.cells #[.int .i64 0, .int .u32 0, .int .i64 0, .int .i64 0, .int .i64 0] 68)
  have r1d0 := cell_alloc0 (cell_alloc0 d0 (.cells #[.int .i64 t.k, .int .u32 t.v, .int .i64 t.op, .int .i64 t.a, .int .i64 t.b] 68)) (.cells #[.int .i64 0, .int .u32 0, .int .i64 0, .int .i64 0, .int .i64 0] 68)
  have r1d1 := cell_alloc0 (cell_alloc0 d1 (.cells #[.int .i64 t.k, .int .u32 t.v, .int .i64 t.op, .int .i64 t.a, .int .i64 t.b] 68)) (.cells #[.int .i64 0, .int .u32 0, .int .i64 0, .int .i64 0, .int .i64 0] 68)
  have r1d2 := cell_alloc0 (cell_alloc0 d2 (.cells #[.int .i64 t.k, .int .u32 t.v, .int .i64 t.op, .int .i64 t.a, .int .i64 t.b] 68)) (.cells #[.int .i64 0, .int .u32 0, .int .i64 0, .int .i64 0, .int .i64 0] 68)
  have r1d3 := cell_alloc0 (cell_alloc0 d3 (.cells #[.int .i64 t.k, .int .u32 t.v, .int .i64 t.op, .int .i64 t.a, .int .i64 t.b] 68)) (.cells #[.int .i64 0, .int .u32 0, .int .i64 0, .int .i64 0, .int .i64 0] 68)
  have r1d4 := cell_alloc0 (cell_alloc0 d4 (.cells #[.int .i64 t.k, .int .u32 t.v, .int .i64 t.op, .int .i64 t.a, .int .i64 t.b] 68)) (.cells #[.int .i64 0, .int .u32 0, .int .i64 0, .int .i64 0, .int .i64 0] 68)
  have r1e0 := cell_alloc0 (cell_alloc0 e0 (.cells #[.int .i64 t.k, .int .u32 t.v, .int .i64 t.op, .int .i64 t.a, .int .i64 t.b] 68)) (.cells #[.int .i64 0, .int .u32 0, .int .i64 0, .int .i64 0, .int .i64 0] 68)
  have r1e1 := cell_alloc0 (cell_alloc0 e1 (.cells #[.int .i64 t.k, .int .u32 t.v, .int .i64 t.op, .int .i64 t.a, .int .i64 t.b] 68)) (.cells #[.int .i64 0, .int .u32 0, .int .i64 0, .int .i64 0, .int .i64 0] 68)
  have r1e2 := cell_alloc0 (cell_alloc0 e2 (.cells #[.int .i64 t.k, .int .u32 t.v, .int .i64 t.op, .int .i64 t.a, .int .i64 t.b] 68)) (.cells #[.int .i64 0, .int .u32 0, .int .i64 0, .int .i64 0, .int .i64 0] 68)
  have r1e3 := cell_alloc0 (cell_alloc0 e3 (.cells #[.int .i64 t.k, .int .u32 t.v, .int .i64 t.op, .int .i64 t.a, .int .i64 t.b] 68)) (.cells #[.int .i64 0, .int .u32 0, .int .i64 0, .int .i64 0, .int .i64 0] 68)
  have r1e4 := cell_alloc0 (cell_alloc0 e4 (.cells #[.int .i64 t.k, .int .u32 t.v, .int .i64 t.op, .int .i64 t.a, .int .i64 t.b] 68)) (.cells #[.int .i64 0, .int .u32 0, .int .i64 0, .int .i64 0, .int .i64 0] 68)
  have r2c1 := cell_alloc0 (cell_alloc0 c1 (.cells #[.int .i64 0, .int .u32 0, .int .i64 0, .int .i64 0, .int .i64 0] 68)) (.cells #[.int .i64 u.k, .int .u32 u.v, .int .i64 u.op, .int .i64 u.a, .int .i64 u.b] 68)
  have r2d0 := cell_alloc0 (cell_alloc0 d0 (.cells #[.int .i64 0, .int .u32 0, .int .i64 0, .int .i64 0, .int .i64 0] 68)) (.cells #[.int .i64 u.k, .int .u32 u.v, .int .i64 u.op, .int .i64 u.a, .int .i64 u.b] 68)
  have r2d1 := cell_alloc0 (cell_alloc0 d1 (.cells #[.int .i64 0, .int .u32 0, .int .i64 0, .int .i64 0, .int .i64 0] 68)) (.cells #[.int .i64 u.k, .int .u32 u.v, .int .i64 u.op, .int .i64 u.a, .int .i64 u.b] 68)
  have r2d2 := cell_alloc0 (cell_alloc0 d2 (.cells #[.int .i64 0, .int .u32 0, .int .i64 0, .int .i64 0, .int .i64 0] 68)) (.cells #[.int .i64 u.k, .int .u32 u.v, .int .i64 u.op, .int .i64 u.a, .int .i64 u.b] 68)
  have r2d3 := cell_alloc0 (cell_alloc0 d3 (.cells #[.int .i64 0, .int .u32 0, .int .i64 0, .int .i64 0, .int .i64 0] 68)) (.cells #[.int .i64 u.k, .int .u32 u.v, .int .i64 u.op, .int .i64 u.a, .int .i64 u.b] 68)
  have r2d4 := cell_alloc0 (cell_alloc0 d4 (.cells #[.int .i64 0, .int .u32 0, .int .i64 0, .int .i64 0, .int .i64 0] 68)) (.cells #[.int .i64 u.k, .int .u32 u.v, .int .i64 u.op, .int .i64 u.a, .int .i64 u.b] 68)
  have r2e0 := cell_alloc0 (cell_alloc0 e0 (.cells #[.int .i64 0, .int .u32 0, .int .i64 0, .int .i64 0, .int .i64 0] 68)) (.cells #[.int .i64 u.k, .int .u32 u.v, .int .i64 u.op, .int .i64 u.a, .int .i64 u.b] 68)
  have r2e1 := cell_alloc0 (cell_alloc0 e1 (.cells #[.int .i64 0, .int .u32 0, .int .i64 0, .int .i64 0, .int .i64 0] 68)) (.cells #[.int .i64 u.k, .int .u32 u.v, .int .i64 u.op, .int .i64 u.a, .int .i64 u.b] 68)
  have r2e2 := cell_alloc0 (cell_alloc0 e2 (.cells #[.int .i64 0, .int .u32 0, .int .i64 0, .int .i64 0, .int .i64 0] 68)) (.cells #[.int .i64 u.k, .int .u32 u.v, .int .i64 u.op, .int .i64 u.a, .int .i64 u.b] 68)
  have r2e3 := cell_alloc0 (cell_alloc0 e3 (.cells #[.int .i64 0, .int .u32 0, .int .i64 0, .int .i64 0, .int .i64 0] 68)) (.cells #[.int .i64 u.k, .int .u32 u.v, .int .i64 u.op, .int .i64 u.a, .int .i64 u.b] 68)
  have r2e4 := cell_alloc0 (cell_alloc0 e4 (.cells #[.int .i64 0, .int .u32 0, .int .i64 0, .int .i64 0, .int .i64 0] 68)) (.cells #[.int .i64 u.k, .int .u32 u.v, .int .i64 u.op, .int .i64 u.a, .int .i64 u.b] 68)
  have r3c1 := cell_alloc0 (cell_alloc0 c1 (.cells #[.int .i64 u.k, .int .u32 u.v, .int .i64 u.op, .int .i64 u.a, .int .i64 u.b] 68)) (.cells #[.int .i64 0, .int .u32 0, .int .i64 0, .int .i64 0, .int .i64 0] 68)
  have r3d0 := cell_alloc0 (cell_alloc0 d0 (.cells #[.int .i64 u.k, .int .u32 u.v, .int .i64 u.op, .int .i64 u.a, .int .i64 u.b] 68)) (.cells #[.int .i64 0, .int .u32 0, .int .i64 0, .int .i64 0, .int .i64 0] 68)
  have r3d1 := cell_alloc0 (cell_alloc0 d1 (.cells #[.int .i64 u.k, .int .u32 u.v, .int .i64 u.op, .int .i64 u.a, .int .i64 u.b] 68)) (.cells #[.int .i64 0, .int .u32 0, .int .i64 0, .int .i64 0, .int .i64 0] 68)
  have r3d2 := cell_alloc0 (cell_alloc0 d2 (.cells #[.int .i64 u.k, .int .u32 u.v, .int .i64 u.op, .int .i64 u.a, .int .i64 u.b] 68)) (.cells #[.int .i64 0, .int .u32 0, .int .i64 0, .int .i64 0, .int .i64 0] 68)
  have r3d3 := cell_alloc0 (cell_alloc0 d3 (.cells #[.int .i64 u.k, .int .u32 u.v, .int .i64 u.op, .int .i64 u.a, .int .i64 u.b] 68)) (.cells #[.int .i64 0, .int .u32 0, .int .i64 0, .int .i64 0, .int .i64 0] 68)
  have r3d4 := cell_alloc0 (cell_alloc0 d4 (.cells #[.int .i64 u.k, .int .u32 u.v, .int .i64 u.op, .int .i64 u.a, .int .i64 u.b] 68)) (.cells #[.int .i64 0, .int .u32 0, .int .i64 0, .int .i64 0, .int .i64 0] 68)
  have r3e0 := cell_alloc0 (cell_alloc0 e0 (.cells #[.int .i64 u.k, .int .u32 u.v, .int .i64 u.op, .int .i64 u.a, .int .i64 u.b] 68)) (.cells #[.int .i64 0, .int .u32 0, .int .i64 0, .int .i64 0, .int .i64 0] 68)
  have r3e1 := cell_alloc0 (cell_alloc0 e1 (.cells #[.int .i64 u.k, .int .u32 u.v, .int .i64 u.op, .int .i64 u.a, .int .i64 u.b] 68)) (.cells #[.int .i64 0, .int .u32 0, .int .i64 0, .int .i64 0, .int .i64 0] 68)
  have r3e2 := cell_alloc0 (cell_alloc0 e2 (.cells #[.int .i64 u.k, .int .u32 u.v, .int .i64 u.op, .int .i64 u.a, .int .i64 u.b] 68)) (.cells #[.int .i64 0, .int .u32 0, .int .i64 0, .int .i64 0, .int .i64 0] 68)
  have r3e3 := cell_alloc0 (cell_alloc0 e3 (.cells #[.int .i64 u.k, .int .u32 u.v, .int .i64 u.op, .int .i64 u.a, .int .i64 u.b] 68)) (.cells #[.int .i64 0, .int .u32 0, .int .i64 0, .int .i64 0, .int .i64 0] 68)
  have r3e4 := cell_alloc0 (cell_alloc0 e4 (.cells #[.int .i64 u.k, .int .u32 u.v, .int .i64 u.op, .int .i64 u.a, .int .i64 u.b] 68)) (.cells #[.int .i64 0, .int .u32 0, .int .i64 0, .int .i64 0, .int .i64 0] 68)
  clear c0 hG hM hat hat2 hDo h
  go_upto_region 6 with fail
  go_cut [12, 13] from 50 to 63 (fun p q wx => ∃ ix iy : Nat, p = .pointer (some ⟨ix, 0, none⟩) ∧ q = .pointer (some ⟨iy, 0, none⟩) ∧ wx.heap[ix]? = some (.cells #[.int .i64 t.k, .int .u32 t.v, .int .i64 t.op, .int .i64 t.a, .int .i64 t.b] 68 (0, 0)) ∧ wx.heap[iy]? = some (.cells #[.int .i64 u.k, .int .u32 u.v, .int .i64 u.op, .int .i64 u.a, .int .i64 u.b] 68 (0, 0)) ∧ w1.heap.size ≤ ix ∧ w1.heap.size ≤ iy ∧ Below w1.heap.size w1 wx)
  case first =>
    go_region
    all_goals (go_wp2_with fail; go_meet)
    · exact ⟨w1.heap.size, w1.heap.size + 1, rfl, rfl, blk_alloc (blk_new w1 _) _, blk_top (by simp), Nat.le_refl _, by omega, (below_al (below_al (Below.refl _ _) _) _).drew⟩
    · exact ⟨w1.heap.size + 1, w1.heap.size, rfl, rfl, blk_top (by simp), blk_alloc (blk_new w1 _) _, by omega, Nat.le_refl _, (below_al (below_al (Below.refl _ _) _) _).drew⟩
  case rest =>
    obtain ⟨ix, iy, rfl, rfl, hix, hiy, lx, ly, bc⟩ := hcut
    have hR := hR1.below bc
    have bw := below_then b1 bc
    obtain ⟨x0, x1, x2, x3, x4⟩ := five_cells hix
    obtain ⟨y0, y1, y2, y3, y4⟩ := five_cells hiy
    have hR7 := hR.alloc (.cells #[.int .i64 27, .int .i64 36, .int .i64 35, .int .i64 32, .int .i64 37, .int .i64 38, .int .i64 40] 3)
    have bw7 := below_al bw (.cells #[.int .i64 27, .int .i64 36, .int .i64 35, .int .i64 32, .int .i64 37, .int .i64 38, .int .i64 40] 3)
    have xa0 := cell_alloc0 x0 (.cells #[.int .i64 27, .int .i64 36, .int .i64 35, .int .i64 32, .int .i64 37, .int .i64 38, .int .i64 40] 3)
    have xa1 := cell_alloc0 x1 (.cells #[.int .i64 27, .int .i64 36, .int .i64 35, .int .i64 32, .int .i64 37, .int .i64 38, .int .i64 40] 3)
    have ya0 := cell_alloc0 y0 (.cells #[.int .i64 27, .int .i64 36, .int .i64 35, .int .i64 32, .int .i64 37, .int .i64 38, .int .i64 40] 3)
    have ya1 := cell_alloc0 y1 (.cells #[.int .i64 27, .int .i64 36, .int .i64 35, .int .i64 32, .int .i64 37, .int .i64 38, .int .i64 40] 3)
    clear hix hiy lx ly bc hR1 b1
    go_wp2_with (first
      | (go_at_call 64; (with_reducible refine (hA _ _ (by simp)).mono ?_); rintro r w' ⟨rfl, rfl⟩)
      | fail)
    refine (hO _ _ hR7).mono ?_
    rintro r w6 ⟨rfl, h6⟩
    go_wp2_with fail
    go_ret2
    exact ⟨rfl, RAdd.pre bw7 h6⟩
set_option maxRecDepth 100000 in
set_option maxHeartbeats 4000000 in
theorem rop_F3n (f : Nat) (hM : RMadeSpec f) (k : Nat) (vl : Value) (ts : List Term) (op x y : Nat) (w : World) (h : RefAt w k vl ts) (hG : Good ts) (ho : (doW op 0 0).isSome = true) (hx : x < ts.length) (hy : y < ts.length) (hl : ts.length + (f + 1) < 1000000000000) (t u : Term) (ht : ts.getD x default = t) (hu : ts.getD y default = u) (kx : ((t.k : Int) == 0) = false) (ky : ((u.k : Int) == 0) = false) (kyn : ((u.k : Int) != 0) = true) (hT : turns op = true) (n28 : ((op : Int) == 28) = false) (hlt : ((y : Int) < x) = False) (hne : ((x : Int) == y) = false) :
    Calls Tryz.prog 37 #[.pointer (some ⟨k, 0, none⟩), .int .i64 op, .int .i64 x, .int .i64 y] w (RPost k vl w (ins ts (opT op x y), pos ts (opT op x y))) := by
  obtain ⟨A, c, rfl, q1, q2, q3⟩ := (h.l.toSl encT 0).open_
  obtain ⟨bb, off, rfl, hat, hbl⟩ := (h.l.toSl encT 0).at_ hx
  obtain ⟨bb2, off2, eA, hat2, _⟩ := (h.l.toSl encT 0).at_ hy
  simp only [Option.some.injEq, Addr.mk.injEq, and_true] at eA
  obtain ⟨rfl, rfl⟩ := eA
  rw [show ts[x] = ts.getD x default by simp [List.getD, hx]] at hat
  rw [show ts[y] = ts.getD y default by simp [List.getD, hy]] at hat2
  rw [ht] at hat
  rw [hu] at hat2
  have hA := rin_turns op
  rw [hT] at hA
  have hO := fun vl2 w h => rop_any k vl2 ts w h (by omega) op x y hx hy ho
  clear ht hu
  have d0 : w.cell? ⟨bb, off + x * 5, none⟩ = some (.int .i64 t.k) := hat 0 _ rfl
  have d1 := hat 1 _ rfl
  have d2 := hat 2 _ rfl
  have d3 := hat 3 _ rfl
  have d4 := hat 4 _ rfl
  have e0 : w.cell? ⟨bb, off + y * 5, none⟩ = some (.int .i64 u.k) := hat2 0 _ rfl
  have e1 := hat2 1 _ rfl
  have e2 := hat2 2 _ rfl
  have e3 := hat2 3 _ rfl
  have e4 := hat2 4 _ rfl
  have c0 := one_cell h.hb
  have gx : (x : Int) < ts.length := by omega
  have gy : (y : Int) < ts.length := by omega
  have hDo := rdo_any op ho 0 0 (by omega) (by omega) w
  go_enter Tryz.func37, Tryz.ntmps37
  go_wp2_with fail
  refine hDo.mono ?_
  rintro r w1 ⟨rfl, b1⟩
  have hR1 := h.below b1
  have c1 := cell_below b1 c0
  have d0 := cell_below b1 d0
  have d1 := cell_below b1 d1
  have d2 := cell_below b1 d2
  have d3 := cell_below b1 d3
  have d4 := cell_below b1 d4
  have e0 := cell_below b1 e0
  have e1 := cell_below b1 e1
  have e2 := cell_below b1 e2
  have e3 := cell_below b1 e3
  have e4 := cell_below b1 e4
  have pc1 := cell_alloc0 c1 (.cells #[.int .i64 0, .int .u32 0, .int .i64 0, .int .i64 0, .int .i64 0] 68)
  have qc1 := cell_alloc0 pc1 (.cells #[.int .i64 0, .int .u32 0, .int .i64 0, .int .i64 0, .int .i64 0] 68)
  have pd0 := cell_alloc0 d0 (.cells #[.int .i64 0, .int .u32 0, .int .i64 0, .int .i64 0, .int .i64 0] 68)
  have qd0 := cell_alloc0 pd0 (.cells #[.int .i64 0, .int .u32 0, .int .i64 0, .int .i64 0, .int .i64 0] 68)
  have pd1 := cell_alloc0 d1 (.cells #[.int .i64 0, .int .u32 0, .int .i64 0, .int .i64 0, .int .i64 0] 68)
  have qd1 := cell_alloc0 pd1 (.cells #[.int .i64 0, .int .u32 0, .int .i64 0, .int .i64 0, .int .i64 0] 68)
  have pd2 := cell_alloc0 d2 (.cells #[.int .i64 0, .int .u32 0, .int .i64 0, .int .i64 0, .int .i64 0] 68)
  have qd2 := cell_alloc0 pd2 (.cells #[.int .i64 0, .int .u32 0, .int .i64 0, .int .i64 0, .int .i64 0] 68)
  have pd3 := cell_alloc0 d3 (.cells #[.int .i64 0, .int .u32 0, .int .i64 0, .int .i64 0, .int .i64 0] 68)
  have qd3 := cell_alloc0 pd3 (.cells #[.int .i64 0, .int .u32 0, .int .i64 0, .int .i64 0, .int .i64 0] 68)
  have pd4 := cell_alloc0 d4 (.cells #[.int .i64 0, .int .u32 0, .int .i64 0, .int .i64 0, .int .i64 0] 68)
  have qd4 := cell_alloc0 pd4 (.cells #[.int .i64 0, .int .u32 0, .int .i64 0, .int .i64 0, .int .i64 0] 68)
  have pe0 := cell_alloc0 e0 (.cells #[.int .i64 0, .int .u32 0, .int .i64 0, .int .i64 0, .int .i64 0] 68)
  have qe0 := cell_alloc0 pe0 (.cells #[.int .i64 0, .int .u32 0, .int .i64 0, .int .i64 0, .int .i64 0] 68)
  have pe1 := cell_alloc0 e1 (.cells #[.int .i64 0, .int .u32 0, .int .i64 0, .int .i64 0, .int .i64 0] 68)
  have qe1 := cell_alloc0 pe1 (.cells #[.int .i64 0, .int .u32 0, .int .i64 0, .int .i64 0, .int .i64 0] 68)
  have pe2 := cell_alloc0 e2 (.cells #[.int .i64 0, .int .u32 0, .int .i64 0, .int .i64 0, .int .i64 0] 68)
  have qe2 := cell_alloc0 pe2 (.cells #[.int .i64 0, .int .u32 0, .int .i64 0, .int .i64 0, .int .i64 0] 68)
  have pe3 := cell_alloc0 e3 (.cells #[.int .i64 0, .int .u32 0, .int .i64 0, .int .i64 0, .int .i64 0] 68)
  have qe3 := cell_alloc0 pe3 (.cells #[.int .i64 0, .int .u32 0, .int .i64 0, .int .i64 0, .int .i64 0] 68)
  have pe4 := cell_alloc0 e4 (.cells #[.int .i64 0, .int .u32 0, .int .i64 0, .int .i64 0, .int .i64 0] 68)
  have qe4 := cell_alloc0 pe4 (.cells #[.int .i64 0, .int .u32 0, .int .i64 0, .int .i64 0, .int .i64 0] 68)
  have r0c1 := cell_alloc0 (cell_alloc0 c1 (.cells #[.int .i64 0, .int .u32 0, .int .i64 0, .int .i64 0, .int .i64 0] 68)) (.cells #[.int .i64 t.k, .int .u32 t.v, .int .i64 t.op, .int .i64 t.a, .int .i64 t.b] 68)
  have r0d0 := cell_alloc0 (cell_alloc0 d0 (.cells #[.int .i64 0, .int .u32 0, .int .i64 0, .int .i64 0, .int .i64 0] 68)) (.cells #[.int .i64 t.k, .int .u32 t.v, .int .i64 t.op, .int .i64 t.a, .int .i64 t.b] 68)
  have r0d1 := cell_alloc0 (cell_alloc0 d1 (.cells #[.int .i64 0, .int .u32 0, .int .i64 0, .int .i64 0, .int .i64 0] 68)) (.cells #[.int .i64 t.k, .int .u32 t.v, .int .i64 t.op, .int .i64 t.a, .int .i64 t.b] 68)
  have r0d2 := cell_alloc0 (cell_alloc0 d2 (.cells #[.int .i64 0, .int .u32 0, .int .i64 0, .int .i64 0, .int .i64 0] 68)) (.cells #[.int .i64 t.k, .int .u32 t.v, .int .i64 t.op, .int .i64 t.a, .int .i64 t.b] 68)
  have r0d3 := cell_alloc0 (cell_alloc0 d3 (.cells #[.int .i64 0, .int .u32 0, .int .i64 0, .int .i64 0, .int .i64 0] 68)) (.cells #[.int .i64 t.k, .int .u32 t.v, .int .i64 t.op, .int .i64 t.a, .int .i64 t.b] 68)
  have r0d4 := cell_alloc0 (cell_alloc0 d4 (.cells #[.int .i64 0, .int .u32 0, .int .i64 0, .int .i64 0, .int .i64 0] 68)) (.cells #[.int .i64 t.k, .int .u32 t.v, .int .i64 t.op, .int .i64 t.a, .int .i64 t.b] 68)
  have r0e0 := cell_alloc0 (cell_alloc0 e0 (.cells #[.int .i64 0, .int .u32 0, .int .i64 0, .int .i64 0, .int .i64 0] 68)) (.cells #[.int .i64 t.k, .int .u32 t.v, .int .i64 t.op, .int .i64 t.a, .int .i64 t.b] 68)
  have r0e1 := cell_alloc0 (cell_alloc0 e1 (.cells #[.int .i64 0, .int .u32 0, .int .i64 0, .int .i64 0, .int .i64 0] 68)) (.cells #[.int .i64 t.k, .int .u32 t.v, .int .i64 t.op, .int .i64 t.a, .int .i64 t.b] 68)
  have r0e2 := cell_alloc0 (cell_alloc0 e2 (.cells #[.int .i64 0, .int .u32 0, .int .i64 0, .int .i64 0, .int .i64 0] 68)) (.cells #[.int .i64 t.k, .int .u32 t.v, .int .i64 t.op, .int .i64 t.a, .int .i64 t.b] 68)
  have r0e3 := cell_alloc0 (cell_alloc0 e3 (.cells #[.int .i64 0, .int .u32 0, .int .i64 0, .int .i64 0, .int .i64 0] 68)) (.cells #[.int .i64 t.k, .int .u32 t.v, .int .i64 t.op, .int .i64 t.a, .int .i64 t.b] 68)
  have r0e4 := cell_alloc0 (cell_alloc0 e4 (.cells #[.int .i64 0, .int .u32 0, .int .i64 0, .int .i64 0, .int .i64 0] 68)) (.cells #[.int .i64 t.k, .int .u32 t.v, .int .i64 t.op, .int .i64 t.a, .int .i64 t.b] 68)
  have r1c1 := cell_alloc0 (cell_alloc0 c1 (.cells #[.int .i64 t.k, .int .u32 t.v, .int .i64 t.op, .int .i64 t.a, .int .i64 t.b] 68)) (.cells #[.int .i64 0, .int .u32 0, .int .i64 0, .int .i64 0, .int .i64 0] 68)
  have r1d0 := cell_alloc0 (cell_alloc0 d0 (.cells #[.int .i64 t.k, .int .u32 t.v, .int .i64 t.op, .int .i64 t.a, .int .i64 t.b] 68)) (.cells #[.int .i64 0, .int .u32 0, .int .i64 0, .int .i64 0, .int .i64 0] 68)
  have r1d1 := cell_alloc0 (cell_alloc0 d1 (.cells #[.int .i64 t.k, .int .u32 t.v, .int .i64 t.op, .int .i64 t.a, .int .i64 t.b] 68)) (.cells #[.int .i64 0, .int .u32 0, .int .i64 0, .int .i64 0, .int .i64 0] 68)
  have r1d2 := cell_alloc0 (cell_alloc0 d2 (.cells #[.int .i64 t.k, .int .u32 t.v, .int .i64 t.op, .int .i64 t.a, .int .i64 t.b] 68)) (.cells #[.int .i64 0, .int .u32 0, .int .i64 0, .int .i64 0, .int .i64 0] 68)
  have r1d3 := cell_alloc0 (cell_alloc0 d3 (.cells #[.int .i64 t.k, .int .u32 t.v, .int .i64 t.op, .int .i64 t.a, .int .i64 t.b] 68)) (.cells #[.int .i64 0, .int .u32 0, .int .i64 0, .int .i64 0, .int .i64 0] 68)
  have r1d4 := cell_alloc0 (cell_alloc0 d4 (.cells #[.int .i64 t.k, .int .u32 t.v, .int .i64 t.op, .int .i64 t.a, .int .i64 t.b] 68)) (.cells #[.int .i64 0, .int .u32 0, .int .i64 0, .int .i64 0, .int .i64 0] 68)
  have r1e0 := cell_alloc0 (cell_alloc0 e0 (.cells #[.int .i64 t.k, .int .u32 t.v, .int .i64 t.op, .int .i64 t.a, .int .i64 t.b] 68)) (.cells #[.int .i64 0, .int .u32 0, .int .i64 0, .int .i64 0, .int .i64 0] 68)
  have r1e1 := cell_alloc0 (cell_alloc0 e1 (.cells #[.int .i64 t.k, .int .u32 t.v, .int .i64 t.op, .int .i64 t.a, .int .i64 t.b] 68)) (.cells #[.int .i64 0, .int .u32 0, .int .i64 0, .int .i64 0, .int .i64 0] 68)
  have r1e2 := cell_alloc0 (cell_alloc0 e2 (.cells #[.int .i64 t.k, .int .u32 t.v, .int .i64 t.op, .int .i64 t.a, .int .i64 t.b] 68)) (.cells #[.int .i64 0, .int .u32 0, .int .i64 0, .int .i64 0, .int .i64 0] 68)
  have r1e3 := cell_alloc0 (cell_alloc0 e3 (.cells #[.int .i64 t.k, .int .u32 t.v, .int .i64 t.op, .int .i64 t.a, .int .i64 t.b] 68)) (.cells #[.int .i64 0, .int .u32 0, .int .i64 0, .int .i64 0, .int .i64 0] 68)
  have r1e4 := cell_alloc0 (cell_alloc0 e4 (.cells #[.int .i64 t.k, .int .u32 t.v, .int .i64 t.op, .int .i64 t.a, .int .i64 t.b] 68)) (.cells #[.int .i64 0, .int .u32 0, .int .i64 0, .int .i64 0, .int .i64 0] 68)
  have r2c1 := cell_alloc0 (cell_alloc0 c1 (.cells #[.int .i64 0, .int .u32 0, .int .i64 0, .int .i64 0, .int .i64 0] 68)) (.cells #[.int .i64 u.k, .int .u32 u.v, .int .i64 u.op, .int .i64 u.a, .int .i64 u.b] 68)
  have r2d0 := cell_alloc0 (cell_alloc0 d0 (.cells #[.int .i64 0, .int .u32 0, .int .i64 0, .int .i64 0, .int .i64 0] 68)) (.cells #[.int .i64 u.k, .int .u32 u.v, .int .i64 u.op, .int .i64 u.a, .int .i64 u.b] 68)
  have r2d1 := cell_alloc0 (cell_alloc0 d1 (.cells #[.int .i64 0, .int .u32 0, .int .i64 0, .int .i64 0, .int .i64 0] 68)) (.cells #[.int .i64 u.k, .int .u32 u.v, .int .i64 u.op, .int .i64 u.a, .int .i64 u.b] 68)
  have r2d2 := cell_alloc0 (cell_alloc0 d2 (.cells #[.int .i64 0, .int .u32 0, .int .i64 0, .int .i64 0, .int .i64 0] 68)) (.cells #[.int .i64 u.k, .int .u32 u.v, .int .i64 u.op, .int .i64 u.a, .int .i64 u.b] 68)
  have r2d3 := cell_alloc0 (cell_alloc0 d3 (.cells #[.int .i64 0, .int .u32 0, .int .i64 0, .int .i64 0, .int .i64 0] 68)) (.cells #[.int .i64 u.k, .int .u32 u.v, .int .i64 u.op, .int .i64 u.a, .int .i64 u.b] 68)
  have r2d4 := cell_alloc0 (cell_alloc0 d4 (.cells #[.int .i64 0, .int .u32 0, .int .i64 0, .int .i64 0, .int .i64 0] 68)) (.cells #[.int .i64 u.k, .int .u32 u.v, .int .i64 u.op, .int .i64 u.a, .int .i64 u.b] 68)
  have r2e0 := cell_alloc0 (cell_alloc0 e0 (.cells #[.int .i64 0, .int .u32 0, .int .i64 0, .int .i64 0, .int .i64 0] 68)) (.cells #[.int .i64 u.k, .int .u32 u.v, .int .i64 u.op, .int .i64 u.a, .int .i64 u.b] 68)
  have r2e1 := cell_alloc0 (cell_alloc0 e1 (.cells #[.int .i64 0, .int .u32 0, .int .i64 0, .int .i64 0, .int .i64 0] 68)) (.cells #[.int .i64 u.k, .int .u32 u.v, .int .i64 u.op, .int .i64 u.a, .int .i64 u.b] 68)
  have r2e2 := cell_alloc0 (cell_alloc0 e2 (.cells #[.int .i64 0, .int .u32 0, .int .i64 0, .int .i64 0, .int .i64 0] 68)) (.cells #[.int .i64 u.k, .int .u32 u.v, .int .i64 u.op, .int .i64 u.a, .int .i64 u.b] 68)
  have r2e3 := cell_alloc0 (cell_alloc0 e3 (.cells #[.int .i64 0, .int .u32 0, .int .i64 0, .int .i64 0, .int .i64 0] 68)) (.cells #[.int .i64 u.k, .int .u32 u.v, .int .i64 u.op, .int .i64 u.a, .int .i64 u.b] 68)
  have r2e4 := cell_alloc0 (cell_alloc0 e4 (.cells #[.int .i64 0, .int .u32 0, .int .i64 0, .int .i64 0, .int .i64 0] 68)) (.cells #[.int .i64 u.k, .int .u32 u.v, .int .i64 u.op, .int .i64 u.a, .int .i64 u.b] 68)
  have r3c1 := cell_alloc0 (cell_alloc0 c1 (.cells #[.int .i64 u.k, .int .u32 u.v, .int .i64 u.op, .int .i64 u.a, .int .i64 u.b] 68)) (.cells #[.int .i64 0, .int .u32 0, .int .i64 0, .int .i64 0, .int .i64 0] 68)
  have r3d0 := cell_alloc0 (cell_alloc0 d0 (.cells #[.int .i64 u.k, .int .u32 u.v, .int .i64 u.op, .int .i64 u.a, .int .i64 u.b] 68)) (.cells #[.int .i64 0, .int .u32 0, .int .i64 0, .int .i64 0, .int .i64 0] 68)
  have r3d1 := cell_alloc0 (cell_alloc0 d1 (.cells #[.int .i64 u.k, .int .u32 u.v, .int .i64 u.op, .int .i64 u.a, .int .i64 u.b] 68)) (.cells #[.int .i64 0, .int .u32 0, .int .i64 0, .int .i64 0, .int .i64 0] 68)
  have r3d2 := cell_alloc0 (cell_alloc0 d2 (.cells #[.int .i64 u.k, .int .u32 u.v, .int .i64 u.op, .int .i64 u.a, .int .i64 u.b] 68)) (.cells #[.int .i64 0, .int .u32 0, .int .i64 0, .int .i64 0, .int .i64 0] 68)
  have r3d3 := cell_alloc0 (cell_alloc0 d3 (.cells #[.int .i64 u.k, .int .u32 u.v, .int .i64 u.op, .int .i64 u.a, .int .i64 u.b] 68)) (.cells #[.int .i64 0, .int .u32 0, .int .i64 0, .int .i64 0, .int .i64 0] 68)
  have r3d4 := cell_alloc0 (cell_alloc0 d4 (.cells #[.int .i64 u.k, .int .u32 u.v, .int .i64 u.op, .int .i64 u.a, .int .i64 u.b] 68)) (.cells #[.int .i64 0, .int .u32 0, .int .i64 0, .int .i64 0, .int .i64 0] 68)
  have r3e0 := cell_alloc0 (cell_alloc0 e0 (.cells #[.int .i64 u.k, .int .u32 u.v, .int .i64 u.op, .int .i64 u.a, .int .i64 u.b] 68)) (.cells #[.int .i64 0, .int .u32 0, .int .i64 0, .int .i64 0, .int .i64 0] 68)
  have r3e1 := cell_alloc0 (cell_alloc0 e1 (.cells #[.int .i64 u.k, .int .u32 u.v, .int .i64 u.op, .int .i64 u.a, .int .i64 u.b] 68)) (.cells #[.int .i64 0, .int .u32 0, .int .i64 0, .int .i64 0, .int .i64 0] 68)
  have r3e2 := cell_alloc0 (cell_alloc0 e2 (.cells #[.int .i64 u.k, .int .u32 u.v, .int .i64 u.op, .int .i64 u.a, .int .i64 u.b] 68)) (.cells #[.int .i64 0, .int .u32 0, .int .i64 0, .int .i64 0, .int .i64 0] 68)
  have r3e3 := cell_alloc0 (cell_alloc0 e3 (.cells #[.int .i64 u.k, .int .u32 u.v, .int .i64 u.op, .int .i64 u.a, .int .i64 u.b] 68)) (.cells #[.int .i64 0, .int .u32 0, .int .i64 0, .int .i64 0, .int .i64 0] 68)
  have r3e4 := cell_alloc0 (cell_alloc0 e4 (.cells #[.int .i64 u.k, .int .u32 u.v, .int .i64 u.op, .int .i64 u.a, .int .i64 u.b] 68)) (.cells #[.int .i64 0, .int .u32 0, .int .i64 0, .int .i64 0, .int .i64 0] 68)
  clear c0 hG hM hat hat2 hDo h
  go_upto_region 6 with fail
  go_cut [12, 13] from 50 to 63 (fun p q wx => ∃ ix iy : Nat, p = .pointer (some ⟨ix, 0, none⟩) ∧ q = .pointer (some ⟨iy, 0, none⟩) ∧ wx.heap[ix]? = some (.cells #[.int .i64 t.k, .int .u32 t.v, .int .i64 t.op, .int .i64 t.a, .int .i64 t.b] 68 (0, 0)) ∧ wx.heap[iy]? = some (.cells #[.int .i64 u.k, .int .u32 u.v, .int .i64 u.op, .int .i64 u.a, .int .i64 u.b] 68 (0, 0)) ∧ w1.heap.size ≤ ix ∧ w1.heap.size ≤ iy ∧ Below w1.heap.size w1 wx)
  case first =>
    go_region
    all_goals (go_wp2_with fail; go_meet)
    · exact ⟨w1.heap.size, w1.heap.size + 1, rfl, rfl, blk_alloc (blk_new w1 _) _, blk_top (by simp), Nat.le_refl _, by omega, (below_al (below_al (Below.refl _ _) _) _).drew⟩
    · exact ⟨w1.heap.size + 1, w1.heap.size, rfl, rfl, blk_top (by simp), blk_alloc (blk_new w1 _) _, by omega, Nat.le_refl _, (below_al (below_al (Below.refl _ _) _) _).drew⟩
  case rest =>
    obtain ⟨ix, iy, rfl, rfl, hix, hiy, lx, ly, bc⟩ := hcut
    have hR := hR1.below bc
    have bw := below_then b1 bc
    obtain ⟨x0, x1, x2, x3, x4⟩ := five_cells hix
    obtain ⟨y0, y1, y2, y3, y4⟩ := five_cells hiy
    have hR7 := hR.alloc (.cells #[.int .i64 27, .int .i64 36, .int .i64 35, .int .i64 32, .int .i64 37, .int .i64 38, .int .i64 40] 3)
    have bw7 := below_al bw (.cells #[.int .i64 27, .int .i64 36, .int .i64 35, .int .i64 32, .int .i64 37, .int .i64 38, .int .i64 40] 3)
    have xa0 := cell_alloc0 x0 (.cells #[.int .i64 27, .int .i64 36, .int .i64 35, .int .i64 32, .int .i64 37, .int .i64 38, .int .i64 40] 3)
    have xa1 := cell_alloc0 x1 (.cells #[.int .i64 27, .int .i64 36, .int .i64 35, .int .i64 32, .int .i64 37, .int .i64 38, .int .i64 40] 3)
    have ya0 := cell_alloc0 y0 (.cells #[.int .i64 27, .int .i64 36, .int .i64 35, .int .i64 32, .int .i64 37, .int .i64 38, .int .i64 40] 3)
    have ya1 := cell_alloc0 y1 (.cells #[.int .i64 27, .int .i64 36, .int .i64 35, .int .i64 32, .int .i64 37, .int .i64 38, .int .i64 40] 3)
    clear hix hiy lx ly bc hR1 b1
    go_wp2_with (first
      | (go_at_call 64; (with_reducible refine (hA _ _ (by simp)).mono ?_); rintro r w' ⟨rfl, rfl⟩)
      | fail)
    refine (hO _ _ hR7).mono ?_
    rintro r w6 ⟨rfl, h6⟩
    go_wp2_with fail
    go_ret2
    exact ⟨rfl, RAdd.pre bw7 h6⟩
set_option maxRecDepth 100000 in
set_option maxHeartbeats 4000000 in
theorem rop_G1fs (f : Nat) (hM : RMadeSpec f) (k : Nat) (vl : Value) (ts : List Term) (op x y : Nat) (w : World) (h : RefAt w k vl ts) (hG : Good ts) (ho : (doW op 0 0).isSome = true) (hx : x < ts.length) (hy : y < ts.length) (hl : ts.length + (f + 1) < 1000000000000) (t u : Term) (ht : ts.getD x default = t) (hu : ts.getD y default = u) (kx : ((t.k : Int) == 0) = false) (ky : ((u.k : Int) == 0) = false) (kyn : ((u.k : Int) != 0) = true) (hT : turns op = false) (n28 : ((op : Int) == 28) = true) (p4 : hasI (op : Int) [28, 32, 30, 31] = true) (hxy : x = y) :
    Calls Tryz.prog 37 #[.pointer (some ⟨k, 0, none⟩), .int .i64 op, .int .i64 x, .int .i64 y] w (RPost k vl w (ins ts (constT 0), pos ts (constT 0))) := by
  subst hxy
  have htu : t = u := ht.symm.trans hu
  subst htu
  clear hu hy
  obtain ⟨A, c, rfl, q1, q2, q3⟩ := (h.l.toSl encT 0).open_
  obtain ⟨bb, off, rfl, hat, hbl⟩ := (h.l.toSl encT 0).at_ hx
  rw [show ts[x] = ts.getD x default by simp [List.getD, hx]] at hat
  rw [ht] at hat
  have hA := rin_turns op
  rw [hT] at hA
  have hA4 := fun g w e => rin4 (op : Int) 28 32 30 31 (g := g) (w := w) (hg := e)
  rw [p4] at hA4
  have hlt : ((x : Int) < x) = False := by simp
  have hC := fun vl2 w h => rconst_any k vl2 ts w h (by omega) 0 (by omega)
  clear ht
  have d0 : w.cell? ⟨bb, off + x * 5, none⟩ = some (.int .i64 t.k) := hat 0 _ rfl
  have d1 := hat 1 _ rfl
  have d2 := hat 2 _ rfl
  have d3 := hat 3 _ rfl
  have d4 := hat 4 _ rfl
  have c0 := one_cell h.hb
  have gx : (x : Int) < ts.length := by omega
  have hDo := rdo_any op ho 0 0 (by omega) (by omega) w
  go_enter Tryz.func37, Tryz.ntmps37
  go_wp2_with fail
  refine hDo.mono ?_
  rintro r w1 ⟨rfl, b1⟩
  have hR1 := h.below b1
  have c1 := cell_below b1 c0
  have d0 := cell_below b1 d0
  have d1 := cell_below b1 d1
  have d2 := cell_below b1 d2
  have d3 := cell_below b1 d3
  have d4 := cell_below b1 d4
  have pc1 := cell_alloc0 c1 (.cells #[.int .i64 0, .int .u32 0, .int .i64 0, .int .i64 0, .int .i64 0] 68)
  have qc1 := cell_alloc0 pc1 (.cells #[.int .i64 0, .int .u32 0, .int .i64 0, .int .i64 0, .int .i64 0] 68)
  have pd0 := cell_alloc0 d0 (.cells #[.int .i64 0, .int .u32 0, .int .i64 0, .int .i64 0, .int .i64 0] 68)
  have qd0 := cell_alloc0 pd0 (.cells #[.int .i64 0, .int .u32 0, .int .i64 0, .int .i64 0, .int .i64 0] 68)
  have pd1 := cell_alloc0 d1 (.cells #[.int .i64 0, .int .u32 0, .int .i64 0, .int .i64 0, .int .i64 0] 68)
  have qd1 := cell_alloc0 pd1 (.cells #[.int .i64 0, .int .u32 0, .int .i64 0, .int .i64 0, .int .i64 0] 68)
  have pd2 := cell_alloc0 d2 (.cells #[.int .i64 0, .int .u32 0, .int .i64 0, .int .i64 0, .int .i64 0] 68)
  have qd2 := cell_alloc0 pd2 (.cells #[.int .i64 0, .int .u32 0, .int .i64 0, .int .i64 0, .int .i64 0] 68)
  have pd3 := cell_alloc0 d3 (.cells #[.int .i64 0, .int .u32 0, .int .i64 0, .int .i64 0, .int .i64 0] 68)
  have qd3 := cell_alloc0 pd3 (.cells #[.int .i64 0, .int .u32 0, .int .i64 0, .int .i64 0, .int .i64 0] 68)
  have pd4 := cell_alloc0 d4 (.cells #[.int .i64 0, .int .u32 0, .int .i64 0, .int .i64 0, .int .i64 0] 68)
  have qd4 := cell_alloc0 pd4 (.cells #[.int .i64 0, .int .u32 0, .int .i64 0, .int .i64 0, .int .i64 0] 68)
  have r0c1 := cell_alloc0 (cell_alloc0 c1 (.cells #[.int .i64 0, .int .u32 0, .int .i64 0, .int .i64 0, .int .i64 0] 68)) (.cells #[.int .i64 t.k, .int .u32 t.v, .int .i64 t.op, .int .i64 t.a, .int .i64 t.b] 68)
  have r0d0 := cell_alloc0 (cell_alloc0 d0 (.cells #[.int .i64 0, .int .u32 0, .int .i64 0, .int .i64 0, .int .i64 0] 68)) (.cells #[.int .i64 t.k, .int .u32 t.v, .int .i64 t.op, .int .i64 t.a, .int .i64 t.b] 68)
  have r0d1 := cell_alloc0 (cell_alloc0 d1 (.cells #[.int .i64 0, .int .u32 0, .int .i64 0, .int .i64 0, .int .i64 0] 68)) (.cells #[.int .i64 t.k, .int .u32 t.v, .int .i64 t.op, .int .i64 t.a, .int .i64 t.b] 68)
  have r0d2 := cell_alloc0 (cell_alloc0 d2 (.cells #[.int .i64 0, .int .u32 0, .int .i64 0, .int .i64 0, .int .i64 0] 68)) (.cells #[.int .i64 t.k, .int .u32 t.v, .int .i64 t.op, .int .i64 t.a, .int .i64 t.b] 68)
  have r0d3 := cell_alloc0 (cell_alloc0 d3 (.cells #[.int .i64 0, .int .u32 0, .int .i64 0, .int .i64 0, .int .i64 0] 68)) (.cells #[.int .i64 t.k, .int .u32 t.v, .int .i64 t.op, .int .i64 t.a, .int .i64 t.b] 68)
  have r0d4 := cell_alloc0 (cell_alloc0 d4 (.cells #[.int .i64 0, .int .u32 0, .int .i64 0, .int .i64 0, .int .i64 0] 68)) (.cells #[.int .i64 t.k, .int .u32 t.v, .int .i64 t.op, .int .i64 t.a, .int .i64 t.b] 68)
  have r1c1 := cell_alloc0 (cell_alloc0 c1 (.cells #[.int .i64 t.k, .int .u32 t.v, .int .i64 t.op, .int .i64 t.a, .int .i64 t.b] 68)) (.cells #[.int .i64 0, .int .u32 0, .int .i64 0, .int .i64 0, .int .i64 0] 68)
  have r1d0 := cell_alloc0 (cell_alloc0 d0 (.cells #[.int .i64 t.k, .int .u32 t.v, .int .i64 t.op, .int .i64 t.a, .int .i64 t.b] 68)) (.cells #[.int .i64 0, .int .u32 0, .int .i64 0, .int .i64 0, .int .i64 0] 68)
  have r1d1 := cell_alloc0 (cell_alloc0 d1 (.cells #[.int .i64 t.k, .int .u32 t.v, .int .i64 t.op, .int .i64 t.a, .int .i64 t.b] 68)) (.cells #[.int .i64 0, .int .u32 0, .int .i64 0, .int .i64 0, .int .i64 0] 68)
  have r1d2 := cell_alloc0 (cell_alloc0 d2 (.cells #[.int .i64 t.k, .int .u32 t.v, .int .i64 t.op, .int .i64 t.a, .int .i64 t.b] 68)) (.cells #[.int .i64 0, .int .u32 0, .int .i64 0, .int .i64 0, .int .i64 0] 68)
  have r1d3 := cell_alloc0 (cell_alloc0 d3 (.cells #[.int .i64 t.k, .int .u32 t.v, .int .i64 t.op, .int .i64 t.a, .int .i64 t.b] 68)) (.cells #[.int .i64 0, .int .u32 0, .int .i64 0, .int .i64 0, .int .i64 0] 68)
  have r1d4 := cell_alloc0 (cell_alloc0 d4 (.cells #[.int .i64 t.k, .int .u32 t.v, .int .i64 t.op, .int .i64 t.a, .int .i64 t.b] 68)) (.cells #[.int .i64 0, .int .u32 0, .int .i64 0, .int .i64 0, .int .i64 0] 68)
  clear c0 hG hM hat hDo h
  go_upto_region 6 with fail
  go_cut [12, 13] from 50 to 63 (fun p q wx => ∃ ix iy : Nat, p = .pointer (some ⟨ix, 0, none⟩) ∧ q = .pointer (some ⟨iy, 0, none⟩) ∧ wx.heap[ix]? = some (.cells #[.int .i64 t.k, .int .u32 t.v, .int .i64 t.op, .int .i64 t.a, .int .i64 t.b] 68 (0, 0)) ∧ wx.heap[iy]? = some (.cells #[.int .i64 t.k, .int .u32 t.v, .int .i64 t.op, .int .i64 t.a, .int .i64 t.b] 68 (0, 0)) ∧ w1.heap.size ≤ ix ∧ w1.heap.size ≤ iy ∧ Below w1.heap.size w1 wx)
  case first =>
    go_region
    all_goals (go_wp2_with fail; go_meet)
    · exact ⟨w1.heap.size, w1.heap.size + 1, rfl, rfl, blk_alloc (blk_new w1 _) _, blk_top (by simp), Nat.le_refl _, by omega, (below_al (below_al (Below.refl _ _) _) _).drew⟩
    · exact ⟨w1.heap.size + 1, w1.heap.size, rfl, rfl, blk_top (by simp), blk_alloc (blk_new w1 _) _, by omega, Nat.le_refl _, (below_al (below_al (Below.refl _ _) _) _).drew⟩
  case rest =>
    obtain ⟨ix, iy, rfl, rfl, hix, hiy, lx, ly, bc⟩ := hcut
    have hR := hR1.below bc
    have bw := below_then b1 bc
    obtain ⟨x0, x1, x2, x3, x4⟩ := five_cells hix
    obtain ⟨y0, y1, y2, y3, y4⟩ := five_cells hiy
    have hR7 := hR.alloc (.cells #[.int .i64 27, .int .i64 36, .int .i64 35, .int .i64 32, .int .i64 37, .int .i64 38, .int .i64 40] 3)
    have bw7 := below_al bw (.cells #[.int .i64 27, .int .i64 36, .int .i64 35, .int .i64 32, .int .i64 37, .int .i64 38, .int .i64 40] 3)
    have xa0 := cell_alloc0 x0 (.cells #[.int .i64 27, .int .i64 36, .int .i64 35, .int .i64 32, .int .i64 37, .int .i64 38, .int .i64 40] 3)
    have xa1 := cell_alloc0 x1 (.cells #[.int .i64 27, .int .i64 36, .int .i64 35, .int .i64 32, .int .i64 37, .int .i64 38, .int .i64 40] 3)
    have ya0 := cell_alloc0 y0 (.cells #[.int .i64 27, .int .i64 36, .int .i64 35, .int .i64 32, .int .i64 37, .int .i64 38, .int .i64 40] 3)
    have ya1 := cell_alloc0 y1 (.cells #[.int .i64 27, .int .i64 36, .int .i64 35, .int .i64 32, .int .i64 37, .int .i64 38, .int .i64 40] 3)
    clear hix hiy lx ly bc hR1 b1
    have xb0 := cell_alloc0 xa0 (.cells #[.int .i64 28, .int .i64 32, .int .i64 30, .int .i64 31] 3)
    have yb0 := cell_alloc0 ya0 (.cells #[.int .i64 28, .int .i64 32, .int .i64 30, .int .i64 31] 3)
    have xc0 := cell_alloc0 xb0 (.cells #[.int .i64 36, .int .i64 35] 3)
    have yc0 := cell_alloc0 yb0 (.cells #[.int .i64 36, .int .i64 35] 3)
    go_wp2_with (first
      | (go_at_call 64; (with_reducible refine (hA _ _ (by simp)).mono ?_); rintro r w' ⟨rfl, rfl⟩)
      | fail)
    refine (hA4 _ _ (by simp)).mono ?_
    rintro r w' ⟨rfl, rfl⟩
    go_wp2_with fail
    refine (hC _ _ (hR7.alloc (.cells #[.int .i64 28, .int .i64 32, .int .i64 30, .int .i64 31] 3))).mono ?_
    rintro r w6 ⟨rfl, h6⟩
    go_wp2_with fail
    go_ret2
    exact ⟨rfl, RAdd.pre (below_al bw7 (.cells #[.int .i64 28, .int .i64 32, .int .i64 30, .int .i64 31] 3)) h6⟩
set_option maxRecDepth 100000 in
set_option maxHeartbeats 4000000 in
theorem rop_G1tn (f : Nat) (hM : RMadeSpec f) (k : Nat) (vl : Value) (ts : List Term) (op x y : Nat) (w : World) (h : RefAt w k vl ts) (hG : Good ts) (ho : (doW op 0 0).isSome = true) (hx : x < ts.length) (hy : y < ts.length) (hl : ts.length + (f + 1) < 1000000000000) (t u : Term) (ht : ts.getD x default = t) (hu : ts.getD y default = u) (kx : ((t.k : Int) == 0) = false) (ky : ((u.k : Int) == 0) = false) (kyn : ((u.k : Int) != 0) = true) (hT : turns op = true) (n28 : ((op : Int) == 28) = false) (p4 : hasI (op : Int) [28, 32, 30, 31] = true) (hxy : x = y) :
    Calls Tryz.prog 37 #[.pointer (some ⟨k, 0, none⟩), .int .i64 op, .int .i64 x, .int .i64 y] w (RPost k vl w (ins ts (constT 0), pos ts (constT 0))) := by
  subst hxy
  have htu : t = u := ht.symm.trans hu
  subst htu
  clear hu hy
  obtain ⟨A, c, rfl, q1, q2, q3⟩ := (h.l.toSl encT 0).open_
  obtain ⟨bb, off, rfl, hat, hbl⟩ := (h.l.toSl encT 0).at_ hx
  rw [show ts[x] = ts.getD x default by simp [List.getD, hx]] at hat
  rw [ht] at hat
  have hA := rin_turns op
  rw [hT] at hA
  have hA4 := fun g w e => rin4 (op : Int) 28 32 30 31 (g := g) (w := w) (hg := e)
  rw [p4] at hA4
  have hlt : ((x : Int) < x) = False := by simp
  have hC := fun vl2 w h => rconst_any k vl2 ts w h (by omega) 0 (by omega)
  clear ht
  have d0 : w.cell? ⟨bb, off + x * 5, none⟩ = some (.int .i64 t.k) := hat 0 _ rfl
  have d1 := hat 1 _ rfl
  have d2 := hat 2 _ rfl
  have d3 := hat 3 _ rfl
  have d4 := hat 4 _ rfl
  have c0 := one_cell h.hb
  have gx : (x : Int) < ts.length := by omega
  have hDo := rdo_any op ho 0 0 (by omega) (by omega) w
  go_enter Tryz.func37, Tryz.ntmps37
  go_wp2_with fail
  refine hDo.mono ?_
  rintro r w1 ⟨rfl, b1⟩
  have hR1 := h.below b1
  have c1 := cell_below b1 c0
  have d0 := cell_below b1 d0
  have d1 := cell_below b1 d1
  have d2 := cell_below b1 d2
  have d3 := cell_below b1 d3
  have d4 := cell_below b1 d4
  have pc1 := cell_alloc0 c1 (.cells #[.int .i64 0, .int .u32 0, .int .i64 0, .int .i64 0, .int .i64 0] 68)
  have qc1 := cell_alloc0 pc1 (.cells #[.int .i64 0, .int .u32 0, .int .i64 0, .int .i64 0, .int .i64 0] 68)
  have pd0 := cell_alloc0 d0 (.cells #[.int .i64 0, .int .u32 0, .int .i64 0, .int .i64 0, .int .i64 0] 68)
  have qd0 := cell_alloc0 pd0 (.cells #[.int .i64 0, .int .u32 0, .int .i64 0, .int .i64 0, .int .i64 0] 68)
  have pd1 := cell_alloc0 d1 (.cells #[.int .i64 0, .int .u32 0, .int .i64 0, .int .i64 0, .int .i64 0] 68)
  have qd1 := cell_alloc0 pd1 (.cells #[.int .i64 0, .int .u32 0, .int .i64 0, .int .i64 0, .int .i64 0] 68)
  have pd2 := cell_alloc0 d2 (.cells #[.int .i64 0, .int .u32 0, .int .i64 0, .int .i64 0, .int .i64 0] 68)
  have qd2 := cell_alloc0 pd2 (.cells #[.int .i64 0, .int .u32 0, .int .i64 0, .int .i64 0, .int .i64 0] 68)
  have pd3 := cell_alloc0 d3 (.cells #[.int .i64 0, .int .u32 0, .int .i64 0, .int .i64 0, .int .i64 0] 68)
  have qd3 := cell_alloc0 pd3 (.cells #[.int .i64 0, .int .u32 0, .int .i64 0, .int .i64 0, .int .i64 0] 68)
  have pd4 := cell_alloc0 d4 (.cells #[.int .i64 0, .int .u32 0, .int .i64 0, .int .i64 0, .int .i64 0] 68)
  have qd4 := cell_alloc0 pd4 (.cells #[.int .i64 0, .int .u32 0, .int .i64 0, .int .i64 0, .int .i64 0] 68)
  have r0c1 := cell_alloc0 (cell_alloc0 c1 (.cells #[.int .i64 0, .int .u32 0, .int .i64 0, .int .i64 0, .int .i64 0] 68)) (.cells #[.int .i64 t.k, .int .u32 t.v, .int .i64 t.op, .int .i64 t.a, .int .i64 t.b] 68)
  have r0d0 := cell_alloc0 (cell_alloc0 d0 (.cells #[.int .i64 0, .int .u32 0, .int .i64 0, .int .i64 0, .int .i64 0] 68)) (.cells #[.int .i64 t.k, .int .u32 t.v, .int .i64 t.op, .int .i64 t.a, .int .i64 t.b] 68)
  have r0d1 := cell_alloc0 (cell_alloc0 d1 (.cells #[.int .i64 0, .int .u32 0, .int .i64 0, .int .i64 0, .int .i64 0] 68)) (.cells #[.int .i64 t.k, .int .u32 t.v, .int .i64 t.op, .int .i64 t.a, .int .i64 t.b] 68)
  have r0d2 := cell_alloc0 (cell_alloc0 d2 (.cells #[.int .i64 0, .int .u32 0, .int .i64 0, .int .i64 0, .int .i64 0] 68)) (.cells #[.int .i64 t.k, .int .u32 t.v, .int .i64 t.op, .int .i64 t.a, .int .i64 t.b] 68)
  have r0d3 := cell_alloc0 (cell_alloc0 d3 (.cells #[.int .i64 0, .int .u32 0, .int .i64 0, .int .i64 0, .int .i64 0] 68)) (.cells #[.int .i64 t.k, .int .u32 t.v, .int .i64 t.op, .int .i64 t.a, .int .i64 t.b] 68)
  have r0d4 := cell_alloc0 (cell_alloc0 d4 (.cells #[.int .i64 0, .int .u32 0, .int .i64 0, .int .i64 0, .int .i64 0] 68)) (.cells #[.int .i64 t.k, .int .u32 t.v, .int .i64 t.op, .int .i64 t.a, .int .i64 t.b] 68)
  have r1c1 := cell_alloc0 (cell_alloc0 c1 (.cells #[.int .i64 t.k, .int .u32 t.v, .int .i64 t.op, .int .i64 t.a, .int .i64 t.b] 68)) (.cells #[.int .i64 0, .int .u32 0, .int .i64 0, .int .i64 0, .int .i64 0] 68)
  have r1d0 := cell_alloc0 (cell_alloc0 d0 (.cells #[.int .i64 t.k, .int .u32 t.v, .int .i64 t.op, .int .i64 t.a, .int .i64 t.b] 68)) (.cells #[.int .i64 0, .int .u32 0, .int .i64 0, .int .i64 0, .int .i64 0] 68)
  have r1d1 := cell_alloc0 (cell_alloc0 d1 (.cells #[.int .i64 t.k, .int .u32 t.v, .int .i64 t.op, .int .i64 t.a, .int .i64 t.b] 68)) (.cells #[.int .i64 0, .int .u32 0, .int .i64 0, .int .i64 0, .int .i64 0] 68)
  have r1d2 := cell_alloc0 (cell_alloc0 d2 (.cells #[.int .i64 t.k, .int .u32 t.v, .int .i64 t.op, .int .i64 t.a, .int .i64 t.b] 68)) (.cells #[.int .i64 0, .int .u32 0, .int .i64 0, .int .i64 0, .int .i64 0] 68)
  have r1d3 := cell_alloc0 (cell_alloc0 d3 (.cells #[.int .i64 t.k, .int .u32 t.v, .int .i64 t.op, .int .i64 t.a, .int .i64 t.b] 68)) (.cells #[.int .i64 0, .int .u32 0, .int .i64 0, .int .i64 0, .int .i64 0] 68)
  have r1d4 := cell_alloc0 (cell_alloc0 d4 (.cells #[.int .i64 t.k, .int .u32 t.v, .int .i64 t.op, .int .i64 t.a, .int .i64 t.b] 68)) (.cells #[.int .i64 0, .int .u32 0, .int .i64 0, .int .i64 0, .int .i64 0] 68)
  clear c0 hG hM hat hDo h
  go_upto_region 6 with fail
  go_cut [12, 13] from 50 to 63 (fun p q wx => ∃ ix iy : Nat, p = .pointer (some ⟨ix, 0, none⟩) ∧ q = .pointer (some ⟨iy, 0, none⟩) ∧ wx.heap[ix]? = some (.cells #[.int .i64 t.k, .int .u32 t.v, .int .i64 t.op, .int .i64 t.a, .int .i64 t.b] 68 (0, 0)) ∧ wx.heap[iy]? = some (.cells #[.int .i64 t.k, .int .u32 t.v, .int .i64 t.op, .int .i64 t.a, .int .i64 t.b] 68 (0, 0)) ∧ w1.heap.size ≤ ix ∧ w1.heap.size ≤ iy ∧ Below w1.heap.size w1 wx)
  case first =>
    go_region
    all_goals (go_wp2_with fail; go_meet)
    · exact ⟨w1.heap.size, w1.heap.size + 1, rfl, rfl, blk_alloc (blk_new w1 _) _, blk_top (by simp), Nat.le_refl _, by omega, (below_al (below_al (Below.refl _ _) _) _).drew⟩
    · exact ⟨w1.heap.size + 1, w1.heap.size, rfl, rfl, blk_top (by simp), blk_alloc (blk_new w1 _) _, by omega, Nat.le_refl _, (below_al (below_al (Below.refl _ _) _) _).drew⟩
  case rest =>
    obtain ⟨ix, iy, rfl, rfl, hix, hiy, lx, ly, bc⟩ := hcut
    have hR := hR1.below bc
    have bw := below_then b1 bc
    obtain ⟨x0, x1, x2, x3, x4⟩ := five_cells hix
    obtain ⟨y0, y1, y2, y3, y4⟩ := five_cells hiy
    have hR7 := hR.alloc (.cells #[.int .i64 27, .int .i64 36, .int .i64 35, .int .i64 32, .int .i64 37, .int .i64 38, .int .i64 40] 3)
    have bw7 := below_al bw (.cells #[.int .i64 27, .int .i64 36, .int .i64 35, .int .i64 32, .int .i64 37, .int .i64 38, .int .i64 40] 3)
    have xa0 := cell_alloc0 x0 (.cells #[.int .i64 27, .int .i64 36, .int .i64 35, .int .i64 32, .int .i64 37, .int .i64 38, .int .i64 40] 3)
    have xa1 := cell_alloc0 x1 (.cells #[.int .i64 27, .int .i64 36, .int .i64 35, .int .i64 32, .int .i64 37, .int .i64 38, .int .i64 40] 3)
    have ya0 := cell_alloc0 y0 (.cells #[.int .i64 27, .int .i64 36, .int .i64 35, .int .i64 32, .int .i64 37, .int .i64 38, .int .i64 40] 3)
    have ya1 := cell_alloc0 y1 (.cells #[.int .i64 27, .int .i64 36, .int .i64 35, .int .i64 32, .int .i64 37, .int .i64 38, .int .i64 40] 3)
    clear hix hiy lx ly bc hR1 b1
    have xb0 := cell_alloc0 xa0 (.cells #[.int .i64 28, .int .i64 32, .int .i64 30, .int .i64 31] 3)
    have yb0 := cell_alloc0 ya0 (.cells #[.int .i64 28, .int .i64 32, .int .i64 30, .int .i64 31] 3)
    have xc0 := cell_alloc0 xb0 (.cells #[.int .i64 36, .int .i64 35] 3)
    have yc0 := cell_alloc0 yb0 (.cells #[.int .i64 36, .int .i64 35] 3)
    go_wp2_with (first
      | (go_at_call 64; (with_reducible refine (hA _ _ (by simp)).mono ?_); rintro r w' ⟨rfl, rfl⟩)
      | fail)
    refine (hA4 _ _ (by simp)).mono ?_
    rintro r w' ⟨rfl, rfl⟩
    go_wp2_with fail
    refine (hC _ _ (hR7.alloc (.cells #[.int .i64 28, .int .i64 32, .int .i64 30, .int .i64 31] 3))).mono ?_
    rintro r w6 ⟨rfl, h6⟩
    go_wp2_with fail
    go_ret2
    exact ⟨rfl, RAdd.pre (below_al bw7 (.cells #[.int .i64 28, .int .i64 32, .int .i64 30, .int .i64 31] 3)) h6⟩
set_option maxRecDepth 100000 in
set_option maxHeartbeats 4000000 in
theorem rop_G1fn (f : Nat) (hM : RMadeSpec f) (k : Nat) (vl : Value) (ts : List Term) (op x y : Nat) (w : World) (h : RefAt w k vl ts) (hG : Good ts) (ho : (doW op 0 0).isSome = true) (hx : x < ts.length) (hy : y < ts.length) (hl : ts.length + (f + 1) < 1000000000000) (t u : Term) (ht : ts.getD x default = t) (hu : ts.getD y default = u) (kx : ((t.k : Int) == 0) = false) (ky : ((u.k : Int) == 0) = false) (kyn : ((u.k : Int) != 0) = true) (hT : turns op = false) (n28 : ((op : Int) == 28) = false) (p4 : hasI (op : Int) [28, 32, 30, 31] = true) (hxy : x = y) :
    Calls Tryz.prog 37 #[.pointer (some ⟨k, 0, none⟩), .int .i64 op, .int .i64 x, .int .i64 y] w (RPost k vl w (ins ts (constT 0), pos ts (constT 0))) := by
  subst hxy
  have htu : t = u := ht.symm.trans hu
  subst htu
  clear hu hy
  obtain ⟨A, c, rfl, q1, q2, q3⟩ := (h.l.toSl encT 0).open_
  obtain ⟨bb, off, rfl, hat, hbl⟩ := (h.l.toSl encT 0).at_ hx
  rw [show ts[x] = ts.getD x default by simp [List.getD, hx]] at hat
  rw [ht] at hat
  have hA := rin_turns op
  rw [hT] at hA
  have hA4 := fun g w e => rin4 (op : Int) 28 32 30 31 (g := g) (w := w) (hg := e)
  rw [p4] at hA4
  have hlt : ((x : Int) < x) = False := by simp
  have hC := fun vl2 w h => rconst_any k vl2 ts w h (by omega) 0 (by omega)
  clear ht
  have d0 : w.cell? ⟨bb, off + x * 5, none⟩ = some (.int .i64 t.k) := hat 0 _ rfl
  have d1 := hat 1 _ rfl
  have d2 := hat 2 _ rfl
  have d3 := hat 3 _ rfl
  have d4 := hat 4 _ rfl
  have c0 := one_cell h.hb
  have gx : (x : Int) < ts.length := by omega
  have hDo := rdo_any op ho 0 0 (by omega) (by omega) w
  go_enter Tryz.func37, Tryz.ntmps37
  go_wp2_with fail
  refine hDo.mono ?_
  rintro r w1 ⟨rfl, b1⟩
  have hR1 := h.below b1
  have c1 := cell_below b1 c0
  have d0 := cell_below b1 d0
  have d1 := cell_below b1 d1
  have d2 := cell_below b1 d2
  have d3 := cell_below b1 d3
  have d4 := cell_below b1 d4
  have pc1 := cell_alloc0 c1 (.cells #[.int .i64 0, .int .u32 0, .int .i64 0, .int .i64 0, .int .i64 0] 68)
  have qc1 := cell_alloc0 pc1 (.cells #[.int .i64 0, .int .u32 0, .int .i64 0, .int .i64 0, .int .i64 0] 68)
  have pd0 := cell_alloc0 d0 (.cells #[.int .i64 0, .int .u32 0, .int .i64 0, .int .i64 0, .int .i64 0] 68)
  have qd0 := cell_alloc0 pd0 (.cells #[.int .i64 0, .int .u32 0, .int .i64 0, .int .i64 0, .int .i64 0] 68)
  have pd1 := cell_alloc0 d1 (.cells #[.int .i64 0, .int .u32 0, .int .i64 0, .int .i64 0, .int .i64 0] 68)
  have qd1 := cell_alloc0 pd1 (.cells #[.int .i64 0, .int .u32 0, .int .i64 0, .int .i64 0, .int .i64 0] 68)
  have pd2 := cell_alloc0 d2 (.cells #[.int .i64 0, .int .u32 0, .int .i64 0, .int .i64 0, .int .i64 0] 68)
  have qd2 := cell_alloc0 pd2 (.cells #[.int .i64 0, .int .u32 0, .int .i64 0, .int .i64 0, .int .i64 0] 68)
  have pd3 := cell_alloc0 d3 (.cells #[.int .i64 0, .int .u32 0, .int .i64 0, .int .i64 0, .int .i64 0] 68)
  have qd3 := cell_alloc0 pd3 (.cells #[.int .i64 0, .int .u32 0, .int .i64 0, .int .i64 0, .int .i64 0] 68)
  have pd4 := cell_alloc0 d4 (.cells #[.int .i64 0, .int .u32 0, .int .i64 0, .int .i64 0, .int .i64 0] 68)
  have qd4 := cell_alloc0 pd4 (.cells #[.int .i64 0, .int .u32 0, .int .i64 0, .int .i64 0, .int .i64 0] 68)
  have r0c1 := cell_alloc0 (cell_alloc0 c1 (.cells #[.int .i64 0, .int .u32 0, .int .i64 0, .int .i64 0, .int .i64 0] 68)) (.cells #[.int .i64 t.k, .int .u32 t.v, .int .i64 t.op, .int .i64 t.a, .int .i64 t.b] 68)
  have r0d0 := cell_alloc0 (cell_alloc0 d0 (.cells #[.int .i64 0, .int .u32 0, .int .i64 0, .int .i64 0, .int .i64 0] 68)) (.cells #[.int .i64 t.k, .int .u32 t.v, .int .i64 t.op, .int .i64 t.a, .int .i64 t.b] 68)
  have r0d1 := cell_alloc0 (cell_alloc0 d1 (.cells #[.int .i64 0, .int .u32 0, .int .i64 0, .int .i64 0, .int .i64 0] 68)) (.cells #[.int .i64 t.k, .int .u32 t.v, .int .i64 t.op, .int .i64 t.a, .int .i64 t.b] 68)
  have r0d2 := cell_alloc0 (cell_alloc0 d2 (.cells #[.int .i64 0, .int .u32 0, .int .i64 0, .int .i64 0, .int .i64 0] 68)) (.cells #[.int .i64 t.k, .int .u32 t.v, .int .i64 t.op, .int .i64 t.a, .int .i64 t.b] 68)
  have r0d3 := cell_alloc0 (cell_alloc0 d3 (.cells #[.int .i64 0, .int .u32 0, .int .i64 0, .int .i64 0, .int .i64 0] 68)) (.cells #[.int .i64 t.k, .int .u32 t.v, .int .i64 t.op, .int .i64 t.a, .int .i64 t.b] 68)
  have r0d4 := cell_alloc0 (cell_alloc0 d4 (.cells #[.int .i64 0, .int .u32 0, .int .i64 0, .int .i64 0, .int .i64 0] 68)) (.cells #[.int .i64 t.k, .int .u32 t.v, .int .i64 t.op, .int .i64 t.a, .int .i64 t.b] 68)
  have r1c1 := cell_alloc0 (cell_alloc0 c1 (.cells #[.int .i64 t.k, .int .u32 t.v, .int .i64 t.op, .int .i64 t.a, .int .i64 t.b] 68)) (.cells #[.int .i64 0, .int .u32 0, .int .i64 0, .int .i64 0, .int .i64 0] 68)
  have r1d0 := cell_alloc0 (cell_alloc0 d0 (.cells #[.int .i64 t.k, .int .u32 t.v, .int .i64 t.op, .int .i64 t.a, .int .i64 t.b] 68)) (.cells #[.int .i64 0, .int .u32 0, .int .i64 0, .int .i64 0, .int .i64 0] 68)
  have r1d1 := cell_alloc0 (cell_alloc0 d1 (.cells #[.int .i64 t.k, .int .u32 t.v, .int .i64 t.op, .int .i64 t.a, .int .i64 t.b] 68)) (.cells #[.int .i64 0, .int .u32 0, .int .i64 0, .int .i64 0, .int .i64 0] 68)
  have r1d2 := cell_alloc0 (cell_alloc0 d2 (.cells #[.int .i64 t.k, .int .u32 t.v, .int .i64 t.op, .int .i64 t.a, .int .i64 t.b] 68)) (.cells #[.int .i64 0, .int .u32 0, .int .i64 0, .int .i64 0, .int .i64 0] 68)
  have r1d3 := cell_alloc0 (cell_alloc0 d3 (.cells #[.int .i64 t.k, .int .u32 t.v, .int .i64 t.op, .int .i64 t.a, .int .i64 t.b] 68)) (.cells #[.int .i64 0, .int .u32 0, .int .i64 0, .int .i64 0, .int .i64 0] 68)
  have r1d4 := cell_alloc0 (cell_alloc0 d4 (.cells #[.int .i64 t.k, .int .u32 t.v, .int .i64 t.op, .int .i64 t.a, .int .i64 t.b] 68)) (.cells #[.int .i64 0, .int .u32 0, .int .i64 0, .int .i64 0, .int .i64 0] 68)
  clear c0 hG hM hat hDo h
  go_upto_region 6 with fail
  go_cut [12, 13] from 50 to 63 (fun p q wx => ∃ ix iy : Nat, p = .pointer (some ⟨ix, 0, none⟩) ∧ q = .pointer (some ⟨iy, 0, none⟩) ∧ wx.heap[ix]? = some (.cells #[.int .i64 t.k, .int .u32 t.v, .int .i64 t.op, .int .i64 t.a, .int .i64 t.b] 68 (0, 0)) ∧ wx.heap[iy]? = some (.cells #[.int .i64 t.k, .int .u32 t.v, .int .i64 t.op, .int .i64 t.a, .int .i64 t.b] 68 (0, 0)) ∧ w1.heap.size ≤ ix ∧ w1.heap.size ≤ iy ∧ Below w1.heap.size w1 wx)
  case first =>
    go_region
    all_goals (go_wp2_with fail; go_meet)
    · exact ⟨w1.heap.size, w1.heap.size + 1, rfl, rfl, blk_alloc (blk_new w1 _) _, blk_top (by simp), Nat.le_refl _, by omega, (below_al (below_al (Below.refl _ _) _) _).drew⟩
    · exact ⟨w1.heap.size + 1, w1.heap.size, rfl, rfl, blk_top (by simp), blk_alloc (blk_new w1 _) _, by omega, Nat.le_refl _, (below_al (below_al (Below.refl _ _) _) _).drew⟩
  case rest =>
    obtain ⟨ix, iy, rfl, rfl, hix, hiy, lx, ly, bc⟩ := hcut
    have hR := hR1.below bc
    have bw := below_then b1 bc
    obtain ⟨x0, x1, x2, x3, x4⟩ := five_cells hix
    obtain ⟨y0, y1, y2, y3, y4⟩ := five_cells hiy
    have hR7 := hR.alloc (.cells #[.int .i64 27, .int .i64 36, .int .i64 35, .int .i64 32, .int .i64 37, .int .i64 38, .int .i64 40] 3)
    have bw7 := below_al bw (.cells #[.int .i64 27, .int .i64 36, .int .i64 35, .int .i64 32, .int .i64 37, .int .i64 38, .int .i64 40] 3)
    have xa0 := cell_alloc0 x0 (.cells #[.int .i64 27, .int .i64 36, .int .i64 35, .int .i64 32, .int .i64 37, .int .i64 38, .int .i64 40] 3)
    have xa1 := cell_alloc0 x1 (.cells #[.int .i64 27, .int .i64 36, .int .i64 35, .int .i64 32, .int .i64 37, .int .i64 38, .int .i64 40] 3)
    have ya0 := cell_alloc0 y0 (.cells #[.int .i64 27, .int .i64 36, .int .i64 35, .int .i64 32, .int .i64 37, .int .i64 38, .int .i64 40] 3)
    have ya1 := cell_alloc0 y1 (.cells #[.int .i64 27, .int .i64 36, .int .i64 35, .int .i64 32, .int .i64 37, .int .i64 38, .int .i64 40] 3)
    clear hix hiy lx ly bc hR1 b1
    have xb0 := cell_alloc0 xa0 (.cells #[.int .i64 28, .int .i64 32, .int .i64 30, .int .i64 31] 3)
    have yb0 := cell_alloc0 ya0 (.cells #[.int .i64 28, .int .i64 32, .int .i64 30, .int .i64 31] 3)
    have xc0 := cell_alloc0 xb0 (.cells #[.int .i64 36, .int .i64 35] 3)
    have yc0 := cell_alloc0 yb0 (.cells #[.int .i64 36, .int .i64 35] 3)
    go_wp2_with (first
      | (go_at_call 64; (with_reducible refine (hA _ _ (by simp)).mono ?_); rintro r w' ⟨rfl, rfl⟩)
      | fail)
    refine (hA4 _ _ (by simp)).mono ?_
    rintro r w' ⟨rfl, rfl⟩
    go_wp2_with fail
    refine (hC _ _ (hR7.alloc (.cells #[.int .i64 28, .int .i64 32, .int .i64 30, .int .i64 31] 3))).mono ?_
    rintro r w6 ⟨rfl, h6⟩
    go_wp2_with fail
    go_ret2
    exact ⟨rfl, RAdd.pre (below_al bw7 (.cells #[.int .i64 28, .int .i64 32, .int .i64 30, .int .i64 31] 3)) h6⟩
end Go.Proofs.YtaiggfknighhgaaGreatDoor
