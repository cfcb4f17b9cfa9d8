/- The reference of simp: Op, case by case (written by genGO.py). -/
import Derived.Test.YtaiggfknighhgaaGreatDoorGDX
import Derived.BigRegion
import Derived.Deep.CutRange
set_option linter.unusedVariables false
set_option linter.unusedSimpArgs false
namespace Go.Proofs.YtaiggfknighhgaaGreatDoor
open Go.RowKit Go.Maps Go.MapKept
set_option maxRecDepth 100000 in
set_option maxHeartbeats 4000000 in
theorem rop_C (f : Nat) (hM : RMadeSpec f) (k : Nat) (vl : Value) (ts : List Term) (op x y : Nat) (w : World) (h : RefAt w k vl ts) (hG : Good ts) (ho : (doW op 0 0).isSome = true) (hx : x < ts.length) (hy : y < ts.length) (hl : ts.length + (f + 1) < 1000000000000) (t u : Term) (ht : ts.getD x default = t) (hu : ts.getD y default = u) (kx : ((t.k : Int) == 0) = false) (ky : ((u.k : Int) == 0) = true) (kyn : ((u.k : Int) != 0) = false) (hT : turns op = false) (n28 : ((op : Int) == 28) = true) (hW : Went ts op x y (ins ts (constT (us (-(u.v : Int))))) 27 x (pos ts (constT (us (-(u.v : Int)))))) (hm : mz ts op x y < f + 1) :
    Calls Tryz.prog 37 #[.pointer (some ⟨k, 0, none⟩), .int .i64 op, .int .i64 x, .int .i64 y] w (RPost k vl w ( madeF f (ins ts (constT (us (-(u.v : Int))))) 27 x (pos ts (constT (us (-(u.v : Int))))))) := by
  obtain ⟨A, c, rfl, q1, q2, q3⟩ := (h.l.toSl encT 0).open_
  obtain ⟨bb, off, rfl, hat, hbl⟩ := (h.l.toSl encT 0).at_ hx
  obtain ⟨bb2, off2, eA, hat2, _⟩ := (h.l.toSl encT 0).at_ hy
  simp only [Option.some.injEq, Addr.mk.injEq, and_true] at eA
  obtain ⟨rfl, rfl⟩ := eA
  rw [show ts[x] = ts.getD x default by simp [List.getD, hx]] at hat
  rw [show ts[y] = ts.getD y default by simp [List.getD, hy]] at hat2
  rw [ht] at hat
  rw [hu] at hat2
  have hA := rin_turns op
  rw [hT] at hA
  have hul := us_lt (-(u.v : Int))
  have hus : -(u.v : Int) % 4294967296 = ((us (-(u.v : Int)) : Nat) : Int) := (us_cast _).symm
  have hS := fun vl w h => hM k vl (ins ts (constT (us (-(u.v : Int))))) 27 x (pos ts (constT (us (-(u.v : Int))))) w h hW.good hW.ok hW.ina hW.inb (by have := hW.less; omega) (by have := hW.len; omega)
  have hC := fun vl2 w h => rconst_any k vl2 ts w h (by omega) (us (-(u.v : Int))) hul
  generalize madeF f (ins ts (constT (us (-(u.v : Int))))) 27 x (pos ts (constT (us (-(u.v : Int))))) = R at hS ⊢
  clear ht hu
  have d0 : w.cell? ⟨bb, off + x * 5, none⟩ = some (.int .i64 t.k) := hat 0 _ rfl
  have d1 := hat 1 _ rfl
  have d2 := hat 2 _ rfl
  have d3 := hat 3 _ rfl
  have d4 := hat 4 _ rfl
  have e0 : w.cell? ⟨bb, off + y * 5, none⟩ = some (.int .i64 u.k) := hat2 0 _ rfl
  have e1 := hat2 1 _ rfl
  have e2 := hat2 2 _ rfl
  have e3 := hat2 3 _ rfl
  have e4 := hat2 4 _ rfl
  have c0 := one_cell h.hb
  have gx : (x : Int) < ts.length := by omega
  have gy : (y : Int) < ts.length := by omega
  have hDo := rdo_any op ho 0 0 (by omega) (by omega) w
  go_enter Tryz.func37, Tryz.ntmps37
  go_wp2_with fail
  refine hDo.mono ?_
  rintro r w1 ⟨rfl, b1⟩
  have hR1 := h.below b1
  have c1 := cell_below b1 c0
  have d0 := cell_below b1 d0
  have d1 := cell_below b1 d1
  have d2 := cell_below b1 d2
  have d3 := cell_below b1 d3
  have d4 := cell_below b1 d4
  have e0 := cell_below b1 e0
  have e1 := cell_below b1 e1
  have e2 := cell_below b1 e2
  have e3 := cell_below b1 e3
  have e4 := cell_below b1 e4
  have pc1 := cell_alloc0 c1 (.cells #[.int .i64 0, .int .u32 0, .int .i64 0, .int .i64 0, .int .i64 0] 68)
  have qc1 := cell_alloc0 pc1 (.cells #[.int .i64 0, .int .u32 0, .int .i64 0, .int .i64 0, .int .i64 0] 68)
  have pd0 := cell_alloc0 d0 (.cells #[.int .i64 0, .int .u32 0, .int .i64 0, .int .i64 0, .int .i64 0] 68)
  have qd0 := cell_alloc0 pd0 (.cells #[.int .i64 0, .int .u32 0, .int .i64 0, .int .i64 0, .int .i64 0] 68)
  have pd1 := cell_alloc0 d1 (.cells #[.int .i64 0, .int .u32 0, .int .i64 0, .int .i64 0, .int .i64 0] 68)
  have qd1 := cell_alloc0 pd1 (.cells #[.int .i64 0, .int .u32 0, .int .i64 0, .int .i64 0, .int .i64 0] 68)
  have pd2 := cell_alloc0 d2 (.cells #[.int .i64 0, .int .u32 0, .int .i64 0, .int .i64 0, .int .i64 0] 68)
  have qd2 := cell_alloc0 pd2 (.cells #[.int .i64 0, .int .u32 0, .int .i64 0, .int .i64 0, .int .i64 0] 68)
  have pd3 := cell_alloc0 d3 (.cells #[.int .i64 0, .int .u32 0, .int .i64 0, .int .i64 0, .int .i64 0] 68)
  have qd3 := cell_alloc0 pd3 (.cells #[.int .i64 0, .int .u32 0, .int .i64 0, .int .i64 0, .int .i64 0] 68)
  have pd4 := cell_alloc0 d4 (.cells #[.int .i64 0, .int .u32 0, .int .i64 0, .int .i64 0, .int .i64 0] 68)
  have qd4 := cell_alloc0 pd4 (.cells #[.int .i64 0, .int .u32 0, .int .i64 0, .int .i64 0, .int .i64 0] 68)
  have pe0 := cell_alloc0 e0 (.cells #[.int .i64 0, .int .u32 0, .int .i64 0, .int .i64 0, .int .i64 0] 68)
  have qe0 := cell_alloc0 pe0 (.cells #[.int .i64 0, .int .u32 0, .int .i64 0, .int .i64 0, .int .i64 0] 68)
  have pe1 := cell_alloc0 e1 (.cells #[.int .i64 0, .int .u32 0, .int .i64 0, .int .i64 0, .int .i64 0] 68)
  have qe1 := cell_alloc0 pe1 (.cells #[.int .i64 0, .int .u32 0, .int .i64 0, .int .i64 0, .int .i64 0] 68)
  have pe2 := cell_alloc0 e2 (.cells #[.int .i64 0, .int .u32 0, .int .i64 0, .int .i64 0, .int .i64 0] 68)
  have qe2 := cell_alloc0 pe2 (.cells #[.int .i64 0, .int .u32 0, .int .i64 0, .int .i64 0, .int .i64 0] 68)
  have pe3 := cell_alloc0 e3 (.cells #[.int .i64 0, .int .u32 0, .int .i64 0, .int .i64 0, .int .i64 0] 68)
  have qe3 := cell_alloc0 pe3 (.cells #[.int .i64 0, .int .u32 0, .int .i64 0, .int .i64 0, .int .i64 0] 68)
  have pe4 := cell_alloc0 e4 (.cells #[.int .i64 0, .int .u32 0, .int .i64 0, .int .i64 0, .int .i64 0] 68)
  have qe4 := cell_alloc0 pe4 (.cells #[.int .i64 0, .int .u32 0, .int .i64 0, .int .i64 0, .int .i64 0] 68)
  have r0c1 := cell_alloc0 (cell_alloc0 c1 (.cells #[.int .i64 0, .int .u32 0, .int .i64 0, .int .i64 0, .int .i64 0] 68)) (.cells #[.int .i64 t.k, .int .u32 t.v, .int .i64 t.op, .int .i64 t.a, .int .i64 t.b] 68)
  have r0d0 := cell_alloc0 (cell_alloc0 d0 (.cells #[.int .i64 0, .int .u32 0, .int .i64 0, .int .i64 0, .int .i64 0] 68)) (.cells #[.int .i64 t.k, .int .u32 t.v, .int .i64 t.op, .int .i64 t.a, .int .i64 t.b] 68)
  have r0d1 := cell_alloc0 (cell_alloc0 d1 (.cells #[.int .i64 0, .int .u32 0, .int .i64 0, .int .i64 0, .int .i64 0] 68)) (.cells #[.int .i64 t.k, .int .u32 t.v, .int .i64 t.op, .int .i64 t.a, .int .i64 t.b] 68)
  have r0d2 := cell_alloc0 (cell_alloc0 d2 (.cells #[.int .i64 0, .int .u32 0, .int .i64 0, .int .i64 0, .int .i64 0] 68)) (.cells #[.int .i64 t.k, .int .u32 t.v, .int .i64 t.op, .int .i64 t.a, .int .i64 t.b] 68)
  have r0d3 := cell_alloc0 (cell_alloc0 d3 (.cells #[.int .i64 0, .int .u32 0, .int .i64 0, .int .i64 0, .int .i64 0] 68)) (.cells #[.int .i64 t.k, .int .u32 t.v, .int .i64 t.op, .int .i64 t.a, .int .i64 t.b] 68)
  have r0d4 := cell_alloc0 (cell_alloc0 d4 (.cells #[.int .i64 0, .int .u32 0, .int .i64 0, .int .i64 0, .int .i64 0] 68)) (.cells #[.int .i64 t.k, .int .u32 t.v, .int .i64 t.op, .int .i64 t.a, .int .i64 t.b] 68)
  have r0e0 := cell_alloc0 (cell_alloc0 e0 (.cells #[.int .i64 0, .int .u32 0, .int .i64 0, .int .i64 0, .int .i64 0] 68)) (.cells #[.int .i64 t.k, .int .u32 t.v, .int .i64 t.op, .int .i64 t.a, .int .i64 t.b] 68)
  have r0e1 := cell_alloc0 (cell_alloc0 e1 (.cells #[.int .i64 0, .int .u32 0, .int .i64 0, .int .i64 0, .int .i64 0] 68)) (.cells #[.int .i64 t.k, .int .u32 t.v, .int .i64 t.op, .int .i64 t.a, .int .i64 t.b] 68)
  have r0e2 := cell_alloc0 (cell_alloc0 e2 (.cells #[.int .i64 0, .int .u32 0, .int .i64 0, .int .i64 0, .int .i64 0] 68)) (.cells #[.int .i64 t.k, .int .u32 t.v, .int .i64 t.op, .int .i64 t.a, .int .i64 t.b] 68)
  have r0e3 := cell_alloc0 (cell_alloc0 e3 (.cells #[.int .i64 0, .int .u32 0, .int .i64 0, .int .i64 0, .int .i64 0] 68)) (.cells #[.int .i64 t.k, .int .u32 t.v, .int .i64 t.op, .int .i64 t.a, .int .i64 t.b] 68)
  have r0e4 := cell_alloc0 (cell_alloc0 e4 (.cells #[.int .i64 0, .int .u32 0, .int .i64 0, .int .i64 0, .int .i64 0] 68)) (.cells #[.int .i64 t.k, .int .u32 t.v, .int .i64 t.op, .int .i64 t.a, .int .i64 t.b] 68)
  have r1c1 := cell_alloc0 (cell_alloc0 c1 (.cells #[.int .i64 t.k, .int .u32 t.v, .int .i64 t.op, .int .i64 t.a, .int .i64 t.b] 68)) (.cells #[.int .i64 0, .int .u32 0, .int .i64 0, .int .i64 0, .int .i64 0] 68)
  have r1d0 := cell_alloc0 (cell_alloc0 d0 (.cells #[.int .i64 t.k, .int .u32 t.v, .int .i64 t.op, .int .i64 t.a, .int .i64 t.b] 68)) (.cells #[.int .i64 0, .int .u32 0, .int .i64 0, .int .i64 0, .int .i64 0] 68)
  have r1d1 := cell_alloc0 (cell_alloc0 d1 (.cells #[.int .i64 t.k, .int .u32 t.v, .int .i64 t.op, .int .i64 t.a, .int .i64 t.b] 68)) (.cells #[.int .i64 0, .int .u32 0, .int .i64 0, .int .i64 0, .int .i64 0] 68)
  have r1d2 := cell_alloc0 (cell_alloc0 d2 (.cells #[.int .i64 t.k, .int .u32 t.v, .int .i64 t.op, .int .i64 t.a, .int .i64 t.b] 68)) (.cells #[.int .i64 0, .int .u32 0, .int .i64 0, .int .i64 0, .int .i64 0] 68)
  have r1d3 := cell_alloc0 (cell_alloc0 d3 (.cells #[.int .i64 t.k, .int .u32 t.v, .int .i64 t.op, .int .i64 t.a, .int .i64 t.b] 68)) (.cells #[.int .i64 0, .int .u32 0, .int .i64 0, .int .i64 0, .int .i64 0] 68)
  have r1d4 := cell_alloc0 (cell_alloc0 d4 (.cells #[.int .i64 t.k, .int .u32 t.v, .int .i64 t.op, .int .i64 t.a, .int .i64 t.b] 68)) (.cells #[.int .i64 0, .int .u32 0, .int .i64 0, .int .i64 0, .int .i64 0] 68)
  have r1e0 := cell_alloc0 (cell_alloc0 e0 (.cells #[.int .i64 t.k, .int .u32 t.v, .int .i64 t.op, .int .i64 t.a, .int .i64 t.b] 68)) (.cells #[.int .i64 0, .int .u32 0, .int .i64 0, .int .i64 0, .int .i64 0] 68)
  have r1e1 := cell_alloc0 (cell_alloc0 e1 (.cells #[.int .i64 t.k, .int .u32 t.v, .int .i64 t.op, .int .i64 t.a, .int .i64 t.b] 68)) (.cells #[.int .i64 0, .int .u32 0, .int .i64 0, .int .i64 0, .int .i64 0] 68)
  have r1e2 := cell_alloc0 (cell_alloc0 e2 (.cells #[.int .i64 t.k, .int .u32 t.v, .int .i64 t.op, .int .i64 t.a, .int .i64 t.b] 68)) (.cells #[.int .i64 0, .int .u32 0, .int .i64 0, .int .i64 0, .int .i64 0] 68)
  have r1e3 := cell_alloc0 (cell_alloc0 e3 (.cells #[.int .i64 t.k, .int .u32 t.v, .int .i64 t.op, .int .i64 t.a, .int .i64 t.b] 68)) (.cells #[.int .i64 0, .int .u32 0, .int .i64 0, .int .i64 0, .int .i64 0] 68)
  have r1e4 := cell_alloc0 (cell_alloc0 e4 (.cells #[.int .i64 t.k, .int .u32 t.v, .int .i64 t.op, .int .i64 t.a, .int .i64 t.b] 68)) (.cells #[.int .i64 0, .int .u32 0, .int .i64 0, .int .i64 0, .int .i64 0] 68)
  have r2c1 := cell_alloc0 (cell_alloc0 c1 (.cells #[.int .i64 0, .int .u32 0, .int .i64 0, .int .i64 0, .int .i64 0] 68)) (.cells #[.int .i64 u.k, .int .u32 u.v, .int .i64 u.op, .int .i64 u.a, .int .i64 u.b] 68)
  have r2d0 := cell_alloc0 (cell_alloc0 d0 (.cells #[.int .i64 0, .int .u32 0, .int .i64 0, .int .i64 0, .int .i64 0] 68)) (.cells #[.int .i64 u.k, .int .u32 u.v, .int .i64 u.op, .int .i64 u.a, .int .i64 u.b] 68)
  have r2d1 := cell_alloc0 (cell_alloc0 d1 (.cells #[.int .i64 0, .int .u32 0, .int .i64 0, .int .i64 0, .int .i64 0] 68)) (.cells #[.int .i64 u.k, .int .u32 u.v, .int .i64 u.op, .int .i64 u.a, .int .i64 u.b] 68)
  have r2d2 := cell_alloc0 (cell_alloc0 d2 (.cells #[.int .i64 0, .int .u32 0, .int .i64 0, .int .i64 0, .int .i64 0] 68)) (.cells #[.int .i64 u.k, .int .u32 u.v, .int .i64 u.op, .int .i64 u.a, .int .i64 u.b] 68)
  have r2d3 := cell_alloc0 (cell_alloc0 d3 (.cells #[.int .i64 0, .int .u32 0, .int .i64 0, .int .i64 0, .int .i64 0] 68)) (.cells #[.int .i64 u.k, .int .u32 u.v, .int .i64 u.op, .int .i64 u.a, .int .i64 u.b] 68)
  have r2d4 := cell_alloc0 (cell_alloc0 d4 (.cells #[.int .i64 0, .int .u32 0, .int .i64 0, .int .i64 0, .int .i64 0] 68)) (.cells #[.int .i64 u.k, .int .u32 u.v, .int .i64 u.op, .int .i64 u.a, .int .i64 u.b] 68)
  have r2e0 := cell_alloc0 (cell_alloc0 e0 (.cells #[.int .i64 0, .int .u32 0, .int .i64 0, .int .i64 0, .int .i64 0] 68)) (.cells #[.int .i64 u.k, .int .u32 u.v, .int .i64 u.op, .int .i64 u.a, .int .i64 u.b] 68)
  have r2e1 := cell_alloc0 (cell_alloc0 e1 (.cells #[.int .i64 0, .int .u32 0, .int .i64 0, .int .i64 0, .int .i64 0] 68)) (.cells #[.int .i64 u.k, .int .u32 u.v, .int .i64 u.op, .int .i64 u.a, .int .i64 u.b] 68)
  have r2e2 := cell_alloc0 (cell_alloc0 e2 (.cells #[.int .i64 0, .int .u32 0, .int .i64 0, .int .i64 0, .int .i64 0] 68)) (.cells #[.int .i64 u.k, .int .u32 u.v, .int .i64 u.op, .int .i64 u.a, .int .i64 u.b] 68)
  have r2e3 := cell_alloc0 (cell_alloc0 e3 (.cells #[.int .i64 0, .int .u32 0, .int .i64 0, .int .i64 0, .int .i64 0] 68)) (.cells #[.int .i64 u.k, .int .u32 u.v, .int .i64 u.op, .int .i64 u.a, .int .i64 u.b] 68)
  have r2e4 := cell_alloc0 (cell_alloc0 e4 (.cells #[.int .i64 0, .int .u32 0, .int .i64 0, .int .i64 0, .int .i64 0] 68)) (.cells #[.int .i64 u.k, .int .u32 u.v, .int .i64 u.op, .int .i64 u.a, .int .i64 u.b] 68)
  have r3c1 := cell_alloc0 (cell_alloc0 c1 (.cells #[.int .i64 u.k, .int .u32 u.v, .int .i64 u.op, .int .i64 u.a, .int .i64 u.b] 68)) (.cells #[.int .i64 0, .int .u32 0, .int .i64 0, .int .i64 0, .int .i64 0] 68)
  have r3d0 := cell_alloc0 (cell_alloc0 d0 (.cells #[.int .i64 u.k, .int .u32 u.v, .int .i64 u.op, .int .i64 u.a, .int .i64 u.b] 68)) (.cells #[.int .i64 0, .int .u32 0, .int .i64 0, .int .i64 0, .int .i64 0] 68)
  have r3d1 := cell_alloc0 (cell_alloc0 d1 (.cells #[.int .i64 u.k, .int .u32 u.v, .int .i64 u.op, .int .i64 u.a, .int .i64 u.b] 68)) (.cells #[.int .i64 0, .int .u32 0, .int .i64 0, .int .i64 0, .int .i64 0] 68)
  have r3d2 := cell_alloc0 (cell_alloc0 d2 (.cells #[.int .i64 u.k, .int .u32 u.v, .int .i64 u.op, .int .i64 u.a, .int .i64 u.b] 68)) (.cells #[.int .i64 0, .int .u32 0, .int .i64 0, .int .i64 0, .int .i64 0] 68)
  have r3d3 := cell_alloc0 (cell_alloc0 d3 (.cells #[.int .i64 u.k, .int .u32 u.v, .int .i64 u.op, .int .i64 u.a, .int .i64 u.b] 68)) (.cells #[.int .i64 0, .int .u32 0, .int .i64 0, .int .i64 0, .int .i64 0] 68)
  have r3d4 := cell_alloc0 (cell_alloc0 d4 (.cells #[.int .i64 u.k, .int .u32 u.v, .int .i64 u.op, .int .i64 u.a, .int .i64 u.b] 68)) (.cells #[.int .i64 0, .int .u32 0, .int .i64 0, .int .i64 0, .int .i64 0] 68)
  have r3e0 := cell_alloc0 (cell_alloc0 e0 (.cells #[.int .i64 u.k, .int .u32 u.v, .int .i64 u.op, .int .i64 u.a, .int .i64 u.b] 68)) (.cells #[.int .i64 0, .int .u32 0, .int .i64 0, .int .i64 0, .int .i64 0] 68)
  have r3e1 := cell_alloc0 (cell_alloc0 e1 (.cells #[.int .i64 u.k, .int .u32 u.v, .int .i64 u.op, .int .i64 u.a, .int .i64 u.b] 68)) (.cells #[.int .i64 0, .int .u32 0, .int .i64 0, .int .i64 0, .int .i64 0] 68)
  have r3e2 := cell_alloc0 (cell_alloc0 e2 (.cells #[.int .i64 u.k, .int .u32 u.v, .int .i64 u.op, .int .i64 u.a, .int .i64 u.b] 68)) (.cells #[.int .i64 0, .int .u32 0, .int .i64 0, .int .i64 0, .int .i64 0] 68)
  have r3e3 := cell_alloc0 (cell_alloc0 e3 (.cells #[.int .i64 u.k, .int .u32 u.v, .int .i64 u.op, .int .i64 u.a, .int .i64 u.b] 68)) (.cells #[.int .i64 0, .int .u32 0, .int .i64 0, .int .i64 0, .int .i64 0] 68)
  have r3e4 := cell_alloc0 (cell_alloc0 e4 (.cells #[.int .i64 u.k, .int .u32 u.v, .int .i64 u.op, .int .i64 u.a, .int .i64 u.b] 68)) (.cells #[.int .i64 0, .int .u32 0, .int .i64 0, .int .i64 0, .int .i64 0] 68)
  clear c0 hG hM hat hat2 hDo h
  go_upto_region 6 with fail
  go_cut [12, 13] from 50 to 63 (fun p q wx => ∃ ix iy : Nat, p = .pointer (some ⟨ix, 0, none⟩) ∧ q = .pointer (some ⟨iy, 0, none⟩) ∧ wx.heap[ix]? = some (.cells #[.int .i64 t.k, .int .u32 t.v, .int .i64 t.op, .int .i64 t.a, .int .i64 t.b] 68 (0, 0)) ∧ wx.heap[iy]? = some (.cells #[.int .i64 u.k, .int .u32 u.v, .int .i64 u.op, .int .i64 u.a, .int .i64 u.b] 68 (0, 0)) ∧ w1.heap.size ≤ ix ∧ w1.heap.size ≤ iy ∧ Below w1.heap.size w1 wx)
  case first =>
    go_region
    all_goals (go_wp2_with fail; go_meet)
    · exact ⟨w1.heap.size, w1.heap.size + 1, rfl, rfl, blk_alloc (blk_new w1 _) _, blk_top (by simp), Nat.le_refl _, by omega, (below_al (below_al (Below.refl _ _) _) _).drew⟩
    · exact ⟨w1.heap.size + 1, w1.heap.size, rfl, rfl, blk_top (by simp), blk_alloc (blk_new w1 _) _, by omega, Nat.le_refl _, (below_al (below_al (Below.refl _ _) _) _).drew⟩
  case rest =>
    obtain ⟨ix, iy, rfl, rfl, hix, hiy, lx, ly, bc⟩ := hcut
    have hR := hR1.below bc
    have bw := below_then b1 bc
    obtain ⟨x0, x1, x2, x3, x4⟩ := five_cells hix
    obtain ⟨y0, y1, y2, y3, y4⟩ := five_cells hiy
    have hR7 := hR.alloc (.cells #[.int .i64 27, .int .i64 36, .int .i64 35, .int .i64 32, .int .i64 37, .int .i64 38, .int .i64 40] 3)
    have bw7 := below_al bw (.cells #[.int .i64 27, .int .i64 36, .int .i64 35, .int .i64 32, .int .i64 37, .int .i64 38, .int .i64 40] 3)
    have xa0 := cell_alloc0 x0 (.cells #[.int .i64 27, .int .i64 36, .int .i64 35, .int .i64 32, .int .i64 37, .int .i64 38, .int .i64 40] 3)
    have xa1 := cell_alloc0 x1 (.cells #[.int .i64 27, .int .i64 36, .int .i64 35, .int .i64 32, .int .i64 37, .int .i64 38, .int .i64 40] 3)
    have ya0 := cell_alloc0 y0 (.cells #[.int .i64 27, .int .i64 36, .int .i64 35, .int .i64 32, .int .i64 37, .int .i64 38, .int .i64 40] 3)
    have ya1 := cell_alloc0 y1 (.cells #[.int .i64 27, .int .i64 36, .int .i64 35, .int .i64 32, .int .i64 37, .int .i64 38, .int .i64 40] 3)
    clear hix hiy lx ly bc hR1 b1
    go_wp2_with (first
      | (go_at_call 64; (with_reducible refine (hA _ _ (by simp)).mono ?_); rintro r w' ⟨rfl, rfl⟩)
      | fail)
    rw [hus]
    refine (hC _ _ hR7).mono ?_
    rintro r w4 ⟨rfl, h4⟩
    obtain ⟨vl1, hr1, ho1⟩ := h4.out
    go_wp2_with fail
    refine (hS vl1 _ hr1).mono ?_
    rintro r w5 ⟨rfl, h5⟩
    go_wp2_with fail
    go_ret2
    exact ⟨rfl, RAdd.pre bw7 (h4.trans' ho1 h5)⟩
set_option maxRecDepth 100000 in
set_option maxHeartbeats 4000000 in
theorem rop_D2f (f : Nat) (hM : RMadeSpec f) (k : Nat) (vl : Value) (ts : List Term) (op x y : Nat) (w : World) (h : RefAt w k vl ts) (hG : Good ts) (ho : (doW op 0 0).isSome = true) (hx : x < ts.length) (hy : y < ts.length) (hl : ts.length + (f + 1) < 1000000000000) (t u : Term) (ht : ts.getD x default = t) (hu : ts.getD y default = u) (kx : ((t.k : Int) == 0) = false) (ky : ((u.k : Int) == 0) = true) (kyn : ((u.k : Int) != 0) = false) (hT : turns op = false) (n28 : ((op : Int) == 28) = false) (hv : u.v < 4294967296) (hm : mz ts op x y < f + 1) (hokP : ∀ nx, plainN ts op x y u.v = some nx → nx.ok ts op x y) (hokD : ∀ nx, deepN ts op x u.v = some nx → nx.ok ts op x y) (hn : plainN ts op x y u.v = none) (nx : Nx) (hn2 : deepN ts op x u.v = some nx) :
    Calls Tryz.prog 37 #[.pointer (some ⟨k, 0, none⟩), .int .i64 op, .int .i64 x, .int .i64 y] w (RPost k vl w (nx.fin (madeF f))) := by
  obtain ⟨A, c, rfl, q1, q2, q3⟩ := (h.l.toSl encT 0).open_
  obtain ⟨bb, off, rfl, hat, hbl⟩ := (h.l.toSl encT 0).at_ hx
  obtain ⟨bb2, off2, eA, hat2, _⟩ := (h.l.toSl encT 0).at_ hy
  simp only [Option.some.injEq, Addr.mk.injEq, and_true] at eA
  obtain ⟨rfl, rfl⟩ := eA
  rw [show ts[x] = ts.getD x default by simp [List.getD, hx]] at hat
  rw [show ts[y] = ts.getD y default by simp [List.getD, hy]] at hat2
  rw [ht] at hat
  rw [hu] at hat2
  have hA := rin_turns op
  rw [hT] at hA
  have hP : ∀ vl2 w, RefAt w k vl2 ts → Calls Tryz.prog 65 #[.pointer (some ⟨k, 0, none⟩), .int .i64 op, .int .i64 x, .int .i64 y] w (RNone w) := by
    intro vl2 w h
    have hq := plain_any f hM k vl2 ts op x y u.v w h hx hy hl (by unfold wd; rw [hu]) hv hm hokP
    rw [hn] at hq
    exact hq
  have hD : ∀ vl2 w, RefAt w k vl2 ts → Calls Tryz.prog 66 #[.pointer (some ⟨k, 0, none⟩), .int .i64 op, .int .i64 x, .int .u32 u.v] w (RIs k vl2 w (nx.fin (madeF f))) := by
    intro vl2 w h
    have hq := deep_any f hM k vl2 ts op x y u.v w h hx hl hv hG ho hm hokD (plainN_none hn)
    rw [hn2] at hq
    exact hq
  clear hokP hokD hn hn2
  generalize nx.fin (madeF f) = R at hD ⊢
  clear ht hu
  have d0 : w.cell? ⟨bb, off + x * 5, none⟩ = some (.int .i64 t.k) := hat 0 _ rfl
  have d1 := hat 1 _ rfl
  have d2 := hat 2 _ rfl
  have d3 := hat 3 _ rfl
  have d4 := hat 4 _ rfl
  have e0 : w.cell? ⟨bb, off + y * 5, none⟩ = some (.int .i64 u.k) := hat2 0 _ rfl
  have e1 := hat2 1 _ rfl
  have e2 := hat2 2 _ rfl
  have e3 := hat2 3 _ rfl
  have e4 := hat2 4 _ rfl
  have c0 := one_cell h.hb
  have gx : (x : Int) < ts.length := by omega
  have gy : (y : Int) < ts.length := by omega
  have hDo := rdo_any op ho 0 0 (by omega) (by omega) w
  go_enter Tryz.func37, Tryz.ntmps37
  go_wp2_with fail
  refine hDo.mono ?_
  rintro r w1 ⟨rfl, b1⟩
  have hR1 := h.below b1
  have c1 := cell_below b1 c0
  have d0 := cell_below b1 d0
  have d1 := cell_below b1 d1
  have d2 := cell_below b1 d2
  have d3 := cell_below b1 d3
  have d4 := cell_below b1 d4
  have e0 := cell_below b1 e0
  have e1 := cell_below b1 e1
  have e2 := cell_below b1 e2
  have e3 := cell_below b1 e3
  have e4 := cell_below b1 e4
  have pc1 := cell_alloc0 c1 (.cells #[.int .i64 0, .int .u32 0, .int .i64 0, .int .i64 0, .int .i64 0] 68)
  have qc1 := cell_alloc0 pc1 (.cells #[.int .i64 0, .int .u32 0, .int .i64 0, .int .i64 0, .int .i64 0] 68)
  have pd0 := cell_alloc0 d0 (.cells #[.int .i64 0, .int .u32 0, .int .i64 0, .int .i64 0, .int .i64 0] 68)
  have qd0 := cell_alloc0 pd0 (.cells #[.int .i64 0, .int .u32 0, .int .i64 0, .int .i64 0, .int .i64 0] 68)
  have pd1 := cell_alloc0 d1 (.cells #[.int .i64 0, .int .u32 0, .int .i64 0, .int .i64 0, .int .i64 0] 68)
  have qd1 := cell_alloc0 pd1 (.cells #[.int .i64 0, .int .u32 0, .int .i64 0, .int .i64 0, .int .i64 0] 68)
  have pd2 := cell_alloc0 d2 (.cells #[.int .i64 0, .int .u32 0, .int .i64 0, .int .i64 0, .int .i64 0] 68)
  have qd2 := cell_alloc0 pd2 (.cells #[.int .i64 0, .int .u32 0, .int .i64 0, .int .i64 0, .int .i64 0] 68)
  have pd3 := cell_alloc0 d3 (.cells #[.int .i64 0, .int .u32 0, .int .i64 0, .int .i64 0, .int .i64 0] 68)
  have qd3 := cell_alloc0 pd3 (.cells #[.int .i64 0, .int .u32 0, .int .i64 0, .int .i64 0, .int .i64 0] 68)
  have pd4 := cell_alloc0 d4 (.cells #[.int .i64 0, .int .u32 0, .int .i64 0, .int .i64 0, .int .i64 0] 68)
  have qd4 := cell_alloc0 pd4 (.cells #[.int .i64 0, .int .u32 0, .int .i64 0, .int .i64 0, .int .i64 0] 68)
  have pe0 := cell_alloc0 e0 (.cells #[.int .i64 0, .int .u32 0, .int .i64 0, .int .i64 0, .int .i64 0] 68)
  have qe0 := cell_alloc0 pe0 (.cells #[.int .i64 0, .int .u32 0, .int .i64 0, .int .i64 0, .int .i64 0] 68)
  have pe1 := cell_alloc0 e1 (.cells #[.int .i64 0, .int .u32 0, .int .i64 0, .int .i64 0, .int .i64 0] 68)
  have qe1 := cell_alloc0 pe1 (.cells #[.int .i64 0, .int .u32 0, .int .i64 0, .int .i64 0, .int .i64 0] 68)
  have pe2 := cell_alloc0 e2 (.cells #[.int .i64 0, .int .u32 0, .int .i64 0, .int .i64 0, .int .i64 0] 68)
  have qe2 := cell_alloc0 pe2 (.cells #[.int .i64 0, .int .u32 0, .int .i64 0, .int .i64 0, .int .i64 0] 68)
  have pe3 := cell_alloc0 e3 (.cells #[.int .i64 0, .int .u32 0, .int .i64 0, .int .i64 0, .int .i64 0] 68)
  have qe3 := cell_alloc0 pe3 (.cells #[.int .i64 0, .int .u32 0, .int .i64 0, .int .i64 0, .int .i64 0] 68)
  have pe4 := cell_alloc0 e4 (.cells #[.int .i64 0, .int .u32 0, .int .i64 0, .int .i64 0, .int .i64 0] 68)
  have qe4 := cell_alloc0 pe4 (.cells #[.int .i64 0, .int .u32 0, .int .i64 0, .int .i64 0, .int .i64 0] 68)
  have r0c1 := cell_alloc0 (cell_alloc0 c1 (.cells #[.int .i64 0, .int .u32 0, .int .i64 0, .int .i64 0, .int .i64 0] 68)) (.cells #[.int .i64 t.k, .int .u32 t.v, .int .i64 t.op, .int .i64 t.a, .int .i64 t.b] 68)
  have r0d0 := cell_alloc0 (cell_alloc0 d0 (.cells #[.int .i64 0, .int .u32 0, .int .i64 0, .int .i64 0, .int .i64 0] 68)) (.cells #[.int .i64 t.k, .int .u32 t.v, .int .i64 t.op, .int .i64 t.a, .int .i64 t.b] 68)
  have r0d1 := cell_alloc0 (cell_alloc0 d1 (.cells #[.int .i64 0, .int .u32 0, .int .i64 0, .int .i64 0, .int .i64 0] 68)) (.cells #[.int .i64 t.k, .int .u32 t.v, .int .i64 t.op, .int .i64 t.a, .int .i64 t.b] 68)
  have r0d2 := cell_alloc0 (cell_alloc0 d2 (.cells #[.int .i64 0, .int .u32 0, .int .i64 0, .int .i64 0, .int .i64 0] 68)) (.cells #[.int .i64 t.k, .int .u32 t.v, .int .i64 t.op, .int .i64 t.a, .int .i64 t.b] 68)
  have r0d3 := cell_alloc0 (cell_alloc0 d3 (.cells #[.int .i64 0, .int .u32 0, .int .i64 0, .int .i64 0, .int .i64 0] 68)) (.cells #[.int .i64 t.k, .int .u32 t.v, .int .i64 t.op, .int .i64 t.a, .int .i64 t.b] 68)
  have r0d4 := cell_alloc0 (cell_alloc0 d4 (.cells #[.int .i64 0, .int .u32 0, .int .i64 0, .int .i64 0, .int .i64 0] 68)) (.cells #[.int .i64 t.k, .int .u32 t.v, .int .i64 t.op, .int .i64 t.a, .int .i64 t.b] 68)
  have r0e0 := cell_alloc0 (cell_alloc0 e0 (.cells #[.int .i64 0, .int .u32 0, .int .i64 0, .int .i64 0, .int .i64 0] 68)) (.cells #[.int .i64 t.k, .int .u32 t.v, .int .i64 t.op, .int .i64 t.a, .int .i64 t.b] 68)
  have r0e1 := cell_alloc0 (cell_alloc0 e1 (.cells #[.int .i64 0, .int .u32 0, .int .i64 0, .int .i64 0, .int .i64 0] 68)) (.cells #[.int .i64 t.k, .int .u32 t.v, .int .i64 t.op, .int .i64 t.a, .int .i64 t.b] 68)
  have r0e2 := cell_alloc0 (cell_alloc0 e2 (.cells #[.int .i64 0, .int .u32 0, .int .i64 0, .int .i64 0, .int .i64 0] 68)) (.cells #[.int .i64 t.k, .int .u32 t.v, .int .i64 t.op, .int .i64 t.a, .int .i64 t.b] 68)
  have r0e3 := cell_alloc0 (cell_alloc0 e3 (.cells #[.int .i64 0, .int .u32 0, .int .i64 0, .int .i64 0, .int .i64 0] 68)) (.cells #[.int .i64 t.k, .int .u32 t.v, .int .i64 t.op, .int .i64 t.a, .int .i64 t.b] 68)
  have r0e4 := cell_alloc0 (cell_alloc0 e4 (.cells #[.int .i64 0, .int .u32 0, .int .i64 0, .int .i64 0, .int .i64 0] 68)) (.cells #[.int .i64 t.k, .int .u32 t.v, .int .i64 t.op, .int .i64 t.a, .int .i64 t.b] 68)
  have r1c1 := cell_alloc0 (cell_alloc0 c1 (.cells #[.int .i64 t.k, .int .u32 t.v, .int .i64 t.op, .int .i64 t.a, .int .i64 t.b] 68)) (.cells #[.int .i64 0, .int .u32 0, .int .i64 0, .int .i64 0, .int .i64 0] 68)
  have r1d0 := cell_alloc0 (cell_alloc0 d0 (.cells #[.int .i64 t.k, .int .u32 t.v, .int .i64 t.op, .int .i64 t.a, .int .i64 t.b] 68)) (.cells #[.int .i64 0, .int .u32 0, .int .i64 0, .int .i64 0, .int .i64 0] 68)
  have r1d1 := cell_alloc0 (cell_alloc0 d1 (.cells #[.int .i64 t.k, .int .u32 t.v, .int .i64 t.op, .int .i64 t.a, .int .i64 t.b] 68)) (.cells #[.int .i64 0, .int .u32 0, .int .i64 0, .int .i64 0, .int .i64 0] 68)
  have r1d2 := cell_alloc0 (cell_alloc0 d2 (.cells #[.int .i64 t.k, .int .u32 t.v, .int .i64 t.op, .int .i64 t.a, .int .i64 t.b] 68)) (.cells #[.int .i64 0, .int .u32 0, .int .i64 0, .int .i64 0, .int .i64 0] 68)
  have r1d3 := cell_alloc0 (cell_alloc0 d3 (.cells #[.int .i64 t.k, .int .u32 t.v, .int .i64 t.op, .int .i64 t.a, .int .i64 t.b] 68)) (.cells #[.int .i64 0, .int .u32 0, .int .i64 0, .int .i64 0, .int .i64 0] 68)
  have r1d4 := cell_alloc0 (cell_alloc0 d4 (.cells #[.int .i64 t.k, .int .u32 t.v, .int .i64 t.op, .int .i64 t.a, .int .i64 t.b] 68)) (.cells #[.int .i64 0, .int .u32 0, .int .i64 0, .int .i64 0, .int .i64 0] 68)
  have r1e0 := cell_alloc0 (cell_alloc0 e0 (.cells #[.int .i64 t.k, .int .u32 t.v, .int .i64 t.op, .int .i64 t.a, .int .i64 t.b] 68)) (.cells #[.int .i64 0, .int .u32 0, .int .i64 0, .int .i64 0, .int .i64 0] 68)
  have r1e1 := cell_alloc0 (cell_alloc0 e1 (.cells #[.int .i64 t.k, .int .u32 t.v, .int .i64 t.op, .int .i64 t.a, .int .i64 t.b] 68)) (.cells #[.int .i64 0, .int .u32 0, .int .i64 0, .int .i64 0, .int .i64 0] 68)
  have r1e2 := cell_alloc0 (cell_alloc0 e2 (.cells #[.int .i64 t.k, .int .u32 t.v, .int .i64 t.op, .int .i64 t.a, .int .i64 t.b] 68)) (.cells #[.int .i64 0, .int .u32 0, .int .i64 0, .int .i64 0, .int .i64 0] 68)
  have r1e3 := cell_alloc0 (cell_alloc0 e3 (.cells #[.int .i64 t.k, .int .u32 t.v, .int .i64 t.op, .int .i64 t.a, .int .i64 t.b] 68)) (.cells #[.int .i64 0, .int .u32 0, .int .i64 0, .int .i64 0, .int .i64 0] 68)
  have r1e4 := cell_alloc0 (cell_alloc0 e4 (.cells #[.int .i64 t.k, .int .u32 t.v, .int .i64 t.op, .int .i64 t.a, .int .i64 t.b] 68)) (.cells #[.int .i64 0, .int .u32 0, .int .i64 0, .int .i64 0, .int .i64 0] 68)
  have r2c1 := cell_alloc0 (cell_alloc0 c1 (.cells #[.int .i64 0, .int .u32 0, .int .i64 0, .int .i64 0, .int .i64 0] 68)) (.cells #[.int .i64 u.k, .int .u32 u.v, .int .i64 u.op, .int .i64 u.a, .int .i64 u.b] 68)
  have r2d0 := cell_alloc0 (cell_alloc0 d0 (.cells #[.int .i64 0, .int .u32 0, .int .i64 0, .int .i64 0, .int .i64 0] 68)) (.cells #[.int .i64 u.k, .int .u32 u.v, .int .i64 u.op, .int .i64 u.a, .int .i64 u.b] 68)
  have r2d1 := cell_alloc0 (cell_alloc0 d1 (.cells #[.int .i64 0, .int .u32 0, .int .i64 0, .int .i64 0, .int .i64 0] 68)) (.cells #[.int .i64 u.k, .int .u32 u.v, .int .i64 u.op, .int .i64 u.a, .int .i64 u.b] 68)
  have r2d2 := cell_alloc0 (cell_alloc0 d2 (.cells #[.int .i64 0, .int .u32 0, .int .i64 0, .int .i64 0, .int .i64 0] 68)) (.cells #[.int .i64 u.k, .int .u32 u.v, .int .i64 u.op, .int .i64 u.a, .int .i64 u.b] 68)
  have r2d3 := cell_alloc0 (cell_alloc0 d3 (.cells #[.int .i64 0, .int .u32 0, .int .i64 0, .int .i64 0, .int .i64 0] 68)) (.cells #[.int .i64 u.k, .int .u32 u.v, .int .i64 u.op, .int .i64 u.a, .int .i64 u.b] 68)
  have r2d4 := cell_alloc0 (cell_alloc0 d4 (.cells #[.int .i64 0, .int .u32 0, .int .i64 0, .int .i64 0, .int .i64 0] 68)) (.cells #[.int .i64 u.k, .int .u32 u.v, .int .i64 u.op, .int .i64 u.a, .int .i64 u.b] 68)
  have r2e0 := cell_alloc0 (cell_alloc0 e0 (.cells #[.int .i64 0, .int .u32 0, .int .i64 0, .int .i64 0, .int .i64 0] 68)) (.cells #[.int .i64 u.k, .int .u32 u.v, .int .i64 u.op, .int .i64 u.a, .int .i64 u.b] 68)
  have r2e1 := cell_alloc0 (cell_alloc0 e1 (.cells #[.int .i64 0, .int .u32 0, .int .i64 0, .int .i64 0, .int .i64 0] 68)) (.cells #[.int .i64 u.k, .int .u32 u.v, .int .i64 u.op, .int .i64 u.a, .int .i64 u.b] 68)
  have r2e2 := cell_alloc0 (cell_alloc0 e2 (.cells #[.int .i64 0, .int .u32 0, .int .i64 0, .int .i64 0, .int .i64 0] 68)) (.cells #[.int .i64 u.k, .int .u32 u.v, .int .i64 u.op, .int .i64 u.a, .int .i64 u.b] 68)
  have r2e3 := cell_alloc0 (cell_alloc0 e3 (.cells #[.int .i64 0, .int .u32 0, .int .i64 0, .int .i64 0, .int .i64 0] 68)) (.cells #[.int .i64 u.k, .int .u32 u.v, .int .i64 u.op, .int .i64 u.a, .int .i64 u.b] 68)
  have r2e4 := cell_alloc0 (cell_alloc0 e4 (.cells #[.int .i64 0, .int .u32 0, .int .i64 0, .int .i64 0, .int .i64 0] 68)) (.cells #[.int .i64 u.k, .int .u32 u.v, .int .i64 u.op, .int .i64 u.a, .int .i64 u.b] 68)
  have r3c1 := cell_alloc0 (cell_alloc0 c1 (.cells #[.int .i64 u.k, .int .u32 u.v, .int .i64 u.op, .int .i64 u.a, .int .i64 u.b] 68)) (.cells #[.int .i64 0, .int .u32 0, .int .i64 0, .int .i64 0, .int .i64 0] 68)
  have r3d0 := cell_alloc0 (cell_alloc0 d0 (.cells #[.int .i64 u.k, .int .u32 u.v, .int .i64 u.op, .int .i64 u.a, .int .i64 u.b] 68)) (.cells #[.int .i64 0, .int .u32 0, .int .i64 0, .int .i64 0, .int .i64 0] 68)
  have r3d1 := cell_alloc0 (cell_alloc0 d1 (.cells #[.int .i64 u.k, .int .u32 u.v, .int .i64 u.op, .int .i64 u.a, .int .i64 u.b] 68)) (.cells #[.int .i64 0, .int .u32 0, .int .i64 0, .int .i64 0, .int .i64 0] 68)
  have r3d2 := cell_alloc0 (cell_alloc0 d2 (.cells #[.int .i64 u.k, .int .u32 u.v, .int .i64 u.op, .int .i64 u.a, .int .i64 u.b] 68)) (.cells #[.int .i64 0, .int .u32 0, .int .i64 0, .int .i64 0, .int .i64 0] 68)
  have r3d3 := cell_alloc0 (cell_alloc0 d3 (.cells #[.int .i64 u.k, .int .u32 u.v, .int .i64 u.op, .int .i64 u.a, .int .i64 u.b] 68)) (.cells #[.int .i64 0, .int .u32 0, .int .i64 0, .int .i64 0, .int .i64 0] 68)
  have r3d4 := cell_alloc0 (cell_alloc0 d4 (.cells #[.int .i64 u.k, .int .u32 u.v, .int .i64 u.op, .int .i64 u.a, .int .i64 u.b] 68)) (.cells #[.int .i64 0, .int .u32 0, .int .i64 0, .int .i64 0, .int .i64 0] 68)
  have r3e0 := cell_alloc0 (cell_alloc0 e0 (.cells #[.int .i64 u.k, .int .u32 u.v, .int .i64 u.op, .int .i64 u.a, .int .i64 u.b] 68)) (.cells #[.int .i64 0, .int .u32 0, .int .i64 0, .int .i64 0, .int .i64 0] 68)
  have r3e1 := cell_alloc0 (cell_alloc0 e1 (.cells #[.int .i64 u.k, .int .u32 u.v, .int .i64 u.op, .int .i64 u.a, .int .i64 u.b] 68)) (.cells #[.int .i64 0, .int .u32 0, .int .i64 0, .int .i64 0, .int .i64 0] 68)
  have r3e2 := cell_alloc0 (cell_alloc0 e2 (.cells #[.int .i64 u.k, .int .u32 u.v, .int .i64 u.op, .int .i64 u.a, .int .i64 u.b] 68)) (.cells #[.int .i64 0, .int .u32 0, .int .i64 0, .int .i64 0, .int .i64 0] 68)
  have r3e3 := cell_alloc0 (cell_alloc0 e3 (.cells #[.int .i64 u.k, .int .u32 u.v, .int .i64 u.op, .int .i64 u.a, .int .i64 u.b] 68)) (.cells #[.int .i64 0, .int .u32 0, .int .i64 0, .int .i64 0, .int .i64 0] 68)
  have r3e4 := cell_alloc0 (cell_alloc0 e4 (.cells #[.int .i64 u.k, .int .u32 u.v, .int .i64 u.op, .int .i64 u.a, .int .i64 u.b] 68)) (.cells #[.int .i64 0, .int .u32 0, .int .i64 0, .int .i64 0, .int .i64 0] 68)
  clear c0 hG hM hat hat2 hDo h
  go_upto_region 6 with fail
  go_cut [12, 13] from 50 to 63 (fun p q wx => ∃ ix iy : Nat, p = .pointer (some ⟨ix, 0, none⟩) ∧ q = .pointer (some ⟨iy, 0, none⟩) ∧ wx.heap[ix]? = some (.cells #[.int .i64 t.k, .int .u32 t.v, .int .i64 t.op, .int .i64 t.a, .int .i64 t.b] 68 (0, 0)) ∧ wx.heap[iy]? = some (.cells #[.int .i64 u.k, .int .u32 u.v, .int .i64 u.op, .int .i64 u.a, .int .i64 u.b] 68 (0, 0)) ∧ w1.heap.size ≤ ix ∧ w1.heap.size ≤ iy ∧ Below w1.heap.size w1 wx)
  case first =>
    go_region
    all_goals (go_wp2_with fail; go_meet)
    · exact ⟨w1.heap.size, w1.heap.size + 1, rfl, rfl, blk_alloc (blk_new w1 _) _, blk_top (by simp), Nat.le_refl _, by omega, (below_al (below_al (Below.refl _ _) _) _).drew⟩
    · exact ⟨w1.heap.size + 1, w1.heap.size, rfl, rfl, blk_top (by simp), blk_alloc (blk_new w1 _) _, by omega, Nat.le_refl _, (below_al (below_al (Below.refl _ _) _) _).drew⟩
  case rest =>
    obtain ⟨ix, iy, rfl, rfl, hix, hiy, lx, ly, bc⟩ := hcut
    have hR := hR1.below bc
    have bw := below_then b1 bc
    obtain ⟨x0, x1, x2, x3, x4⟩ := five_cells hix
    obtain ⟨y0, y1, y2, y3, y4⟩ := five_cells hiy
    have hR7 := hR.alloc (.cells #[.int .i64 27, .int .i64 36, .int .i64 35, .int .i64 32, .int .i64 37, .int .i64 38, .int .i64 40] 3)
    have bw7 := below_al bw (.cells #[.int .i64 27, .int .i64 36, .int .i64 35, .int .i64 32, .int .i64 37, .int .i64 38, .int .i64 40] 3)
    have xa0 := cell_alloc0 x0 (.cells #[.int .i64 27, .int .i64 36, .int .i64 35, .int .i64 32, .int .i64 37, .int .i64 38, .int .i64 40] 3)
    have xa1 := cell_alloc0 x1 (.cells #[.int .i64 27, .int .i64 36, .int .i64 35, .int .i64 32, .int .i64 37, .int .i64 38, .int .i64 40] 3)
    have ya0 := cell_alloc0 y0 (.cells #[.int .i64 27, .int .i64 36, .int .i64 35, .int .i64 32, .int .i64 37, .int .i64 38, .int .i64 40] 3)
    have ya1 := cell_alloc0 y1 (.cells #[.int .i64 27, .int .i64 36, .int .i64 35, .int .i64 32, .int .i64 37, .int .i64 38, .int .i64 40] 3)
    clear hix hiy lx ly bc hR1 b1
    go_wp2_with (first
      | (go_at_call 64; (with_reducible refine (hA _ _ (by simp)).mono ?_); rintro r w' ⟨rfl, rfl⟩)
      | fail)
    refine (hP _ _ hR7).mono ?_
    rintro r w4 ⟨rfl, b4⟩
    have hR4 := hR7.below b4
    have bw4 := below_then bw7 b4
    have ya0 := cell_below b4 ya0
    have ya1 := cell_below b4 ya1
    have xa0 := cell_below b4 xa0
    go_wp2_with fail
    refine (hD _ _ hR4).mono ?_
    rintro r w5 ⟨rfl, h5⟩
    go_wp2_with fail
    go_ret2
    exact ⟨rfl, RAdd.pre bw4 h5⟩
end Go.Proofs.YtaiggfknighhgaaGreatDoor
