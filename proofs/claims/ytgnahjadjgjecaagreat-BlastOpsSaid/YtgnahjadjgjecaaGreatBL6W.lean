/- Walk of the law BlastOps. -/
import Derived.Test.YtgnahjadjgjecaaGreatBLawA
import Derived.Test.YtgnahjadjgjecaaGreatTEval0
import Derived.Test.YtgnahjadjgjecaaGreatMask
set_option linter.unusedVariables false
set_option linter.unusedSimpArgs false
namespace Go.Proofs.YtgnahjadjgjecaaGreat
open Go.RowKit Go.Maps Go.MapKept

def bo3 : List Term := [varT 1, varT 2, varT 3]
def bo4 (k : Nat) : List Term := [varT 1, varT 2, varT 3, opT k 0 1]
theorem bo4_all : ∀ j, j < 10 → goodB (bo4 (27 + j)) = true ∧ chkO (bo4 (27 + j)) [3] [2] = 0 ∧ maskP (bo4 (27 + j)) (prs [3] [2]) = 14 ∧ (doW (27 + j) 0 0).isSome = true ∧ ins bo3 (opT (27 + j) 0 1) = bo4 (27 + j) ∧ pos bo3 (opT (27 + j) 0 1) = 3 := by decide +kernel
theorem bo4_ev (k : Nat) (x : Nat → Nat) : ev (bo4 k) x 3 = (doW k (x 1) (x 2)).getD 0 ∧ ev (bo4 k) x 2 = x 3 := by
  have e0 : ev (bo4 k) x 0 = x 1 := ev_var (ts := bo4 k) (n := 0) (by simp [bo4]) rfl
  have e1 : ev (bo4 k) x 1 = x 2 := ev_var (ts := bo4 k) (n := 1) (by simp [bo4]) rfl
  have e2 : ev (bo4 k) x 2 = x 3 := ev_var (ts := bo4 k) (n := 2) (by simp [bo4]) rfl
  have e3 := ev_op (ts := bo4 k) (x := x) (n := 3) (o := k) (a := 0) (b := 1) (by simp [bo4]) rfl (by omega) (by omega)
  rw [e0, e1] at e3
  exact ⟨e3, e2⟩
theorem bo4_dif (k : Nat) (x : Nat → Nat) : difP (bo4 k) x (prs [3] [2]) = ((doW k (x 1) (x 2)).getD 0 != x 3) := by
  obtain ⟨h1, h2⟩ := bo4_ev k x
  rw [← h1, ← h2]
  show (ev (bo4 k) x 3 != ev (bo4 k) x 2 || false) = _
  rw [Bool.or_false]
def x3 (a b c : Nat) : Nat → Nat := fun r => if r = 1 then a else if r = 2 then b else if r = 3 then c else 0
theorem x3_lt {a b c : Nat} (ha : a < 4294967296) (hb : b < 4294967296) (hc : c < 4294967296) (r : Nat) : x3 a b c r < 4294967296 := by unfold x3; split; exact ha; split; exact hb; split; exact hc; omega
theorem x3_arr (a b c : Nat) : (#[.int .u32 0, .int .u32 (a : Int), .int .u32 (b : Int), .int .u32 (c : Int), .int .u32 0, .int .u32 0, .int .u32 0, .int .u32 0, .int .u32 0, .int .u32 0, .int .u32 0, .int .u32 0, .int .u32 0, .int .u32 0, .int .u32 0, .int .u32 0, .int .u32 0, .int .u32 0, .int .u32 0, .int .u32 0, .int .u32 0, .int .u32 0, .int .u32 0, .int .u32 0, .int .u32 0, .int .u32 0, .int .u32 0, .int .u32 0, .int .u32 0, .int .u32 0, .int .u32 0, .int .u32 0] : Array Value) = regB (x3 a b c) := by rfl
theorem x3_ext (a b c v : Nat) : regB (fun r => if r = 3 then v else x3 a b c r) = regB (x3 a b v) := regB_ext fun r _ => by
  unfold x3
  by_cases h : r = 3
  · subst h; rfl
  · simp only [if_neg h]
theorem neq_u32_exec {oi : Oper} {a : Act} {m n : Nat} (x y : Operand) (t t2 : TypeId) (ho : oi.op = .binOp .neq t x y t2) (hx : a.eval x = .int .u32 (m : Int)) (hy : a.eval y = .int .u32 (n : Int)) (w : World) : (execOp a.eval oi).run Tryz.prog w = .ok (.value (.bool (m != n))) w := by
  unfold execOp
  simp only [ho, hx, hy]
  have h : ((m : Int) != (n : Int)) = (m != n) := by
    rw [Bool.eq_iff_iff]
    simp only [bne_iff_ne, ne_eq]
    omega
  simp [eqGuard, binOp, Op.intCmp, h]
set_option maxRecDepth 100000 in
set_option maxHeartbeats 40000000 in
theorem blaw6_any (op : Int) (x0 x1 x2 : Nat) (hx0 : x0 < 4294967296) (hx1 : x1 < 4294967296) (hx2 : x2 < 4294967296) (w : World) :
    Calls Tryz.prog 7 #[.int .i64 op, .agg #[.int .u32 (x0 : Int), .int .u32 (x1 : Int), .int .u32 (x2 : Int)]] w fun r w' => r = .returned (.bool true) ∧ Below w.heap.size w w' := by
  have bA : Below w.heap.size w (w.alloc (.cells #[.int .u32 (x0 : Int), .int .u32 (x1 : Int), .int .u32 (x2 : Int)] 53)) := (Below.refl w.heap.size w).alloc (Nat.le_refl _) _
  have yx := blk_new w (.cells #[.int .u32 (x0 : Int), .int .u32 (x1 : Int), .int .u32 (x2 : Int)] 53)
  have sA : (w.alloc (.cells #[.int .u32 (x0 : Int), .int .u32 (x1 : Int), .int .u32 (x2 : Int)] 53)).heap.size = w.heap.size + 1 := by simp
  obtain ⟨K, hK⟩ : ∃ K : Nat → Prop, (fun i => i < (w.alloc (.cells #[.int .u32 (x0 : Int), .int .u32 (x1 : Int), .int .u32 (x2 : Int)] 53)).heap.size) = K := ⟨_, rfl⟩
  have hN := new_any (fun i => i < (w.alloc (.cells #[.int .u32 (x0 : Int), .int .u32 (x1 : Int), .int .u32 (x2 : Int)] 53)).heap.size) (w.alloc (.cells #[.int .u32 (x0 : Int), .int .u32 (x1 : Int), .int .u32 (x2 : Int)] 53)) (fun i hi => hi)
  have hKi : ∀ i, K i → i < (w.alloc (.cells #[.int .u32 (x0 : Int), .int .u32 (x1 : Int), .int .u32 (x2 : Int)] 53)).heap.size := fun i h => by rw [← hK] at h; exact h
  have hKw : ∀ i, i < w.heap.size + 1 → K i := fun i h => by rw [← hK]; show i < _; omega
  rw [hK] at hN
  clear hK
  obtain ⟨m, hm⟩ : ∃ m : Nat, op % 65536 = (m : Int) := ⟨(op % 65536).toNat, by omega⟩
  have hband := i64_ffff op
  rw [hm] at hband
  have hj : m % 10 < 10 := Nat.mod_lt _ (by omega)
  have hrem : (m : Int) % 10 = ((m % 10 : Nat) : Int) := (Int.natCast_emod m 10).symm
  generalize m % 10 = j at hj hrem
  clear hm
  have hadd : wrap64 (27 + (j : Int)) = 27 + (j : Int) := by unfold wrap64; omega
  have HKW := Lib.hid hKw
  have HKI := Lib.hid hKi
  clear hKw hKi
  go_enter Tryz.func7, Tryz.ntmps7
  go_wp2_with fail
  generalize (w.alloc (.cells #[.int .u32 (x0 : Int), .int .u32 (x1 : Int), .int .u32 (x2 : Int)] 53)) = wA at *
  generalize hb : wA.heap.size = b at hN
  have HB := Lib.hid hb
  clear hb
  refine hN.mono ?_
  rintro r w0 ⟨rfl, h0, b0⟩
  have k0 : Kept K wA w0 := Kept.below (by rw [HB.out]; exact b0)
  clear hN b0
  go_wp2_with fail
  refine (var_lit K b [] bx1 1 0 1 0 rfl rfl (by omega) (by decide) (by decide +kernel) (by decide +kernel) w0 h0).mono ?_
  rintro r w1 ⟨rfl, h1, q1⟩
  have k1 := k0.trans q1
  clear h0 k0 q1
  go_wp2_with fail
  refine (var_lit K b bx1 bx2 2 1 2 1 rfl rfl (by omega) (by decide) (by decide +kernel) (by decide +kernel) w1 h1).mono ?_
  rintro r w2 ⟨rfl, h2, q2⟩
  have k2 := k1.trans q2
  clear h1 k1 q2
  go_wp2_with fail
  refine (var_lit K b bx2 bo3 3 2 3 2 rfl rfl (by omega) (by decide) (by decide +kernel) (by decide +kernel) w2 h2).mono ?_
  rintro r w3 ⟨rfl, h3, q3⟩
  have k3 := k2.trans q3
  clear h2 k2 q3
  go_wp2_with fail
  obtain ⟨hg0, hyes, hmask, hsome, hins, hpos⟩ := bo4_all j hj
  have hG := good_of hg0
  refine (op_lit K b bo3 (bo4 (27 + j)) (27 + j) 0 1 3 (27 + (j : Int)) 0 1 3 (by omega) rfl rfl rfl (by decide) (by decide) (by decide) hsome hins hpos w3 h3).mono ?_
  rintro r w4 ⟨rfl, h4, q4⟩
  have k4 := k3.trans q4
  clear h3 k3 q4
  clear hg0 hband hrem hadd hsome hins hpos
  generalize hkk : 27 + j = kk at *
  have hs4 : ∀ i, K i → i < w4.heap.size := fun i hi => Nat.lt_of_lt_of_le (HKI.out i hi) k4.size
  go_wp2_with fail
  refine (dif_one K K b (bo4 kk) hG (by simp [bo4]) 3 2 3 2 rfl rfl (by omega) (by omega) w4 hs4 h4 hyes).mono ?_
  rintro r w5 ⟨q, gs, sx, rfl, ⟨hQ, hok, b5⟩⟩
  have k5 := k4.trans (Kept.below b5)
  have h5 := h4.below b5
  clear h4 k4 hs4 b5
  have yx := k5.blk (HKW.out _ (by omega)) yx
  obtain ⟨d0, d1, d2⟩ : w5.cell? ⟨w.heap.size, 0, none⟩ = some (.int .u32 (x0 : Int)) ∧ w5.cell? ⟨w.heap.size, 1, none⟩ = some (.int .u32 (x1 : Int)) ∧ w5.cell? ⟨w.heap.size, 2, none⟩ = some (.int .u32 (x2 : Int)) := ⟨(cell_of yx 0).trans rfl, (cell_of yx 1).trans rfl, (cell_of yx 2).trans rfl⟩
  have zz := blk_new w5 (.cells #[.int .u32 0, .int .u32 0, .int .u32 0, .int .u32 0, .int .u32 0, .int .u32 0, .int .u32 0, .int .u32 0, .int .u32 0, .int .u32 0, .int .u32 0, .int .u32 0, .int .u32 0, .int .u32 0, .int .u32 0, .int .u32 0, .int .u32 0, .int .u32 0, .int .u32 0, .int .u32 0, .int .u32 0, .int .u32 0, .int .u32 0, .int .u32 0, .int .u32 0, .int .u32 0, .int .u32 0, .int .u32 0, .int .u32 0, .int .u32 0, .int .u32 0, .int .u32 0] 27)
  have yr : ((w5.alloc (.cells #[.int .u32 0, .int .u32 0, .int .u32 0, .int .u32 0, .int .u32 0, .int .u32 0, .int .u32 0, .int .u32 0, .int .u32 0, .int .u32 0, .int .u32 0, .int .u32 0, .int .u32 0, .int .u32 0, .int .u32 0, .int .u32 0, .int .u32 0, .int .u32 0, .int .u32 0, .int .u32 0, .int .u32 0, .int .u32 0, .int .u32 0, .int .u32 0, .int .u32 0, .int .u32 0, .int .u32 0, .int .u32 0, .int .u32 0, .int .u32 0, .int .u32 0, .int .u32 0] 27)).setRow w5.heap.size (regB (x3 x0 x1 x2))).heap[w5.heap.size]? = some (.cells (regB (x3 x0 x1 x2)) 27 (0, 0)) := setRow_heap _ _ _ _ _ _ zz
  have bx : Below w5.heap.size w5 ((w5.alloc (.cells #[.int .u32 0, .int .u32 0, .int .u32 0, .int .u32 0, .int .u32 0, .int .u32 0, .int .u32 0, .int .u32 0, .int .u32 0, .int .u32 0, .int .u32 0, .int .u32 0, .int .u32 0, .int .u32 0, .int .u32 0, .int .u32 0, .int .u32 0, .int .u32 0, .int .u32 0, .int .u32 0, .int .u32 0, .int .u32 0, .int .u32 0, .int .u32 0, .int .u32 0, .int .u32 0, .int .u32 0, .int .u32 0, .int .u32 0, .int .u32 0, .int .u32 0, .int .u32 0] 27)).setRow w5.heap.size (regB (x3 x0 x1 x2))) := below_row ((Below.refl w5.heap.size w5).alloc (Nat.le_refl _) _) (Nat.le_refl _) _
  have hxl := x3_lt hx0 hx1 hx2
  go_wp2_with (first | (refine wpList_store_row rfl 27 (.tmp 17) (.tmp 77) rfl w5.heap.size (regB (x3 x0 x1 x2)) rfl (by rw [← x3_arr]; rfl) 27 _ zz (by rw [regB_size]; exact info_regs) (by rw [regB_size]; rfl) (regB_one _) ?_) | (refine wpList_load_row rfl 27 (.tmp 17) rfl w5.heap.size rfl 27 (regB (x3 x0 x1 x2)) (0, 0) _ yr Tryz.underlying27 rfl (by rw [regB_size]; exact info_regs) ?_) | fail)
  clear zz d0 d1 d2
  generalize (w5.alloc (.cells #[.int .u32 0, .int .u32 0, .int .u32 0, .int .u32 0, .int .u32 0, .int .u32 0, .int .u32 0, .int .u32 0, .int .u32 0, .int .u32 0, .int .u32 0, .int .u32 0, .int .u32 0, .int .u32 0, .int .u32 0, .int .u32 0, .int .u32 0, .int .u32 0, .int .u32 0, .int .u32 0, .int .u32 0, .int .u32 0, .int .u32 0, .int .u32 0, .int .u32 0, .int .u32 0, .int .u32 0, .int .u32 0, .int .u32 0, .int .u32 0, .int .u32 0, .int .u32 0] 27)).setRow w5.heap.size (regB (x3 x0 x1 x2)) = w6 at *
  have h6 := h5.below bx
  have hQ := QAt.below hQ bx
  have k6 := k5.trans (Kept.below bx)
  have yx := blk_below yx bx
  clear h5 k5
  refine (eval_any K b 3 (bo4 kk) (x3 x0 x1 x2) hxl (by simp [bo4]) (by simp [bo4]) hG w6 h6).mono ?_
  rintro r w7 ⟨rfl, bb⟩
  have hv := ev_lt hG hxl 3 (by simp [bo4])
  rw [(bo4_ev kk (x3 x0 x1 x2)).1] at hv ⊢
  have hQ := QAt.below hQ bb
  have k7 := k6.trans (Kept.below bb)
  have yx := blk_below yx bb
  have yr := blk_below yr bb
  have g67 := bb.size
  clear h6 k6 bb
  have hd1 := bo4_dif kk (x3 x0 x1 x2)
  generalize hvv : (doW kk (x3 x0 x1 x2 1) (x3 x0 x1 x2 2)).getD 0 = v at *
  have hd2 : difP (bo4 kk) (x3 x0 x1 v) (prs [3] [2]) = false := by
    rw [bo4_dif, show x3 x0 x1 v 1 = x3 x0 x1 x2 1 from rfl, show x3 x0 x1 v 2 = x3 x0 x1 x2 2 from rfl, hvv]
    show (v != v) = false
    simp
  have hd1 : difP (bo4 kk) (x3 x0 x1 x2) (prs [3] [2]) = (v != x2) := hd1
  have zz := blk_new w7 (.cells #[.int .u32 0, .int .u32 0, .int .u32 0, .int .u32 0, .int .u32 0, .int .u32 0, .int .u32 0, .int .u32 0, .int .u32 0, .int .u32 0, .int .u32 0, .int .u32 0, .int .u32 0, .int .u32 0, .int .u32 0, .int .u32 0, .int .u32 0, .int .u32 0, .int .u32 0, .int .u32 0, .int .u32 0, .int .u32 0, .int .u32 0, .int .u32 0, .int .u32 0, .int .u32 0, .int .u32 0, .int .u32 0, .int .u32 0, .int .u32 0, .int .u32 0, .int .u32 0] 27)
  have yq : ((w7.alloc (.cells #[.int .u32 0, .int .u32 0, .int .u32 0, .int .u32 0, .int .u32 0, .int .u32 0, .int .u32 0, .int .u32 0, .int .u32 0, .int .u32 0, .int .u32 0, .int .u32 0, .int .u32 0, .int .u32 0, .int .u32 0, .int .u32 0, .int .u32 0, .int .u32 0, .int .u32 0, .int .u32 0, .int .u32 0, .int .u32 0, .int .u32 0, .int .u32 0, .int .u32 0, .int .u32 0, .int .u32 0, .int .u32 0, .int .u32 0, .int .u32 0, .int .u32 0, .int .u32 0] 27)).setRow w7.heap.size (regB (x3 x0 x1 x2))).heap[w7.heap.size]? = some (.cells (regB (x3 x0 x1 x2)) 27 (0, 0)) := setRow_heap _ _ _ _ _ _ zz
  have hfz := frozen_of yq 3
  have hq3 := regB_cell yq (r := 3) (by omega)
  have yq2 := blk_set yq 3 (.int .u32 (v : Int))
  rw [regB_set, x3_ext] at yq2
  have bx : Below w7.heap.size w7 (((w7.alloc (.cells #[.int .u32 0, .int .u32 0, .int .u32 0, .int .u32 0, .int .u32 0, .int .u32 0, .int .u32 0, .int .u32 0, .int .u32 0, .int .u32 0, .int .u32 0, .int .u32 0, .int .u32 0, .int .u32 0, .int .u32 0, .int .u32 0, .int .u32 0, .int .u32 0, .int .u32 0, .int .u32 0, .int .u32 0, .int .u32 0, .int .u32 0, .int .u32 0, .int .u32 0, .int .u32 0, .int .u32 0, .int .u32 0, .int .u32 0, .int .u32 0, .int .u32 0, .int .u32 0] 27)).setRow w7.heap.size (regB (x3 x0 x1 x2))).setCell ⟨w7.heap.size, 3, none⟩ (.int .u32 (v : Int))) := below_set (below_row ((Below.refl w7.heap.size w7).alloc (Nat.le_refl _) _) (Nat.le_refl _) _) (Nat.le_refl _) 3 _
  have hQ8 := QAt.below hQ bx
  have hC := cnf_any K q gs _ hok.clen hok.rows _ hQ8
  go_wp2_with (first | (refine wpList_store_row rfl 27 (.tmp 20) (.tmp 85) rfl w7.heap.size (regB (x3 x0 x1 x2)) rfl rfl 27 _ zz (by rw [regB_size]; exact info_regs) (by rw [regB_size]; rfl) (regB_one _) ?_) | (refine wpList_load_row rfl 27 (.tmp 17) rfl w5.heap.size rfl 27 (regB (x3 x0 x1 x2)) (0, 0) _ yr Tryz.underlying27 rfl (by rw [regB_size]; exact info_regs) ?_) | fail)
  generalize ((w7.alloc (.cells #[.int .u32 0, .int .u32 0, .int .u32 0, .int .u32 0, .int .u32 0, .int .u32 0, .int .u32 0, .int .u32 0, .int .u32 0, .int .u32 0, .int .u32 0, .int .u32 0, .int .u32 0, .int .u32 0, .int .u32 0, .int .u32 0, .int .u32 0, .int .u32 0, .int .u32 0, .int .u32 0, .int .u32 0, .int .u32 0, .int .u32 0, .int .u32 0, .int .u32 0, .int .u32 0, .int .u32 0, .int .u32 0, .int .u32 0, .int .u32 0, .int .u32 0, .int .u32 0] 27)).setRow w7.heap.size (regB (x3 x0 x1 x2))).setCell ⟨w7.heap.size, 3, none⟩ (.int .u32 (v : Int)) = w8 at *
  have k8 := k7.trans (Kept.below bx)
  have yx := blk_below yx bx
  have yr := blk_below yr bx
  have g78 := bx.size
  clear zz yq hfz hq3 hQ k7 bx
  refine hC.mono ?_
  rintro r w9 ⟨vC, rfl, rC, bb⟩
  obtain ⟨A9, c9, rfl, _, _, _⟩ := (Own.toSl rC 0).open_
  have hQ := QAt.below hQ8 bb
  have k9 := k8.trans (Kept.below bb)
  have yx := blk_below yx bb
  have yr := blk_below yr bb
  have yq := blk_below yq2 bb
  clear hC hQ8 k8 bb yq2
  have zc := blk_new w9 (.cells #[.int .i64 ((gs.length : Int) + 1), .slice A9 (queryC gs sx).length c9] 40)
  have bx := (Below.refl w9.heap.size w9).alloc (Nat.le_refl _) (.cells #[.int .i64 ((gs.length : Int) + 1), .slice A9 (queryC gs sx).length c9] 40)
  go_upto_region 17 with fail
  generalize w9.alloc (.cells #[.int .i64 ((gs.length : Int) + 1), .slice A9 (queryC gs sx).length c9] 40) = wz at *
  have hQ := QAt.below hQ bx
  have kz := k9.trans (Kept.below bx)
  have yx := blk_below yx bx
  have yr := blk_below yr bx
  have yq := blk_below yq bx
  have rC := Rows.later rC bx
  clear bx k9
  have hRG : regB (regsOf (vals (x3 x0 x1 x2) gs) gs) = regB (x3 x0 x1 x2) := regB_ext fun r hr => by rw [hok.q.only hxl r, hmask]; clear hmask; unfold x3; revert r; intro r hr; by_cases h1 : r = 1; (subst h1; rfl); by_cases h2 : r = 2; (subst h2; rfl); by_cases h3 : r = 3; (subst h3; rfl); rw [if_neg h1, if_neg h2, if_neg h3]; split <;> rfl
  have bd : Below wz.heap.size wz wz.drew := below_drewN (Below.refl _ _) 1
  have hQ := QAt.below hQ bd
  have kz := kz.trans (Kept.below bd)
  have yx := blk_below yx bd
  have yr := blk_below yr bd
  have yq := blk_below yq bd
  have zc := blk_below zc bd
  have rC := Rows.later rC bd
  clear bd
  refine wp_region_any (by kernel_rfl) (wpAny_of_held (S := fun w' => w'.rangeAt w.heap.size 0 [.int .u32 (x0 : Int), .int .u32 (x1 : Int), .int .u32 (x2 : Int)] ∧ w'.rangeAt w5.heap.size 0 (regB (x3 x0 x1 x2)).toList ∧ w'.rangeAt w7.heap.size 0 (regB (x3 x0 x1 v)).toList ∧ w'.rangeAt w9.heap.size 0 [.int .i64 ((gs.length : Int) + 1), .slice A9 (queryC gs sx).length c9]) _ _ _ _ ?_)
  change wpAnyH _ _ _ _ _ 35 _ _ wz.drew
  generalize wz.drew = v0 at *
  have hSd : v0.rangeAt w.heap.size 0 [.int .u32 (x0 : Int), .int .u32 (x1 : Int), .int .u32 (x2 : Int)] ∧ v0.rangeAt w5.heap.size 0 (regB (x3 x0 x1 x2)).toList ∧ v0.rangeAt w7.heap.size 0 (regB (x3 x0 x1 v)).toList ∧ v0.rangeAt w9.heap.size 0 [.int .i64 ((gs.length : Int) + 1), .slice A9 (queryC gs sx).length c9] := ⟨range_row yx, range_row yr, range_row yq, range_row zc⟩
  refine wpAnyH_val (i := 0) (v := (.int .i64 0)) (some 90) rfl rfl (by kernel_rfl) (by kernel_rfl) (by kernel_rfl) (fun _ _ _ h => h) (Or.inl ⟨by kernel_rfl, fun w9 hw9 => by kernel_rfl⟩) hSd ?_
  refine wpAnyH_val (i := 1) (v := (.bool true)) (some 91) rfl rfl (by kernel_rfl) (by kernel_rfl) (by kernel_rfl) (fun _ _ _ h => h) (Or.inl ⟨by kernel_rfl, fun w9 hw9 => by kernel_rfl⟩) hSd ?_
  refine wpAnyH_val (i := 2) (v := (.bool true)) (some 92) rfl rfl (by kernel_rfl) (by kernel_rfl) (by kernel_rfl) (fun _ _ _ h => h) (Or.inl ⟨by kernel_rfl, fun w9 hw9 => by kernel_rfl⟩) hSd ?_
  refine wpAnyH_val (i := 3) (v := (.agg #[.int .i64 ((gs.length : Int) + 1), .slice A9 (queryC gs sx).length c9])) (some 93) rfl rfl (by kernel_rfl) (by kernel_rfl) (by kernel_rfl) (fun _ _ _ h => h) (yieldsIf_load_mid (by kernel_rfl) 40 (.tmp 21) rfl w9.heap.size 0 (by kernel_rfl) [.int .i64 ((gs.length : Int) + 1), .slice A9 (queryC gs sx).length c9] _ (fun w hw => hw.2.2.2) Tryz.underlying40 rfl (by kernel_rfl)) hSd ?_
  refine wpAnyH_val (i := 4) (v := (.pointer (some ⟨q, 0, none⟩))) (some 94) rfl rfl (by kernel_rfl) (by kernel_rfl) (by kernel_rfl) (fun _ _ _ h => h) (Or.inl ⟨by kernel_rfl, fun w9 hw9 => by kernel_rfl⟩) hSd ?_
  refine wpAnyH_val (i := 5) (v := (.agg (regB (x3 x0 x1 x2)))) (some 95) rfl rfl (by kernel_rfl) (by kernel_rfl) (by kernel_rfl) (fun _ _ _ h => h) (yieldsIf_load_mid (by kernel_rfl) 27 (.tmp 17) rfl w5.heap.size 0 (by kernel_rfl) (regB (x3 x0 x1 x2)).toList _ (fun w hw => hw.2.1) Tryz.underlying27 rfl (by rw [Array.length_toList, regB_size]; exact info_regs)) hSd ?_
  refine wpAnyH_val (i := 8) (v := (.int .u32 (v : Int))) (some 98) rfl rfl (by kernel_rfl) (by kernel_rfl) (by kernel_rfl) (fun _ _ _ h => h) (Or.inl ⟨by kernel_rfl, fun w9 hw9 => by kernel_rfl⟩) hSd ?_
  refine wpAnyH_val (i := 9) (v := (.pointer (some ⟨w.heap.size, 2, none⟩))) (some 99) rfl rfl (by kernel_rfl) (by kernel_rfl) (by kernel_rfl) (fun _ _ _ h => h) (Or.inl ⟨by kernel_rfl, fun w9 hw9 => by kernel_rfl⟩) hSd ?_
  refine wpAnyH_val (i := 10) (v := (.int .u32 (x2 : Int))) (some 100) rfl rfl (by kernel_rfl) (by kernel_rfl) (by kernel_rfl) (fun _ _ _ h => h) (yieldsIf_cell (by kernel_rfl) 26 (.tmp 99) rfl (w.heap.size) 2 (by kernel_rfl) (.int .u32 (x2 : Int)) (fun w => by kernel_rfl) (fun w hw => range_cell (i := 2) hw.1 rfl)) hSd ?_
  refine wpAnyH_val (i := 11) (v := (.bool (v != x2))) (some 101) rfl rfl (by kernel_rfl) (by kernel_rfl) (by kernel_rfl) (fun _ _ _ h => h) (Or.inl ⟨by kernel_rfl, fun w9 hw9 => neq_u32_exec (m := v) (n := x2) (.tmp 98) (.tmp 100) 26 26 rfl (by kernel_rfl) (by kernel_rfl) w9⟩) hSd ?_
  have hT := values_any K q gs _ hok.q.good (by have := hok.glen; omega) (x3 x0 x1 x2) hxl v0 hQ
  refine wpAnyH_call (i := 6) (f := 13) (some 96) rfl rfl (by kernel_rfl) (by kernel_rfl) (by kernel_rfl) (Calls.mono (hT) ?_)
  rintro rr v1 ⟨vV1, rfl, oV1, bb⟩
  have hQ := QAt.below hQ bb
  have kz := kz.trans (Kept.below bb)
  have yx := blk_below yx bb
  have yr := blk_below yr bb
  have yq := blk_below yq bb
  have zc := blk_below zc bb
  have rC := Rows.later rC bb
  have hSd : v1.rangeAt w.heap.size 0 [.int .u32 (x0 : Int), .int .u32 (x1 : Int), .int .u32 (x2 : Int)] ∧ v1.rangeAt w5.heap.size 0 (regB (x3 x0 x1 x2)).toList ∧ v1.rangeAt w7.heap.size 0 (regB (x3 x0 x1 v)).toList ∧ v1.rangeAt w9.heap.size 0 [.int .i64 ((gs.length : Int) + 1), .slice A9 (queryC gs sx).length c9] := ⟨range_row yx, range_row yr, range_row yq, range_row zc⟩
  refine ⟨_, rfl, hSd, ?_⟩
  clear hT bb
  have hT := ctrue_any 0 _ ((gs.length : Int) + 1) (vals (x3 x0 x1 x2) gs) (by rw [vals_len]; have := hok.glen; omega) vV1 _ _ hok.litsOk v1 rC (oV1.toSl 0)
  rw [hok.all hxl, hd1] at hT
  refine wpAnyH_call (i := 7) (f := 20) (some 97) rfl rfl (by kernel_rfl) (by kernel_rfl) (by kernel_rfl) (Calls.mono (hT) ?_)
  rintro rr v2 ⟨rfl, bb⟩
  have hQ := QAt.below hQ bb
  have kz := kz.trans (Kept.below bb)
  have yx := blk_below yx bb
  have yr := blk_below yr bb
  have yq := blk_below yq bb
  have zc := blk_below zc bb
  have rC := Rows.later rC bb
  have oV1 := OwnB.later oV1 bb
  have hSd : v2.rangeAt w.heap.size 0 [.int .u32 (x0 : Int), .int .u32 (x1 : Int), .int .u32 (x2 : Int)] ∧ v2.rangeAt w5.heap.size 0 (regB (x3 x0 x1 x2)).toList ∧ v2.rangeAt w7.heap.size 0 (regB (x3 x0 x1 v)).toList ∧ v2.rangeAt w9.heap.size 0 [.int .i64 ((gs.length : Int) + 1), .slice A9 (queryC gs sx).length c9] := ⟨range_row yx, range_row yr, range_row yq, range_row zc⟩
  refine ⟨_, rfl, hSd, ?_⟩
  clear hT bb
  refine wpAnyH_val (i := 12) (v := (.bool true)) (some 102) rfl rfl (by kernel_rfl) (by kernel_rfl) (by kernel_rfl) (fun _ _ _ h => h) (Or.inl ⟨by kernel_rfl, fun w9 hw9 => eq_bool_exec (p := (v != x2)) (.tmp 97) (.tmp 101) 4 rfl (by kernel_rfl) (by kernel_rfl) w9⟩) hSd ?_
  refine wpAnyH_val (i := 13) (v := (.bool true)) (some 103) rfl rfl (by kernel_rfl) (by kernel_rfl) (by kernel_rfl) (fun _ _ _ h => h) (Or.inl ⟨by kernel_rfl, fun w9 hw9 => by kernel_rfl⟩) hSd ?_
  refine wpAnyH_val (i := 14) (v := (.bool true)) (some 104) rfl rfl (by kernel_rfl) (by kernel_rfl) (by kernel_rfl) (fun _ _ _ h => h) (Or.inl ⟨by kernel_rfl, fun w9 hw9 => by kernel_rfl⟩) hSd ?_
  refine wpAnyH_val (i := 15) (v := (.agg #[.int .i64 ((gs.length : Int) + 1), .slice A9 (queryC gs sx).length c9])) (some 105) rfl rfl (by kernel_rfl) (by kernel_rfl) (by kernel_rfl) (fun _ _ _ h => h) (yieldsIf_load_mid (by kernel_rfl) 40 (.tmp 21) rfl w9.heap.size 0 (by kernel_rfl) [.int .i64 ((gs.length : Int) + 1), .slice A9 (queryC gs sx).length c9] _ (fun w hw => hw.2.2.2) Tryz.underlying40 rfl (by kernel_rfl)) hSd ?_
  refine wpAnyH_val (i := 16) (v := (.pointer (some ⟨q, 0, none⟩))) (some 106) rfl rfl (by kernel_rfl) (by kernel_rfl) (by kernel_rfl) (fun _ _ _ h => h) (Or.inl ⟨by kernel_rfl, fun w9 hw9 => by kernel_rfl⟩) hSd ?_
  refine wpAnyH_val (i := 17) (v := (.agg (regB (x3 x0 x1 v)))) (some 107) rfl rfl (by kernel_rfl) (by kernel_rfl) (by kernel_rfl) (fun _ _ _ h => h) (yieldsIf_load_mid (by kernel_rfl) 27 (.tmp 20) rfl w7.heap.size 0 (by kernel_rfl) (regB (x3 x0 x1 v)).toList _ (fun w hw => hw.2.2.1) Tryz.underlying27 rfl (by rw [Array.length_toList, regB_size]; exact info_regs)) hSd ?_
  have hT := values_any K q gs _ hok.q.good (by have := hok.glen; omega) (x3 x0 x1 v) (x3_lt hx0 hx1 hv) v2 hQ
  refine wpAnyH_call (i := 18) (f := 13) (some 108) rfl rfl (by kernel_rfl) (by kernel_rfl) (by kernel_rfl) (Calls.mono (hT) ?_)
  rintro rr v3 ⟨vV2, rfl, oV2, bb⟩
  have hQ := QAt.below hQ bb
  have kz := kz.trans (Kept.below bb)
  have yx := blk_below yx bb
  have yr := blk_below yr bb
  have yq := blk_below yq bb
  have zc := blk_below zc bb
  have rC := Rows.later rC bb
  have oV1 := OwnB.later oV1 bb
  have hSd : v3.rangeAt w.heap.size 0 [.int .u32 (x0 : Int), .int .u32 (x1 : Int), .int .u32 (x2 : Int)] ∧ v3.rangeAt w5.heap.size 0 (regB (x3 x0 x1 x2)).toList ∧ v3.rangeAt w7.heap.size 0 (regB (x3 x0 x1 v)).toList ∧ v3.rangeAt w9.heap.size 0 [.int .i64 ((gs.length : Int) + 1), .slice A9 (queryC gs sx).length c9] := ⟨range_row yx, range_row yr, range_row yq, range_row zc⟩
  refine ⟨_, rfl, hSd, ?_⟩
  clear hT bb
  have hT := rtrue_any _ 0 ((gs.length : Int) + 1) _ (vals (x3 x0 x1 v) gs) _ vV2 (by rw [vals_len]; have := hok.glen; omega) v3 rC (oV2.toSl 0)
  rw [hok.holds (x3_lt hx0 hx1 hv), hd2] at hT
  refine wpAnyH_call (i := 19) (f := 16) (some 109) rfl rfl (by kernel_rfl) (by kernel_rfl) (by kernel_rfl) (Calls.mono (hT) ?_)
  rintro rr v4 ⟨rfl, bb⟩
  have hQ := QAt.below hQ bb
  have kz := kz.trans (Kept.below bb)
  have yx := blk_below yx bb
  have yr := blk_below yr bb
  have yq := blk_below yq bb
  have zc := blk_below zc bb
  have rC := Rows.later rC bb
  have oV1 := OwnB.later oV1 bb
  have oV2 := OwnB.later oV2 bb
  have hSd : v4.rangeAt w.heap.size 0 [.int .u32 (x0 : Int), .int .u32 (x1 : Int), .int .u32 (x2 : Int)] ∧ v4.rangeAt w5.heap.size 0 (regB (x3 x0 x1 x2)).toList ∧ v4.rangeAt w7.heap.size 0 (regB (x3 x0 x1 v)).toList ∧ v4.rangeAt w9.heap.size 0 [.int .i64 ((gs.length : Int) + 1), .slice A9 (queryC gs sx).length c9] := ⟨range_row yx, range_row yr, range_row yq, range_row zc⟩
  refine ⟨_, rfl, hSd, ?_⟩
  clear hT bb
  refine wpAnyH_val (i := 20) (v := (.bool true)) (some 110) rfl rfl (by kernel_rfl) (by kernel_rfl) (by kernel_rfl) (fun _ _ _ h => h) (Or.inl ⟨by kernel_rfl, fun w9 hw9 => by kernel_rfl⟩) hSd ?_
  refine wpAnyH_val (i := 21) (v := (.bool true)) (some 111) rfl rfl (by kernel_rfl) (by kernel_rfl) (by kernel_rfl) (fun _ _ _ h => h) (Or.inl ⟨by kernel_rfl, fun w9 hw9 => by kernel_rfl⟩) hSd ?_
  refine wpAnyH_val (i := 22) (v := (.bool true)) (some 112) rfl rfl (by kernel_rfl) (by kernel_rfl) (by kernel_rfl) (fun _ _ _ h => h) (Or.inl ⟨by kernel_rfl, fun w9 hw9 => by kernel_rfl⟩) hSd ?_
  refine wpAnyH_val (i := 23) (v := (.pointer (some ⟨q, 0, none⟩))) (some 113) rfl rfl (by kernel_rfl) (by kernel_rfl) (by kernel_rfl) (fun _ _ _ h => h) (Or.inl ⟨by kernel_rfl, fun w9 hw9 => by kernel_rfl⟩) hSd ?_
  refine wpAnyH_val (i := 24) (v := (.pointer (some ⟨q, 0, none⟩))) (some 114) rfl rfl (by kernel_rfl) (by kernel_rfl) (by kernel_rfl) (fun _ _ _ h => h) (Or.inl ⟨by kernel_rfl, fun w9 hw9 => by kernel_rfl⟩) hSd ?_
  refine wpAnyH_val (i := 25) (v := (.agg (regB (x3 x0 x1 x2)))) (some 115) rfl rfl (by kernel_rfl) (by kernel_rfl) (by kernel_rfl) (fun _ _ _ h => h) (yieldsIf_load_mid (by kernel_rfl) 27 (.tmp 17) rfl w5.heap.size 0 (by kernel_rfl) (regB (x3 x0 x1 x2)).toList _ (fun w hw => hw.2.1) Tryz.underlying27 rfl (by rw [Array.length_toList, regB_size]; exact info_regs)) hSd ?_
  refine wpAnyH_val (i := 28) (v := (.agg (regB (x3 x0 x1 x2)))) (some 118) rfl rfl (by kernel_rfl) (by kernel_rfl) (by kernel_rfl) (fun _ _ _ h => h) (yieldsIf_load_mid (by kernel_rfl) 27 (.tmp 17) rfl w5.heap.size 0 (by kernel_rfl) (regB (x3 x0 x1 x2)).toList _ (fun w hw => hw.2.1) Tryz.underlying27 rfl (by rw [Array.length_toList, regB_size]; exact info_regs)) hSd ?_
  have hT := values_any K q gs _ hok.q.good (by have := hok.glen; omega) (x3 x0 x1 x2) hxl v4 hQ
  refine wpAnyH_call (i := 26) (f := 13) (some 116) rfl rfl (by kernel_rfl) (by kernel_rfl) (by kernel_rfl) (Calls.mono (hT) ?_)
  rintro rr v5 ⟨vV3, rfl, oV3, bb⟩
  have hQ := QAt.below hQ bb
  have kz := kz.trans (Kept.below bb)
  have yx := blk_below yx bb
  have yr := blk_below yr bb
  have yq := blk_below yq bb
  have zc := blk_below zc bb
  have rC := Rows.later rC bb
  have oV1 := OwnB.later oV1 bb
  have oV2 := OwnB.later oV2 bb
  have hSd : v5.rangeAt w.heap.size 0 [.int .u32 (x0 : Int), .int .u32 (x1 : Int), .int .u32 (x2 : Int)] ∧ v5.rangeAt w5.heap.size 0 (regB (x3 x0 x1 x2)).toList ∧ v5.rangeAt w7.heap.size 0 (regB (x3 x0 x1 v)).toList ∧ v5.rangeAt w9.heap.size 0 [.int .i64 ((gs.length : Int) + 1), .slice A9 (queryC gs sx).length c9] := ⟨range_row yx, range_row yr, range_row yq, range_row zc⟩
  refine ⟨_, rfl, hSd, ?_⟩
  clear hT bb
  have hT := regs_any K q gs _ hok.q.good (by have := hok.glen; omega) 0 vV3 (vals (x3 x0 x1 x2) gs) (by rw [vals_len]; have := hok.glen; omega) v5 (oV3.toSl 0) hQ
  rw [hRG] at hT
  refine wpAnyH_call (i := 27) (f := 18) (some 117) rfl rfl (by kernel_rfl) (by kernel_rfl) (by kernel_rfl) (Calls.mono (hT) ?_)
  rintro rr v6 ⟨rfl, bb⟩
  have hQ := QAt.below hQ bb
  have kz := kz.trans (Kept.below bb)
  have yx := blk_below yx bb
  have yr := blk_below yr bb
  have yq := blk_below yq bb
  have zc := blk_below zc bb
  have rC := Rows.later rC bb
  have oV1 := OwnB.later oV1 bb
  have oV2 := OwnB.later oV2 bb
  have oV3 := OwnB.later oV3 bb
  have hSd : v6.rangeAt w.heap.size 0 [.int .u32 (x0 : Int), .int .u32 (x1 : Int), .int .u32 (x2 : Int)] ∧ v6.rangeAt w5.heap.size 0 (regB (x3 x0 x1 x2)).toList ∧ v6.rangeAt w7.heap.size 0 (regB (x3 x0 x1 v)).toList ∧ v6.rangeAt w9.heap.size 0 [.int .i64 ((gs.length : Int) + 1), .slice A9 (queryC gs sx).length c9] := ⟨range_row yx, range_row yr, range_row yq, range_row zc⟩
  refine ⟨_, rfl, hSd, ?_⟩
  clear hT bb
  refine wpAnyH_val (i := 29) (v := (.bool true)) (some 119) rfl rfl (by kernel_rfl) (by kernel_rfl) (by kernel_rfl) (fun _ _ _ h => h) (Or.inl ⟨by kernel_rfl, fun w9 hw9 => eqR_exec (z := x3 x0 x1 x2) (.tmp 117) (.tmp 118) 27 rfl (by kernel_rfl) (by kernel_rfl) w9⟩) hSd ?_
  refine wpAnyH_val (i := 30) (v := (.bool true)) (some 120) rfl rfl (by kernel_rfl) (by kernel_rfl) (by kernel_rfl) (fun _ _ _ h => h) (Or.inl ⟨by kernel_rfl, fun w9 hw9 => by kernel_rfl⟩) hSd ?_
  refine wpAnyH_val (i := 31) (v := (.bool true)) (some 121) rfl rfl (by kernel_rfl) (by kernel_rfl) (by kernel_rfl) (fun _ _ _ h => h) (Or.inl ⟨by kernel_rfl, fun w9 hw9 => by kernel_rfl⟩) hSd ?_
  have hT := bfixed_any v6
  refine wpAnyH_call (i := 32) (f := 11) (some 122) rfl rfl (by kernel_rfl) (by kernel_rfl) (by kernel_rfl) (Calls.mono (hT) ?_)
  rintro rr v7 ⟨rfl, bb⟩
  have hQ := QAt.below hQ bb
  have kz := kz.trans (Kept.below bb)
  have yx := blk_below yx bb
  have yr := blk_below yr bb
  have yq := blk_below yq bb
  have zc := blk_below zc bb
  have rC := Rows.later rC bb
  have oV1 := OwnB.later oV1 bb
  have oV2 := OwnB.later oV2 bb
  have oV3 := OwnB.later oV3 bb
  have hSd : v7.rangeAt w.heap.size 0 [.int .u32 (x0 : Int), .int .u32 (x1 : Int), .int .u32 (x2 : Int)] ∧ v7.rangeAt w5.heap.size 0 (regB (x3 x0 x1 x2)).toList ∧ v7.rangeAt w7.heap.size 0 (regB (x3 x0 x1 v)).toList ∧ v7.rangeAt w9.heap.size 0 [.int .i64 ((gs.length : Int) + 1), .slice A9 (queryC gs sx).length c9] := ⟨range_row yx, range_row yr, range_row yq, range_row zc⟩
  refine ⟨_, rfl, hSd, ?_⟩
  clear hT bb
  refine wpAnyH_val (i := 33) (v := (.bool true)) (some 123) rfl rfl (by kernel_rfl) (by kernel_rfl) (by kernel_rfl) (fun _ _ _ h => h) (Or.inl ⟨by kernel_rfl, fun w9 hw9 => by kernel_rfl⟩) hSd ?_
  refine wpAnyH_val (i := 34) (v := (.bool true)) (some 4) rfl rfl (by kernel_rfl) (by kernel_rfl) (by kernel_rfl) (fun _ _ _ h => h) (Or.inl ⟨by kernel_rfl, fun w9 hw9 => by kernel_rfl⟩) hSd ?_
  refine wpAnyH_done (by kernel_rfl) ?_ _
  simp only [Act.put, List.setIfInBounds_toArray, List.set_cons_succ, List.set_cons_zero]
  go_wp2_with fail
  go_ret
  exact ⟨rfl, below_kept ((Kept.below bA).trans (kz.mono fun i hi => HKW.out i (by omega)))⟩
end Go.Proofs.YtgnahjadjgjecaaGreat
