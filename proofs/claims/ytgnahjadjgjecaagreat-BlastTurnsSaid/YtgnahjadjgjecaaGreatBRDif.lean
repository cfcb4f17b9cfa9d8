/- The reference's answer: hard, Check. -/
/- The reference's answer: Check. -/
/- The reference's answer: Differ. -/
import Derived.Test.YtgnahjadjgjecaaGreatBTrue
import Derived.Test.YtgnahjadjgjecaaGreatRDag2
import Derived.Deep.QuietTactic
import Derived.BigQuiet
import Derived.Test.YtgnahjadjgjecaaGreatRVal
import Derived.Deep.MidRow
import Derived.Deep.CutRange
set_option linter.unusedVariables false
set_option linter.unusedSimpArgs false
namespace Go.Proofs.YtgnahjadjgjecaaGreat
open Go.RowKit Go.Maps Go.MapKept

def hardL (ts : List Term) (j : Nat) : List Bool := (List.range j).map (hardB ts)
theorem hardL_len (ts : List Term) (j : Nat) : (hardL ts j).length = j := by simp [hardL]
theorem hardL_succ (ts : List Term) (j : Nat) : hardL ts (j + 1) = hardL ts j ++ [hardB ts j] := by simp [hardL, List.range_succ]
theorem hardL_at (ts : List Term) {i j : Nat} (h : i < j) : (hardL ts j).getD i false = hardB ts i := by simp [hardL, List.getD, h]
set_option maxRecDepth 100000 in
set_option maxHeartbeats 4000000 in
theorem rhard_any (k : Nat) (vl : Value) (n : Nat) (ts : List Term) (hfew : ts.length ≤ 1000) (hn : n < ts.length) (hG : Good ts) (w : World) (h : RefAt w k vl ts) :
    Calls Tryz.prog 32 #[.pointer (some ⟨k, 0, none⟩), .int .i64 n] w fun r w' => r = .returned (.bool (hardB ts n)) ∧ Below w.heap.size w w' := by
  have o1 : Own w.heap.size 4 Bit (w.alloc (.cells #[] 4)) (.slice (some ⟨w.heap.size, 0, none⟩) 0 0) (hardL ts 0) := Own.empty' (Nat.le_refl _) rfl
  have b1 := (Below.refl w.heap.size w).alloc (Nat.le_refl _) (.cells #[] 4)
  go_enter Tryz.func32, Tryz.ntmps32
  go_wp2_with fail
  go_loopw [5, 6, 7] (fun v i _ wr => ∃ j : Nat, j ≤ n + 1 ∧ i = .int .i64 j ∧ Own w.heap.size 4 Bit wr v (hardL ts j) ∧ Below w.heap.size w wr) (fun _ i _ _ => n + 1 - (Go.RowKit.intOf i).toNat)
  case atStart => exact ⟨0, Nat.zero_le _, rfl, o1, b1⟩
  case round =>
    clear o1 b1
    obtain ⟨j, hj, rfl, ho, hb⟩ := hrel
    have hll := hardL_len ts j
    by_cases hlt : j ≤ n
    · have hlt' : (j : Int) ≤ n := by omega
      have hR1 := h.below hb
      obtain ⟨A, c, rfl, p1, p2, p3⟩ := (hR1.l.toSl encT 0).open_
      obtain ⟨bb, off, rfl, hat, hbl⟩ := (hR1.l.toSl encT 0).at_ (show j < ts.length by omega)
      have c0 := one_cell hR1.hb
      have hjl : (j : Int) < ts.length := by omega
      have hgt := hG.at_ (show j < ts.length by omega) default
      rw [show ts[j] = ts.getD j default by simp [List.getD, show j < ts.length by omega]] at hat
      have HSC := Lib.hid (hardL_succ ts j)
      rcases hgt with ⟨v, hv, e⟩ | ⟨r, hr0, hr, e⟩ | ⟨op, p, s, h1, h2, h3, e⟩
      · have hh : hardB ts j = false := hardB_leaf (by rw [e]; show 0 ≠ 2; omega)
        rw [e] at hat
        have d0 : wr.cell? ⟨bb, off + j * 5, none⟩ = some (.int .i64 0) := hat 0 _ rfl
        have d1 : wr.cell? ⟨bb, off + j * 5 + 1, none⟩ = some (.int .u32 v) := hat 1 _ rfl
        have d2 : wr.cell? ⟨bb, off + j * 5 + 2, none⟩ = some (.int .i64 0) := hat 2 _ rfl
        have d3 : wr.cell? ⟨bb, off + j * 5 + 3, none⟩ = some (.int .i64 0) := hat 3 _ rfl
        have d4 : wr.cell? ⟨bb, off + j * 5 + 4, none⟩ = some (.int .i64 0) := hat 4 _ rfl
        have bg := (Below.refl wr.heap.size wr).alloc (Nat.le_refl _) (.cells #[.int .i64 0, .int .u32 v, .int .i64 0, .int .i64 0, .int .i64 0] 112)
        obtain ⟨z0, z1, z2, z3, z4⟩ := five_cells (blk_new wr (.cells #[.int .i64 0, .int .u32 v, .int .i64 0, .int .i64 0, .int .i64 0] 112))
        have og := ho.move (stable_bit _ [4]) (Quiet.below bg) (by simp)
        have hbg := below_then hb bg
        rw [hh] at HSC
        clear hat hR1 hb ho bg e hh
        go_wp2_with (first | (at_builtin; refine wpList_pushB (w0 := w) (W := wr.alloc (.cells #[.int .i64 0, .int .u32 v, .int .i64 0, .int .i64 0, .int .i64 0] 112)) w.heap.size rfl (.tmp 21) (.tmp 49) 42 4 (.bool false) 1 rfl Tryz.underlying42 infoB_bool rfl (by omega) [] og (stable_bit _ _) (by decide) (y := .bool false) (y0 := false) rfl rfl (by first | rfl | (rw [show (wr.alloc (.cells #[.int .i64 0, .int .u32 v, .int .i64 0, .int .i64 0, .int .i64 0] 112)).heap.size = wr.heap.size + 1 by simp]; rfl)) rfl hbg hbg.size (by rw [hardL_len]; omega) ?_; intro v1 w1 ho1 hB1 hg1 hn1) | fail)
        rw [← HSC.out] at ho1
        clear og hbg hg1 hn1
        go_wp2_with fail
        go_roundw
        case rel => exact ⟨j + 1, by omega, by go_num, ho1, hB1⟩
        case measure => simp [Go.RowKit.intOf]; omega
      · have hh : hardB ts j = false := hardB_leaf (by rw [e]; show 1 ≠ 2; omega)
        rw [e] at hat
        have d0 : wr.cell? ⟨bb, off + j * 5, none⟩ = some (.int .i64 1) := hat 0 _ rfl
        have d1 : wr.cell? ⟨bb, off + j * 5 + 1, none⟩ = some (.int .u32 r) := hat 1 _ rfl
        have d2 : wr.cell? ⟨bb, off + j * 5 + 2, none⟩ = some (.int .i64 0) := hat 2 _ rfl
        have d3 : wr.cell? ⟨bb, off + j * 5 + 3, none⟩ = some (.int .i64 0) := hat 3 _ rfl
        have d4 : wr.cell? ⟨bb, off + j * 5 + 4, none⟩ = some (.int .i64 0) := hat 4 _ rfl
        have bg := (Below.refl wr.heap.size wr).alloc (Nat.le_refl _) (.cells #[.int .i64 1, .int .u32 r, .int .i64 0, .int .i64 0, .int .i64 0] 112)
        obtain ⟨z0, z1, z2, z3, z4⟩ := five_cells (blk_new wr (.cells #[.int .i64 1, .int .u32 r, .int .i64 0, .int .i64 0, .int .i64 0] 112))
        have og := ho.move (stable_bit _ [4]) (Quiet.below bg) (by simp)
        have hbg := below_then hb bg
        rw [hh] at HSC
        clear hat hR1 hb ho bg e hh
        go_wp2_with (first | (at_builtin; refine wpList_pushB (w0 := w) (W := wr.alloc (.cells #[.int .i64 1, .int .u32 r, .int .i64 0, .int .i64 0, .int .i64 0] 112)) w.heap.size rfl (.tmp 21) (.tmp 49) 42 4 (.bool false) 1 rfl Tryz.underlying42 infoB_bool rfl (by omega) [] og (stable_bit _ _) (by decide) (y := .bool false) (y0 := false) rfl rfl (by first | rfl | (rw [show (wr.alloc (.cells #[.int .i64 1, .int .u32 r, .int .i64 0, .int .i64 0, .int .i64 0] 112)).heap.size = wr.heap.size + 1 by simp]; rfl)) rfl hbg hbg.size (by rw [hardL_len]; omega) ?_; intro v1 w1 ho1 hB1 hg1 hn1) | fail)
        rw [← HSC.out] at ho1
        clear og hbg hg1 hn1
        go_wp2_with fail
        go_roundw
        case rel => exact ⟨j + 1, by omega, by go_num, ho1, hB1⟩
        case measure => simp [Go.RowKit.intOf]; omega
      · have hh := hardB_op hG (show j < ts.length by omega) (by rw [e]; rfl)
        rw [e] at hh hat
        change hardB ts j = (decide (37 ≤ op) || hardB ts p || hardB ts s) at hh
        have d0 : wr.cell? ⟨bb, off + j * 5, none⟩ = some (.int .i64 2) := hat 0 _ rfl
        have d1 : wr.cell? ⟨bb, off + j * 5 + 1, none⟩ = some (.int .u32 0) := hat 1 _ rfl
        have d2 : wr.cell? ⟨bb, off + j * 5 + 2, none⟩ = some (.int .i64 op) := hat 2 _ rfl
        have d3 : wr.cell? ⟨bb, off + j * 5 + 3, none⟩ = some (.int .i64 p) := hat 3 _ rfl
        have d4 : wr.cell? ⟨bb, off + j * 5 + 4, none⟩ = some (.int .i64 s) := hat 4 _ rfl
        have hbp := hardL_at ts h2
        have hbs := hardL_at ts h3
        obtain ⟨Ab, cb, rfl, _, _, _⟩ := (ho.toSl 0).open_
        obtain ⟨bp, op1, up, rfl, hcp, rfl⟩ := (ho.toSl 0).at_ (show p < (hardL ts j).length by omega) false
        obtain ⟨bs, op2, us, eA, hcs, rfl⟩ := (ho.toSl 0).at_ (show s < (hardL ts j).length by omega) false
        injection eA with eA
        injection eA with e1 e2 _
        subst e1 e2
        rw [hbp] at hcp
        rw [hbs] at hcs
        have hpj : (p : Int) < j := by omega
        have hsj : (s : Int) < j := by omega
        have h44 : op ≤ 44 := by have := op_cases h1; omega
        rw [hll] at ho ⊢
        by_cases h37 : 37 ≤ op
        · have g1 : (37 : Int) ≤ op := by omega
          have g2 : (op : Int) ≤ 44 := by omega
          rw [decide_eq_true h37, Bool.true_or, Bool.true_or] at hh
          have bg := (Below.refl wr.heap.size wr).alloc (Nat.le_refl _) (.cells #[.int .i64 2, .int .u32 0, .int .i64 op, .int .i64 p, .int .i64 s] 112)
          obtain ⟨z0, z1, z2, z3, z4⟩ := five_cells (blk_new wr (.cells #[.int .i64 2, .int .u32 0, .int .i64 op, .int .i64 p, .int .i64 s] 112))
          have og := ho.move (stable_bit _ [4]) (Quiet.below bg) (by simp)
          have hbg := below_then hb bg
          have hcp2 := cell_below bg hcp
          have hcs2 := cell_below bg hcs
          rw [hh] at HSC
          clear hat hR1 hb ho bg e hh
          go_wp2_with (first | (at_builtin; refine wpList_pushB (w0 := w) (W := wr.alloc (.cells #[.int .i64 2, .int .u32 0, .int .i64 op, .int .i64 p, .int .i64 s] 112)) w.heap.size rfl (.tmp 21) (.tmp 49) 42 4 (.bool false) 1 rfl Tryz.underlying42 infoB_bool rfl (by omega) [] og (stable_bit _ _) (by decide) (y := .bool true) (y0 := true) rfl rfl (by first | rfl | (rw [show (wr.alloc (.cells #[.int .i64 2, .int .u32 0, .int .i64 op, .int .i64 p, .int .i64 s] 112)).heap.size = wr.heap.size + 1 by simp]; rfl)) rfl hbg hbg.size (by rw [hardL_len]; omega) ?_; intro v1 w1 ho1 hB1 hg1 hn1) | fail)
          rw [← HSC.out] at ho1
          clear og hbg hg1 hn1
          go_wp2_with fail
          go_roundw
          case rel => exact ⟨j + 1, by omega, by go_num, ho1, hB1⟩
          case measure => simp [Go.RowKit.intOf]; omega
        · have g1 : (decide ((37 : Int) ≤ op)) = false := by simp; omega
          rw [decide_eq_false h37, Bool.false_or] at hh
          cases hp : hardB ts p with
          | true =>
            rw [hp] at hcp hh
            rw [Bool.true_or] at hh
            have bg := (Below.refl wr.heap.size wr).alloc (Nat.le_refl _) (.cells #[.int .i64 2, .int .u32 0, .int .i64 op, .int .i64 p, .int .i64 s] 112)
            obtain ⟨z0, z1, z2, z3, z4⟩ := five_cells (blk_new wr (.cells #[.int .i64 2, .int .u32 0, .int .i64 op, .int .i64 p, .int .i64 s] 112))
            have og := ho.move (stable_bit _ [4]) (Quiet.below bg) (by simp)
            have hbg := below_then hb bg
            have hcp2 := cell_below bg hcp
            have hcs2 := cell_below bg hcs
            rw [hh] at HSC
            clear hat hR1 hb ho bg e hh
            go_wp2_with (first | (at_builtin; refine wpList_pushB (w0 := w) (W := wr.alloc (.cells #[.int .i64 2, .int .u32 0, .int .i64 op, .int .i64 p, .int .i64 s] 112)) w.heap.size rfl (.tmp 21) (.tmp 49) 42 4 (.bool false) 1 rfl Tryz.underlying42 infoB_bool rfl (by omega) [] og (stable_bit _ _) (by decide) (y := .bool true) (y0 := true) rfl rfl (by first | rfl | (rw [show (wr.alloc (.cells #[.int .i64 2, .int .u32 0, .int .i64 op, .int .i64 p, .int .i64 s] 112)).heap.size = wr.heap.size + 1 by simp]; rfl)) rfl hbg hbg.size (by rw [hardL_len]; omega) ?_; intro v1 w1 ho1 hB1 hg1 hn1) | fail)
            rw [← HSC.out] at ho1
            clear og hbg hg1 hn1
            go_wp2_with fail
            go_roundw
            case rel => exact ⟨j + 1, by omega, by go_num, ho1, hB1⟩
            case measure => simp [Go.RowKit.intOf]; omega
          | false =>
            rw [hp] at hcp hh
            rw [Bool.false_or] at hh
            generalize hardB ts s = y at hcs hh
            have bg := (Below.refl wr.heap.size wr).alloc (Nat.le_refl _) (.cells #[.int .i64 2, .int .u32 0, .int .i64 op, .int .i64 p, .int .i64 s] 112)
            obtain ⟨z0, z1, z2, z3, z4⟩ := five_cells (blk_new wr (.cells #[.int .i64 2, .int .u32 0, .int .i64 op, .int .i64 p, .int .i64 s] 112))
            have og := ho.move (stable_bit _ [4]) (Quiet.below bg) (by simp)
            have hbg := below_then hb bg
            have hcp2 := cell_below bg hcp
            have hcs2 := cell_below bg hcs
            rw [hh] at HSC
            clear hat hR1 hb ho bg e hh
            go_wp2_with (first | (at_builtin; refine wpList_pushB (w0 := w) (W := wr.alloc (.cells #[.int .i64 2, .int .u32 0, .int .i64 op, .int .i64 p, .int .i64 s] 112)) w.heap.size rfl (.tmp 21) (.tmp 49) 42 4 (.bool false) 1 rfl Tryz.underlying42 infoB_bool rfl (by omega) [] og (stable_bit _ _) (by decide) (y := .bool y) (y0 := y) rfl rfl (by first | rfl | (rw [show (wr.alloc (.cells #[.int .i64 2, .int .u32 0, .int .i64 op, .int .i64 p, .int .i64 s] 112)).heap.size = wr.heap.size + 1 by simp]; rfl)) rfl hbg hbg.size (by rw [hardL_len]; omega) ?_; intro v1 w1 ho1 hB1 hg1 hn1) | fail)
            rw [← HSC.out] at ho1
            clear og hbg hg1 hn1
            go_wp2_with fail
            go_roundw
            case rel => exact ⟨j + 1, by omega, by go_num, ho1, hB1⟩
            case measure => simp [Go.RowKit.intOf]; omega
    · have hlt' : ¬ (j : Int) ≤ n := by omega
      obtain rfl : j = n + 1 := by omega
      obtain ⟨Ab, cb, rfl, _, _, _⟩ := (ho.toSl 0).open_
      obtain ⟨bp, op1, up, rfl, hcp, rfl⟩ := (ho.toSl 0).at_ (show n < (hardL ts (n + 1)).length by omega) false
      rw [hardL_at ts (Nat.lt_succ_self n)] at hcp
      have hnn : (n : Int) < ((n + 1 : Nat) : Int) := by omega
      rw [hll] at ho ⊢
      go_wp2_with fail
      go_ret
      exact ⟨rfl, hb⟩
end Go.Proofs.YtgnahjadjgjecaaGreat
set_option linter.unusedVariables false
set_option linter.unusedSimpArgs false
namespace Go.Proofs.YtgnahjadjgjecaaGreat
open Go.RowKit Go.Maps Go.MapKept

set_option maxRecDepth 100000 in
set_option maxHeartbeats 4000000 in
theorem rcheck14_any (k : Nat) (vl : Value) (ts : List Term) (hG : Good ts) (hfew : ts.length ≤ 1000) (ax bx : List Int) (ha : ax.length ≤ 1000) (hb : bx.length ≤ 1000) (va vb : Value) (e1 e2 : TypeId) (w : World)
    (hva : Sl 0 e1 I64 w va ax) (hvb : Sl 0 e2 I64 w vb bx) (h : RefAt w k vl ts) :
    Calls Tryz.prog 10 #[.pointer (some ⟨k, 0, none⟩), va, vb] w fun r w' => r = .returned (.int .i64 (chkO ts ax bx)) ∧ Below w.heap.size w w' := by
  obtain ⟨A1, c1, rfl, p1, p2, p3⟩ := hva.open_
  obtain ⟨A2, c2, rfl, q1, q2, q3⟩ := hvb.open_
  by_cases hlen : ax.length = bx.length
  · have hR : chkO ts ax bx = chkL ts (ax ++ bx) := by unfold chkO; rw [if_pos hlen]
    rw [hR]
    clear hR
    have hle : ((ax.length : Int) != (bx.length : Int)) = false := by rw [hlen]; simp
    have bE := (Below.refl w.heap.size w).alloc (Nat.le_refl _) (.cells #[] 3)
    have hE : Own w.heap.size 3 I64 (w.alloc (.cells #[] 3)) (.slice (some ⟨w.heap.size, 0, none⟩) 0 0) [] := Own.empty' (Nat.le_refl _) rfl
    have hvaE := hva.later bE
    have hL0 : (ax ++ bx).length = ax.length + bx.length := List.length_append
    obtain ⟨l, hl⟩ : ∃ l, ax ++ bx = l := ⟨_, rfl⟩
    rw [hl] at hL0 ⊢
    have HL := Lib.hid hl
    have hL : l.length ≤ 2000 := by omega
    have HLEN := Lib.hid hlen
    clear hl hL0 hlen
    go_enter Tryz.func10, Tryz.ntmps10
    go_wp2_with (first | (at_builtin; refine wpList_app (w0 := w) w.heap.size rfl (.tmp 15) (.tmp 16) 23 3 _ 8 rfl Tryz.underlying23 infoB_int rfl (by decide) [] hE (stable_i64 _ _) (by decide) hvaE rfl rfl (fun _ _ h => by rw [h.1]; rfl) bE bE.size (by simp only [List.length_nil]; omega) ?_; intro v1 w1 ho1 hB1 hg1; rw [List.nil_append] at ho1) | (at_builtin; refine wpList_app (w0 := w) w.heap.size rfl (.tmp 18) (.tmp 19) 23 3 _ 8 rfl Tryz.underlying23 infoB_int rfl (by decide) [] ho1 (stable_i64 _ _) (by decide) (hvb.later (hB1.mono (Nat.le_refl _))) rfl rfl (fun _ _ h => by rw [h.1]; rfl) hB1 hB1.size (by omega) ?_; intro v2 w2 ho2 hB2 hg2; rw [HL.out] at ho2; obtain ⟨A, c, rfl, s1, s2, s3⟩ := (ho2.toSl 0).open_) | fail)
    have ho3 := ho2.lower (Nat.zero_le _)
    clear hE bE hvaE ho1 hB1 hg1 ho2 hg2 hva hvb hle
    go_loopw [8] (fun i wr => ∃ j : Nat, j ≤ l.length ∧ i = .int .i64 j ∧ (∀ n, n ∈ l.take j → inR n ts.length = true) ∧ Own 0 3 I64 wr (.slice A l.length c) l ∧ Below w.heap.size w wr) (fun i _ => l.length - (Go.RowKit.intOf i).toNat)
    case atStart => exact ⟨0, Nat.zero_le _, rfl, fun n hn => by simp at hn, ho3, hB2⟩
    case round =>
      clear ho3 hB2
      obtain ⟨j, hj, rfl, hin, ho, hbw⟩ := hrel
      have hR1 := h.below hbw
      obtain ⟨A3, c3, rfl, t1, t2, t3⟩ := (hR1.l.toSl encT 0).open_
      have c0 := one_cell hR1.hb
      by_cases hlt : j < l.length
      · have hlt' : (j : Int) < l.length := by omega
        obtain ⟨sb, so, u, rfl, hsc, hu⟩ := (ho.toSl 0).at_ hlt 0
        obtain ⟨rfl, _⟩ := hu
        cases hr : inR (l.getD j 0) ts.length with
        | true =>
          have hin2 := take_all (P := fun n => inR n ts.length = true) hlt hin hr
          obtain ⟨n0, hn0, hn2⟩ := inR_nat hr
          rw [hn0] at hsc
          have g2 : (decide ((ts.length : Int) ≤ (n0 : Int))) = false := by simp; omega
          clear hr hin hn0
          go_wp2_with fail
          go_quiet (fail)
          have bd := below_drewN (Below.refl wr.heap.size wr) nq
          have ho4 := ho.move (stable_i64 _ [3]) (Quiet.below bd) (by simp)
          have hb4 := below_then hbw bd
          clear hsc c0
          go_wp2_with fail
          go_roundw
          case rel => exact ⟨j + 1, by omega, by go_num, hin2, ho4, hb4⟩
          case measure => simp [Go.RowKit.intOf]; omega
        | false =>
          have hout := chkL_out hlt hr
          have HO := Lib.hid hout
          rcases inR_not hr with hneg | hbig
          · generalize l.getD j 0 = n0 at hsc hneg
            have g1 : (decide (n0 < 0)) = true := by simp; omega
            clear hr hin hout
            go_wp2_with fail
            go_quiet (fail)
            go_wp2_with fail
            go_ret
            exact ⟨by rw [HO.out]; rfl, below_then hbw (below_drewN (Below.refl _ _) nq)⟩
          · generalize l.getD j 0 = n0 at hsc hbig
            have g1 : (decide (n0 < 0)) = false := by simp; omega
            have g2 : (decide ((ts.length : Int) ≤ n0)) = true := by simp; omega
            clear hr hin hout
            go_wp2_with fail
            go_quiet (fail)
            go_wp2_with fail
            go_ret
            exact ⟨by rw [HO.out]; rfl, below_then hbw (below_drewN (Below.refl _ _) nq)⟩
      · have hlt' : ¬ (j : Int) < l.length := by omega
        obtain rfl : j = l.length := by omega
        rw [List.take_length] at hin
        clear c0 hR1 hlt'
        go_wp2_with fail
        go_loopw [9] (fun i wr => ∃ j : Nat, j ≤ l.length ∧ i = .int .i64 j ∧ (∀ n, n ∈ l.take j → hardB ts n.toNat = false) ∧ Own 0 3 I64 wr (.slice A l.length c) l ∧ Below w.heap.size w wr) (fun i _ => l.length - (Go.RowKit.intOf i).toNat)
        case atStart => exact ⟨0, Nat.zero_le _, rfl, fun n hn => (by simp at hn), ho, hbw⟩
        case round =>
          clear ho hbw
          obtain ⟨j, hj, rfl, hdone, ho, hbw⟩ := hrel
          by_cases hlt : j < l.length
          · have hlt' : (j : Int) < l.length := by omega
            obtain ⟨sb, so, u, rfl, hsc, hu⟩ := (ho.toSl 0).at_ hlt 0
            obtain ⟨rfl, _⟩ := hu
            obtain ⟨k0, hk, hk2⟩ := inR_nat (hin _ (getD_mem hlt 0))
            have hC := rhard_any k _ k0 ts hfew hk2 hG wr (h.below hbw)
            have hkn : (l.getD j 0).toNat = k0 := by rw [hk]; simp
            rw [hk] at hsc
            cases hq : hardB ts k0 with
            | true =>
              have HO := Lib.hid (chkL_hard hin hlt (by rw [hkn, hq]))
              rw [hq] at hC
              clear hk hkn hdone hin
              go_wp2_with fail
              refine hC.mono ?_
              rintro r w3 ⟨rfl, b3⟩
              go_wp2_with fail
              go_ret
              exact ⟨by rw [HO.out]; rfl, below_then hbw b3⟩
            | false =>
              have hdone2 := take_all (P := fun n => hardB ts n.toNat = false) hlt hdone (by rw [hkn, hq])
              rw [hq] at hC
              clear hk hkn hdone
              go_wp2_with fail
              refine hC.mono ?_
              rintro r w3 ⟨rfl, b3⟩
              have ho4 := ho.move (stable_i64 _ [3]) (Quiet.below b3) (by simp)
              have hb4 := below_then hbw b3
              clear hC ho hbw hsc
              go_wp2_with fail
              go_roundw
              case rel => exact ⟨j + 1, by omega, by go_num, hdone2, ho4, hb4⟩
              case measure => simp [Go.RowKit.intOf]; omega
          · have hlt' : ¬ (j : Int) < l.length := by omega
            obtain rfl : j = l.length := by omega
            rw [List.take_length] at hdone
            have HO := Lib.hid (chkL_ok hin hdone)
            go_wp2_with fail
            go_ret
            exact ⟨by rw [HO.out]; rfl, hbw⟩
  · have hR : chkO ts ax bx = 1 := by unfold chkO; rw [if_neg hlen]
    rw [hR]
    have hle : ((ax.length : Int) != (bx.length : Int)) = true := by simp; omega
    clear hR
    have HL := Lib.hid hlen
    clear hlen
    go_enter Tryz.func10, Tryz.ntmps10
    go_wp2_with fail
    go_ret
    exact ⟨rfl, Below.refl _ _⟩
end Go.Proofs.YtgnahjadjgjecaaGreat
set_option linter.unusedVariables false
set_option linter.unusedSimpArgs false
namespace Go.Proofs.YtgnahjadjgjecaaGreat
open Go.RowKit Go.Maps Go.MapKept

theorem difP_yes {ts : List Term} {x : Nat → Nat} {ax bx : List Int} {j : Nat} (hj : j < ax.length) (h : ev ts x (ax.getD j 0).toNat ≠ ev ts x (bx.getD j 0).toNat) : difP ts x (prs ax bx) = true := by
  unfold difP
  rw [List.any_eq_true]
  exact ⟨((ax.getD j 0).toNat, (bx.getD j 0).toNat), by unfold prs; exact List.mem_map.2 ⟨j, List.mem_range.2 hj, rfl⟩, bne_iff_ne.2 h⟩
theorem difP_no {ts : List Term} {x : Nat → Nat} {ax bx : List Int} (h : ∀ j, j < ax.length → ev ts x (ax.getD j 0).toNat = ev ts x (bx.getD j 0).toNat) : difP ts x (prs ax bx) = false := by
  unfold difP
  rw [List.any_eq_false]
  intro p hp
  unfold prs at hp
  obtain ⟨j, hj, rfl⟩ := List.mem_map.1 hp
  exact fun hne => (bne_iff_ne.1 hne) (h j (List.mem_range.1 hj))
set_option maxRecDepth 100000 in
set_option maxHeartbeats 4000000 in
theorem rdiffer_any (k : Nat) (vl : Value) (ts : List Term) (hG : Good ts) (hfew : ts.length ≤ 1000) (ax bx : List Int) (ha : ax.length ≤ 1000) (hok : chkO ts ax bx = 0) (x : Nat → Nat) (hx : ∀ r, x r < 4294967296) (va vb : Value) (e1 e2 : TypeId) (w : World)
    (hva : Sl 0 e1 I64 w va ax) (hvb : Sl 0 e2 I64 w vb bx) (h : RefAt w k vl ts) :
    Calls Tryz.prog 17 #[.pointer (some ⟨k, 0, none⟩), va, vb, .agg (regsV x)] w fun r w' => r = .returned (.bool (difP ts x (prs ax bx))) ∧ Below w.heap.size w w' := by
  obtain ⟨hlen, hin, _⟩ := chk_ok hok
  have b1 := (Below.refl w.heap.size w).alloc (Nat.le_refl _) (.cells (regsV x) 27)
  have hX := blk_new w (.cells (regsV x) 27)
  have hE := fun n (hn : n < ts.length) (w : World) (h : RefAt w k vl ts) => reval_any k vl n ts x hx (by omega) hn hG w h
  have hyes := fun j hj hd => difP_yes (ts := ts) (x := x) (ax := ax) (bx := bx) (j := j) hj hd
  have hno := fun hd => difP_no (ts := ts) (x := x) (ax := ax) (bx := bx) hd
  have hsz : (regsV x).size = 32 := regsV_size x
  obtain ⟨A1, c1, rfl, p1, p2, p3⟩ := hva.open_
  obtain ⟨A2, c2, hvb2, q1, q2, q3⟩ := hvb.open_
  rw [← hlen] at hvb2
  subst hvb2
  have HVA := Lib.hid hva
  have HVB := Lib.hid hvb
  have HIN := Lib.hid hin
  have HLEN := Lib.hid hlen
  have HE := Lib.hid hE
  have HY := Lib.hid hyes
  have HN := Lib.hid hno
  clear hva hvb hin hlen hok hE hyes hno
  generalize regsV x = RX at *
  generalize difP ts x (prs ax bx) = R at *
  go_enter Tryz.func17, Tryz.ntmps17
  go_wp2_with fail
  go_loopw [9, 10, 11, 12, 13] (fun i _ _ _ _ wr => ∃ j : Nat, j ≤ ax.length ∧ i = .int .i64 j ∧ wr.heap[w.heap.size]? = some (.cells RX 27 (0, 0)) ∧ (∀ i, i < j → ev ts x (ax.getD i 0).toNat = ev ts x (bx.getD i 0).toNat) ∧ Below w.heap.size w wr) (fun i _ _ _ _ _ => ax.length - (Go.RowKit.intOf i).toNat)
  case atStart => exact ⟨0, Nat.zero_le _, rfl, hX, fun i hi => by omega, b1⟩
  case round =>
    clear hX b1
    obtain ⟨j, hj, rfl, hX, hall, hb⟩ := hrel
    by_cases hlt : j < ax.length
    · have hlt' : (j : Int) < ax.length := by omega
      have hxa := HIN.out _ (List.mem_append_left bx (getD_mem hlt 0))
      have hya := HIN.out _ (List.mem_append_right ax (getD_mem (show j < bx.length by have := HLEN.out; omega) 0))
      obtain ⟨hx1, hx2⟩ := inR_toNat hxa
      obtain ⟨hy1, hy2⟩ := inR_toNat hya
      obtain ⟨bb1, of1, u1, rfl, hc1, hu1⟩ := HVA.out.at_ hlt 0
      obtain ⟨rfl, _⟩ := hu1
      obtain ⟨bb2, of2, u2, rfl, hc2, hu2⟩ := (show Sl 0 e2 I64 w (.slice A2 ax.length c2) bx from HVB.out).at_ (show j < bx.length by have := HLEN.out; omega) 0
      obtain ⟨rfl, _⟩ := hu2
      have hE1 : ∀ w', RefAt w' k vl ts → Calls Tryz.prog 37 #[.pointer (some ⟨k, 0, none⟩), .int .i64 (ax.getD j 0), .agg RX] w' fun e w'' => e = .returned (.tuple #[.int .u32 (ev ts x (ax.getD j 0).toNat : Nat), .int .i64 0]) ∧ Below w'.heap.size w' w'' := fun w' h' => by
        have := HE.out (ax.getD j 0).toNat hx1 w' h'
        rw [← hx2] at this
        exact this
      have hE2 : ∀ w', RefAt w' k vl ts → Calls Tryz.prog 37 #[.pointer (some ⟨k, 0, none⟩), .int .i64 (bx.getD j 0), .agg RX] w' fun e w'' => e = .returned (.tuple #[.int .u32 (ev ts x (bx.getD j 0).toNat : Nat), .int .i64 0]) ∧ Below w'.heap.size w' w'' := fun w' h' => by
        have := HE.out (bx.getD j 0).toNat hy1 w' h'
        rw [← hy2] at this
        exact this
      have HE1 := Lib.hid hE1
      have HE2 := Lib.hid hE2
      have hR := h.below hb
      have hyes := HY.out j hlt
      have hall2 := fun hd : ev ts x (ax.getD j 0).toNat = ev ts x (bx.getD j 0).toNat => (show ∀ i, i < j + 1 → ev ts x (ax.getD i 0).toNat = ev ts x (bx.getD i 0).toNat from fun i hi => by
        rcases Nat.lt_succ_iff_lt_or_eq.1 hi with h | rfl
        · exact hall i h
        · exact hd)
      have HALL := Lib.hid hall2
      have HYES := Lib.hid hyes
      clear hE1 hE2 hxa hya hx1 hx2 hy1 hy2 hall hall2 hyes
      generalize ev ts x (ax.getD j 0).toNat = m1 at *
      generalize ev ts x (bx.getD j 0).toNat = m2 at *
      generalize ax.getD j 0 = n1 at *
      generalize bx.getD j 0 = n2 at *
      have l1 := World.block_lt_of_cell? w _ hc1
      have l2 := World.block_lt_of_cell? w _ hc2
      have d1 := cell_below hb hc1
      have REL : ∀ wx : World, True := fun _ => trivial
      clear REL d1
      go_upto_region 4 with fail
      go_cut [10, 11] from 20 to 29 (fun p q wx => p = .int .u32 m1 ∧ q = .int .i64 0 ∧ wx.heap[w.heap.size]? = some (.cells RX 27 (0, 0)) ∧ Below w.heap.size w wx)
      case first =>
        have bd : Below wr.heap.size wr wr.drew := below_drewN (Below.refl _ _) 1
        have hXd := blk_below hX bd
        have hRd := hR.below bd
        have hbd := below_then hb bd
        have hSd : wr.drew.cell? ⟨bb1, of1 + j, none⟩ = some (.int .i64 n1) ∧ wr.drew.rangeAt w.heap.size 0 RX.toList := ⟨cell_below hbd hc1, range_row hXd⟩
        clear hX hR hb bd
        refine wp_region_any (by kernel_rfl) (wpAny_of_held (S := fun w' => w'.cell? ⟨bb1, of1 + j, none⟩ = some (.int .i64 n1) ∧ w'.rangeAt w.heap.size 0 RX.toList) _ _ _ _ ?_)
        change wpAnyH _ _ _ _ _ 12 _ _ wr.drew
        refine wpAnyH_take (i := 0) (v := ?_) rfl (by kernel_rfl) (by kernel_rfl) (by kernel_rfl) (fun _ _ _ h => h) (Or.inl ⟨by rfl, ?_⟩) hSd ?_
        rotate_left
        · intro w9 hw9
          go_simp
          try with_reducible rfl
        refine wpAnyH_take (i := 1) (v := ?_) rfl (by kernel_rfl) (by kernel_rfl) (by kernel_rfl) (fun _ _ _ h => h) (Or.inl ⟨by rfl, ?_⟩) hSd ?_
        rotate_left
        · intro w9 hw9
          go_simp
          try with_reducible rfl
        refine wpAnyH_take (i := 2) (v := ?_) rfl (by kernel_rfl) (by kernel_rfl) (by kernel_rfl) (fun _ _ _ h => h) (Or.inl ⟨by rfl, ?_⟩) hSd ?_
        rotate_left
        · intro w9 hw9
          go_simp
          try with_reducible rfl
        refine wpAnyH_take (i := 3) (v := ?_) rfl (by kernel_rfl) (by kernel_rfl) (by kernel_rfl) (fun _ _ _ h => h) (Or.inl ⟨by rfl, ?_⟩) hSd ?_
        rotate_left
        · intro w9 hw9
          go_simp
          try with_reducible rfl
        refine wpAnyH_take (i := 4) (v := ?_) rfl (by kernel_rfl) (by kernel_rfl) (by kernel_rfl) (fun _ _ _ h => h) (Or.inl ⟨by rfl, ?_⟩) hSd ?_
        rotate_left
        · intro w9 hw9
          obtain ⟨hw8, _⟩ := hw9
          go_simp
          try with_reducible rfl
        refine wpAnyH_take (i := 5) rfl (by kernel_rfl) (by kernel_rfl) (by kernel_rfl) (fun _ _ _ h => h) (yieldsIf_load_mid (by rfl) 27 (.tmp 7) rfl w.heap.size 0 rfl RX.toList _ (fun w hw => hw.2) Tryz.underlying27 rfl (by rw [Array.length_toList, hsz]; kernel_rfl)) hSd ?_
        refine wpAnyH_all (rs := [6]) (by kernel_rfl) (by simp) (fun i hi => ?_)
        obtain rfl : i = 6 := by simpa using hi
        refine wpOp_step rfl (fun K9 hK9 => ?_)
        rw [if_pos (by rfl)]
        go_simp
        go_at_call 37
        refine (HE1.out _ hRd).mono ?_
        rintro rr w3 ⟨rfl, b3⟩
        have hX := blk_below hXd b3
        have hR := hRd.below b3
        have hb := below_then hbd b3
        have hS3 : w3.cell? ⟨bb1, of1 + j, none⟩ = some (.int .i64 n1) ∧ w3.rangeAt w.heap.size 0 RX.toList := ⟨cell_below hb hc1, range_row hX⟩
        refine hK9 _ _ ⟨hS3, ?_⟩
        clear hK9 hXd hRd hbd hSd b3
        refine wpAnyH_take (i := 7) (v := ?_) rfl (by kernel_rfl) (by kernel_rfl) (by kernel_rfl) (fun _ _ _ h => h) (Or.inl ⟨by rfl, ?_⟩) hS3 ?_
        rotate_left
        · intro w9 hw9
          go_simp
          try with_reducible rfl
        refine wpAnyH_take (i := 8) (v := ?_) rfl (by kernel_rfl) (by kernel_rfl) (by kernel_rfl) (fun _ _ _ h => h) (Or.inl ⟨by rfl, ?_⟩) hS3 ?_
        rotate_left
        · intro w9 hw9
          go_simp
          try with_reducible rfl
        refine wpAnyH_take (i := 9) (v := ?_) rfl (by kernel_rfl) (by kernel_rfl) (by kernel_rfl) (fun _ _ _ h => h) (Or.inl ⟨by rfl, ?_⟩) hS3 ?_
        rotate_left
        · intro w9 hw9
          go_simp
          try with_reducible rfl
        refine wpAnyH_take (i := 10) (v := ?_) rfl (by kernel_rfl) (by kernel_rfl) (by kernel_rfl) (fun _ _ _ h => h) (Or.inl ⟨by rfl, ?_⟩) hS3 ?_
        rotate_left
        · intro w9 hw9
          go_simp
          try with_reducible rfl
        refine wpAnyH_take (i := 11) (v := ?_) rfl (by kernel_rfl) (by kernel_rfl) (by kernel_rfl) (fun _ _ _ h => h) (Or.inl ⟨by rfl, ?_⟩) hS3 ?_
        rotate_left
        · intro w9 hw9
          go_simp
          try with_reducible rfl
        refine wpAnyH_done (by kernel_rfl) ?_ _
        clear hS3
        go_wp2_with fail
        go_meet
        exact ⟨rfl, rfl, hX, hb⟩
      case rest =>
        clear hX hb hR
        obtain ⟨rfl, rfl, hX, hb⟩ := hcut
        have hR := h.below hb
        go_upto_region 5 with fail
        go_cut [12, 13] from 30 to 39 (fun p q wx => p = .int .u32 m2 ∧ q = .int .i64 0 ∧ wx.heap[w.heap.size]? = some (.cells RX 27 (0, 0)) ∧ Below w.heap.size w wx)
        case first =>
          have bd : Below wc.heap.size wc wc.drew := below_drewN (Below.refl _ _) 1
          have hXd := blk_below hX bd
          have hRd := hR.below bd
          have hbd := below_then hb bd
          have hSd : wc.drew.cell? ⟨bb2, of2 + j, none⟩ = some (.int .i64 n2) ∧ wc.drew.rangeAt w.heap.size 0 RX.toList := ⟨cell_below hbd hc2, range_row hXd⟩
          clear hX hR hb bd
          refine wp_region_any (by kernel_rfl) (wpAny_of_held (S := fun w' => w'.cell? ⟨bb2, of2 + j, none⟩ = some (.int .i64 n2) ∧ w'.rangeAt w.heap.size 0 RX.toList) _ _ _ _ ?_)
          change wpAnyH _ _ _ _ _ 12 _ _ wc.drew
          refine wpAnyH_take (i := 0) (v := ?_) rfl (by kernel_rfl) (by kernel_rfl) (by kernel_rfl) (fun _ _ _ h => h) (Or.inl ⟨by rfl, ?_⟩) hSd ?_
          rotate_left
          · intro w9 hw9
            go_simp
            try with_reducible rfl
          refine wpAnyH_take (i := 1) (v := ?_) rfl (by kernel_rfl) (by kernel_rfl) (by kernel_rfl) (fun _ _ _ h => h) (Or.inl ⟨by rfl, ?_⟩) hSd ?_
          rotate_left
          · intro w9 hw9
            go_simp
            try with_reducible rfl
          refine wpAnyH_take (i := 2) (v := ?_) rfl (by kernel_rfl) (by kernel_rfl) (by kernel_rfl) (fun _ _ _ h => h) (Or.inl ⟨by rfl, ?_⟩) hSd ?_
          rotate_left
          · intro w9 hw9
            go_simp
            try with_reducible rfl
          refine wpAnyH_take (i := 3) (v := ?_) rfl (by kernel_rfl) (by kernel_rfl) (by kernel_rfl) (fun _ _ _ h => h) (Or.inl ⟨by rfl, ?_⟩) hSd ?_
          rotate_left
          · intro w9 hw9
            go_simp
            try with_reducible rfl
          refine wpAnyH_take (i := 4) (v := ?_) rfl (by kernel_rfl) (by kernel_rfl) (by kernel_rfl) (fun _ _ _ h => h) (Or.inl ⟨by rfl, ?_⟩) hSd ?_
          rotate_left
          · intro w9 hw9
            obtain ⟨hw8, _⟩ := hw9
            go_simp
            try with_reducible rfl
          refine wpAnyH_take (i := 5) rfl (by kernel_rfl) (by kernel_rfl) (by kernel_rfl) (fun _ _ _ h => h) (yieldsIf_load_mid (by rfl) 27 (.tmp 7) rfl w.heap.size 0 rfl RX.toList _ (fun w hw => hw.2) Tryz.underlying27 rfl (by rw [Array.length_toList, hsz]; kernel_rfl)) hSd ?_
          refine wpAnyH_all (rs := [6]) (by kernel_rfl) (by simp) (fun i hi => ?_)
          obtain rfl : i = 6 := by simpa using hi
          refine wpOp_step rfl (fun K9 hK9 => ?_)
          rw [if_pos (by rfl)]
          go_simp
          go_at_call 37
          refine (HE2.out _ hRd).mono ?_
          rintro rr w5 ⟨rfl, b3⟩
          have hX := blk_below hXd b3
          have hR := hRd.below b3
          have hb := below_then hbd b3
          have hS3 : w5.cell? ⟨bb2, of2 + j, none⟩ = some (.int .i64 n2) ∧ w5.rangeAt w.heap.size 0 RX.toList := ⟨cell_below hb hc2, range_row hX⟩
          refine hK9 _ _ ⟨hS3, ?_⟩
          clear hK9 hXd hRd hbd hSd b3
          refine wpAnyH_take (i := 7) (v := ?_) rfl (by kernel_rfl) (by kernel_rfl) (by kernel_rfl) (fun _ _ _ h => h) (Or.inl ⟨by rfl, ?_⟩) hS3 ?_
          rotate_left
          · intro w9 hw9
            go_simp
            try with_reducible rfl
          refine wpAnyH_take (i := 8) (v := ?_) rfl (by kernel_rfl) (by kernel_rfl) (by kernel_rfl) (fun _ _ _ h => h) (Or.inl ⟨by rfl, ?_⟩) hS3 ?_
          rotate_left
          · intro w9 hw9
            go_simp
            try with_reducible rfl
          refine wpAnyH_take (i := 9) (v := ?_) rfl (by kernel_rfl) (by kernel_rfl) (by kernel_rfl) (fun _ _ _ h => h) (Or.inl ⟨by rfl, ?_⟩) hS3 ?_
          rotate_left
          · intro w9 hw9
            go_simp
            try with_reducible rfl
          refine wpAnyH_take (i := 10) (v := ?_) rfl (by kernel_rfl) (by kernel_rfl) (by kernel_rfl) (fun _ _ _ h => h) (Or.inl ⟨by rfl, ?_⟩) hS3 ?_
          rotate_left
          · intro w9 hw9
            go_simp
            try with_reducible rfl
          refine wpAnyH_take (i := 11) (v := ?_) rfl (by kernel_rfl) (by kernel_rfl) (by kernel_rfl) (fun _ _ _ h => h) (Or.inl ⟨by rfl, ?_⟩) hS3 ?_
          rotate_left
          · intro w9 hw9
            go_simp
            try with_reducible rfl
          refine wpAnyH_done (by kernel_rfl) ?_ _
          clear hS3
          go_wp2_with fail
          go_meet
          exact ⟨rfl, rfl, hX, hb⟩
        case rest =>
          clear hX hb hR
          obtain ⟨rfl, rfl, hX, hb⟩ := hcut
          by_cases hm : m1 = m2
          · have hne : ((m1 : Int) != (m2 : Int)) = false := by rw [hm]; simp
            have h2 := HALL.out hm
            have H2 := Lib.hid h2
            clear h2 hm
            go_wp2_with fail
            go_roundw
            case rel => exact ⟨j + 1, by omega, by go_num, hX, H2.out, hb⟩
            case measure => simp [Go.RowKit.intOf]; omega
          · have hne : ((m1 : Int) != (m2 : Int)) = true := by simp; omega
            have hy := HYES.out hm
            have HYY := Lib.hid hy
            clear hy hm
            go_wp2_with fail
            go_ret
            exact ⟨by rw [HYY.out]; rfl, hb⟩
    · have hlt' : ¬ (j : Int) < ax.length := by omega
      obtain rfl : j = ax.length := by omega
      have HNN := Lib.hid (HN.out hall)
      clear hall
      go_wp2_with fail
      go_ret
      exact ⟨by rw [HNN.out]; rfl, hb⟩
end Go.Proofs.YtgnahjadjgjecaaGreat
