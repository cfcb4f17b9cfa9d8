/- The reference's Dag: values, Eval, walked. -/
import Derived.Test.YtgnahjadjgjecaaGreatRVal0
import Derived.BigRegion
import Derived.Laws.Rows
set_option linter.unusedVariables false
set_option linter.unusedSimpArgs false
namespace Go.Proofs.YtgnahjadjgjecaaGreat
open Go.RowKit Go.Maps Go.MapKept

set_option maxRecDepth 100000 in
set_option maxHeartbeats 4000000 in
theorem rvalues_any (k : Nat) (vl : Value) (n : Nat) (ts : List Term) (x : Nat → Nat) (hx : ∀ r, x r < 4294967296) (hl : ts.length < 100000000000) (hn : n < ts.length) (hG : Good ts) (w : World) (h : RefAt w k vl ts) :
    Calls Tryz.prog 55 #[.pointer (some ⟨k, 0, none⟩), .int .i64 n, .agg (regsV x)] w fun e w' => ∃ v, e = .returned v ∧ Own w.heap.size 26 U32 w' v (evs x (ts.take (n + 1))) ∧ Below w.heap.size w w' := by
  have b0 := (Below.refl w.heap.size w).alloc (Nat.le_refl _) (.cells (regsV x) 27)
  have hx0 := blk_alloc (blk_new w (.cells (regsV x) 27)) (.cells #[] 26)
  have b1 := below_alloc1 b0 (.cells #[] 26)
  have hs1 : (w.alloc (.cells (regsV x) 27)).heap.size = w.heap.size + 1 := by simp
  have o1 : Own w.heap.size 26 U32 ((w.alloc (.cells (regsV x) 27)).alloc (.cells #[] 26)) (.slice (some ⟨w.heap.size + 1, 0, none⟩) 0 0) (evs x (ts.take 0)) := Own.empty' (by omega) hs1
  have hRg := fun (w : World) (g : Nat) (h : w.heap[g]? = some (.cells (regsV x) 27 (0, 0))) (r : Nat) (hr : r < 32) => regs_cell h hr
  generalize regsV x = R at b0 b1 hx0 o1 hs1 hRg ⊢
  go_enter Tryz.func55, Tryz.ntmps55
  go_wp2_with fail
  go_loopw [7, 8] (fun v i wr => ∃ j : Nat, j ≤ n + 1 ∧ i = .int .i64 j ∧ wr.heap[w.heap.size]? = some (.cells R 27 (0, 0)) ∧ Own w.heap.size 26 U32 wr v (evs x (ts.take j)) ∧ Below w.heap.size w wr) (fun _ i _ => n + 1 - (Go.RowKit.intOf i).toNat)
  case atStart => exact ⟨0, by omega, rfl, hx0, o1, b1⟩
  case round =>
    clear b0 b1 hx0 o1 hs1
    obtain ⟨j, hj, rfl, hxr, ho, hb⟩ := hrel
    have hos := ho.toSl 0
    obtain ⟨Av, cv, rfl, _, hcv, _⟩ := hos.open_
    have hlen : (evs x (ts.take j)).length = j := by rw [evs_len, List.length_take]; omega
    rw [hlen] at hos ho ⊢
    by_cases hlt : j ≤ n
    · have hlt' : (j : Int) ≤ n := by omega
      have hjt : j < ts.length := by omega
      have hr := h.below hb
      obtain ⟨A, c, rfl, q1, q2, q3⟩ := (hr.l.toSl encT 0).open_
      obtain ⟨bb, off, rfl, hat, hbl⟩ := (hr.l.toSl encT 0).at_ hjt
      rw [show ts[j] = ts.getD j default by simp [List.getD, hjt]] at hat
      have hgk := hG.at_ hjt default
      have hpa : (ts.getD j default).k = 2 → (ts.getD j default).a < j ∧ (ts.getD j default).b < j ∧ (doW (ts.getD j default).op 0 0).isSome = true := fun h2 => ⟨(hG.op_at hjt h2).2.1, (hG.op_at hjt h2).2.2.1, (hG.op_at hjt h2).1⟩
      have hsn : evs x (ts.take (j + 1)) = evs x (ts.take j) ++ [evT x (evs x (ts.take j)) (ts.getD j default)] := by
        rw [takeT_snoc hjt]; exact upTo_snoc _ _ _
      obtain ⟨t, ht⟩ : ∃ t, ts.getD j default = t := ⟨_, rfl⟩
      rw [ht] at hat hgk hpa hsn
      have d0 : wr.cell? ⟨bb, off + j * 5, none⟩ = some (.int .i64 t.k) := hat 0 _ rfl
      have d1 := hat 1 _ rfl
      have d2 := hat 2 _ rfl
      have d3 := hat 3 _ rfl
      have d4 := hat 4 _ rfl
      have c0 := one_cell hr.hb
      have gx : (j : Int) < ts.length := by omega
      have hxA := blk_alloc hxr (.cells #[.int .i64 t.k, .int .u32 t.v, .int .i64 t.op, .int .i64 t.a, .int .i64 t.b] 112)
      have oA := ho.move (stable_u32 _ [26]) (Quiet.below ((Below.refl wr.heap.size wr).alloc (Nat.le_refl _) (.cells #[.int .i64 t.k, .int .u32 t.v, .int .i64 t.op, .int .i64 t.a, .int .i64 t.b] 112))) (by simp)
      have bA := hb.alloc hb.size (.cells #[.int .i64 t.k, .int .u32 t.v, .int .i64 t.op, .int .i64 t.a, .int .i64 t.b] 112)
      obtain ⟨z0, z1, z2, z3, z4⟩ := five_cells (blk_new wr (.cells #[.int .i64 t.k, .int .u32 t.v, .int .i64 t.op, .int .i64 t.a, .int .i64 t.b] 112))
      have HS := Lib.hid hsn
      generalize hE : evs x (ts.take j) = E at oA hsn hlen
      have hoA := oA.toSl 0
      clear hat ht hsn ho hos hxr hb hr
      have push : ∀ (u : Nat), evT x E t = u → u < 4294967296 → True := fun _ _ _ => trivial
      by_cases hk1 : t.k = 1
      · have hk1' : ((t.k : Int) == 1) = true := by rw [hk1]; rfl
        have hk2' : ((t.k : Int) == 2) = false := by rw [hk1]; rfl
        have hr32 : t.v < 32 := by
          rcases hgk with ⟨v, hv, e⟩ | ⟨r, _, hr, e⟩ | ⟨op, a, b, _, _, _, e⟩ <;> rw [e] at hk1 ⊢
          · cases hk1
          · exact hr
          · cases hk1
        have hr32' : (t.v : Int) < 32 := by omega
        have hrc := hRg _ _ hxA t.v hr32
        have hev : evT x E t = x t.v := by unfold evT; rw [if_neg (by omega), if_pos hk1]
        have hu := hx t.v
        have HV := Lib.hid hev
        clear hk1 hev hgk hpa
        go_wp2_with (first | (at_builtin; go_loud (refine wpList_push (w0 := w) w.heap.size rfl _ _ 128 26 _ 4 rfl Tryz.underlying128 info_u32 rfl (by decide) [27] oA (stable_u32 _ _) (by decide) ⟨rfl, hu⟩ rfl (by rw [show (wr.alloc (.cells #[.int .i64 t.k, .int .u32 t.v, .int .i64 t.op, .int .i64 t.a, .int .i64 t.b] 112)).heap.size = wr.heap.size + 1 by simp]; rfl) rfl bA bA.size (by rw [hlen]; omega) ?_); intro v1 w1 ho1 hb1 hg1) | fail)
        have hx1 := oA.other hg1 hxA (by simp)
        go_roundw
        case rel => exact ⟨j + 1, by omega, by go_num, hx1, by rw [HS.out, hE, HV.out]; exact ho1, hb1⟩
        case measure => simp [Go.RowKit.intOf]; omega
      have hk1' : ((t.k : Int) == 1) = false := by rw [beq_eq_false_iff_ne]; omega
      by_cases hk2 : t.k = 2
      · have hk2' : ((t.k : Int) == 2) = true := by rw [hk2]; rfl
        obtain ⟨la, lb, hop⟩ := hpa hk2
        obtain ⟨va, voa, eA, hca, hua⟩ := u32_at hoA (k := t.a) (by omega)
        obtain ⟨vb, vob, eB, hcb, hub⟩ := u32_at hoA (k := t.b) (by omega)
        rw [eA] at eB
        simp only [Option.some.injEq, Addr.mk.injEq, and_true] at eB
        obtain ⟨rfl, rfl⟩ := eB
        subst eA
        have la' : (t.a : Int) < j := by omega
        have lb' : (t.b : Int) < j := by omega
        have hev : evT x E t = (doW t.op (E.getD t.a 0) (E.getD t.b 0)).getD 0 := by unfold evT; rw [if_neg (by omega), if_neg (by omega)]
        have hDo := fun w => rdo_any t.op hop (E.getD t.a 0) (E.getD t.b 0) hua hub w
        have hu := doW_lt hop hua hub
        generalize (doW t.op (E.getD t.a 0) (E.getD t.b 0)).getD 0 = u at hDo hev hu
        generalize E.getD t.a 0 = ua at hDo hca
        generalize E.getD t.b 0 = ub at hDo hcb
        have HV := Lib.hid hev
        clear hk2 hev hgk hpa la lb hua hub hop
        go_wp2_with fail
        go_region_held3 (fun w' => w'.cell? ⟨wr.heap.size, 2, none⟩ = some (.int .i64 t.op) ∧ w'.cell? ⟨wr.heap.size, 3, none⟩ = some (.int .i64 t.a) ∧ w'.cell? ⟨wr.heap.size, 4, none⟩ = some (.int .i64 t.b) ∧ w'.cell? ⟨va, voa + t.a, none⟩ = some (.int .u32 ua) ∧ w'.cell? ⟨va, voa + t.b, none⟩ = some (.int .u32 ub))
          (first | exact ⟨cell_below b5 z2, cell_below b5 z3, cell_below b5 z4, cell_below b5 hca, cell_below b5 hcb⟩ | exact ⟨z2, z3, z4, hca, hcb⟩ | go_keep)
          (first
            | (go_at_call 81; (with_reducible refine (hDo _).mono ?_); rintro r w5 ⟨rfl, b5⟩))
        have b5 := ((Below.refl (wr.alloc (.cells #[.int .i64 t.k, .int .u32 t.v, .int .i64 t.op, .int .i64 t.a, .int .i64 t.b] 112)).heap.size (wr.alloc (.cells #[.int .i64 t.k, .int .u32 t.v, .int .i64 t.op, .int .i64 t.a, .int .i64 t.b] 112))).drew).trans b5
        have hxB := blk_below hxA b5
        have oB := oA.move (stable_u32 _ [26]) (Quiet.below b5) (by simp)
        have bB := below_then bA b5
        clear z0 z1 z2 z3 z4 hca hcb hDo
        go_wp2_with (first | (at_builtin; go_loud (refine wpList_push (w0 := w) w.heap.size rfl _ _ 128 26 _ 4 rfl Tryz.underlying128 info_u32 rfl (by decide) [27] oB (stable_u32 _ _) (by decide) ⟨rfl, hu⟩ rfl rfl rfl bB bB.size (by rw [hlen]; omega) ?_); intro v1 w1 ho1 hb1 hg1) | fail)
        have hx1 := oB.other hg1 hxB (by simp)
        go_roundw
        case rel => exact ⟨j + 1, by omega, by go_num, hx1, by rw [HS.out, hE, HV.out]; exact ho1, hb1⟩
        case measure => simp [Go.RowKit.intOf]; omega
      · have hk2' : ((t.k : Int) == 2) = false := by rw [beq_eq_false_iff_ne]; omega
        have hk0 : t.k = 0 := by
          rcases hgk with ⟨v, hv, e⟩ | ⟨r, _, hr, e⟩ | ⟨op, a, b, _, _, _, e⟩ <;> rw [e] at hk1 hk2 ⊢
          · rfl
          · exact absurd rfl hk1
          · exact absurd rfl hk2
        have hu : t.v < 4294967296 := by
          rcases hgk with ⟨v, hv, e⟩ | ⟨r, _, hr, e⟩ | ⟨op, a, b, _, _, _, e⟩ <;> rw [e]
          · exact hv
          · show r < _; omega
          · show 0 < _; omega
        have hev : evT x E t = t.v := by unfold evT; rw [if_pos hk0]
        have HV := Lib.hid hev
        clear hk0 hk1 hk2 hev hgk hpa
        go_wp2_with (first | (at_builtin; go_loud (refine wpList_push (w0 := w) w.heap.size rfl _ _ 128 26 _ 4 rfl Tryz.underlying128 info_u32 rfl (by decide) [27] oA (stable_u32 _ _) (by decide) ⟨rfl, hu⟩ rfl (by rw [show (wr.alloc (.cells #[.int .i64 t.k, .int .u32 t.v, .int .i64 t.op, .int .i64 t.a, .int .i64 t.b] 112)).heap.size = wr.heap.size + 1 by simp]; rfl) rfl bA bA.size (by rw [hlen]; omega) ?_); intro v1 w1 ho1 hb1 hg1) | fail)
        have hx1 := oA.other hg1 hxA (by simp)
        go_roundw
        case rel => exact ⟨j + 1, by omega, by go_num, hx1, by rw [HS.out, hE, HV.out]; exact ho1, hb1⟩
        case measure => simp [Go.RowKit.intOf]; omega
    · have hlt' : ¬ (j : Int) ≤ n := by omega
      obtain rfl : j = n + 1 := by omega
      go_wp2_with fail
      go_ret
      exact ⟨_, rfl, ho, hb⟩
set_option maxRecDepth 100000 in
theorem reval_no (k : Nat) (vl : Value) (n : Int) (ts : List Term) (x : Nat → Nat) (hn : inR n ts.length = false) (w : World) (h : RefAt w k vl ts) :
    Calls Tryz.prog 37 #[.pointer (some ⟨k, 0, none⟩), .int .i64 n, .agg (regsV x)] w fun e w' => e = .returned (.tuple #[.int .u32 0, .int .i64 100]) ∧ Below w.heap.size w w' := by
  have b0 := (Below.refl w.heap.size w).alloc (Nat.le_refl _) (.cells (regsV x) 27)
  have hr := h.below b0
  obtain ⟨A, c, rfl, q1, q2, q3⟩ := (hr.l.toSl encT 0).open_
  have c0 := one_cell hr.hb
  have hcase := inR_not hn
  clear hn h hr
  generalize regsV x = R at b0 c0 ⊢
  rcases hcase with h1 | h1
  · go_enter Tryz.func37, Tryz.ntmps37
    go_wp2_with fail
    go_ret2
    exact ⟨rfl, b0⟩
  · have h0 : ¬ n < 0 := by omega
    go_enter Tryz.func37, Tryz.ntmps37
    go_wp2_with fail
    go_ret2
    exact ⟨rfl, b0⟩
set_option maxRecDepth 100000 in
theorem reval_any (k : Nat) (vl : Value) (n : Nat) (ts : List Term) (x : Nat → Nat) (hx : ∀ r, x r < 4294967296) (hl : ts.length < 100000000000) (hn : n < ts.length) (hG : Good ts) (w : World) (h : RefAt w k vl ts) :
    Calls Tryz.prog 37 #[.pointer (some ⟨k, 0, none⟩), .int .i64 n, .agg (regsV x)] w fun e w' => e = .returned (.tuple #[.int .u32 (ev ts x n : Nat), .int .i64 0]) ∧ Below w.heap.size w w' := by
  have b0 := (Below.refl w.heap.size w).alloc (Nat.le_refl _) (.cells (regsV x) 27)
  have hr := h.below b0
  have hV := rvalues_any k vl n ts x hx hl hn hG _ hr
  obtain ⟨A, c, rfl, q1, q2, q3⟩ := (hr.l.toSl encT 0).open_
  have c0 := one_cell hr.hb
  have gx : (n : Int) < ts.length := by omega
  have gx2 : ¬ ts.length ≤ n := by omega
  have hlen : (evs x (ts.take (n + 1))).length = n + 1 := by rw [evs_len, List.length_take]; omega
  have hev : (evs x (ts.take (n + 1))).getD n 0 = ev ts x n := ev_take (by omega) (by omega)
  clear h hr
  have hsz := regsV_size x
  have hbk := blk_new w (.cells (regsV x) 27)
  generalize regsV x = R at b0 c0 hV hsz hbk ⊢
  generalize evs x (ts.take (n + 1)) = E at hV hlen hev
  generalize ev ts x n = u at hev ⊢
  go_enter Tryz.func37, Tryz.ntmps37
  go_wp2_with (first | (refine wpList_load_row rfl 27 (.tmp 5) rfl w.heap.size rfl 27 R (0, 0) _ hbk Tryz.underlying27 rfl (by rw [hsz]; kernel_rfl) ?_) | fail)
  refine hV.mono ?_
  rintro r w1 ⟨v, rfl, ho, b1⟩
  have hos := ho.toSl 0
  obtain ⟨Av, cv, rfl, _, hcv, _⟩ := hos.open_
  obtain ⟨va, voa, rfl, hca, hua⟩ := u32_at hos (k := n) (by omega)
  rw [hev] at hca
  rw [hlen]
  have hnl : (n : Int) < ((n + 1 : Nat) : Int) := by omega
  have bw := below_then b0 b1
  clear hV ho hos hev hua hlen
  go_wp2_with fail
  go_ret2
  exact ⟨rfl, bw⟩
end Go.Proofs.YtgnahjadjgjecaaGreat
