/- The law LiftZero, walked. -/
import Derived.Test.YtaiggfknighhgaaDoorIL2W
import Derived.Test.YtaiggfknighhgaaDoorIZero
import Derived.Test.YtaiggfknighhgaaDoorTEval0
set_option linter.unusedVariables false
set_option linter.unusedSimpArgs false
namespace Go.Proofs.YtaiggfknighhgaaDoor
open Go.RowKit Go.Maps Go.MapKept

theorem zero_facts {y : List Ins} (g : Nat → Nat) (hl : y.length ≤ 100) : ∃ (ts : List Term) (z : Nat → Int) (er : Int), blockO [] y 0 = (ts, z, er) ∧ ((er = 120 ∧ (er == 0) = false) ∨ (er = 0 ∧ (er == 0) = true ∧ ∃ (x s : Nat → Nat), z = (fun r => ((x r : Nat) : Int)) ∧ Good ts ∧ ts.length ≤ 90000 ∧ x 0 < ts.length ∧ ev ts g (x 0) = 0 ∧ (∀ i, i ∈ y → plainI i = true) ∧ (∀ r, (setB 1 y).testBit r = false → x r = s r) ∧ (startZ ts 32 = fun r => ((s r : Nat) : Int)))) := by
  have hG0 : Good [] := good_of rfl
  refine ⟨(blockO [] y 0).1, (blockO [] y 0).2.1, (blockO [] y 0).2.2, rfl, ?_⟩
  cases h : oddL y with
  | true =>
    have e : ∀ ts pc, blockO ts y pc = (ts, fun _ => 0, 120) := fun ts pc => by unfold blockO; rw [if_pos h]
    rw [e]
    exact Or.inl ⟨rfl, rfl⟩
  | false =>
    have hp := oddL_false h
    have e : ∀ ts pc, blockO ts y pc = ((blkT ts y pc).1, fun r => (((blkT ts y pc).2 r : Nat) : Int), 0) := fun ts pc => by unfold blockO; rw [if_neg (by rw [h]; decide)]; rfl
    obtain ⟨fg, fi, fx⟩ := blkT_ok (pc := 0) hG0 hp
    have fl := blkT_len (pc := 0) hG0 hp hl (by decide)
    have hz := blk_zero (pc := 0) (e := g) hG0 hp
    have hag := startT_again (ts := []) 32 fx
    rw [e]
    refine Or.inr ⟨rfl, rfl, (blkT [] y 0).2, (startT [] 32).2, rfl, fg, ?_, fi 0 (by omega), hz, hp, fun r hr => setB_stays y (startT [] 32).1 (startT [] 32).2 0 1 r hp hr, ?_⟩
    · simp only [List.length_nil] at fl; exact Nat.le_trans fl (by decide)
    · funext r
      show (((startT (blkT [] y 0).1 32).2 r : Nat) : Int) = _
      rw [hag]
theorem bit_test (m r : Nat) (hm : m < 4294967296) (h : (bits BinOp.and IntKind.u32 ((m : Int) / 2 ^ r) 1 == 0) = true) : m.testBit r = false := by
  have h1 : (m : Int) / 2 ^ r = ((m / 2 ^ r : Nat) : Int) := by simp
  have h2 : m / 2 ^ r < 4294967296 := Nat.lt_of_le_of_lt (Nat.div_le_self _ _) hm
  rw [h1, show (1 : Int) = ((1 : Nat) : Int) from rfl, u32_and _ _ h2 (by decide), Nat.and_one_is_mod] at h
  refine bit_and m r hm ?_
  have h3 := eq_of_beq h
  omega
set_option maxRecDepth 100000 in
set_option maxHeartbeats 4000000 in
theorem law1_any (B : Nat) (e : TypeId) (v : Value) (xs : List Ins) (g : Nat → Nat) (hgr : ∀ r, g r < 4294967296) (w : World) (hs : SlN B e 5 Ins.five w v xs) (hT : Tab w) (hgz : 0 < w.heap.size) :
    Calls Tryd.prog 6 #[v, .agg (regsV g)] w fun e w' => e = .returned (.bool true) ∧ Below w.heap.size w w' := by
  have hsz := regsV_size g
  have hev := fun K d n ts hl hn hG w h => eval_any K d n ts g hgr hl hn hG w h
  obtain ⟨A, c, rfl, hd1, hd2, _⟩ := hs.open_
  have hpl : xs.length ≤ 9223372036854775807 := by unfold maxLen at hd2; omega
  have hy0 := hs.takeI (n := min xs.length 30) (Nat.min_le_left _ _)
  obtain ⟨y, hy⟩ : ∃ y, y = xs.take (min xs.length 30) := ⟨_, rfl⟩
  rw [← hy] at hy0
  have hyl : y.length = min xs.length 30 := by rw [hy, List.length_take]; omega
  clear hy
  obtain ⟨N, hq⟩ : ∃ N : Nat, y.length = N ∧ N ≤ 30 ∧ N ≤ c ∧ SlN B e 5 Ins.five w (.slice A N c) y ∧ (((30 : Int) < (xs.length : Int) ∧ N = 30 ∧ min (xs.length : Int) 30 = 30 ∧ (30 : Int) ≤ (c : Int)) ∨ ((¬ (30 : Int) < (xs.length : Int)) ∧ ((30 : Int) < (xs.length : Int)) = False ∧ (30 < xs.length) = False ∧ (if (30 : Int) < (xs.length : Int) then 30 else (xs.length : Int)) = (xs.length : Int) ∧ N = xs.length ∧ min (xs.length : Int) 30 = (xs.length : Int) ∧ (xs.length : Int) ≤ (c : Int))) := by
    refine ⟨min xs.length 30, hyl, Nat.min_le_right _ _, by omega, hy0, ?_⟩
    by_cases h12 : (30 : Int) < (xs.length : Int)
    · exact Or.inl ⟨h12, Nat.min_eq_right (by omega), by omega, by omega⟩
    · exact Or.inr ⟨h12, eq_false h12, eq_false (by omega), if_neg h12, Nat.min_eq_left (by omega), by omega, by omega⟩
  obtain ⟨hyN, hN30, hNc, hyS, hq⟩ := hq
  have HYN := Lib.hid hyN
  clear hy0 hyl hs hyN
  have b0 := (Below.refl w.heap.size w).alloc (Nat.le_refl _) (.cells (regsV g) 39)
  have hX := blk_new w (.cells (regsV g) 39)
  have hs0 : (w.alloc (.cells (regsV g) 39)).heap.size = w.heap.size + 1 := by simp
  have hT0 := hT.below b0
  have hNew := new_any (fun i => i < (w.alloc (.cells (regsV g) 39)).heap.size) (w.alloc (.cells (regsV g) 39)) (fun i hi => hi)
  obtain ⟨K0, hK⟩ : ∃ K : Nat → Prop, (fun i => i < (w.alloc (.cells (regsV g) 39)).heap.size) = K := ⟨_, rfl⟩
  have hend : ∀ w', Kept K0 (w.alloc (.cells (regsV g) 39)) w' → Below w.heap.size w w' := fun w' h => by rw [← hK] at h; exact b0.trans ((below_kept h).mono b0.size)
  have hgs : ∀ w', Kept K0 (w.alloc (.cells (regsV g) 39)) w' → 0 < w'.heap.size := fun w' h => by have := h.size; omega
  have hg0 : K0 0 := by rw [← hK]; show _ < _; omega
  have hk0 : K0 w.heap.size := by rw [← hK]; show _ < _; omega
  rw [hK, hs0] at hNew
  clear hK hs0 hT
  obtain ⟨ts1, zf, er, hRR, hcase⟩ := zero_facts (y := y) g (by rw [HYN.out]; omega)
  have hBB := fun b w hT h hv => block_any K0 b [] B e (.slice A N c) y 0 (by decide) (by decide) (by rw [HYN.out]; omega) (good_of rfl) hg0 w hT h hv
  rw [hRR, show ((0 : Nat) : Int) = 0 from rfl] at hBB
  unfold FromPost at hBB
  dsimp only at hBB
  clear hRR
  generalize regsV g = RV at *
  rcases hcase with ⟨rfl, he⟩ | ⟨rfl, he, x, s, rfl, fg, fl, fi, hz, hp, hst, hsz0⟩
  · rcases hq with ⟨h12, hNe, hq0, hq1⟩ | ⟨h12, h13, h14, h15, hNe, hq0, hq1⟩
    all_goals subst hNe
    all_goals
      go_enter Tryd.func6, Tryd.ntmps6
      go_wp2_with fail
      refine hNew.mono ?_
      rintro r w1 ⟨rfl, h1, b1⟩
      have k1 : Kept K0 (w.alloc (.cells RV 39)) w1 := Kept.below (by simpa using b1)
      have T1 := hT0.kept k1 hg0
      have hX1 := k1.blk hk0 hX
      have hvK : ∀ w', Kept K0 (w.alloc (.cells RV 39)) w' → SlN B e 5 Ins.five w' _ y := fun w' h => hyS.below (hend w' h)
      have hB1 := hBB (w.heap.size + 1) w1 T1 h1 (fun w' hk => hvK _ (k1.trans hk))
      clear hNew b1 hT0 hX hBB h1 he
      go_wp2_with fail
      refine hB1.mono ?_
      rintro r w2 ⟨rfl, h2, k2⟩
      have k3 := k1.trans k2
      have ba := (Below.refl w2.heap.size w2).alloc (Nat.le_refl _) (.cells (zV zf) 26)
      have T2 := (T1.kept k2 hg0).below ba
      have k4 := k3.trans (Kept.below ba)
      go_wp2_with (first | ((refine wpList_store_row rfl 26 (.tmp 6) (.tmp 26) rfl w2.heap.size (zV zf) rfl rfl 26 _ (blk_new w2 _) (by rw [zV_size]; exact info_arr) rfl (zV_one _) ?_); rw [World.setRow_alloc_new]) | fail)
      refine (lfixed_any _ T2 (hgs _ k4)).mono ?_
      rintro r w4 ⟨rfl, b4⟩
      go_wp2_with fail
      go_ret
      exact ⟨rfl, hend _ (k4.trans (Kept.below b4))⟩
  · rcases hq with ⟨h12, hNe, hq0, hq1⟩ | ⟨h12, h13, h14, h15, hNe, hq0, hq1⟩
    all_goals subst hNe
    all_goals
      have hE := fun K d w h => hev K d (x 0) ts1 (by omega) fi fg w h
      rw [hz] at hE
      have hS := fun K b w h => start_any K b ts1 (by omega) w h
      rw [hsz0] at hS
      generalize (startT ts1 32).1 = ts2 at hS
      clear hev fl fi fg hz hsz0
      go_enter Tryd.func6, Tryd.ntmps6
      go_wp2_with fail
      refine hNew.mono ?_
      rintro r w1 ⟨rfl, h1, b1⟩
      have k1 : Kept K0 (w.alloc (.cells RV 39)) w1 := Kept.below (by simpa using b1)
      have T1 := hT0.kept k1 hg0
      have hX1 := k1.blk hk0 hX
      have hvK : ∀ w', Kept K0 (w.alloc (.cells RV 39)) w' → SlN B e 5 Ins.five w' _ y := fun w' h => hyS.below (hend w' h)
      have hB1 := hBB (w.heap.size + 1) w1 T1 h1 (fun w' hk => hvK _ (k1.trans hk))
      clear hNew b1 hT0 hX hBB h1 he
      go_wp2_with fail
      refine hB1.mono ?_
      rintro r w2 ⟨rfl, h2, k2⟩
      have k3 := k1.trans k2
      have T2 := T1.kept k2 hg0
      have hX2 := k2.blk hk0 hX1
      have ba := (Below.refl w2.heap.size w2).alloc (Nat.le_refl _) (.cells (zV fun r => ((x r : Nat) : Int)) 26)
      have gY : ZAt 26 _ _ _ := ZAt.new 26 w2 (fun r => ((x r : Nat) : Int))
      have T3 := T2.below ba
      obtain ⟨K2, h3, kk2, kn2⟩ := h2.grow ba
      have e1 := kn2 w2.heap.size (Nat.le_refl _) (by simp)
      have hX3 := blk_below hX2 ba
      have k4 := k3.trans (Kept.below ba)
      have c0 := gY.cell (i := 0) (by decide)
      clear hB1 k1 k2 k3 T1 T2 h2 hX1 hX2 ba kn2
      go_wp2_with (first | ((refine wpList_store_row rfl 26 (.tmp 6) (.tmp 26) rfl w2.heap.size (zV fun r => ((x r : Nat) : Int)) rfl rfl 26 _ (blk_new w2 _) (by rw [zV_size]; exact info_arr) rfl (zV_one _) ?_); rw [World.setRow_alloc_new]) | (refine wpList_load_row rfl 39 (.tmp 3) rfl w.heap.size rfl 39 RV (0, 0) _ hX3 Tryd.underlying39 rfl (by rw [hsz]; kernel_rfl) ?_) | fail)
      refine (hE _ _ _ h3).mono ?_
      rintro r w4 ⟨rfl, b4⟩
      have gY4 := gY.below b4
      have h4 := h3.below b4
      have T4 := T3.below b4
      have k5 := k4.trans (Kept.below b4)
      clear hE h3 T3 gY hX3 c0 k4 b4
      have hy4 := hvK _ k5
      go_wp2_with fail
      go_loopw [10, 11] (fun sv i wr => ∃ j : Nat, j ≤ y.length ∧ i = .int .i64 j ∧ sv = .int .u32 (setB 1 (y.take j) : Nat) ∧ w4 = wr) (fun _ i _ => y.length - (Go.RowKit.intOf i).toNat)
      case atStart => exact ⟨0, by omega, rfl, rfl, rfl⟩
      case round =>
        obtain ⟨j, hj, rfl, rfl, hww⟩ := hrel
        subst hww
        have hn := HYN.out
        by_cases hlt : j < y.length
        · try have hlt1 : (j : Int) < 30 := by omega
          try have hlt2 : (j : Int) < (xs.length : Int) := by omega
          obtain ⟨bb, off, eA, hat, hbl⟩ := hy4.at_ hlt
          have hpi := hp _ (List.getElem_mem hlt)
          have hsn : setB 1 (y.take (j + 1)) = setB 1 (y.take j) ||| 2 ^ (y[j]).rd.toNat := by rw [takeI_snoc hlt, setB_snoc]
          have hsl := setB_lt (y.take j) 1 (by decide) (fun i hi => hp i (List.mem_of_mem_take hi))
          have hr : rightI y[j] = true := by unfold plainI at hpi; rw [Bool.and_eq_true] at hpi; exact hpi.1
          obtain ⟨hrd, _, _⟩ := rightI_regs hr
          generalize y[j] = i at hat hsn hrd
          obtain ⟨op, rd, rs1, rs2, imm⟩ := i
          dsimp only at hrd hsn
          obtain ⟨q, rfl⟩ : ∃ q : Nat, rd = q := ⟨rd.toNat, by omega⟩
          have hq32 : q < 32 := by omega
          rw [Int.toNat_natCast] at hsn
          have hand : bits BinOp.and IntKind.i64 (q : Int) 31 = (q : Int) := by
            have : ∀ q, q < 32 → bits BinOp.and IntKind.i64 ((q : Nat) : Int) 31 = ((q : Nat) : Int) := by decide +kernel
            exact this q hq32
          have hpw : 2 ^ q < 2 ^ 32 := Nat.pow_lt_pow_right (by omega) hq32
          have hor := u32_or (setB 1 (y.take j)) (2 ^ q) hsl hpw
          have hpc : ((2 : Int) ^ q % 4294967296) = ((2 ^ q : Nat) : Int) := by
            have : ((2 ^ q : Nat) : Int) = (2 : Int) ^ q := by simp
            rw [← this]
            exact Int.emod_eq_of_lt (Int.natCast_nonneg _) (Int.ofNat_lt.2 hpw)
          have hor' : bits BinOp.or IntKind.u32 ((setB 1 (y.take j) : Nat) : Int) ((2 : Int) ^ q % 4294967296) = ((setB 1 (y.take j) ||| 2 ^ q : Nat) : Int) := by rw [hpc]; exact hor
          clear hpc hor
          have HSN := Lib.hid hsn
          subst eA
          have d1 : w4.cell? ⟨bb, off + j * 5 + 1, none⟩ = some (.int .i64 q) := hat 1 _ rfl
          generalize setB 1 (y.take j) = sv at hsl hor' HSN
          clear hn hat hsn hpi hr hrd
          go_wp2_with fail
          go_roundw
          case rel => exact ⟨j + 1, by omega, by go_num, by rw [HSN.out], by first | rfl | trivial⟩
          case measure => simp [Go.RowKit.intOf]; omega
        · try have hlt1 : ¬ (j : Int) < 30 := by omega
          try have hlt2 : ¬ (j : Int) < (xs.length : Int) := by omega
          have hjy : y.take j = y := List.take_of_length_le (by omega)
          rw [hjy]
          have hml := setB_lt y 1 (by decide) hp
          generalize setB 1 y = m at hst hml
          have hS1 := hS K2 _ _ h4
          clear hn hjy hS h4 hp hy4
          go_wp2_with fail
          refine hS1.mono ?_
          rintro r w5 ⟨rfl, h5, k6⟩
          have gY5 := gY4.kept k6 e1
          have T5 := T4.kept k6 (kk2 _ hg0)
          have k7 := k5.trans (k6.mono kk2)
          have bc := (Below.refl w5.heap.size w5).alloc (Nat.le_refl _) (.cells (zV fun r => ((s r : Nat) : Int)) 26)
          have gS := ZAt.new 26 w5 (fun r => ((s r : Nat) : Int))
          have gY6 := gY5.below bc
          have T6 := T5.below bc
          have k8 := k7.trans (Kept.below bc)
          have hs6 : w2.heap.size < w5.heap.size := by have := gY5.lt; omega
          clear hS1 h5 k6 T5 k7 gY5 gY4 T4 k5 bc
          go_wp2_with (first | ((refine wpList_store_row rfl 26 (.tmp 12) (.tmp 55) rfl w5.heap.size (zV fun r => ((s r : Nat) : Int)) rfl rfl 26 _ (blk_new w5 _) (by rw [zV_size]; exact info_arr) rfl (zV_one _) ?_); rw [World.setRow_alloc_new]) | fail)
          go_loopw [13] (fun i wr => ∃ j : Nat, j ≤ 32 ∧ i = .int .i64 j ∧ Below (w5.alloc (.cells (zV fun r => ((s r : Nat) : Int)) 26)).heap.size (w5.alloc (.cells (zV fun r => ((s r : Nat) : Int)) 26)) wr) (fun i _ => 32 - (Go.RowKit.intOf i).toNat)
          case atStart => exact ⟨0, by omega, rfl, Below.refl _ _⟩
          case round =>
            obtain ⟨j, hj, rfl, hb⟩ := hrel
            have gYb := gY6.below hb
            have gSb := gS.below hb
            by_cases hlt : j < 32
            · have hlt' : (j : Int) < 32 := by omega
              have c1 := gYb.cell hlt
              have c2 := gSb.cell hlt
              cases hjr : (bits BinOp.and IntKind.u32 ((m : Int) / 2 ^ j) 1 == 0)
              rotate_left
              · have hjo : x j = s j := hst j (bit_test m j hml hjr)
                try dsimp only at c1 c2
                rw [hjo] at c1
                go_wp2_with fail
                go_quiet (fail)
                go_wp2_with fail
                go_roundw
                case rel => exact ⟨j + 1, by omega, by go_num, below_drewN hb nq⟩
                case measure => simp [Go.RowKit.intOf]; omega
              · go_wp2_with fail
                go_quiet (fail)
                go_wp2_with fail
                go_roundw
                case rel => exact ⟨j + 1, by omega, by go_num, below_drewN hb nq⟩
                case measure => simp [Go.RowKit.intOf]; omega
            · have hlt' : ¬ (j : Int) < 32 := by omega
              have T7 := T6.below hb
              have k9 := k8.trans (Kept.below hb)
              go_wp2_with fail
              refine (lfixed_any _ T7 (hgs _ k9)).mono ?_
              rintro r w6 ⟨rfl, b6⟩
              go_wp2_with fail
              go_ret
              exact ⟨rfl, hend _ (k9.trans (Kept.below b6))⟩
end Go.Proofs.YtaiggfknighhgaaDoor
