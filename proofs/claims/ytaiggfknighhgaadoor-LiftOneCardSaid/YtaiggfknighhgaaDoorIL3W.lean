/- The law LiftOne, walked. -/
import Derived.Test.YtaiggfknighhgaaDoorIFix
import Derived.Test.YtaiggfknighhgaaDoorIAgain
set_option linter.unusedVariables false
set_option linter.unusedSimpArgs false
namespace Go.Proofs.YtaiggfknighhgaaDoor
open Go.RowKit Go.Maps Go.MapKept

theorem one_out {i : Ins} {pc : Nat} (hi : plainI i = true) : ∀ r : Nat, r < 32 → (r : Int) ≠ i.rd → (blkT (startT [] 32).1 [i] pc).2 r = (startT [] 32).2 r := fun r hr hne => by
  show (fromT (startT (startT [] 32).1 32).1 (startT (startT [] 32).1 32).2 [i] pc).2 r = _
  rw [startT_again 32 (Ext.refl _)]
  show setR _ _ _ r = _
  unfold setR
  split
  · rfl
  · have hr2 : rightI i = true := by unfold plainI at hi; rw [Bool.and_eq_true] at hi; exact hi.1
    obtain ⟨h1, _, _⟩ := rightI_regs hr2
    exact if_neg (by omega)
theorem one_zero {i : Ins} {pc : Nat} (hi : plainI i = true) : (blkT (startT [] 32).1 [i] pc).2 0 = (startT [] 32).2 0 := by
  by_cases h : i.rd = 0
  · show (fromT (startT (startT [] 32).1 32).1 (startT (startT [] 32).1 32).2 [i] pc).2 0 = _
    rw [startT_again 32 (Ext.refl _)]
    show setR _ _ _ 0 = _
    unfold setR
    rw [if_pos h]
  · exact one_out hi 0 (by omega) (fun e => h e.symm)
set_option maxRecDepth 100000 in
set_option maxHeartbeats 4000000 in
theorem law3_any (x : Ins) (pc : Nat) (hpc : pc < 4294967296) (w : World) (hT : Tab w) (hgz : 0 < w.heap.size) :
    Calls Tryd.prog 5 #[.agg x.five.toArray, .int .u32 pc] w fun e w' => e = .returned (.bool true) ∧ Below w.heap.size w w' := by
  have hP0 := lplain_any x
  have hod : oddL [x] = !plainI x := by unfold oddL; simp
  have hout := @one_out x pc
  have hzer := @one_zero x pc
  have hBB := fun K b w hg hT hD hv => block_any K b (startT [] 32).1 0 35 (.slice (some ⟨w.heap.size - 1, 0, none⟩) 1 1) [x] pc hpc (by decide +kernel) (by show 1 ≤ 100; omega) (startT_good (good_of rfl) 32 (Nat.le_refl _)) hg w hT hD hv
  obtain ⟨op, rd, rs1, rs2, imm⟩ := x
  dsimp only at hout
  change ∀ w, Calls Tryd.prog 12 #[.agg #[.int .i64 op, .int .i64 rd, .int .i64 rs1, .int .i64 rs2, .int .i64 imm]] w _ at hP0
  show Calls Tryd.prog 5 #[.agg #[.int .i64 op, .int .i64 rd, .int .i64 rs1, .int .i64 rs2, .int .i64 imm], .int .u32 pc] w _
  have b1 := (Below.refl w.heap.size w).alloc (Nat.le_refl _) (.cells #[.int .i64 op, .int .i64 rd, .int .i64 rs1, .int .i64 rs2, .int .i64 imm] 35)
  obtain ⟨z0, z1, z2, z3, z4⟩ := five_cells (blk_new w (.cells #[.int .i64 op, .int .i64 rd, .int .i64 rs1, .int .i64 rs2, .int .i64 imm] 35))
  have hs0 : (w.alloc (.cells #[.int .i64 op, .int .i64 rd, .int .i64 rs1, .int .i64 rs2, .int .i64 imm] 35)).heap.size = w.heap.size + 1 := by simp
  have hT0 := hT.below b1
  have hN := new_any (fun i => i < (w.alloc (.cells #[.int .i64 op, .int .i64 rd, .int .i64 rs1, .int .i64 rs2, .int .i64 imm] 35)).heap.size) (w.alloc (.cells #[.int .i64 op, .int .i64 rd, .int .i64 rs1, .int .i64 rs2, .int .i64 imm] 35)) (fun i hi => hi)
  obtain ⟨K0, hK⟩ : ∃ K : Nat → Prop, (fun i => i < (w.alloc (.cells #[.int .i64 op, .int .i64 rd, .int .i64 rs1, .int .i64 rs2, .int .i64 imm] 35)).heap.size) = K := ⟨_, rfl⟩
  have hend : ∀ w', Kept K0 (w.alloc (.cells #[.int .i64 op, .int .i64 rd, .int .i64 rs1, .int .i64 rs2, .int .i64 imm] 35)) w' → Below w.heap.size w w' := fun w' h => by rw [← hK] at h; exact b1.trans ((below_kept h).mono b1.size)
  have hgs : ∀ w', Kept K0 (w.alloc (.cells #[.int .i64 op, .int .i64 rd, .int .i64 rs1, .int .i64 rs2, .int .i64 imm] 35)) w' → 0 < w'.heap.size := fun w' h => by have := h.size; omega
  have hg0 : K0 0 := by rw [← hK]; show _ < _; omega
  have hk0 : K0 w.heap.size := by rw [← hK]; show _ < _; omega
  rw [hK] at hN
  rw [hs0] at hN
  clear hK
  have hS := fun K b w h => start_any K b [] (by decide) w h
  have hrd : plainI ⟨op, rd, rs1, rs2, imm⟩ = plainI ⟨op, rd, rs1, rs2, imm⟩ := rfl
  generalize hpl : plainI ⟨op, rd, rs1, rs2, imm⟩ = pl at hP0 hod hout hzer
  rw [show startZ [] 32 = fun r => (((startT [] 32).2 r : Nat) : Int) from rfl] at hS
  have hBO : blockO (startT [] 32).1 [⟨op, rd, rs1, rs2, imm⟩] pc = if pl = false then ((startT [] 32).1, fun _ => 0, 120) else ((blkT (startT [] 32).1 [⟨op, rd, rs1, rs2, imm⟩] pc).1, fun r => (((blkT (startT [] 32).1 [⟨op, rd, rs1, rs2, imm⟩] pc).2 r : Nat) : Int), 0) := by
    unfold blockO
    rw [hod]
    cases pl <;> rfl
  rw [hBO] at hBB
  clear hBO hpl hrd hod hs0
  generalize (startT [] 32).1 = ts1 at *
  generalize (startT [] 32).2 = s at *
  generalize blkT ts1 [⟨op, rd, rs1, rs2, imm⟩] pc = F at *
  go_enter Tryd.func5, Tryd.ntmps5
  go_wp2_with fail
  refine hN.mono ?_
  rintro r w1 ⟨rfl, h1, b2⟩
  have k1 : Kept K0 (w.alloc (.cells #[.int .i64 op, .int .i64 rd, .int .i64 rs1, .int .i64 rs2, .int .i64 imm] 35)) w1 := Kept.below (by simpa using b2)
  have x0 := k1.cell hk0 z0
  have x1 := k1.cell hk0 z1
  have x2 := k1.cell hk0 z2
  have x3 := k1.cell hk0 z3
  have x4 := k1.cell hk0 z4
  have T1 := hT0.kept k1 hg0
  clear hN b2 hT0 hT z0 z1 z2 z3 z4 b1
  go_wp2_with fail
  refine (hS _ _ _ h1).mono ?_
  rintro r w2 ⟨rfl, h2, k2⟩
  have y0 := k2.cell hk0 x0
  have y1 := k2.cell hk0 x1
  have y2 := k2.cell hk0 x2
  have y3 := k2.cell hk0 x3
  have y4 := k2.cell hk0 x4
  have T2 := T1.kept k2 hg0
  have k3 := k1.trans k2
  clear hS h1 x0 x1 x2 x3 x4 T1 k1 k2
  have gS := ZAt.new 26 w2 (fun r => ((s r : Nat) : Int))
  have ba := (Below.refl w2.heap.size w2).alloc (Nat.le_refl _) (.cells (zV fun r => ((s r : Nat) : Int)) 26)
  have bb := ba.alloc (by simp) (.cells #[.int .i64 op, .int .i64 rd, .int .i64 rs1, .int .i64 rs2, .int .i64 imm] 35)
  have hs1 : (w2.alloc (.cells (zV fun r => ((s r : Nat) : Int)) 26)).heap.size = w2.heap.size + 1 := by simp
  have gL := blk_new (w2.alloc (.cells (zV fun r => ((s r : Nat) : Int)) 26)) (.cells #[.int .i64 op, .int .i64 rd, .int .i64 rs1, .int .i64 rs2, .int .i64 imm] 35)
  rw [hs1] at gL
  have gS2 := gS.below ((Below.refl _ _).alloc (Nat.le_refl _) (.cells #[.int .i64 op, .int .i64 rd, .int .i64 rs1, .int .i64 rs2, .int .i64 imm] 35))
  obtain ⟨K2, d2, kk2, kn2⟩ := h2.grow bb
  have e1 := kn2 w2.heap.size (Nat.le_refl _) (by simp; omega)
  have e2 := kn2 (w2.heap.size + 1) (by omega) (by simp)
  have y0' := cell_below ba y0
  have y1' := cell_below ba y1
  have y2' := cell_below ba y2
  have y3' := cell_below ba y3
  have y4' := cell_below ba y4
  have r1 := cell_below bb y1
  have r0 := cell_below bb y0
  have r2 := cell_below bb y2
  have r3 := cell_below bb y3
  have r4 := cell_below bb y4
  have T3 := T2.below bb
  have k4 := k3.trans (Kept.below bb)
  have hB := hBB K2 (w.heap.size + 1) _ (kk2 _ hg0) T3 d2 (fun w' hk => by
    have := hk.blk e2 gL
    have := SlN.litI (xs := [⟨op, rd, rs1, rs2, imm⟩]) this (by show 1 ≤ 100; omega)
    simpa using this)
  rw [show ((w2.alloc (.cells (zV fun r => ((s r : Nat) : Int)) 26)).alloc (.cells #[.int .i64 op, .int .i64 rd, .int .i64 rs1, .int .i64 rs2, .int .i64 imm] 35)).heap.size - 1 = w2.heap.size + 1 by simp] at hB
  clear hBB gS gL ba bb kn2 h2 T2 k3 y0 y1 y2 y3 y4 hs1
  cases pl with
  | false =>
    rw [if_pos rfl] at hB
    unfold FromPost at hB
    dsimp only at hB
    go_wp2_with (first | ((refine wpList_store_row rfl 26 (.tmp 6) (.tmp 14) rfl w2.heap.size (zV fun r => ((s r : Nat) : Int)) rfl rfl 26 _ (blk_new w2 _) (by rw [zV_size]; exact info_arr) rfl (zV_one _) ?_); rw [World.setRow_alloc_new]) | fail)
    refine hB.mono ?_
    rintro r w3 ⟨rfl, h3, k5⟩
    have k6 := k4.trans (k5.mono kk2)
    have q0 := k5.cell (kk2 _ hk0) r0
    have q1 := k5.cell (kk2 _ hk0) r1
    have q2 := k5.cell (kk2 _ hk0) r2
    have q3 := k5.cell (kk2 _ hk0) r3
    have q4 := k5.cell (kk2 _ hk0) r4
    have T4 := T3.kept k5 (kk2 _ hg0)
    have bc := (Below.refl w3.heap.size w3).alloc (Nat.le_refl _) (.cells (zV fun _ => 0) 26)
    have p0 := cell_below bc q0
    have p1 := cell_below bc q1
    have p2 := cell_below bc q2
    have p3 := cell_below bc q3
    have p4 := cell_below bc q4
    have k7 := k6.trans (Kept.below bc)
    have T5 := T4.below bc
    clear hB d2 T3 k4 k5 r0 r1 r2 r3 r4 q0 q1 q2 q3 q4 T4 k6 gS2 bc
    go_wp2_with (first | ((refine wpList_store_row rfl 26 (.tmp 7) (.tmp 21) rfl w3.heap.size (zV fun _ => 0) rfl rfl 26 _ (blk_new w3 _) (by rw [zV_size]; exact info_arr) rfl (zV_one _) ?_); rw [World.setRow_alloc_new]) | fail)
    refine (hP0 _).mono ?_
    rintro r w4 ⟨rfl, b4⟩
    have k8 := k7.trans (Kept.below b4)
    go_wp2_with fail
    refine (lfixed_any _ (T5.below b4) (hgs _ k8)).mono ?_
    rintro r w5 ⟨rfl, b5⟩
    go_wp2_with fail
    go_ret
    exact ⟨rfl, hend _ (k8.trans (Kept.below b5))⟩
  | true =>
    rw [if_neg (by decide)] at hB
    unfold FromPost at hB
    dsimp only at hB
    go_wp2_with (first | ((refine wpList_store_row rfl 26 (.tmp 6) (.tmp 14) rfl w2.heap.size (zV fun r => ((s r : Nat) : Int)) rfl rfl 26 _ (blk_new w2 _) (by rw [zV_size]; exact info_arr) rfl (zV_one _) ?_); rw [World.setRow_alloc_new]) | fail)
    refine hB.mono ?_
    rintro r w3 ⟨rfl, h3, k5⟩
    have k6 := k4.trans (k5.mono kk2)
    have q0 := k5.cell (kk2 _ hk0) r0
    have q1 := k5.cell (kk2 _ hk0) r1
    have q2 := k5.cell (kk2 _ hk0) r2
    have q3 := k5.cell (kk2 _ hk0) r3
    have q4 := k5.cell (kk2 _ hk0) r4
    have gS3 := gS2.kept k5 e1
    have T4 := T3.kept k5 (kk2 _ hg0)
    have bc := (Below.refl w3.heap.size w3).alloc (Nat.le_refl _) (.cells (zV fun r => ((F.2 r : Nat) : Int)) 26)
    have gY := ZAt.new 26 w3 (fun r => ((F.2 r : Nat) : Int))
    have gS4 := gS3.below bc
    have p0 := cell_below bc q0
    have p1 := cell_below bc q1
    have p2 := cell_below bc q2
    have p3 := cell_below bc q3
    have p4 := cell_below bc q4
    have k7 := k6.trans (Kept.below bc)
    have T5 := T4.below bc
    have hs4 : w2.heap.size < w3.heap.size := by have := gS3.lt; omega
    have ho := hout trivial
    have hz := hzer trivial
    clear hB d2 T3 k4 k5 r0 r1 r2 r3 r4 q0 q1 q2 q3 q4 T4 k6 gS2 gS3 bc hout hzer
    go_wp2_with (first | ((refine wpList_store_row rfl 26 (.tmp 7) (.tmp 21) rfl w3.heap.size (zV fun r => ((F.2 r : Nat) : Int)) rfl rfl 26 _ (blk_new w3 _) (by rw [zV_size]; exact info_arr) rfl (zV_one _) ?_); rw [World.setRow_alloc_new]) | fail)
    go_loopw [9] (fun i wr => ∃ j : Nat, j ≤ 32 ∧ i = .int .i64 j ∧ Below (w3.alloc (.cells (zV fun r => ((F.2 r : Nat) : Int)) 26)).heap.size (w3.alloc (.cells (zV fun r => ((F.2 r : Nat) : Int)) 26)) wr) (fun i _ => 32 - (intOf i).toNat)
    case atStart => exact ⟨0, by omega, rfl, Below.refl _ _⟩
    case round =>
      obtain ⟨j, hj, rfl, hb⟩ := hrel
      have m1 := cell_below hb p1
      have gYb := gY.below hb
      have gSb := gS4.below hb
      by_cases hlt : j < 32
      · have hlt' : (j : Int) < 32 := by omega
        have c1 := gYb.cell hlt
        have c2 := gSb.cell hlt
        by_cases hjr : (j : Int) = rd
        · have hne : ((j : Int) != rd) = false := by simpa using hjr
          have HJ := Lib.hid hjr
          clear hjr
          go_wp2_with fail
          go_quiet (fail)
          go_wp2_with fail
          go_roundw
          case rel => exact ⟨j + 1, by omega, by go_num, below_drewN hb nq⟩
          case measure => simp [intOf]; omega
        · have hne : ((j : Int) != rd) = true := by simpa using hjr
          have hjo := ho j hlt hjr
          try dsimp only at c1 c2
          rw [hjo] at c1
          clear hjr hjo
          go_wp2_with fail
          go_quiet (fail)
          go_wp2_with fail
          go_roundw
          case rel => exact ⟨j + 1, by omega, by go_num, below_drewN hb nq⟩
          case measure => simp [intOf]; omega
      · have hlt' : ¬ (j : Int) < 32 := by omega
        have c1 := gYb.cell (i := 0) (by decide)
        have c2 := gSb.cell (i := 0) (by decide)
        try dsimp only at c1 c2
        rw [hz] at c1
        have n0 := cell_below hb p0
        have n2 := cell_below hb p2
        have n3 := cell_below hb p3
        have n4 := cell_below hb p4
        have hP := hP0 wr
        have T6 := T5.below hb
        have k8 := k7.trans (Kept.below hb)
        go_wp2_with fail
        refine hP.mono ?_
        rintro r w4 ⟨rfl, b4⟩
        have k9 := k8.trans (Kept.below b4)
        have e1 := cell_below b4 c1
        have e2 := cell_below b4 c2
        go_wp2_with fail
        refine (lfixed_any _ (T6.below b4) (hgs _ k9)).mono ?_
        rintro r w5 ⟨rfl, b5⟩
        go_wp2_with fail
        go_ret
        exact ⟨rfl, hend _ (k9.trans (Kept.below b5))⟩
end Go.Proofs.YtaiggfknighhgaaDoor
