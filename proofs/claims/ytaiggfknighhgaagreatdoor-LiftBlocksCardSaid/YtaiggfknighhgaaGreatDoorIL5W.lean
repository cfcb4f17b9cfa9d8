/- The law LiftBlocks, walked. -/
import Derived.Test.YtaiggfknighhgaaGreatDoorIBoth
import Derived.Deep.RegionHeld3
set_option linter.unusedVariables false
set_option linter.unusedSimpArgs false
namespace Go.Proofs.YtaiggfknighhgaaGreatDoor
open Go.RowKit Go.Maps Go.MapKept

theorem five_at {w : World} {b o : Nat} {op rd rs1 rs2 imm : Int} (h : AtN Ins.five w b o ⟨op, rd, rs1, rs2, imm⟩) : w.cell? ⟨b, o, none⟩ = some (.int .i64 op) ∧ w.cell? ⟨b, o + 1, none⟩ = some (.int .i64 rd) ∧ w.cell? ⟨b, o + 2, none⟩ = some (.int .i64 rs1) ∧ w.cell? ⟨b, o + 3, none⟩ = some (.int .i64 rs2) ∧ w.cell? ⟨b, o + 4, none⟩ = some (.int .i64 imm) :=
  ⟨h 0 _ rfl, h 1 _ rfl, h 2 _ rfl, h 3 _ rfl, h 4 _ rfl⟩
set_option maxRecDepth 100000 in
set_option maxHeartbeats 4000000 in
theorem law5_any (B : Nat) (e : TypeId) (v : Value) (xs : List SOp) (hf : ∀ x ∈ xs, x.Fits) (B' : Nat) (e' : TypeId) (v' : Value) (ys : List Ins) (pc : Nat) (hpc : pc < 4294967296) (w : World) (hs : SlN B e 5 SOp.five w v xs) (hs' : SlN B' e' 5 Ins.five w v' ys) (hT : Tab w) (hgz : 0 < w.heap.size) :
    Calls Tryz.prog 3 #[v, v', .int .u32 pc] w fun e w' => e = .returned (.bool true) ∧ Below w.heap.size w w' := by
  have hL := laid_any B e v xs hf _ hs
  obtain ⟨K0, hK⟩ : ∃ K : Nat → Prop, (fun i => i < w.heap.size) = K := ⟨_, rfl⟩
  have hg : K0 0 := by rw [← hK]; exact hgz
  have hend : ∀ w', Kept K0 w w' → Below w.heap.size w w' := fun w' h => by rw [← hK] at h; exact below_kept h
  have hgs : ∀ w', Kept K0 w w' → 0 < w'.heap.size := fun w' h => Nat.lt_of_lt_of_le hgz h.size
  rw [hK] at hL
  clear hK hs hf
  obtain ⟨A, c, N, la, rfl, hN, hN2, hA, hq, hpl⟩ := cut30 hs'
  have hvK : ∀ w', Kept K0 w w' → SlN B' e' 5 Ins.five w' (.slice A N c) la := fun w' h => hA.below (hend w' h)
  have HYN := Lib.hid hN
  clear hs' hA hN
  rcases hq with ⟨q1, q0, q2, q3⟩ | ⟨q1, q0, q2, q3⟩
  all_goals
    subst q2
    go_enter Tryz.func3, Tryz.ntmps3
    go_wp2_with fail
    refine hL.mono ?_
    rintro r w0 ⟨d, k, ts, rfl, hB0, hG, hlen, k0⟩
    have T0 := hT.kept k0 hg
    have HB0 := Lib.hid hB0
    clear hL hT hB0
    go_wp2_with fail
    go_loopw [10] (fun i wr => ∃ j : Nat, j ≤ la.length ∧ i = .int .i64 j ∧ Below w0.heap.size w0 wr) (fun i _ => la.length - (Go.RowKit.intOf i).toNat)
    case atStart => exact ⟨0, Nat.zero_le _, rfl, Below.refl _ _⟩
    case round =>
      obtain ⟨j, hj, rfl, hb⟩ := hrel
      have hn := HYN.out
      have kr := k0.trans (Kept.below hb)
      by_cases hlt : j < la.length
      · try have hlt1 : (j : Int) < 30 := by omega
        try have hlt2 : (j : Int) < (ys.length : Int) := by omega
        have hs1 := hvK _ kr
        obtain ⟨bb, off, eA, hat, hbl⟩ := hs1.at_ hlt
        subst eA
        have hP := lplain_any la[j]
        have hQ := rlplain_any la[j]
        generalize la[j] = t at hat hP hQ
        generalize plainI t = g at hP hQ
        obtain ⟨op, rd, rs1, rs2, imm⟩ := t
        have hat1 : AtN Ins.five wr.drew bb (off + j * 5) ⟨op, rd, rs1, rs2, imm⟩ := hat.of_block rfl
        have hbd : bb < wr.drew.heap.size := hbl
        have hb1 : Below w0.heap.size w0 wr.drew := hb.drew
        change ∀ w, Calls Tryz.prog 7 #[.agg #[.int .i64 op, .int .i64 rd, .int .i64 rs1, .int .i64 rs2, .int .i64 imm]] w _ at hP
        change ∀ w, Calls Tryz.prog 8 #[.agg #[.int .i64 op, .int .i64 rd, .int .i64 rs1, .int .i64 rs2, .int .i64 imm]] w _ at hQ
        have he : (g != g) = false := by simp
        clear hat hs1 hn hbl hb kr
        go_wp2_with fail
        go_region_held3 (fun w' => w'.cell? ⟨bb, off + j * 5, none⟩ = some (.int .i64 op) ∧ w'.cell? ⟨bb, off + j * 5 + 1, none⟩ = some (.int .i64 rd) ∧ w'.cell? ⟨bb, off + j * 5 + 2, none⟩ = some (.int .i64 rs1) ∧ w'.cell? ⟨bb, off + j * 5 + 3, none⟩ = some (.int .i64 rs2) ∧ w'.cell? ⟨bb, off + j * 5 + 4, none⟩ = some (.int .i64 imm))
          (first | exact five_at hat1 | go_keep)
          (first
            | (go_at_call 7; refine (hP _).mono ?_; rintro r wa ⟨rfl, hba⟩; replace hat1 := hat1.of_block (hba.block bb hbd); replace hbd := Nat.lt_of_lt_of_le hbd hba.size; replace hb1 := hb1.trans (hba.mono hb1.size))
            | (go_at_call 8; refine (hQ _).mono ?_; rintro r wa ⟨rfl, hba⟩; replace hat1 := hat1.of_block (hba.block bb hbd); replace hbd := Nat.lt_of_lt_of_le hbd hba.size; replace hb1 := hb1.trans (hba.mono hb1.size)))
        go_wp2_with fail
        go_roundw
        case rel => exact ⟨j + 1, by omega, by go_num, hb1⟩
        case measure => simp [Go.RowKit.intOf]; omega
      · try have hlt1 : ¬ (j : Int) < 30 := by omega
        try have hlt2 : ¬ (j : Int) < (ys.length : Int) := by omega
        have hB := HB0.out.below hb
        have T1 := T0.below hb
        have hF := both_block hB (xs := la) (by omega) (pc := pc) hpc (fun w' h => hvK _ (kr.trans h)) hG (by omega) hg T1
        have hRf := fun (K' : Nat → Prop) (w : World) (ts' : List Term) (V : Value) (h : BothM K' w d k ts' ts) (hv : ∀ w', Kept K' w w' → SlN B' e' 5 Ins.five w' V la) => both_rblock h (xs := la) (by omega) (pc := pc) hpc hv hG (by omega)
        have hlR := blockO_len (xs := la) (pc := pc) hG (by omega) (by omega)
        generalize blockO ts la pc = R at hF hRf hlR
        clear hB hn
        go_wp2_with fail
        refine hF.mono ?_
        rintro r w2 ⟨rfl, hB2, k2⟩
        have ba := (Below.refl w2.heap.size w2).alloc (Nat.le_refl _) (.cells (zV R.2.1) 32)
        have gA := ZAt.new 32 w2 R.2.1
        obtain ⟨K2, hB3, kk, kn⟩ := hB2.grow ba
        have e1 := kn w2.heap.size (Nat.le_refl _) (by simp)
        have k3 := (kr.trans k2).trans (Kept.below ba)
        have T3 := (T1.kept k2 hg).below ba
        have hC := hRf K2 _ _ _ hB3 (fun w' h => hvK _ (k3.trans (h.mono kk)))
        clear hF hRf hB2 k2 T1 ba kn hB3 hvK hG
        go_wp2_with (first | ((refine wpList_store_row rfl 32 (.tmp 11) (.tmp 50) rfl w2.heap.size (zV R.2.1) rfl rfl 32 _ (blk_new w2 _) (by rw [zV_size]; exact info_arr) rfl (zV_one _) ?_); rw [World.setRow_alloc_new]) | fail)
        refine hC.mono ?_
        rintro r w3 ⟨rfl, hB4, k4⟩
        have bb := (Below.refl w3.heap.size w3).alloc (Nat.le_refl _) (.cells (zV R.2.1) 32)
        have gA2 := (gA.kept k4 e1).below bb
        have gB := ZAt.new 32 w3 R.2.1
        have hB5 := hB4.below bb
        have k5 := (k3.trans (k4.mono kk)).trans (Kept.below bb)
        have T5 := (T3.kept k4 (kk _ hg)).below bb
        have hq1 := fun w => eq_arr R.2.1 w
        have he : (R.2.2 == R.2.2) = true := by simp
        have hS := same_any R.1 (by omega) K2 d k _ hB5
        unfold ZAt at gA2 gB
        clear hC hB4 k4 k3 T3 gA bb hB5 kk
        go_wp2_with (first | ((refine wpList_store_row rfl 32 (.tmp 13) (.tmp 57) rfl w3.heap.size (zV R.2.1) rfl rfl 32 _ (blk_new w3 _) (by rw [zV_size]; exact info_arr) rfl (zV_one _) ?_); rw [World.setRow_alloc_new]) | (refine wpList_load_row rfl 32 (.tmp 11) rfl w2.heap.size rfl 32 (zV R.2.1) (0, 0) _ gA2 Tryz.underlying32 rfl (by rw [zV_size]; exact info_arr) ?_) | (refine wpList_load_row rfl 32 (.tmp 13) rfl w3.heap.size rfl 32 (zV R.2.1) (0, 0) _ gB Tryz.underlying32 rfl (by rw [zV_size]; exact info_arr) ?_) | fail)
        refine hS.mono ?_
        rintro r w4 ⟨rfl, b4⟩
        have k6 := k5.trans (Kept.below b4)
        go_wp2_with fail
        refine (lfixed_any _ (T5.below b4) (hgs _ k6)).mono ?_
        rintro r w5 ⟨rfl, b5⟩
        go_wp2_with fail
        go_ret
        exact ⟨rfl, hend _ (k6.trans (Kept.below b5))⟩
end Go.Proofs.YtaiggfknighhgaaGreatDoor
