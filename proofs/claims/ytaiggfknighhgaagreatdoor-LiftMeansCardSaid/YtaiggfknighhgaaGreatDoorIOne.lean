/- lift.one. -/
import Derived.Test.YtaiggfknighhgaaGreatDoorIStart
import Derived.Test.YtaiggfknighhgaaGreatDoorIAny
import Derived.Test.YtaiggfknighhgaaGreatDoorSOp
import Derived.Deep.QuietTactic
set_option linter.unusedVariables false
set_option linter.unusedSimpArgs false
namespace Go.Proofs.YtaiggfknighhgaaGreatDoor
open Go.RowKit Go.Maps Go.MapKept

theorem up_eq (imm : Int) : imm % 4294967296 * 4096 % 4294967296 = ((up imm : Nat) : Int) := by
  unfold up us
  omega
theorem us_int (imm : Int) : imm % 4294967296 = ((us imm : Nat) : Int) := by unfold us; omega
set_option maxRecDepth 100000 in
theorem one_lui (K : Nat → Prop) (b : Nat) (ts : List Term) (z : Nat → Int) (rd rs1 rs2 imm : Int) (pc : Nat) (hl : ts.length < 100000000000) (w : World) (h : DagAt K w b ts) :
    Calls Tryz.prog 35 #[.pointer (some ⟨b, 0, none⟩), .agg (zV z), .agg #[.int .i64 0, .int .i64 rd, .int .i64 rs1, .int .i64 rs2, .int .i64 imm], .int .u32 pc] w
      fun e w' => e = .returned (.int .i64 (pos ts (constT (up imm)) : Nat)) ∧ DagAt K w' b (ins ts (constT (up imm))) ∧ Kept K w w' := by
  have b1 := (Below.refl w.heap.size w).alloc (Nat.le_refl _) (.cells (zV z) 32)
  have b2 := b1.alloc (by simp) (.cells #[.int .i64 0, .int .i64 rd, .int .i64 rs1, .int .i64 rs2, .int .i64 imm] 31)
  obtain ⟨z0, z1, z2, z3, z4⟩ := five_cells (blk_new (w.alloc (.cells (zV z) 32)) (.cells #[.int .i64 0, .int .i64 rd, .int .i64 rs1, .int .i64 rs2, .int .i64 imm] 31))
  have hC := const_any K b (up imm) ts (up_lt imm) (by omega) _ (h.below b2)
  rw [← up_eq] at hC
  go_enter Tryz.func35, Tryz.ntmps35
  go_wp2_with fail
  refine hC.mono ?_
  rintro r w1 ⟨rfl, hD, hk⟩
  go_wp2_with fail
  go_ret
  exact ⟨rfl, hD, (Kept.below b2).trans hk⟩
theorem up_add (imm : Int) (pc v : Nat) (hv : v = (up imm + pc) % 4294967296) : (imm % 4294967296 * 4096 + (pc : Int)) % 4294967296 = (v : Int) := by
  rw [hv]
  unfold up us
  omega
set_option maxRecDepth 100000 in
set_option maxHeartbeats 2000000 in
theorem one_auipc (K : Nat → Prop) (b : Nat) (ts : List Term) (z : Nat → Int) (rd rs1 rs2 imm : Int) (pc v : Nat) (hv : v = (up imm + pc) % 4294967296) (hl : ts.length < 100000000000) (w : World) (h : DagAt K w b ts) :
    Calls Tryz.prog 35 #[.pointer (some ⟨b, 0, none⟩), .agg (zV z), .agg #[.int .i64 1, .int .i64 rd, .int .i64 rs1, .int .i64 rs2, .int .i64 imm], .int .u32 pc] w
      fun e w' => e = .returned (.int .i64 (pos ts (constT v) : Nat)) ∧ DagAt K w' b (ins ts (constT v)) ∧ Kept K w w' := by
  have b1 := (Below.refl w.heap.size w).alloc (Nat.le_refl _) (.cells (zV z) 32)
  have b2 := b1.alloc (by simp) (.cells #[.int .i64 1, .int .i64 rd, .int .i64 rs1, .int .i64 rs2, .int .i64 imm] 31)
  obtain ⟨z0, z1, z2, z3, z4⟩ := five_cells (blk_new (w.alloc (.cells (zV z) 32)) (.cells #[.int .i64 1, .int .i64 rd, .int .i64 rs1, .int .i64 rs2, .int .i64 imm] 31))
  have hC := const_any K b v ts (by rw [hv]; exact Nat.mod_lt _ (by decide)) (by omega) _ (h.below b2)
  rw [← up_add imm pc v hv] at hC
  clear hv
  go_enter Tryz.func35, Tryz.ntmps35
  go_wp2_with fail
  refine hC.mono ?_
  rintro r w1 ⟨rfl, hD, hk⟩
  go_wp2_with fail
  go_ret
  exact ⟨rfl, hD, (Kept.below b2).trans hk⟩
set_option maxRecDepth 100000 in
set_option maxHeartbeats 2000000 in
theorem one_op (K : Nat → Prop) (b : Nat) (ts : List Term) (x : Nat → Nat) (op rd : Int) (r1 r2 : Nat) (imm : Int) (pc : Nat) (hl : ts.length < 10000000000) (hr1 : r1 < 32) (hr2 : r2 < 32) (h0 : op ≠ 0) (h1 : op ≠ 1)
    (hp : plainI ⟨op, rd, r1, r2, imm⟩ = true) (hG : Good ts) (hx : InT ts x) (hg : K 0) (w : World) (hT : Tab w) (h : DagAt K w b ts) :
    Calls Tryz.prog 35 #[.pointer (some ⟨b, 0, none⟩), .agg (zV fun r => (x r : Int)), .agg #[.int .i64 op, .int .i64 rd, .int .i64 r1, .int .i64 r2, .int .i64 imm], .int .u32 pc] w
      fun e w' => e = .returned (.int .i64 ((oneT ts x ⟨op, rd, r1, r2, imm⟩ pc).2 : Nat)) ∧ DagAt K w' b (oneT ts x ⟨op, rd, r1, r2, imm⟩ pc).1 ∧ Kept K w w' := by
  have b1 := (Below.refl w.heap.size w).alloc (Nat.le_refl _) (.cells (zV fun r => (x r : Int)) 32)
  have b2 := b1.alloc (by simp) (.cells #[.int .i64 op, .int .i64 rd, .int .i64 r1, .int .i64 r2, .int .i64 imm] 31)
  obtain ⟨z0, z1, z2, z3, z4⟩ := five_cells (blk_new (w.alloc (.cells (zV fun r => (x r : Int)) 32)) (.cells #[.int .i64 op, .int .i64 rd, .int .i64 r1, .int .i64 r2, .int .i64 imm] 31))
  have hZ := (ZAt.new 32 w (fun r => (x r : Int))).below ((Below.refl _ _).alloc (Nat.le_refl _) (.cells #[.int .i64 op, .int .i64 rd, .int .i64 r1, .int .i64 r2, .int .i64 imm] 31))
  have c1 := hZ.cell hr1
  have c2 := hZ.cell hr2
  have g1 : (r1 : Int) < 32 := by omega
  have g2 : (r2 : Int) < 32 := by omega
  have e0 : (op == 0) = false := by simpa using h0
  have e1 : (op == 1) = false := by simpa using h1
  have hD := h.more b2
  have hsz2 : ((w.alloc (.cells (zV fun r => (x r : Int)) 32)).alloc (.cells #[.int .i64 op, .int .i64 rd, .int .i64 r1, .int .i64 r2, .int .i64 imm] 31)).heap.size = w.heap.size + 2 := by simp
  have hs1 : (w.alloc (.cells (zV fun r => (x r : Int)) 32)).heap.size = w.heap.size + 1 := by simp
  rw [hs1] at z0 z1 z2 z3 z4
  generalize hK : More K w ((w.alloc (.cells (zV fun r => (x r : Int)) 32)).alloc (.cells #[.int .i64 op, .int .i64 rd, .int .i64 r1, .int .i64 r2, .int .i64 imm] 31)) = K1 at hD
  have k0 : K1 w.heap.size := by rw [← hK]; exact Or.inr ⟨Nat.le_refl _, by omega⟩
  have k1 : K1 (w.heap.size + 1) := by rw [← hK]; exact Or.inr ⟨by omega, by omega⟩
  have kk : ∀ i, K i → K1 i := fun i hi => by rw [← hK]; exact Or.inl hi
  clear hK hsz2 hs1
  have hg1 := kk _ hg
  have hT2 := hT.below b2
  have hI := plain_inst op
  have hx1 := hx r1 hr1
  have hx2 := hx r2 hr2
  have hu := us_int imm
  have kb := Kept.below (K := K) b2
  rcases plainI_kind hp with h | h | ⟨o, ho, hd, h0', h1'⟩ | ⟨o, ho, hn, hd, h0', h1'⟩
  · exact absurd h h0
  · exact absurd h h1
  · have he : oneT ts x ⟨op, rd, r1, r2, imm⟩ pc = made (ins ts (constT (us imm))) o (x r1) (pos ts (constT (us imm))) := by
      unfold oneT
      rw [if_neg h0', if_neg h1', ho]
      rfl
    rw [he]
    dsimp only at ho
    rw [ho] at hI
    change ∀ w, Calls Tryz.prog 23 #[.int .i64 op] w fun e w' => e = .returned (.tuple #[.int .i64 (o : Nat), .bool true]) ∧ w = w' at hI
    have hC := fun w hD => const_any K1 b (us imm) ts (us_lt imm) (by omega) w hD
    rw [← hu] at hC
    have hE := ext_ins ts (constT (us imm))
    have hl2 := (ins_len ts (constT (us imm))).2
    have hM := fun w hT hD => simpOp_any K1 b o (x r1) (pos ts (constT (us imm))) (ins ts (constT (us imm))) (by omega) (Nat.lt_of_lt_of_le hx1 hE.len) (pos_lt _ _) hd (hG.const (us_lt imm)) hg1 w hT hD
    unfold OpPost at hM
    generalize made (ins ts (constT (us imm))) o (x r1) (pos ts (constT (us imm))) = R at hM ⊢
    generalize ins ts (constT (us imm)) = ts1 at hC hM
    generalize pos ts (constT (us imm)) = n1 at hC hM
    clear he hE hl2 hu hp hG hx hd ho h0' h1' h0 h1 hT h
    go_enter Tryz.func35, Tryz.ntmps35
    go_wp2_with fail
    go_quiet (fail)
    have hd : ∀ (W : World) n, Below W.heap.size W (W.drewN n) := fun W n => below_drewN (Below.refl _ W) n
    have hD3 := hD.below (hd _ nq)
    have hT3 := hT2.below (hd _ nq)
    have k3 := kb.trans (Kept.below (hd _ nq))
    have y0 := cell_below (hd _ nq) z0
    have y2 := cell_below (hd _ nq) z2
    have y4 := cell_below (hd _ nq) z4
    have hZ3 := hZ.below (hd _ nq)
    clear hD hT2 kb hd z0 z1 z2 z3 z4 c1 c2 b1 b2 hZ
    go_wp2_with fail
    refine (hI _).mono ?_
    rintro r w3 ⟨rfl, rfl⟩
    go_wp2_with fail
    refine (hC _ hD3).mono ?_
    rintro r w4 ⟨rfl, hD4, k4⟩
    have x2 := k4.cell k1 y2
    have c1 := (hZ3.kept k4 k0).cell hr1
    have hT4 := hT3.kept k4 hg1
    have k5 := k3.trans (k4.mono kk)
    clear hZ3 hD3 hT3 k3 k4 y0 y2 y4
    go_wp2_with fail
    refine (hM _ hT4 hD4).mono ?_
    rintro r w5 ⟨rfl, hD5, k6⟩
    go_wp2_with fail
    go_ret
    exact ⟨rfl, hD5.mono kk, k5.trans (k6.mono kk)⟩
  · have he : oneT ts x ⟨op, rd, r1, r2, imm⟩ pc = made ts o (x r1) (x r2) := by
      unfold oneT
      rw [if_neg h0', if_neg h1', hn]
      dsimp only
      rw [show op.toNat = o from by rw [show op = (o : Int) from ho]; rfl]
      rfl
    rw [he]
    dsimp only at hn ho
    rw [hn] at hI
    change ∀ w, Calls Tryz.prog 23 #[.int .i64 op] w fun e w' => e = .returned (.tuple #[.int .i64 0, .bool false]) ∧ w = w' at hI
    have hM := fun w hT hD => simpOp_any K1 b o (x r1) (x r2) ts (by omega) hx1 hx2 hd hG hg1 w hT hD
    unfold OpPost at hM
    subst ho
    generalize made ts o (x r1) (x r2) = R at hM ⊢
    clear he hu hp hG hx hd hn h0' h1' h0 h1 hT h
    go_enter Tryz.func35, Tryz.ntmps35
    go_wp2_with fail
    go_quiet (fail)
    have hd : ∀ (W : World) n, Below W.heap.size W (W.drewN n) := fun W n => below_drewN (Below.refl _ W) n
    have hD3 := hD.below (hd _ nq)
    have hT3 := hT2.below (hd _ nq)
    have k3 := kb.trans (Kept.below (hd _ nq))
    have y0 := cell_below (hd _ nq) z0
    have y2 := cell_below (hd _ nq) z2
    have hZ3 := (hZ.below (hd _ nq)).cell hr1
    clear hD hT2 kb hd z0 z1 z2 z3 z4 c1 c2 b1 b2 hZ
    go_wp2_with fail
    refine (hI _).mono ?_
    rintro r w3 ⟨rfl, rfl⟩
    go_wp2_with fail
    refine (hM _ hT3 hD3).mono ?_
    rintro r w5 ⟨rfl, hD5, k6⟩
    go_wp2_with fail
    go_ret
    exact ⟨rfl, hD5.mono kk, k3.trans (k6.mono kk)⟩
theorem lone_any (K : Nat → Prop) (b : Nat) (ts : List Term) (x : Nat → Nat) (i : Ins) (pc : Nat) (hl : ts.length < 10000000000)
    (hp : plainI i = true) (hG : Good ts) (hx : InT ts x) (hg : K 0) (w : World) (hT : Tab w) (h : DagAt K w b ts) :
    Calls Tryz.prog 35 #[.pointer (some ⟨b, 0, none⟩), .agg (zV fun r => (x r : Int)), .agg i.five.toArray, .int .u32 pc] w
      fun e w' => e = .returned (.int .i64 ((oneT ts x i pc).2 : Nat)) ∧ DagAt K w' b (oneT ts x i pc).1 ∧ Kept K w w' := by
  have hr : rightI i = true := by unfold plainI at hp; rw [Bool.and_eq_true] at hp; exact hp.1
  obtain ⟨_, h1, h2⟩ := rightI_regs hr
  obtain ⟨op, rd, rs1, rs2, imm⟩ := i
  dsimp only at h1 h2
  obtain ⟨r1, rfl⟩ : ∃ k : Nat, rs1 = k := ⟨rs1.toNat, by omega⟩
  obtain ⟨r2, rfl⟩ : ∃ k : Nat, rs2 = k := ⟨rs2.toNat, by omega⟩
  by_cases e0 : op = 0
  · subst e0
    exact one_lui K b ts _ rd r1 r2 imm pc (by omega) w h
  by_cases e1 : op = 1
  · subst e1
    exact one_auipc K b ts _ rd r1 r2 imm pc _ rfl (by omega) w h
  exact one_op K b ts x op rd r1 r2 imm pc hl (by omega) (by omega) e0 e1 hp hG hx hg w hT h
end Go.Proofs.YtaiggfknighhgaaGreatDoor
