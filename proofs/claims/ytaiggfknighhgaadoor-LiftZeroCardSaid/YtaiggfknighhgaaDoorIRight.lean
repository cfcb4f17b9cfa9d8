/- inst: Form, Right; lift: Plain, odd. -/
import Derived.Test.YtaiggfknighhgaaDoorIKinds
import Derived.Test.YtaiggfknighhgaaDoorIInst
import Derived.Test.YtaiggfknighhgaaDoorTNumber
set_option linter.unusedVariables false
set_option linter.unusedSimpArgs false
namespace Go.Proofs.YtaiggfknighhgaaDoor
open Go.RowKit

theorem encKind : EncN 4 kindV := ⟨fun _ => rfl, fun x u hu => by simp [kindV] at hu; rcases hu with rfl | rfl | rfl | rfl <;> rfl, by omega⟩
theorem kinds_at : ∀ k : Nat, k < 47 → ∃ cs : Array Value, cs.size = 4 ∧ cs[0]? = some (.int .u8 (formL.getD k 0 : Nat)) ∧ ∀ w, (Instr.index 89 (.agg kindsA) (.int .i64 (k : Int))).run Tryd.prog w = .ok (.agg cs) w := by
  intro k hk
  have hl : kindsL.length = 47 := rfl
  have hx : kindsL[k]? = some (kindsL.getD k (0, 0, 0, 0)) := by rw [List.getD_eq_getElem?_getD, List.getElem?_eq_getElem (by omega)]; rfl
  have hf : ∀ k, k < 47 → (kindsL.getD k (0, 0, 0, 0)).1 = formL.getD k 0 := by decide
  have hs := kindsA_size
  refine ⟨kindsA.extract (k * 4) (k * 4 + 4), ?_, ?_, fun w => ?_⟩
  · rw [Array.size_extract]
    omega
  · have := flat_at encKind hx 0 (by omega)
    rw [← hf k hk]
    rw [Array.getElem?_extract, if_pos (by omega)]
    show (kindsL.flatMap kindV).toArray[k * 4 + 0]? = _
    rw [List.getElem?_toArray, this]
    rfl
  · have h1 : (isAgg 88).run Tryd.prog w = .ok true w := by kernel_rfl
    have h2 : (sizeOf 88).run Tryd.prog w = .ok 4 w := by kernel_rfl
    have h3 : (k : Int) < 47 := by omega
    have h4 : ¬ 47 ≤ k := by omega
    simp [Instr.index, run_underlying Tryd.underlying89, asIntOf, h3, hk, h4, part, Sem.run_bind, h1, h2, go_sem]
set_option maxRecDepth 100000 in
theorem iform_any (op : Int) (w : World) : Calls Tryd.prog 22 #[.int .i64 op] w fun e w' => e = .returned (.int .u8 (formI op : Nat)) ∧ Below w.heap.size w w' := by
  by_cases h : op < 0 ∨ 47 ≤ op
  · rw [show formI op = 0 from if_pos h]
    by_cases h0 : op < 0
    · have e0 : (decide (op < 0)) = true := by simpa using h0
      go_enter Tryd.func22, Tryd.ntmps22
      go_wp2
      go_ret
      exact ⟨rfl, Below.refl _ _⟩
    · have e0 : ¬ op < 0 := h0
      have e1 : 47 ≤ op := by omega
      go_enter Tryd.func22, Tryd.ntmps22
      go_wp2
      go_ret
      exact ⟨rfl, Below.refl _ _⟩
  · obtain ⟨k, rfl⟩ : ∃ k : Nat, op = k := ⟨op.toNat, by omega⟩
    obtain ⟨cs, hs, hc, hx⟩ := kinds_at k (by omega)
    rw [show formI k = formL.getD k 0 from if_neg h]
    generalize formL.getD k 0 = f at hc ⊢
    have hK := kinds_any w
    have e0 : ¬ (k : Int) < 0 := by omega
    have e1 : ¬ 47 ≤ (k : Int) := by omega
    have hf : ∀ w, (Instr.field 88 (.agg cs) 0).run Tryd.prog w = .ok (.int .u8 f) w := by
      obtain ⟨l⟩ := cs
      match l, hs with
      | [a, b, c, d], _ =>
        simp at hc
        subst hc
        intro w
        kernel_rfl
    generalize kindsA = A at hK hx
    clear h hs hc
    go_enter Tryd.func22, Tryd.ntmps22
    go_wp2_with fail
    refine hK.mono ?_
    rintro r w1 ⟨rfl, b1⟩
    have hx1 := hx w1
    have hf1 := hf w1
    go_wp2
    go_ret
    exact ⟨rfl, b1⟩
theorem formI_is (op : Int) : formI op = 85 ∨ formI op = 74 ∨ formI op = 73 ∨ formI op = 66 ∨ formI op = 83 ∨ formI op = 72 ∨ formI op = 82 ∨ formI op = 69 ∨ formI op = 0 := by
  unfold formI
  split
  · simp
  · have : ∀ k, k < 47 → formL.getD k 0 = 85 ∨ formL.getD k 0 = 74 ∨ formL.getD k 0 = 73 ∨ formL.getD k 0 = 66 ∨ formL.getD k 0 = 83 ∨ formL.getD k 0 = 72 ∨ formL.getD k 0 = 82 ∨ formL.getD k 0 = 69 ∨ formL.getD k 0 = 0 := by decide
    exact this _ (by omega)
theorem five_ins (x : Ins) : x.five.toArray = #[.int .i64 x.op, .int .i64 x.rd, .int .i64 x.rs1, .int .i64 x.rs2, .int .i64 x.imm] := rfl
set_option maxRecDepth 100000 in
theorem iright_any (x : Ins) (w : World) : Calls Tryd.prog 20 #[.agg x.five.toArray] w fun e w' => e = .returned (.bool (rightI x)) ∧ Below w.heap.size w w' := by
  obtain ⟨op, rd, rs1, rs2, imm⟩ := x
  show Calls Tryd.prog 20 #[.agg #[.int .i64 op, .int .i64 rd, .int .i64 rs1, .int .i64 rs2, .int .i64 imm]] w _
  obtain ⟨z0, z1, z2, z3, z4⟩ := five_cells (blk_new w (.cells #[.int .i64 op, .int .i64 rd, .int .i64 rs1, .int .i64 rs2, .int .i64 imm] 35))
  have b1 := (Below.refl w.heap.size w).alloc (Nat.le_refl _) (.cells #[.int .i64 op, .int .i64 rd, .int .i64 rs1, .int .i64 rs2, .int .i64 imm] 35)
  have hF := iform_any op (w.alloc (.cells #[.int .i64 op, .int .i64 rd, .int .i64 rs1, .int .i64 rs2, .int .i64 imm] 35))
  have hi := formI_is op
  unfold rightI
  dsimp only
  generalize formI op = f at hF hi ⊢
  have hH := ihas_any f hi
  have hR1 := ireg_any (rdB f) rd
  have hR2 := ireg_any (rs1B f) rs1
  have hR3 := ireg_any (rs2B f) rs2
  have hN := inumber_any f hi imm
  have e0 : ((f : Int) != 0) = decide (f ≠ 0) := by by_cases h : f = 0 <;> simp [h]
  generalize rdB f = r1 at *
  generalize rs1B f = r2 at *
  generalize rs2B f = r3 at *
  generalize regB r1 rd = g1 at *
  generalize regB r2 rs1 = g2 at *
  generalize regB r3 rs2 = g3 at *
  generalize numB f imm = g4 at *
  generalize decide (f ≠ 0) = g0 at *
  clear hi
  go_enter Tryd.func20, Tryd.ntmps20
  go_wp2_with fail
  refine hF.mono ?_
  rintro r w1 ⟨rfl, b2⟩
  have y1 := cell_below b2 z1
  have y2 := cell_below b2 z2
  have y3 := cell_below b2 z3
  have y4 := cell_below b2 z4
  have b3 := b1.trans (b2.mono b1.size)
  go_wp2_with fail
  refine (hH _).mono ?_
  rintro r w2 ⟨rfl, rfl⟩
  clear hH hF z0 z1 z2 z3 z4 b1 b2
  cases g0
  · go_wp2_with fail
    go_ret
    exact ⟨rfl, b3⟩
  cases g1
  · go_wp2_with fail
    refine (hR1 _).mono ?_
    rintro r w2 ⟨rfl, rfl⟩
    go_wp2_with fail
    go_ret
    exact ⟨rfl, b3⟩
  cases g2
  · go_wp2_with fail
    refine (hR1 _).mono ?_
    rintro r w2 ⟨rfl, rfl⟩
    go_wp2_with fail
    refine (hR2 _).mono ?_
    rintro r w2 ⟨rfl, rfl⟩
    go_wp2_with fail
    go_ret
    exact ⟨rfl, b3⟩
  cases g3
  · go_wp2_with fail
    refine (hR1 _).mono ?_
    rintro r w2 ⟨rfl, rfl⟩
    go_wp2_with fail
    refine (hR2 _).mono ?_
    rintro r w2 ⟨rfl, rfl⟩
    go_wp2_with fail
    refine (hR3 _).mono ?_
    rintro r w2 ⟨rfl, rfl⟩
    go_wp2_with fail
    go_ret
    exact ⟨rfl, b3⟩
  · go_wp2_with fail
    refine (hR1 _).mono ?_
    rintro r w2 ⟨rfl, rfl⟩
    go_wp2_with fail
    refine (hR2 _).mono ?_
    rintro r w2 ⟨rfl, rfl⟩
    go_wp2_with fail
    refine (hR3 _).mono ?_
    rintro r w2 ⟨rfl, rfl⟩
    go_wp2_with fail
    refine (hN _).mono ?_
    rintro r w2 ⟨rfl, rfl⟩
    go_wp2_with fail
    go_ret
    exact ⟨rfl, b3⟩
set_option maxRecDepth 100000 in
theorem lplain_any (x : Ins) (w : World) : Calls Tryd.prog 12 #[.agg x.five.toArray] w fun e w' => e = .returned (.bool (plainI x)) ∧ Below w.heap.size w w' := by
  have hR := iright_any x
  have hp : plainI x = (rightI x && ((immOp x.op).isSome || decide (x.op = 0) || decide (x.op = 1) || decide (formI x.op = 82))) := rfl
  rw [hp]
  clear hp
  generalize rightI x = g0 at *
  obtain ⟨op, rd, rs1, rs2, imm⟩ := x
  dsimp only
  change ∀ w, Calls Tryd.prog 20 #[.agg #[.int .i64 op, .int .i64 rd, .int .i64 rs1, .int .i64 rs2, .int .i64 imm]] w _ at hR
  show Calls Tryd.prog 12 #[.agg #[.int .i64 op, .int .i64 rd, .int .i64 rs1, .int .i64 rs2, .int .i64 imm]] w _
  obtain ⟨z0, z1, z2, z3, z4⟩ := five_cells (blk_new w (.cells #[.int .i64 op, .int .i64 rd, .int .i64 rs1, .int .i64 rs2, .int .i64 imm] 35))
  have b1 := (Below.refl w.heap.size w).alloc (Nat.le_refl _) (.cells #[.int .i64 op, .int .i64 rd, .int .i64 rs1, .int .i64 rs2, .int .i64 imm] 35)
  have hP := plain_inst op
  have hF := iform_any op
  have e0 : (op == 0) = decide (op = 0) := beq_dec op
  have e1 : (op == 1) = decide (op = 1) := by by_cases h : op = 1 <;> simp [h]
  have e2 : ((formI op : Int) == 82) = decide (formI op = 82) := by by_cases h : formI op = 82 <;> simp [h]; omega
  generalize formI op = f at *
  generalize decide (f = 82) = g4 at *
  generalize decide (op = 0) = g2 at *
  generalize decide (op = 1) = g3 at *
  generalize (immOp op).isSome = g1 at *
  generalize ((immOp op).getD 0 : Nat) = o at *
  go_enter Tryd.func12, Tryd.ntmps12
  go_wp2_with fail
  refine (hR _).mono ?_
  rintro r w1 ⟨rfl, b2⟩
  have y0 := cell_below b2 z0
  have b3 := b1.trans (b2.mono b1.size)
  clear hR z0 z1 z2 z3 z4 b1 b2
  cases g0
  · go_wp2_with fail
    go_ret
    exact ⟨rfl, b3⟩
  go_wp2_with fail
  refine (hP _).mono ?_
  rintro r w2 ⟨rfl, rfl⟩
  cases g1
  rotate_left
  · go_wp2_with fail
    go_ret
    exact ⟨rfl, b3⟩
  cases g2
  rotate_left
  · go_wp2_with fail
    go_ret
    exact ⟨rfl, b3⟩
  cases g3
  rotate_left
  · go_wp2_with fail
    go_ret
    exact ⟨rfl, b3⟩
  · go_wp2_with fail
    refine (hF _).mono ?_
    rintro r w3 ⟨rfl, b4⟩
    go_wp2_with fail
    go_ret
    exact ⟨rfl, b3.trans (b4.mono b3.size)⟩
set_option maxRecDepth 100000 in
theorem odd_any (x : Ins) (w : World) : Calls Tryd.prog 15 #[.agg x.five.toArray] w fun e w' => e = .returned (.bool (!plainI x)) ∧ Below w.heap.size w w' := by
  have hP := lplain_any x
  generalize plainI x = g at *
  obtain ⟨op, rd, rs1, rs2, imm⟩ := x
  change ∀ w, Calls Tryd.prog 12 #[.agg #[.int .i64 op, .int .i64 rd, .int .i64 rs1, .int .i64 rs2, .int .i64 imm]] w _ at hP
  show Calls Tryd.prog 15 #[.agg #[.int .i64 op, .int .i64 rd, .int .i64 rs1, .int .i64 rs2, .int .i64 imm]] w _
  have b1 := (Below.refl w.heap.size w).alloc (Nat.le_refl _) (.cells #[.int .i64 op, .int .i64 rd, .int .i64 rs1, .int .i64 rs2, .int .i64 imm] 35)
  obtain ⟨z0, z1, z2, z3, z4⟩ := five_cells (blk_new w (.cells #[.int .i64 op, .int .i64 rd, .int .i64 rs1, .int .i64 rs2, .int .i64 imm] 35))
  go_enter Tryd.func15, Tryd.ntmps15
  go_wp2_with fail
  refine (hP _).mono ?_
  rintro r w1 ⟨rfl, b2⟩
  go_wp2_with fail
  go_ret
  exact ⟨rfl, b1.trans (b2.mono b1.size)⟩
end Go.Proofs.YtaiggfknighhgaaDoor
