/- inst: Form, between, number, has, register, Right, Plain; lift: Plain, odd. -/
/- inst: Form, Right; lift: Plain, odd. -/
/- slices.IndexFunc, ContainsFunc at instructions. -/
import Derived.Test.YtaiggfknighhgaaGreatDoorChecked
import Derived.Test.YtaiggfknighhgaaGreatDoorCells
import Derived.Test.YtaiggfknighhgaaGreatDoorIPure
import Derived.Tactics2
import Derived.IntWalk
import Derived.OwnWalk
import Derived.Test.YtaiggfknighhgaaGreatDoorIKinds
import Derived.Test.YtaiggfknighhgaaGreatDoorTNumber
import Derived.Test.YtaiggfknighhgaaGreatDoorRowN2
set_option linter.unusedVariables false
set_option linter.unusedSimpArgs false
namespace Go.Proofs.YtaiggfknighhgaaGreatDoor
open Go.RowKit

def Ins.five (x : Ins) : List Value := [.int .i64 x.op, .int .i64 x.rd, .int .i64 x.rs1, .int .i64 x.rs2, .int .i64 x.imm]
theorem between_any (n a b : Int) (w : World) : Calls Tryz.prog 85 #[.int .i64 n, .int .i64 a, .int .i64 b] w fun e w' => e = .returned (.bool (decide (a ≤ n) && decide (n ≤ b))) ∧ w = w' := by
  by_cases h : a ≤ n
  · have h1 : (decide (a ≤ n)) = true := by simpa using h
    rw [h1, Bool.true_and]
    go_enter Tryz.func85, Tryz.ntmps85
    go_wp2
    all_goals (go_ret; exact ⟨rfl, rfl⟩)
  · have h1 : (decide (a ≤ n)) = false := by simpa using h
    rw [h1, Bool.false_and]
    go_enter Tryz.func85, Tryz.ntmps85
    go_wp2
    all_goals (go_ret; exact ⟨rfl, rfl⟩)
theorem ihas_any (f : Nat) (hf : f = 85 ∨ f = 74 ∨ f = 73 ∨ f = 66 ∨ f = 83 ∨ f = 72 ∨ f = 82 ∨ f = 69 ∨ f = 0) (w : World) :
    Calls Tryz.prog 53 #[.int .u8 f] w fun e w' => e = .returned (.tuple #[.bool (rdB f), .bool (rs1B f), .bool (rs2B f)]) ∧ w = w' := by
  rcases hf with rfl | rfl | rfl | rfl | rfl | rfl | rfl | rfl | rfl
  all_goals (
    go_enter Tryz.func53, Tryz.ntmps53
    go_wp2
    go_ret3
    exact ⟨rfl, rfl⟩)
theorem beq_dec (n : Int) : (n == 0) = decide (n = 0) := by by_cases h : n = 0 <;> simp [h]
theorem ireg_any (is : Bool) (n : Int) (w : World) : Calls Tryz.prog 54 #[.bool is, .int .i64 n] w fun e w' => e = .returned (.bool (regB is n)) ∧ w = w' := by
  have hb := between_any n 0 31 w
  unfold regB
  cases is
  · rw [Bool.false_and, Bool.false_or]
    go_enter Tryz.func54, Tryz.ntmps54
    go_wp2
    all_goals (go_ret; exact ⟨by first | rfl | rw [beq_dec], rfl⟩)
  · rw [Bool.true_and]
    cases hq : (decide (0 ≤ n) && decide (n ≤ 31))
    · rw [hq] at hb
      rw [Bool.false_or]
      go_enter Tryz.func54, Tryz.ntmps54
      go_wp2_with fail
      refine hb.mono ?_
      rintro r w1 ⟨rfl, rfl⟩
      go_wp2
      all_goals (go_ret; exact ⟨by first | rfl | rw [beq_dec], rfl⟩)
    · rw [hq] at hb
      rw [Bool.true_or]
      go_enter Tryz.func54, Tryz.ntmps54
      go_wp2_with fail
      refine hb.mono ?_
      rintro r w1 ⟨rfl, rfl⟩
      go_wp2
      all_goals (go_ret; exact ⟨by first | rfl | rw [beq_dec], rfl⟩)
theorem ret_b {a b : Bool} (h : a = b) : Ending.returned (.bool a) = .returned (.bool b) := by rw [h]
theorem tmod2 (n : Int) : (Int.tmod n 2 == 0) = decide (n % 2 = 0) := by
  have h : Int.tmod n 2 = 0 ↔ n % 2 = 0 := by
    rw [← Int.dvd_iff_tmod_eq_zero, ← Int.dvd_iff_emod_eq_zero]
  by_cases e : n % 2 = 0
  · rw [h.2 e]; simp [e]
  · have : Int.tmod n 2 ≠ 0 := fun x => e (h.1 x)
    simp [e, this]
theorem inumber_any (f : Nat) (hf : f = 85 ∨ f = 74 ∨ f = 73 ∨ f = 66 ∨ f = 83 ∨ f = 72 ∨ f = 82 ∨ f = 69 ∨ f = 0) (n : Int) (w : World) :
    Calls Tryz.prog 55 #[.int .u8 f, .int .i64 n] w fun e w' => e = .returned (.bool (numB f n)) ∧ w = w' := by
  have h1 := between_any n 0 1048575 w
  have h2 := between_any n (-1048576) 1048574 w
  have h3 := between_any n (-2048) 2047 w
  have h4 := between_any n (-4096) 4094 w
  have h5 := between_any n 0 31 w
  rcases hf with rfl | rfl | rfl | rfl | rfl | rfl | rfl | rfl | rfl
  · go_enter Tryz.func55, Tryz.ntmps55
    go_wp2_with fail
    refine h1.mono ?_
    rintro r w1 ⟨rfl, rfl⟩
    go_wp2
    go_ret
    exact ⟨by simp [numB], rfl⟩
  · cases hq : (decide (-1048576 ≤ n) && decide (n ≤ 1048574))
    · rw [hq] at h2
      go_enter Tryz.func55, Tryz.ntmps55
      go_wp2_with fail
      refine h2.mono ?_
      rintro r w1 ⟨rfl, rfl⟩
      go_wp2
      go_ret
      refine ⟨ret_b ?_, rfl⟩
      rw [Bool.and_eq_false_iff] at hq
      simp only [decide_eq_false_iff_not] at hq
      symm
      simp only [numB, reduceIte, decide_eq_false_iff_not, Nat.reduceEqDiff, or_self]
      omega
    · rw [hq] at h2
      have ht := tmod2 n
      go_enter Tryz.func55, Tryz.ntmps55
      go_wp2_with fail
      refine h2.mono ?_
      rintro r w1 ⟨rfl, rfl⟩
      go_wp2
      go_ret
      refine ⟨ret_b ?_, rfl⟩
      rw [Bool.and_eq_true] at hq
      simp only [decide_eq_true_eq] at hq
      simp only [numB, reduceIte, Nat.reduceEqDiff, or_self]
      exact decide_eq_decide.2 ⟨fun x => ⟨hq.1, hq.2, x⟩, fun x => x.2.2⟩
  · go_enter Tryz.func55, Tryz.ntmps55
    go_wp2_with fail
    refine h3.mono ?_
    rintro r w1 ⟨rfl, rfl⟩
    go_wp2
    go_ret
    exact ⟨by simp [numB], rfl⟩
  · cases hq : (decide (-4096 ≤ n) && decide (n ≤ 4094))
    · rw [hq] at h4
      go_enter Tryz.func55, Tryz.ntmps55
      go_wp2_with fail
      refine h4.mono ?_
      rintro r w1 ⟨rfl, rfl⟩
      go_wp2
      go_ret
      refine ⟨ret_b ?_, rfl⟩
      rw [Bool.and_eq_false_iff] at hq
      simp only [decide_eq_false_iff_not] at hq
      symm
      simp only [numB, reduceIte, decide_eq_false_iff_not, Nat.reduceEqDiff, or_self]
      omega
    · rw [hq] at h4
      have ht := tmod2 n
      go_enter Tryz.func55, Tryz.ntmps55
      go_wp2_with fail
      refine h4.mono ?_
      rintro r w1 ⟨rfl, rfl⟩
      go_wp2
      go_ret
      refine ⟨ret_b ?_, rfl⟩
      rw [Bool.and_eq_true] at hq
      simp only [decide_eq_true_eq] at hq
      simp only [numB, reduceIte, Nat.reduceEqDiff, or_self]
      exact decide_eq_decide.2 ⟨fun x => ⟨hq.1, hq.2, x⟩, fun x => x.2.2⟩
  · go_enter Tryz.func55, Tryz.ntmps55
    go_wp2_with fail
    refine h3.mono ?_
    rintro r w1 ⟨rfl, rfl⟩
    go_wp2
    go_ret
    exact ⟨by simp [numB], rfl⟩
  · go_enter Tryz.func55, Tryz.ntmps55
    go_wp2_with fail
    refine h5.mono ?_
    rintro r w1 ⟨rfl, rfl⟩
    go_wp2
    go_ret
    exact ⟨by simp [numB], rfl⟩
  all_goals (
    go_enter Tryz.func55, Tryz.ntmps55
    go_wp2
    go_ret
    exact ⟨by rw [beq_dec]; rfl, rfl⟩)
theorem plain_inst (op : Int) (w : World) : Calls Tryz.prog 23 #[.int .i64 op] w fun e w' => e = .returned (.tuple #[.int .i64 ((immOp op).getD 0 : Nat), .bool (immOp op).isSome]) ∧ w = w' := by
  by_cases h : 18 ≤ op ∧ op ≤ 26
  · obtain ⟨k, rfl, hk⟩ : ∃ k : Nat, op = ((k + 18 : Nat) : Int) ∧ k < 9 := ⟨(op - 18).toNat, by omega, by omega⟩
    match k, hk with
    | 0, _ | 1, _ | 2, _ | 3, _ | 4, _ | 5, _ | 6, _ | 7, _ | 8, _ =>
      go_enter Tryz.func23, Tryz.ntmps23
      go_wp2
      go_ret2
      exact ⟨rfl, rfl⟩
  · rw [immOp_none h]
    have e0 : (op == 18) = false := by simp; omega
    have e1 : (op == 19) = false := by simp; omega
    have e2 : (op == 20) = false := by simp; omega
    have e3 : (op == 21) = false := by simp; omega
    have e4 : (op == 22) = false := by simp; omega
    have e5 : (op == 23) = false := by simp; omega
    have e6 : (op == 24) = false := by simp; omega
    have e7 : (op == 25) = false := by simp; omega
    have e8 : (op == 26) = false := by simp; omega
    go_enter Tryz.func23, Tryz.ntmps23
    go_wp2
    go_ret2
    exact ⟨rfl, rfl⟩
end Go.Proofs.YtaiggfknighhgaaGreatDoor
set_option linter.unusedVariables false
set_option linter.unusedSimpArgs false
namespace Go.Proofs.YtaiggfknighhgaaGreatDoor
open Go.RowKit

theorem encKind : EncN 4 kindV := ⟨fun _ => rfl, fun x u hu => by simp [kindV] at hu; rcases hu with rfl | rfl | rfl | rfl <;> rfl, by omega⟩
theorem kinds_at : ∀ k : Nat, k < 47 → ∃ cs : Array Value, cs.size = 4 ∧ cs[0]? = some (.int .u8 (formL.getD k 0 : Nat)) ∧ ∀ w, (Instr.index 111 (.agg kindsA) (.int .i64 (k : Int))).run Tryz.prog w = .ok (.agg cs) w := by
  intro k hk
  have hl : kindsL.length = 47 := rfl
  have hx : kindsL[k]? = some (kindsL.getD k (0, 0, 0, 0)) := by rw [List.getD_eq_getElem?_getD, List.getElem?_eq_getElem (by omega)]; rfl
  have hf : ∀ k, k < 47 → (kindsL.getD k (0, 0, 0, 0)).1 = formL.getD k 0 := by decide
  have hs := kindsA_size
  refine ⟨kindsA.extract (k * 4) (k * 4 + 4), ?_, ?_, fun w => ?_⟩
  · rw [Array.size_extract]
    omega
  · have := flat_at encKind hx 0 (by omega)
    rw [← hf k hk]
    rw [Array.getElem?_extract, if_pos (by omega)]
    show (kindsL.flatMap kindV).toArray[k * 4 + 0]? = _
    rw [List.getElem?_toArray, this]
    rfl
  · have h1 : (isAgg 110).run Tryz.prog w = .ok true w := by kernel_rfl
    have h2 : (sizeOf 110).run Tryz.prog w = .ok 4 w := by kernel_rfl
    have h3 : (k : Int) < 47 := by omega
    have h4 : ¬ 47 ≤ k := by omega
    simp [Instr.index, run_underlying Tryz.underlying111, asIntOf, h3, hk, h4, part, Sem.run_bind, h1, h2, go_sem]
set_option maxRecDepth 100000 in
theorem iform_any (op : Int) (w : World) : Calls Tryz.prog 24 #[.int .i64 op] w fun e w' => e = .returned (.int .u8 (formI op : Nat)) ∧ Below w.heap.size w w' := by
  by_cases h : op < 0 ∨ 47 ≤ op
  · rw [show formI op = 0 from if_pos h]
    by_cases h0 : op < 0
    · have e0 : (decide (op < 0)) = true := by simpa using h0
      go_enter Tryz.func24, Tryz.ntmps24
      go_wp2
      go_ret
      exact ⟨rfl, Below.refl _ _⟩
    · have e0 : ¬ op < 0 := h0
      have e1 : 47 ≤ op := by omega
      go_enter Tryz.func24, Tryz.ntmps24
      go_wp2
      go_ret
      exact ⟨rfl, Below.refl _ _⟩
  · obtain ⟨k, rfl⟩ : ∃ k : Nat, op = k := ⟨op.toNat, by omega⟩
    obtain ⟨cs, hs, hc, hx⟩ := kinds_at k (by omega)
    rw [show formI k = formL.getD k 0 from if_neg h]
    generalize formL.getD k 0 = f at hc ⊢
    have hK := kinds_any w
    have e0 : ¬ (k : Int) < 0 := by omega
    have e1 : ¬ 47 ≤ (k : Int) := by omega
    have hf : ∀ w, (Instr.field 110 (.agg cs) 0).run Tryz.prog w = .ok (.int .u8 f) w := by
      obtain ⟨l⟩ := cs
      match l, hs with
      | [a, b, c, d], _ =>
        simp at hc
        subst hc
        intro w
        kernel_rfl
    generalize kindsA = A at hK hx
    clear h hs hc
    go_enter Tryz.func24, Tryz.ntmps24
    go_wp2_with fail
    refine hK.mono ?_
    rintro r w1 ⟨rfl, b1⟩
    have hx1 := hx w1
    have hf1 := hf w1
    go_wp2
    go_ret
    exact ⟨rfl, b1⟩
theorem formI_is (op : Int) : formI op = 85 ∨ formI op = 74 ∨ formI op = 73 ∨ formI op = 66 ∨ formI op = 83 ∨ formI op = 72 ∨ formI op = 82 ∨ formI op = 69 ∨ formI op = 0 := by
  unfold formI
  split
  · simp
  · have : ∀ k, k < 47 → formL.getD k 0 = 85 ∨ formL.getD k 0 = 74 ∨ formL.getD k 0 = 73 ∨ formL.getD k 0 = 66 ∨ formL.getD k 0 = 83 ∨ formL.getD k 0 = 72 ∨ formL.getD k 0 = 82 ∨ formL.getD k 0 = 69 ∨ formL.getD k 0 = 0 := by decide
    exact this _ (by omega)
theorem five_ins (x : Ins) : x.five.toArray = #[.int .i64 x.op, .int .i64 x.rd, .int .i64 x.rs1, .int .i64 x.rs2, .int .i64 x.imm] := rfl
set_option maxRecDepth 100000 in
theorem iright_any (x : Ins) (w : World) : Calls Tryz.prog 22 #[.agg x.five.toArray] w fun e w' => e = .returned (.bool (rightI x)) ∧ Below w.heap.size w w' := by
  obtain ⟨op, rd, rs1, rs2, imm⟩ := x
  show Calls Tryz.prog 22 #[.agg #[.int .i64 op, .int .i64 rd, .int .i64 rs1, .int .i64 rs2, .int .i64 imm]] w _
  obtain ⟨z0, z1, z2, z3, z4⟩ := five_cells (blk_new w (.cells #[.int .i64 op, .int .i64 rd, .int .i64 rs1, .int .i64 rs2, .int .i64 imm] 31))
  have b1 := (Below.refl w.heap.size w).alloc (Nat.le_refl _) (.cells #[.int .i64 op, .int .i64 rd, .int .i64 rs1, .int .i64 rs2, .int .i64 imm] 31)
  have hF := iform_any op (w.alloc (.cells #[.int .i64 op, .int .i64 rd, .int .i64 rs1, .int .i64 rs2, .int .i64 imm] 31))
  have hi := formI_is op
  unfold rightI
  dsimp only
  generalize formI op = f at hF hi ⊢
  have hH := ihas_any f hi
  have hR1 := ireg_any (rdB f) rd
  have hR2 := ireg_any (rs1B f) rs1
  have hR3 := ireg_any (rs2B f) rs2
  have hN := inumber_any f hi imm
  have e0 : ((f : Int) != 0) = decide (f ≠ 0) := by by_cases h : f = 0 <;> simp [h]
  generalize rdB f = r1 at *
  generalize rs1B f = r2 at *
  generalize rs2B f = r3 at *
  generalize regB r1 rd = g1 at *
  generalize regB r2 rs1 = g2 at *
  generalize regB r3 rs2 = g3 at *
  generalize numB f imm = g4 at *
  generalize decide (f ≠ 0) = g0 at *
  clear hi
  go_enter Tryz.func22, Tryz.ntmps22
  go_wp2_with fail
  refine hF.mono ?_
  rintro r w1 ⟨rfl, b2⟩
  have y1 := cell_below b2 z1
  have y2 := cell_below b2 z2
  have y3 := cell_below b2 z3
  have y4 := cell_below b2 z4
  have b3 := b1.trans (b2.mono b1.size)
  go_wp2_with fail
  refine (hH _).mono ?_
  rintro r w2 ⟨rfl, rfl⟩
  clear hH hF z0 z1 z2 z3 z4 b1 b2
  cases g0
  · go_wp2_with fail
    go_ret
    exact ⟨rfl, b3⟩
  cases g1
  · go_wp2_with fail
    refine (hR1 _).mono ?_
    rintro r w2 ⟨rfl, rfl⟩
    go_wp2_with fail
    go_ret
    exact ⟨rfl, b3⟩
  cases g2
  · go_wp2_with fail
    refine (hR1 _).mono ?_
    rintro r w2 ⟨rfl, rfl⟩
    go_wp2_with fail
    refine (hR2 _).mono ?_
    rintro r w2 ⟨rfl, rfl⟩
    go_wp2_with fail
    go_ret
    exact ⟨rfl, b3⟩
  cases g3
  · go_wp2_with fail
    refine (hR1 _).mono ?_
    rintro r w2 ⟨rfl, rfl⟩
    go_wp2_with fail
    refine (hR2 _).mono ?_
    rintro r w2 ⟨rfl, rfl⟩
    go_wp2_with fail
    refine (hR3 _).mono ?_
    rintro r w2 ⟨rfl, rfl⟩
    go_wp2_with fail
    go_ret
    exact ⟨rfl, b3⟩
  · go_wp2_with fail
    refine (hR1 _).mono ?_
    rintro r w2 ⟨rfl, rfl⟩
    go_wp2_with fail
    refine (hR2 _).mono ?_
    rintro r w2 ⟨rfl, rfl⟩
    go_wp2_with fail
    refine (hR3 _).mono ?_
    rintro r w2 ⟨rfl, rfl⟩
    go_wp2_with fail
    refine (hN _).mono ?_
    rintro r w2 ⟨rfl, rfl⟩
    go_wp2_with fail
    go_ret
    exact ⟨rfl, b3⟩
set_option maxRecDepth 100000 in
theorem lplain_any (x : Ins) (w : World) : Calls Tryz.prog 7 #[.agg x.five.toArray] w fun e w' => e = .returned (.bool (plainI x)) ∧ Below w.heap.size w w' := by
  have hR := iright_any x
  have hp : plainI x = (rightI x && ((immOp x.op).isSome || decide (x.op = 0) || decide (x.op = 1) || decide (formI x.op = 82))) := rfl
  rw [hp]
  clear hp
  generalize rightI x = g0 at *
  obtain ⟨op, rd, rs1, rs2, imm⟩ := x
  dsimp only
  change ∀ w, Calls Tryz.prog 22 #[.agg #[.int .i64 op, .int .i64 rd, .int .i64 rs1, .int .i64 rs2, .int .i64 imm]] w _ at hR
  show Calls Tryz.prog 7 #[.agg #[.int .i64 op, .int .i64 rd, .int .i64 rs1, .int .i64 rs2, .int .i64 imm]] w _
  obtain ⟨z0, z1, z2, z3, z4⟩ := five_cells (blk_new w (.cells #[.int .i64 op, .int .i64 rd, .int .i64 rs1, .int .i64 rs2, .int .i64 imm] 31))
  have b1 := (Below.refl w.heap.size w).alloc (Nat.le_refl _) (.cells #[.int .i64 op, .int .i64 rd, .int .i64 rs1, .int .i64 rs2, .int .i64 imm] 31)
  have hP := plain_inst op
  have hF := iform_any op
  have e0 : (op == 0) = decide (op = 0) := beq_dec op
  have e1 : (op == 1) = decide (op = 1) := by by_cases h : op = 1 <;> simp [h]
  have e2 : ((formI op : Int) == 82) = decide (formI op = 82) := by by_cases h : formI op = 82 <;> simp [h]; omega
  generalize formI op = f at *
  generalize decide (f = 82) = g4 at *
  generalize decide (op = 0) = g2 at *
  generalize decide (op = 1) = g3 at *
  generalize (immOp op).isSome = g1 at *
  generalize ((immOp op).getD 0 : Nat) = o at *
  go_enter Tryz.func7, Tryz.ntmps7
  go_wp2_with fail
  refine (hR _).mono ?_
  rintro r w1 ⟨rfl, b2⟩
  have y0 := cell_below b2 z0
  have b3 := b1.trans (b2.mono b1.size)
  clear hR z0 z1 z2 z3 z4 b1 b2
  cases g0
  · go_wp2_with fail
    go_ret
    exact ⟨rfl, b3⟩
  go_wp2_with fail
  refine (hP _).mono ?_
  rintro r w2 ⟨rfl, rfl⟩
  cases g1
  rotate_left
  · go_wp2_with fail
    go_ret
    exact ⟨rfl, b3⟩
  cases g2
  rotate_left
  · go_wp2_with fail
    go_ret
    exact ⟨rfl, b3⟩
  cases g3
  rotate_left
  · go_wp2_with fail
    go_ret
    exact ⟨rfl, b3⟩
  · go_wp2_with fail
    refine (hF _).mono ?_
    rintro r w3 ⟨rfl, b4⟩
    go_wp2_with fail
    go_ret
    exact ⟨rfl, b3.trans (b4.mono b3.size)⟩
set_option maxRecDepth 100000 in
theorem odd_any (x : Ins) (w : World) : Calls Tryz.prog 29 #[.agg x.five.toArray] w fun e w' => e = .returned (.bool (!plainI x)) ∧ Below w.heap.size w w' := by
  have hP := lplain_any x
  generalize plainI x = g at *
  obtain ⟨op, rd, rs1, rs2, imm⟩ := x
  change ∀ w, Calls Tryz.prog 7 #[.agg #[.int .i64 op, .int .i64 rd, .int .i64 rs1, .int .i64 rs2, .int .i64 imm]] w _ at hP
  show Calls Tryz.prog 29 #[.agg #[.int .i64 op, .int .i64 rd, .int .i64 rs1, .int .i64 rs2, .int .i64 imm]] w _
  have b1 := (Below.refl w.heap.size w).alloc (Nat.le_refl _) (.cells #[.int .i64 op, .int .i64 rd, .int .i64 rs1, .int .i64 rs2, .int .i64 imm] 31)
  obtain ⟨z0, z1, z2, z3, z4⟩ := five_cells (blk_new w (.cells #[.int .i64 op, .int .i64 rd, .int .i64 rs1, .int .i64 rs2, .int .i64 imm] 31))
  go_enter Tryz.func29, Tryz.ntmps29
  go_wp2_with fail
  refine (hP _).mono ?_
  rintro r w1 ⟨rfl, b2⟩
  go_wp2_with fail
  go_ret
  exact ⟨rfl, b1.trans (b2.mono b1.size)⟩
end Go.Proofs.YtaiggfknighhgaaGreatDoor
set_option linter.unusedVariables false
set_option linter.unusedSimpArgs false
namespace Go.Proofs.YtaiggfknighhgaaGreatDoor
open Go.RowKit

def oddL (l : List Ins) : Bool := l.any fun x => !plainI x
theorem encI : EncN 5 Ins.five := ⟨fun _ => rfl, fun x u hu => by simp [Ins.five] at hu; rcases hu with rfl | rfl | rfl | rfl | rfl <;> rfl, by omega⟩
theorem oddL_false {l : List Ins} (h : oddL l = false) : ∀ i, i ∈ l → plainI i = true := fun i hi => by
  unfold oddL at h
  rw [List.any_eq_false] at h
  simpa using h i hi
set_option maxRecDepth 100000 in
theorem indexOdd_any (B : Nat) (e : TypeId) (v : Value) (xs : List Ins) (w : World) (hs : SlN B e 5 Ins.five w v xs) :
    Calls Tryz.prog 61 #[v, .func (.func 29) #[] #[]] w fun r w' => (∃ n : Int, r = .returned (.int .i64 n) ∧ decide (0 ≤ n) = oddL xs) ∧ Below w.heap.size w w' := by
  obtain ⟨A, c, rfl, q1, q2, q3⟩ := hs.open_
  have q4 : xs.length ≤ 9223372036854775807 := by unfold maxLen at q2; omega
  go_enter Tryz.func61, Tryz.ntmps61
  go_wp2_with fail
  go_loopw [5, 8] (fun _ i wr => ∃ j : Nat, j ≤ xs.length ∧ i = .int .i64 j ∧ oddL (xs.take j) = false ∧ Below w.heap.size w wr) (fun _ i _ => xs.length - (intOf i).toNat)
  case atStart => exact ⟨0, Nat.zero_le _, rfl, rfl, Below.refl _ _⟩
  case round =>
    obtain ⟨j, hj, rfl, hno0, hb⟩ := hrel
    have HNO := Lib.hid hno0
    clear hno0
    by_cases hlt : j < xs.length
    · have hlt' : (j : Int) < xs.length := by omega
      have hs1 := hs.below hb
      obtain ⟨bb, off, eA, hat, hbl⟩ := hs1.at_ hlt
      subst eA
      have hO := odd_any xs[j] wr
      have hno := HNO.out
      have hsn : oddL (xs.take (j + 1)) = !plainI xs[j] := by
        rw [List.take_succ_eq_append_getElem hlt]
        unfold oddL at hno ⊢
        rw [List.any_append, hno]
        simp
      have hall : plainI xs[j] = false → oddL xs = true := fun h => by
        unfold oddL
        rw [List.any_eq_true]
        exact ⟨xs[j], List.getElem_mem hlt, by rw [h]; rfl⟩
      generalize xs[j] = t at hat hO hsn hall
      obtain ⟨op, rd, rs1, rs2, imm⟩ := t
      have d0 : wr.cell? ⟨bb, off + j * 5, none⟩ = some (.int .i64 op) := hat 0 _ rfl
      have d1 : wr.cell? ⟨bb, off + j * 5 + 1, none⟩ = some (.int .i64 rd) := hat 1 _ rfl
      have d2 : wr.cell? ⟨bb, off + j * 5 + 2, none⟩ = some (.int .i64 rs1) := hat 2 _ rfl
      have d3 : wr.cell? ⟨bb, off + j * 5 + 3, none⟩ = some (.int .i64 rs2) := hat 3 _ rfl
      have d4 : wr.cell? ⟨bb, off + j * 5 + 4, none⟩ = some (.int .i64 imm) := hat 4 _ rfl
      change Calls Tryz.prog 29 #[.agg #[.int .i64 op, .int .i64 rd, .int .i64 rs1, .int .i64 rs2, .int .i64 imm]] wr _ at hO
      generalize plainI ⟨op, rd, rs1, rs2, imm⟩ = g at hO hsn hall
      have HS := Lib.hid hsn
      clear hat hs1 hsn hno
      cases g
      · have ha := hall rfl
        have HA := Lib.hid ha
        clear ha hall
        go_wp2_with fail
        refine hO.mono ?_
        rintro r w1 ⟨rfl, b1⟩
        go_wp2_with fail
        go_ret
        exact ⟨⟨j, rfl, by rw [HA.out]; simp⟩, below_then hb b1⟩
      · clear hall
        go_wp2_with fail
        refine hO.mono ?_
        rintro r w1 ⟨rfl, b1⟩
        go_wp2_with fail
        go_roundw
        case rel => exact ⟨j + 1, by omega, by go_num, HS.out, below_then hb b1⟩
        case measure => simp [intOf]; omega
    · have hlt' : ¬ (j : Int) < xs.length := by omega
      have hno := HNO.out
      have he : oddL xs = false := by rw [List.take_of_length_le (by omega)] at hno; exact hno
      have HE := Lib.hid he
      clear he hno
      go_wp2_with fail
      go_ret
      exact ⟨⟨-1, rfl, by rw [HE.out]; rfl⟩, hb⟩
set_option maxRecDepth 100000 in
theorem anyOdd_any (B : Nat) (e : TypeId) (v : Value) (xs : List Ins) (w : World) (hs : SlN B e 5 Ins.five w v xs) :
    Calls Tryz.prog 28 #[v, .func (.func 29) #[] #[]] w fun r w' => r = .returned (.bool (oddL xs)) ∧ Below w.heap.size w w' := by
  have hI := indexOdd_any B e v xs w hs
  go_enter Tryz.func28, Tryz.ntmps28
  go_wp2_with fail
  refine hI.mono ?_
  rintro r w1 ⟨⟨n, rfl, hn⟩, b1⟩
  have HN := Lib.hid hn
  clear hn
  go_wp2_with fail
  go_ret
  exact ⟨by rw [← HN.out]; rfl, b1⟩
end Go.Proofs.YtaiggfknighhgaaGreatDoor
