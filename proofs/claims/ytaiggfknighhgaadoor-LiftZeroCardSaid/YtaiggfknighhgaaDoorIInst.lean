/- inst: Form, between, number, has, register, Right, Plain; lift: Plain, odd. -/
import Derived.Test.YtaiggfknighhgaaDoorChecked
import Derived.Test.YtaiggfknighhgaaDoorCells
import Derived.Test.YtaiggfknighhgaaDoorIPure
import Derived.Tactics2
import Derived.IntWalk
import Derived.OwnWalk
set_option linter.unusedVariables false
set_option linter.unusedSimpArgs false
namespace Go.Proofs.YtaiggfknighhgaaDoor
open Go.RowKit

def Ins.five (x : Ins) : List Value := [.int .i64 x.op, .int .i64 x.rd, .int .i64 x.rs1, .int .i64 x.rs2, .int .i64 x.imm]
theorem between_any (n a b : Int) (w : World) : Calls Tryd.prog 42 #[.int .i64 n, .int .i64 a, .int .i64 b] w fun e w' => e = .returned (.bool (decide (a ≤ n) && decide (n ≤ b))) ∧ w = w' := by
  by_cases h : a ≤ n
  · have h1 : (decide (a ≤ n)) = true := by simpa using h
    rw [h1, Bool.true_and]
    go_enter Tryd.func42, Tryd.ntmps42
    go_wp2
    all_goals (go_ret; exact ⟨rfl, rfl⟩)
  · have h1 : (decide (a ≤ n)) = false := by simpa using h
    rw [h1, Bool.false_and]
    go_enter Tryd.func42, Tryd.ntmps42
    go_wp2
    all_goals (go_ret; exact ⟨rfl, rfl⟩)
theorem ihas_any (f : Nat) (hf : f = 85 ∨ f = 74 ∨ f = 73 ∨ f = 66 ∨ f = 83 ∨ f = 72 ∨ f = 82 ∨ f = 69 ∨ f = 0) (w : World) :
    Calls Tryd.prog 30 #[.int .u8 f] w fun e w' => e = .returned (.tuple #[.bool (rdB f), .bool (rs1B f), .bool (rs2B f)]) ∧ w = w' := by
  rcases hf with rfl | rfl | rfl | rfl | rfl | rfl | rfl | rfl | rfl
  all_goals (
    go_enter Tryd.func30, Tryd.ntmps30
    go_wp2
    go_ret3
    exact ⟨rfl, rfl⟩)
theorem beq_dec (n : Int) : (n == 0) = decide (n = 0) := by by_cases h : n = 0 <;> simp [h]
theorem ireg_any (is : Bool) (n : Int) (w : World) : Calls Tryd.prog 31 #[.bool is, .int .i64 n] w fun e w' => e = .returned (.bool (regB is n)) ∧ w = w' := by
  have hb := between_any n 0 31 w
  unfold regB
  cases is
  · rw [Bool.false_and, Bool.false_or]
    go_enter Tryd.func31, Tryd.ntmps31
    go_wp2
    all_goals (go_ret; exact ⟨by first | rfl | rw [beq_dec], rfl⟩)
  · rw [Bool.true_and]
    cases hq : (decide (0 ≤ n) && decide (n ≤ 31))
    · rw [hq] at hb
      rw [Bool.false_or]
      go_enter Tryd.func31, Tryd.ntmps31
      go_wp2_with fail
      refine hb.mono ?_
      rintro r w1 ⟨rfl, rfl⟩
      go_wp2
      all_goals (go_ret; exact ⟨by first | rfl | rw [beq_dec], rfl⟩)
    · rw [hq] at hb
      rw [Bool.true_or]
      go_enter Tryd.func31, Tryd.ntmps31
      go_wp2_with fail
      refine hb.mono ?_
      rintro r w1 ⟨rfl, rfl⟩
      go_wp2
      all_goals (go_ret; exact ⟨by first | rfl | rw [beq_dec], rfl⟩)
theorem ret_b {a b : Bool} (h : a = b) : Ending.returned (.bool a) = .returned (.bool b) := by rw [h]
theorem tmod2 (n : Int) : (Int.tmod n 2 == 0) = decide (n % 2 = 0) := by
  have h : Int.tmod n 2 = 0 ↔ n % 2 = 0 := by
    rw [← Int.dvd_iff_tmod_eq_zero, ← Int.dvd_iff_emod_eq_zero]
  by_cases e : n % 2 = 0
  · rw [h.2 e]; simp [e]
  · have : Int.tmod n 2 ≠ 0 := fun x => e (h.1 x)
    simp [e, this]
theorem inumber_any (f : Nat) (hf : f = 85 ∨ f = 74 ∨ f = 73 ∨ f = 66 ∨ f = 83 ∨ f = 72 ∨ f = 82 ∨ f = 69 ∨ f = 0) (n : Int) (w : World) :
    Calls Tryd.prog 32 #[.int .u8 f, .int .i64 n] w fun e w' => e = .returned (.bool (numB f n)) ∧ w = w' := by
  have h1 := between_any n 0 1048575 w
  have h2 := between_any n (-1048576) 1048574 w
  have h3 := between_any n (-2048) 2047 w
  have h4 := between_any n (-4096) 4094 w
  have h5 := between_any n 0 31 w
  rcases hf with rfl | rfl | rfl | rfl | rfl | rfl | rfl | rfl | rfl
  · go_enter Tryd.func32, Tryd.ntmps32
    go_wp2_with fail
    refine h1.mono ?_
    rintro r w1 ⟨rfl, rfl⟩
    go_wp2
    go_ret
    exact ⟨by simp [numB], rfl⟩
  · cases hq : (decide (-1048576 ≤ n) && decide (n ≤ 1048574))
    · rw [hq] at h2
      go_enter Tryd.func32, Tryd.ntmps32
      go_wp2_with fail
      refine h2.mono ?_
      rintro r w1 ⟨rfl, rfl⟩
      go_wp2
      go_ret
      refine ⟨ret_b ?_, rfl⟩
      rw [Bool.and_eq_false_iff] at hq
      simp only [decide_eq_false_iff_not] at hq
      symm
      simp only [numB, reduceIte, decide_eq_false_iff_not, Nat.reduceEqDiff, or_self]
      omega
    · rw [hq] at h2
      have ht := tmod2 n
      go_enter Tryd.func32, Tryd.ntmps32
      go_wp2_with fail
      refine h2.mono ?_
      rintro r w1 ⟨rfl, rfl⟩
      go_wp2
      go_ret
      refine ⟨ret_b ?_, rfl⟩
      rw [Bool.and_eq_true] at hq
      simp only [decide_eq_true_eq] at hq
      simp only [numB, reduceIte, Nat.reduceEqDiff, or_self]
      exact decide_eq_decide.2 ⟨fun x => ⟨hq.1, hq.2, x⟩, fun x => x.2.2⟩
  · go_enter Tryd.func32, Tryd.ntmps32
    go_wp2_with fail
    refine h3.mono ?_
    rintro r w1 ⟨rfl, rfl⟩
    go_wp2
    go_ret
    exact ⟨by simp [numB], rfl⟩
  · cases hq : (decide (-4096 ≤ n) && decide (n ≤ 4094))
    · rw [hq] at h4
      go_enter Tryd.func32, Tryd.ntmps32
      go_wp2_with fail
      refine h4.mono ?_
      rintro r w1 ⟨rfl, rfl⟩
      go_wp2
      go_ret
      refine ⟨ret_b ?_, rfl⟩
      rw [Bool.and_eq_false_iff] at hq
      simp only [decide_eq_false_iff_not] at hq
      symm
      simp only [numB, reduceIte, decide_eq_false_iff_not, Nat.reduceEqDiff, or_self]
      omega
    · rw [hq] at h4
      have ht := tmod2 n
      go_enter Tryd.func32, Tryd.ntmps32
      go_wp2_with fail
      refine h4.mono ?_
      rintro r w1 ⟨rfl, rfl⟩
      go_wp2
      go_ret
      refine ⟨ret_b ?_, rfl⟩
      rw [Bool.and_eq_true] at hq
      simp only [decide_eq_true_eq] at hq
      simp only [numB, reduceIte, Nat.reduceEqDiff, or_self]
      exact decide_eq_decide.2 ⟨fun x => ⟨hq.1, hq.2, x⟩, fun x => x.2.2⟩
  · go_enter Tryd.func32, Tryd.ntmps32
    go_wp2_with fail
    refine h3.mono ?_
    rintro r w1 ⟨rfl, rfl⟩
    go_wp2
    go_ret
    exact ⟨by simp [numB], rfl⟩
  · go_enter Tryd.func32, Tryd.ntmps32
    go_wp2_with fail
    refine h5.mono ?_
    rintro r w1 ⟨rfl, rfl⟩
    go_wp2
    go_ret
    exact ⟨by simp [numB], rfl⟩
  all_goals (
    go_enter Tryd.func32, Tryd.ntmps32
    go_wp2
    go_ret
    exact ⟨by rw [beq_dec]; rfl, rfl⟩)
theorem plain_inst (op : Int) (w : World) : Calls Tryd.prog 21 #[.int .i64 op] w fun e w' => e = .returned (.tuple #[.int .i64 ((immOp op).getD 0 : Nat), .bool (immOp op).isSome]) ∧ w = w' := by
  by_cases h : 18 ≤ op ∧ op ≤ 26
  · obtain ⟨k, rfl, hk⟩ : ∃ k : Nat, op = ((k + 18 : Nat) : Int) ∧ k < 9 := ⟨(op - 18).toNat, by omega, by omega⟩
    match k, hk with
    | 0, _ | 1, _ | 2, _ | 3, _ | 4, _ | 5, _ | 6, _ | 7, _ | 8, _ =>
      go_enter Tryd.func21, Tryd.ntmps21
      go_wp2
      go_ret2
      exact ⟨rfl, rfl⟩
  · rw [immOp_none h]
    have e0 : (op == 18) = false := by simp; omega
    have e1 : (op == 19) = false := by simp; omega
    have e2 : (op == 20) = false := by simp; omega
    have e3 : (op == 21) = false := by simp; omega
    have e4 : (op == 22) = false := by simp; omega
    have e5 : (op == 23) = false := by simp; omega
    have e6 : (op == 24) = false := by simp; omega
    have e7 : (op == 25) = false := by simp; omega
    have e8 : (op == 26) = false := by simp; omega
    go_enter Tryd.func21, Tryd.ntmps21
    go_wp2
    go_ret2
    exact ⟨rfl, rfl⟩
end Go.Proofs.YtaiggfknighhgaaDoor
