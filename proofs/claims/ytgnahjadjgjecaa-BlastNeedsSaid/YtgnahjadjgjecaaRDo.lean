/- The reference's words, walked: products, quotients, Do. -/
import Derived.Test.YtgnahjadjgjecaaRBits
set_option linter.unusedVariables false
set_option linter.unusedSimpArgs false
namespace Go.Proofs.Ytgnahjadjgjecaa
open Go.RowKit

theorem half_bd {x y : Nat} (hx : x < 65536) (hy : y < 65536) : x * y ≤ 4294836225 := Nat.mul_le_mul (Nat.le_of_lt_succ hx) (Nat.le_of_lt_succ hy)
set_option maxRecDepth 100000 in
theorem halves_any (a b : Nat) (ha : a < 4294967296) (hb : b < 4294967296) (w : World) :
    Calls Try.prog 81 #[.int .u32 a, .int .u32 b] w fun r w' => r = .returned (.int .u32 (a * b / 4294967296 : Nat)) ∧ w = w' := by
  have hH := halves_eq ha hb
  have hlt := mulhu_lt ha hb
  have bS := half_bd (x := a / 65536) (y := b / 65536) (by omega) (by omega)
  have bQ := half_bd (x := a / 65536) (y := b % 65536) (by omega) (by omega)
  have bR := half_bd (x := a % 65536) (y := b / 65536) (by omega) (by omega)
  have bP := half_bd (x := a % 65536) (y := b % 65536) (by omega) (by omega)
  have eS : (a : Int) / 65536 * ((b : Int) / 65536) = ((a / 65536 * (b / 65536) : Nat) : Int) := by simp
  have eQ : (a : Int) / 65536 * ((b : Int) % 65536) = ((a / 65536 * (b % 65536) : Nat) : Int) := by simp
  have eR : (a : Int) % 65536 * ((b : Int) / 65536) = ((a % 65536 * (b / 65536) : Nat) : Int) := by simp
  have eP : (a : Int) % 65536 * ((b : Int) % 65536) = ((a % 65536 * (b % 65536) : Nat) : Int) := by simp
  generalize a / 65536 * (b / 65536) = S at *
  generalize a / 65536 * (b % 65536) = Q at *
  generalize a % 65536 * (b / 65536) = R at *
  generalize a % 65536 * (b % 65536) = P at *
  generalize a * b / 4294967296 = X at *
  have HH := Lib.hid hH
  have HX := Lib.hid hlt
  clear hH hlt
  go_enter Try.func81, Try.ntmps81
  go_wp2_with fail
  go_ret
  refine ⟨ret_u32 ?_, rfl⟩
  have h1 := HH.out
  have h2 := HX.out
  clear eS eQ eR eP
  omega
theorem high38_eq (a b : Nat) : (((doW 38 a b).getD 0 : Nat) : Int) = (((a * b / 4294967296 : Nat) : Int) - (if a < 2147483648 then 0 else (b : Int)) - (if b < 2147483648 then 0 else (a : Int))) % 4294967296 := by
  have e38 : (doW 38 a b).getD 0 = us (sg a * sg b / 4294967296) := by simp only [doW, Option.getD_some]
  rw [e38, us_cast]
  have hm : ((a * b : Nat) : Int) = (a : Int) * (b : Int) := by simp
  have m1 : ((a : Int) - 4294967296) * (b : Int) = (a : Int) * b - 4294967296 * b := by rw [Int.sub_mul]
  have m2 : (a : Int) * ((b : Int) - 4294967296) = (a : Int) * b - 4294967296 * a := by rw [Int.mul_sub, Int.mul_comm (a : Int) 4294967296]
  have m3 : ((a : Int) - 4294967296) * ((b : Int) - 4294967296) = (a : Int) * b - 4294967296 * a - 4294967296 * b + 18446744073709551616 := by
    rw [Int.sub_mul, Int.mul_sub, Int.mul_sub, Int.mul_comm (a : Int) 4294967296]
    omega
  unfold sg
  split <;> split <;> first | rw [m3] | rw [m1] | rw [m2] | skip
  all_goals
    clear m1 m2 m3
    generalize a * b = M at *
    generalize (a : Int) * (b : Int) = N at *
    omega
theorem high39_eq (a b : Nat) : (((doW 39 a b).getD 0 : Nat) : Int) = (((a * b / 4294967296 : Nat) : Int) - (if a < 2147483648 then 0 else (b : Int))) % 4294967296 := by
  have e39 : (doW 39 a b).getD 0 = us (sg a * (b : Int) / 4294967296) := by simp only [doW, Option.getD_some]
  rw [e39, us_cast]
  have hm : ((a * b : Nat) : Int) = (a : Int) * (b : Int) := by simp
  have m1 : ((a : Int) - 4294967296) * (b : Int) = (a : Int) * b - 4294967296 * b := by rw [Int.sub_mul]
  unfold sg
  split <;> first | rw [m1] | skip
  all_goals
    clear m1
    generalize a * b = M at *
    generalize (a : Int) * (b : Int) = N at *
    omega
set_option maxRecDepth 100000 in
theorem rhigh (op : Nat) (hop : op = 38 ∨ op = 39 ∨ op = 40) (a b : Nat) (ha : a < 4294967296) (hb : b < 4294967296) (w : World) :
    Calls Try.prog 74 #[.int .i64 op, .int .u32 a, .int .u32 b] w fun r w' => r = .returned (.int .u32 ((doW op a b).getD 0 : Nat)) ∧ w = w' := by
  have hH := fun w => halves_any a b ha hb w
  have hlt := mulhu_lt ha hb
  have e40 : (doW 40 a b).getD 0 = a * b / 4294967296 := by simp only [doW, Option.getD_some]
  have H38 := Lib.hid (high38_eq a b)
  have H39 := Lib.hid (high39_eq a b)
  have H40 := Lib.hid e40
  clear e40
  generalize a * b / 4294967296 = X at *
  have hca : (decide ((2147483648 : Int) ≤ a) = false) ∨ (2147483648 : Int) ≤ a := by simp only [decide_eq_false_iff_not]; omega
  have hcb : (decide ((2147483648 : Int) ≤ b) = false) ∨ (2147483648 : Int) ≤ b := by simp only [decide_eq_false_iff_not]; omega
  rcases hop with rfl | rfl | rfl <;> rcases hca with hca | hca <;> rcases hcb with hcb | hcb
  all_goals
    go_enter Try.func74, Try.ntmps74
    go_wp2_with fail
    refine (hH _).mono ?_
    rintro r w1 ⟨rfl, rfl⟩
    go_wp2_with fail
  all_goals try simp only [decide_eq_false_iff_not] at hca
  all_goals try simp only [decide_eq_false_iff_not] at hcb
  all_goals first
    | (exfalso; omega)
    | (go_ret
       refine ⟨ret_u32 ?_, rfl⟩
       first
         | (have h := H38.out; clear H38 H39 H40; split at h <;> split at h <;> omega)
         | (have h := H39.out; clear H38 H39 H40; split at h <;> omega)
         | (rw [H40.out]))
theorem tdiv_bd (x y : Int) (hx : -2147483648 ≤ x ∧ x ≤ 4294967295) : -4294967296 ≤ x.tdiv y ∧ x.tdiv y ≤ 4294967296 := by
  have h : (x.tdiv y).natAbs ≤ x.natAbs := by
    rw [Int.natAbs_tdiv]
    exact Nat.div_le_self _ _
  omega
theorem tmul_bd (x y : Int) (hx : -2147483648 ≤ x ∧ x ≤ 4294967295) : -4294967296 ≤ x.tdiv y * y ∧ x.tdiv y * y ≤ 4294967296 := by
  have h : (x.tdiv y * y).natAbs ≤ x.natAbs := by
    rw [Int.natAbs_mul, Int.natAbs_tdiv]
    exact Nat.div_mul_le_self _ _
  omega
theorem sg_zero {b : Nat} (hb : b < 4294967296) : sg b = 0 ↔ b = 0 := by unfold sg; split <;> omega
theorem div_facts (op a b : Nat) (ha : a < 4294967296) (hb : b < 4294967296) (h0 : b ≠ 0) :
    (((doW 41 a b).getD 0 : Nat) : Int) = (sg a).tdiv (sg b) % 4294967296 ∧ (((doW 42 a b).getD 0 : Nat) : Int) = (a : Int).tdiv b % 4294967296 ∧
    (((doW 43 a b).getD 0 : Nat) : Int) = (sg a - (sg a).tdiv (sg b) * sg b) % 4294967296 ∧ (((doW 44 a b).getD 0 : Nat) : Int) = ((a : Int) - (a : Int).tdiv b * b) % 4294967296 := by
  have em : ∀ x y : Int, x - x.tdiv y * y = x.tmod y := fun x y => by rw [Int.tmod_def, Int.mul_comm]
  refine ⟨?_, ?_, ?_, ?_⟩
  · have e : (doW 41 a b).getD 0 = if a = 2147483648 ∧ b = 4294967295 then a else us ((sg a).tdiv (sg b)) := by simp only [doW, Option.getD_some]; rw [if_neg h0]
    rw [e]
    split
    · rename_i h
      rw [h.1, h.2]
      decide +kernel
    · rw [us_cast]
  · have e : (doW 42 a b).getD 0 = a / b := by simp only [doW, Option.getD_some]; rw [if_neg h0]
    rw [e, ← Int.ofNat_tdiv]
    have := div_lt32 ha b
    show ((a / b : Nat) : Int) = ((a / b : Nat) : Int) % 4294967296
    generalize a / b = q at *
    omega
  · have e : (doW 43 a b).getD 0 = if a = 2147483648 ∧ b = 4294967295 then 0 else us ((sg a).tmod (sg b)) := by simp only [doW, Option.getD_some]; rw [if_neg h0]
    rw [e, em]
    split
    · rename_i h
      rw [h.1, h.2]
      decide +kernel
    · rw [us_cast]
  · have e : (doW 44 a b).getD 0 = a % b := by simp only [doW, Option.getD_some]; rw [if_neg h0]
    rw [e, em, ← Int.ofNat_tmod]
    have : a % b ≤ a := Nat.mod_le a b
    show ((a % b : Nat) : Int) = ((a % b : Nat) : Int) % 4294967296
    generalize a % b = q at *
    omega
set_option maxRecDepth 100000 in
theorem rdiv_zero (op : Nat) (hop : op = 41 ∨ op = 42 ∨ op = 43 ∨ op = 44) (a : Nat) (w : World) :
    Calls Try.prog 75 #[.int .i64 op, .int .u32 a, .int .u32 0] w fun r w' => r = .returned (.int .u32 ((doW op a 0).getD 0 : Nat)) ∧ w = w' := by
  rcases hop with rfl | rfl | rfl | rfl
  all_goals
    go_enter Try.func75, Try.ntmps75
    go_wp2_with fail
    go_ret
    exact ⟨rfl, rfl⟩
set_option maxRecDepth 100000 in
theorem rdiv (op : Nat) (hop : op = 41 ∨ op = 42 ∨ op = 43 ∨ op = 44) (a b : Nat) (ha : a < 4294967296) (hb : b < 4294967296) (h0 : b ≠ 0) (w : World) :
    Calls Try.prog 75 #[.int .i64 op, .int .u32 a, .int .u32 b] w fun r w' => r = .returned (.int .u32 ((doW op a b).getD 0 : Nat)) ∧ w = w' := by
  obtain ⟨f1, f2, f3, f4⟩ := div_facts op a b ha hb h0
  have hNa := fun w => num_any32 a ha w
  have hNb := fun w => num_any32 b hb w
  have hsa := sg_bd a ha
  have hsb := sg_bd b hb
  have hz : (sg b == 0) = false := by simp only [beq_eq_false_iff_ne]; intro h; exact h0 ((sg_zero hb).1 h)
  have hz2 : ((b : Int) == 0) = false := by simp; omega
  have hz3 : ¬ sg b = 0 := by intro h; exact h0 ((sg_zero hb).1 h)
  have hz4 : ¬ (b : Int) = 0 := by omega
  have q1 := tdiv_bd (sg a) (sg b) (by omega)
  have q2 := tmul_bd (sg a) (sg b) (by omega)
  have q3 := tdiv_bd (a : Int) (b : Int) (by omega)
  have q4 := tmul_bd (a : Int) (b : Int) (by omega)
  rw [Int.tdiv_eq_ediv_of_nonneg (by omega : (0 : Int) ≤ a)] at q3 q4 f2 f4
  have F1 := Lib.hid f1
  have F2 := Lib.hid f2
  have F3 := Lib.hid f3
  have F4 := Lib.hid f4
  clear f1 f2 f3 f4 h0
  rcases hop with rfl | rfl | rfl | rfl
  all_goals
    go_enter Try.func75, Try.ntmps75
    go_wp2_with (first | (go_at_call 73; (with_reducible refine (hNa _).mono ?_); rintro r w1 ⟨rfl, rfl⟩) | (go_at_call 73; (with_reducible refine (hNb _).mono ?_); rintro r w1 ⟨rfl, rfl⟩) | fail)
  all_goals (
    go_ret
    refine ⟨ret_u32 ?_, rfl⟩
    first | exact F1.out.symm | exact F2.out.symm | exact F3.out.symm | exact F4.out.symm)
set_option maxRecDepth 100000 in
theorem rdo27 (a b : Nat) (ha : a < 4294967296) (hb : b < 4294967296) (w : World) :
    Calls Try.prog 64 #[.int .i64 27, .int .u32 a, .int .u32 b] w fun r w' => r = .returned (.tuple #[.int .u32 (((doW 27 a b).getD 0 : Nat) : Int), .int .i64 0]) ∧ Below w.heap.size w w' := by
  go_enter Try.func64, Try.ntmps64
  go_wp2_with fail
  go_ret2
  refine ⟨ret_u32e ?_, Below.refl _ _⟩
  rw [show (doW 27 a b).getD 0 = (a + b) % 4294967296 from by simp only [doW, Option.getD_some]]
  omega
set_option maxRecDepth 100000 in
theorem rdo28 (a b : Nat) (ha : a < 4294967296) (hb : b < 4294967296) (w : World) :
    Calls Try.prog 64 #[.int .i64 28, .int .u32 a, .int .u32 b] w fun r w' => r = .returned (.tuple #[.int .u32 (((doW 28 a b).getD 0 : Nat) : Int), .int .i64 0]) ∧ Below w.heap.size w w' := by
  go_enter Try.func64, Try.ntmps64
  go_wp2_with fail
  go_ret2
  refine ⟨ret_u32e ?_, Below.refl _ _⟩
  rw [show (doW 28 a b).getD 0 = us ((a : Int) - b) from by simp only [doW, Option.getD_some]]
  rw [us_cast]
set_option maxRecDepth 100000 in
theorem rdo37 (a b : Nat) (ha : a < 4294967296) (hb : b < 4294967296) (w : World) :
    Calls Try.prog 64 #[.int .i64 37, .int .u32 a, .int .u32 b] w fun r w' => r = .returned (.tuple #[.int .u32 (((doW 37 a b).getD 0 : Nat) : Int), .int .i64 0]) ∧ Below w.heap.size w w' := by
  go_enter Try.func64, Try.ntmps64
  go_wp2_with fail
  go_ret2
  refine ⟨ret_u32e ?_, Below.refl _ _⟩
  rw [show (doW 37 a b).getD 0 = (a * b) % 4294967296 from by simp only [doW, Option.getD_some]]
  simp
set_option maxRecDepth 100000 in
theorem rdo36 (a b : Nat) (ha : a < 4294967296) (hb : b < 4294967296) (w : World) :
    Calls Try.prog 64 #[.int .i64 36, .int .u32 a, .int .u32 b] w fun r w' => r = .returned (.tuple #[.int .u32 (((doW 36 a b).getD 0 : Nat) : Int), .int .i64 0]) ∧ Below w.heap.size w w' := by
  have hC := rbits_and a b ha hb w
  go_enter Try.func64, Try.ntmps64
  go_wp2_with fail
  refine hC.mono ?_
  rintro r w1 ⟨rfl, hb1⟩
  go_wp2_with fail
  go_ret2
  exact ⟨rfl, hb1⟩
set_option maxRecDepth 100000 in
theorem rdo35 (a b : Nat) (ha : a < 4294967296) (hb : b < 4294967296) (w : World) :
    Calls Try.prog 64 #[.int .i64 35, .int .u32 a, .int .u32 b] w fun r w' => r = .returned (.tuple #[.int .u32 (((doW 35 a b).getD 0 : Nat) : Int), .int .i64 0]) ∧ Below w.heap.size w w' := by
  have hC := rbits_or a b ha hb w
  go_enter Try.func64, Try.ntmps64
  go_wp2_with fail
  refine hC.mono ?_
  rintro r w1 ⟨rfl, hb1⟩
  go_wp2_with fail
  go_ret2
  exact ⟨rfl, hb1⟩
set_option maxRecDepth 100000 in
theorem rdo32 (a b : Nat) (ha : a < 4294967296) (hb : b < 4294967296) (w : World) :
    Calls Try.prog 64 #[.int .i64 32, .int .u32 a, .int .u32 b] w fun r w' => r = .returned (.tuple #[.int .u32 (((doW 32 a b).getD 0 : Nat) : Int), .int .i64 0]) ∧ Below w.heap.size w w' := by
  have hC := rbits_xor a b ha hb w
  go_enter Try.func64, Try.ntmps64
  go_wp2_with fail
  refine hC.mono ?_
  rintro r w1 ⟨rfl, hb1⟩
  go_wp2_with fail
  go_ret2
  exact ⟨rfl, hb1⟩
set_option maxRecDepth 100000 in
theorem rdo29 (a b : Nat) (ha : a < 4294967296) (hb : b < 4294967296) (w : World) :
    Calls Try.prog 64 #[.int .i64 29, .int .u32 a, .int .u32 b] w fun r w' => r = .returned (.tuple #[.int .u32 (((doW 29 a b).getD 0 : Nat) : Int), .int .i64 0]) ∧ Below w.heap.size w w' := by
  have hC := shl_any a (b % 32) ha (by omega) w
  rw [show (((b % 32 : Nat) : Int)) = (b : Int) % 32 from by omega] at hC
  go_enter Try.func64, Try.ntmps64
  go_wp2_with fail
  refine hC.mono ?_
  rintro r w1 ⟨rfl, hb1⟩
  go_wp2_with fail
  go_ret2
  exact ⟨rfl, hb1⟩
set_option maxRecDepth 100000 in
theorem rdo33 (a b : Nat) (ha : a < 4294967296) (hb : b < 4294967296) (w : World) :
    Calls Try.prog 64 #[.int .i64 33, .int .u32 a, .int .u32 b] w fun r w' => r = .returned (.tuple #[.int .u32 (((doW 33 a b).getD 0 : Nat) : Int), .int .i64 0]) ∧ Below w.heap.size w w' := by
  have hC := shr_gen a (b % 32) 0 ha (by omega) (by omega) w
  rw [ofB_shr ha (by omega)] at hC
  have hC2 : Calls Try.prog 70 #[.int .u32 a, .int .i64 (-((b : Int) % 32)), .int .u32 0] w fun r w' => r = .returned (.int .u32 (a / 2 ^ (b % 32) : Nat)) ∧ Below w.heap.size w w' := hC
  clear hC
  go_enter Try.func64, Try.ntmps64
  go_wp2_with fail
  refine hC2.mono ?_
  rintro r w1 ⟨rfl, hb1⟩
  go_wp2_with fail
  go_ret2
  exact ⟨rfl, hb1⟩
set_option maxRecDepth 100000 in
theorem rdo34 (a b : Nat) (ha : a < 4294967296) (hb : b < 4294967296) (w : World) :
    Calls Try.prog 64 #[.int .i64 34, .int .u32 a, .int .u32 b] w fun r w' => r = .returned (.tuple #[.int .u32 (((doW 34 a b).getD 0 : Nat) : Int), .int .i64 0]) ∧ Below w.heap.size w w' := by
  have hB : Calls Try.prog 71 #[.int .u32 a, .int .i64 31] w fun r w' => r = .returned (.int .u32 (a / 2147483648 : Nat)) ∧ w = w' := by
    have h := bit_any a 31 ha (by omega) w
    rw [show bitN a 31 = a / 2147483648 from by unfold bitN; omega] at h
    exact h
  have hC := shr_gen a (b % 32) (a / 2147483648) ha (by omega) (by omega) w
  rw [ofB_sar ha (by omega)] at hC
  have hC2 : Calls Try.prog 70 #[.int .u32 a, .int .i64 (-((b : Int) % 32)), .int .u32 (a / 2147483648 : Nat)] w fun r w' => r = .returned (.int .u32 (us (sg a / 2 ^ (b % 32)) : Nat)) ∧ Below w.heap.size w w' := hC
  clear hC
  generalize a / 2147483648 = tp at *
  go_enter Try.func64, Try.ntmps64
  go_wp2_with fail
  refine hB.mono ?_
  rintro r w1 ⟨rfl, rfl⟩
  go_wp2_with fail
  refine hC2.mono ?_
  rintro r w1 ⟨rfl, hb1⟩
  go_wp2_with fail
  go_ret2
  exact ⟨rfl, hb1⟩
set_option maxRecDepth 100000 in
theorem rdo30 (a b : Nat) (ha : a < 4294967296) (hb : b < 4294967296) (w : World) :
    Calls Try.prog 64 #[.int .i64 30, .int .u32 a, .int .u32 b] w fun r w' => r = .returned (.tuple #[.int .u32 (((doW 30 a b).getD 0 : Nat) : Int), .int .i64 0]) ∧ Below w.heap.size w w' := by
  have hNa := fun w => num_any32 a ha w
  have hNb := fun w => num_any32 b hb w
  have hO := fun c w => one_any c w
  go_enter Try.func64, Try.ntmps64
  go_wp2_with fail
  refine (hNa _).mono ?_
  rintro r w1 ⟨rfl, rfl⟩
  go_wp2_with fail
  refine (hNb _).mono ?_
  rintro r w1 ⟨rfl, rfl⟩
  go_wp2_with fail
  refine (hO _ _).mono ?_
  rintro r w1 ⟨rfl, rfl⟩
  go_wp2_with fail
  all_goals (go_ret2; refine ⟨ret_u32e ?_, Below.refl _ _⟩; rw [show (doW 30 a b).getD 0 = (if sg a < sg b then 1 else 0) from by simp only [doW, Option.getD_some]]; first | (rw [if_pos (by assumption)]; rfl) | (rw [if_neg (by omega)]; rfl))
set_option maxRecDepth 100000 in
theorem rdo31 (a b : Nat) (ha : a < 4294967296) (hb : b < 4294967296) (w : World) :
    Calls Try.prog 64 #[.int .i64 31, .int .u32 a, .int .u32 b] w fun r w' => r = .returned (.tuple #[.int .u32 (((doW 31 a b).getD 0 : Nat) : Int), .int .i64 0]) ∧ Below w.heap.size w w' := by
  have hO := fun c w => one_any c w
  go_enter Try.func64, Try.ntmps64
  go_wp2_with fail
  refine (hO _ _).mono ?_
  rintro r w1 ⟨rfl, rfl⟩
  go_wp2_with fail
  all_goals (go_ret2; refine ⟨ret_u32e ?_, Below.refl _ _⟩; rw [show (doW 31 a b).getD 0 = (if a < b then 1 else 0) from by simp only [doW, Option.getD_some]]; first | (rw [if_pos (by omega)]; rfl) | (rw [if_neg (by omega)]; rfl))
set_option maxRecDepth 100000 in
theorem rdo38 (a b : Nat) (ha : a < 4294967296) (hb : b < 4294967296) (w : World) :
    Calls Try.prog 64 #[.int .i64 38, .int .u32 a, .int .u32 b] w fun r w' => r = .returned (.tuple #[.int .u32 (((doW 38 a b).getD 0 : Nat) : Int), .int .i64 0]) ∧ Below w.heap.size w w' := by
  have hC := rhigh 38 (by decide) a b ha hb w
  go_enter Try.func64, Try.ntmps64
  go_wp2_with fail
  refine hC.mono ?_
  rintro r w1 ⟨rfl, rfl⟩
  go_wp2_with fail
  go_ret2
  exact ⟨rfl, Below.refl _ _⟩
set_option maxRecDepth 100000 in
theorem rdo39 (a b : Nat) (ha : a < 4294967296) (hb : b < 4294967296) (w : World) :
    Calls Try.prog 64 #[.int .i64 39, .int .u32 a, .int .u32 b] w fun r w' => r = .returned (.tuple #[.int .u32 (((doW 39 a b).getD 0 : Nat) : Int), .int .i64 0]) ∧ Below w.heap.size w w' := by
  have hC := rhigh 39 (by decide) a b ha hb w
  go_enter Try.func64, Try.ntmps64
  go_wp2_with fail
  refine hC.mono ?_
  rintro r w1 ⟨rfl, rfl⟩
  go_wp2_with fail
  go_ret2
  exact ⟨rfl, Below.refl _ _⟩
set_option maxRecDepth 100000 in
theorem rdo40 (a b : Nat) (ha : a < 4294967296) (hb : b < 4294967296) (w : World) :
    Calls Try.prog 64 #[.int .i64 40, .int .u32 a, .int .u32 b] w fun r w' => r = .returned (.tuple #[.int .u32 (((doW 40 a b).getD 0 : Nat) : Int), .int .i64 0]) ∧ Below w.heap.size w w' := by
  have hC := rhigh 40 (by decide) a b ha hb w
  go_enter Try.func64, Try.ntmps64
  go_wp2_with fail
  refine hC.mono ?_
  rintro r w1 ⟨rfl, rfl⟩
  go_wp2_with fail
  go_ret2
  exact ⟨rfl, Below.refl _ _⟩
set_option maxRecDepth 100000 in
theorem rdo41 (a b : Nat) (ha : a < 4294967296) (hb : b < 4294967296) (w : World) :
    Calls Try.prog 64 #[.int .i64 41, .int .u32 a, .int .u32 b] w fun r w' => r = .returned (.tuple #[.int .u32 (((doW 41 a b).getD 0 : Nat) : Int), .int .i64 0]) ∧ Below w.heap.size w w' := by
  have hC : Calls Try.prog 75 #[.int .i64 41, .int .u32 a, .int .u32 b] w fun r w' => r = .returned (.int .u32 ((doW 41 a b).getD 0 : Nat)) ∧ w = w' := by
    by_cases h0 : b = 0
    · subst h0; exact rdiv_zero 41 (by decide) a w
    · exact rdiv 41 (by decide) a b ha hb h0 w
  go_enter Try.func64, Try.ntmps64
  go_wp2_with fail
  refine hC.mono ?_
  rintro r w1 ⟨rfl, rfl⟩
  go_wp2_with fail
  go_ret2
  exact ⟨rfl, Below.refl _ _⟩
set_option maxRecDepth 100000 in
theorem rdo42 (a b : Nat) (ha : a < 4294967296) (hb : b < 4294967296) (w : World) :
    Calls Try.prog 64 #[.int .i64 42, .int .u32 a, .int .u32 b] w fun r w' => r = .returned (.tuple #[.int .u32 (((doW 42 a b).getD 0 : Nat) : Int), .int .i64 0]) ∧ Below w.heap.size w w' := by
  have hC : Calls Try.prog 75 #[.int .i64 42, .int .u32 a, .int .u32 b] w fun r w' => r = .returned (.int .u32 ((doW 42 a b).getD 0 : Nat)) ∧ w = w' := by
    by_cases h0 : b = 0
    · subst h0; exact rdiv_zero 42 (by decide) a w
    · exact rdiv 42 (by decide) a b ha hb h0 w
  go_enter Try.func64, Try.ntmps64
  go_wp2_with fail
  refine hC.mono ?_
  rintro r w1 ⟨rfl, rfl⟩
  go_wp2_with fail
  go_ret2
  exact ⟨rfl, Below.refl _ _⟩
set_option maxRecDepth 100000 in
theorem rdo43 (a b : Nat) (ha : a < 4294967296) (hb : b < 4294967296) (w : World) :
    Calls Try.prog 64 #[.int .i64 43, .int .u32 a, .int .u32 b] w fun r w' => r = .returned (.tuple #[.int .u32 (((doW 43 a b).getD 0 : Nat) : Int), .int .i64 0]) ∧ Below w.heap.size w w' := by
  have hC : Calls Try.prog 75 #[.int .i64 43, .int .u32 a, .int .u32 b] w fun r w' => r = .returned (.int .u32 ((doW 43 a b).getD 0 : Nat)) ∧ w = w' := by
    by_cases h0 : b = 0
    · subst h0; exact rdiv_zero 43 (by decide) a w
    · exact rdiv 43 (by decide) a b ha hb h0 w
  go_enter Try.func64, Try.ntmps64
  go_wp2_with fail
  refine hC.mono ?_
  rintro r w1 ⟨rfl, rfl⟩
  go_wp2_with fail
  go_ret2
  exact ⟨rfl, Below.refl _ _⟩
set_option maxRecDepth 100000 in
theorem rdo44 (a b : Nat) (ha : a < 4294967296) (hb : b < 4294967296) (w : World) :
    Calls Try.prog 64 #[.int .i64 44, .int .u32 a, .int .u32 b] w fun r w' => r = .returned (.tuple #[.int .u32 (((doW 44 a b).getD 0 : Nat) : Int), .int .i64 0]) ∧ Below w.heap.size w w' := by
  have hC : Calls Try.prog 75 #[.int .i64 44, .int .u32 a, .int .u32 b] w fun r w' => r = .returned (.int .u32 ((doW 44 a b).getD 0 : Nat)) ∧ w = w' := by
    by_cases h0 : b = 0
    · subst h0; exact rdiv_zero 44 (by decide) a w
    · exact rdiv 44 (by decide) a b ha hb h0 w
  go_enter Try.func64, Try.ntmps64
  go_wp2_with fail
  refine hC.mono ?_
  rintro r w1 ⟨rfl, rfl⟩
  go_wp2_with fail
  go_ret2
  exact ⟨rfl, Below.refl _ _⟩
theorem rdo_any (op : Nat) (ho : (doW op 0 0).isSome = true) (a b : Nat) (ha : a < 4294967296) (hb : b < 4294967296) (w : World) :
    Calls Try.prog 64 #[.int .i64 op, .int .u32 a, .int .u32 b] w fun r w' => r = .returned (.tuple #[.int .u32 (((doW op a b).getD 0 : Nat) : Int), .int .i64 0]) ∧ Below w.heap.size w w' := by
  rcases op_cases ho with rfl | rfl | rfl | rfl | rfl | rfl | rfl | rfl | rfl | rfl | rfl | rfl | rfl | rfl | rfl | rfl | rfl | rfl
  · exact rdo27 a b ha hb w
  · exact rdo28 a b ha hb w
  · exact rdo29 a b ha hb w
  · exact rdo30 a b ha hb w
  · exact rdo31 a b ha hb w
  · exact rdo32 a b ha hb w
  · exact rdo33 a b ha hb w
  · exact rdo34 a b ha hb w
  · exact rdo35 a b ha hb w
  · exact rdo36 a b ha hb w
  · exact rdo37 a b ha hb w
  · exact rdo38 a b ha hb w
  · exact rdo39 a b ha hb w
  · exact rdo40 a b ha hb w
  · exact rdo41 a b ha hb w
  · exact rdo42 a b ha hb w
  · exact rdo43 a b ha hb w
  · exact rdo44 a b ha hb w
set_option maxRecDepth 100000 in
theorem rdo_no (op : Int) (ho : opOk op = false) (x y : Nat) (hx : x < 4294967296) (hy : y < 4294967296) (w : World) :
    Calls Try.prog 64 #[.int .i64 op, .int .u32 x, .int .u32 y] w fun r w' => r = .returned (.tuple #[.int .u32 0, .int .i64 1]) ∧ w = w' := by
  have hh : ∀ n : Nat, (doW n 0 0).isSome = true → (op == (n : Int)) = false := fun n hn => by
    simp only [beq_eq_false_iff_ne]
    rintro rfl
    rw [opOk_cast hn] at ho
    cases ho
  have h27 : (op == 27) = false := hh 27 rfl
  have h28 : (op == 28) = false := hh 28 rfl
  have h29 : (op == 29) = false := hh 29 rfl
  have h30 : (op == 30) = false := hh 30 rfl
  have h31 : (op == 31) = false := hh 31 rfl
  have h32 : (op == 32) = false := hh 32 rfl
  have h33 : (op == 33) = false := hh 33 rfl
  have h34 : (op == 34) = false := hh 34 rfl
  have h35 : (op == 35) = false := hh 35 rfl
  have h36 : (op == 36) = false := hh 36 rfl
  have h37 : (op == 37) = false := hh 37 rfl
  have h38 : (op == 38) = false := hh 38 rfl
  have h39 : (op == 39) = false := hh 39 rfl
  have h40 : (op == 40) = false := hh 40 rfl
  have h41 : (op == 41) = false := hh 41 rfl
  have h42 : (op == 42) = false := hh 42 rfl
  have h43 : (op == 43) = false := hh 43 rfl
  have h44 : (op == 44) = false := hh 44 rfl
  clear hh ho
  go_enter Try.func64, Try.ntmps64
  go_wp2_with fail
  go_ret2
  exact ⟨rfl, rfl⟩
end Go.Proofs.Ytgnahjadjgjecaa
