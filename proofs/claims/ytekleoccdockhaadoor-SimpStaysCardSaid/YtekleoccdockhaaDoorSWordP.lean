/- simp: words that are powers of two. -/
import Derived.Test.YtekleoccdockhaaDoorSBase
set_option linter.unusedVariables false
set_option linter.unusedSimpArgs false
namespace Go.Proofs.YtekleoccdockhaaDoor
open Go.RowKit

theorem pow_and {v : Nat} (h : 1 < v) : (v &&& (v - 1) = 0) ↔ isPow v = true := by
  have hl := Nat.log2_self_le (n := v) (by omega)
  have hu := Nat.lt_log2_self (n := v)
  unfold isPow lg
  simp only [decide_eq_true_eq]
  generalize hj : v.log2 = j at hl hu ⊢
  constructor
  · intro h0
    refine ⟨?_, h⟩
    refine Classical.byContradiction fun hne => ?_
    have h1 : 2 ^ j ≤ v - 1 := by omega
    have t1 : v.testBit j = true := by
      rw [Nat.testBit_eq_decide_div_mod_eq]
      have : v / 2 ^ j = 1 := Nat.div_eq_of_lt_le (by omega) (by rw [Nat.pow_succ] at hu; omega)
      rw [this]; rfl
    have t2 : (v - 1).testBit j = true := by
      rw [Nat.testBit_eq_decide_div_mod_eq]
      have : (v - 1) / 2 ^ j = 1 := Nat.div_eq_of_lt_le (by omega) (by rw [Nat.pow_succ] at hu; omega)
      rw [this]; rfl
    have : (v &&& (v - 1)).testBit j = true := by rw [Nat.testBit_and, t1, t2]; rfl
    rw [h0, Nat.zero_testBit] at this
    cases this
  · rintro ⟨e, _⟩
    rw [e, Nat.and_two_pow_sub_one_eq_mod]
    exact Nat.mod_self _
theorem and_pred {v : Nat} (hv : v < 4294967296) (h : 1 < v) : (bits BinOp.and IntKind.u32 (v : Int) ((v : Int) - 1) == 0) = isPow v := by
  rw [show (v : Int) - 1 = ((v - 1 : Nat) : Int) by omega, u32_and v (v - 1) hv (by omega), Bool.eq_iff_iff, ← pow_and h]
  simp
theorem and_one_pred : bits BinOp.and IntKind.u32 1 0 = 0 := u32_and 1 0 (by omega) (by omega)
theorem and_ones_pred : bits BinOp.and IntKind.u32 4294967295 4294967294 = 4294967294 := u32_and 4294967295 4294967294 (by omega) (by omega)
theorem ctz_two : ∀ j, j < 32 → Lib.ctz 32 (2 ^ j) = j := by decide +kernel
theorem ctz_pow {v : Nat} (hv : v < 4294967296) (h : isPow v = true) : Lib.ctz 32 v = lg v := by
  unfold isPow at h
  simp only [decide_eq_true_eq] at h
  have hl := lg_lt hv h.2
  generalize lg v = j at h hl ⊢
  rw [h.1]
  exact ctz_two j hl.2
end Go.Proofs.YtekleoccdockhaaDoor
