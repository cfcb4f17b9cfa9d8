/- Numbers with a mask. -/
import Derived.Test.YtgnahjadjgjecaaGreatCells
namespace Go.Proofs.YtgnahjadjgjecaaGreat
open Go.RowKit
theorem i64_mask (a : Int) (k : Nat) (hk : k < 63) : bits BinOp.and IntKind.i64 a (((2 ^ k - 1 : Nat) : Int)) = a % ((2 ^ k : Nat) : Int) := by
  have hp : (2 : Nat) ^ k < 2 ^ 63 := Nat.pow_lt_pow_right (by omega) hk
  have hp0 : 0 < (2 : Nat) ^ k := Nat.two_pow_pos k
  unfold bits
  simp only []
  rw [show IntKind.i64.bits = 64 from rfl, BitVec.toNat_and, BitVec.toNat_ofInt, BitVec.ofInt_natCast, BitVec.toNat_ofNat, Nat.mod_eq_of_lt (by omega : 2 ^ k - 1 < 2 ^ 64), Nat.and_two_pow_sub_one_eq_mod]
  have hd : (2 : Nat) ^ 64 = 2 ^ k * 2 ^ (64 - k) := by rw [← Nat.pow_add]; congr 1; omega
  have e : ((a % ((2 ^ 64 : Nat) : Int)).toNat % 2 ^ k : Nat) = (a % ((2 ^ k : Nat) : Int)).toNat := by
    have h0 : 0 ≤ a % ((2 ^ 64 : Nat) : Int) := Int.emod_nonneg _ (by decide)
    have h1 : 0 ≤ a % ((2 ^ k : Nat) : Int) := Int.emod_nonneg _ (by omega)
    have : (((a % ((2 ^ 64 : Nat) : Int)).toNat % 2 ^ k : Nat) : Int) = a % ((2 ^ k : Nat) : Int) := by
      rw [Int.natCast_emod, Int.toNat_of_nonneg h0, Int.emod_emod_of_dvd]
      rw [hd]
      exact ⟨((2 ^ (64 - k) : Nat) : Int), by simp⟩
    omega
  rw [e, IntKind.wrap_i64]
  have h1 : 0 ≤ a % ((2 ^ k : Nat) : Int) := Int.emod_nonneg _ (by omega)
  have h2 : a % ((2 ^ k : Nat) : Int) < ((2 ^ k : Nat) : Int) := Int.emod_lt_of_pos _ (by omega)
  generalize a % ((2 ^ k : Nat) : Int) = x at h1 h2
  omega
theorem i64_ffff (a : Int) : bits BinOp.and IntKind.i64 a 65535 = a % 65536 := i64_mask a 16 (by omega)
theorem i64_ffffff (a : Int) : bits BinOp.and IntKind.i64 a 16777215 = a % 16777216 := i64_mask a 24 (by omega)
end Go.Proofs.YtgnahjadjgjecaaGreat
