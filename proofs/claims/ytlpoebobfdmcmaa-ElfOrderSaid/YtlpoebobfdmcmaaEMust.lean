/- must, told, num, same. -/
import Derived.Test.YtlpoebobfdmcmaaCells
import Derived.Test.YtlpoebobfdmcmaaChecked
import Derived.Test.YtlpoebobfdmcmaaRows
import Derived.Tactics
import Derived.Tactics2
import Derived.Defers
import Derived.Recover
import Derived.WalkLawsBesides
import Derived.WalkMore
import Derived.Outline
import Derived.Deep.Light
import Derived.Laws.BitsLemmas
set_option linter.unusedVariables false
set_option linter.unusedSimpArgs false
namespace Go.Proofs.Ytlpoebobfdmcmaa
open Go.RowKit

def oddOf (e : Int) : Value := .iface 60 (.agg #[.int .i64 e])
theorem must_ok (e : Int) (w : World) : Calls Try.prog 22 #[.bool true, .int .i64 e] w fun r w' => r = .returned (.tuple #[]) ∧ w' = w := by
  go_enter Try.func22, Try.ntmps22
  go_wp2
  go_end0
  exact ⟨rfl, rfl⟩
theorem must_no (e : Int) (w : World) : Calls Try.prog 22 #[.bool false, .int .i64 e] w fun r w' => r = .panicked [{ v := oddOf e, recovered := false }] ∧ w' = w := by
  go_enter Try.func22, Try.ntmps22
  go_wp2
  simp [bodyPost, oddOf]
theorem must_any (b : Bool) (e : Int) (w : World) : Calls Try.prog 22 #[.bool b, .int .i64 e] w fun r w' => w = w' ∧ ((b = true ∧ r = .returned (.tuple #[])) ∨ (b = false ∧ r = .panicked [{ v := oddOf e, recovered := false }])) := by
  cases b
  · exact (must_no e w).mono fun r w' ⟨h1, h2⟩ => ⟨h2.symm, Or.inr ⟨rfl, h1⟩⟩
  · exact (must_ok e w).mono fun r w' ⟨h1, h2⟩ => ⟨h2.symm, Or.inl ⟨rfl, h1⟩⟩
abbrev toL (s : ByteArray) : List UInt8 := s.data.toList
/-- the number of bytes, the lowest first. -/
def le : List UInt8 → Nat
  | [] => 0
  | b :: r => b.toNat + 256 * le r
def num (l : List UInt8) (at_ n : Nat) : Nat := le ((l.drop at_).take n)
theorem le_lt : ∀ l : List UInt8, le l < 256 ^ l.length
  | [] => by simp [le]
  | b :: r => by
    have := le_lt r
    have hb := b.toNat_lt
    rw [List.length_cons, Nat.pow_succ, le]
    omega
theorem num_lt (l : List UInt8) (a : Nat) {m : Nat} (hm : m ≤ 4) : num l a m < 256 ^ m := by
  refine Nat.lt_of_lt_of_le (le_lt _) (Nat.pow_le_pow_right (by decide) ?_)
  simp; omega
theorem num_lt4 (l : List UInt8) (a : Nat) {m : Nat} (hm : m ≤ 4) : num l a m < 4294967296 := by
  refine Nat.lt_of_lt_of_le (num_lt l a hm) (Nat.le_trans (Nat.pow_le_pow_right (by decide) hm) (by decide))
theorem num_succ {l : List UInt8} {a m : Nat} (h : a < l.length) : num l a (m + 1) = l[a].toNat + 256 * num l (a + 1) m := by
  unfold num
  rw [List.drop_eq_getElem_cons h, List.take_succ_cons, le]
theorem wraps_i64 (n : Int) (h₀ : 0 ≤ n) (h₁ : n < 2 ^ 63) : IntKind.i64.wrap n = n := by rw [IntKind.wrap_i64]; omega
theorem or_step (x y : Nat) (h3 : x < 16777216) (hb : y < 256) : bits BinOp.or IntKind.i64 (wrap64 ((x : Int) * 256)) (wrap64 (y : Int)) = ((y + 256 * x : Nat) : Int) := by
  have hx : wrap64 ((x : Int) * 256) = (x : Int) * 256 := by unfold wrap64; omega
  have hy : wrap64 (y : Int) = (y : Int) := by unfold wrap64; omega
  have h2 : (2 : Int) ^ 8 = 256 := rfl
  have h63 : (2 : Int) ^ 63 = 9223372036854775808 := rfl
  rw [hx, hy, bits_join .i64 63 (by decide) wraps_i64 8 _ _ (by omega) (by rw [h2]; omega) (by rw [h63]; omega) (by omega) (by rw [h2]; omega) (by rw [h63]; omega)]
  omega
theorem num_step (s : ByteArray) (a j n : Nat) (hj : j + 1 ≤ n) (hn : n ≤ 4) (hlt : a + j < s.size) :
    bits BinOp.or IntKind.i64 (wrap64 (((num (toL s) (a + (j + 1)) (n - (j + 1)) : Nat) : Int) * 256)) (wrap64 ((s[a + j].toNat : Nat) : Int)) = ((num (toL s) (a + j) (n - j) : Nat) : Int) := by
  have h3 : num (toL s) (a + (j + 1)) (n - (j + 1)) < 16777216 := Nat.lt_of_lt_of_le (num_lt _ _ (by omega)) (Nat.le_trans (Nat.pow_le_pow_right (by decide) (show n - (j + 1) ≤ 3 by omega)) (by decide))
  have hl : a + j < (toL s).length := by simpa [toL] using hlt
  have e1 := num_succ (l := toL s) (a := a + j) (m := n - (j + 1)) hl
  rw [show n - (j + 1) + 1 = n - j by omega, show a + j + 1 = a + (j + 1) by omega] at e1
  rw [or_step _ _ h3 (UInt8.toNat_lt _), e1]
  have e2 : (toL s)[a + j] = s[a + j] := by
    show s.data.toList[a + j] = s.data[a + j]
    simp
  rw [e2]

set_option maxRecDepth 100000 in
theorem num_ok (s : ByteArray) (at_ n : Nat) (w : World) (hn : n ≤ 4) (hs : s.size ≤ maxLen) (h : at_ + n ≤ s.size) : Calls Try.prog 26 #[.string s, .int .i64 at_, .int .i64 n] w fun r w' => r = .returned (.int .i64 (num (toL s) at_ n)) ∧ w' = w := by
  unfold maxLen at hs
  have h1 : decide ((at_ : Int) ≤ (s.size : Int) - n) = true := decide_eq_true (by omega)
  have h0 : decide (0 ≤ (at_ : Int)) = true := decide_eq_true (by omega)
  go_enter Try.func26, Try.ntmps26
  go_wp2_with (first | (go_at_call 22; refine (must_ok _ _).mono ?_; rintro r w1 ⟨rfl, rfl⟩) | fail)
  go_loopw [7, 8] (fun v i wr => ∃ k : Nat, k ≤ n ∧ i = .int .i64 ((k : Int) - 1) ∧ v = .int .i64 (num (toL s) (at_ + k) (n - k)) ∧ wr = w1) (fun _ i _ => (intOf i + 1).toNat)
  case atStart => exact ⟨n, Nat.le_refl _, rfl, by simp [num, le], rfl⟩
  case round =>
    obtain ⟨k, hk, hi0, rfl, rfl⟩ := hrel
    rcases Nat.eq_zero_or_pos k with hk0 | hk0
    · subst hk0
      rw [show ((0 : Nat) : Int) - 1 = -1 from rfl] at hi0
      subst hi0
      go_wp2
      go_ret
      exact ⟨rfl, rfl⟩
    · obtain ⟨j, rfl⟩ : ∃ j, k = j + 1 := ⟨k - 1, by omega⟩
      rw [show ((j + 1 : Nat) : Int) - 1 = (j : Int) by omega] at hi0
      subst hi0
      have hlt : at_ + j < s.size := by omega
      go_wp2
      exact ⟨⟨j, by omega, rfl, by rw [num_step s at_ j n hk hn hlt], trivial⟩, by simp [intOf] <;> omega⟩
end Go.Proofs.Ytlpoebobfdmcmaa
