/- What is written is parsed as it was: plain. -/
import Derived.Test.YtlpoebobfdmcmaaEParseA
import Derived.Test.YtlpoebobfdmcmaaEWrite2
set_option linter.unusedVariables false
set_option linter.unusedSimpArgs false
namespace Go.Proofs.Ytlpoebobfdmcmaa

theorem le_snoc (l : List UInt8) (b : UInt8) : le (l ++ [b]) = le l + 256 ^ l.length * b.toNat := by
  induction l with
  | nil => simp [le]
  | cons x r ih =>
    rw [List.cons_append, le, ih, le, List.length_cons, Nat.pow_succ, Nat.mul_add]
    have : 256 * (256 ^ r.length * b.toNat) = 256 ^ r.length * 256 * b.toNat := by rw [← Nat.mul_assoc, Nat.mul_comm 256]
    omega
theorem le_leB (x n : Nat) : le (leB x n) = x % 256 ^ n := by
  induction n with
  | zero => simp [leB, le, Nat.mod_one]
  | succ n ih =>
    have h2 : 2 ^ (8 * n) = 256 ^ n := by rw [Nat.pow_mul]
    rw [leB_succ, le_snoc, ih, leB_len, Nat.pow_succ, Nat.mod_mul, h2]
    congr 2
theorem num_app_left (l m : List UInt8) (a n : Nat) (h : a + n ≤ l.length) : num (l ++ m) a n = num l a n := by
  unfold num
  congr 1
  rw [List.drop_append_of_le_length (by omega), List.take_append_of_le_length (by simp; omega)]
theorem num_app_right (l m : List UInt8) (a n : Nat) : num (l ++ m) (l.length + a) n = num m a n := by
  unfold num
  rw [List.drop_append, List.drop_eq_nil_of_le (by omega)]
  simp
theorem num_leB (x n : Nat) (l m : List UInt8) (h : x < 256 ^ n) : num (l ++ (leB x n ++ m)) l.length n = x := by
  have := num_app_right l (leB x n ++ m) 0 n
  rw [Nat.add_zero] at this
  rw [this, num_app_left _ _ _ _ (by rw [leB_len]; omega)]
  unfold num
  rw [List.drop_zero, List.take_of_length_le (by rw [leB_len]; omega), le_leB, Nat.mod_eq_of_lt h]
theorem putAll_app (xs ys : List Nat) (n : Nat) : putAll (xs ++ ys) n = putAll xs n ++ putAll ys n := by simp [putAll]
theorem num_put {qs : List Nat} {j x n : Nat} (h : qs[j]? = some x) (hx : x < 256 ^ n) (l m : List UInt8) : num (l ++ (putAll qs n ++ m)) (l.length + j * n) n = x := by
  obtain ⟨hj, rfl⟩ := List.getElem?_eq_some_iff.1 h
  have e : qs = qs.take j ++ (qs[j] :: qs.drop (j + 1)) := by rw [← List.drop_eq_getElem_cons hj, List.take_append_drop]
  have e2 : putAll qs n = putAll (qs.take j) n ++ (leB qs[j] n ++ putAll (qs.drop (j + 1)) n) := by
    conv => lhs; rw [e]
    rw [putAll_app]
    congr 1
  have e3 : l.length + j * n = (l ++ putAll (qs.take j) n).length := by rw [List.length_append, putAll_len, List.length_take]; congr 2; omega
  rw [e2, e3, List.append_assoc, ← List.append_assoc l, List.append_assoc (leB _ _)]
  exact num_leB _ _ _ _ hx
/-- A head whose numbers are right. -/
structure HeadOk (H : List UInt8) (en fl n : Nat) : Prop where
  len : H.length = 52
  mag : H.take 7 = magicL
  p16 : num H 16 2 = 2
  p18 : num H 18 2 = 243
  p20 : num H 20 4 = 1
  p24 : num H 24 4 = en
  p28 : num H 28 4 = 52
  p36 : num H 36 4 = fl
  p40 : num H 40 2 = 52
  p42 : num H 42 2 = 32
  p44 : num H 44 2 = n
theorem head_ok (en fl n : Nat) (hen : en < 4294967296) (hfl : fl < 4294967296) (hn : n < 65536) : HeadOk (headB en fl n) en fl n := by
  have L16 : (magicL ++ List.replicate 9 0).length = 16 := by simp [magicL]
  have L20 : (magicL ++ List.replicate 9 0 ++ leB 2 2 ++ leB 243 2).length = 20 := by simp [magicL, leB_len]
  have L40 : (magicL ++ List.replicate 9 0 ++ leB 2 2 ++ leB 243 2 ++ putAll [1, en, 52, 0, fl] 4).length = 40 := by simp [magicL, leB_len, putAll_len]
  have h20 : ∀ j x, [1, en, 52, 0, fl][j]? = some x → x < 4294967296 → num (headB en fl n) (20 + j * 4) 4 = x := fun j x hj hx => by
    have := num_put hj (n := 4) (by simpa using hx) (magicL ++ List.replicate 9 0 ++ leB 2 2 ++ leB 243 2) (putAll [52, 32, n, 0, 0, 0] 2)
    rw [L20] at this
    rw [← this, headB, List.append_assoc _ (putAll _ 4)]
  have h40 : ∀ j x, [52, 32, n, 0, 0, 0][j]? = some x → x < 65536 → num (headB en fl n) (40 + j * 2) 2 = x := fun j x hj hx => by
    have := num_put hj (n := 2) (by simpa using hx) (magicL ++ List.replicate 9 0 ++ leB 2 2 ++ leB 243 2 ++ putAll [1, en, 52, 0, fl] 4) []
    rw [L40, List.append_nil] at this
    rw [← this, headB]
  have hp : ∀ j x, [2, 243][j]? = some x → x < 65536 → num (headB en fl n) (16 + j * 2) 2 = x := fun j x hj hx => by
    have := num_put hj (n := 2) (by simpa using hx) (magicL ++ List.replicate 9 0) (putAll [1, en, 52, 0, fl] 4 ++ putAll [52, 32, n, 0, 0, 0] 2)
    rw [L16] at this
    rw [← this, headB]
    simp [putAll]
  refine ⟨headB_len _ _ _, ?_, hp 0 2 rfl (by decide), hp 1 243 rfl (by decide), h20 0 1 rfl (by decide), h20 1 en rfl hen, h20 2 52 rfl (by decide), h20 4 fl rfl hfl, h40 0 52 rfl (by decide), h40 1 32 rfl (by decide), h40 2 n rfl hn⟩
  rw [headB]
  simp [magicL]
theorem num_set (l : List UInt8) (k a n : Nat) (c : UInt8) (h : k < a ∨ a + n ≤ k) : num (l.set k c) a n = num l a n := by
  unfold num
  congr 1
  rcases h with h | h
  · rw [List.drop_set_of_lt h]
  · apply List.ext_getElem?
    intro i
    simp only [List.getElem?_take, List.getElem?_drop, List.getElem?_set]
    split
    · rw [if_neg (by omega)]
    · rfl
theorem HeadOk.set {H : List UInt8} {en fl n : Nat} (h : HeadOk H en fl n) (k : Nat) (c : UInt8) (hk : (7 ≤ k ∧ k < 16) ∨ (32 ≤ k ∧ k < 36) ∨ (46 ≤ k ∧ k < 52)) : HeadOk (H.set k c) en fl n := by
  refine ⟨by simp [h.len], ?_, ?_, ?_, ?_, ?_, ?_, ?_, ?_, ?_, ?_⟩
  · rw [← h.mag]
    apply List.ext_getElem?
    intro i
    simp only [List.getElem?_take, List.getElem?_set]
    split
    · rw [if_neg (by omega)]
    · rfl
  all_goals rw [num_set _ _ _ _ _ (by omega)]
  · exact h.p16
  · exact h.p18
  · exact h.p20
  · exact h.p24
  · exact h.p28
  · exact h.p36
  · exact h.p40
  · exact h.p42
  · exact h.p44
end Go.Proofs.Ytlpoebobfdmcmaa
