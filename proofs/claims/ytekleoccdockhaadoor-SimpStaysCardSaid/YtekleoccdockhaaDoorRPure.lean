/- The reference's words: bit by bit, plain laws. -/
import Derived.Test.YtekleoccdockhaaDoorTPure
set_option linter.unusedVariables false
set_option linter.unusedSimpArgs false
namespace Go.Proofs.YtekleoccdockhaaDoor

def ofB (l : List Nat) : Nat := l.foldr (fun b w => w * 2 + b) 0
def bitN (w k : Nat) : Nat := w / 2 ^ k % 2
theorem bitN_le (w k : Nat) : bitN w k ≤ 1 := by unfold bitN; omega
theorem bitN_test (w k : Nat) : (bitN w k = 1) ↔ w.testBit k = true := by
  rw [Nat.testBit_eq_decide_div_mod_eq, decide_eq_true_eq]
  rfl
theorem ofB_cons (b : Nat) (l : List Nat) : ofB (b :: l) = ofB l * 2 + b := rfl
theorem ofB_lt : ∀ (l : List Nat), (∀ x ∈ l, x ≤ 1) → ofB l < 2 ^ l.length
  | [], _ => by simp [ofB]
  | b :: l, h => by
    have h1 := ofB_lt l fun x hx => h x (by simp [hx])
    have h2 := h b (by simp)
    rw [ofB_cons, List.length_cons, Nat.pow_succ]
    omega
theorem ofB_test : ∀ (l : List Nat), (∀ x ∈ l, x ≤ 1) → ∀ i, (ofB l).testBit i = decide (l.getD i 0 = 1)
  | [], _, i => by simp [ofB]
  | b :: l, h, i => by
    have h1 := ofB_test l fun x hx => h x (by simp [hx])
    have h2 := h b (by simp)
    rw [ofB_cons]
    cases i with
    | zero =>
      rw [Nat.testBit_zero]
      simp only [List.getD_cons_zero]
      have : (ofB l * 2 + b) % 2 = b := by omega
      rw [this]
    | succ i =>
      rw [Nat.testBit_succ, show (ofB l * 2 + b) / 2 = ofB l by omega, h1 i]
      simp
/-- A word told by its bits. -/
theorem ofB_word {x : Nat} (hx : x < 4294967296) (f : Nat → Nat) (hf : ∀ i, f i ≤ 1) (h : ∀ i, i < 32 → (f i = 1 ↔ x.testBit i = true)) : ofB ((List.range 32).map f) = x := by
  refine Nat.eq_of_testBit_eq fun i => ?_
  rw [ofB_test _ (by intro y hy; obtain ⟨k, _, rfl⟩ := List.mem_map.1 hy; exact hf k)]
  by_cases hi : i < 32
  · have e : ((List.range 32).map f).getD i 0 = f i := by
      rw [List.getD_eq_getElem?_getD, List.getElem?_map, List.getElem?_range hi]
      rfl
    rw [e, Bool.eq_iff_iff, decide_eq_true_eq]
    exact h i hi
  · have e : ((List.range 32).map f).getD i 0 = 0 := by
      rw [List.getD_eq_getElem?_getD, List.getElem?_eq_none (by simp; omega)]
      rfl
    rw [e, Nat.testBit_lt_two_pow (Nat.lt_of_lt_of_le hx (by have := Nat.pow_le_pow_right (n := 2) (by omega) (by omega : 32 ≤ i); omega))]
    rfl
def shlF (a s i : Nat) : Nat := if i < s then 0 else bitN a (i - s)
def shrF (a s top i : Nat) : Nat := if i + s < 32 then bitN a (i + s) else top
theorem ofB_shl {a s : Nat} (ha : a < 4294967296) (hs : s < 32) : ofB ((List.range 32).map (shlF a s)) = a * 2 ^ s % 4294967296 := by
  refine ofB_word (mod_lt32 _) _ (fun i => ?_) fun i hi => ?_
  · unfold shlF
    have := bitN_le a (i - s)
    split <;> omega
  · rw [show (4294967296 : Nat) = 2 ^ 32 from rfl, Nat.testBit_mod_two_pow, Nat.testBit_mul_two_pow]
    unfold shlF
    by_cases h : i < s
    · rw [if_pos h]
      have h1 : ¬ s ≤ i := by omega
      simp [h1]
    · rw [if_neg h, bitN_test]
      have h1 : s ≤ i := by omega
      simp [h1, hi]
theorem ofB_shr {a s : Nat} (ha : a < 4294967296) (hs : s < 32) : ofB ((List.range 32).map (shrF a s 0)) = a / 2 ^ s := by
  refine ofB_word (div_lt32 ha _) _ (fun i => ?_) fun i hi => ?_
  · unfold shrF
    have := bitN_le a (i + s)
    split <;> omega
  · rw [Nat.testBit_div_two_pow]
    unfold shrF
    by_cases h : i + s < 32
    · rw [if_pos h, bitN_test]
    · rw [if_neg h, Nat.testBit_lt_two_pow (Nat.lt_of_lt_of_le ha (by have := Nat.pow_le_pow_right (n := 2) (by omega) (by omega : 32 ≤ i + s); omega))]
      simp
theorem sar_eq {a s : Nat} (ha : a < 4294967296) (hs : s < 32) (hn : 2147483648 ≤ a) : us (sg a / 2 ^ s) = 2 ^ (32 - s) * (2 ^ s - 1) + a / 2 ^ s := by
  have hp : (2 : Nat) ^ 32 = 2 ^ (32 - s) * 2 ^ s := by rw [← Nat.pow_add]; congr 1; omega
  have hp0 : 0 < 2 ^ s := Nat.two_pow_pos s
  have hq : sg a = (a : Int) - 4294967296 := by unfold sg; rw [if_neg (by omega)]
  have hd : a / 2 ^ s < 2 ^ (32 - s) := by
    rw [Nat.div_lt_iff_lt_mul hp0, ← hp]
    exact ha
  have e : sg a / 2 ^ s = ((a / 2 ^ s : Nat) : Int) - ((2 ^ (32 - s) : Nat) : Int) := by
    have h1 : sg a = (a : Int) + (-((2 ^ (32 - s) : Nat) : Int)) * ((2 ^ s : Nat) : Int) := by
      rw [hq]
      have : ((2 ^ (32 - s) : Nat) : Int) * ((2 ^ s : Nat) : Int) = 4294967296 := by
        rw [← Int.natCast_mul, ← hp]; rfl
      rw [Int.neg_mul, this]
      omega
    have h2 : (2 : Int) ^ s = ((2 ^ s : Nat) : Int) := by simp
    rw [h1, h2, Int.add_mul_ediv_right _ _ (by omega), Int.natCast_ediv]
    omega
  have hm : 2 ^ (32 - s) * (2 ^ s - 1) + 2 ^ (32 - s) = 4294967296 := by
    rw [Nat.mul_sub, Nat.mul_one, ← hp]
    have : 2 ^ (32 - s) ≤ 2 ^ 32 := Nat.pow_le_pow_right (by omega) (by omega)
    omega
  have hlow : 0 < 2 ^ (32 - s) := Nat.two_pow_pos _
  unfold us
  rw [e]
  generalize 2 ^ (32 - s) * (2 ^ s - 1) = M at hm
  generalize 2 ^ (32 - s) = q at *
  generalize a / 2 ^ s = d at *
  omega
theorem ofB_sar {a s : Nat} (ha : a < 4294967296) (hs : s < 32) : ofB ((List.range 32).map (shrF a s (a / 2147483648))) = us (sg a / 2 ^ s) := by
  have ht : a / 2147483648 ≤ 1 := by omega
  by_cases hn : 2147483648 ≤ a
  · have h1 : a / 2147483648 = 1 := by omega
    have hd : a / 2 ^ s < 2 ^ (32 - s) := by
      rw [Nat.div_lt_iff_lt_mul (Nat.two_pow_pos s), ← Nat.pow_add, show 32 - s + s = 32 by omega]
      exact ha
    refine ofB_word (us_lt _) _ (fun i => ?_) fun i hi => ?_
    · unfold shrF
      have := bitN_le a (i + s)
      split <;> omega
    · rw [sar_eq ha hs hn, Nat.testBit_two_pow_mul_add _ hd]
      unfold shrF
      by_cases h : i + s < 32
      · rw [if_pos h, if_pos (by omega), Nat.testBit_div_two_pow, bitN_test]
      · rw [if_neg h, if_neg (by omega), h1, Nat.testBit_two_pow_sub_one]
        simp
        omega
  · have h1 : a / 2147483648 = 0 := by omega
    rw [h1, ofB_shr ha hs]
    have : sg a = (a : Int) := by unfold sg; rw [if_pos (by omega)]
    rw [this]
    have hdl := div_lt32 ha (2 ^ s)
    have h2 : (a : Int) / 2 ^ s = ((a / 2 ^ s : Nat) : Int) := by simp
    rw [h2]
    generalize a / 2 ^ s = q at hdl
    unfold us
    omega
theorem ofB_and {a b : Nat} (ha : a < 4294967296) (hb : b < 4294967296) : ofB ((List.range 32).map fun i => bitN a i * bitN b i) = a &&& b := by
  refine ofB_word (Nat.lt_of_le_of_lt Nat.and_le_left ha) _ (fun i => ?_) fun i hi => ?_
  · have h1 := bitN_le a i
    have h2 := bitN_le b i
    have := Nat.mul_le_mul h1 h2
    omega
  · have h1 := bitN_le a i
    have h2 := bitN_le b i
    rw [Nat.testBit_and, Bool.and_eq_true, ← bitN_test, ← bitN_test]
    have h3 : bitN a i = 0 ∨ bitN a i = 1 := by omega
    have h4 : bitN b i = 0 ∨ bitN b i = 1 := by omega
    rcases h3 with h3 | h3 <;> rcases h4 with h4 | h4 <;> rw [h3, h4] <;> simp
theorem ofB_or {a b : Nat} (ha : a < 4294967296) (hb : b < 4294967296) : ofB ((List.range 32).map fun i => bitN a i + bitN b i - bitN a i * bitN b i) = a ||| b := by
  refine ofB_word (or_lt32 ha hb) _ (fun i => ?_) fun i hi => ?_
  · have h3 : bitN a i = 0 ∨ bitN a i = 1 := by have := bitN_le a i; omega
    have h4 : bitN b i = 0 ∨ bitN b i = 1 := by have := bitN_le b i; omega
    rcases h3 with h3 | h3 <;> rcases h4 with h4 | h4 <;> rw [h3, h4] <;> simp
  · rw [Nat.testBit_or, Bool.or_eq_true, ← bitN_test, ← bitN_test]
    have h3 : bitN a i = 0 ∨ bitN a i = 1 := by have := bitN_le a i; omega
    have h4 : bitN b i = 0 ∨ bitN b i = 1 := by have := bitN_le b i; omega
    rcases h3 with h3 | h3 <;> rcases h4 with h4 | h4 <;> rw [h3, h4] <;> simp
theorem ofB_xor {a b : Nat} (ha : a < 4294967296) (hb : b < 4294967296) : ofB ((List.range 32).map fun i => (bitN a i + bitN b i) % 2) = a ^^^ b := by
  refine ofB_word (xor_lt32 ha hb) _ (fun i => by omega) fun i hi => ?_
  rw [Nat.testBit_xor]
  have h3 : bitN a i = 0 ∨ bitN a i = 1 := by have := bitN_le a i; omega
  have h4 : bitN b i = 0 ∨ bitN b i = 1 := by have := bitN_le b i; omega
  have e1 := bitN_test a i
  have e2 := bitN_test b i
  rcases h3 with h3 | h3 <;> rcases h4 with h4 | h4 <;> rw [h3] at e1 ⊢ <;> rw [h4] at e2 ⊢ <;> cases h5 : a.testBit i <;> cases h6 : b.testBit i <;> simp [h5, h6] at e1 e2 ⊢
/-- The higher word of a product, by halves. -/
theorem halves_eq {a b : Nat} (ha : a < 4294967296) (hb : b < 4294967296) :
    (a / 65536) * (b / 65536) + (a / 65536) * (b % 65536) / 65536 + (a % 65536) * (b / 65536) / 65536 + ((a % 65536) * (b % 65536) / 65536 + (a / 65536) * (b % 65536) % 65536 + (a % 65536) * (b / 65536) % 65536) / 65536 = a * b / 4294967296 := by
  have e : a * b = (a / 65536) * (b / 65536) * 4294967296 + ((a / 65536) * (b % 65536) + (a % 65536) * (b / 65536)) * 65536 + (a % 65536) * (b % 65536) := by
    have h1 : a = a / 65536 * 65536 + a % 65536 := by omega
    have h2 : b = b / 65536 * 65536 + b % 65536 := by omega
    generalize a / 65536 = x at *
    generalize a % 65536 = y at *
    generalize b / 65536 = u at *
    generalize b % 65536 = v at *
    subst h1 h2
    have : (x * 65536 + y) * (u * 65536 + v) = x * u * (65536 * 65536) + (x * v + y * u) * 65536 + y * v := by
      simp only [Nat.add_mul, Nat.mul_add]
      have t1 : x * 65536 * (u * 65536) = x * u * (65536 * 65536) := by simp only [Nat.mul_assoc, Nat.mul_left_comm, Nat.mul_comm]
      have t2 : x * 65536 * v = x * v * 65536 := by simp only [Nat.mul_assoc, Nat.mul_left_comm, Nat.mul_comm]
      have t3 : y * (u * 65536) = y * u * 65536 := by simp only [Nat.mul_assoc]
      omega
    rw [this]
  rw [e]
  generalize (a / 65536) * (b / 65536) = S
  generalize (a / 65536) * (b % 65536) = Q
  generalize (a % 65536) * (b / 65536) = R
  generalize (a % 65536) * (b % 65536) = P
  omega
end Go.Proofs.YtekleoccdockhaaDoor
