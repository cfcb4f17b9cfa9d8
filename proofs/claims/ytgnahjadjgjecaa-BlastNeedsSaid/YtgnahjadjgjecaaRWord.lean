/- The reference's words: bit by bit, plain laws. -/
/- The reference's words, walked. -/
import Derived.Test.YtgnahjadjgjecaaTPure
import Derived.Test.YtgnahjadjgjecaaTWord
import Derived.LoopTactic
set_option linter.unusedVariables false
set_option linter.unusedSimpArgs false
namespace Go.Proofs.Ytgnahjadjgjecaa

def ofB (l : List Nat) : Nat := l.foldr (fun b w => w * 2 + b) 0
def bitN (w k : Nat) : Nat := w / 2 ^ k % 2
theorem bitN_le (w k : Nat) : bitN w k ≤ 1 := by unfold bitN; omega
theorem bitN_test (w k : Nat) : (bitN w k = 1) ↔ w.testBit k = true := by
  rw [Nat.testBit_eq_decide_div_mod_eq, decide_eq_true_eq]
  rfl
theorem ofB_cons (b : Nat) (l : List Nat) : ofB (b :: l) = ofB l * 2 + b := rfl
theorem ofB_lt : ∀ (l : List Nat), (∀ x ∈ l, x ≤ 1) → ofB l < 2 ^ l.length
  | [], _ => by simp [ofB]
  | b :: l, h => by
    have h1 := ofB_lt l fun x hx => h x (by simp [hx])
    have h2 := h b (by simp)
    rw [ofB_cons, List.length_cons, Nat.pow_succ]
    omega
theorem ofB_test : ∀ (l : List Nat), (∀ x ∈ l, x ≤ 1) → ∀ i, (ofB l).testBit i = decide (l.getD i 0 = 1)
  | [], _, i => by simp [ofB]
  | b :: l, h, i => by
    have h1 := ofB_test l fun x hx => h x (by simp [hx])
    have h2 := h b (by simp)
    rw [ofB_cons]
    cases i with
    | zero =>
      rw [Nat.testBit_zero]
      simp only [List.getD_cons_zero]
      have : (ofB l * 2 + b) % 2 = b := by omega
      rw [this]
    | succ i =>
      rw [Nat.testBit_succ, show (ofB l * 2 + b) / 2 = ofB l by omega, h1 i]
      simp
/-- A word told by its bits. -/
theorem ofB_word {x : Nat} (hx : x < 4294967296) (f : Nat → Nat) (hf : ∀ i, f i ≤ 1) (h : ∀ i, i < 32 → (f i = 1 ↔ x.testBit i = true)) : ofB ((List.range 32).map f) = x := by
  refine Nat.eq_of_testBit_eq fun i => ?_
  rw [ofB_test _ (by intro y hy; obtain ⟨k, _, rfl⟩ := List.mem_map.1 hy; exact hf k)]
  by_cases hi : i < 32
  · have e : ((List.range 32).map f).getD i 0 = f i := by
      rw [List.getD_eq_getElem?_getD, List.getElem?_map, List.getElem?_range hi]
      rfl
    rw [e, Bool.eq_iff_iff, decide_eq_true_eq]
    exact h i hi
  · have e : ((List.range 32).map f).getD i 0 = 0 := by
      rw [List.getD_eq_getElem?_getD, List.getElem?_eq_none (by simp; omega)]
      rfl
    rw [e, Nat.testBit_lt_two_pow (Nat.lt_of_lt_of_le hx (by have := Nat.pow_le_pow_right (n := 2) (by omega) (by omega : 32 ≤ i); omega))]
    rfl
def shlF (a s i : Nat) : Nat := if i < s then 0 else bitN a (i - s)
def shrF (a s top i : Nat) : Nat := if i + s < 32 then bitN a (i + s) else top
theorem ofB_shl {a s : Nat} (ha : a < 4294967296) (hs : s < 32) : ofB ((List.range 32).map (shlF a s)) = a * 2 ^ s % 4294967296 := by
  refine ofB_word (mod_lt32 _) _ (fun i => ?_) fun i hi => ?_
  · unfold shlF
    have := bitN_le a (i - s)
    split <;> omega
  · rw [show (4294967296 : Nat) = 2 ^ 32 from rfl, Nat.testBit_mod_two_pow, Nat.testBit_mul_two_pow]
    unfold shlF
    by_cases h : i < s
    · rw [if_pos h]
      have h1 : ¬ s ≤ i := by omega
      simp [h1]
    · rw [if_neg h, bitN_test]
      have h1 : s ≤ i := by omega
      simp [h1, hi]
theorem ofB_shr {a s : Nat} (ha : a < 4294967296) (hs : s < 32) : ofB ((List.range 32).map (shrF a s 0)) = a / 2 ^ s := by
  refine ofB_word (div_lt32 ha _) _ (fun i => ?_) fun i hi => ?_
  · unfold shrF
    have := bitN_le a (i + s)
    split <;> omega
  · rw [Nat.testBit_div_two_pow]
    unfold shrF
    by_cases h : i + s < 32
    · rw [if_pos h, bitN_test]
    · rw [if_neg h, Nat.testBit_lt_two_pow (Nat.lt_of_lt_of_le ha (by have := Nat.pow_le_pow_right (n := 2) (by omega) (by omega : 32 ≤ i + s); omega))]
      simp
theorem sar_eq {a s : Nat} (ha : a < 4294967296) (hs : s < 32) (hn : 2147483648 ≤ a) : us (sg a / 2 ^ s) = 2 ^ (32 - s) * (2 ^ s - 1) + a / 2 ^ s := by
  have hp : (2 : Nat) ^ 32 = 2 ^ (32 - s) * 2 ^ s := by rw [← Nat.pow_add]; congr 1; omega
  have hp0 : 0 < 2 ^ s := Nat.two_pow_pos s
  have hq : sg a = (a : Int) - 4294967296 := by unfold sg; rw [if_neg (by omega)]
  have hd : a / 2 ^ s < 2 ^ (32 - s) := by
    rw [Nat.div_lt_iff_lt_mul hp0, ← hp]
    exact ha
  have e : sg a / 2 ^ s = ((a / 2 ^ s : Nat) : Int) - ((2 ^ (32 - s) : Nat) : Int) := by
    have h1 : sg a = (a : Int) + (-((2 ^ (32 - s) : Nat) : Int)) * ((2 ^ s : Nat) : Int) := by
      rw [hq]
      have : ((2 ^ (32 - s) : Nat) : Int) * ((2 ^ s : Nat) : Int) = 4294967296 := by
        rw [← Int.natCast_mul, ← hp]; rfl
      rw [Int.neg_mul, this]
      omega
    have h2 : (2 : Int) ^ s = ((2 ^ s : Nat) : Int) := by simp
    rw [h1, h2, Int.add_mul_ediv_right _ _ (by omega), Int.natCast_ediv]
    omega
  have hm : 2 ^ (32 - s) * (2 ^ s - 1) + 2 ^ (32 - s) = 4294967296 := by
    rw [Nat.mul_sub, Nat.mul_one, ← hp]
    have : 2 ^ (32 - s) ≤ 2 ^ 32 := Nat.pow_le_pow_right (by omega) (by omega)
    omega
  have hlow : 0 < 2 ^ (32 - s) := Nat.two_pow_pos _
  unfold us
  rw [e]
  generalize 2 ^ (32 - s) * (2 ^ s - 1) = M at hm
  generalize 2 ^ (32 - s) = q at *
  generalize a / 2 ^ s = d at *
  omega
theorem ofB_sar {a s : Nat} (ha : a < 4294967296) (hs : s < 32) : ofB ((List.range 32).map (shrF a s (a / 2147483648))) = us (sg a / 2 ^ s) := by
  have ht : a / 2147483648 ≤ 1 := by omega
  by_cases hn : 2147483648 ≤ a
  · have h1 : a / 2147483648 = 1 := by omega
    have hd : a / 2 ^ s < 2 ^ (32 - s) := by
      rw [Nat.div_lt_iff_lt_mul (Nat.two_pow_pos s), ← Nat.pow_add, show 32 - s + s = 32 by omega]
      exact ha
    refine ofB_word (us_lt _) _ (fun i => ?_) fun i hi => ?_
    · unfold shrF
      have := bitN_le a (i + s)
      split <;> omega
    · rw [sar_eq ha hs hn, Nat.testBit_two_pow_mul_add _ hd]
      unfold shrF
      by_cases h : i + s < 32
      · rw [if_pos h, if_pos (by omega), Nat.testBit_div_two_pow, bitN_test]
      · rw [if_neg h, if_neg (by omega), h1, Nat.testBit_two_pow_sub_one]
        simp
        omega
  · have h1 : a / 2147483648 = 0 := by omega
    rw [h1, ofB_shr ha hs]
    have : sg a = (a : Int) := by unfold sg; rw [if_pos (by omega)]
    rw [this]
    have hdl := div_lt32 ha (2 ^ s)
    have h2 : (a : Int) / 2 ^ s = ((a / 2 ^ s : Nat) : Int) := by simp
    rw [h2]
    generalize a / 2 ^ s = q at hdl
    unfold us
    omega
theorem ofB_and {a b : Nat} (ha : a < 4294967296) (hb : b < 4294967296) : ofB ((List.range 32).map fun i => bitN a i * bitN b i) = a &&& b := by
  refine ofB_word (Nat.lt_of_le_of_lt Nat.and_le_left ha) _ (fun i => ?_) fun i hi => ?_
  · have h1 := bitN_le a i
    have h2 := bitN_le b i
    have := Nat.mul_le_mul h1 h2
    omega
  · have h1 := bitN_le a i
    have h2 := bitN_le b i
    rw [Nat.testBit_and, Bool.and_eq_true, ← bitN_test, ← bitN_test]
    have h3 : bitN a i = 0 ∨ bitN a i = 1 := by omega
    have h4 : bitN b i = 0 ∨ bitN b i = 1 := by omega
    rcases h3 with h3 | h3 <;> rcases h4 with h4 | h4 <;> rw [h3, h4] <;> simp
theorem ofB_or {a b : Nat} (ha : a < 4294967296) (hb : b < 4294967296) : ofB ((List.range 32).map fun i => bitN a i + bitN b i - bitN a i * bitN b i) = a ||| b := by
  refine ofB_word (or_lt32 ha hb) _ (fun i => ?_) fun i hi => ?_
  · have h3 : bitN a i = 0 ∨ bitN a i = 1 := by have := bitN_le a i; omega
    have h4 : bitN b i = 0 ∨ bitN b i = 1 := by have := bitN_le b i; omega
    rcases h3 with h3 | h3 <;> rcases h4 with h4 | h4 <;> rw [h3, h4] <;> simp
  · rw [Nat.testBit_or, Bool.or_eq_true, ← bitN_test, ← bitN_test]
    have h3 : bitN a i = 0 ∨ bitN a i = 1 := by have := bitN_le a i; omega
    have h4 : bitN b i = 0 ∨ bitN b i = 1 := by have := bitN_le b i; omega
    rcases h3 with h3 | h3 <;> rcases h4 with h4 | h4 <;> rw [h3, h4] <;> simp
theorem ofB_xor {a b : Nat} (ha : a < 4294967296) (hb : b < 4294967296) : ofB ((List.range 32).map fun i => (bitN a i + bitN b i) % 2) = a ^^^ b := by
  refine ofB_word (xor_lt32 ha hb) _ (fun i => by omega) fun i hi => ?_
  rw [Nat.testBit_xor]
  have h3 : bitN a i = 0 ∨ bitN a i = 1 := by have := bitN_le a i; omega
  have h4 : bitN b i = 0 ∨ bitN b i = 1 := by have := bitN_le b i; omega
  have e1 := bitN_test a i
  have e2 := bitN_test b i
  rcases h3 with h3 | h3 <;> rcases h4 with h4 | h4 <;> rw [h3] at e1 ⊢ <;> rw [h4] at e2 ⊢ <;> cases h5 : a.testBit i <;> cases h6 : b.testBit i <;> simp [h5, h6] at e1 e2 ⊢
/-- The higher word of a product, by halves. -/
theorem halves_eq {a b : Nat} (ha : a < 4294967296) (hb : b < 4294967296) :
    (a / 65536) * (b / 65536) + (a / 65536) * (b % 65536) / 65536 + (a % 65536) * (b / 65536) / 65536 + ((a % 65536) * (b % 65536) / 65536 + (a / 65536) * (b % 65536) % 65536 + (a % 65536) * (b / 65536) % 65536) / 65536 = a * b / 4294967296 := by
  have e : a * b = (a / 65536) * (b / 65536) * 4294967296 + ((a / 65536) * (b % 65536) + (a % 65536) * (b / 65536)) * 65536 + (a % 65536) * (b % 65536) := by
    have h1 : a = a / 65536 * 65536 + a % 65536 := by omega
    have h2 : b = b / 65536 * 65536 + b % 65536 := by omega
    generalize a / 65536 = x at *
    generalize a % 65536 = y at *
    generalize b / 65536 = u at *
    generalize b % 65536 = v at *
    subst h1 h2
    have : (x * 65536 + y) * (u * 65536 + v) = x * u * (65536 * 65536) + (x * v + y * u) * 65536 + y * v := by
      simp only [Nat.add_mul, Nat.mul_add]
      have t1 : x * 65536 * (u * 65536) = x * u * (65536 * 65536) := by simp only [Nat.mul_assoc, Nat.mul_left_comm, Nat.mul_comm]
      have t2 : x * 65536 * v = x * v * 65536 := by simp only [Nat.mul_assoc, Nat.mul_left_comm, Nat.mul_comm]
      have t3 : y * (u * 65536) = y * u * 65536 := by simp only [Nat.mul_assoc]
      omega
    rw [this]
  rw [e]
  generalize (a / 65536) * (b / 65536) = S
  generalize (a / 65536) * (b % 65536) = Q
  generalize (a % 65536) * (b / 65536) = R
  generalize (a % 65536) * (b % 65536) = P
  omega
end Go.Proofs.Ytgnahjadjgjecaa
set_option linter.unusedVariables false
set_option linter.unusedSimpArgs false
namespace Go.Proofs.Ytgnahjadjgjecaa
open Go.RowKit

/-- Thirty-two cells, of which the first k are told. -/
def arrL (f : Nat → Nat) (k : Nat) : List Nat := (List.range k).map f ++ List.replicate (32 - k) 0
def arrB (f : Nat → Nat) (k : Nat) : Array Value := ((arrL f k).map fun x : Nat => Value.int .u32 (x : Int)).toArray
theorem arrL_at {f : Nat → Nat} {k : Nat} (hk : k < 32) : (arrL f k)[k]? = some 0 := by
  unfold arrL
  rw [List.getElem?_append_right (by simp)]
  simp only [List.length_map, List.length_range, Nat.sub_self]
  rw [List.getElem?_replicate, if_pos (by omega)]
theorem arrL_set {f : Nat → Nat} {k : Nat} (hk : k < 32) : (arrL f k).set k (f k) = arrL f (k + 1) := by
  unfold arrL
  rw [List.set_append_right _ _ (by simp)]
  simp only [List.length_map, List.length_range, Nat.sub_self]
  rw [show 32 - k = (32 - (k + 1)) + 1 by omega, List.replicate_succ, List.set_cons_zero, List.range_succ, List.map_append]
  simp
theorem arrB_set {f : Nat → Nat} {k : Nat} {x : Nat} (hk : k < 32) (hx : x = f k) : (arrB f k).setIfInBounds k (.int .u32 (x : Int)) = arrB f (k + 1) := by
  subst hx
  unfold arrB
  rw [← arrL_set hk, List.map_set, List.setIfInBounds_toArray]
theorem arrB_set2 {f : Nat → Nat} {k : Nat} {x : Nat} {v : Value} (hk : k < 32) (hx : x = f k) : ((arrB f k).setIfInBounds k v).setIfInBounds k (.int .u32 (x : Int)) = arrB f (k + 1) := by
  rw [Array.setIfInBounds_setIfInBounds]
  exact arrB_set hk hx
theorem arrB_at {f : Nat → Nat} {k : Nat} (hk : k < 32) : (arrB f k)[k]? = some (.int .u32 0) := by
  unfold arrB
  rw [List.getElem?_toArray, List.getElem?_map, arrL_at hk]
  rfl
theorem arrB_zero (f : Nat → Nat) : arrB f 0 = Array.replicate 32 (.int .u32 0) := by unfold arrB arrL; rfl
theorem arrB_cell {w : World} {b : Nat} {f : Nat → Nat} (h : w.heap[b]? = some (.cells (arrB f 32) 26 (0, 0))) {k : Nat} (hk : k < 32) : w.cell? ⟨b, k, none⟩ = some (.int .u32 (f k : Nat)) := by
  rw [cell_of h]
  unfold arrB arrL
  rw [List.getElem?_toArray, List.getElem?_map, List.getElem?_append_left (by simp; omega), List.getElem?_map, List.getElem?_range hk]
  rfl

theorem bit_any (w0 : Nat) (k : Nat) (hw0 : w0 < 4294967296) (hk : k < 32) (w : World) : Calls Try.prog 71 #[.int .u32 w0, .int .i64 k] w fun r w' => r = .returned (.int .u32 (bitN w0 k : Nat)) ∧ w = w' := by
  have hb : bits BinOp.and IntKind.u32 ((w0 / 2 ^ k : Nat) : Int) 1 = ((bitN w0 k : Nat) : Int) := by
    have := u32_and (w0 / 2 ^ k) 1 (div_lt32 hw0 _) (by omega)
    rw [Nat.and_one_is_mod] at this
    exact this
  have hmin : min k 32 = k := by omega
  have hsh : (w0 : Int) / 2 ^ k = ((w0 / 2 ^ k : Nat) : Int) := by simp
  have h1 : ¬ (31 : Int) < k := by omega
  have HB := Lib.hid hb
  have HM := Lib.hid hmin
  have HS := Lib.hid hsh
  clear hb hmin hsh
  go_enter Try.func71, Try.ntmps71
  go_wp2_with fail
  go_ret
  refine ⟨ret_u32 ?_, rfl⟩
  rw [HS.out]
  exact HB.out
theorem bit_out (w0 : Nat) (k : Int) (hk : k < 0 ∨ 31 < k) (w : World) : Calls Try.prog 71 #[.int .u32 w0, .int .i64 k] w fun r w' => r = .returned (.int .u32 0) ∧ w = w' := by
  rcases hk with hk | hk
  · go_enter Try.func71, Try.ntmps71
    go_wp2_with fail
    go_ret
    exact ⟨rfl, rfl⟩
  · have h0 : ¬ k < 0 := by omega
    go_enter Try.func71, Try.ntmps71
    go_wp2_with fail
    go_ret
    exact ⟨rfl, rfl⟩
theorem ofB_drop {l : List Nat} {k : Nat} (hk : k < l.length) : ofB (l.drop k) = ofB (l.drop (k + 1)) * 2 + l.getD k 0 := by
  rw [drop_cons hk 0, ofB_cons]
theorem of_any (f : Nat → Nat) (hf : ∀ i, f i ≤ 1) (b : Nat) (w : World) (h : w.heap[b]? = some (.cells (arrB f 32) 26 (0, 0))) :
    Calls Try.prog 80 #[.slice (some ⟨b, 0, none⟩) 32 32] w fun r w' => r = .returned (.int .u32 (ofB ((List.range 32).map f) : Nat)) ∧ w = w' := by
  generalize hL : (List.range 32).map f = L
  have hlen : L.length = 32 := by rw [← hL]; simp
  have hLf : ∀ k, k < 32 → L.getD k 0 = f k := fun k hk => by rw [← hL, List.getD_eq_getElem?_getD, List.getElem?_map, List.getElem?_range hk]; rfl
  have hL1 : ∀ k, ofB (L.drop k) < 2 ^ (32 - k) := fun k => by
    have := ofB_lt (L.drop k) (fun x hx => by
      have := List.mem_of_mem_drop hx
      rw [← hL] at this
      obtain ⟨j, _, rfl⟩ := List.mem_map.1 this
      exact hf j)
    rwa [List.length_drop, hlen] at this
  have HL1 := Lib.hid hL1
  have HLF := Lib.hid hLf
  clear hL hL1 hLf
  have hcell : ∀ k, k < 32 → w.cell? ⟨b, k, none⟩ = some (.int .u32 (f k : Nat)) := fun k hk => arrB_cell h hk
  have HC := Lib.hid hcell
  have HF := Lib.hid hf
  clear hcell h hf
  go_enter Try.func80, Try.ntmps80
  go_wp2
  go_loop [3, 4] (fun v i => ∃ k : Nat, k ≤ 32 ∧ i = .int .i64 ((k : Int) - 1) ∧ v = .int .u32 (ofB (L.drop k) : Nat)) (fun _ i => (intOf i + 1).toNat)
  case atStart => exact ⟨32, Nat.le_refl _, rfl, by rw [List.drop_of_length_le (by omega)]; rfl⟩
  case round =>
    obtain ⟨k, hk, rfl, rfl⟩ := hrel
    cases k with
    | zero =>
      have h0 : ((0 : Nat) : Int) - 1 = -1 := rfl
      rw [h0]
      go_wp2
      go_ret
      exact ⟨rfl, rfl⟩
    | succ k =>
      have hc := HC.out k (by omega)
      have hb1 := HL1.out (k + 1)
      have hp : (2 : Nat) ^ (32 - (k + 1)) ≤ 2 ^ 31 := Nat.pow_le_pow_right (by omega) (by omega)
      have hs := ofB_drop (l := L) (k := k) (by omega)
      rw [HLF.out k (by omega)] at hs
      have hfk := HF.out k
      have e : ((k + 1 : Nat) : Int) - 1 = (k : Int) := by omega
      rw [e]
      generalize ofB (L.drop (k + 1)) = q at *
      have hq : q < 2147483648 := Nat.lt_of_lt_of_le hb1 hp
      have HS := Lib.hid hs
      clear hs hb1 hp e
      have hq2 : (q : Int) * 2 + (f k : Int) < 4294967296 := by omega
      go_wp2
      go_round
      case rel => exact ⟨k, by omega, rfl, by rw [HS.out]; first | rfl | (congr 1; omega)⟩
      case measure => simp [intOf]
theorem num_any32 (a : Nat) (ha : a < 4294967296) (w : World) : Calls Try.prog 73 #[.int .u32 a] w fun r w' => r = .returned (.int .i64 (sg a)) ∧ w = w' := by
  by_cases h : a < 2147483648
  · have e : sg a = (a : Int) := by unfold sg; rw [if_pos h]
    have h1 : (a : Int) < 2147483648 := by omega
    have h2 : ¬ (2147483648 : Int) ≤ a := by omega
    rw [e]
    clear e h
    go_enter Try.func73, Try.ntmps73
    go_wp2_with fail
    go_ret
    exact ⟨rfl, rfl⟩
  · have e : sg a = (a : Int) - 4294967296 := by unfold sg; rw [if_neg h]
    have h1 : (2147483648 : Int) ≤ a := by omega
    rw [e]
    clear e h
    go_enter Try.func73, Try.ntmps73
    go_wp2_with fail
    go_ret
    exact ⟨rfl, rfl⟩
theorem one_any (c : Bool) (w : World) : Calls Try.prog 72 #[.bool c] w fun r w' => r = .returned (.int .u32 ((if c then 1 else 0 : Nat) : Int)) ∧ w = w' := by
  cases c
  all_goals (
    go_enter Try.func72, Try.ntmps72
    go_wp2
    go_ret
    exact ⟨rfl, rfl⟩)
theorem make32 (w : World) : (Instr.makeSlice 115 (.int .i64 32) (.int .i64 32)).run Try.prog w = .ok (.slice (some ⟨w.heap.size, 0, none⟩) 32 32) (w.alloc (.cells (Array.replicate 32 (.int .u32 0)) 26)) := by kernel_rfl
set_option maxRecDepth 100000 in
set_option maxHeartbeats 1000000 in
theorem shift_gen (a : Nat) (by_ : Int) (top : Nat) (f g : Nat → Nat) (hby : -31 ≤ by_ ∧ by_ ≤ 31) (hf1 : ∀ i, f i ≤ 1)
    (hbit : ∀ k : Nat, k < 32 → ∀ w, Calls Try.prog 71 #[.int .u32 a, .int .i64 ((k : Int) - by_)] w fun r w' => r = .returned (.int .u32 (g k : Nat)) ∧ w = w')
    (hf : ∀ k : Nat, k < 32 → f k = if 31 < (k : Int) - by_ then top else g k) (w : World) :
    Calls Try.prog 70 #[.int .u32 a, .int .i64 by_, .int .u32 top] w fun r w' => r = .returned (.int .u32 (ofB ((List.range 32).map f) : Nat)) ∧ Below w.heap.size w w' := by
  have hmk := make32
  have HBIT := Lib.hid hbit
  have HF := Lib.hid hf
  have HF1 := Lib.hid hf1
  clear hbit hf hf1
  have h0 := blk_new w (.cells (Array.replicate 32 (.int .u32 0)) 26)
  rw [← arrB_zero f] at h0
  have H0 := Lib.hid h0
  clear h0
  go_enter Try.func70, Try.ntmps70
  go_wp2_with fail
  go_loopw [8] (fun i wr => ∃ k : Nat, k ≤ 32 ∧ i = .int .i64 k ∧ wr.heap[w.heap.size]? = some (.cells (arrB f k) 26 (0, 0)) ∧ Below w.heap.size w wr) (fun i _ => 32 - (intOf i).toNat)
  case atStart => exact ⟨0, by omega, rfl, by rw [← arrB_zero f]; exact H0.out, (Below.refl _ _).alloc (Nat.le_refl _) _⟩
  case round =>
    obtain ⟨k, hk, rfl, hh, hb⟩ := hrel
    by_cases hlt : k < 32
    · have hc := (cell_of hh k).trans (arrB_at hlt)
      have hz := frozen_of hh k
      have hB := HBIT.out k hlt
      have hfk := HF.out k hlt
      by_cases h31 : 31 < (k : Int) - by_
      · rw [if_pos h31] at hfk
        have HFK := Lib.hid hfk
        have HH := Lib.hid hh
        clear hfk hh
        go_wp2_with (first | (go_at_call 71; refine (hB _).mono ?_; rintro r w1 ⟨rfl, rfl⟩) | fail)
        go_roundw
        case rel => exact ⟨k + 1, by omega, by go_num, (blk_set (blk_set HH.out k _) k _).trans (by rw [arrB_set2 hlt HFK.out.symm]), (hb.setCell (Nat.le_refl _) _).setCell (Nat.le_refl _) _⟩
        case measure => simp [intOf]; omega
      · rw [if_neg h31] at hfk
        have HFK := Lib.hid hfk
        have HH := Lib.hid hh
        clear hfk hh
        go_wp2_with (first | (go_at_call 71; refine (hB _).mono ?_; rintro r w1 ⟨rfl, rfl⟩) | fail)
        go_roundw
        case rel => exact ⟨k + 1, by omega, by go_num, (blk_set HH.out k _).trans (by rw [arrB_set hlt HFK.out.symm]), hb.setCell (Nat.le_refl _) _⟩
        case measure => simp [intOf]; omega
    · have hk32 : k = 32 := by omega
      subst hk32
      have hO := of_any f HF1.out w.heap.size wr hh
      clear hh
      go_wp2_with (first | (go_at_call 80; refine hO.mono ?_; rintro r w1 ⟨rfl, rfl⟩) | fail)
      go_ret
      exact ⟨rfl, hb⟩
theorem shl_any (a s : Nat) (ha : a < 4294967296) (hs : s < 32) (w : World) :
    Calls Try.prog 70 #[.int .u32 a, .int .i64 (s : Int), .int .u32 0] w fun r w' => r = .returned (.int .u32 (a * 2 ^ s % 4294967296 : Nat)) ∧ Below w.heap.size w w' := by
  rw [← ofB_shl ha hs]
  refine shift_gen a s 0 (shlF a s) (shlF a s) (by omega) (fun i => by unfold shlF; have := bitN_le a (i - s); split <;> omega) (fun k hk w => ?_) (fun k hk => by rw [if_neg (by omega)]) w
  unfold shlF
  by_cases h : k < s
  · rw [if_pos h]
    exact bit_out a _ (by omega) w
  · rw [if_neg h, show (k : Int) - s = ((k - s : Nat) : Int) by omega]
    exact bit_any a (k - s) ha (by omega) w
theorem shr_gen (a s top : Nat) (ha : a < 4294967296) (hs : s < 32) (ht : top ≤ 1) (w : World) :
    Calls Try.prog 70 #[.int .u32 a, .int .i64 (-(s : Int)), .int .u32 top] w fun r w' => r = .returned (.int .u32 (ofB ((List.range 32).map (shrF a s top)) : Nat)) ∧ Below w.heap.size w w' := by
  refine shift_gen a (-(s : Int)) top (shrF a s top) (fun k => if k + s < 32 then bitN a (k + s) else 0) (by omega) (fun i => by unfold shrF; have := bitN_le a (i + s); split <;> omega) (fun k hk w => ?_) (fun k hk => ?_) w
  · by_cases h : k + s < 32
    · simp only [if_pos h]
      rw [show (k : Int) - -(s : Int) = ((k + s : Nat) : Int) by omega]
      exact bit_any a (k + s) ha h w
    · simp only [if_neg h]
      exact bit_out a _ (by omega) w
  · unfold shrF
    by_cases h : k + s < 32
    · rw [if_pos h, if_pos h, if_neg (by omega)]
    · rw [if_neg h, if_pos (by omega)]
end Go.Proofs.Ytgnahjadjgjecaa
