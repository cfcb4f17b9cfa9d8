/- The reference's words, walked: bit by bit (written by genRB.py). -/
import Derived.Test.YtgnahjadjgjecaaRWord
set_option linter.unusedVariables false
set_option linter.unusedSimpArgs false
namespace Go.Proofs.Ytgnahjadjgjecaa
open Go.RowKit

set_option maxRecDepth 100000 in
set_option maxHeartbeats 2000000 in
theorem rbits_and (a b : Nat) (ha : a < 4294967296) (hb : b < 4294967296) (w : World) :
    Calls Try.prog 69 #[.int .i64 36, .int .u32 a, .int .u32 b] w fun r w' => r = .returned (.int .u32 (a &&& b : Nat)) ∧ Below w.heap.size w w' := by
  rw [← ofB_and ha hb]
  generalize hf : (fun i => bitN a i * bitN b i) = f
  have hfk : ∀ k p q, bitN a k = p → bitN b k = q → f k = p * q := by rintro k p q rfl rfl; rw [← hf]
  have hf1 : ∀ i, f i ≤ 1 := fun i => by
    have e1 : bitN a i = 0 ∨ bitN a i = 1 := by have := bitN_le a i; omega
    have e2 : bitN b i = 0 ∨ bitN b i = 1 := by have := bitN_le b i; omega
    rcases e1 with e1 | e1 <;> rcases e2 with e2 | e2 <;> rw [hfk i _ _ e1 e2] <;> decide
  clear hf
  have hmk := make32
  have HF1 := Lib.hid hf1
  have HFK := Lib.hid hfk
  clear hf1 hfk
  have h0 := blk_new w (.cells (Array.replicate 32 (.int .u32 0)) 26)
  rw [← arrB_zero f] at h0
  have H0 := Lib.hid h0
  clear h0
  go_enter Try.func69, Try.ntmps69
  go_wp2_with fail
  go_loopw [8] (fun i wr => ∃ k : Nat, k ≤ 32 ∧ i = .int .i64 k ∧ wr.heap[w.heap.size]? = some (.cells (arrB f k) 26 (0, 0)) ∧ Below w.heap.size w wr) (fun i _ => 32 - (intOf i).toNat)
  case atStart => exact ⟨0, by omega, rfl, by rw [← arrB_zero f]; exact H0.out, (Below.refl _ _).alloc (Nat.le_refl _) _⟩
  case round =>
    obtain ⟨k, hk, rfl, hh, hb2⟩ := hrel
    by_cases hlt : k < 32
    · have hc := (cell_of hh k).trans (arrB_at hlt)
      have hz := frozen_of hh k
      have hB : ∀ p q : Nat, bitN a k = p → bitN b k = q → (∀ w, Calls Try.prog 71 #[.int .u32 a, .int .i64 k] w fun r w' => r = .returned (.int .u32 (p : Int)) ∧ w = w') ∧ (∀ w, Calls Try.prog 71 #[.int .u32 b, .int .i64 k] w fun r w' => r = .returned (.int .u32 (q : Int)) ∧ w = w') := by
        rintro p q rfl rfl
        exact ⟨bit_any a k ha hlt, bit_any b k hb hlt⟩
      have hx1 : bitN a k = 0 ∨ bitN a k = 1 := by have := bitN_le a k; omega
      have hx2 : bitN b k = 0 ∨ bitN b k = 1 := by have := bitN_le b k; omega
      have HH := Lib.hid hh
      clear hh
      rcases hx1 with e1 | e1 <;> rcases hx2 with e2 | e2
      all_goals
        obtain ⟨hBa, hBb⟩ := hB _ _ e1 e2
        have HK := Lib.hid (HFK.out k _ _ e1 e2)
        clear e1 e2 hB
        go_wp2_with fail
        refine (hBa _).mono ?_
        rintro r w1 ⟨rfl, rfl⟩
        go_wp2_with fail
        refine (hBb _).mono ?_
        rintro r w1 ⟨rfl, rfl⟩
        go_wp2_with fail
        go_roundw
        case rel => exact ⟨k + 1, by omega, by go_num, (blk_set HH.out k _).trans (congrArg some (congrArg (fun q => Obj.cells q 26 (0, 0)) (arrB_set hlt HK.out.symm))), hb2.setCell (Nat.le_refl _) _⟩
        case measure => simp [intOf]; omega
    · have hk32 : k = 32 := by omega
      subst hk32
      have hO := of_any f HF1.out w.heap.size wr hh
      clear hh
      go_wp2_with fail
      refine hO.mono ?_
      rintro r w1 ⟨rfl, rfl⟩
      go_wp2_with fail
      go_ret
      exact ⟨rfl, hb2⟩
set_option maxRecDepth 100000 in
set_option maxHeartbeats 2000000 in
theorem rbits_or (a b : Nat) (ha : a < 4294967296) (hb : b < 4294967296) (w : World) :
    Calls Try.prog 69 #[.int .i64 35, .int .u32 a, .int .u32 b] w fun r w' => r = .returned (.int .u32 (a ||| b : Nat)) ∧ Below w.heap.size w w' := by
  rw [← ofB_or ha hb]
  generalize hf : (fun i => bitN a i + bitN b i - bitN a i * bitN b i) = f
  have hfk : ∀ k p q, bitN a k = p → bitN b k = q → f k = p + q - p * q := by rintro k p q rfl rfl; rw [← hf]
  have hf1 : ∀ i, f i ≤ 1 := fun i => by
    have e1 : bitN a i = 0 ∨ bitN a i = 1 := by have := bitN_le a i; omega
    have e2 : bitN b i = 0 ∨ bitN b i = 1 := by have := bitN_le b i; omega
    rcases e1 with e1 | e1 <;> rcases e2 with e2 | e2 <;> rw [hfk i _ _ e1 e2] <;> decide
  clear hf
  have hmk := make32
  have HF1 := Lib.hid hf1
  have HFK := Lib.hid hfk
  clear hf1 hfk
  have h0 := blk_new w (.cells (Array.replicate 32 (.int .u32 0)) 26)
  rw [← arrB_zero f] at h0
  have H0 := Lib.hid h0
  clear h0
  go_enter Try.func69, Try.ntmps69
  go_wp2_with fail
  go_loopw [8] (fun i wr => ∃ k : Nat, k ≤ 32 ∧ i = .int .i64 k ∧ wr.heap[w.heap.size]? = some (.cells (arrB f k) 26 (0, 0)) ∧ Below w.heap.size w wr) (fun i _ => 32 - (intOf i).toNat)
  case atStart => exact ⟨0, by omega, rfl, by rw [← arrB_zero f]; exact H0.out, (Below.refl _ _).alloc (Nat.le_refl _) _⟩
  case round =>
    obtain ⟨k, hk, rfl, hh, hb2⟩ := hrel
    by_cases hlt : k < 32
    · have hc := (cell_of hh k).trans (arrB_at hlt)
      have hz := frozen_of hh k
      have hB : ∀ p q : Nat, bitN a k = p → bitN b k = q → (∀ w, Calls Try.prog 71 #[.int .u32 a, .int .i64 k] w fun r w' => r = .returned (.int .u32 (p : Int)) ∧ w = w') ∧ (∀ w, Calls Try.prog 71 #[.int .u32 b, .int .i64 k] w fun r w' => r = .returned (.int .u32 (q : Int)) ∧ w = w') := by
        rintro p q rfl rfl
        exact ⟨bit_any a k ha hlt, bit_any b k hb hlt⟩
      have hx1 : bitN a k = 0 ∨ bitN a k = 1 := by have := bitN_le a k; omega
      have hx2 : bitN b k = 0 ∨ bitN b k = 1 := by have := bitN_le b k; omega
      have HH := Lib.hid hh
      clear hh
      rcases hx1 with e1 | e1 <;> rcases hx2 with e2 | e2
      all_goals
        obtain ⟨hBa, hBb⟩ := hB _ _ e1 e2
        have HK := Lib.hid (HFK.out k _ _ e1 e2)
        clear e1 e2 hB
        go_wp2_with fail
        refine (hBa _).mono ?_
        rintro r w1 ⟨rfl, rfl⟩
        go_wp2_with fail
        refine (hBb _).mono ?_
        rintro r w1 ⟨rfl, rfl⟩
        go_wp2_with fail
        go_roundw
        case rel => exact ⟨k + 1, by omega, by go_num, (blk_set HH.out k _).trans (congrArg some (congrArg (fun q => Obj.cells q 26 (0, 0)) (arrB_set hlt HK.out.symm))), hb2.setCell (Nat.le_refl _) _⟩
        case measure => simp [intOf]; omega
    · have hk32 : k = 32 := by omega
      subst hk32
      have hO := of_any f HF1.out w.heap.size wr hh
      clear hh
      go_wp2_with fail
      refine hO.mono ?_
      rintro r w1 ⟨rfl, rfl⟩
      go_wp2_with fail
      go_ret
      exact ⟨rfl, hb2⟩
set_option maxRecDepth 100000 in
set_option maxHeartbeats 2000000 in
theorem rbits_xor (a b : Nat) (ha : a < 4294967296) (hb : b < 4294967296) (w : World) :
    Calls Try.prog 69 #[.int .i64 32, .int .u32 a, .int .u32 b] w fun r w' => r = .returned (.int .u32 (a ^^^ b : Nat)) ∧ Below w.heap.size w w' := by
  rw [← ofB_xor ha hb]
  generalize hf : (fun i => (bitN a i + bitN b i) % 2) = f
  have hfk : ∀ k p q, bitN a k = p → bitN b k = q → f k = (p + q) % 2 := by rintro k p q rfl rfl; rw [← hf]
  have hf1 : ∀ i, f i ≤ 1 := fun i => by
    have e1 : bitN a i = 0 ∨ bitN a i = 1 := by have := bitN_le a i; omega
    have e2 : bitN b i = 0 ∨ bitN b i = 1 := by have := bitN_le b i; omega
    rcases e1 with e1 | e1 <;> rcases e2 with e2 | e2 <;> rw [hfk i _ _ e1 e2] <;> decide
  clear hf
  have hmk := make32
  have HF1 := Lib.hid hf1
  have HFK := Lib.hid hfk
  clear hf1 hfk
  have h0 := blk_new w (.cells (Array.replicate 32 (.int .u32 0)) 26)
  rw [← arrB_zero f] at h0
  have H0 := Lib.hid h0
  clear h0
  go_enter Try.func69, Try.ntmps69
  go_wp2_with fail
  go_loopw [8] (fun i wr => ∃ k : Nat, k ≤ 32 ∧ i = .int .i64 k ∧ wr.heap[w.heap.size]? = some (.cells (arrB f k) 26 (0, 0)) ∧ Below w.heap.size w wr) (fun i _ => 32 - (intOf i).toNat)
  case atStart => exact ⟨0, by omega, rfl, by rw [← arrB_zero f]; exact H0.out, (Below.refl _ _).alloc (Nat.le_refl _) _⟩
  case round =>
    obtain ⟨k, hk, rfl, hh, hb2⟩ := hrel
    by_cases hlt : k < 32
    · have hc := (cell_of hh k).trans (arrB_at hlt)
      have hz := frozen_of hh k
      have hB : ∀ p q : Nat, bitN a k = p → bitN b k = q → (∀ w, Calls Try.prog 71 #[.int .u32 a, .int .i64 k] w fun r w' => r = .returned (.int .u32 (p : Int)) ∧ w = w') ∧ (∀ w, Calls Try.prog 71 #[.int .u32 b, .int .i64 k] w fun r w' => r = .returned (.int .u32 (q : Int)) ∧ w = w') := by
        rintro p q rfl rfl
        exact ⟨bit_any a k ha hlt, bit_any b k hb hlt⟩
      have hx1 : bitN a k = 0 ∨ bitN a k = 1 := by have := bitN_le a k; omega
      have hx2 : bitN b k = 0 ∨ bitN b k = 1 := by have := bitN_le b k; omega
      have HH := Lib.hid hh
      clear hh
      rcases hx1 with e1 | e1 <;> rcases hx2 with e2 | e2
      all_goals
        obtain ⟨hBa, hBb⟩ := hB _ _ e1 e2
        have HK := Lib.hid (HFK.out k _ _ e1 e2)
        clear e1 e2 hB
        go_wp2_with fail
        refine (hBa _).mono ?_
        rintro r w1 ⟨rfl, rfl⟩
        go_wp2_with fail
        refine (hBb _).mono ?_
        rintro r w1 ⟨rfl, rfl⟩
        go_wp2_with fail
        go_roundw
        case rel => exact ⟨k + 1, by omega, by go_num, (blk_set HH.out k _).trans (congrArg some (congrArg (fun q => Obj.cells q 26 (0, 0)) (arrB_set hlt HK.out.symm))), hb2.setCell (Nat.le_refl _) _⟩
        case measure => simp [intOf]; omega
    · have hk32 : k = 32 := by omega
      subst hk32
      have hO := of_any f HF1.out w.heap.size wr hh
      clear hh
      go_wp2_with fail
      refine hO.mono ?_
      rintro r w1 ⟨rfl, rfl⟩
      go_wp2_with fail
      go_ret
      exact ⟨rfl, hb2⟩
end Go.Proofs.Ytgnahjadjgjecaa
