/- Parse: the early ways out (written by genEP.py). -/
import Derived.Test.YtlpoebobfdmcmaaEParseA
set_option linter.unusedVariables false
set_option linter.unusedSimpArgs false
namespace Go.Proofs.Ytlpoebobfdmcmaa
open Go.RowKit

set_option maxRecDepth 100000 in
set_option maxHeartbeats 800000 in
theorem parse_e0 (s : ByteArray) (N : Int → Int → Nat) (hN : Hid (∀ a n, num (toL s) a.toNat n.toNat = N a n)) (w : World) (hs : s.size ≤ 281474976710656)  (h0 : s.size < 52) :
    Calls Try.prog 16 #[.string s] w fun r w' => r = .returned (.tuple #[.agg #[.int .u32 0, .int .u32 0, .slice none 0 0], .int .i64 60]) ∧ Below w.heap.size w w' := by
  have hs2 : s.size ≤ maxLen := by unfold maxLen; omega
  have d0 : decide ((52 : Int) ≤ (s.size : Int)) = false := decide_eq_false (by omega)
  go_enter_defers Try.func16, Try.ntmps16
  go_wp2_with (first | (go_at_call 22; refine (must_any _ _ _).mono ?_; rintro r w1 ⟨rfl, ⟨hm, rfl⟩ | ⟨hm, rfl⟩⟩ <;> first | exact absurd hm (by decide) | clear hm) | (go_at_call 24; refine (prefix_magic s _).mono ?_; rintro r w1 ⟨rfl, rfl⟩) | (go_at_call 25; refine (same_int s N hN.out _ _ _ _ (by omega) (by omega) (by omega) hs2 (by omega)).mono ?_; rintro r w1 ⟨rfl, ⟨hm, rfl⟩ | ⟨hm, rfl⟩⟩ <;> first | fail | clear hm) | (go_at_call 26; refine (num_int s N hN.out _ _ _ (by omega) (by omega) hs2 (by omega)).mono ?_; rintro r w1 ⟨rfl, rfl⟩) | fail)
  refine parse_door _ w.heap.size 60 (by decide) (blk_alloc (blk_new _ _) _) (blk_top (by simp)) ?_
  intro w9 k1 k2 k3
  have r0 := cell_of k1 0
  have r1 := cell_of k1 1
  have r2 := cell_of k1 2
  have r3 := cell_of k2 0
  simp only [List.getElem?_toArray, List.getElem?_cons_zero, List.getElem?_cons_succ] at r0 r1 r2 r3
  have hb := (((Below.refl w.heap.size w).alloc (Nat.le_refl _) (.cells #[.int .u32 0, .int .u32 0, .slice none 0 0] 25)).alloc (by simp) (.cells #[.int .i64 0] 27)).trans k3
  simp [Leaves, settle, results, Try.results16, go_sem, r0, r1, r2, r3]
  exact hb

set_option maxRecDepth 100000 in
set_option maxHeartbeats 800000 in
theorem parse_e1 (s : ByteArray) (N : Int → Int → Nat) (hN : Hid (∀ a n, num (toL s) a.toNat n.toNat = N a n)) (w : World) (hs : s.size ≤ 281474976710656) (h0 : 52 ≤ s.size) (h1 : ¬ (toL s).take 7 = magicL) :
    Calls Try.prog 16 #[.string s] w fun r w' => r = .returned (.tuple #[.agg #[.int .u32 0, .int .u32 0, .slice none 0 0], .int .i64 61]) ∧ Below w.heap.size w w' := by
  have hs2 : s.size ≤ maxLen := by unfold maxLen; omega
  have d0 : decide ((52 : Int) ≤ (s.size : Int)) = true := decide_eq_true (by omega)
  have d1 : decide ((toL s).take 7 = magicL) = false := decide_eq_false h1
  clear h1
  go_enter_defers Try.func16, Try.ntmps16
  go_wp2_with (first | (go_at_call 22; refine (must_any _ _ _).mono ?_; rintro r w1 ⟨rfl, ⟨hm, rfl⟩ | ⟨hm, rfl⟩⟩ <;> first | exact absurd hm (by decide) | clear hm) | (go_at_call 24; refine (prefix_magic s _).mono ?_; rintro r w1 ⟨rfl, rfl⟩) | (go_at_call 25; refine (same_int s N hN.out _ _ _ _ (by omega) (by omega) (by omega) hs2 (by omega)).mono ?_; rintro r w1 ⟨rfl, ⟨hm, rfl⟩ | ⟨hm, rfl⟩⟩ <;> first | fail | clear hm) | (go_at_call 26; refine (num_int s N hN.out _ _ _ (by omega) (by omega) hs2 (by omega)).mono ?_; rintro r w1 ⟨rfl, rfl⟩) | fail)
  refine parse_door _ w.heap.size 61 (by decide) (blk_alloc (blk_new _ _) _) (blk_top (by simp)) ?_
  intro w9 k1 k2 k3
  have r0 := cell_of k1 0
  have r1 := cell_of k1 1
  have r2 := cell_of k1 2
  have r3 := cell_of k2 0
  simp only [List.getElem?_toArray, List.getElem?_cons_zero, List.getElem?_cons_succ] at r0 r1 r2 r3
  have hb := (((Below.refl w.heap.size w).alloc (Nat.le_refl _) (.cells #[.int .u32 0, .int .u32 0, .slice none 0 0] 25)).alloc (by simp) (.cells #[.int .i64 0] 27)).trans k3
  simp [Leaves, settle, results, Try.results16, go_sem, r0, r1, r2, r3]
  exact hb

set_option maxRecDepth 100000 in
set_option maxHeartbeats 800000 in
theorem parse_e2 (s : ByteArray) (N : Int → Int → Nat) (hN : Hid (∀ a n, num (toL s) a.toNat n.toNat = N a n)) (w : World) (hs : s.size ≤ 281474976710656) (h0 : 52 ≤ s.size) (h1 : (toL s).take 7 = magicL) (h2 : ¬ N 16 2 = 2) :
    Calls Try.prog 16 #[.string s] w fun r w' => r = .returned (.tuple #[.agg #[.int .u32 0, .int .u32 0, .slice none 0 0], .int .i64 61]) ∧ Below w.heap.size w w' := by
  have hs2 : s.size ≤ maxLen := by unfold maxLen; omega
  have d0 : decide ((52 : Int) ≤ (s.size : Int)) = true := decide_eq_true (by omega)
  have d1 : decide ((toL s).take 7 = magicL) = true := decide_eq_true h1
  clear h1
  have q2 : Hid (¬ ((N 16 2 : Nat) : Int) = 2) := Lib.hid (by omega)
  clear h2
  go_enter_defers Try.func16, Try.ntmps16
  go_wp2_with (first | (go_at_call 22; refine (must_any _ _ _).mono ?_; rintro r w1 ⟨rfl, ⟨hm, rfl⟩ | ⟨hm, rfl⟩⟩ <;> first | exact absurd hm (by decide) | clear hm) | (go_at_call 24; refine (prefix_magic s _).mono ?_; rintro r w1 ⟨rfl, rfl⟩) | (go_at_call 25; refine (same_int s N hN.out _ _ _ _ (by omega) (by omega) (by omega) hs2 (by omega)).mono ?_; rintro r w1 ⟨rfl, ⟨hm, rfl⟩ | ⟨hm, rfl⟩⟩ <;> first | exact absurd hm q2.out | clear hm) | (go_at_call 26; refine (num_int s N hN.out _ _ _ (by omega) (by omega) hs2 (by omega)).mono ?_; rintro r w1 ⟨rfl, rfl⟩) | fail)
  refine parse_door _ w.heap.size 61 (by decide) (blk_alloc (blk_new _ _) _) (blk_top (by simp)) ?_
  intro w9 k1 k2 k3
  have r0 := cell_of k1 0
  have r1 := cell_of k1 1
  have r2 := cell_of k1 2
  have r3 := cell_of k2 0
  simp only [List.getElem?_toArray, List.getElem?_cons_zero, List.getElem?_cons_succ] at r0 r1 r2 r3
  have hb := (((Below.refl w.heap.size w).alloc (Nat.le_refl _) (.cells #[.int .u32 0, .int .u32 0, .slice none 0 0] 25)).alloc (by simp) (.cells #[.int .i64 0] 27)).trans k3
  simp [Leaves, settle, results, Try.results16, go_sem, r0, r1, r2, r3]
  exact hb

set_option maxRecDepth 100000 in
set_option maxHeartbeats 800000 in
theorem parse_e3 (s : ByteArray) (N : Int → Int → Nat) (hN : Hid (∀ a n, num (toL s) a.toNat n.toNat = N a n)) (w : World) (hs : s.size ≤ 281474976710656) (h0 : 52 ≤ s.size) (h1 : (toL s).take 7 = magicL) (h2 : N 16 2 = 2) (h3 : ¬ N 18 2 = 243) :
    Calls Try.prog 16 #[.string s] w fun r w' => r = .returned (.tuple #[.agg #[.int .u32 0, .int .u32 0, .slice none 0 0], .int .i64 61]) ∧ Below w.heap.size w w' := by
  have hs2 : s.size ≤ maxLen := by unfold maxLen; omega
  have d0 : decide ((52 : Int) ≤ (s.size : Int)) = true := decide_eq_true (by omega)
  have d1 : decide ((toL s).take 7 = magicL) = true := decide_eq_true h1
  clear h1
  have q2 : Hid (¬ ((N 16 2 : Nat) : Int) ≠ 2) := Lib.hid (by omega)
  clear h2
  have q3 : Hid (¬ ((N 18 2 : Nat) : Int) = 243) := Lib.hid (by omega)
  clear h3
  go_enter_defers Try.func16, Try.ntmps16
  go_wp2_with (first | (go_at_call 22; refine (must_any _ _ _).mono ?_; rintro r w1 ⟨rfl, ⟨hm, rfl⟩ | ⟨hm, rfl⟩⟩ <;> first | exact absurd hm (by decide) | clear hm) | (go_at_call 24; refine (prefix_magic s _).mono ?_; rintro r w1 ⟨rfl, rfl⟩) | (go_at_call 25; refine (same_int s N hN.out _ _ _ _ (by omega) (by omega) (by omega) hs2 (by omega)).mono ?_; rintro r w1 ⟨rfl, ⟨hm, rfl⟩ | ⟨hm, rfl⟩⟩ <;> first | exact absurd hm q2.out | exact absurd hm q3.out | clear hm) | (go_at_call 26; refine (num_int s N hN.out _ _ _ (by omega) (by omega) hs2 (by omega)).mono ?_; rintro r w1 ⟨rfl, rfl⟩) | fail)
  refine parse_door _ w.heap.size 61 (by decide) (blk_alloc (blk_new _ _) _) (blk_top (by simp)) ?_
  intro w9 k1 k2 k3
  have r0 := cell_of k1 0
  have r1 := cell_of k1 1
  have r2 := cell_of k1 2
  have r3 := cell_of k2 0
  simp only [List.getElem?_toArray, List.getElem?_cons_zero, List.getElem?_cons_succ] at r0 r1 r2 r3
  have hb := (((Below.refl w.heap.size w).alloc (Nat.le_refl _) (.cells #[.int .u32 0, .int .u32 0, .slice none 0 0] 25)).alloc (by simp) (.cells #[.int .i64 0] 27)).trans k3
  simp [Leaves, settle, results, Try.results16, go_sem, r0, r1, r2, r3]
  exact hb

set_option maxRecDepth 100000 in
set_option maxHeartbeats 800000 in
theorem parse_e4 (s : ByteArray) (N : Int → Int → Nat) (hN : Hid (∀ a n, num (toL s) a.toNat n.toNat = N a n)) (w : World) (hs : s.size ≤ 281474976710656) (h0 : 52 ≤ s.size) (h1 : (toL s).take 7 = magicL) (h2 : N 16 2 = 2) (h3 : N 18 2 = 243) (h4 : ¬ N 20 4 = 1) :
    Calls Try.prog 16 #[.string s] w fun r w' => r = .returned (.tuple #[.agg #[.int .u32 0, .int .u32 0, .slice none 0 0], .int .i64 61]) ∧ Below w.heap.size w w' := by
  have hs2 : s.size ≤ maxLen := by unfold maxLen; omega
  have d0 : decide ((52 : Int) ≤ (s.size : Int)) = true := decide_eq_true (by omega)
  have d1 : decide ((toL s).take 7 = magicL) = true := decide_eq_true h1
  clear h1
  have q2 : Hid (¬ ((N 16 2 : Nat) : Int) ≠ 2) := Lib.hid (by omega)
  clear h2
  have q3 : Hid (¬ ((N 18 2 : Nat) : Int) ≠ 243) := Lib.hid (by omega)
  clear h3
  have q4 : Hid (¬ ((N 20 4 : Nat) : Int) = 1) := Lib.hid (by omega)
  clear h4
  go_enter_defers Try.func16, Try.ntmps16
  go_wp2_with (first | (go_at_call 22; refine (must_any _ _ _).mono ?_; rintro r w1 ⟨rfl, ⟨hm, rfl⟩ | ⟨hm, rfl⟩⟩ <;> first | exact absurd hm (by decide) | clear hm) | (go_at_call 24; refine (prefix_magic s _).mono ?_; rintro r w1 ⟨rfl, rfl⟩) | (go_at_call 25; refine (same_int s N hN.out _ _ _ _ (by omega) (by omega) (by omega) hs2 (by omega)).mono ?_; rintro r w1 ⟨rfl, ⟨hm, rfl⟩ | ⟨hm, rfl⟩⟩ <;> first | exact absurd hm q2.out | exact absurd hm q3.out | exact absurd hm q4.out | clear hm) | (go_at_call 26; refine (num_int s N hN.out _ _ _ (by omega) (by omega) hs2 (by omega)).mono ?_; rintro r w1 ⟨rfl, rfl⟩) | fail)
  refine parse_door _ w.heap.size 61 (by decide) (blk_alloc (blk_new _ _) _) (blk_top (by simp)) ?_
  intro w9 k1 k2 k3
  have r0 := cell_of k1 0
  have r1 := cell_of k1 1
  have r2 := cell_of k1 2
  have r3 := cell_of k2 0
  simp only [List.getElem?_toArray, List.getElem?_cons_zero, List.getElem?_cons_succ] at r0 r1 r2 r3
  have hb := (((Below.refl w.heap.size w).alloc (Nat.le_refl _) (.cells #[.int .u32 0, .int .u32 0, .slice none 0 0] 25)).alloc (by simp) (.cells #[.int .i64 0] 27)).trans k3
  simp [Leaves, settle, results, Try.results16, go_sem, r0, r1, r2, r3]
  exact hb

set_option maxRecDepth 100000 in
set_option maxHeartbeats 800000 in
theorem parse_e5 (s : ByteArray) (N : Int → Int → Nat) (hN : Hid (∀ a n, num (toL s) a.toNat n.toNat = N a n)) (w : World) (hs : s.size ≤ 281474976710656) (h0 : 52 ≤ s.size) (h1 : (toL s).take 7 = magicL) (h2 : N 16 2 = 2) (h3 : N 18 2 = 243) (h4 : N 20 4 = 1) (h5 : ¬ N 40 2 = 52) :
    Calls Try.prog 16 #[.string s] w fun r w' => r = .returned (.tuple #[.agg #[.int .u32 0, .int .u32 0, .slice none 0 0], .int .i64 61]) ∧ Below w.heap.size w w' := by
  have hs2 : s.size ≤ maxLen := by unfold maxLen; omega
  have d0 : decide ((52 : Int) ≤ (s.size : Int)) = true := decide_eq_true (by omega)
  have d1 : decide ((toL s).take 7 = magicL) = true := decide_eq_true h1
  clear h1
  have q2 : Hid (¬ ((N 16 2 : Nat) : Int) ≠ 2) := Lib.hid (by omega)
  clear h2
  have q3 : Hid (¬ ((N 18 2 : Nat) : Int) ≠ 243) := Lib.hid (by omega)
  clear h3
  have q4 : Hid (¬ ((N 20 4 : Nat) : Int) ≠ 1) := Lib.hid (by omega)
  clear h4
  have q5 : Hid (¬ ((N 40 2 : Nat) : Int) = 52) := Lib.hid (by omega)
  clear h5
  go_enter_defers Try.func16, Try.ntmps16
  go_wp2_with (first | (go_at_call 22; refine (must_any _ _ _).mono ?_; rintro r w1 ⟨rfl, ⟨hm, rfl⟩ | ⟨hm, rfl⟩⟩ <;> first | exact absurd hm (by decide) | clear hm) | (go_at_call 24; refine (prefix_magic s _).mono ?_; rintro r w1 ⟨rfl, rfl⟩) | (go_at_call 25; refine (same_int s N hN.out _ _ _ _ (by omega) (by omega) (by omega) hs2 (by omega)).mono ?_; rintro r w1 ⟨rfl, ⟨hm, rfl⟩ | ⟨hm, rfl⟩⟩ <;> first | exact absurd hm q2.out | exact absurd hm q3.out | exact absurd hm q4.out | exact absurd hm q5.out | clear hm) | (go_at_call 26; refine (num_int s N hN.out _ _ _ (by omega) (by omega) hs2 (by omega)).mono ?_; rintro r w1 ⟨rfl, rfl⟩) | fail)
  refine parse_door _ w.heap.size 61 (by decide) (blk_alloc (blk_new _ _) _) (blk_top (by simp)) ?_
  intro w9 k1 k2 k3
  have r0 := cell_of k1 0
  have r1 := cell_of k1 1
  have r2 := cell_of k1 2
  have r3 := cell_of k2 0
  simp only [List.getElem?_toArray, List.getElem?_cons_zero, List.getElem?_cons_succ] at r0 r1 r2 r3
  have hb := (((Below.refl w.heap.size w).alloc (Nat.le_refl _) (.cells #[.int .u32 0, .int .u32 0, .slice none 0 0] 25)).alloc (by simp) (.cells #[.int .i64 0] 27)).trans k3
  simp [Leaves, settle, results, Try.results16, go_sem, r0, r1, r2, r3]
  exact hb

set_option maxRecDepth 100000 in
set_option maxHeartbeats 800000 in
theorem parse_e6 (s : ByteArray) (N : Int → Int → Nat) (hN : Hid (∀ a n, num (toL s) a.toNat n.toNat = N a n)) (w : World) (hs : s.size ≤ 281474976710656) (h0 : 52 ≤ s.size) (h1 : (toL s).take 7 = magicL) (h2 : N 16 2 = 2) (h3 : N 18 2 = 243) (h4 : N 20 4 = 1) (h5 : N 40 2 = 52) (h6 : ¬ N 42 2 = 32) :
    Calls Try.prog 16 #[.string s] w fun r w' => r = .returned (.tuple #[.agg #[.int .u32 0, .int .u32 0, .slice none 0 0], .int .i64 61]) ∧ Below w.heap.size w w' := by
  have hs2 : s.size ≤ maxLen := by unfold maxLen; omega
  have d0 : decide ((52 : Int) ≤ (s.size : Int)) = true := decide_eq_true (by omega)
  have d1 : decide ((toL s).take 7 = magicL) = true := decide_eq_true h1
  clear h1
  have q2 : Hid (¬ ((N 16 2 : Nat) : Int) ≠ 2) := Lib.hid (by omega)
  clear h2
  have q3 : Hid (¬ ((N 18 2 : Nat) : Int) ≠ 243) := Lib.hid (by omega)
  clear h3
  have q4 : Hid (¬ ((N 20 4 : Nat) : Int) ≠ 1) := Lib.hid (by omega)
  clear h4
  have q5 : Hid (¬ ((N 40 2 : Nat) : Int) ≠ 52) := Lib.hid (by omega)
  clear h5
  have q6 : Hid (¬ ((N 42 2 : Nat) : Int) = 32) := Lib.hid (by omega)
  clear h6
  go_enter_defers Try.func16, Try.ntmps16
  go_wp2_with (first | (go_at_call 22; refine (must_any _ _ _).mono ?_; rintro r w1 ⟨rfl, ⟨hm, rfl⟩ | ⟨hm, rfl⟩⟩ <;> first | exact absurd hm (by decide) | clear hm) | (go_at_call 24; refine (prefix_magic s _).mono ?_; rintro r w1 ⟨rfl, rfl⟩) | (go_at_call 25; refine (same_int s N hN.out _ _ _ _ (by omega) (by omega) (by omega) hs2 (by omega)).mono ?_; rintro r w1 ⟨rfl, ⟨hm, rfl⟩ | ⟨hm, rfl⟩⟩ <;> first | exact absurd hm q2.out | exact absurd hm q3.out | exact absurd hm q4.out | exact absurd hm q5.out | exact absurd hm q6.out | clear hm) | (go_at_call 26; refine (num_int s N hN.out _ _ _ (by omega) (by omega) hs2 (by omega)).mono ?_; rintro r w1 ⟨rfl, rfl⟩) | fail)
  refine parse_door _ w.heap.size 61 (by decide) (blk_alloc (blk_new _ _) _) (blk_top (by simp)) ?_
  intro w9 k1 k2 k3
  have r0 := cell_of k1 0
  have r1 := cell_of k1 1
  have r2 := cell_of k1 2
  have r3 := cell_of k2 0
  simp only [List.getElem?_toArray, List.getElem?_cons_zero, List.getElem?_cons_succ] at r0 r1 r2 r3
  have hb := (((Below.refl w.heap.size w).alloc (Nat.le_refl _) (.cells #[.int .u32 0, .int .u32 0, .slice none 0 0] 25)).alloc (by simp) (.cells #[.int .i64 0] 27)).trans k3
  simp [Leaves, settle, results, Try.results16, go_sem, r0, r1, r2, r3]
  exact hb

set_option maxRecDepth 100000 in
set_option maxHeartbeats 800000 in
theorem parse_e7 (s : ByteArray) (N : Int → Int → Nat) (hN : Hid (∀ a n, num (toL s) a.toNat n.toNat = N a n)) (w : World) (hs : s.size ≤ 281474976710656) (h0 : 52 ≤ s.size) (h1 : (toL s).take 7 = magicL) (h2 : N 16 2 = 2) (h3 : N 18 2 = 243) (h4 : N 20 4 = 1) (h5 : N 40 2 = 52) (h6 : N 42 2 = 32) (h7 : 16 < N 44 2) :
    Calls Try.prog 16 #[.string s] w fun r w' => r = .returned (.tuple #[.agg #[.int .u32 0, .int .u32 0, .slice none 0 0], .int .i64 2]) ∧ Below w.heap.size w w' := by
  have hs2 : s.size ≤ maxLen := by unfold maxLen; omega
  have d0 : decide ((52 : Int) ≤ (s.size : Int)) = true := decide_eq_true (by omega)
  have d1 : decide ((toL s).take 7 = magicL) = true := decide_eq_true h1
  clear h1
  have q2 : Hid (¬ ((N 16 2 : Nat) : Int) ≠ 2) := Lib.hid (by omega)
  clear h2
  have q3 : Hid (¬ ((N 18 2 : Nat) : Int) ≠ 243) := Lib.hid (by omega)
  clear h3
  have q4 : Hid (¬ ((N 20 4 : Nat) : Int) ≠ 1) := Lib.hid (by omega)
  clear h4
  have q5 : Hid (¬ ((N 40 2 : Nat) : Int) ≠ 52) := Lib.hid (by omega)
  clear h5
  have q6 : Hid (¬ ((N 42 2 : Nat) : Int) ≠ 32) := Lib.hid (by omega)
  clear h6
  have d7 : decide ((N 44 2 : Int) ≤ 16) = false := decide_eq_false (by omega)
  go_enter_defers Try.func16, Try.ntmps16
  go_wp2_with (first | (go_at_call 22; refine (must_any _ _ _).mono ?_; rintro r w1 ⟨rfl, ⟨hm, rfl⟩ | ⟨hm, rfl⟩⟩ <;> first | exact absurd hm (by decide) | clear hm) | (go_at_call 24; refine (prefix_magic s _).mono ?_; rintro r w1 ⟨rfl, rfl⟩) | (go_at_call 25; refine (same_int s N hN.out _ _ _ _ (by omega) (by omega) (by omega) hs2 (by omega)).mono ?_; rintro r w1 ⟨rfl, ⟨hm, rfl⟩ | ⟨hm, rfl⟩⟩ <;> first | exact absurd hm q2.out | exact absurd hm q3.out | exact absurd hm q4.out | exact absurd hm q5.out | exact absurd hm q6.out | clear hm) | (go_at_call 26; refine (num_int s N hN.out _ _ _ (by omega) (by omega) hs2 (by omega)).mono ?_; rintro r w1 ⟨rfl, rfl⟩) | fail)
  refine parse_door _ w.heap.size 2 (by decide) (blk_alloc (blk_new _ _) _) (blk_top (by simp)) ?_
  intro w9 k1 k2 k3
  have r0 := cell_of k1 0
  have r1 := cell_of k1 1
  have r2 := cell_of k1 2
  have r3 := cell_of k2 0
  simp only [List.getElem?_toArray, List.getElem?_cons_zero, List.getElem?_cons_succ] at r0 r1 r2 r3
  have hb := (((Below.refl w.heap.size w).alloc (Nat.le_refl _) (.cells #[.int .u32 0, .int .u32 0, .slice none 0 0] 25)).alloc (by simp) (.cells #[.int .i64 0] 27)).trans k3
  simp [Leaves, settle, results, Try.results16, go_sem, r0, r1, r2, r3]
  exact hb

set_option maxRecDepth 100000 in
set_option maxHeartbeats 800000 in
theorem parse_e8 (s : ByteArray) (N : Int → Int → Nat) (hN : Hid (∀ a n, num (toL s) a.toNat n.toNat = N a n)) (w : World) (hs : s.size ≤ 281474976710656) (h0 : 52 ≤ s.size) (h1 : (toL s).take 7 = magicL) (h2 : N 16 2 = 2) (h3 : N 18 2 = 243) (h4 : N 20 4 = 1) (h5 : N 40 2 = 52) (h6 : N 42 2 = 32) (h7 : N 44 2 ≤ 16) (h8 : s.size < N 28 4 + 32 * N 44 2) :
    Calls Try.prog 16 #[.string s] w fun r w' => r = .returned (.tuple #[.agg #[.int .u32 0, .int .u32 0, .slice none 0 0], .int .i64 60]) ∧ Below w.heap.size w w' := by
  have hs2 : s.size ≤ maxLen := by unfold maxLen; omega
  have d0 : decide ((52 : Int) ≤ (s.size : Int)) = true := decide_eq_true (by omega)
  have d1 : decide ((toL s).take 7 = magicL) = true := decide_eq_true h1
  clear h1
  have q2 : Hid (¬ ((N 16 2 : Nat) : Int) ≠ 2) := Lib.hid (by omega)
  clear h2
  have q3 : Hid (¬ ((N 18 2 : Nat) : Int) ≠ 243) := Lib.hid (by omega)
  clear h3
  have q4 : Hid (¬ ((N 20 4 : Nat) : Int) ≠ 1) := Lib.hid (by omega)
  clear h4
  have q5 : Hid (¬ ((N 40 2 : Nat) : Int) ≠ 52) := Lib.hid (by omega)
  clear h5
  have q6 : Hid (¬ ((N 42 2 : Nat) : Int) ≠ 32) := Lib.hid (by omega)
  clear h6
  have d7 : decide ((N 44 2 : Int) ≤ 16) = true := decide_eq_true (by omega)
  have l28 : N 28 4 < 4294967296 := hN.out 28 4 ▸ num_lt4 _ _ (Nat.le_refl _)
  have hW1 : wrap64 ((N 44 2 : Int) * 32) = (N 44 2 : Int) * 32 := by unfold wrap64; omega
  have hW2 : wrap64 ((s.size : Int) - (N 28 4 : Int)) = (s.size : Int) - (N 28 4 : Int) := by unfold wrap64; omega
  by_cases h9 : N 28 4 ≤ s.size
  · have d8 : decide ((N 28 4 : Int) ≤ (s.size : Int)) = true := decide_eq_true (by omega)
    have d9 : decide ((N 44 2 : Int) * 32 ≤ (s.size : Int) - (N 28 4 : Int)) = false := decide_eq_false (by omega)
    go_enter_defers Try.func16, Try.ntmps16
    go_wp2_with (first | (go_at_call 22; refine (must_any _ _ _).mono ?_; rintro r w1 ⟨rfl, ⟨hm, rfl⟩ | ⟨hm, rfl⟩⟩ <;> first | exact absurd hm (by decide) | clear hm) | (go_at_call 24; refine (prefix_magic s _).mono ?_; rintro r w1 ⟨rfl, rfl⟩) | (go_at_call 25; refine (same_int s N hN.out _ _ _ _ (by omega) (by omega) (by omega) hs2 (by omega)).mono ?_; rintro r w1 ⟨rfl, ⟨hm, rfl⟩ | ⟨hm, rfl⟩⟩ <;> first | exact absurd hm q2.out | exact absurd hm q3.out | exact absurd hm q4.out | exact absurd hm q5.out | exact absurd hm q6.out | clear hm) | (go_at_call 26; refine (num_int s N hN.out _ _ _ (by omega) (by omega) hs2 (by omega)).mono ?_; rintro r w1 ⟨rfl, rfl⟩) | fail)
    refine parse_door _ w.heap.size 60 (by decide) (blk_alloc (blk_new _ _) _) (blk_top (by simp)) ?_
    intro w9 k1 k2 k3
    have r0 := cell_of k1 0
    have r1 := cell_of k1 1
    have r2 := cell_of k1 2
    have r3 := cell_of k2 0
    simp only [List.getElem?_toArray, List.getElem?_cons_zero, List.getElem?_cons_succ] at r0 r1 r2 r3
    have hb := (((Below.refl w.heap.size w).alloc (Nat.le_refl _) (.cells #[.int .u32 0, .int .u32 0, .slice none 0 0] 25)).alloc (by simp) (.cells #[.int .i64 0] 27)).trans k3
    simp [Leaves, settle, results, Try.results16, go_sem, r0, r1, r2, r3]
    exact hb
  · have d8 : decide ((N 28 4 : Int) ≤ (s.size : Int)) = false := decide_eq_false (by omega)
    go_enter_defers Try.func16, Try.ntmps16
    go_wp2_with (first | (go_at_call 22; refine (must_any _ _ _).mono ?_; rintro r w1 ⟨rfl, ⟨hm, rfl⟩ | ⟨hm, rfl⟩⟩ <;> first | exact absurd hm (by decide) | clear hm) | (go_at_call 24; refine (prefix_magic s _).mono ?_; rintro r w1 ⟨rfl, rfl⟩) | (go_at_call 25; refine (same_int s N hN.out _ _ _ _ (by omega) (by omega) (by omega) hs2 (by omega)).mono ?_; rintro r w1 ⟨rfl, ⟨hm, rfl⟩ | ⟨hm, rfl⟩⟩ <;> first | exact absurd hm q2.out | exact absurd hm q3.out | exact absurd hm q4.out | exact absurd hm q5.out | exact absurd hm q6.out | clear hm) | (go_at_call 26; refine (num_int s N hN.out _ _ _ (by omega) (by omega) hs2 (by omega)).mono ?_; rintro r w1 ⟨rfl, rfl⟩) | fail)
    refine parse_door _ w.heap.size 60 (by decide) (blk_alloc (blk_new _ _) _) (blk_top (by simp)) ?_
    intro w9 k1 k2 k3
    have r0 := cell_of k1 0
    have r1 := cell_of k1 1
    have r2 := cell_of k1 2
    have r3 := cell_of k2 0
    simp only [List.getElem?_toArray, List.getElem?_cons_zero, List.getElem?_cons_succ] at r0 r1 r2 r3
    have hb := (((Below.refl w.heap.size w).alloc (Nat.le_refl _) (.cells #[.int .u32 0, .int .u32 0, .slice none 0 0] 25)).alloc (by simp) (.cells #[.int .i64 0] 27)).trans k3
    simp [Leaves, settle, results, Try.results16, go_sem, r0, r1, r2, r3]
    exact hb
end Go.Proofs.Ytlpoebobfdmcmaa
