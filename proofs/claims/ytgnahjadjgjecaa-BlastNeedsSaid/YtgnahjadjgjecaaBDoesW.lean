/- blast: does. -/
import Derived.Test.YtgnahjadjgjecaaBShifted
import Derived.Test.YtgnahjadjgjecaaBBelow
set_option linter.unusedVariables false
set_option linter.unusedSimpArgs false
namespace Go.Proofs.Ytgnahjadjgjecaa
open Go.RowKit Go.Maps Go.MapKept

theorem lessW_set (c : Int) : setZ (wordW 0) 0 (-c) = lessW c := by
  funext r
  unfold setZ lessW wordW
  split
  · rfl
  · simp
theorem less_word (c : Int) (r : Nat) : setZ (wordW 0) 0 (-c) r = lessW c r := by rw [lessW_set]
set_option maxRecDepth 100000 in
set_option maxHeartbeats 8000000 in
theorem does_36 (K : Nat → Prop) (q : Nat) (gs : List Gate) (hG : GGood gs) (a b : Nat → Int) (ha : Lits gs a) (hb : Lits gs b) (hl : gs.length < 199000) (w : World) (h : QS K w q gs) :
    Calls Try.prog 33 #[.pointer (some ⟨q, 0, none⟩), .int .i64 36, .agg (zV a), .agg (zV b)] w (WordPost K w q (doesG 36 a b gs)) := by
  have hR0 : eachF andG a b gs 32 = doesG 36 a b gs := by unfold doesG; rw [if_neg (by decide), if_neg (by decide), if_pos rfl]
  have cx := fun K w h => each_and K q gs hG a b ha hb hl w h
  rw [hR0] at cx
  clear hR0
  generalize doesG 36 a b gs = R at *
  have hmf : ∀ (fn : Fn) (first cap : Array Value) (w : World), (Instr.makeFunc fn first cap).run Try.prog w = .ok (.func fn first cap) w := fun _ _ _ _ => rfl
  have b1 := (Below.refl w.heap.size w).alloc (Nat.le_refl _) (.cells (zV a) 60)
  have b2 := b1.alloc (by simp) (.cells (zV b) 60)
  have b3 := b2.alloc (by simp; omega) (.cells #[.int .i64 0, .int .i64 0, .int .i64 0, .int .i64 0, .int .i64 0, .int .i64 0, .int .i64 0, .int .i64 0, .int .i64 0, .int .i64 0, .int .i64 0, .int .i64 0, .int .i64 0, .int .i64 0, .int .i64 0, .int .i64 0, .int .i64 0, .int .i64 0, .int .i64 0, .int .i64 0, .int .i64 0, .int .i64 0, .int .i64 0, .int .i64 0, .int .i64 0, .int .i64 0, .int .i64 0, .int .i64 0, .int .i64 0, .int .i64 0, .int .i64 0, .int .i64 0] 60)
  have hz0 := blk_new w (.cells (zV a) 60)
  have hz1 := blk_new (w.alloc (.cells (zV a) 60)) (.cells (zV b) 60)
  have hz2 := blk_new ((w.alloc (.cells (zV a) 60)).alloc (.cells (zV b) 60)) (.cells #[.int .i64 0, .int .i64 0, .int .i64 0, .int .i64 0, .int .i64 0, .int .i64 0, .int .i64 0, .int .i64 0, .int .i64 0, .int .i64 0, .int .i64 0, .int .i64 0, .int .i64 0, .int .i64 0, .int .i64 0, .int .i64 0, .int .i64 0, .int .i64 0, .int .i64 0, .int .i64 0, .int .i64 0, .int .i64 0, .int .i64 0, .int .i64 0, .int .i64 0, .int .i64 0, .int .i64 0, .int .i64 0, .int .i64 0, .int .i64 0, .int .i64 0, .int .i64 0] 60)
  have hsz1 : (w.alloc (.cells (zV a) 60)).heap.size = w.heap.size + 1 := by simp
  have hsz2 : ((w.alloc (.cells (zV a) 60)).alloc (.cells (zV b) 60)).heap.size = w.heap.size + 2 := by simp
  have hsz3 : (((w.alloc (.cells (zV a) 60)).alloc (.cells (zV b) 60)).alloc (.cells #[.int .i64 0, .int .i64 0, .int .i64 0, .int .i64 0, .int .i64 0, .int .i64 0, .int .i64 0, .int .i64 0, .int .i64 0, .int .i64 0, .int .i64 0, .int .i64 0, .int .i64 0, .int .i64 0, .int .i64 0, .int .i64 0, .int .i64 0, .int .i64 0, .int .i64 0, .int .i64 0, .int .i64 0, .int .i64 0, .int .i64 0, .int .i64 0, .int .i64 0, .int .i64 0, .int .i64 0, .int .i64 0, .int .i64 0, .int .i64 0, .int .i64 0, .int .i64 0] 60)).heap.size = w.heap.size + 3 := by simp
  have hz0 := blk_alloc (blk_alloc hz0 (.cells (zV b) 60)) (.cells #[.int .i64 0, .int .i64 0, .int .i64 0, .int .i64 0, .int .i64 0, .int .i64 0, .int .i64 0, .int .i64 0, .int .i64 0, .int .i64 0, .int .i64 0, .int .i64 0, .int .i64 0, .int .i64 0, .int .i64 0, .int .i64 0, .int .i64 0, .int .i64 0, .int .i64 0, .int .i64 0, .int .i64 0, .int .i64 0, .int .i64 0, .int .i64 0, .int .i64 0, .int .i64 0, .int .i64 0, .int .i64 0, .int .i64 0, .int .i64 0, .int .i64 0, .int .i64 0] 60)
  have hz1 := blk_alloc hz1 (.cells #[.int .i64 0, .int .i64 0, .int .i64 0, .int .i64 0, .int .i64 0, .int .i64 0, .int .i64 0, .int .i64 0, .int .i64 0, .int .i64 0, .int .i64 0, .int .i64 0, .int .i64 0, .int .i64 0, .int .i64 0, .int .i64 0, .int .i64 0, .int .i64 0, .int .i64 0, .int .i64 0, .int .i64 0, .int .i64 0, .int .i64 0, .int .i64 0, .int .i64 0, .int .i64 0, .int .i64 0, .int .i64 0, .int .i64 0, .int .i64 0, .int .i64 0, .int .i64 0] 60)
  rw [hsz1] at hz1
  rw [hsz2] at hz2
  have hQ : QS (More K w (((w.alloc (.cells (zV a) 60)).alloc (.cells (zV b) 60)).alloc (.cells #[.int .i64 0, .int .i64 0, .int .i64 0, .int .i64 0, .int .i64 0, .int .i64 0, .int .i64 0, .int .i64 0, .int .i64 0, .int .i64 0, .int .i64 0, .int .i64 0, .int .i64 0, .int .i64 0, .int .i64 0, .int .i64 0, .int .i64 0, .int .i64 0, .int .i64 0, .int .i64 0, .int .i64 0, .int .i64 0, .int .i64 0, .int .i64 0, .int .i64 0, .int .i64 0, .int .i64 0, .int .i64 0, .int .i64 0, .int .i64 0, .int .i64 0, .int .i64 0] 60))) _ q gs := QAt.more h b3
  rw [zero_zV] at *
  generalize hw4 : (((w.alloc (.cells (zV a) 60)).alloc (.cells (zV b) 60)).alloc (.cells (zV fun _ => 0) 60)) = w4 at *
  have hk0 : ∀ j, j < 3 → More K w w4 (w.heap.size + j) := fun j hj => Or.inr ⟨Nat.le_add_right _ _, by omega⟩
  have kk : ∀ i, K i → More K w w4 i := fun i hi => Or.inl hi
  have hk4 : Kept K w w4 := Kept.below b3
  generalize More K w w4 = K1 at *
  have k0 := hk0 0 (by omega)
  have k1 := hk0 1 (by omega)
  have k2 := hk0 2 (by omega)
  rw [Nat.add_zero] at k0
  have hKin : ∀ i, K i → i < w.heap.size := QAt.in_ h
  have hlw : w.heap.size + 3 ≤ w4.heap.size := by omega
  have hA : ZAt 60 w4 w.heap.size a := hz0
  have hB : ZAt 60 w4 (w.heap.size + 1) b := hz1
  have hR : ZAt 60 w4 (w.heap.size + 2) (fun _ => 0) := hz2
  have hA' := hA
  have hB' := hB
  clear hk0 b1 b2 b3 hsz1 hsz2 hsz3 h hz0 hz1 hz2
  subst hw4
  rw [← zero_zV] at hA' hB'
  go_enter Try.func33, Try.ntmps33
  go_wp2_with (first | (refine wpList_load_row rfl 60 (.tmp 6) rfl w.heap.size rfl 60 (zV a) (0, 0) _ hA' Try.underlying60 rfl (by rw [zV_size]; exact info_bits) ?_) | (refine wpList_load_row rfl 60 (.tmp 7) rfl (w.heap.size + 1) rfl 60 (zV b) (0, 0) _ hB' Try.underlying60 rfl (by rw [zV_size]; exact info_bits) ?_) | fail)
  rw [zero_zV]
  generalize hw4 : (((w.alloc (.cells (zV a) 60)).alloc (.cells (zV b) 60)).alloc (.cells (zV fun _ => 0) 60)) = w4 at *
  clear hw4 hA' hB'
  refine (cx K1 _ hQ).mono ?_
  rintro r w5 ⟨rfl, hQ5, k5⟩
  have hR5 := hR.kept k5 k2
  have hk5 := hk4.trans (k5.mono kk)
  clear hR hQ hA hB k5 hk4
  go_wp2_with (first | (refine wpList_store_row rfl 60 (.tmp 8) (.tmp 42) rfl (w.heap.size + 2) (zV R.2) rfl rfl 60 _ hR5 (by rw [zV_size]; exact info_bits) (by rw [zV_size, zV_size]) (one_zV _) ?_) | fail)
  exact bodyPost_ret (v := .agg (zV R.2)) (results_cell_row rfl _ _ (w.heap.size + 2) 60 (zV R.2) (0, 0) _ rfl (setRow_heap _ _ _ _ _ _ hR5) Try.underlying60 rfl (by rw [zV_size]; exact info_bits)) rfl ⟨rfl, QAt.mono (QAt.moved hQ5 (row_kept _ _ _) k2) kk, hk5.trans ((row_kept _ _ _).mono fun i hi => by have := hKin i hi; show i ≠ w.heap.size + 2; omega)⟩
set_option maxRecDepth 100000 in
set_option maxHeartbeats 8000000 in
theorem does_35 (K : Nat → Prop) (q : Nat) (gs : List Gate) (hG : GGood gs) (a b : Nat → Int) (ha : Lits gs a) (hb : Lits gs b) (hl : gs.length < 199000) (w : World) (h : QS K w q gs) :
    Calls Try.prog 33 #[.pointer (some ⟨q, 0, none⟩), .int .i64 35, .agg (zV a), .agg (zV b)] w (WordPost K w q (doesG 35 a b gs)) := by
  have hR0 : eachF orG a b gs 32 = doesG 35 a b gs := by unfold doesG; rw [if_neg (by decide), if_neg (by decide), if_neg (by decide), if_pos rfl]
  have cx := fun K w h => each_or K q gs hG a b ha hb hl w h
  rw [hR0] at cx
  clear hR0
  generalize doesG 35 a b gs = R at *
  have hmf : ∀ (fn : Fn) (first cap : Array Value) (w : World), (Instr.makeFunc fn first cap).run Try.prog w = .ok (.func fn first cap) w := fun _ _ _ _ => rfl
  have b1 := (Below.refl w.heap.size w).alloc (Nat.le_refl _) (.cells (zV a) 60)
  have b2 := b1.alloc (by simp) (.cells (zV b) 60)
  have b3 := b2.alloc (by simp; omega) (.cells #[.int .i64 0, .int .i64 0, .int .i64 0, .int .i64 0, .int .i64 0, .int .i64 0, .int .i64 0, .int .i64 0, .int .i64 0, .int .i64 0, .int .i64 0, .int .i64 0, .int .i64 0, .int .i64 0, .int .i64 0, .int .i64 0, .int .i64 0, .int .i64 0, .int .i64 0, .int .i64 0, .int .i64 0, .int .i64 0, .int .i64 0, .int .i64 0, .int .i64 0, .int .i64 0, .int .i64 0, .int .i64 0, .int .i64 0, .int .i64 0, .int .i64 0, .int .i64 0] 60)
  have hz0 := blk_new w (.cells (zV a) 60)
  have hz1 := blk_new (w.alloc (.cells (zV a) 60)) (.cells (zV b) 60)
  have hz2 := blk_new ((w.alloc (.cells (zV a) 60)).alloc (.cells (zV b) 60)) (.cells #[.int .i64 0, .int .i64 0, .int .i64 0, .int .i64 0, .int .i64 0, .int .i64 0, .int .i64 0, .int .i64 0, .int .i64 0, .int .i64 0, .int .i64 0, .int .i64 0, .int .i64 0, .int .i64 0, .int .i64 0, .int .i64 0, .int .i64 0, .int .i64 0, .int .i64 0, .int .i64 0, .int .i64 0, .int .i64 0, .int .i64 0, .int .i64 0, .int .i64 0, .int .i64 0, .int .i64 0, .int .i64 0, .int .i64 0, .int .i64 0, .int .i64 0, .int .i64 0] 60)
  have hsz1 : (w.alloc (.cells (zV a) 60)).heap.size = w.heap.size + 1 := by simp
  have hsz2 : ((w.alloc (.cells (zV a) 60)).alloc (.cells (zV b) 60)).heap.size = w.heap.size + 2 := by simp
  have hsz3 : (((w.alloc (.cells (zV a) 60)).alloc (.cells (zV b) 60)).alloc (.cells #[.int .i64 0, .int .i64 0, .int .i64 0, .int .i64 0, .int .i64 0, .int .i64 0, .int .i64 0, .int .i64 0, .int .i64 0, .int .i64 0, .int .i64 0, .int .i64 0, .int .i64 0, .int .i64 0, .int .i64 0, .int .i64 0, .int .i64 0, .int .i64 0, .int .i64 0, .int .i64 0, .int .i64 0, .int .i64 0, .int .i64 0, .int .i64 0, .int .i64 0, .int .i64 0, .int .i64 0, .int .i64 0, .int .i64 0, .int .i64 0, .int .i64 0, .int .i64 0] 60)).heap.size = w.heap.size + 3 := by simp
  have hz0 := blk_alloc (blk_alloc hz0 (.cells (zV b) 60)) (.cells #[.int .i64 0, .int .i64 0, .int .i64 0, .int .i64 0, .int .i64 0, .int .i64 0, .int .i64 0, .int .i64 0, .int .i64 0, .int .i64 0, .int .i64 0, .int .i64 0, .int .i64 0, .int .i64 0, .int .i64 0, .int .i64 0, .int .i64 0, .int .i64 0, .int .i64 0, .int .i64 0, .int .i64 0, .int .i64 0, .int .i64 0, .int .i64 0, .int .i64 0, .int .i64 0, .int .i64 0, .int .i64 0, .int .i64 0, .int .i64 0, .int .i64 0, .int .i64 0] 60)
  have hz1 := blk_alloc hz1 (.cells #[.int .i64 0, .int .i64 0, .int .i64 0, .int .i64 0, .int .i64 0, .int .i64 0, .int .i64 0, .int .i64 0, .int .i64 0, .int .i64 0, .int .i64 0, .int .i64 0, .int .i64 0, .int .i64 0, .int .i64 0, .int .i64 0, .int .i64 0, .int .i64 0, .int .i64 0, .int .i64 0, .int .i64 0, .int .i64 0, .int .i64 0, .int .i64 0, .int .i64 0, .int .i64 0, .int .i64 0, .int .i64 0, .int .i64 0, .int .i64 0, .int .i64 0, .int .i64 0] 60)
  rw [hsz1] at hz1
  rw [hsz2] at hz2
  have hQ : QS (More K w (((w.alloc (.cells (zV a) 60)).alloc (.cells (zV b) 60)).alloc (.cells #[.int .i64 0, .int .i64 0, .int .i64 0, .int .i64 0, .int .i64 0, .int .i64 0, .int .i64 0, .int .i64 0, .int .i64 0, .int .i64 0, .int .i64 0, .int .i64 0, .int .i64 0, .int .i64 0, .int .i64 0, .int .i64 0, .int .i64 0, .int .i64 0, .int .i64 0, .int .i64 0, .int .i64 0, .int .i64 0, .int .i64 0, .int .i64 0, .int .i64 0, .int .i64 0, .int .i64 0, .int .i64 0, .int .i64 0, .int .i64 0, .int .i64 0, .int .i64 0] 60))) _ q gs := QAt.more h b3
  rw [zero_zV] at *
  generalize hw4 : (((w.alloc (.cells (zV a) 60)).alloc (.cells (zV b) 60)).alloc (.cells (zV fun _ => 0) 60)) = w4 at *
  have hk0 : ∀ j, j < 3 → More K w w4 (w.heap.size + j) := fun j hj => Or.inr ⟨Nat.le_add_right _ _, by omega⟩
  have kk : ∀ i, K i → More K w w4 i := fun i hi => Or.inl hi
  have hk4 : Kept K w w4 := Kept.below b3
  generalize More K w w4 = K1 at *
  have k0 := hk0 0 (by omega)
  have k1 := hk0 1 (by omega)
  have k2 := hk0 2 (by omega)
  rw [Nat.add_zero] at k0
  have hKin : ∀ i, K i → i < w.heap.size := QAt.in_ h
  have hlw : w.heap.size + 3 ≤ w4.heap.size := by omega
  have hA : ZAt 60 w4 w.heap.size a := hz0
  have hB : ZAt 60 w4 (w.heap.size + 1) b := hz1
  have hR : ZAt 60 w4 (w.heap.size + 2) (fun _ => 0) := hz2
  have hA' := hA
  have hB' := hB
  clear hk0 b1 b2 b3 hsz1 hsz2 hsz3 h hz0 hz1 hz2
  subst hw4
  rw [← zero_zV] at hA' hB'
  go_enter Try.func33, Try.ntmps33
  go_wp2_with (first | (refine wpList_load_row rfl 60 (.tmp 6) rfl w.heap.size rfl 60 (zV a) (0, 0) _ hA' Try.underlying60 rfl (by rw [zV_size]; exact info_bits) ?_) | (refine wpList_load_row rfl 60 (.tmp 7) rfl (w.heap.size + 1) rfl 60 (zV b) (0, 0) _ hB' Try.underlying60 rfl (by rw [zV_size]; exact info_bits) ?_) | fail)
  rw [zero_zV]
  generalize hw4 : (((w.alloc (.cells (zV a) 60)).alloc (.cells (zV b) 60)).alloc (.cells (zV fun _ => 0) 60)) = w4 at *
  clear hw4 hA' hB'
  refine (cx K1 _ hQ).mono ?_
  rintro r w5 ⟨rfl, hQ5, k5⟩
  have hR5 := hR.kept k5 k2
  have hk5 := hk4.trans (k5.mono kk)
  clear hR hQ hA hB k5 hk4
  go_wp2_with (first | (refine wpList_store_row rfl 60 (.tmp 8) (.tmp 49) rfl (w.heap.size + 2) (zV R.2) rfl rfl 60 _ hR5 (by rw [zV_size]; exact info_bits) (by rw [zV_size, zV_size]) (one_zV _) ?_) | fail)
  exact bodyPost_ret (v := .agg (zV R.2)) (results_cell_row rfl _ _ (w.heap.size + 2) 60 (zV R.2) (0, 0) _ rfl (setRow_heap _ _ _ _ _ _ hR5) Try.underlying60 rfl (by rw [zV_size]; exact info_bits)) rfl ⟨rfl, QAt.mono (QAt.moved hQ5 (row_kept _ _ _) k2) kk, hk5.trans ((row_kept _ _ _).mono fun i hi => by have := hKin i hi; show i ≠ w.heap.size + 2; omega)⟩
set_option maxRecDepth 100000 in
set_option maxHeartbeats 8000000 in
theorem does_32 (K : Nat → Prop) (q : Nat) (gs : List Gate) (hG : GGood gs) (a b : Nat → Int) (ha : Lits gs a) (hb : Lits gs b) (hl : gs.length < 199000) (w : World) (h : QS K w q gs) :
    Calls Try.prog 33 #[.pointer (some ⟨q, 0, none⟩), .int .i64 32, .agg (zV a), .agg (zV b)] w (WordPost K w q (doesG 32 a b gs)) := by
  have hR0 : eachF xorG a b gs 32 = doesG 32 a b gs := by unfold doesG; rw [if_neg (by decide), if_neg (by decide), if_neg (by decide), if_neg (by decide), if_pos rfl]
  have cx := fun K w h => each_xor K q gs hG a b ha hb hl w h
  rw [hR0] at cx
  clear hR0
  generalize doesG 32 a b gs = R at *
  have hmf : ∀ (fn : Fn) (first cap : Array Value) (w : World), (Instr.makeFunc fn first cap).run Try.prog w = .ok (.func fn first cap) w := fun _ _ _ _ => rfl
  have b1 := (Below.refl w.heap.size w).alloc (Nat.le_refl _) (.cells (zV a) 60)
  have b2 := b1.alloc (by simp) (.cells (zV b) 60)
  have b3 := b2.alloc (by simp; omega) (.cells #[.int .i64 0, .int .i64 0, .int .i64 0, .int .i64 0, .int .i64 0, .int .i64 0, .int .i64 0, .int .i64 0, .int .i64 0, .int .i64 0, .int .i64 0, .int .i64 0, .int .i64 0, .int .i64 0, .int .i64 0, .int .i64 0, .int .i64 0, .int .i64 0, .int .i64 0, .int .i64 0, .int .i64 0, .int .i64 0, .int .i64 0, .int .i64 0, .int .i64 0, .int .i64 0, .int .i64 0, .int .i64 0, .int .i64 0, .int .i64 0, .int .i64 0, .int .i64 0] 60)
  have hz0 := blk_new w (.cells (zV a) 60)
  have hz1 := blk_new (w.alloc (.cells (zV a) 60)) (.cells (zV b) 60)
  have hz2 := blk_new ((w.alloc (.cells (zV a) 60)).alloc (.cells (zV b) 60)) (.cells #[.int .i64 0, .int .i64 0, .int .i64 0, .int .i64 0, .int .i64 0, .int .i64 0, .int .i64 0, .int .i64 0, .int .i64 0, .int .i64 0, .int .i64 0, .int .i64 0, .int .i64 0, .int .i64 0, .int .i64 0, .int .i64 0, .int .i64 0, .int .i64 0, .int .i64 0, .int .i64 0, .int .i64 0, .int .i64 0, .int .i64 0, .int .i64 0, .int .i64 0, .int .i64 0, .int .i64 0, .int .i64 0, .int .i64 0, .int .i64 0, .int .i64 0, .int .i64 0] 60)
  have hsz1 : (w.alloc (.cells (zV a) 60)).heap.size = w.heap.size + 1 := by simp
  have hsz2 : ((w.alloc (.cells (zV a) 60)).alloc (.cells (zV b) 60)).heap.size = w.heap.size + 2 := by simp
  have hsz3 : (((w.alloc (.cells (zV a) 60)).alloc (.cells (zV b) 60)).alloc (.cells #[.int .i64 0, .int .i64 0, .int .i64 0, .int .i64 0, .int .i64 0, .int .i64 0, .int .i64 0, .int .i64 0, .int .i64 0, .int .i64 0, .int .i64 0, .int .i64 0, .int .i64 0, .int .i64 0, .int .i64 0, .int .i64 0, .int .i64 0, .int .i64 0, .int .i64 0, .int .i64 0, .int .i64 0, .int .i64 0, .int .i64 0, .int .i64 0, .int .i64 0, .int .i64 0, .int .i64 0, .int .i64 0, .int .i64 0, .int .i64 0, .int .i64 0, .int .i64 0] 60)).heap.size = w.heap.size + 3 := by simp
  have hz0 := blk_alloc (blk_alloc hz0 (.cells (zV b) 60)) (.cells #[.int .i64 0, .int .i64 0, .int .i64 0, .int .i64 0, .int .i64 0, .int .i64 0, .int .i64 0, .int .i64 0, .int .i64 0, .int .i64 0, .int .i64 0, .int .i64 0, .int .i64 0, .int .i64 0, .int .i64 0, .int .i64 0, .int .i64 0, .int .i64 0, .int .i64 0, .int .i64 0, .int .i64 0, .int .i64 0, .int .i64 0, .int .i64 0, .int .i64 0, .int .i64 0, .int .i64 0, .int .i64 0, .int .i64 0, .int .i64 0, .int .i64 0, .int .i64 0] 60)
  have hz1 := blk_alloc hz1 (.cells #[.int .i64 0, .int .i64 0, .int .i64 0, .int .i64 0, .int .i64 0, .int .i64 0, .int .i64 0, .int .i64 0, .int .i64 0, .int .i64 0, .int .i64 0, .int .i64 0, .int .i64 0, .int .i64 0, .int .i64 0, .int .i64 0, .int .i64 0, .int .i64 0, .int .i64 0, .int .i64 0, .int .i64 0, .int .i64 0, .int .i64 0, .int .i64 0, .int .i64 0, .int .i64 0, .int .i64 0, .int .i64 0, .int .i64 0, .int .i64 0, .int .i64 0, .int .i64 0] 60)
  rw [hsz1] at hz1
  rw [hsz2] at hz2
  have hQ : QS (More K w (((w.alloc (.cells (zV a) 60)).alloc (.cells (zV b) 60)).alloc (.cells #[.int .i64 0, .int .i64 0, .int .i64 0, .int .i64 0, .int .i64 0, .int .i64 0, .int .i64 0, .int .i64 0, .int .i64 0, .int .i64 0, .int .i64 0, .int .i64 0, .int .i64 0, .int .i64 0, .int .i64 0, .int .i64 0, .int .i64 0, .int .i64 0, .int .i64 0, .int .i64 0, .int .i64 0, .int .i64 0, .int .i64 0, .int .i64 0, .int .i64 0, .int .i64 0, .int .i64 0, .int .i64 0, .int .i64 0, .int .i64 0, .int .i64 0, .int .i64 0] 60))) _ q gs := QAt.more h b3
  rw [zero_zV] at *
  generalize hw4 : (((w.alloc (.cells (zV a) 60)).alloc (.cells (zV b) 60)).alloc (.cells (zV fun _ => 0) 60)) = w4 at *
  have hk0 : ∀ j, j < 3 → More K w w4 (w.heap.size + j) := fun j hj => Or.inr ⟨Nat.le_add_right _ _, by omega⟩
  have kk : ∀ i, K i → More K w w4 i := fun i hi => Or.inl hi
  have hk4 : Kept K w w4 := Kept.below b3
  generalize More K w w4 = K1 at *
  have k0 := hk0 0 (by omega)
  have k1 := hk0 1 (by omega)
  have k2 := hk0 2 (by omega)
  rw [Nat.add_zero] at k0
  have hKin : ∀ i, K i → i < w.heap.size := QAt.in_ h
  have hlw : w.heap.size + 3 ≤ w4.heap.size := by omega
  have hA : ZAt 60 w4 w.heap.size a := hz0
  have hB : ZAt 60 w4 (w.heap.size + 1) b := hz1
  have hR : ZAt 60 w4 (w.heap.size + 2) (fun _ => 0) := hz2
  have hA' := hA
  have hB' := hB
  clear hk0 b1 b2 b3 hsz1 hsz2 hsz3 h hz0 hz1 hz2
  subst hw4
  rw [← zero_zV] at hA' hB'
  go_enter Try.func33, Try.ntmps33
  go_wp2_with (first | (refine wpList_load_row rfl 60 (.tmp 6) rfl w.heap.size rfl 60 (zV a) (0, 0) _ hA' Try.underlying60 rfl (by rw [zV_size]; exact info_bits) ?_) | (refine wpList_load_row rfl 60 (.tmp 7) rfl (w.heap.size + 1) rfl 60 (zV b) (0, 0) _ hB' Try.underlying60 rfl (by rw [zV_size]; exact info_bits) ?_) | fail)
  rw [zero_zV]
  generalize hw4 : (((w.alloc (.cells (zV a) 60)).alloc (.cells (zV b) 60)).alloc (.cells (zV fun _ => 0) 60)) = w4 at *
  clear hw4 hA' hB'
  refine (cx K1 _ hQ).mono ?_
  rintro r w5 ⟨rfl, hQ5, k5⟩
  have hR5 := hR.kept k5 k2
  have hk5 := hk4.trans (k5.mono kk)
  clear hR hQ hA hB k5 hk4
  go_wp2_with (first | (refine wpList_store_row rfl 60 (.tmp 8) (.tmp 56) rfl (w.heap.size + 2) (zV R.2) rfl rfl 60 _ hR5 (by rw [zV_size]; exact info_bits) (by rw [zV_size, zV_size]) (one_zV _) ?_) | fail)
  exact bodyPost_ret (v := .agg (zV R.2)) (results_cell_row rfl _ _ (w.heap.size + 2) 60 (zV R.2) (0, 0) _ rfl (setRow_heap _ _ _ _ _ _ hR5) Try.underlying60 rfl (by rw [zV_size]; exact info_bits)) rfl ⟨rfl, QAt.mono (QAt.moved hQ5 (row_kept _ _ _) k2) kk, hk5.trans ((row_kept _ _ _).mono fun i hi => by have := hKin i hi; show i ≠ w.heap.size + 2; omega)⟩
set_option maxRecDepth 100000 in
set_option maxHeartbeats 8000000 in
theorem does_29 (K : Nat → Prop) (q : Nat) (gs : List Gate) (hG : GGood gs) (a b : Nat → Int) (ha : Lits gs a) (hb : Lits gs b) (hl : gs.length < 199000) (w : World) (h : QS K w q gs) :
    Calls Try.prog 33 #[.pointer (some ⟨q, 0, none⟩), .int .i64 29, .agg (zV a), .agg (zV b)] w (WordPost K w q (doesG 29 a b gs)) := by
  have hR0 : shiftF 29 a b (fillW 29 a) gs 5 = doesG 29 a b gs := by unfold doesG; rw [if_neg (by decide), if_neg (by decide), if_neg (by decide), if_neg (by decide), if_neg (by decide), if_neg (by decide), if_neg (by decide)]
  have cx := fun K w h => shifted_29 K q gs hG a b ha hb hl w h
  rw [hR0] at cx
  clear hR0
  generalize doesG 29 a b gs = R at *
  have hmf : ∀ (fn : Fn) (first cap : Array Value) (w : World), (Instr.makeFunc fn first cap).run Try.prog w = .ok (.func fn first cap) w := fun _ _ _ _ => rfl
  have b1 := (Below.refl w.heap.size w).alloc (Nat.le_refl _) (.cells (zV a) 60)
  have b2 := b1.alloc (by simp) (.cells (zV b) 60)
  have b3 := b2.alloc (by simp; omega) (.cells #[.int .i64 0, .int .i64 0, .int .i64 0, .int .i64 0, .int .i64 0, .int .i64 0, .int .i64 0, .int .i64 0, .int .i64 0, .int .i64 0, .int .i64 0, .int .i64 0, .int .i64 0, .int .i64 0, .int .i64 0, .int .i64 0, .int .i64 0, .int .i64 0, .int .i64 0, .int .i64 0, .int .i64 0, .int .i64 0, .int .i64 0, .int .i64 0, .int .i64 0, .int .i64 0, .int .i64 0, .int .i64 0, .int .i64 0, .int .i64 0, .int .i64 0, .int .i64 0] 60)
  have hz0 := blk_new w (.cells (zV a) 60)
  have hz1 := blk_new (w.alloc (.cells (zV a) 60)) (.cells (zV b) 60)
  have hz2 := blk_new ((w.alloc (.cells (zV a) 60)).alloc (.cells (zV b) 60)) (.cells #[.int .i64 0, .int .i64 0, .int .i64 0, .int .i64 0, .int .i64 0, .int .i64 0, .int .i64 0, .int .i64 0, .int .i64 0, .int .i64 0, .int .i64 0, .int .i64 0, .int .i64 0, .int .i64 0, .int .i64 0, .int .i64 0, .int .i64 0, .int .i64 0, .int .i64 0, .int .i64 0, .int .i64 0, .int .i64 0, .int .i64 0, .int .i64 0, .int .i64 0, .int .i64 0, .int .i64 0, .int .i64 0, .int .i64 0, .int .i64 0, .int .i64 0, .int .i64 0] 60)
  have hsz1 : (w.alloc (.cells (zV a) 60)).heap.size = w.heap.size + 1 := by simp
  have hsz2 : ((w.alloc (.cells (zV a) 60)).alloc (.cells (zV b) 60)).heap.size = w.heap.size + 2 := by simp
  have hsz3 : (((w.alloc (.cells (zV a) 60)).alloc (.cells (zV b) 60)).alloc (.cells #[.int .i64 0, .int .i64 0, .int .i64 0, .int .i64 0, .int .i64 0, .int .i64 0, .int .i64 0, .int .i64 0, .int .i64 0, .int .i64 0, .int .i64 0, .int .i64 0, .int .i64 0, .int .i64 0, .int .i64 0, .int .i64 0, .int .i64 0, .int .i64 0, .int .i64 0, .int .i64 0, .int .i64 0, .int .i64 0, .int .i64 0, .int .i64 0, .int .i64 0, .int .i64 0, .int .i64 0, .int .i64 0, .int .i64 0, .int .i64 0, .int .i64 0, .int .i64 0] 60)).heap.size = w.heap.size + 3 := by simp
  have hz0 := blk_alloc (blk_alloc hz0 (.cells (zV b) 60)) (.cells #[.int .i64 0, .int .i64 0, .int .i64 0, .int .i64 0, .int .i64 0, .int .i64 0, .int .i64 0, .int .i64 0, .int .i64 0, .int .i64 0, .int .i64 0, .int .i64 0, .int .i64 0, .int .i64 0, .int .i64 0, .int .i64 0, .int .i64 0, .int .i64 0, .int .i64 0, .int .i64 0, .int .i64 0, .int .i64 0, .int .i64 0, .int .i64 0, .int .i64 0, .int .i64 0, .int .i64 0, .int .i64 0, .int .i64 0, .int .i64 0, .int .i64 0, .int .i64 0] 60)
  have hz1 := blk_alloc hz1 (.cells #[.int .i64 0, .int .i64 0, .int .i64 0, .int .i64 0, .int .i64 0, .int .i64 0, .int .i64 0, .int .i64 0, .int .i64 0, .int .i64 0, .int .i64 0, .int .i64 0, .int .i64 0, .int .i64 0, .int .i64 0, .int .i64 0, .int .i64 0, .int .i64 0, .int .i64 0, .int .i64 0, .int .i64 0, .int .i64 0, .int .i64 0, .int .i64 0, .int .i64 0, .int .i64 0, .int .i64 0, .int .i64 0, .int .i64 0, .int .i64 0, .int .i64 0, .int .i64 0] 60)
  rw [hsz1] at hz1
  rw [hsz2] at hz2
  have hQ : QS (More K w (((w.alloc (.cells (zV a) 60)).alloc (.cells (zV b) 60)).alloc (.cells #[.int .i64 0, .int .i64 0, .int .i64 0, .int .i64 0, .int .i64 0, .int .i64 0, .int .i64 0, .int .i64 0, .int .i64 0, .int .i64 0, .int .i64 0, .int .i64 0, .int .i64 0, .int .i64 0, .int .i64 0, .int .i64 0, .int .i64 0, .int .i64 0, .int .i64 0, .int .i64 0, .int .i64 0, .int .i64 0, .int .i64 0, .int .i64 0, .int .i64 0, .int .i64 0, .int .i64 0, .int .i64 0, .int .i64 0, .int .i64 0, .int .i64 0, .int .i64 0] 60))) _ q gs := QAt.more h b3
  rw [zero_zV] at *
  generalize hw4 : (((w.alloc (.cells (zV a) 60)).alloc (.cells (zV b) 60)).alloc (.cells (zV fun _ => 0) 60)) = w4 at *
  have hk0 : ∀ j, j < 3 → More K w w4 (w.heap.size + j) := fun j hj => Or.inr ⟨Nat.le_add_right _ _, by omega⟩
  have kk : ∀ i, K i → More K w w4 i := fun i hi => Or.inl hi
  have hk4 : Kept K w w4 := Kept.below b3
  generalize More K w w4 = K1 at *
  have k0 := hk0 0 (by omega)
  have k1 := hk0 1 (by omega)
  have k2 := hk0 2 (by omega)
  rw [Nat.add_zero] at k0
  have hKin : ∀ i, K i → i < w.heap.size := QAt.in_ h
  have hlw : w.heap.size + 3 ≤ w4.heap.size := by omega
  have hA : ZAt 60 w4 w.heap.size a := hz0
  have hB : ZAt 60 w4 (w.heap.size + 1) b := hz1
  have hR : ZAt 60 w4 (w.heap.size + 2) (fun _ => 0) := hz2
  have hA' := hA
  have hB' := hB
  clear hk0 b1 b2 b3 hsz1 hsz2 hsz3 h hz0 hz1 hz2
  subst hw4
  rw [← zero_zV] at hA' hB'
  go_enter Try.func33, Try.ntmps33
  go_wp2_with (first | (refine wpList_load_row rfl 60 (.tmp 6) rfl w.heap.size rfl 60 (zV a) (0, 0) _ hA' Try.underlying60 rfl (by rw [zV_size]; exact info_bits) ?_) | (refine wpList_load_row rfl 60 (.tmp 7) rfl (w.heap.size + 1) rfl 60 (zV b) (0, 0) _ hB' Try.underlying60 rfl (by rw [zV_size]; exact info_bits) ?_) | fail)
  rw [zero_zV]
  generalize hw4 : (((w.alloc (.cells (zV a) 60)).alloc (.cells (zV b) 60)).alloc (.cells (zV fun _ => 0) 60)) = w4 at *
  clear hw4 hA' hB'
  refine (cx K1 _ hQ).mono ?_
  rintro r w5 ⟨rfl, hQ5, k5⟩
  have hR5 := hR.kept k5 k2
  have hk5 := hk4.trans (k5.mono kk)
  clear hR hQ hA hB k5 hk4
  go_wp2_with (first | (refine wpList_store_row rfl 60 (.tmp 8) (.tmp 65) rfl (w.heap.size + 2) (zV R.2) rfl rfl 60 _ hR5 (by rw [zV_size]; exact info_bits) (by rw [zV_size, zV_size]) (one_zV _) ?_) | fail)
  exact bodyPost_ret (v := .agg (zV R.2)) (results_cell_row rfl _ _ (w.heap.size + 2) 60 (zV R.2) (0, 0) _ rfl (setRow_heap _ _ _ _ _ _ hR5) Try.underlying60 rfl (by rw [zV_size]; exact info_bits)) rfl ⟨rfl, QAt.mono (QAt.moved hQ5 (row_kept _ _ _) k2) kk, hk5.trans ((row_kept _ _ _).mono fun i hi => by have := hKin i hi; show i ≠ w.heap.size + 2; omega)⟩
set_option maxRecDepth 100000 in
set_option maxHeartbeats 8000000 in
theorem does_33 (K : Nat → Prop) (q : Nat) (gs : List Gate) (hG : GGood gs) (a b : Nat → Int) (ha : Lits gs a) (hb : Lits gs b) (hl : gs.length < 199000) (w : World) (h : QS K w q gs) :
    Calls Try.prog 33 #[.pointer (some ⟨q, 0, none⟩), .int .i64 33, .agg (zV a), .agg (zV b)] w (WordPost K w q (doesG 33 a b gs)) := by
  have hR0 : shiftF 33 a b (fillW 33 a) gs 5 = doesG 33 a b gs := by unfold doesG; rw [if_neg (by decide), if_neg (by decide), if_neg (by decide), if_neg (by decide), if_neg (by decide), if_neg (by decide), if_neg (by decide)]
  have cx := fun K w h => shifted_33 K q gs hG a b ha hb hl w h
  rw [hR0] at cx
  clear hR0
  generalize doesG 33 a b gs = R at *
  have hmf : ∀ (fn : Fn) (first cap : Array Value) (w : World), (Instr.makeFunc fn first cap).run Try.prog w = .ok (.func fn first cap) w := fun _ _ _ _ => rfl
  have b1 := (Below.refl w.heap.size w).alloc (Nat.le_refl _) (.cells (zV a) 60)
  have b2 := b1.alloc (by simp) (.cells (zV b) 60)
  have b3 := b2.alloc (by simp; omega) (.cells #[.int .i64 0, .int .i64 0, .int .i64 0, .int .i64 0, .int .i64 0, .int .i64 0, .int .i64 0, .int .i64 0, .int .i64 0, .int .i64 0, .int .i64 0, .int .i64 0, .int .i64 0, .int .i64 0, .int .i64 0, .int .i64 0, .int .i64 0, .int .i64 0, .int .i64 0, .int .i64 0, .int .i64 0, .int .i64 0, .int .i64 0, .int .i64 0, .int .i64 0, .int .i64 0, .int .i64 0, .int .i64 0, .int .i64 0, .int .i64 0, .int .i64 0, .int .i64 0] 60)
  have hz0 := blk_new w (.cells (zV a) 60)
  have hz1 := blk_new (w.alloc (.cells (zV a) 60)) (.cells (zV b) 60)
  have hz2 := blk_new ((w.alloc (.cells (zV a) 60)).alloc (.cells (zV b) 60)) (.cells #[.int .i64 0, .int .i64 0, .int .i64 0, .int .i64 0, .int .i64 0, .int .i64 0, .int .i64 0, .int .i64 0, .int .i64 0, .int .i64 0, .int .i64 0, .int .i64 0, .int .i64 0, .int .i64 0, .int .i64 0, .int .i64 0, .int .i64 0, .int .i64 0, .int .i64 0, .int .i64 0, .int .i64 0, .int .i64 0, .int .i64 0, .int .i64 0, .int .i64 0, .int .i64 0, .int .i64 0, .int .i64 0, .int .i64 0, .int .i64 0, .int .i64 0, .int .i64 0] 60)
  have hsz1 : (w.alloc (.cells (zV a) 60)).heap.size = w.heap.size + 1 := by simp
  have hsz2 : ((w.alloc (.cells (zV a) 60)).alloc (.cells (zV b) 60)).heap.size = w.heap.size + 2 := by simp
  have hsz3 : (((w.alloc (.cells (zV a) 60)).alloc (.cells (zV b) 60)).alloc (.cells #[.int .i64 0, .int .i64 0, .int .i64 0, .int .i64 0, .int .i64 0, .int .i64 0, .int .i64 0, .int .i64 0, .int .i64 0, .int .i64 0, .int .i64 0, .int .i64 0, .int .i64 0, .int .i64 0, .int .i64 0, .int .i64 0, .int .i64 0, .int .i64 0, .int .i64 0, .int .i64 0, .int .i64 0, .int .i64 0, .int .i64 0, .int .i64 0, .int .i64 0, .int .i64 0, .int .i64 0, .int .i64 0, .int .i64 0, .int .i64 0, .int .i64 0, .int .i64 0] 60)).heap.size = w.heap.size + 3 := by simp
  have hz0 := blk_alloc (blk_alloc hz0 (.cells (zV b) 60)) (.cells #[.int .i64 0, .int .i64 0, .int .i64 0, .int .i64 0, .int .i64 0, .int .i64 0, .int .i64 0, .int .i64 0, .int .i64 0, .int .i64 0, .int .i64 0, .int .i64 0, .int .i64 0, .int .i64 0, .int .i64 0, .int .i64 0, .int .i64 0, .int .i64 0, .int .i64 0, .int .i64 0, .int .i64 0, .int .i64 0, .int .i64 0, .int .i64 0, .int .i64 0, .int .i64 0, .int .i64 0, .int .i64 0, .int .i64 0, .int .i64 0, .int .i64 0, .int .i64 0] 60)
  have hz1 := blk_alloc hz1 (.cells #[.int .i64 0, .int .i64 0, .int .i64 0, .int .i64 0, .int .i64 0, .int .i64 0, .int .i64 0, .int .i64 0, .int .i64 0, .int .i64 0, .int .i64 0, .int .i64 0, .int .i64 0, .int .i64 0, .int .i64 0, .int .i64 0, .int .i64 0, .int .i64 0, .int .i64 0, .int .i64 0, .int .i64 0, .int .i64 0, .int .i64 0, .int .i64 0, .int .i64 0, .int .i64 0, .int .i64 0, .int .i64 0, .int .i64 0, .int .i64 0, .int .i64 0, .int .i64 0] 60)
  rw [hsz1] at hz1
  rw [hsz2] at hz2
  have hQ : QS (More K w (((w.alloc (.cells (zV a) 60)).alloc (.cells (zV b) 60)).alloc (.cells #[.int .i64 0, .int .i64 0, .int .i64 0, .int .i64 0, .int .i64 0, .int .i64 0, .int .i64 0, .int .i64 0, .int .i64 0, .int .i64 0, .int .i64 0, .int .i64 0, .int .i64 0, .int .i64 0, .int .i64 0, .int .i64 0, .int .i64 0, .int .i64 0, .int .i64 0, .int .i64 0, .int .i64 0, .int .i64 0, .int .i64 0, .int .i64 0, .int .i64 0, .int .i64 0, .int .i64 0, .int .i64 0, .int .i64 0, .int .i64 0, .int .i64 0, .int .i64 0] 60))) _ q gs := QAt.more h b3
  rw [zero_zV] at *
  generalize hw4 : (((w.alloc (.cells (zV a) 60)).alloc (.cells (zV b) 60)).alloc (.cells (zV fun _ => 0) 60)) = w4 at *
  have hk0 : ∀ j, j < 3 → More K w w4 (w.heap.size + j) := fun j hj => Or.inr ⟨Nat.le_add_right _ _, by omega⟩
  have kk : ∀ i, K i → More K w w4 i := fun i hi => Or.inl hi
  have hk4 : Kept K w w4 := Kept.below b3
  generalize More K w w4 = K1 at *
  have k0 := hk0 0 (by omega)
  have k1 := hk0 1 (by omega)
  have k2 := hk0 2 (by omega)
  rw [Nat.add_zero] at k0
  have hKin : ∀ i, K i → i < w.heap.size := QAt.in_ h
  have hlw : w.heap.size + 3 ≤ w4.heap.size := by omega
  have hA : ZAt 60 w4 w.heap.size a := hz0
  have hB : ZAt 60 w4 (w.heap.size + 1) b := hz1
  have hR : ZAt 60 w4 (w.heap.size + 2) (fun _ => 0) := hz2
  have hA' := hA
  have hB' := hB
  clear hk0 b1 b2 b3 hsz1 hsz2 hsz3 h hz0 hz1 hz2
  subst hw4
  rw [← zero_zV] at hA' hB'
  go_enter Try.func33, Try.ntmps33
  go_wp2_with (first | (refine wpList_load_row rfl 60 (.tmp 6) rfl w.heap.size rfl 60 (zV a) (0, 0) _ hA' Try.underlying60 rfl (by rw [zV_size]; exact info_bits) ?_) | (refine wpList_load_row rfl 60 (.tmp 7) rfl (w.heap.size + 1) rfl 60 (zV b) (0, 0) _ hB' Try.underlying60 rfl (by rw [zV_size]; exact info_bits) ?_) | fail)
  rw [zero_zV]
  generalize hw4 : (((w.alloc (.cells (zV a) 60)).alloc (.cells (zV b) 60)).alloc (.cells (zV fun _ => 0) 60)) = w4 at *
  clear hw4 hA' hB'
  refine (cx K1 _ hQ).mono ?_
  rintro r w5 ⟨rfl, hQ5, k5⟩
  have hR5 := hR.kept k5 k2
  have hk5 := hk4.trans (k5.mono kk)
  clear hR hQ hA hB k5 hk4
  go_wp2_with (first | (refine wpList_store_row rfl 60 (.tmp 8) (.tmp 65) rfl (w.heap.size + 2) (zV R.2) rfl rfl 60 _ hR5 (by rw [zV_size]; exact info_bits) (by rw [zV_size, zV_size]) (one_zV _) ?_) | fail)
  exact bodyPost_ret (v := .agg (zV R.2)) (results_cell_row rfl _ _ (w.heap.size + 2) 60 (zV R.2) (0, 0) _ rfl (setRow_heap _ _ _ _ _ _ hR5) Try.underlying60 rfl (by rw [zV_size]; exact info_bits)) rfl ⟨rfl, QAt.mono (QAt.moved hQ5 (row_kept _ _ _) k2) kk, hk5.trans ((row_kept _ _ _).mono fun i hi => by have := hKin i hi; show i ≠ w.heap.size + 2; omega)⟩
set_option maxRecDepth 100000 in
set_option maxHeartbeats 8000000 in
theorem does_34 (K : Nat → Prop) (q : Nat) (gs : List Gate) (hG : GGood gs) (a b : Nat → Int) (ha : Lits gs a) (hb : Lits gs b) (hl : gs.length < 199000) (w : World) (h : QS K w q gs) :
    Calls Try.prog 33 #[.pointer (some ⟨q, 0, none⟩), .int .i64 34, .agg (zV a), .agg (zV b)] w (WordPost K w q (doesG 34 a b gs)) := by
  have hR0 : shiftF 34 a b (fillW 34 a) gs 5 = doesG 34 a b gs := by unfold doesG; rw [if_neg (by decide), if_neg (by decide), if_neg (by decide), if_neg (by decide), if_neg (by decide), if_neg (by decide), if_neg (by decide)]
  have cx := fun K w h => shifted_34 K q gs hG a b ha hb hl w h
  rw [hR0] at cx
  clear hR0
  generalize doesG 34 a b gs = R at *
  have hmf : ∀ (fn : Fn) (first cap : Array Value) (w : World), (Instr.makeFunc fn first cap).run Try.prog w = .ok (.func fn first cap) w := fun _ _ _ _ => rfl
  have b1 := (Below.refl w.heap.size w).alloc (Nat.le_refl _) (.cells (zV a) 60)
  have b2 := b1.alloc (by simp) (.cells (zV b) 60)
  have b3 := b2.alloc (by simp; omega) (.cells #[.int .i64 0, .int .i64 0, .int .i64 0, .int .i64 0, .int .i64 0, .int .i64 0, .int .i64 0, .int .i64 0, .int .i64 0, .int .i64 0, .int .i64 0, .int .i64 0, .int .i64 0, .int .i64 0, .int .i64 0, .int .i64 0, .int .i64 0, .int .i64 0, .int .i64 0, .int .i64 0, .int .i64 0, .int .i64 0, .int .i64 0, .int .i64 0, .int .i64 0, .int .i64 0, .int .i64 0, .int .i64 0, .int .i64 0, .int .i64 0, .int .i64 0, .int .i64 0] 60)
  have hz0 := blk_new w (.cells (zV a) 60)
  have hz1 := blk_new (w.alloc (.cells (zV a) 60)) (.cells (zV b) 60)
  have hz2 := blk_new ((w.alloc (.cells (zV a) 60)).alloc (.cells (zV b) 60)) (.cells #[.int .i64 0, .int .i64 0, .int .i64 0, .int .i64 0, .int .i64 0, .int .i64 0, .int .i64 0, .int .i64 0, .int .i64 0, .int .i64 0, .int .i64 0, .int .i64 0, .int .i64 0, .int .i64 0, .int .i64 0, .int .i64 0, .int .i64 0, .int .i64 0, .int .i64 0, .int .i64 0, .int .i64 0, .int .i64 0, .int .i64 0, .int .i64 0, .int .i64 0, .int .i64 0, .int .i64 0, .int .i64 0, .int .i64 0, .int .i64 0, .int .i64 0, .int .i64 0] 60)
  have hsz1 : (w.alloc (.cells (zV a) 60)).heap.size = w.heap.size + 1 := by simp
  have hsz2 : ((w.alloc (.cells (zV a) 60)).alloc (.cells (zV b) 60)).heap.size = w.heap.size + 2 := by simp
  have hsz3 : (((w.alloc (.cells (zV a) 60)).alloc (.cells (zV b) 60)).alloc (.cells #[.int .i64 0, .int .i64 0, .int .i64 0, .int .i64 0, .int .i64 0, .int .i64 0, .int .i64 0, .int .i64 0, .int .i64 0, .int .i64 0, .int .i64 0, .int .i64 0, .int .i64 0, .int .i64 0, .int .i64 0, .int .i64 0, .int .i64 0, .int .i64 0, .int .i64 0, .int .i64 0, .int .i64 0, .int .i64 0, .int .i64 0, .int .i64 0, .int .i64 0, .int .i64 0, .int .i64 0, .int .i64 0, .int .i64 0, .int .i64 0, .int .i64 0, .int .i64 0] 60)).heap.size = w.heap.size + 3 := by simp
  have hz0 := blk_alloc (blk_alloc hz0 (.cells (zV b) 60)) (.cells #[.int .i64 0, .int .i64 0, .int .i64 0, .int .i64 0, .int .i64 0, .int .i64 0, .int .i64 0, .int .i64 0, .int .i64 0, .int .i64 0, .int .i64 0, .int .i64 0, .int .i64 0, .int .i64 0, .int .i64 0, .int .i64 0, .int .i64 0, .int .i64 0, .int .i64 0, .int .i64 0, .int .i64 0, .int .i64 0, .int .i64 0, .int .i64 0, .int .i64 0, .int .i64 0, .int .i64 0, .int .i64 0, .int .i64 0, .int .i64 0, .int .i64 0, .int .i64 0] 60)
  have hz1 := blk_alloc hz1 (.cells #[.int .i64 0, .int .i64 0, .int .i64 0, .int .i64 0, .int .i64 0, .int .i64 0, .int .i64 0, .int .i64 0, .int .i64 0, .int .i64 0, .int .i64 0, .int .i64 0, .int .i64 0, .int .i64 0, .int .i64 0, .int .i64 0, .int .i64 0, .int .i64 0, .int .i64 0, .int .i64 0, .int .i64 0, .int .i64 0, .int .i64 0, .int .i64 0, .int .i64 0, .int .i64 0, .int .i64 0, .int .i64 0, .int .i64 0, .int .i64 0, .int .i64 0, .int .i64 0] 60)
  rw [hsz1] at hz1
  rw [hsz2] at hz2
  have hQ : QS (More K w (((w.alloc (.cells (zV a) 60)).alloc (.cells (zV b) 60)).alloc (.cells #[.int .i64 0, .int .i64 0, .int .i64 0, .int .i64 0, .int .i64 0, .int .i64 0, .int .i64 0, .int .i64 0, .int .i64 0, .int .i64 0, .int .i64 0, .int .i64 0, .int .i64 0, .int .i64 0, .int .i64 0, .int .i64 0, .int .i64 0, .int .i64 0, .int .i64 0, .int .i64 0, .int .i64 0, .int .i64 0, .int .i64 0, .int .i64 0, .int .i64 0, .int .i64 0, .int .i64 0, .int .i64 0, .int .i64 0, .int .i64 0, .int .i64 0, .int .i64 0] 60))) _ q gs := QAt.more h b3
  rw [zero_zV] at *
  generalize hw4 : (((w.alloc (.cells (zV a) 60)).alloc (.cells (zV b) 60)).alloc (.cells (zV fun _ => 0) 60)) = w4 at *
  have hk0 : ∀ j, j < 3 → More K w w4 (w.heap.size + j) := fun j hj => Or.inr ⟨Nat.le_add_right _ _, by omega⟩
  have kk : ∀ i, K i → More K w w4 i := fun i hi => Or.inl hi
  have hk4 : Kept K w w4 := Kept.below b3
  generalize More K w w4 = K1 at *
  have k0 := hk0 0 (by omega)
  have k1 := hk0 1 (by omega)
  have k2 := hk0 2 (by omega)
  rw [Nat.add_zero] at k0
  have hKin : ∀ i, K i → i < w.heap.size := QAt.in_ h
  have hlw : w.heap.size + 3 ≤ w4.heap.size := by omega
  have hA : ZAt 60 w4 w.heap.size a := hz0
  have hB : ZAt 60 w4 (w.heap.size + 1) b := hz1
  have hR : ZAt 60 w4 (w.heap.size + 2) (fun _ => 0) := hz2
  have hA' := hA
  have hB' := hB
  clear hk0 b1 b2 b3 hsz1 hsz2 hsz3 h hz0 hz1 hz2
  subst hw4
  rw [← zero_zV] at hA' hB'
  go_enter Try.func33, Try.ntmps33
  go_wp2_with (first | (refine wpList_load_row rfl 60 (.tmp 6) rfl w.heap.size rfl 60 (zV a) (0, 0) _ hA' Try.underlying60 rfl (by rw [zV_size]; exact info_bits) ?_) | (refine wpList_load_row rfl 60 (.tmp 7) rfl (w.heap.size + 1) rfl 60 (zV b) (0, 0) _ hB' Try.underlying60 rfl (by rw [zV_size]; exact info_bits) ?_) | fail)
  rw [zero_zV]
  generalize hw4 : (((w.alloc (.cells (zV a) 60)).alloc (.cells (zV b) 60)).alloc (.cells (zV fun _ => 0) 60)) = w4 at *
  clear hw4 hA' hB'
  refine (cx K1 _ hQ).mono ?_
  rintro r w5 ⟨rfl, hQ5, k5⟩
  have hR5 := hR.kept k5 k2
  have hk5 := hk4.trans (k5.mono kk)
  clear hR hQ hA hB k5 hk4
  go_wp2_with (first | (refine wpList_store_row rfl 60 (.tmp 8) (.tmp 65) rfl (w.heap.size + 2) (zV R.2) rfl rfl 60 _ hR5 (by rw [zV_size]; exact info_bits) (by rw [zV_size, zV_size]) (one_zV _) ?_) | fail)
  exact bodyPost_ret (v := .agg (zV R.2)) (results_cell_row rfl _ _ (w.heap.size + 2) 60 (zV R.2) (0, 0) _ rfl (setRow_heap _ _ _ _ _ _ hR5) Try.underlying60 rfl (by rw [zV_size]; exact info_bits)) rfl ⟨rfl, QAt.mono (QAt.moved hQ5 (row_kept _ _ _) k2) kk, hk5.trans ((row_kept _ _ _).mono fun i hi => by have := hKin i hi; show i ≠ w.heap.size + 2; omega)⟩
set_option maxRecDepth 100000 in
set_option maxHeartbeats 8000000 in
theorem does_27 (K : Nat → Prop) (q : Nat) (gs : List Gate) (hG : GGood gs) (a b : Nat → Int) (ha : Lits gs a) (hb : Lits gs b) (hl : gs.length < 199000) (w : World) (h : QS K w q gs) :
    Calls Try.prog 33 #[.pointer (some ⟨q, 0, none⟩), .int .i64 27, .agg (zV a), .agg (zV b)] w (WordPost K w q (doesG 27 a b gs)) := by
  have hT := fun K w h => sum_any K q gs hG a b (-1) (Or.inr rfl) ha hb hl w h
  have hR0 : doesG 27 a b gs = ((sumF a b gs (-1) 32).1, (sumF a b gs (-1) 32).2.1) := by unfold doesG; rw [if_pos rfl]
  generalize sumF a b gs (-1) 32 = s at *
  rw [hR0]
  clear hR0
  have hmf : ∀ (fn : Fn) (first cap : Array Value) (w : World), (Instr.makeFunc fn first cap).run Try.prog w = .ok (.func fn first cap) w := fun _ _ _ _ => rfl
  have b1 := (Below.refl w.heap.size w).alloc (Nat.le_refl _) (.cells (zV a) 60)
  have b2 := b1.alloc (by simp) (.cells (zV b) 60)
  have b3 := b2.alloc (by simp; omega) (.cells #[.int .i64 0, .int .i64 0, .int .i64 0, .int .i64 0, .int .i64 0, .int .i64 0, .int .i64 0, .int .i64 0, .int .i64 0, .int .i64 0, .int .i64 0, .int .i64 0, .int .i64 0, .int .i64 0, .int .i64 0, .int .i64 0, .int .i64 0, .int .i64 0, .int .i64 0, .int .i64 0, .int .i64 0, .int .i64 0, .int .i64 0, .int .i64 0, .int .i64 0, .int .i64 0, .int .i64 0, .int .i64 0, .int .i64 0, .int .i64 0, .int .i64 0, .int .i64 0] 60)
  have hz0 := blk_new w (.cells (zV a) 60)
  have hz1 := blk_new (w.alloc (.cells (zV a) 60)) (.cells (zV b) 60)
  have hz2 := blk_new ((w.alloc (.cells (zV a) 60)).alloc (.cells (zV b) 60)) (.cells #[.int .i64 0, .int .i64 0, .int .i64 0, .int .i64 0, .int .i64 0, .int .i64 0, .int .i64 0, .int .i64 0, .int .i64 0, .int .i64 0, .int .i64 0, .int .i64 0, .int .i64 0, .int .i64 0, .int .i64 0, .int .i64 0, .int .i64 0, .int .i64 0, .int .i64 0, .int .i64 0, .int .i64 0, .int .i64 0, .int .i64 0, .int .i64 0, .int .i64 0, .int .i64 0, .int .i64 0, .int .i64 0, .int .i64 0, .int .i64 0, .int .i64 0, .int .i64 0] 60)
  have hsz1 : (w.alloc (.cells (zV a) 60)).heap.size = w.heap.size + 1 := by simp
  have hsz2 : ((w.alloc (.cells (zV a) 60)).alloc (.cells (zV b) 60)).heap.size = w.heap.size + 2 := by simp
  have hsz3 : (((w.alloc (.cells (zV a) 60)).alloc (.cells (zV b) 60)).alloc (.cells #[.int .i64 0, .int .i64 0, .int .i64 0, .int .i64 0, .int .i64 0, .int .i64 0, .int .i64 0, .int .i64 0, .int .i64 0, .int .i64 0, .int .i64 0, .int .i64 0, .int .i64 0, .int .i64 0, .int .i64 0, .int .i64 0, .int .i64 0, .int .i64 0, .int .i64 0, .int .i64 0, .int .i64 0, .int .i64 0, .int .i64 0, .int .i64 0, .int .i64 0, .int .i64 0, .int .i64 0, .int .i64 0, .int .i64 0, .int .i64 0, .int .i64 0, .int .i64 0] 60)).heap.size = w.heap.size + 3 := by simp
  have hz0 := blk_alloc (blk_alloc hz0 (.cells (zV b) 60)) (.cells #[.int .i64 0, .int .i64 0, .int .i64 0, .int .i64 0, .int .i64 0, .int .i64 0, .int .i64 0, .int .i64 0, .int .i64 0, .int .i64 0, .int .i64 0, .int .i64 0, .int .i64 0, .int .i64 0, .int .i64 0, .int .i64 0, .int .i64 0, .int .i64 0, .int .i64 0, .int .i64 0, .int .i64 0, .int .i64 0, .int .i64 0, .int .i64 0, .int .i64 0, .int .i64 0, .int .i64 0, .int .i64 0, .int .i64 0, .int .i64 0, .int .i64 0, .int .i64 0] 60)
  have hz1 := blk_alloc hz1 (.cells #[.int .i64 0, .int .i64 0, .int .i64 0, .int .i64 0, .int .i64 0, .int .i64 0, .int .i64 0, .int .i64 0, .int .i64 0, .int .i64 0, .int .i64 0, .int .i64 0, .int .i64 0, .int .i64 0, .int .i64 0, .int .i64 0, .int .i64 0, .int .i64 0, .int .i64 0, .int .i64 0, .int .i64 0, .int .i64 0, .int .i64 0, .int .i64 0, .int .i64 0, .int .i64 0, .int .i64 0, .int .i64 0, .int .i64 0, .int .i64 0, .int .i64 0, .int .i64 0] 60)
  rw [hsz1] at hz1
  rw [hsz2] at hz2
  have hQ : QS (More K w (((w.alloc (.cells (zV a) 60)).alloc (.cells (zV b) 60)).alloc (.cells #[.int .i64 0, .int .i64 0, .int .i64 0, .int .i64 0, .int .i64 0, .int .i64 0, .int .i64 0, .int .i64 0, .int .i64 0, .int .i64 0, .int .i64 0, .int .i64 0, .int .i64 0, .int .i64 0, .int .i64 0, .int .i64 0, .int .i64 0, .int .i64 0, .int .i64 0, .int .i64 0, .int .i64 0, .int .i64 0, .int .i64 0, .int .i64 0, .int .i64 0, .int .i64 0, .int .i64 0, .int .i64 0, .int .i64 0, .int .i64 0, .int .i64 0, .int .i64 0] 60))) _ q gs := QAt.more h b3
  rw [zero_zV] at *
  generalize hw4 : (((w.alloc (.cells (zV a) 60)).alloc (.cells (zV b) 60)).alloc (.cells (zV fun _ => 0) 60)) = w4 at *
  have hk0 : ∀ j, j < 3 → More K w w4 (w.heap.size + j) := fun j hj => Or.inr ⟨Nat.le_add_right _ _, by omega⟩
  have kk : ∀ i, K i → More K w w4 i := fun i hi => Or.inl hi
  have hk4 : Kept K w w4 := Kept.below b3
  generalize More K w w4 = K1 at *
  have k0 := hk0 0 (by omega)
  have k1 := hk0 1 (by omega)
  have k2 := hk0 2 (by omega)
  rw [Nat.add_zero] at k0
  have hKin : ∀ i, K i → i < w.heap.size := QAt.in_ h
  have hlw : w.heap.size + 3 ≤ w4.heap.size := by omega
  have hA : ZAt 60 w4 w.heap.size a := hz0
  have hB : ZAt 60 w4 (w.heap.size + 1) b := hz1
  have hR : ZAt 60 w4 (w.heap.size + 2) (fun _ => 0) := hz2
  have hA' := hA
  have hB' := hB
  clear hk0 b1 b2 b3 hsz1 hsz2 hsz3 h hz0 hz1 hz2
  subst hw4
  rw [← zero_zV] at hA' hB'
  go_enter Try.func33, Try.ntmps33
  go_wp2_with (first | (refine wpList_load_row rfl 60 (.tmp 6) rfl w.heap.size rfl 60 (zV a) (0, 0) _ hA' Try.underlying60 rfl (by rw [zV_size]; exact info_bits) ?_) | (refine wpList_load_row rfl 60 (.tmp 7) rfl (w.heap.size + 1) rfl 60 (zV b) (0, 0) _ hB' Try.underlying60 rfl (by rw [zV_size]; exact info_bits) ?_) | fail)
  rw [zero_zV]
  generalize hw4 : (((w.alloc (.cells (zV a) 60)).alloc (.cells (zV b) 60)).alloc (.cells (zV fun _ => 0) 60)) = w4 at *
  clear hw4 hA' hB'
  refine (hT K1 _ hQ).mono ?_
  rintro r w5 ⟨rfl, hQ5, k5⟩
  have hR5 := hR.kept k5 k2
  have hk5 := hk4.trans (k5.mono kk)
  have hsz5 : w.heap.size + 3 ≤ w5.heap.size := Nat.le_trans hlw k5.size
  have bx := (Below.refl w5.heap.size w5).alloc (Nat.le_refl _) (.cells #[.int .i64 0, .int .i64 0, .int .i64 0, .int .i64 0, .int .i64 0, .int .i64 0, .int .i64 0, .int .i64 0, .int .i64 0, .int .i64 0, .int .i64 0, .int .i64 0, .int .i64 0, .int .i64 0, .int .i64 0, .int .i64 0, .int .i64 0, .int .i64 0, .int .i64 0, .int .i64 0, .int .i64 0, .int .i64 0, .int .i64 0, .int .i64 0, .int .i64 0, .int .i64 0, .int .i64 0, .int .i64 0, .int .i64 0, .int .i64 0, .int .i64 0, .int .i64 0] 60)
  have hZ5 := blk_new w5 (.cells #[.int .i64 0, .int .i64 0, .int .i64 0, .int .i64 0, .int .i64 0, .int .i64 0, .int .i64 0, .int .i64 0, .int .i64 0, .int .i64 0, .int .i64 0, .int .i64 0, .int .i64 0, .int .i64 0, .int .i64 0, .int .i64 0, .int .i64 0, .int .i64 0, .int .i64 0, .int .i64 0, .int .i64 0, .int .i64 0, .int .i64 0, .int .i64 0, .int .i64 0, .int .i64 0, .int .i64 0, .int .i64 0, .int .i64 0, .int .i64 0, .int .i64 0, .int .i64 0] 60)
  have hR6 := hR5.below bx
  have hQ6 := QAt.more hQ5 bx
  have kg : More K1 w5 (w5.alloc (.cells #[.int .i64 0, .int .i64 0, .int .i64 0, .int .i64 0, .int .i64 0, .int .i64 0, .int .i64 0, .int .i64 0, .int .i64 0, .int .i64 0, .int .i64 0, .int .i64 0, .int .i64 0, .int .i64 0, .int .i64 0, .int .i64 0, .int .i64 0, .int .i64 0, .int .i64 0, .int .i64 0, .int .i64 0, .int .i64 0, .int .i64 0, .int .i64 0, .int .i64 0, .int .i64 0, .int .i64 0, .int .i64 0, .int .i64 0, .int .i64 0, .int .i64 0, .int .i64 0] 60)) w5.heap.size := Or.inr ⟨Nat.le_refl _, by simp⟩
  have hk6 := hk5.trans (Kept.below bx)
  have hk7 := hk6.trans ((row_kept (w5.alloc (.cells #[.int .i64 0, .int .i64 0, .int .i64 0, .int .i64 0, .int .i64 0, .int .i64 0, .int .i64 0, .int .i64 0, .int .i64 0, .int .i64 0, .int .i64 0, .int .i64 0, .int .i64 0, .int .i64 0, .int .i64 0, .int .i64 0, .int .i64 0, .int .i64 0, .int .i64 0, .int .i64 0, .int .i64 0, .int .i64 0, .int .i64 0, .int .i64 0, .int .i64 0, .int .i64 0, .int .i64 0, .int .i64 0, .int .i64 0, .int .i64 0, .int .i64 0, .int .i64 0] 60)) w5.heap.size (zV s.2.1)).mono fun i hi => by have := hKin i hi; show i ≠ w5.heap.size; omega)
  have hR7 := hR6.row_other (cs := zV s.2.1) (show w.heap.size + 2 ≠ w5.heap.size by omega)
  have hQ7 := QAt.moved hQ6 (row_kept (w5.alloc (.cells #[.int .i64 0, .int .i64 0, .int .i64 0, .int .i64 0, .int .i64 0, .int .i64 0, .int .i64 0, .int .i64 0, .int .i64 0, .int .i64 0, .int .i64 0, .int .i64 0, .int .i64 0, .int .i64 0, .int .i64 0, .int .i64 0, .int .i64 0, .int .i64 0, .int .i64 0, .int .i64 0, .int .i64 0, .int .i64 0, .int .i64 0, .int .i64 0, .int .i64 0, .int .i64 0, .int .i64 0, .int .i64 0, .int .i64 0, .int .i64 0, .int .i64 0, .int .i64 0] 60)) w5.heap.size (zV s.2.1)) kg
  clear hR hQ hA hB k5 hk4 hR5 hQ5 hk5 hQ6 hR6 hk6
  go_wp2_with (first | (refine wpList_store_row rfl 60 (.tmp 9) (.tmp 22) rfl w5.heap.size (zV s.2.1) rfl rfl 60 _ hZ5 (by rw [zV_size]; exact info_bits) (by rw [zV_size]; rfl) (one_zV _) ?_) | (refine wpList_load_row rfl 60 (.tmp 9) rfl w5.heap.size rfl 60 (zV s.2.1) (0, 0) _ (setRow_heap _ _ _ _ _ _ hZ5) Try.underlying60 rfl (by rw [zV_size]; exact info_bits) ?_) | (refine wpList_store_row rfl 60 (.tmp 8) (.tmp 24) rfl (w.heap.size + 2) (zV s.2.1) rfl rfl 60 _ hR7 (by rw [zV_size]; exact info_bits) (by rw [zV_size, zV_size]) (one_zV _) ?_) | fail)
  exact bodyPost_ret (v := .agg (zV s.2.1)) (results_cell_row rfl _ _ (w.heap.size + 2) 60 (zV s.2.1) (0, 0) _ rfl (setRow_heap _ _ _ _ _ _ hR7) Try.underlying60 rfl (by rw [zV_size]; exact info_bits)) rfl ⟨rfl, QAt.mono (QAt.moved hQ7 (row_kept _ _ _) (Or.inl k2)) (fun i hi => Or.inl (kk i hi)), hk7.trans ((row_kept _ _ _).mono fun i hi => by have := hKin i hi; show i ≠ w.heap.size + 2; omega)⟩
set_option maxRecDepth 100000 in
set_option maxHeartbeats 8000000 in
theorem does_28 (K : Nat → Prop) (q : Nat) (gs : List Gate) (hG : GGood gs) (a b : Nat → Int) (ha : Lits gs a) (hb : Lits gs b) (hl : gs.length < 199000) (w : World) (h : QS K w q gs) :
    Calls Try.prog 33 #[.pointer (some ⟨q, 0, none⟩), .int .i64 28, .agg (zV a), .agg (zV b)] w (WordPost K w q (doesG 28 a b gs)) := by
  have hT := fun K w h => sum_any K q gs hG a (notW b) 1 (Or.inl rfl) ha (notW_lits hb) hl w h
  have hbs : SmallW b := Lits.small hb (by omega)
  have hR0 : doesG 28 a b gs = ((sumF a (notW b) gs 1 32).1, (sumF a (notW b) gs 1 32).2.1) := by unfold doesG; rw [if_neg (by decide), if_pos rfl]
  generalize sumF a (notW b) gs 1 32 = s at *
  rw [hR0]
  clear hR0
  have hmf : ∀ (fn : Fn) (first cap : Array Value) (w : World), (Instr.makeFunc fn first cap).run Try.prog w = .ok (.func fn first cap) w := fun _ _ _ _ => rfl
  have b1 := (Below.refl w.heap.size w).alloc (Nat.le_refl _) (.cells (zV a) 60)
  have b2 := b1.alloc (by simp) (.cells (zV b) 60)
  have b3 := b2.alloc (by simp; omega) (.cells #[.int .i64 0, .int .i64 0, .int .i64 0, .int .i64 0, .int .i64 0, .int .i64 0, .int .i64 0, .int .i64 0, .int .i64 0, .int .i64 0, .int .i64 0, .int .i64 0, .int .i64 0, .int .i64 0, .int .i64 0, .int .i64 0, .int .i64 0, .int .i64 0, .int .i64 0, .int .i64 0, .int .i64 0, .int .i64 0, .int .i64 0, .int .i64 0, .int .i64 0, .int .i64 0, .int .i64 0, .int .i64 0, .int .i64 0, .int .i64 0, .int .i64 0, .int .i64 0] 60)
  have hz0 := blk_new w (.cells (zV a) 60)
  have hz1 := blk_new (w.alloc (.cells (zV a) 60)) (.cells (zV b) 60)
  have hz2 := blk_new ((w.alloc (.cells (zV a) 60)).alloc (.cells (zV b) 60)) (.cells #[.int .i64 0, .int .i64 0, .int .i64 0, .int .i64 0, .int .i64 0, .int .i64 0, .int .i64 0, .int .i64 0, .int .i64 0, .int .i64 0, .int .i64 0, .int .i64 0, .int .i64 0, .int .i64 0, .int .i64 0, .int .i64 0, .int .i64 0, .int .i64 0, .int .i64 0, .int .i64 0, .int .i64 0, .int .i64 0, .int .i64 0, .int .i64 0, .int .i64 0, .int .i64 0, .int .i64 0, .int .i64 0, .int .i64 0, .int .i64 0, .int .i64 0, .int .i64 0] 60)
  have hsz1 : (w.alloc (.cells (zV a) 60)).heap.size = w.heap.size + 1 := by simp
  have hsz2 : ((w.alloc (.cells (zV a) 60)).alloc (.cells (zV b) 60)).heap.size = w.heap.size + 2 := by simp
  have hsz3 : (((w.alloc (.cells (zV a) 60)).alloc (.cells (zV b) 60)).alloc (.cells #[.int .i64 0, .int .i64 0, .int .i64 0, .int .i64 0, .int .i64 0, .int .i64 0, .int .i64 0, .int .i64 0, .int .i64 0, .int .i64 0, .int .i64 0, .int .i64 0, .int .i64 0, .int .i64 0, .int .i64 0, .int .i64 0, .int .i64 0, .int .i64 0, .int .i64 0, .int .i64 0, .int .i64 0, .int .i64 0, .int .i64 0, .int .i64 0, .int .i64 0, .int .i64 0, .int .i64 0, .int .i64 0, .int .i64 0, .int .i64 0, .int .i64 0, .int .i64 0] 60)).heap.size = w.heap.size + 3 := by simp
  have hz0 := blk_alloc (blk_alloc hz0 (.cells (zV b) 60)) (.cells #[.int .i64 0, .int .i64 0, .int .i64 0, .int .i64 0, .int .i64 0, .int .i64 0, .int .i64 0, .int .i64 0, .int .i64 0, .int .i64 0, .int .i64 0, .int .i64 0, .int .i64 0, .int .i64 0, .int .i64 0, .int .i64 0, .int .i64 0, .int .i64 0, .int .i64 0, .int .i64 0, .int .i64 0, .int .i64 0, .int .i64 0, .int .i64 0, .int .i64 0, .int .i64 0, .int .i64 0, .int .i64 0, .int .i64 0, .int .i64 0, .int .i64 0, .int .i64 0] 60)
  have hz1 := blk_alloc hz1 (.cells #[.int .i64 0, .int .i64 0, .int .i64 0, .int .i64 0, .int .i64 0, .int .i64 0, .int .i64 0, .int .i64 0, .int .i64 0, .int .i64 0, .int .i64 0, .int .i64 0, .int .i64 0, .int .i64 0, .int .i64 0, .int .i64 0, .int .i64 0, .int .i64 0, .int .i64 0, .int .i64 0, .int .i64 0, .int .i64 0, .int .i64 0, .int .i64 0, .int .i64 0, .int .i64 0, .int .i64 0, .int .i64 0, .int .i64 0, .int .i64 0, .int .i64 0, .int .i64 0] 60)
  rw [hsz1] at hz1
  rw [hsz2] at hz2
  have hQ : QS (More K w (((w.alloc (.cells (zV a) 60)).alloc (.cells (zV b) 60)).alloc (.cells #[.int .i64 0, .int .i64 0, .int .i64 0, .int .i64 0, .int .i64 0, .int .i64 0, .int .i64 0, .int .i64 0, .int .i64 0, .int .i64 0, .int .i64 0, .int .i64 0, .int .i64 0, .int .i64 0, .int .i64 0, .int .i64 0, .int .i64 0, .int .i64 0, .int .i64 0, .int .i64 0, .int .i64 0, .int .i64 0, .int .i64 0, .int .i64 0, .int .i64 0, .int .i64 0, .int .i64 0, .int .i64 0, .int .i64 0, .int .i64 0, .int .i64 0, .int .i64 0] 60))) _ q gs := QAt.more h b3
  rw [zero_zV] at *
  generalize hw4 : (((w.alloc (.cells (zV a) 60)).alloc (.cells (zV b) 60)).alloc (.cells (zV fun _ => 0) 60)) = w4 at *
  have hk0 : ∀ j, j < 3 → More K w w4 (w.heap.size + j) := fun j hj => Or.inr ⟨Nat.le_add_right _ _, by omega⟩
  have kk : ∀ i, K i → More K w w4 i := fun i hi => Or.inl hi
  have hk4 : Kept K w w4 := Kept.below b3
  generalize More K w w4 = K1 at *
  have k0 := hk0 0 (by omega)
  have k1 := hk0 1 (by omega)
  have k2 := hk0 2 (by omega)
  rw [Nat.add_zero] at k0
  have hKin : ∀ i, K i → i < w.heap.size := QAt.in_ h
  have hlw : w.heap.size + 3 ≤ w4.heap.size := by omega
  have hA : ZAt 60 w4 w.heap.size a := hz0
  have hB : ZAt 60 w4 (w.heap.size + 1) b := hz1
  have hR : ZAt 60 w4 (w.heap.size + 2) (fun _ => 0) := hz2
  have hA' := hA
  have hB' := hB
  clear hk0 b1 b2 b3 hsz1 hsz2 hsz3 h hz0 hz1 hz2
  subst hw4
  rw [← zero_zV] at hA' hB'
  go_enter Try.func33, Try.ntmps33
  go_wp2_with fail
  rw [zero_zV]
  generalize hwr : (((w.alloc (.cells (zV a) 60)).alloc (.cells (zV b) 60)).alloc (.cells (zV fun _ => 0) 60)) = wr at *
  clear hwr hA' hB'
  have bd : Below wr.heap.size wr wr.drew := below_drewN (Below.refl _ _) 1
  have hQd := QAt.below hQ bd
  have hAd := hA.below bd
  have hBd := hB.below bd
  have hRd := hR.below bd
  have hkd := hk4.trans (Kept.below bd)
  have hsz : w.heap.size + 3 ≤ wr.heap.size := by omega
  have hSd : wr.drew.rangeAt w.heap.size 0 (zV a).toList ∧ wr.drew.rangeAt (w.heap.size + 1) 0 (zV b).toList := ⟨range_row hAd, range_row hBd⟩
  clear hA hB hQ hk4 hR hlw
  refine wp_region_any (by kernel_rfl) (wpAny_of_held (S := fun w' => w'.rangeAt w.heap.size 0 (zV a).toList ∧ w'.rangeAt (w.heap.size + 1) 0 (zV b).toList) _ _ _ _ ?_)
  change wpAnyH _ _ _ _ _ 11 _ _ wr.drew
  refine wpAnyH_take (i := 0) (v := ?_) rfl (by kernel_rfl) (by kernel_rfl) (by kernel_rfl) (fun _ _ _ h => h) (Or.inl ⟨by rfl, ?_⟩) hSd ?_
  rotate_left
  · intro w hw
    go_simp
    try with_reducible rfl
  refine wpAnyH_take (i := 1) rfl (by kernel_rfl) (by kernel_rfl) (by kernel_rfl) (fun _ _ _ h => h) (yieldsIf_load_mid (by rfl) 60 (.tmp 6) rfl w.heap.size 0 rfl (zV a).toList _ (fun w hw => hw.1) Try.underlying60 rfl (by rw [Array.length_toList, zV_size]; exact info_bits)) hSd ?_
  refine wpAnyH_take (i := 2) rfl (by kernel_rfl) (by kernel_rfl) (by kernel_rfl) (fun _ _ _ h => h) (yieldsIf_load_mid (by rfl) 60 (.tmp 7) rfl (w.heap.size + 1) 0 rfl (zV b).toList _ (fun w hw => hw.2) Try.underlying60 rfl (by rw [Array.length_toList, zV_size]; exact info_bits)) hSd ?_
  refine wpAnyH_all (rs := [3, 8]) (by kernel_rfl) (by simp) (fun i hi => ?_)
  rcases (by simpa using hi : i = 3 ∨ i = 8) with rfl | rfl
  · refine wpOp_step rfl (fun K9 hK9 => ?_)
    rw [if_pos (by rfl)]
    go_simp
    go_at_call 47
    refine (turned_any b hbs wr.drew).mono ?_
    rintro r w1 ⟨rfl, bt⟩
    have hA1 := hAd.below bt
    have hB1 := hBd.below bt
    have hR1 := hRd.below bt
    have hQ1 := QAt.below hQd bt
    have hk1 := hkd.trans (Kept.below bt)
    have hg1 : wr.heap.size ≤ w1.heap.size := bt.size
    refine hK9 _ _ ⟨⟨range_row hA1, range_row hB1⟩, ?_⟩
    clear hK9
    refine wpAnyH_all (rs := [4, 8]) (by kernel_rfl) (by simp) (fun i hi => ?_)
    rcases (by simpa using hi : i = 4 ∨ i = 8) with rfl | rfl
    · refine wpOp_step rfl (fun K9 hK9 => ?_)
      rw [if_pos (by rfl)]
      go_simp
      go_at_call 46
      refine (hT _ w1 hQ1).mono ?_
      rintro r w2 ⟨rfl, hQx, kx⟩
      have hA2 := hA1.kept kx k0
      have hB2 := hB1.kept kx k1
      have hR2 := hR1.kept kx k2
      have hk2 := hk1.trans (kx.mono kk)
      have hg2 : wr.heap.size ≤ w2.heap.size := Nat.le_trans hg1 kx.size
      have hQ2 := hQx
      refine hK9 _ _ ⟨⟨range_row hA2, range_row hB2⟩, ?_⟩
      clear hK9
      refine wpAnyH_take (i := 5) (v := ?_) rfl (by kernel_rfl) (by kernel_rfl) (by kernel_rfl) (fun _ _ _ h => h) (Or.inl ⟨by rfl, ?_⟩) ⟨range_row hA2, range_row hB2⟩ ?_
      rotate_left
      · intro w hw
        go_simp
        try with_reducible rfl
      refine wpAnyH_take (i := 6) (v := ?_) rfl (by kernel_rfl) (by kernel_rfl) (by kernel_rfl) (fun _ _ _ h => h) (Or.inl ⟨by rfl, ?_⟩) ⟨range_row hA2, range_row hB2⟩ ?_
      rotate_left
      · intro w hw
        go_simp
        try with_reducible rfl
      refine wpAnyH_take (i := 7) (v := ?_) rfl (by kernel_rfl) (by kernel_rfl) (by kernel_rfl) (fun _ _ _ h => h) (Or.inl ⟨by rfl, ?_⟩) ⟨range_row hA2, range_row hB2⟩ ?_
      rotate_left
      · intro w hw
        go_simp
        try with_reducible rfl
      refine wpAnyH_all (rs := [8]) (by kernel_rfl) (by simp) (fun i hi => ?_)
      obtain rfl : i = 8 := by simpa using hi
      have bx := (Below.refl w2.heap.size w2).alloc (Nat.le_refl _) (.cells (zV fun _ => 0) 60)
      have hZx := blk_new w2 (.cells (zV fun _ => 0) 60)
      have hAx := hA2.below bx
      have hBx := hB2.below bx
      have hRx := hR2.below bx
      have hQx := QAt.more hQ2 bx
      have kg : More K1 w2 (w2.alloc (.cells (zV fun _ => 0) 60)) w2.heap.size := Or.inr ⟨Nat.le_refl _, by simp⟩
      have kk2 : ∀ i, K1 i → More K1 w2 (w2.alloc (.cells (zV fun _ => 0) 60)) i := fun i hi => Or.inl hi
      have hkx := hk2.trans (Kept.below bx)
      refine wpOp_step rfl (fun K9 hK9 => ?_)
      rw [if_pos (by rfl)]
      go_simp
      rw [zero_zV]
      refine hK9 _ _ ⟨⟨range_row hAx, range_row hBx⟩, ?_⟩
      clear hK9
      have k2x := kk2 _ k2
      have kk2 := fun i hi => kk2 i (kk i hi)
      have hAy := hAx.row_other (cs := zV s.2.1) (show w.heap.size ≠ w2.heap.size by omega)
      have hBy := hBx.row_other (cs := zV s.2.1) (show (w.heap.size + 1) ≠ w2.heap.size by omega)
      have hRy := hRx.row_other (cs := zV s.2.1) (show (w.heap.size + 2) ≠ w2.heap.size by omega)
      have hZy : ZAt 60 ((w2.alloc (.cells (zV fun _ => 0) 60)).setRow w2.heap.size (zV s.2.1)) w2.heap.size s.2.1 := setRow_heap _ _ _ (zV s.2.1) _ _ hZx
      have hQy := QAt.moved hQx (row_kept (w2.alloc (.cells (zV fun _ => 0) 60)) w2.heap.size (zV s.2.1)) kg
      have hky := hkx.trans ((row_kept (w2.alloc (.cells (zV fun _ => 0) 60)) w2.heap.size (zV s.2.1)).mono fun i hi => by have := hKin i hi; omega)
      refine wpAnyH_all (rs := [9]) (by kernel_rfl) (by simp) (fun i hi => ?_)
      obtain rfl : i = 9 := by simpa using hi
      refine wpOp_step rfl (fun K9 hK9 => ?_)
      rw [if_pos (by rfl)]
      refine wp_store_row 60 (.tmp 11) (.tmp 33) rfl w2.heap.size (zV s.2.1) rfl rfl 60 _ hZx (by rw [zV_size]; exact info_bits) (by rw [zV_size, zV_size]) (one_zV _) ?_
      refine hK9 _ _ ⟨⟨range_row hAy, range_row hBy⟩, ?_⟩
      clear hK9
      refine wpAnyH_take (i := 10) (v := ?_) rfl (by kernel_rfl) (by kernel_rfl) (by kernel_rfl) (fun _ _ _ h => h) (Or.inl ⟨by rfl, ?_⟩) ⟨range_row hAy, range_row hBy⟩ ?_
      rotate_left
      · intro w hw
        go_simp
        try with_reducible rfl
      refine wpAnyH_done (by kernel_rfl) ?_ _
      clear hZx hQx hkx hAx hBx hAy hBy kx
      generalize (w2.alloc (.cells (zV fun _ => 0) 60)).setRow w2.heap.size (zV s.2.1) = wy at *
      go_wp2_with (first | (refine wpList_load_row rfl 60 (.tmp 11) rfl w2.heap.size rfl 60 (zV s.2.1) (0, 0) _ hZy Try.underlying60 rfl (by rw [zV_size]; exact info_bits) ?_) | (refine wpList_store_row rfl 60 (.tmp 8) (.tmp 35) rfl (w.heap.size + 2) (zV s.2.1) rfl rfl 60 _ hRy (by rw [zV_size]; exact info_bits) (by rw [zV_size, zV_size]) (one_zV _) ?_) | fail)
      exact bodyPost_ret (v := .agg (zV s.2.1)) (results_cell_row rfl _ _ (w.heap.size + 2) 60 (zV s.2.1) (0, 0) _ rfl (setRow_heap _ _ _ _ _ _ hRy) Try.underlying60 rfl (by rw [zV_size]; exact info_bits)) rfl ⟨rfl, QAt.mono (QAt.moved hQy (row_kept _ _ _) k2x) kk2, hky.trans ((row_kept _ _ _).mono fun i hi => by have := hKin i hi; show i ≠ w.heap.size + 2; omega)⟩
    · have bx := (Below.refl w1.heap.size w1).alloc (Nat.le_refl _) (.cells (zV fun _ => 0) 60)
      have hZ2 := blk_new w1 (.cells (zV fun _ => 0) 60)
      have hA2 := hA1.below bx
      have hB2 := hB1.below bx
      have hR2 := hR1.below bx
      have hQ2 := QAt.more hQ1 bx
      have kg : More K1 w1 (w1.alloc (.cells (zV fun _ => 0) 60)) w1.heap.size := Or.inr ⟨Nat.le_refl _, by simp⟩
      have kk2 : ∀ i, K1 i → More K1 w1 (w1.alloc (.cells (zV fun _ => 0) 60)) i := fun i hi => Or.inl hi
      have hk2 := hk1.trans (Kept.below bx)
      refine wpOp_step rfl (fun K9 hK9 => ?_)
      rw [if_pos (by rfl)]
      go_simp
      rw [zero_zV]
      refine hK9 _ _ ⟨⟨range_row hA2, range_row hB2⟩, ?_⟩
      clear hK9
      refine wpAnyH_all (rs := [4]) (by kernel_rfl) (by simp) (fun i hi => ?_)
      obtain rfl : i = 4 := by simpa using hi
      refine wpOp_step rfl (fun K9 hK9 => ?_)
      rw [if_pos (by rfl)]
      go_simp
      go_at_call 46
      refine (hT _ _ hQ2).mono ?_
      rintro r w3 ⟨rfl, hQx, kx⟩
      have hAx := hA2.kept kx (kk2 _ k0)
      have hBx := hB2.kept kx (kk2 _ k1)
      have hRx := hR2.kept kx (kk2 _ k2)
      have hZx := kx.blk kg hZ2
      have hkx := hk2.trans (kx.mono fun i hi => kk2 _ (kk i hi))
      refine hK9 _ _ ⟨⟨range_row hAx, range_row hBx⟩, ?_⟩
      clear hK9
      refine wpAnyH_take (i := 5) (v := ?_) rfl (by kernel_rfl) (by kernel_rfl) (by kernel_rfl) (fun _ _ _ h => h) (Or.inl ⟨by rfl, ?_⟩) ⟨range_row hAx, range_row hBx⟩ ?_
      rotate_left
      · intro w hw
        go_simp
        try with_reducible rfl
      refine wpAnyH_take (i := 6) (v := ?_) rfl (by kernel_rfl) (by kernel_rfl) (by kernel_rfl) (fun _ _ _ h => h) (Or.inl ⟨by rfl, ?_⟩) ⟨range_row hAx, range_row hBx⟩ ?_
      rotate_left
      · intro w hw
        go_simp
        try with_reducible rfl
      refine wpAnyH_take (i := 7) (v := ?_) rfl (by kernel_rfl) (by kernel_rfl) (by kernel_rfl) (fun _ _ _ h => h) (Or.inl ⟨by rfl, ?_⟩) ⟨range_row hAx, range_row hBx⟩ ?_
      rotate_left
      · intro w hw
        go_simp
        try with_reducible rfl
      have k2x := kk2 _ k2
      have kk2 := fun i hi => kk2 i (kk i hi)
      have hAy := hAx.row_other (cs := zV s.2.1) (show w.heap.size ≠ w1.heap.size by omega)
      have hBy := hBx.row_other (cs := zV s.2.1) (show (w.heap.size + 1) ≠ w1.heap.size by omega)
      have hRy := hRx.row_other (cs := zV s.2.1) (show (w.heap.size + 2) ≠ w1.heap.size by omega)
      have hZy : ZAt 60 ((w3).setRow w1.heap.size (zV s.2.1)) w1.heap.size s.2.1 := setRow_heap _ _ _ (zV s.2.1) _ _ hZx
      have hQy := QAt.moved hQx (row_kept (w3) w1.heap.size (zV s.2.1)) kg
      have hky := hkx.trans ((row_kept (w3) w1.heap.size (zV s.2.1)).mono fun i hi => by have := hKin i hi; omega)
      refine wpAnyH_all (rs := [9]) (by kernel_rfl) (by simp) (fun i hi => ?_)
      obtain rfl : i = 9 := by simpa using hi
      refine wpOp_step rfl (fun K9 hK9 => ?_)
      rw [if_pos (by rfl)]
      refine wp_store_row 60 (.tmp 11) (.tmp 33) rfl w1.heap.size (zV s.2.1) rfl rfl 60 _ hZx (by rw [zV_size]; exact info_bits) (by rw [zV_size, zV_size]) (one_zV _) ?_
      refine hK9 _ _ ⟨⟨range_row hAy, range_row hBy⟩, ?_⟩
      clear hK9
      refine wpAnyH_take (i := 10) (v := ?_) rfl (by kernel_rfl) (by kernel_rfl) (by kernel_rfl) (fun _ _ _ h => h) (Or.inl ⟨by rfl, ?_⟩) ⟨range_row hAy, range_row hBy⟩ ?_
      rotate_left
      · intro w hw
        go_simp
        try with_reducible rfl
      refine wpAnyH_done (by kernel_rfl) ?_ _
      clear hZx hQx hkx hAx hBx hAy hBy kx
      generalize (w3).setRow w1.heap.size (zV s.2.1) = wy at *
      go_wp2_with (first | (refine wpList_load_row rfl 60 (.tmp 11) rfl w1.heap.size rfl 60 (zV s.2.1) (0, 0) _ hZy Try.underlying60 rfl (by rw [zV_size]; exact info_bits) ?_) | (refine wpList_store_row rfl 60 (.tmp 8) (.tmp 35) rfl (w.heap.size + 2) (zV s.2.1) rfl rfl 60 _ hRy (by rw [zV_size]; exact info_bits) (by rw [zV_size, zV_size]) (one_zV _) ?_) | fail)
      exact bodyPost_ret (v := .agg (zV s.2.1)) (results_cell_row rfl _ _ (w.heap.size + 2) 60 (zV s.2.1) (0, 0) _ rfl (setRow_heap _ _ _ _ _ _ hRy) Try.underlying60 rfl (by rw [zV_size]; exact info_bits)) rfl ⟨rfl, QAt.mono (QAt.moved hQy (row_kept _ _ _) k2x) kk2, hky.trans ((row_kept _ _ _).mono fun i hi => by have := hKin i hi; show i ≠ w.heap.size + 2; omega)⟩
  · have bx := (Below.refl wr.drew.heap.size wr.drew).alloc (Nat.le_refl _) (.cells (zV fun _ => 0) 60)
    have hZ1 := blk_new wr.drew (.cells (zV fun _ => 0) 60)
    have hA1 := hAd.below bx
    have hB1 := hBd.below bx
    have hR1 := hRd.below bx
    have hQ1 := QAt.more hQd bx
    have kg : More K1 wr.drew (wr.drew.alloc (.cells (zV fun _ => 0) 60)) wr.drew.heap.size := Or.inr ⟨Nat.le_refl _, by simp⟩
    have kk2 : ∀ i, K1 i → More K1 wr.drew (wr.drew.alloc (.cells (zV fun _ => 0) 60)) i := fun i hi => Or.inl hi
    have hk1 := hkd.trans (Kept.below bx)
    refine wpOp_step rfl (fun K9 hK9 => ?_)
    rw [if_pos (by rfl)]
    go_simp
    rw [zero_zV]
    refine hK9 _ _ ⟨⟨range_row hA1, range_row hB1⟩, ?_⟩
    clear hK9
    refine wpAnyH_all (rs := [3]) (by kernel_rfl) (by simp) (fun i hi => ?_)
    obtain rfl : i = 3 := by simpa using hi
    refine wpOp_step rfl (fun K9 hK9 => ?_)
    rw [if_pos (by rfl)]
    go_simp
    go_at_call 47
    refine (turned_any b hbs _).mono ?_
    rintro r w2 ⟨rfl, bt⟩
    have hA2 := hA1.below bt
    have hB2 := hB1.below bt
    have hR2 := hR1.below bt
    have hQ2 := QAt.below hQ1 bt
    have hk2 := hk1.trans (Kept.below bt)
    have hZ2 := blk_below hZ1 bt
    refine hK9 _ _ ⟨⟨range_row hA2, range_row hB2⟩, ?_⟩
    clear hK9
    refine wpAnyH_all (rs := [4]) (by kernel_rfl) (by simp) (fun i hi => ?_)
    obtain rfl : i = 4 := by simpa using hi
    refine wpOp_step rfl (fun K9 hK9 => ?_)
    rw [if_pos (by rfl)]
    go_simp
    go_at_call 46
    refine (hT _ _ hQ2).mono ?_
    rintro r w3 ⟨rfl, hQx, kx⟩
    have hAx := hA2.kept kx (kk2 _ k0)
    have hBx := hB2.kept kx (kk2 _ k1)
    have hRx := hR2.kept kx (kk2 _ k2)
    have hZx := kx.blk kg hZ2
    have hkx := hk2.trans (kx.mono fun i hi => kk2 _ (kk i hi))
    refine hK9 _ _ ⟨⟨range_row hAx, range_row hBx⟩, ?_⟩
    clear hK9
    refine wpAnyH_take (i := 5) (v := ?_) rfl (by kernel_rfl) (by kernel_rfl) (by kernel_rfl) (fun _ _ _ h => h) (Or.inl ⟨by rfl, ?_⟩) ⟨range_row hAx, range_row hBx⟩ ?_
    rotate_left
    · intro w hw
      go_simp
      try with_reducible rfl
    refine wpAnyH_take (i := 6) (v := ?_) rfl (by kernel_rfl) (by kernel_rfl) (by kernel_rfl) (fun _ _ _ h => h) (Or.inl ⟨by rfl, ?_⟩) ⟨range_row hAx, range_row hBx⟩ ?_
    rotate_left
    · intro w hw
      go_simp
      try with_reducible rfl
    refine wpAnyH_take (i := 7) (v := ?_) rfl (by kernel_rfl) (by kernel_rfl) (by kernel_rfl) (fun _ _ _ h => h) (Or.inl ⟨by rfl, ?_⟩) ⟨range_row hAx, range_row hBx⟩ ?_
    rotate_left
    · intro w hw
      go_simp
      try with_reducible rfl
    have k2x := kk2 _ k2
    have kk2 := fun i hi => kk2 i (kk i hi)
    have hAy := hAx.row_other (cs := zV s.2.1) (show w.heap.size ≠ wr.heap.size by omega)
    have hBy := hBx.row_other (cs := zV s.2.1) (show (w.heap.size + 1) ≠ wr.heap.size by omega)
    have hRy := hRx.row_other (cs := zV s.2.1) (show (w.heap.size + 2) ≠ wr.heap.size by omega)
    have hZy : ZAt 60 ((w3).setRow wr.heap.size (zV s.2.1)) wr.heap.size s.2.1 := setRow_heap _ _ _ (zV s.2.1) _ _ hZx
    have hQy := QAt.moved hQx (row_kept (w3) wr.heap.size (zV s.2.1)) kg
    have hky := hkx.trans ((row_kept (w3) wr.heap.size (zV s.2.1)).mono fun i hi => by have := hKin i hi; omega)
    refine wpAnyH_all (rs := [9]) (by kernel_rfl) (by simp) (fun i hi => ?_)
    obtain rfl : i = 9 := by simpa using hi
    refine wpOp_step rfl (fun K9 hK9 => ?_)
    rw [if_pos (by rfl)]
    refine wp_store_row 60 (.tmp 11) (.tmp 33) rfl wr.heap.size (zV s.2.1) rfl rfl 60 _ hZx (by rw [zV_size]; exact info_bits) (by rw [zV_size, zV_size]) (one_zV _) ?_
    refine hK9 _ _ ⟨⟨range_row hAy, range_row hBy⟩, ?_⟩
    clear hK9
    refine wpAnyH_take (i := 10) (v := ?_) rfl (by kernel_rfl) (by kernel_rfl) (by kernel_rfl) (fun _ _ _ h => h) (Or.inl ⟨by rfl, ?_⟩) ⟨range_row hAy, range_row hBy⟩ ?_
    rotate_left
    · intro w hw
      go_simp
      try with_reducible rfl
    refine wpAnyH_done (by kernel_rfl) ?_ _
    clear hZx hQx hkx hAx hBx hAy hBy kx
    generalize (w3).setRow wr.heap.size (zV s.2.1) = wy at *
    go_wp2_with (first | (refine wpList_load_row rfl 60 (.tmp 11) rfl wr.heap.size rfl 60 (zV s.2.1) (0, 0) _ hZy Try.underlying60 rfl (by rw [zV_size]; exact info_bits) ?_) | (refine wpList_store_row rfl 60 (.tmp 8) (.tmp 35) rfl (w.heap.size + 2) (zV s.2.1) rfl rfl 60 _ hRy (by rw [zV_size]; exact info_bits) (by rw [zV_size, zV_size]) (one_zV _) ?_) | fail)
    exact bodyPost_ret (v := .agg (zV s.2.1)) (results_cell_row rfl _ _ (w.heap.size + 2) 60 (zV s.2.1) (0, 0) _ rfl (setRow_heap _ _ _ _ _ _ hRy) Try.underlying60 rfl (by rw [zV_size]; exact info_bits)) rfl ⟨rfl, QAt.mono (QAt.moved hQy (row_kept _ _ _) k2x) kk2, hky.trans ((row_kept _ _ _).mono fun i hi => by have := hKin i hi; show i ≠ w.heap.size + 2; omega)⟩
set_option maxRecDepth 100000 in
set_option maxHeartbeats 8000000 in
theorem does_30 (K : Nat → Prop) (q : Nat) (gs : List Gate) (hG : GGood gs) (a b : Nat → Int) (ha : Lits gs a) (hb : Lits gs b) (hl : gs.length < 199000) (w : World) (h : QS K w q gs) :
    Calls Try.prog 33 #[.pointer (some ⟨q, 0, none⟩), .int .i64 30, .agg (zV a), .agg (zV b)] w (WordPost K w q (doesG 30 a b gs)) := by
  have cx := fun K w h => below_any K q gs hG a b true ha hb hl w h
  have hR0 : doesG 30 a b gs = ((belowG true a b gs).1, setZ (wordW 0) 0 (belowG true a b gs).2) := by
    unfold doesG
    rw [if_neg (by decide), if_neg (by decide), if_neg (by decide), if_neg (by decide), if_neg (by decide), if_pos rfl]
    exact Prod.ext rfl (lessW_set _).symm
  generalize belowG true a b gs = x at *
  rw [hR0]
  clear hR0
  have hmf : ∀ (fn : Fn) (first cap : Array Value) (w : World), (Instr.makeFunc fn first cap).run Try.prog w = .ok (.func fn first cap) w := fun _ _ _ _ => rfl
  have b1 := (Below.refl w.heap.size w).alloc (Nat.le_refl _) (.cells (zV a) 60)
  have b2 := b1.alloc (by simp) (.cells (zV b) 60)
  have b3 := b2.alloc (by simp; omega) (.cells #[.int .i64 0, .int .i64 0, .int .i64 0, .int .i64 0, .int .i64 0, .int .i64 0, .int .i64 0, .int .i64 0, .int .i64 0, .int .i64 0, .int .i64 0, .int .i64 0, .int .i64 0, .int .i64 0, .int .i64 0, .int .i64 0, .int .i64 0, .int .i64 0, .int .i64 0, .int .i64 0, .int .i64 0, .int .i64 0, .int .i64 0, .int .i64 0, .int .i64 0, .int .i64 0, .int .i64 0, .int .i64 0, .int .i64 0, .int .i64 0, .int .i64 0, .int .i64 0] 60)
  have hz0 := blk_new w (.cells (zV a) 60)
  have hz1 := blk_new (w.alloc (.cells (zV a) 60)) (.cells (zV b) 60)
  have hz2 := blk_new ((w.alloc (.cells (zV a) 60)).alloc (.cells (zV b) 60)) (.cells #[.int .i64 0, .int .i64 0, .int .i64 0, .int .i64 0, .int .i64 0, .int .i64 0, .int .i64 0, .int .i64 0, .int .i64 0, .int .i64 0, .int .i64 0, .int .i64 0, .int .i64 0, .int .i64 0, .int .i64 0, .int .i64 0, .int .i64 0, .int .i64 0, .int .i64 0, .int .i64 0, .int .i64 0, .int .i64 0, .int .i64 0, .int .i64 0, .int .i64 0, .int .i64 0, .int .i64 0, .int .i64 0, .int .i64 0, .int .i64 0, .int .i64 0, .int .i64 0] 60)
  have hsz1 : (w.alloc (.cells (zV a) 60)).heap.size = w.heap.size + 1 := by simp
  have hsz2 : ((w.alloc (.cells (zV a) 60)).alloc (.cells (zV b) 60)).heap.size = w.heap.size + 2 := by simp
  have hsz3 : (((w.alloc (.cells (zV a) 60)).alloc (.cells (zV b) 60)).alloc (.cells #[.int .i64 0, .int .i64 0, .int .i64 0, .int .i64 0, .int .i64 0, .int .i64 0, .int .i64 0, .int .i64 0, .int .i64 0, .int .i64 0, .int .i64 0, .int .i64 0, .int .i64 0, .int .i64 0, .int .i64 0, .int .i64 0, .int .i64 0, .int .i64 0, .int .i64 0, .int .i64 0, .int .i64 0, .int .i64 0, .int .i64 0, .int .i64 0, .int .i64 0, .int .i64 0, .int .i64 0, .int .i64 0, .int .i64 0, .int .i64 0, .int .i64 0, .int .i64 0] 60)).heap.size = w.heap.size + 3 := by simp
  have hz0 := blk_alloc (blk_alloc hz0 (.cells (zV b) 60)) (.cells #[.int .i64 0, .int .i64 0, .int .i64 0, .int .i64 0, .int .i64 0, .int .i64 0, .int .i64 0, .int .i64 0, .int .i64 0, .int .i64 0, .int .i64 0, .int .i64 0, .int .i64 0, .int .i64 0, .int .i64 0, .int .i64 0, .int .i64 0, .int .i64 0, .int .i64 0, .int .i64 0, .int .i64 0, .int .i64 0, .int .i64 0, .int .i64 0, .int .i64 0, .int .i64 0, .int .i64 0, .int .i64 0, .int .i64 0, .int .i64 0, .int .i64 0, .int .i64 0] 60)
  have hz1 := blk_alloc hz1 (.cells #[.int .i64 0, .int .i64 0, .int .i64 0, .int .i64 0, .int .i64 0, .int .i64 0, .int .i64 0, .int .i64 0, .int .i64 0, .int .i64 0, .int .i64 0, .int .i64 0, .int .i64 0, .int .i64 0, .int .i64 0, .int .i64 0, .int .i64 0, .int .i64 0, .int .i64 0, .int .i64 0, .int .i64 0, .int .i64 0, .int .i64 0, .int .i64 0, .int .i64 0, .int .i64 0, .int .i64 0, .int .i64 0, .int .i64 0, .int .i64 0, .int .i64 0, .int .i64 0] 60)
  rw [hsz1] at hz1
  rw [hsz2] at hz2
  have hQ : QS (More K w (((w.alloc (.cells (zV a) 60)).alloc (.cells (zV b) 60)).alloc (.cells #[.int .i64 0, .int .i64 0, .int .i64 0, .int .i64 0, .int .i64 0, .int .i64 0, .int .i64 0, .int .i64 0, .int .i64 0, .int .i64 0, .int .i64 0, .int .i64 0, .int .i64 0, .int .i64 0, .int .i64 0, .int .i64 0, .int .i64 0, .int .i64 0, .int .i64 0, .int .i64 0, .int .i64 0, .int .i64 0, .int .i64 0, .int .i64 0, .int .i64 0, .int .i64 0, .int .i64 0, .int .i64 0, .int .i64 0, .int .i64 0, .int .i64 0, .int .i64 0] 60))) _ q gs := QAt.more h b3
  rw [zero_zV] at *
  generalize hw4 : (((w.alloc (.cells (zV a) 60)).alloc (.cells (zV b) 60)).alloc (.cells (zV fun _ => 0) 60)) = w4 at *
  have hk0 : ∀ j, j < 3 → More K w w4 (w.heap.size + j) := fun j hj => Or.inr ⟨Nat.le_add_right _ _, by omega⟩
  have kk : ∀ i, K i → More K w w4 i := fun i hi => Or.inl hi
  have hk4 : Kept K w w4 := Kept.below b3
  generalize More K w w4 = K1 at *
  have k0 := hk0 0 (by omega)
  have k1 := hk0 1 (by omega)
  have k2 := hk0 2 (by omega)
  rw [Nat.add_zero] at k0
  have hKin : ∀ i, K i → i < w.heap.size := QAt.in_ h
  have hlw : w.heap.size + 3 ≤ w4.heap.size := by omega
  have hA : ZAt 60 w4 w.heap.size a := hz0
  have hB : ZAt 60 w4 (w.heap.size + 1) b := hz1
  have hR : ZAt 60 w4 (w.heap.size + 2) (fun _ => 0) := hz2
  have hA' := hA
  have hB' := hB
  clear hk0 b1 b2 b3 hsz1 hsz2 hsz3 h hz0 hz1 hz2
  subst hw4
  rw [← zero_zV] at hA' hB'
  go_enter Try.func33, Try.ntmps33
  go_wp2_with fail
  rw [zero_zV]
  generalize hw4 : (((w.alloc (.cells (zV a) 60)).alloc (.cells (zV b) 60)).alloc (.cells (zV fun _ => 0) 60)) = w4 at *
  clear hw4 hA' hB'
  refine (word_any 0 (by decide) w4).mono ?_
  rintro r w5 ⟨rfl, b5⟩
  have hsz5 : w.heap.size + 3 ≤ w5.heap.size := Nat.le_trans hlw b5.size
  have bx := (Below.refl w5.heap.size w5).alloc (Nat.le_refl _) (.cells #[.int .i64 0, .int .i64 0, .int .i64 0, .int .i64 0, .int .i64 0, .int .i64 0, .int .i64 0, .int .i64 0, .int .i64 0, .int .i64 0, .int .i64 0, .int .i64 0, .int .i64 0, .int .i64 0, .int .i64 0, .int .i64 0, .int .i64 0, .int .i64 0, .int .i64 0, .int .i64 0, .int .i64 0, .int .i64 0, .int .i64 0, .int .i64 0, .int .i64 0, .int .i64 0, .int .i64 0, .int .i64 0, .int .i64 0, .int .i64 0, .int .i64 0, .int .i64 0] 60)
  have hZ5 := blk_new w5 (.cells #[.int .i64 0, .int .i64 0, .int .i64 0, .int .i64 0, .int .i64 0, .int .i64 0, .int .i64 0, .int .i64 0, .int .i64 0, .int .i64 0, .int .i64 0, .int .i64 0, .int .i64 0, .int .i64 0, .int .i64 0, .int .i64 0, .int .i64 0, .int .i64 0, .int .i64 0, .int .i64 0, .int .i64 0, .int .i64 0, .int .i64 0, .int .i64 0, .int .i64 0, .int .i64 0, .int .i64 0, .int .i64 0, .int .i64 0, .int .i64 0, .int .i64 0, .int .i64 0] 60)
  have kg : More K1 w5 (w5.alloc (.cells #[.int .i64 0, .int .i64 0, .int .i64 0, .int .i64 0, .int .i64 0, .int .i64 0, .int .i64 0, .int .i64 0, .int .i64 0, .int .i64 0, .int .i64 0, .int .i64 0, .int .i64 0, .int .i64 0, .int .i64 0, .int .i64 0, .int .i64 0, .int .i64 0, .int .i64 0, .int .i64 0, .int .i64 0, .int .i64 0, .int .i64 0, .int .i64 0, .int .i64 0, .int .i64 0, .int .i64 0, .int .i64 0, .int .i64 0, .int .i64 0, .int .i64 0, .int .i64 0] 60)) w5.heap.size := Or.inr ⟨Nat.le_refl _, by simp⟩
  have hQ6 := QAt.moved (QAt.more (QAt.below hQ b5) bx) (row_kept (w5.alloc (.cells #[.int .i64 0, .int .i64 0, .int .i64 0, .int .i64 0, .int .i64 0, .int .i64 0, .int .i64 0, .int .i64 0, .int .i64 0, .int .i64 0, .int .i64 0, .int .i64 0, .int .i64 0, .int .i64 0, .int .i64 0, .int .i64 0, .int .i64 0, .int .i64 0, .int .i64 0, .int .i64 0, .int .i64 0, .int .i64 0, .int .i64 0, .int .i64 0, .int .i64 0, .int .i64 0, .int .i64 0, .int .i64 0, .int .i64 0, .int .i64 0, .int .i64 0, .int .i64 0] 60)) w5.heap.size (zV (wordW 0))) kg
  have hk6 := ((hk4.trans (Kept.below b5)).trans (Kept.below bx)).trans ((row_kept (w5.alloc (.cells #[.int .i64 0, .int .i64 0, .int .i64 0, .int .i64 0, .int .i64 0, .int .i64 0, .int .i64 0, .int .i64 0, .int .i64 0, .int .i64 0, .int .i64 0, .int .i64 0, .int .i64 0, .int .i64 0, .int .i64 0, .int .i64 0, .int .i64 0, .int .i64 0, .int .i64 0, .int .i64 0, .int .i64 0, .int .i64 0, .int .i64 0, .int .i64 0, .int .i64 0, .int .i64 0, .int .i64 0, .int .i64 0, .int .i64 0, .int .i64 0, .int .i64 0, .int .i64 0] 60)) w5.heap.size (zV (wordW 0))).mono fun i hi => by have := hKin i hi; show i ≠ w5.heap.size; omega)
  have hA6 := ((hA.below b5).below bx).row_other (cs := zV (wordW 0)) (show w.heap.size ≠ w5.heap.size by omega)
  have hB6 := ((hB.below b5).below bx).row_other (cs := zV (wordW 0)) (show w.heap.size + 1 ≠ w5.heap.size by omega)
  have hR6 := ((hR.below b5).below bx).row_other (cs := zV (wordW 0)) (show w.heap.size + 2 ≠ w5.heap.size by omega)
  have hZ6 : ZAt 60 ((w5.alloc (.cells #[.int .i64 0, .int .i64 0, .int .i64 0, .int .i64 0, .int .i64 0, .int .i64 0, .int .i64 0, .int .i64 0, .int .i64 0, .int .i64 0, .int .i64 0, .int .i64 0, .int .i64 0, .int .i64 0, .int .i64 0, .int .i64 0, .int .i64 0, .int .i64 0, .int .i64 0, .int .i64 0, .int .i64 0, .int .i64 0, .int .i64 0, .int .i64 0, .int .i64 0, .int .i64 0, .int .i64 0, .int .i64 0, .int .i64 0, .int .i64 0, .int .i64 0, .int .i64 0] 60)).setRow w5.heap.size (zV (wordW 0))) w5.heap.size (wordW 0) := setRow_heap _ _ _ _ _ _ hZ5
  have kk2 : ∀ i, K1 i → More K1 w5 (w5.alloc (.cells #[.int .i64 0, .int .i64 0, .int .i64 0, .int .i64 0, .int .i64 0, .int .i64 0, .int .i64 0, .int .i64 0, .int .i64 0, .int .i64 0, .int .i64 0, .int .i64 0, .int .i64 0, .int .i64 0, .int .i64 0, .int .i64 0, .int .i64 0, .int .i64 0, .int .i64 0, .int .i64 0, .int .i64 0, .int .i64 0, .int .i64 0, .int .i64 0, .int .i64 0, .int .i64 0, .int .i64 0, .int .i64 0, .int .i64 0, .int .i64 0, .int .i64 0, .int .i64 0] 60)) i := fun i hi => Or.inl hi
  clear hR hQ hA hB b5 hk4 bx
  go_wp2_with (first | (refine wpList_store_row rfl 60 (.tmp 13) (.tmp 69) rfl w5.heap.size (zV (wordW 0)) rfl rfl 60 _ hZ5 (by rw [zV_size]; exact info_bits) (by rw [zV_size]; rfl) (one_zV _) ?_) | (refine wpList_load_row rfl 60 (.tmp 6) rfl w.heap.size rfl 60 (zV a) (0, 0) _ hA6 Try.underlying60 rfl (by rw [zV_size]; exact info_bits) ?_) | (refine wpList_load_row rfl 60 (.tmp 7) rfl (w.heap.size + 1) rfl 60 (zV b) (0, 0) _ hB6 Try.underlying60 rfl (by rw [zV_size]; exact info_bits) ?_) | fail)
  refine (cx _ _ hQ6).mono ?_
  rintro r w7 ⟨rfl, hQ7, k7⟩
  have hZ7 := hZ6.kept k7 kg
  have hR7 := hR6.kept k7 (kk2 _ k2)
  have hk7 := hk6.trans (k7.mono fun i hi => kk2 _ (kk i hi))
  have dc := hZ7.cell (i := 0) (by omega)
  have df := hZ7.fro 0
  have hZ8 := hZ7.set 0 x.2
  have hR8 := hR7.set_other (n := 0) (v := .int .i64 x.2) (show w.heap.size + 2 ≠ w5.heap.size by omega)
  have hQ8 := QAt.moved hQ7 (qset w7 w5.heap.size 0 (.int .i64 x.2)) kg
  have hk8 := hk7.trans ((qset w7 w5.heap.size 0 (.int .i64 x.2)).mono fun i hi => by have := hKin i hi; show i ≠ w5.heap.size; omega)
  clear hZ5 hQ6 hk6 hA6 hB6 hR6 hZ6 hQ7 k7 hZ7 hR7 hk7
  go_wp2_with (first | (refine wpList_load_row rfl 60 (.tmp 13) rfl w5.heap.size rfl 60 (zV (setZ (wordW 0) 0 x.2)) (0, 0) _ hZ8 Try.underlying60 rfl (by rw [zV_size]; exact info_bits) ?_) | (refine wpList_store_row rfl 60 (.tmp 8) (.tmp 77) rfl (w.heap.size + 2) (zV (setZ (wordW 0) 0 x.2)) rfl rfl 60 _ hR8 (by rw [zV_size]; exact info_bits) (by rw [zV_size, zV_size]) (one_zV _) ?_) | fail)
  exact bodyPost_ret (v := .agg (zV (setZ (wordW 0) 0 x.2))) (results_cell_row rfl _ _ (w.heap.size + 2) 60 (zV (setZ (wordW 0) 0 x.2)) (0, 0) _ rfl (setRow_heap _ _ _ _ _ _ hR8) Try.underlying60 rfl (by rw [zV_size]; exact info_bits)) rfl ⟨rfl, QAt.mono (QAt.moved hQ8 (row_kept _ _ _) (kk2 _ k2)) (fun i hi => kk2 _ (kk i hi)), hk8.trans ((row_kept _ _ _).mono fun i hi => by have := hKin i hi; show i ≠ w.heap.size + 2; omega)⟩
set_option maxRecDepth 100000 in
set_option maxHeartbeats 8000000 in
theorem does_31 (K : Nat → Prop) (q : Nat) (gs : List Gate) (hG : GGood gs) (a b : Nat → Int) (ha : Lits gs a) (hb : Lits gs b) (hl : gs.length < 199000) (w : World) (h : QS K w q gs) :
    Calls Try.prog 33 #[.pointer (some ⟨q, 0, none⟩), .int .i64 31, .agg (zV a), .agg (zV b)] w (WordPost K w q (doesG 31 a b gs)) := by
  have cx := fun K w h => below_any K q gs hG a b false ha hb hl w h
  have hR0 : doesG 31 a b gs = ((belowG false a b gs).1, setZ (wordW 0) 0 (belowG false a b gs).2) := by
    unfold doesG
    rw [if_neg (by decide), if_neg (by decide), if_neg (by decide), if_neg (by decide), if_neg (by decide), if_neg (by decide), if_pos rfl]
    exact Prod.ext rfl (lessW_set _).symm
  generalize belowG false a b gs = x at *
  rw [hR0]
  clear hR0
  have hmf : ∀ (fn : Fn) (first cap : Array Value) (w : World), (Instr.makeFunc fn first cap).run Try.prog w = .ok (.func fn first cap) w := fun _ _ _ _ => rfl
  have b1 := (Below.refl w.heap.size w).alloc (Nat.le_refl _) (.cells (zV a) 60)
  have b2 := b1.alloc (by simp) (.cells (zV b) 60)
  have b3 := b2.alloc (by simp; omega) (.cells #[.int .i64 0, .int .i64 0, .int .i64 0, .int .i64 0, .int .i64 0, .int .i64 0, .int .i64 0, .int .i64 0, .int .i64 0, .int .i64 0, .int .i64 0, .int .i64 0, .int .i64 0, .int .i64 0, .int .i64 0, .int .i64 0, .int .i64 0, .int .i64 0, .int .i64 0, .int .i64 0, .int .i64 0, .int .i64 0, .int .i64 0, .int .i64 0, .int .i64 0, .int .i64 0, .int .i64 0, .int .i64 0, .int .i64 0, .int .i64 0, .int .i64 0, .int .i64 0] 60)
  have hz0 := blk_new w (.cells (zV a) 60)
  have hz1 := blk_new (w.alloc (.cells (zV a) 60)) (.cells (zV b) 60)
  have hz2 := blk_new ((w.alloc (.cells (zV a) 60)).alloc (.cells (zV b) 60)) (.cells #[.int .i64 0, .int .i64 0, .int .i64 0, .int .i64 0, .int .i64 0, .int .i64 0, .int .i64 0, .int .i64 0, .int .i64 0, .int .i64 0, .int .i64 0, .int .i64 0, .int .i64 0, .int .i64 0, .int .i64 0, .int .i64 0, .int .i64 0, .int .i64 0, .int .i64 0, .int .i64 0, .int .i64 0, .int .i64 0, .int .i64 0, .int .i64 0, .int .i64 0, .int .i64 0, .int .i64 0, .int .i64 0, .int .i64 0, .int .i64 0, .int .i64 0, .int .i64 0] 60)
  have hsz1 : (w.alloc (.cells (zV a) 60)).heap.size = w.heap.size + 1 := by simp
  have hsz2 : ((w.alloc (.cells (zV a) 60)).alloc (.cells (zV b) 60)).heap.size = w.heap.size + 2 := by simp
  have hsz3 : (((w.alloc (.cells (zV a) 60)).alloc (.cells (zV b) 60)).alloc (.cells #[.int .i64 0, .int .i64 0, .int .i64 0, .int .i64 0, .int .i64 0, .int .i64 0, .int .i64 0, .int .i64 0, .int .i64 0, .int .i64 0, .int .i64 0, .int .i64 0, .int .i64 0, .int .i64 0, .int .i64 0, .int .i64 0, .int .i64 0, .int .i64 0, .int .i64 0, .int .i64 0, .int .i64 0, .int .i64 0, .int .i64 0, .int .i64 0, .int .i64 0, .int .i64 0, .int .i64 0, .int .i64 0, .int .i64 0, .int .i64 0, .int .i64 0, .int .i64 0] 60)).heap.size = w.heap.size + 3 := by simp
  have hz0 := blk_alloc (blk_alloc hz0 (.cells (zV b) 60)) (.cells #[.int .i64 0, .int .i64 0, .int .i64 0, .int .i64 0, .int .i64 0, .int .i64 0, .int .i64 0, .int .i64 0, .int .i64 0, .int .i64 0, .int .i64 0, .int .i64 0, .int .i64 0, .int .i64 0, .int .i64 0, .int .i64 0, .int .i64 0, .int .i64 0, .int .i64 0, .int .i64 0, .int .i64 0, .int .i64 0, .int .i64 0, .int .i64 0, .int .i64 0, .int .i64 0, .int .i64 0, .int .i64 0, .int .i64 0, .int .i64 0, .int .i64 0, .int .i64 0] 60)
  have hz1 := blk_alloc hz1 (.cells #[.int .i64 0, .int .i64 0, .int .i64 0, .int .i64 0, .int .i64 0, .int .i64 0, .int .i64 0, .int .i64 0, .int .i64 0, .int .i64 0, .int .i64 0, .int .i64 0, .int .i64 0, .int .i64 0, .int .i64 0, .int .i64 0, .int .i64 0, .int .i64 0, .int .i64 0, .int .i64 0, .int .i64 0, .int .i64 0, .int .i64 0, .int .i64 0, .int .i64 0, .int .i64 0, .int .i64 0, .int .i64 0, .int .i64 0, .int .i64 0, .int .i64 0, .int .i64 0] 60)
  rw [hsz1] at hz1
  rw [hsz2] at hz2
  have hQ : QS (More K w (((w.alloc (.cells (zV a) 60)).alloc (.cells (zV b) 60)).alloc (.cells #[.int .i64 0, .int .i64 0, .int .i64 0, .int .i64 0, .int .i64 0, .int .i64 0, .int .i64 0, .int .i64 0, .int .i64 0, .int .i64 0, .int .i64 0, .int .i64 0, .int .i64 0, .int .i64 0, .int .i64 0, .int .i64 0, .int .i64 0, .int .i64 0, .int .i64 0, .int .i64 0, .int .i64 0, .int .i64 0, .int .i64 0, .int .i64 0, .int .i64 0, .int .i64 0, .int .i64 0, .int .i64 0, .int .i64 0, .int .i64 0, .int .i64 0, .int .i64 0] 60))) _ q gs := QAt.more h b3
  rw [zero_zV] at *
  generalize hw4 : (((w.alloc (.cells (zV a) 60)).alloc (.cells (zV b) 60)).alloc (.cells (zV fun _ => 0) 60)) = w4 at *
  have hk0 : ∀ j, j < 3 → More K w w4 (w.heap.size + j) := fun j hj => Or.inr ⟨Nat.le_add_right _ _, by omega⟩
  have kk : ∀ i, K i → More K w w4 i := fun i hi => Or.inl hi
  have hk4 : Kept K w w4 := Kept.below b3
  generalize More K w w4 = K1 at *
  have k0 := hk0 0 (by omega)
  have k1 := hk0 1 (by omega)
  have k2 := hk0 2 (by omega)
  rw [Nat.add_zero] at k0
  have hKin : ∀ i, K i → i < w.heap.size := QAt.in_ h
  have hlw : w.heap.size + 3 ≤ w4.heap.size := by omega
  have hA : ZAt 60 w4 w.heap.size a := hz0
  have hB : ZAt 60 w4 (w.heap.size + 1) b := hz1
  have hR : ZAt 60 w4 (w.heap.size + 2) (fun _ => 0) := hz2
  have hA' := hA
  have hB' := hB
  clear hk0 b1 b2 b3 hsz1 hsz2 hsz3 h hz0 hz1 hz2
  subst hw4
  rw [← zero_zV] at hA' hB'
  go_enter Try.func33, Try.ntmps33
  go_wp2_with fail
  rw [zero_zV]
  generalize hw4 : (((w.alloc (.cells (zV a) 60)).alloc (.cells (zV b) 60)).alloc (.cells (zV fun _ => 0) 60)) = w4 at *
  clear hw4 hA' hB'
  refine (word_any 0 (by decide) w4).mono ?_
  rintro r w5 ⟨rfl, b5⟩
  have hsz5 : w.heap.size + 3 ≤ w5.heap.size := Nat.le_trans hlw b5.size
  have bx := (Below.refl w5.heap.size w5).alloc (Nat.le_refl _) (.cells #[.int .i64 0, .int .i64 0, .int .i64 0, .int .i64 0, .int .i64 0, .int .i64 0, .int .i64 0, .int .i64 0, .int .i64 0, .int .i64 0, .int .i64 0, .int .i64 0, .int .i64 0, .int .i64 0, .int .i64 0, .int .i64 0, .int .i64 0, .int .i64 0, .int .i64 0, .int .i64 0, .int .i64 0, .int .i64 0, .int .i64 0, .int .i64 0, .int .i64 0, .int .i64 0, .int .i64 0, .int .i64 0, .int .i64 0, .int .i64 0, .int .i64 0, .int .i64 0] 60)
  have hZ5 := blk_new w5 (.cells #[.int .i64 0, .int .i64 0, .int .i64 0, .int .i64 0, .int .i64 0, .int .i64 0, .int .i64 0, .int .i64 0, .int .i64 0, .int .i64 0, .int .i64 0, .int .i64 0, .int .i64 0, .int .i64 0, .int .i64 0, .int .i64 0, .int .i64 0, .int .i64 0, .int .i64 0, .int .i64 0, .int .i64 0, .int .i64 0, .int .i64 0, .int .i64 0, .int .i64 0, .int .i64 0, .int .i64 0, .int .i64 0, .int .i64 0, .int .i64 0, .int .i64 0, .int .i64 0] 60)
  have kg : More K1 w5 (w5.alloc (.cells #[.int .i64 0, .int .i64 0, .int .i64 0, .int .i64 0, .int .i64 0, .int .i64 0, .int .i64 0, .int .i64 0, .int .i64 0, .int .i64 0, .int .i64 0, .int .i64 0, .int .i64 0, .int .i64 0, .int .i64 0, .int .i64 0, .int .i64 0, .int .i64 0, .int .i64 0, .int .i64 0, .int .i64 0, .int .i64 0, .int .i64 0, .int .i64 0, .int .i64 0, .int .i64 0, .int .i64 0, .int .i64 0, .int .i64 0, .int .i64 0, .int .i64 0, .int .i64 0] 60)) w5.heap.size := Or.inr ⟨Nat.le_refl _, by simp⟩
  have hQ6 := QAt.moved (QAt.more (QAt.below hQ b5) bx) (row_kept (w5.alloc (.cells #[.int .i64 0, .int .i64 0, .int .i64 0, .int .i64 0, .int .i64 0, .int .i64 0, .int .i64 0, .int .i64 0, .int .i64 0, .int .i64 0, .int .i64 0, .int .i64 0, .int .i64 0, .int .i64 0, .int .i64 0, .int .i64 0, .int .i64 0, .int .i64 0, .int .i64 0, .int .i64 0, .int .i64 0, .int .i64 0, .int .i64 0, .int .i64 0, .int .i64 0, .int .i64 0, .int .i64 0, .int .i64 0, .int .i64 0, .int .i64 0, .int .i64 0, .int .i64 0] 60)) w5.heap.size (zV (wordW 0))) kg
  have hk6 := ((hk4.trans (Kept.below b5)).trans (Kept.below bx)).trans ((row_kept (w5.alloc (.cells #[.int .i64 0, .int .i64 0, .int .i64 0, .int .i64 0, .int .i64 0, .int .i64 0, .int .i64 0, .int .i64 0, .int .i64 0, .int .i64 0, .int .i64 0, .int .i64 0, .int .i64 0, .int .i64 0, .int .i64 0, .int .i64 0, .int .i64 0, .int .i64 0, .int .i64 0, .int .i64 0, .int .i64 0, .int .i64 0, .int .i64 0, .int .i64 0, .int .i64 0, .int .i64 0, .int .i64 0, .int .i64 0, .int .i64 0, .int .i64 0, .int .i64 0, .int .i64 0] 60)) w5.heap.size (zV (wordW 0))).mono fun i hi => by have := hKin i hi; show i ≠ w5.heap.size; omega)
  have hA6 := ((hA.below b5).below bx).row_other (cs := zV (wordW 0)) (show w.heap.size ≠ w5.heap.size by omega)
  have hB6 := ((hB.below b5).below bx).row_other (cs := zV (wordW 0)) (show w.heap.size + 1 ≠ w5.heap.size by omega)
  have hR6 := ((hR.below b5).below bx).row_other (cs := zV (wordW 0)) (show w.heap.size + 2 ≠ w5.heap.size by omega)
  have hZ6 : ZAt 60 ((w5.alloc (.cells #[.int .i64 0, .int .i64 0, .int .i64 0, .int .i64 0, .int .i64 0, .int .i64 0, .int .i64 0, .int .i64 0, .int .i64 0, .int .i64 0, .int .i64 0, .int .i64 0, .int .i64 0, .int .i64 0, .int .i64 0, .int .i64 0, .int .i64 0, .int .i64 0, .int .i64 0, .int .i64 0, .int .i64 0, .int .i64 0, .int .i64 0, .int .i64 0, .int .i64 0, .int .i64 0, .int .i64 0, .int .i64 0, .int .i64 0, .int .i64 0, .int .i64 0, .int .i64 0] 60)).setRow w5.heap.size (zV (wordW 0))) w5.heap.size (wordW 0) := setRow_heap _ _ _ _ _ _ hZ5
  have kk2 : ∀ i, K1 i → More K1 w5 (w5.alloc (.cells #[.int .i64 0, .int .i64 0, .int .i64 0, .int .i64 0, .int .i64 0, .int .i64 0, .int .i64 0, .int .i64 0, .int .i64 0, .int .i64 0, .int .i64 0, .int .i64 0, .int .i64 0, .int .i64 0, .int .i64 0, .int .i64 0, .int .i64 0, .int .i64 0, .int .i64 0, .int .i64 0, .int .i64 0, .int .i64 0, .int .i64 0, .int .i64 0, .int .i64 0, .int .i64 0, .int .i64 0, .int .i64 0, .int .i64 0, .int .i64 0, .int .i64 0, .int .i64 0] 60)) i := fun i hi => Or.inl hi
  clear hR hQ hA hB b5 hk4 bx
  go_wp2_with (first | (refine wpList_store_row rfl 60 (.tmp 13) (.tmp 69) rfl w5.heap.size (zV (wordW 0)) rfl rfl 60 _ hZ5 (by rw [zV_size]; exact info_bits) (by rw [zV_size]; rfl) (one_zV _) ?_) | (refine wpList_load_row rfl 60 (.tmp 6) rfl w.heap.size rfl 60 (zV a) (0, 0) _ hA6 Try.underlying60 rfl (by rw [zV_size]; exact info_bits) ?_) | (refine wpList_load_row rfl 60 (.tmp 7) rfl (w.heap.size + 1) rfl 60 (zV b) (0, 0) _ hB6 Try.underlying60 rfl (by rw [zV_size]; exact info_bits) ?_) | fail)
  refine (cx _ _ hQ6).mono ?_
  rintro r w7 ⟨rfl, hQ7, k7⟩
  have hZ7 := hZ6.kept k7 kg
  have hR7 := hR6.kept k7 (kk2 _ k2)
  have hk7 := hk6.trans (k7.mono fun i hi => kk2 _ (kk i hi))
  have dc := hZ7.cell (i := 0) (by omega)
  have df := hZ7.fro 0
  have hZ8 := hZ7.set 0 x.2
  have hR8 := hR7.set_other (n := 0) (v := .int .i64 x.2) (show w.heap.size + 2 ≠ w5.heap.size by omega)
  have hQ8 := QAt.moved hQ7 (qset w7 w5.heap.size 0 (.int .i64 x.2)) kg
  have hk8 := hk7.trans ((qset w7 w5.heap.size 0 (.int .i64 x.2)).mono fun i hi => by have := hKin i hi; show i ≠ w5.heap.size; omega)
  clear hZ5 hQ6 hk6 hA6 hB6 hR6 hZ6 hQ7 k7 hZ7 hR7 hk7
  go_wp2_with (first | (refine wpList_load_row rfl 60 (.tmp 13) rfl w5.heap.size rfl 60 (zV (setZ (wordW 0) 0 x.2)) (0, 0) _ hZ8 Try.underlying60 rfl (by rw [zV_size]; exact info_bits) ?_) | (refine wpList_store_row rfl 60 (.tmp 8) (.tmp 77) rfl (w.heap.size + 2) (zV (setZ (wordW 0) 0 x.2)) rfl rfl 60 _ hR8 (by rw [zV_size]; exact info_bits) (by rw [zV_size, zV_size]) (one_zV _) ?_) | fail)
  exact bodyPost_ret (v := .agg (zV (setZ (wordW 0) 0 x.2))) (results_cell_row rfl _ _ (w.heap.size + 2) 60 (zV (setZ (wordW 0) 0 x.2)) (0, 0) _ rfl (setRow_heap _ _ _ _ _ _ hR8) Try.underlying60 rfl (by rw [zV_size]; exact info_bits)) rfl ⟨rfl, QAt.mono (QAt.moved hQ8 (row_kept _ _ _) (kk2 _ k2)) (fun i hi => kk2 _ (kk i hi)), hk8.trans ((row_kept _ _ _).mono fun i hi => by have := hKin i hi; show i ≠ w.heap.size + 2; omega)⟩
end Go.Proofs.Ytgnahjadjgjecaa
