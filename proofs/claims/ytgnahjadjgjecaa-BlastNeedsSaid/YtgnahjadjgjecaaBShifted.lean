/- blast: each. -/
/- blast: shifted. -/
import Derived.Test.YtgnahjadjgjecaaBSum
set_option linter.unusedVariables false
set_option linter.unusedSimpArgs false
namespace Go.Proofs.Ytgnahjadjgjecaa
open Go.RowKit Go.Maps Go.MapKept

/-- What a call of the circuit answers: a word's literals, and the query behind it. -/
def WordPost (K : Nat → Prop) (w : World) (q : Nat) (s : List Gate × (Nat → Int)) (r : Ending) (w' : World) : Prop :=
  r = .returned (.agg (zV s.2)) ∧ QS K w' q s.1 ∧ Kept K w w'
theorem setZ_stepE (f g : Nat → Int) (j : Nat) (m : Int) (r : Nat) : setZ (fun r => if r < j then f r else g r) j m r = if r < j + 1 then (if r = j then m else f r) else g r := by
  unfold setZ
  by_cases h1 : r = j
  · subst h1; simp
  · by_cases h2 : r < j
    · simp [h1, h2]; omega
    · simp [h1, h2]; omega
set_option maxRecDepth 100000 in
set_option maxHeartbeats 4000000 in
theorem each_and (K : Nat → Prop) (q : Nat) (gs : List Gate) (hG : GGood gs) (a b : Nat → Int) (ha : Lits gs a) (hb : Lits gs b) (hl : gs.length < 199000) (w : World) (h : QS K w q gs) :
    Calls Try.prog 48 #[.agg (zV a), .agg (zV b), .func (.func 49) #[.pointer (some ⟨q, 0, none⟩)] #[]] w (WordPost K w q (eachF andG a b gs 32)) := by
  have hok := each_some hG ha hb andG (fun x y => x && y) (fun hs p q h1 h2 h3 => made_and h1 h2 h3)
  have b1 := (Below.refl w.heap.size w).alloc (Nat.le_refl _) (.cells (zV a) 60)
  have b2 := b1.alloc (by simp) (.cells (zV b) 60)
  have b3 := b2.alloc (by simp; omega) (.cells #[.int .i64 0, .int .i64 0, .int .i64 0, .int .i64 0, .int .i64 0, .int .i64 0, .int .i64 0, .int .i64 0, .int .i64 0, .int .i64 0, .int .i64 0, .int .i64 0, .int .i64 0, .int .i64 0, .int .i64 0, .int .i64 0, .int .i64 0, .int .i64 0, .int .i64 0, .int .i64 0, .int .i64 0, .int .i64 0, .int .i64 0, .int .i64 0, .int .i64 0, .int .i64 0, .int .i64 0, .int .i64 0, .int .i64 0, .int .i64 0, .int .i64 0, .int .i64 0] 60)
  have hz0 := blk_new w (.cells (zV a) 60)
  have hz1 := blk_new (w.alloc (.cells (zV a) 60)) (.cells (zV b) 60)
  have hz2 := blk_new ((w.alloc (.cells (zV a) 60)).alloc (.cells (zV b) 60)) (.cells #[.int .i64 0, .int .i64 0, .int .i64 0, .int .i64 0, .int .i64 0, .int .i64 0, .int .i64 0, .int .i64 0, .int .i64 0, .int .i64 0, .int .i64 0, .int .i64 0, .int .i64 0, .int .i64 0, .int .i64 0, .int .i64 0, .int .i64 0, .int .i64 0, .int .i64 0, .int .i64 0, .int .i64 0, .int .i64 0, .int .i64 0, .int .i64 0, .int .i64 0, .int .i64 0, .int .i64 0, .int .i64 0, .int .i64 0, .int .i64 0, .int .i64 0, .int .i64 0] 60)
  have hsz1 : (w.alloc (.cells (zV a) 60)).heap.size = w.heap.size + 1 := by simp
  have hsz2 : ((w.alloc (.cells (zV a) 60)).alloc (.cells (zV b) 60)).heap.size = w.heap.size + 2 := by simp
  have hsz3 : (((w.alloc (.cells (zV a) 60)).alloc (.cells (zV b) 60)).alloc (.cells #[.int .i64 0, .int .i64 0, .int .i64 0, .int .i64 0, .int .i64 0, .int .i64 0, .int .i64 0, .int .i64 0, .int .i64 0, .int .i64 0, .int .i64 0, .int .i64 0, .int .i64 0, .int .i64 0, .int .i64 0, .int .i64 0, .int .i64 0, .int .i64 0, .int .i64 0, .int .i64 0, .int .i64 0, .int .i64 0, .int .i64 0, .int .i64 0, .int .i64 0, .int .i64 0, .int .i64 0, .int .i64 0, .int .i64 0, .int .i64 0, .int .i64 0, .int .i64 0] 60)).heap.size = w.heap.size + 3 := by simp
  have hz0 := blk_alloc (blk_alloc hz0 (.cells (zV b) 60)) (.cells #[.int .i64 0, .int .i64 0, .int .i64 0, .int .i64 0, .int .i64 0, .int .i64 0, .int .i64 0, .int .i64 0, .int .i64 0, .int .i64 0, .int .i64 0, .int .i64 0, .int .i64 0, .int .i64 0, .int .i64 0, .int .i64 0, .int .i64 0, .int .i64 0, .int .i64 0, .int .i64 0, .int .i64 0, .int .i64 0, .int .i64 0, .int .i64 0, .int .i64 0, .int .i64 0, .int .i64 0, .int .i64 0, .int .i64 0, .int .i64 0, .int .i64 0, .int .i64 0] 60)
  have hz1 := blk_alloc hz1 (.cells #[.int .i64 0, .int .i64 0, .int .i64 0, .int .i64 0, .int .i64 0, .int .i64 0, .int .i64 0, .int .i64 0, .int .i64 0, .int .i64 0, .int .i64 0, .int .i64 0, .int .i64 0, .int .i64 0, .int .i64 0, .int .i64 0, .int .i64 0, .int .i64 0, .int .i64 0, .int .i64 0, .int .i64 0, .int .i64 0, .int .i64 0, .int .i64 0, .int .i64 0, .int .i64 0, .int .i64 0, .int .i64 0, .int .i64 0, .int .i64 0, .int .i64 0, .int .i64 0] 60)
  rw [hsz1] at hz1
  rw [hsz2] at hz2
  have hQ : QS (More K w (((w.alloc (.cells (zV a) 60)).alloc (.cells (zV b) 60)).alloc (.cells #[.int .i64 0, .int .i64 0, .int .i64 0, .int .i64 0, .int .i64 0, .int .i64 0, .int .i64 0, .int .i64 0, .int .i64 0, .int .i64 0, .int .i64 0, .int .i64 0, .int .i64 0, .int .i64 0, .int .i64 0, .int .i64 0, .int .i64 0, .int .i64 0, .int .i64 0, .int .i64 0, .int .i64 0, .int .i64 0, .int .i64 0, .int .i64 0, .int .i64 0, .int .i64 0, .int .i64 0, .int .i64 0, .int .i64 0, .int .i64 0, .int .i64 0, .int .i64 0] 60))) _ q gs := QAt.more h b3
  rw [zero_zV] at *
  generalize hw4 : (((w.alloc (.cells (zV a) 60)).alloc (.cells (zV b) 60)).alloc (.cells (zV fun _ => 0) 60)) = w4 at *
  have hk0 : ∀ j, j < 3 → More K w w4 (w.heap.size + j) := fun j hj => Or.inr ⟨Nat.le_add_right _ _, by omega⟩
  have kk : ∀ i, K i → More K w w4 i := fun i hi => Or.inl hi
  have hk4 : Kept K w w4 := Kept.below b3
  generalize More K w w4 = K1 at *
  have k0 := hk0 0 (by omega)
  have k1 := hk0 1 (by omega)
  have k2 := hk0 2 (by omega)
  rw [Nat.add_zero] at k0
  have hKin : ∀ i, K i → i < w.heap.size := QAt.in_ h
  clear hk0 b1 b2 b3 hsz1 hsz2 hsz3 h
  subst hw4
  go_enter Try.func48, Try.ntmps48
  go_wp2_with fail
  rw [zero_zV] at *
  generalize hw4 : (((w.alloc (.cells (zV a) 60)).alloc (.cells (zV b) 60)).alloc (.cells (zV fun _ => 0) 60)) = w4 at *
  clear hw4
  go_loopw [7, 8] (fun _ i wr => ∃ j : Nat, j ≤ 32 ∧ i = .int .i64 j ∧ ZAt 60 wr w.heap.size (fun r => if r < j then (eachF andG a b gs j).2 r else a r) ∧ ZAt 60 wr (w.heap.size + 1) b ∧ ZAt 60 wr (w.heap.size + 2) (fun _ => 0) ∧ QS K1 wr q (eachF andG a b gs j).1 ∧ Kept K w wr) (fun _ i _ => 32 - (intOf i).toNat)
  case atStart => exact ⟨0, by omega, rfl, hz0, hz1, hz2, hQ, hk4⟩
  case round =>
    clear hz0 hz1 hz2 hQ hk4
    obtain ⟨j, hj, rfl, hA, hB, hR, hQ, hk⟩ := hrel
    by_cases hlt : j < 32
    · have hlt' : (j : Int) < 32 := by omega
      obtain ⟨v, o1⟩ := hok j hj
      have hstep : eachF andG a b gs (j + 1) = ((andG (eachF andG a b gs j).1 (a j) (b j)).1, fun i => if i = j then (andG (eachF andG a b gs j).1 (a j) (b j)).2 else (eachF andG a b gs j).2 i) := rfl
      generalize eachF andG a b gs j = F at o1 hstep hA hQ ⊢
      obtain ⟨e1, g1, l1, n1, _, _⟩ := o1
      have la := (ha j hlt).mono (m := F.1.length + 1) (by have := e1.len; omega)
      have lb := (hb j hlt).mono (m := F.1.length + 1) (by have := e1.len; omega)
      have da := hA.cell (i := j) hlt
      rw [if_neg (Nat.lt_irrefl j)] at da
      have db := hB.cell (i := j) hlt
      have cx := and_any K1 q F.1 (a j) (b j) la lb (by omega)
      generalize andG F.1 (a j) (b j) = x at cx hstep
      have HS := Lib.hid hstep
      have bd : Below wr.heap.size wr wr.drew := below_drewN (Below.refl _ _) 1
      have hQd := QAt.below hQ bd
      have hAd := hA.below bd
      have hBd := hB.below bd
      have hRd := hR.below bd
      have hkd := hk.trans (Kept.below bd)
      have cx' := cx wr.drew hQd
      clear hstep l1 n1 la lb e1 g1 cx hQ hB hR hk
      go_wp2_with fail
      go_region_law (go_simp; go_at_call 49; refine cx'.mono ?_; rintro r w1 ⟨rfl, hQ1, kx⟩; have dc := (hAd.kept kx k0).cell (i := j) hlt; have df := (hAd.kept kx k0).fro j)
      all_goals (
        have hA1 := hAd.kept kx k0
        have hB1 := hBd.kept kx k1
        have hR1 := hRd.kept kx k2
        have hk1 := hkd.trans (kx.mono kk)
        have ks := qset w1 w.heap.size j (.int .i64 x.2)
        have hA3 := hA1.set j x.2
        have hB3 := hB1.set_other (n := j) (v := .int .i64 x.2) (show w.heap.size + 1 ≠ w.heap.size by omega)
        have hR3 := hR1.set_other (n := j) (v := .int .i64 x.2) (show w.heap.size + 2 ≠ w.heap.size by omega)
        have hQ3 := QAt.moved hQ1 ks k0
        have hk3 := hk1.trans (ks.mono fun i hi => by have := hKin i hi; show i ≠ w.heap.size; omega)
        clear hQd hAd hBd hRd hkd bd cx' kx hA da db dc df hA1 hB1 hR1 hk1 ks hQ1
        generalize w1.setCell ⟨w.heap.size, j, none⟩ (.int .i64 x.2) = w3 at *
        go_wp2_with fail
        go_roundw
        case rel => exact ⟨j + 1, by omega, by go_num, hA3.ext fun r _ => by rw [HS.out]; exact setZ_stepE _ _ _ _ _, hB3, hR3, by rw [HS.out]; exact hQ3, hk3⟩
        case measure => simp [intOf]; omega)
    · have hlt' : ¬ (j : Int) < 32 := by omega
      obtain rfl : j = 32 := by omega
      clear hok
      have hA := hA.ext (z := (eachF andG a b gs 32).2) fun r hr => if_pos hr
      generalize eachF andG a b gs 32 = F at *
      go_wp2_with (first | (refine wpList_load_row rfl 60 (.tmp 3) rfl w.heap.size rfl 60 (zV F.2) (0, 0) _ hA Try.underlying60 rfl (by rw [zV_size]; exact info_bits) ?_) | (refine wpList_store_row rfl 60 (.tmp 6) (.tmp 22) rfl (w.heap.size + 2) (zV F.2) rfl rfl 60 _ hR (by rw [zV_size]; exact info_bits) (by rw [zV_size, zV_size]) (one_zV _) ?_) | fail)
      exact bodyPost_ret (v := .agg (zV F.2)) (results_cell_row rfl _ _ (w.heap.size + 2) 60 (zV F.2) (0, 0) _ rfl (setRow_heap _ _ _ _ _ _ hR) Try.underlying60 rfl (by rw [zV_size]; exact info_bits)) rfl ⟨rfl, QAt.mono (QAt.moved hQ (row_kept _ _ _) k2) kk, hk.trans ((row_kept _ _ _).mono fun i hi => by have := hKin i hi; show i ≠ w.heap.size + 2; omega)⟩
set_option maxRecDepth 100000 in
set_option maxHeartbeats 4000000 in
theorem each_or (K : Nat → Prop) (q : Nat) (gs : List Gate) (hG : GGood gs) (a b : Nat → Int) (ha : Lits gs a) (hb : Lits gs b) (hl : gs.length < 199000) (w : World) (h : QS K w q gs) :
    Calls Try.prog 48 #[.agg (zV a), .agg (zV b), .func (.func 50) #[.pointer (some ⟨q, 0, none⟩)] #[]] w (WordPost K w q (eachF orG a b gs 32)) := by
  have hok := each_some hG ha hb orG (fun x y => x || y) (fun hs p q h1 h2 h3 => made_or h1 h2 h3)
  have b1 := (Below.refl w.heap.size w).alloc (Nat.le_refl _) (.cells (zV a) 60)
  have b2 := b1.alloc (by simp) (.cells (zV b) 60)
  have b3 := b2.alloc (by simp; omega) (.cells #[.int .i64 0, .int .i64 0, .int .i64 0, .int .i64 0, .int .i64 0, .int .i64 0, .int .i64 0, .int .i64 0, .int .i64 0, .int .i64 0, .int .i64 0, .int .i64 0, .int .i64 0, .int .i64 0, .int .i64 0, .int .i64 0, .int .i64 0, .int .i64 0, .int .i64 0, .int .i64 0, .int .i64 0, .int .i64 0, .int .i64 0, .int .i64 0, .int .i64 0, .int .i64 0, .int .i64 0, .int .i64 0, .int .i64 0, .int .i64 0, .int .i64 0, .int .i64 0] 60)
  have hz0 := blk_new w (.cells (zV a) 60)
  have hz1 := blk_new (w.alloc (.cells (zV a) 60)) (.cells (zV b) 60)
  have hz2 := blk_new ((w.alloc (.cells (zV a) 60)).alloc (.cells (zV b) 60)) (.cells #[.int .i64 0, .int .i64 0, .int .i64 0, .int .i64 0, .int .i64 0, .int .i64 0, .int .i64 0, .int .i64 0, .int .i64 0, .int .i64 0, .int .i64 0, .int .i64 0, .int .i64 0, .int .i64 0, .int .i64 0, .int .i64 0, .int .i64 0, .int .i64 0, .int .i64 0, .int .i64 0, .int .i64 0, .int .i64 0, .int .i64 0, .int .i64 0, .int .i64 0, .int .i64 0, .int .i64 0, .int .i64 0, .int .i64 0, .int .i64 0, .int .i64 0, .int .i64 0] 60)
  have hsz1 : (w.alloc (.cells (zV a) 60)).heap.size = w.heap.size + 1 := by simp
  have hsz2 : ((w.alloc (.cells (zV a) 60)).alloc (.cells (zV b) 60)).heap.size = w.heap.size + 2 := by simp
  have hsz3 : (((w.alloc (.cells (zV a) 60)).alloc (.cells (zV b) 60)).alloc (.cells #[.int .i64 0, .int .i64 0, .int .i64 0, .int .i64 0, .int .i64 0, .int .i64 0, .int .i64 0, .int .i64 0, .int .i64 0, .int .i64 0, .int .i64 0, .int .i64 0, .int .i64 0, .int .i64 0, .int .i64 0, .int .i64 0, .int .i64 0, .int .i64 0, .int .i64 0, .int .i64 0, .int .i64 0, .int .i64 0, .int .i64 0, .int .i64 0, .int .i64 0, .int .i64 0, .int .i64 0, .int .i64 0, .int .i64 0, .int .i64 0, .int .i64 0, .int .i64 0] 60)).heap.size = w.heap.size + 3 := by simp
  have hz0 := blk_alloc (blk_alloc hz0 (.cells (zV b) 60)) (.cells #[.int .i64 0, .int .i64 0, .int .i64 0, .int .i64 0, .int .i64 0, .int .i64 0, .int .i64 0, .int .i64 0, .int .i64 0, .int .i64 0, .int .i64 0, .int .i64 0, .int .i64 0, .int .i64 0, .int .i64 0, .int .i64 0, .int .i64 0, .int .i64 0, .int .i64 0, .int .i64 0, .int .i64 0, .int .i64 0, .int .i64 0, .int .i64 0, .int .i64 0, .int .i64 0, .int .i64 0, .int .i64 0, .int .i64 0, .int .i64 0, .int .i64 0, .int .i64 0] 60)
  have hz1 := blk_alloc hz1 (.cells #[.int .i64 0, .int .i64 0, .int .i64 0, .int .i64 0, .int .i64 0, .int .i64 0, .int .i64 0, .int .i64 0, .int .i64 0, .int .i64 0, .int .i64 0, .int .i64 0, .int .i64 0, .int .i64 0, .int .i64 0, .int .i64 0, .int .i64 0, .int .i64 0, .int .i64 0, .int .i64 0, .int .i64 0, .int .i64 0, .int .i64 0, .int .i64 0, .int .i64 0, .int .i64 0, .int .i64 0, .int .i64 0, .int .i64 0, .int .i64 0, .int .i64 0, .int .i64 0] 60)
  rw [hsz1] at hz1
  rw [hsz2] at hz2
  have hQ : QS (More K w (((w.alloc (.cells (zV a) 60)).alloc (.cells (zV b) 60)).alloc (.cells #[.int .i64 0, .int .i64 0, .int .i64 0, .int .i64 0, .int .i64 0, .int .i64 0, .int .i64 0, .int .i64 0, .int .i64 0, .int .i64 0, .int .i64 0, .int .i64 0, .int .i64 0, .int .i64 0, .int .i64 0, .int .i64 0, .int .i64 0, .int .i64 0, .int .i64 0, .int .i64 0, .int .i64 0, .int .i64 0, .int .i64 0, .int .i64 0, .int .i64 0, .int .i64 0, .int .i64 0, .int .i64 0, .int .i64 0, .int .i64 0, .int .i64 0, .int .i64 0] 60))) _ q gs := QAt.more h b3
  rw [zero_zV] at *
  generalize hw4 : (((w.alloc (.cells (zV a) 60)).alloc (.cells (zV b) 60)).alloc (.cells (zV fun _ => 0) 60)) = w4 at *
  have hk0 : ∀ j, j < 3 → More K w w4 (w.heap.size + j) := fun j hj => Or.inr ⟨Nat.le_add_right _ _, by omega⟩
  have kk : ∀ i, K i → More K w w4 i := fun i hi => Or.inl hi
  have hk4 : Kept K w w4 := Kept.below b3
  generalize More K w w4 = K1 at *
  have k0 := hk0 0 (by omega)
  have k1 := hk0 1 (by omega)
  have k2 := hk0 2 (by omega)
  rw [Nat.add_zero] at k0
  have hKin : ∀ i, K i → i < w.heap.size := QAt.in_ h
  clear hk0 b1 b2 b3 hsz1 hsz2 hsz3 h
  subst hw4
  go_enter Try.func48, Try.ntmps48
  go_wp2_with fail
  rw [zero_zV] at *
  generalize hw4 : (((w.alloc (.cells (zV a) 60)).alloc (.cells (zV b) 60)).alloc (.cells (zV fun _ => 0) 60)) = w4 at *
  clear hw4
  go_loopw [7, 8] (fun _ i wr => ∃ j : Nat, j ≤ 32 ∧ i = .int .i64 j ∧ ZAt 60 wr w.heap.size (fun r => if r < j then (eachF orG a b gs j).2 r else a r) ∧ ZAt 60 wr (w.heap.size + 1) b ∧ ZAt 60 wr (w.heap.size + 2) (fun _ => 0) ∧ QS K1 wr q (eachF orG a b gs j).1 ∧ Kept K w wr) (fun _ i _ => 32 - (intOf i).toNat)
  case atStart => exact ⟨0, by omega, rfl, hz0, hz1, hz2, hQ, hk4⟩
  case round =>
    clear hz0 hz1 hz2 hQ hk4
    obtain ⟨j, hj, rfl, hA, hB, hR, hQ, hk⟩ := hrel
    by_cases hlt : j < 32
    · have hlt' : (j : Int) < 32 := by omega
      obtain ⟨v, o1⟩ := hok j hj
      have hstep : eachF orG a b gs (j + 1) = ((orG (eachF orG a b gs j).1 (a j) (b j)).1, fun i => if i = j then (orG (eachF orG a b gs j).1 (a j) (b j)).2 else (eachF orG a b gs j).2 i) := rfl
      generalize eachF orG a b gs j = F at o1 hstep hA hQ ⊢
      obtain ⟨e1, g1, l1, n1, _, _⟩ := o1
      have la := (ha j hlt).mono (m := F.1.length + 1) (by have := e1.len; omega)
      have lb := (hb j hlt).mono (m := F.1.length + 1) (by have := e1.len; omega)
      have da := hA.cell (i := j) hlt
      rw [if_neg (Nat.lt_irrefl j)] at da
      have db := hB.cell (i := j) hlt
      have cx := or_any K1 q F.1 (a j) (b j) la lb (by omega)
      generalize orG F.1 (a j) (b j) = x at cx hstep
      have HS := Lib.hid hstep
      have bd : Below wr.heap.size wr wr.drew := below_drewN (Below.refl _ _) 1
      have hQd := QAt.below hQ bd
      have hAd := hA.below bd
      have hBd := hB.below bd
      have hRd := hR.below bd
      have hkd := hk.trans (Kept.below bd)
      have cx' := cx wr.drew hQd
      clear hstep l1 n1 la lb e1 g1 cx hQ hB hR hk
      go_wp2_with fail
      go_region_law (go_simp; go_at_call 50; refine cx'.mono ?_; rintro r w1 ⟨rfl, hQ1, kx⟩; have dc := (hAd.kept kx k0).cell (i := j) hlt; have df := (hAd.kept kx k0).fro j)
      all_goals (
        have hA1 := hAd.kept kx k0
        have hB1 := hBd.kept kx k1
        have hR1 := hRd.kept kx k2
        have hk1 := hkd.trans (kx.mono kk)
        have ks := qset w1 w.heap.size j (.int .i64 x.2)
        have hA3 := hA1.set j x.2
        have hB3 := hB1.set_other (n := j) (v := .int .i64 x.2) (show w.heap.size + 1 ≠ w.heap.size by omega)
        have hR3 := hR1.set_other (n := j) (v := .int .i64 x.2) (show w.heap.size + 2 ≠ w.heap.size by omega)
        have hQ3 := QAt.moved hQ1 ks k0
        have hk3 := hk1.trans (ks.mono fun i hi => by have := hKin i hi; show i ≠ w.heap.size; omega)
        clear hQd hAd hBd hRd hkd bd cx' kx hA da db dc df hA1 hB1 hR1 hk1 ks hQ1
        generalize w1.setCell ⟨w.heap.size, j, none⟩ (.int .i64 x.2) = w3 at *
        go_wp2_with fail
        go_roundw
        case rel => exact ⟨j + 1, by omega, by go_num, hA3.ext fun r _ => by rw [HS.out]; exact setZ_stepE _ _ _ _ _, hB3, hR3, by rw [HS.out]; exact hQ3, hk3⟩
        case measure => simp [intOf]; omega)
    · have hlt' : ¬ (j : Int) < 32 := by omega
      obtain rfl : j = 32 := by omega
      clear hok
      have hA := hA.ext (z := (eachF orG a b gs 32).2) fun r hr => if_pos hr
      generalize eachF orG a b gs 32 = F at *
      go_wp2_with (first | (refine wpList_load_row rfl 60 (.tmp 3) rfl w.heap.size rfl 60 (zV F.2) (0, 0) _ hA Try.underlying60 rfl (by rw [zV_size]; exact info_bits) ?_) | (refine wpList_store_row rfl 60 (.tmp 6) (.tmp 22) rfl (w.heap.size + 2) (zV F.2) rfl rfl 60 _ hR (by rw [zV_size]; exact info_bits) (by rw [zV_size, zV_size]) (one_zV _) ?_) | fail)
      exact bodyPost_ret (v := .agg (zV F.2)) (results_cell_row rfl _ _ (w.heap.size + 2) 60 (zV F.2) (0, 0) _ rfl (setRow_heap _ _ _ _ _ _ hR) Try.underlying60 rfl (by rw [zV_size]; exact info_bits)) rfl ⟨rfl, QAt.mono (QAt.moved hQ (row_kept _ _ _) k2) kk, hk.trans ((row_kept _ _ _).mono fun i hi => by have := hKin i hi; show i ≠ w.heap.size + 2; omega)⟩
set_option maxRecDepth 100000 in
set_option maxHeartbeats 4000000 in
theorem each_xor (K : Nat → Prop) (q : Nat) (gs : List Gate) (hG : GGood gs) (a b : Nat → Int) (ha : Lits gs a) (hb : Lits gs b) (hl : gs.length < 199000) (w : World) (h : QS K w q gs) :
    Calls Try.prog 48 #[.agg (zV a), .agg (zV b), .func (.func 14) #[.pointer (some ⟨q, 0, none⟩)] #[]] w (WordPost K w q (eachF xorG a b gs 32)) := by
  have hok := each_some hG ha hb xorG (fun x y => x != y) (fun hs p q h1 h2 h3 => made_xor h1 h2 h3)
  have b1 := (Below.refl w.heap.size w).alloc (Nat.le_refl _) (.cells (zV a) 60)
  have b2 := b1.alloc (by simp) (.cells (zV b) 60)
  have b3 := b2.alloc (by simp; omega) (.cells #[.int .i64 0, .int .i64 0, .int .i64 0, .int .i64 0, .int .i64 0, .int .i64 0, .int .i64 0, .int .i64 0, .int .i64 0, .int .i64 0, .int .i64 0, .int .i64 0, .int .i64 0, .int .i64 0, .int .i64 0, .int .i64 0, .int .i64 0, .int .i64 0, .int .i64 0, .int .i64 0, .int .i64 0, .int .i64 0, .int .i64 0, .int .i64 0, .int .i64 0, .int .i64 0, .int .i64 0, .int .i64 0, .int .i64 0, .int .i64 0, .int .i64 0, .int .i64 0] 60)
  have hz0 := blk_new w (.cells (zV a) 60)
  have hz1 := blk_new (w.alloc (.cells (zV a) 60)) (.cells (zV b) 60)
  have hz2 := blk_new ((w.alloc (.cells (zV a) 60)).alloc (.cells (zV b) 60)) (.cells #[.int .i64 0, .int .i64 0, .int .i64 0, .int .i64 0, .int .i64 0, .int .i64 0, .int .i64 0, .int .i64 0, .int .i64 0, .int .i64 0, .int .i64 0, .int .i64 0, .int .i64 0, .int .i64 0, .int .i64 0, .int .i64 0, .int .i64 0, .int .i64 0, .int .i64 0, .int .i64 0, .int .i64 0, .int .i64 0, .int .i64 0, .int .i64 0, .int .i64 0, .int .i64 0, .int .i64 0, .int .i64 0, .int .i64 0, .int .i64 0, .int .i64 0, .int .i64 0] 60)
  have hsz1 : (w.alloc (.cells (zV a) 60)).heap.size = w.heap.size + 1 := by simp
  have hsz2 : ((w.alloc (.cells (zV a) 60)).alloc (.cells (zV b) 60)).heap.size = w.heap.size + 2 := by simp
  have hsz3 : (((w.alloc (.cells (zV a) 60)).alloc (.cells (zV b) 60)).alloc (.cells #[.int .i64 0, .int .i64 0, .int .i64 0, .int .i64 0, .int .i64 0, .int .i64 0, .int .i64 0, .int .i64 0, .int .i64 0, .int .i64 0, .int .i64 0, .int .i64 0, .int .i64 0, .int .i64 0, .int .i64 0, .int .i64 0, .int .i64 0, .int .i64 0, .int .i64 0, .int .i64 0, .int .i64 0, .int .i64 0, .int .i64 0, .int .i64 0, .int .i64 0, .int .i64 0, .int .i64 0, .int .i64 0, .int .i64 0, .int .i64 0, .int .i64 0, .int .i64 0] 60)).heap.size = w.heap.size + 3 := by simp
  have hz0 := blk_alloc (blk_alloc hz0 (.cells (zV b) 60)) (.cells #[.int .i64 0, .int .i64 0, .int .i64 0, .int .i64 0, .int .i64 0, .int .i64 0, .int .i64 0, .int .i64 0, .int .i64 0, .int .i64 0, .int .i64 0, .int .i64 0, .int .i64 0, .int .i64 0, .int .i64 0, .int .i64 0, .int .i64 0, .int .i64 0, .int .i64 0, .int .i64 0, .int .i64 0, .int .i64 0, .int .i64 0, .int .i64 0, .int .i64 0, .int .i64 0, .int .i64 0, .int .i64 0, .int .i64 0, .int .i64 0, .int .i64 0, .int .i64 0] 60)
  have hz1 := blk_alloc hz1 (.cells #[.int .i64 0, .int .i64 0, .int .i64 0, .int .i64 0, .int .i64 0, .int .i64 0, .int .i64 0, .int .i64 0, .int .i64 0, .int .i64 0, .int .i64 0, .int .i64 0, .int .i64 0, .int .i64 0, .int .i64 0, .int .i64 0, .int .i64 0, .int .i64 0, .int .i64 0, .int .i64 0, .int .i64 0, .int .i64 0, .int .i64 0, .int .i64 0, .int .i64 0, .int .i64 0, .int .i64 0, .int .i64 0, .int .i64 0, .int .i64 0, .int .i64 0, .int .i64 0] 60)
  rw [hsz1] at hz1
  rw [hsz2] at hz2
  have hQ : QS (More K w (((w.alloc (.cells (zV a) 60)).alloc (.cells (zV b) 60)).alloc (.cells #[.int .i64 0, .int .i64 0, .int .i64 0, .int .i64 0, .int .i64 0, .int .i64 0, .int .i64 0, .int .i64 0, .int .i64 0, .int .i64 0, .int .i64 0, .int .i64 0, .int .i64 0, .int .i64 0, .int .i64 0, .int .i64 0, .int .i64 0, .int .i64 0, .int .i64 0, .int .i64 0, .int .i64 0, .int .i64 0, .int .i64 0, .int .i64 0, .int .i64 0, .int .i64 0, .int .i64 0, .int .i64 0, .int .i64 0, .int .i64 0, .int .i64 0, .int .i64 0] 60))) _ q gs := QAt.more h b3
  rw [zero_zV] at *
  generalize hw4 : (((w.alloc (.cells (zV a) 60)).alloc (.cells (zV b) 60)).alloc (.cells (zV fun _ => 0) 60)) = w4 at *
  have hk0 : ∀ j, j < 3 → More K w w4 (w.heap.size + j) := fun j hj => Or.inr ⟨Nat.le_add_right _ _, by omega⟩
  have kk : ∀ i, K i → More K w w4 i := fun i hi => Or.inl hi
  have hk4 : Kept K w w4 := Kept.below b3
  generalize More K w w4 = K1 at *
  have k0 := hk0 0 (by omega)
  have k1 := hk0 1 (by omega)
  have k2 := hk0 2 (by omega)
  rw [Nat.add_zero] at k0
  have hKin : ∀ i, K i → i < w.heap.size := QAt.in_ h
  clear hk0 b1 b2 b3 hsz1 hsz2 hsz3 h
  subst hw4
  go_enter Try.func48, Try.ntmps48
  go_wp2_with fail
  rw [zero_zV] at *
  generalize hw4 : (((w.alloc (.cells (zV a) 60)).alloc (.cells (zV b) 60)).alloc (.cells (zV fun _ => 0) 60)) = w4 at *
  clear hw4
  go_loopw [7, 8] (fun _ i wr => ∃ j : Nat, j ≤ 32 ∧ i = .int .i64 j ∧ ZAt 60 wr w.heap.size (fun r => if r < j then (eachF xorG a b gs j).2 r else a r) ∧ ZAt 60 wr (w.heap.size + 1) b ∧ ZAt 60 wr (w.heap.size + 2) (fun _ => 0) ∧ QS K1 wr q (eachF xorG a b gs j).1 ∧ Kept K w wr) (fun _ i _ => 32 - (intOf i).toNat)
  case atStart => exact ⟨0, by omega, rfl, hz0, hz1, hz2, hQ, hk4⟩
  case round =>
    clear hz0 hz1 hz2 hQ hk4
    obtain ⟨j, hj, rfl, hA, hB, hR, hQ, hk⟩ := hrel
    by_cases hlt : j < 32
    · have hlt' : (j : Int) < 32 := by omega
      obtain ⟨v, o1⟩ := hok j hj
      have hstep : eachF xorG a b gs (j + 1) = ((xorG (eachF xorG a b gs j).1 (a j) (b j)).1, fun i => if i = j then (xorG (eachF xorG a b gs j).1 (a j) (b j)).2 else (eachF xorG a b gs j).2 i) := rfl
      generalize eachF xorG a b gs j = F at o1 hstep hA hQ ⊢
      obtain ⟨e1, g1, l1, n1, _, _⟩ := o1
      have la := (ha j hlt).mono (m := F.1.length + 1) (by have := e1.len; omega)
      have lb := (hb j hlt).mono (m := F.1.length + 1) (by have := e1.len; omega)
      have da := hA.cell (i := j) hlt
      rw [if_neg (Nat.lt_irrefl j)] at da
      have db := hB.cell (i := j) hlt
      have cx := xor_any K1 q F.1 (a j) (b j) la lb (by omega)
      generalize xorG F.1 (a j) (b j) = x at cx hstep
      have HS := Lib.hid hstep
      have bd : Below wr.heap.size wr wr.drew := below_drewN (Below.refl _ _) 1
      have hQd := QAt.below hQ bd
      have hAd := hA.below bd
      have hBd := hB.below bd
      have hRd := hR.below bd
      have hkd := hk.trans (Kept.below bd)
      have cx' := cx wr.drew hQd
      clear hstep l1 n1 la lb e1 g1 cx hQ hB hR hk
      go_wp2_with fail
      go_region_law (go_simp; go_at_call 14; refine cx'.mono ?_; rintro r w1 ⟨rfl, hQ1, kx⟩; have dc := (hAd.kept kx k0).cell (i := j) hlt; have df := (hAd.kept kx k0).fro j)
      all_goals (
        have hA1 := hAd.kept kx k0
        have hB1 := hBd.kept kx k1
        have hR1 := hRd.kept kx k2
        have hk1 := hkd.trans (kx.mono kk)
        have ks := qset w1 w.heap.size j (.int .i64 x.2)
        have hA3 := hA1.set j x.2
        have hB3 := hB1.set_other (n := j) (v := .int .i64 x.2) (show w.heap.size + 1 ≠ w.heap.size by omega)
        have hR3 := hR1.set_other (n := j) (v := .int .i64 x.2) (show w.heap.size + 2 ≠ w.heap.size by omega)
        have hQ3 := QAt.moved hQ1 ks k0
        have hk3 := hk1.trans (ks.mono fun i hi => by have := hKin i hi; show i ≠ w.heap.size; omega)
        clear hQd hAd hBd hRd hkd bd cx' kx hA da db dc df hA1 hB1 hR1 hk1 ks hQ1
        generalize w1.setCell ⟨w.heap.size, j, none⟩ (.int .i64 x.2) = w3 at *
        go_wp2_with fail
        go_roundw
        case rel => exact ⟨j + 1, by omega, by go_num, hA3.ext fun r _ => by rw [HS.out]; exact setZ_stepE _ _ _ _ _, hB3, hR3, by rw [HS.out]; exact hQ3, hk3⟩
        case measure => simp [intOf]; omega)
    · have hlt' : ¬ (j : Int) < 32 := by omega
      obtain rfl : j = 32 := by omega
      clear hok
      have hA := hA.ext (z := (eachF xorG a b gs 32).2) fun r hr => if_pos hr
      generalize eachF xorG a b gs 32 = F at *
      go_wp2_with (first | (refine wpList_load_row rfl 60 (.tmp 3) rfl w.heap.size rfl 60 (zV F.2) (0, 0) _ hA Try.underlying60 rfl (by rw [zV_size]; exact info_bits) ?_) | (refine wpList_store_row rfl 60 (.tmp 6) (.tmp 22) rfl (w.heap.size + 2) (zV F.2) rfl rfl 60 _ hR (by rw [zV_size]; exact info_bits) (by rw [zV_size, zV_size]) (one_zV _) ?_) | fail)
      exact bodyPost_ret (v := .agg (zV F.2)) (results_cell_row rfl _ _ (w.heap.size + 2) 60 (zV F.2) (0, 0) _ rfl (setRow_heap _ _ _ _ _ _ hR) Try.underlying60 rfl (by rw [zV_size]; exact info_bits)) rfl ⟨rfl, QAt.mono (QAt.moved hQ (row_kept _ _ _) k2) kk, hk.trans ((row_kept _ _ _).mono fun i hi => by have := hKin i hi; show i ≠ w.heap.size + 2; omega)⟩
end Go.Proofs.Ytgnahjadjgjecaa
set_option linter.unusedVariables false
set_option linter.unusedSimpArgs false
namespace Go.Proofs.Ytgnahjadjgjecaa
open Go.RowKit Go.Maps Go.MapKept

set_option maxRecDepth 100000 in
set_option maxHeartbeats 8000000 in
theorem shifted_29 (K : Nat → Prop) (q : Nat) (gs : List Gate) (hG : GGood gs) (a b : Nat → Int) (ha : Lits gs a) (hb : Lits gs b) (hl : gs.length < 199000) (w : World) (h : QS K w q gs) :
    Calls Try.prog 51 #[.pointer (some ⟨q, 0, none⟩), .int .i64 29, .agg (zV a), .agg (zV b)] w (WordPost K w q (shiftF 29 a b (fillW 29 a) gs 5)) := by
  have hok := shift_some hG ha hb 29
  have hfl := fillW_lit ha 29
  have b1 := (Below.refl w.heap.size w).alloc (Nat.le_refl _) (.cells (zV a) 60)
  have b2 := b1.alloc (by simp) (.cells (zV b) 60)
  have b3 := b2.alloc (by simp; omega) (.cells #[.int .i64 0, .int .i64 0, .int .i64 0, .int .i64 0, .int .i64 0, .int .i64 0, .int .i64 0, .int .i64 0, .int .i64 0, .int .i64 0, .int .i64 0, .int .i64 0, .int .i64 0, .int .i64 0, .int .i64 0, .int .i64 0, .int .i64 0, .int .i64 0, .int .i64 0, .int .i64 0, .int .i64 0, .int .i64 0, .int .i64 0, .int .i64 0, .int .i64 0, .int .i64 0, .int .i64 0, .int .i64 0, .int .i64 0, .int .i64 0, .int .i64 0, .int .i64 0] 60)
  have hz0 := blk_new w (.cells (zV a) 60)
  have hz1 := blk_new (w.alloc (.cells (zV a) 60)) (.cells (zV b) 60)
  have hz2 := blk_new ((w.alloc (.cells (zV a) 60)).alloc (.cells (zV b) 60)) (.cells #[.int .i64 0, .int .i64 0, .int .i64 0, .int .i64 0, .int .i64 0, .int .i64 0, .int .i64 0, .int .i64 0, .int .i64 0, .int .i64 0, .int .i64 0, .int .i64 0, .int .i64 0, .int .i64 0, .int .i64 0, .int .i64 0, .int .i64 0, .int .i64 0, .int .i64 0, .int .i64 0, .int .i64 0, .int .i64 0, .int .i64 0, .int .i64 0, .int .i64 0, .int .i64 0, .int .i64 0, .int .i64 0, .int .i64 0, .int .i64 0, .int .i64 0, .int .i64 0] 60)
  have hsz1 : (w.alloc (.cells (zV a) 60)).heap.size = w.heap.size + 1 := by simp
  have hsz2 : ((w.alloc (.cells (zV a) 60)).alloc (.cells (zV b) 60)).heap.size = w.heap.size + 2 := by simp
  have hsz3 : (((w.alloc (.cells (zV a) 60)).alloc (.cells (zV b) 60)).alloc (.cells #[.int .i64 0, .int .i64 0, .int .i64 0, .int .i64 0, .int .i64 0, .int .i64 0, .int .i64 0, .int .i64 0, .int .i64 0, .int .i64 0, .int .i64 0, .int .i64 0, .int .i64 0, .int .i64 0, .int .i64 0, .int .i64 0, .int .i64 0, .int .i64 0, .int .i64 0, .int .i64 0, .int .i64 0, .int .i64 0, .int .i64 0, .int .i64 0, .int .i64 0, .int .i64 0, .int .i64 0, .int .i64 0, .int .i64 0, .int .i64 0, .int .i64 0, .int .i64 0] 60)).heap.size = w.heap.size + 3 := by simp
  have hz0 := blk_alloc (blk_alloc hz0 (.cells (zV b) 60)) (.cells #[.int .i64 0, .int .i64 0, .int .i64 0, .int .i64 0, .int .i64 0, .int .i64 0, .int .i64 0, .int .i64 0, .int .i64 0, .int .i64 0, .int .i64 0, .int .i64 0, .int .i64 0, .int .i64 0, .int .i64 0, .int .i64 0, .int .i64 0, .int .i64 0, .int .i64 0, .int .i64 0, .int .i64 0, .int .i64 0, .int .i64 0, .int .i64 0, .int .i64 0, .int .i64 0, .int .i64 0, .int .i64 0, .int .i64 0, .int .i64 0, .int .i64 0, .int .i64 0] 60)
  have hz1 := blk_alloc hz1 (.cells #[.int .i64 0, .int .i64 0, .int .i64 0, .int .i64 0, .int .i64 0, .int .i64 0, .int .i64 0, .int .i64 0, .int .i64 0, .int .i64 0, .int .i64 0, .int .i64 0, .int .i64 0, .int .i64 0, .int .i64 0, .int .i64 0, .int .i64 0, .int .i64 0, .int .i64 0, .int .i64 0, .int .i64 0, .int .i64 0, .int .i64 0, .int .i64 0, .int .i64 0, .int .i64 0, .int .i64 0, .int .i64 0, .int .i64 0, .int .i64 0, .int .i64 0, .int .i64 0] 60)
  rw [hsz1] at hz1
  rw [hsz2] at hz2
  have hQ : QS (More K w (((w.alloc (.cells (zV a) 60)).alloc (.cells (zV b) 60)).alloc (.cells #[.int .i64 0, .int .i64 0, .int .i64 0, .int .i64 0, .int .i64 0, .int .i64 0, .int .i64 0, .int .i64 0, .int .i64 0, .int .i64 0, .int .i64 0, .int .i64 0, .int .i64 0, .int .i64 0, .int .i64 0, .int .i64 0, .int .i64 0, .int .i64 0, .int .i64 0, .int .i64 0, .int .i64 0, .int .i64 0, .int .i64 0, .int .i64 0, .int .i64 0, .int .i64 0, .int .i64 0, .int .i64 0, .int .i64 0, .int .i64 0, .int .i64 0, .int .i64 0] 60))) _ q gs := QAt.more h b3
  rw [zero_zV] at *
  generalize hw4 : (((w.alloc (.cells (zV a) 60)).alloc (.cells (zV b) 60)).alloc (.cells (zV fun _ => 0) 60)) = w4 at *
  have hk0 : ∀ j, j < 3 → More K w w4 (w.heap.size + j) := fun j hj => Or.inr ⟨Nat.le_add_right _ _, by omega⟩
  have kk : ∀ i, K i → More K w w4 i := fun i hi => Or.inl hi
  have hk4 : Kept K w w4 := Kept.below b3
  generalize More K w w4 = K1 at *
  have k0 := hk0 0 (by omega)
  have k1 := hk0 1 (by omega)
  have k2 := hk0 2 (by omega)
  rw [Nat.add_zero] at k0
  have hKin : ∀ i, K i → i < w.heap.size := QAt.in_ h
  have hlw : w.heap.size + 3 ≤ w4.heap.size := by omega
  have da31 := (show ZAt 60 w4 w.heap.size a from hz0).cell (i := 31) (by omega)
  clear hk0 b1 b2 b3 hsz1 hsz2 hsz3 h
  subst hw4
  rw [← zero_zV] at da31
  go_enter Try.func51, Try.ntmps51
  go_wp2_with fail
  rw [zero_zV] at *
  generalize hw4 : (((w.alloc (.cells (zV a) 60)).alloc (.cells (zV b) 60)).alloc (.cells (zV fun _ => 0) 60)) = w4 at *
  clear hw4 da31
  have hfe : fillW 29 a = -1 := rfl
  rw [← hfe]
  clear hfe
  generalize hfg : fillW 29 a = fl at *
  clear hfg
  go_loopw [10, 11, 12, 13, 14, 15, 20, 25] (fun _ _ _ _ _ _ i _ wr => ∃ k : Nat, k ≤ 5 ∧ i = .int .i64 k ∧ ZAt 60 wr w.heap.size (shiftF 29 a b fl gs k).2 ∧ ZAt 60 wr (w.heap.size + 1) b ∧ ZAt 60 wr (w.heap.size + 2) (fun _ => 0) ∧ QS K1 wr q (shiftF 29 a b fl gs k).1 ∧ Kept K w wr ∧ w.heap.size + 3 ≤ wr.heap.size) (fun _ _ _ _ _ _ i _ _ => 5 - (intOf i).toNat)
  case atStart => exact ⟨0, by omega, rfl, hz0, hz1, hz2, hQ, hk4, hlw⟩
  case round =>
    clear hz0 hz1 hz2 hQ hk4 hlw
    obtain ⟨k, hk5, rfl, hA, hB, hR, hQ, hk, hsz⟩ := hrel
    by_cases hlt : k < 5
    · have hlt' : (k : Int) < 5 := by omega
      obtain ⟨v, o1⟩ := hok k hk5
      have hstep : shiftF 29 a b fl gs (k + 1) = shift1 29 (shiftF 29 a b fl gs k).2 fl (b k) (2 ^ k) (shiftF 29 a b fl gs k).1 32 := rfl
      generalize shiftF 29 a b fl gs k = F at o1 hstep hA hQ ⊢
      obtain ⟨p, hp, hp1, hp16, hpk⟩ : ∃ p : Nat, wrap64 ((2 : Int) ^ k) = (p : Int) ∧ 1 ≤ p ∧ p ≤ 16 ∧ 2 ^ k = p := by
        have : k = 0 ∨ k = 1 ∨ k = 2 ∨ k = 3 ∨ k = 4 := by omega
        rcases this with rfl | rfl | rfl | rfl | rfl
        · exact ⟨1, by kernel_rfl, by decide, by decide, by decide⟩
        · exact ⟨2, by kernel_rfl, by decide, by decide, by decide⟩
        · exact ⟨4, by kernel_rfl, by decide, by decide, by decide⟩
        · exact ⟨8, by kernel_rfl, by decide, by decide, by decide⟩
        · exact ⟨16, by kernel_rfl, by decide, by decide, by decide⟩
      rw [hpk] at hstep
      obtain ⟨e1, g1, l1, n1, _, _⟩ := o1
      have hf1 := hfl.mono (m := F.1.length + 1) (by have := e1.len; omega)
      have hb1 := (hb k (by omega)).mono (m := F.1.length + 1) (by have := e1.len; omega)
      have hin := shift1_some g1 l1 29 hf1 hb1 p
      have hFl : F.1.length < 199500 := by omega
      have l1' : Lits F.1 F.2 := l1
      go_wp2_with fail
      rw [zero_zV, hp]
      have bx := (Below.refl wr.heap.size wr).alloc (Nat.le_refl _) (.cells (zV fun _ => 0) 60)
      have hN0 := blk_new wr (.cells (zV fun _ => 0) 60)
      have hA0 := hA.below bx
      have hB0 := hB.below bx
      have hR0 := hR.below bx
      have hQ0 := QAt.more hQ bx
      have hk0 := hk.trans (Kept.below bx)
      have kg : More K1 wr (wr.alloc (.cells (zV fun _ => 0) 60)) wr.heap.size := Or.inr ⟨Nat.le_refl _, by simp⟩
      have kk2 : ∀ i, K1 i → More K1 wr (wr.alloc (.cells (zV fun _ => 0) 60)) i := fun i hi => Or.inl hi
      have hsz0 : wr.heap.size < (wr.alloc (.cells (zV fun _ => 0) 60)).heap.size := by simp
      generalize More K1 wr (wr.alloc (.cells (zV fun _ => 0) 60)) = K2 at *
      generalize wr.alloc (.cells (zV fun _ => 0) 60) = wa at *
      clear bx hA hB hR hQ hk hok hp hpk e1
      have HS := Lib.hid hstep
      clear hstep
      generalize hgN : wr.heap.size = gN at *
      clear hgN
      obtain ⟨wo, rfl⟩ : ∃ wo, wo = wr := ⟨_, rfl⟩
      go_loopw [13, 14, 15, 25] (fun _ _ _ i wr => ∃ j : Nat, j ≤ 32 ∧ i = .int .i64 j ∧ ZAt 60 wr w.heap.size F.2 ∧ ZAt 60 wr (w.heap.size + 1) b ∧ ZAt 60 wr (w.heap.size + 2) (fun _ => 0) ∧ ZAt 60 wr gN (fun r => if r < j then (shift1 29 F.2 fl (b k) p F.1 j).2 r else 0) ∧ QS K2 wr q (shift1 29 F.2 fl (b k) p F.1 j).1 ∧ Kept K w wr ∧ gN < wr.heap.size) (fun _ _ _ i _ => 32 - (intOf i).toNat)
      case atStart => exact ⟨0, by omega, rfl, hA0, hB0, hR0, hN0, hQ0, hk0, hsz0⟩
      case round =>
        clear hA0 hB0 hR0 hN0 hQ0 hk0 hsz0
        obtain ⟨j, hj, rfl, hA, hB, hR, hN, hQ, hk, hszj⟩ := hrel
        by_cases hlj : j < 32
        · have hlj' : (j : Int) < 32 := by omega
          obtain ⟨v1, o1⟩ := hin j hj
          have hstep : shift1 29 F.2 fl (b k) p F.1 (j + 1) = ((pickG (shift1 29 F.2 fl (b k) p F.1 j).1 (b k) (srcW 29 F.2 fl p j) (F.2 j)).1, fun i => if i = j then (pickG (shift1 29 F.2 fl (b k) p F.1 j).1 (b k) (srcW 29 F.2 fl p j) (F.2 j)).2 else (shift1 29 F.2 fl (b k) p F.1 j).2 i) := rfl
          generalize shift1 29 F.2 fl (b k) p F.1 j = S at o1 hstep hN hQ ⊢
          obtain ⟨e2, g2, l2, n2, _, _⟩ := o1
          have hb2 := hb1.mono (m := S.1.length + 1) (by have := e2.len; omega)
          have hf2 := hf1.mono (m := S.1.length + 1) (by have := e2.len; omega)
          have hs2 := srcW_lit (op := 29) (l1'.ext e2) hf2 p j hlj
          have ha2 := (l1'.ext e2) j hlj
          have cx := fun w h => pick_any K2 q S.1 g2 (b k) (srcW 29 F.2 fl p j) (F.2 j) hb2 hs2 ha2 (by omega) w h
          generalize pickG S.1 (b k) (srcW 29 F.2 fl p j) (F.2 j) = x at cx hstep
          have HS1 := Lib.hid hstep
          clear hstep e2 g2 l2 n2 hb2 hf2 hs2 ha2
          have dA := hA.cell (i := j) hlj
          have dB := hB.cell (i := k) (by omega)
          have hkl : (k : Int) < 32 := by omega
          have bd : Below wr.heap.size wr wr.drew := below_drewN (Below.refl _ _) 1
          have hQd := QAt.below hQ bd
          have hAd := hA.below bd
          have hBd := hB.below bd
          have hRd := hR.below bd
          have hNd := hN.below bd
          have hkd := hk.trans (Kept.below bd)
          have cx' := cx wr.drew hQd
          by_cases hc : p ≤ j
          · have hc2 : wrap64 ((j : Int) - p) = ((j - p : Nat) : Int) := by unfold wrap64; omega
            have hc1 : ((j - p : Nat) : Int) < 32 := by omega
            have dC := hA.cell (i := j - p) (by omega)
            have hsr : srcW 29 F.2 fl p j = F.2 (j - p) := by unfold srcW; rw [if_pos (by decide), if_pos hc]
            rw [hsr] at cx'
            go_wp2_with fail
            go_region_law (go_simp; go_at_call 65; refine cx'.mono ?_; rintro r w1 ⟨rfl, hQ1, kx⟩; have dc := (hNd.kept kx kg).cell (i := j) hlj; have df := (hNd.kept kx kg).fro j)
            all_goals (
              have hA1 := hAd.kept kx (kk2 _ k0)
              have hB1 := hBd.kept kx (kk2 _ k1)
              have hR1 := hRd.kept kx (kk2 _ k2)
              have hN1 := hNd.kept kx kg
              have hk1 := hkd.trans (kx.mono fun i hi => kk2 _ (kk i hi))
              have ks := qset w1 gN j (.int .i64 x.2)
              have hA3 := hA1.set_other (n := j) (v := .int .i64 x.2) (show w.heap.size ≠ gN by omega)
              have hB3 := hB1.set_other (n := j) (v := .int .i64 x.2) (show w.heap.size + 1 ≠ gN by omega)
              have hR3 := hR1.set_other (n := j) (v := .int .i64 x.2) (show w.heap.size + 2 ≠ gN by omega)
              have hN3 := hN1.set j x.2
              have hQ3 := QAt.moved hQ1 ks kg
              have hk3 := hk1.trans (ks.mono fun i hi => by have := hKin i hi; show i ≠ gN; omega)
              have hsz3 : gN < (w1.setCell ⟨gN, j, none⟩ (.int .i64 x.2)).heap.size := by have := ks.size; have := kx.size; have : wr.drew.heap.size = wr.heap.size := rfl; omega
              clear hQd hAd hBd hRd hNd hkd bd cx' cx kx dA dB dc df hA1 hB1 hR1 hN1 hk1 ks hQ1 hA hB hR hN hQ hk hszj
              generalize w1.setCell ⟨gN, j, none⟩ (.int .i64 x.2) = w3 at *
              go_wp2_with fail
              go_roundw
              case rel => exact ⟨j + 1, by omega, by go_num, hA3, hB3, hR3, hN3.ext fun r _ => by rw [HS1.out]; exact sumO_step _ _ _ _, by rw [HS1.out]; exact hQ3, hk3, hsz3⟩
              case measure => simp [intOf]; omega)
          · obtain ⟨z, hc2, hz⟩ : ∃ z : Int, wrap64 ((j : Int) - p) = z ∧ z < 0 := ⟨(j : Int) - p, by unfold wrap64; omega, by omega⟩
            have hc1 : (decide (0 ≤ z)) = false := by simp; omega
            have hsr : srcW 29 F.2 fl p j = fl := by unfold srcW; rw [if_pos (by decide), if_neg hc]
            rw [hsr] at cx'
            go_wp2_with fail
            go_region_law (go_simp; go_at_call 65; refine cx'.mono ?_; rintro r w1 ⟨rfl, hQ1, kx⟩; have dc := (hNd.kept kx kg).cell (i := j) hlj; have df := (hNd.kept kx kg).fro j)
            all_goals (
              have hA1 := hAd.kept kx (kk2 _ k0)
              have hB1 := hBd.kept kx (kk2 _ k1)
              have hR1 := hRd.kept kx (kk2 _ k2)
              have hN1 := hNd.kept kx kg
              have hk1 := hkd.trans (kx.mono fun i hi => kk2 _ (kk i hi))
              have ks := qset w1 gN j (.int .i64 x.2)
              have hA3 := hA1.set_other (n := j) (v := .int .i64 x.2) (show w.heap.size ≠ gN by omega)
              have hB3 := hB1.set_other (n := j) (v := .int .i64 x.2) (show w.heap.size + 1 ≠ gN by omega)
              have hR3 := hR1.set_other (n := j) (v := .int .i64 x.2) (show w.heap.size + 2 ≠ gN by omega)
              have hN3 := hN1.set j x.2
              have hQ3 := QAt.moved hQ1 ks kg
              have hk3 := hk1.trans (ks.mono fun i hi => by have := hKin i hi; show i ≠ gN; omega)
              have hsz3 : gN < (w1.setCell ⟨gN, j, none⟩ (.int .i64 x.2)).heap.size := by have := ks.size; have := kx.size; have : wr.drew.heap.size = wr.heap.size := rfl; omega
              clear hQd hAd hBd hRd hNd hkd bd cx' cx kx dA dB dc df hA1 hB1 hR1 hN1 hk1 ks hQ1 hA hB hR hN hQ hk hszj
              generalize w1.setCell ⟨gN, j, none⟩ (.int .i64 x.2) = w3 at *
              go_wp2_with fail
              go_roundw
              case rel => exact ⟨j + 1, by omega, by go_num, hA3, hB3, hR3, hN3.ext fun r _ => by rw [HS1.out]; exact sumO_step _ _ _ _, by rw [HS1.out]; exact hQ3, hk3, hsz3⟩
              case measure => simp [intOf]; omega)
        · have hlj' : ¬ (j : Int) < 32 := by omega
          obtain rfl : j = 32 := by omega
          have hN := hN.ext (z := (shift1 29 F.2 fl (b k) p F.1 32).2) fun r hr => if_pos hr
          rw [← HS.out] at hN hQ
          generalize hGe : shiftF 29 a b fl gs (k + 1) = G at *
          have HG := Lib.hid hGe
          clear hGe HS
          go_wp2_with (first | (refine wpList_load_row rfl 60 (.tmp 12) rfl gN rfl 60 (zV G.2) (0, 0) _ hN Try.underlying60 rfl (by rw [zV_size]; exact info_bits) ?_) | (refine wpList_store_row rfl 60 (.tmp 6) (.tmp 58) rfl w.heap.size (zV G.2) rfl rfl 60 _ hA (by rw [zV_size]; exact info_bits) (by rw [zV_size, zV_size]) (one_zV _) ?_) | fail)
          have hQ3 := QAt.mono (QAt.moved hQ (row_kept wr w.heap.size (zV G.2)) (kk2 _ k0)) kk2
          have hk3 := hk.trans ((row_kept wr w.heap.size (zV G.2)).mono fun i hi => by have := hKin i hi; show i ≠ w.heap.size; omega)
          have hA3 := hA.row G.2
          have hB3 := hB.row_other (cs := zV G.2) (show w.heap.size + 1 ≠ w.heap.size by omega)
          have hR3 := hR.row_other (cs := zV G.2) (show w.heap.size + 2 ≠ w.heap.size by omega)
          have hsz3 : w.heap.size + 3 ≤ (wr.setRow w.heap.size (zV G.2)).heap.size := by have := (row_kept wr w.heap.size (zV G.2)).size; omega
          clear hA hB hR hN hQ hk
          generalize wr.setRow w.heap.size (zV G.2) = w3 at *
          go_roundw
          case rel => exact ⟨k + 1, by omega, by go_num, by rw [HG.out]; exact hA3, hB3, hR3, by rw [HG.out]; exact hQ3, hk3, hsz3⟩
          case measure => simp [intOf]; omega
    · have hlt' : ¬ (k : Int) < 5 := by omega
      obtain rfl : k = 5 := by omega
      clear hok
      generalize shiftF 29 a b fl gs 5 = F at *
      go_wp2_with (first | (refine wpList_load_row rfl 60 (.tmp 6) rfl w.heap.size rfl 60 (zV F.2) (0, 0) _ hA Try.underlying60 rfl (by rw [zV_size]; exact info_bits) ?_) | (refine wpList_store_row rfl 60 (.tmp 8) (.tmp 60) rfl (w.heap.size + 2) (zV F.2) rfl rfl 60 _ hR (by rw [zV_size]; exact info_bits) (by rw [zV_size, zV_size]) (one_zV _) ?_) | fail)
      exact bodyPost_ret (v := .agg (zV F.2)) (results_cell_row rfl _ _ (w.heap.size + 2) 60 (zV F.2) (0, 0) _ rfl (setRow_heap _ _ _ _ _ _ hR) Try.underlying60 rfl (by rw [zV_size]; exact info_bits)) rfl ⟨rfl, QAt.mono (QAt.moved hQ (row_kept _ _ _) k2) kk, hk.trans ((row_kept _ _ _).mono fun i hi => by have := hKin i hi; show i ≠ w.heap.size + 2; omega)⟩
set_option maxRecDepth 100000 in
set_option maxHeartbeats 8000000 in
theorem shifted_33 (K : Nat → Prop) (q : Nat) (gs : List Gate) (hG : GGood gs) (a b : Nat → Int) (ha : Lits gs a) (hb : Lits gs b) (hl : gs.length < 199000) (w : World) (h : QS K w q gs) :
    Calls Try.prog 51 #[.pointer (some ⟨q, 0, none⟩), .int .i64 33, .agg (zV a), .agg (zV b)] w (WordPost K w q (shiftF 33 a b (fillW 33 a) gs 5)) := by
  have hok := shift_some hG ha hb 33
  have hfl := fillW_lit ha 33
  have b1 := (Below.refl w.heap.size w).alloc (Nat.le_refl _) (.cells (zV a) 60)
  have b2 := b1.alloc (by simp) (.cells (zV b) 60)
  have b3 := b2.alloc (by simp; omega) (.cells #[.int .i64 0, .int .i64 0, .int .i64 0, .int .i64 0, .int .i64 0, .int .i64 0, .int .i64 0, .int .i64 0, .int .i64 0, .int .i64 0, .int .i64 0, .int .i64 0, .int .i64 0, .int .i64 0, .int .i64 0, .int .i64 0, .int .i64 0, .int .i64 0, .int .i64 0, .int .i64 0, .int .i64 0, .int .i64 0, .int .i64 0, .int .i64 0, .int .i64 0, .int .i64 0, .int .i64 0, .int .i64 0, .int .i64 0, .int .i64 0, .int .i64 0, .int .i64 0] 60)
  have hz0 := blk_new w (.cells (zV a) 60)
  have hz1 := blk_new (w.alloc (.cells (zV a) 60)) (.cells (zV b) 60)
  have hz2 := blk_new ((w.alloc (.cells (zV a) 60)).alloc (.cells (zV b) 60)) (.cells #[.int .i64 0, .int .i64 0, .int .i64 0, .int .i64 0, .int .i64 0, .int .i64 0, .int .i64 0, .int .i64 0, .int .i64 0, .int .i64 0, .int .i64 0, .int .i64 0, .int .i64 0, .int .i64 0, .int .i64 0, .int .i64 0, .int .i64 0, .int .i64 0, .int .i64 0, .int .i64 0, .int .i64 0, .int .i64 0, .int .i64 0, .int .i64 0, .int .i64 0, .int .i64 0, .int .i64 0, .int .i64 0, .int .i64 0, .int .i64 0, .int .i64 0, .int .i64 0] 60)
  have hsz1 : (w.alloc (.cells (zV a) 60)).heap.size = w.heap.size + 1 := by simp
  have hsz2 : ((w.alloc (.cells (zV a) 60)).alloc (.cells (zV b) 60)).heap.size = w.heap.size + 2 := by simp
  have hsz3 : (((w.alloc (.cells (zV a) 60)).alloc (.cells (zV b) 60)).alloc (.cells #[.int .i64 0, .int .i64 0, .int .i64 0, .int .i64 0, .int .i64 0, .int .i64 0, .int .i64 0, .int .i64 0, .int .i64 0, .int .i64 0, .int .i64 0, .int .i64 0, .int .i64 0, .int .i64 0, .int .i64 0, .int .i64 0, .int .i64 0, .int .i64 0, .int .i64 0, .int .i64 0, .int .i64 0, .int .i64 0, .int .i64 0, .int .i64 0, .int .i64 0, .int .i64 0, .int .i64 0, .int .i64 0, .int .i64 0, .int .i64 0, .int .i64 0, .int .i64 0] 60)).heap.size = w.heap.size + 3 := by simp
  have hz0 := blk_alloc (blk_alloc hz0 (.cells (zV b) 60)) (.cells #[.int .i64 0, .int .i64 0, .int .i64 0, .int .i64 0, .int .i64 0, .int .i64 0, .int .i64 0, .int .i64 0, .int .i64 0, .int .i64 0, .int .i64 0, .int .i64 0, .int .i64 0, .int .i64 0, .int .i64 0, .int .i64 0, .int .i64 0, .int .i64 0, .int .i64 0, .int .i64 0, .int .i64 0, .int .i64 0, .int .i64 0, .int .i64 0, .int .i64 0, .int .i64 0, .int .i64 0, .int .i64 0, .int .i64 0, .int .i64 0, .int .i64 0, .int .i64 0] 60)
  have hz1 := blk_alloc hz1 (.cells #[.int .i64 0, .int .i64 0, .int .i64 0, .int .i64 0, .int .i64 0, .int .i64 0, .int .i64 0, .int .i64 0, .int .i64 0, .int .i64 0, .int .i64 0, .int .i64 0, .int .i64 0, .int .i64 0, .int .i64 0, .int .i64 0, .int .i64 0, .int .i64 0, .int .i64 0, .int .i64 0, .int .i64 0, .int .i64 0, .int .i64 0, .int .i64 0, .int .i64 0, .int .i64 0, .int .i64 0, .int .i64 0, .int .i64 0, .int .i64 0, .int .i64 0, .int .i64 0] 60)
  rw [hsz1] at hz1
  rw [hsz2] at hz2
  have hQ : QS (More K w (((w.alloc (.cells (zV a) 60)).alloc (.cells (zV b) 60)).alloc (.cells #[.int .i64 0, .int .i64 0, .int .i64 0, .int .i64 0, .int .i64 0, .int .i64 0, .int .i64 0, .int .i64 0, .int .i64 0, .int .i64 0, .int .i64 0, .int .i64 0, .int .i64 0, .int .i64 0, .int .i64 0, .int .i64 0, .int .i64 0, .int .i64 0, .int .i64 0, .int .i64 0, .int .i64 0, .int .i64 0, .int .i64 0, .int .i64 0, .int .i64 0, .int .i64 0, .int .i64 0, .int .i64 0, .int .i64 0, .int .i64 0, .int .i64 0, .int .i64 0] 60))) _ q gs := QAt.more h b3
  rw [zero_zV] at *
  generalize hw4 : (((w.alloc (.cells (zV a) 60)).alloc (.cells (zV b) 60)).alloc (.cells (zV fun _ => 0) 60)) = w4 at *
  have hk0 : ∀ j, j < 3 → More K w w4 (w.heap.size + j) := fun j hj => Or.inr ⟨Nat.le_add_right _ _, by omega⟩
  have kk : ∀ i, K i → More K w w4 i := fun i hi => Or.inl hi
  have hk4 : Kept K w w4 := Kept.below b3
  generalize More K w w4 = K1 at *
  have k0 := hk0 0 (by omega)
  have k1 := hk0 1 (by omega)
  have k2 := hk0 2 (by omega)
  rw [Nat.add_zero] at k0
  have hKin : ∀ i, K i → i < w.heap.size := QAt.in_ h
  have hlw : w.heap.size + 3 ≤ w4.heap.size := by omega
  have da31 := (show ZAt 60 w4 w.heap.size a from hz0).cell (i := 31) (by omega)
  clear hk0 b1 b2 b3 hsz1 hsz2 hsz3 h
  subst hw4
  rw [← zero_zV] at da31
  go_enter Try.func51, Try.ntmps51
  go_wp2_with fail
  rw [zero_zV] at *
  generalize hw4 : (((w.alloc (.cells (zV a) 60)).alloc (.cells (zV b) 60)).alloc (.cells (zV fun _ => 0) 60)) = w4 at *
  clear hw4 da31
  have hfe : fillW 33 a = -1 := rfl
  rw [← hfe]
  clear hfe
  generalize hfg : fillW 33 a = fl at *
  clear hfg
  go_loopw [10, 11, 12, 13, 14, 15, 20, 25] (fun _ _ _ _ _ _ i _ wr => ∃ k : Nat, k ≤ 5 ∧ i = .int .i64 k ∧ ZAt 60 wr w.heap.size (shiftF 33 a b fl gs k).2 ∧ ZAt 60 wr (w.heap.size + 1) b ∧ ZAt 60 wr (w.heap.size + 2) (fun _ => 0) ∧ QS K1 wr q (shiftF 33 a b fl gs k).1 ∧ Kept K w wr ∧ w.heap.size + 3 ≤ wr.heap.size) (fun _ _ _ _ _ _ i _ _ => 5 - (intOf i).toNat)
  case atStart => exact ⟨0, by omega, rfl, hz0, hz1, hz2, hQ, hk4, hlw⟩
  case round =>
    clear hz0 hz1 hz2 hQ hk4 hlw
    obtain ⟨k, hk5, rfl, hA, hB, hR, hQ, hk, hsz⟩ := hrel
    by_cases hlt : k < 5
    · have hlt' : (k : Int) < 5 := by omega
      obtain ⟨v, o1⟩ := hok k hk5
      have hstep : shiftF 33 a b fl gs (k + 1) = shift1 33 (shiftF 33 a b fl gs k).2 fl (b k) (2 ^ k) (shiftF 33 a b fl gs k).1 32 := rfl
      generalize shiftF 33 a b fl gs k = F at o1 hstep hA hQ ⊢
      obtain ⟨p, hp, hp1, hp16, hpk⟩ : ∃ p : Nat, wrap64 ((2 : Int) ^ k) = (p : Int) ∧ 1 ≤ p ∧ p ≤ 16 ∧ 2 ^ k = p := by
        have : k = 0 ∨ k = 1 ∨ k = 2 ∨ k = 3 ∨ k = 4 := by omega
        rcases this with rfl | rfl | rfl | rfl | rfl
        · exact ⟨1, by kernel_rfl, by decide, by decide, by decide⟩
        · exact ⟨2, by kernel_rfl, by decide, by decide, by decide⟩
        · exact ⟨4, by kernel_rfl, by decide, by decide, by decide⟩
        · exact ⟨8, by kernel_rfl, by decide, by decide, by decide⟩
        · exact ⟨16, by kernel_rfl, by decide, by decide, by decide⟩
      rw [hpk] at hstep
      obtain ⟨e1, g1, l1, n1, _, _⟩ := o1
      have hf1 := hfl.mono (m := F.1.length + 1) (by have := e1.len; omega)
      have hb1 := (hb k (by omega)).mono (m := F.1.length + 1) (by have := e1.len; omega)
      have hin := shift1_some g1 l1 33 hf1 hb1 p
      have hFl : F.1.length < 199500 := by omega
      have l1' : Lits F.1 F.2 := l1
      go_wp2_with fail
      rw [zero_zV, hp]
      have bx := (Below.refl wr.heap.size wr).alloc (Nat.le_refl _) (.cells (zV fun _ => 0) 60)
      have hN0 := blk_new wr (.cells (zV fun _ => 0) 60)
      have hA0 := hA.below bx
      have hB0 := hB.below bx
      have hR0 := hR.below bx
      have hQ0 := QAt.more hQ bx
      have hk0 := hk.trans (Kept.below bx)
      have kg : More K1 wr (wr.alloc (.cells (zV fun _ => 0) 60)) wr.heap.size := Or.inr ⟨Nat.le_refl _, by simp⟩
      have kk2 : ∀ i, K1 i → More K1 wr (wr.alloc (.cells (zV fun _ => 0) 60)) i := fun i hi => Or.inl hi
      have hsz0 : wr.heap.size < (wr.alloc (.cells (zV fun _ => 0) 60)).heap.size := by simp
      generalize More K1 wr (wr.alloc (.cells (zV fun _ => 0) 60)) = K2 at *
      generalize wr.alloc (.cells (zV fun _ => 0) 60) = wa at *
      clear bx hA hB hR hQ hk hok hp hpk e1
      have HS := Lib.hid hstep
      clear hstep
      generalize hgN : wr.heap.size = gN at *
      clear hgN
      obtain ⟨wo, rfl⟩ : ∃ wo, wo = wr := ⟨_, rfl⟩
      go_loopw [13, 14, 15, 25] (fun _ _ _ i wr => ∃ j : Nat, j ≤ 32 ∧ i = .int .i64 j ∧ ZAt 60 wr w.heap.size F.2 ∧ ZAt 60 wr (w.heap.size + 1) b ∧ ZAt 60 wr (w.heap.size + 2) (fun _ => 0) ∧ ZAt 60 wr gN (fun r => if r < j then (shift1 33 F.2 fl (b k) p F.1 j).2 r else 0) ∧ QS K2 wr q (shift1 33 F.2 fl (b k) p F.1 j).1 ∧ Kept K w wr ∧ gN < wr.heap.size) (fun _ _ _ i _ => 32 - (intOf i).toNat)
      case atStart => exact ⟨0, by omega, rfl, hA0, hB0, hR0, hN0, hQ0, hk0, hsz0⟩
      case round =>
        clear hA0 hB0 hR0 hN0 hQ0 hk0 hsz0
        obtain ⟨j, hj, rfl, hA, hB, hR, hN, hQ, hk, hszj⟩ := hrel
        by_cases hlj : j < 32
        · have hlj' : (j : Int) < 32 := by omega
          obtain ⟨v1, o1⟩ := hin j hj
          have hstep : shift1 33 F.2 fl (b k) p F.1 (j + 1) = ((pickG (shift1 33 F.2 fl (b k) p F.1 j).1 (b k) (srcW 33 F.2 fl p j) (F.2 j)).1, fun i => if i = j then (pickG (shift1 33 F.2 fl (b k) p F.1 j).1 (b k) (srcW 33 F.2 fl p j) (F.2 j)).2 else (shift1 33 F.2 fl (b k) p F.1 j).2 i) := rfl
          generalize shift1 33 F.2 fl (b k) p F.1 j = S at o1 hstep hN hQ ⊢
          obtain ⟨e2, g2, l2, n2, _, _⟩ := o1
          have hb2 := hb1.mono (m := S.1.length + 1) (by have := e2.len; omega)
          have hf2 := hf1.mono (m := S.1.length + 1) (by have := e2.len; omega)
          have hs2 := srcW_lit (op := 33) (l1'.ext e2) hf2 p j hlj
          have ha2 := (l1'.ext e2) j hlj
          have cx := fun w h => pick_any K2 q S.1 g2 (b k) (srcW 33 F.2 fl p j) (F.2 j) hb2 hs2 ha2 (by omega) w h
          generalize pickG S.1 (b k) (srcW 33 F.2 fl p j) (F.2 j) = x at cx hstep
          have HS1 := Lib.hid hstep
          clear hstep e2 g2 l2 n2 hb2 hf2 hs2 ha2
          have dA := hA.cell (i := j) hlj
          have dB := hB.cell (i := k) (by omega)
          have hkl : (k : Int) < 32 := by omega
          have bd : Below wr.heap.size wr wr.drew := below_drewN (Below.refl _ _) 1
          have hQd := QAt.below hQ bd
          have hAd := hA.below bd
          have hBd := hB.below bd
          have hRd := hR.below bd
          have hNd := hN.below bd
          have hkd := hk.trans (Kept.below bd)
          have cx' := cx wr.drew hQd
          by_cases hc : j + p < 32
          · have hc1 : (j : Int) + p < 32 := by omega
            have hc2 : wrap64 ((j : Int) + p) = ((j + p : Nat) : Int) := by unfold wrap64; omega
            have dC := hA.cell (i := j + p) hc
            have hsr : srcW 33 F.2 fl p j = F.2 (j + p) := by unfold srcW; rw [if_neg (by decide), if_pos hc]
            rw [hsr] at cx'
            go_wp2_with fail
            go_region_law (go_simp; go_at_call 65; refine cx'.mono ?_; rintro r w1 ⟨rfl, hQ1, kx⟩; have dc := (hNd.kept kx kg).cell (i := j) hlj; have df := (hNd.kept kx kg).fro j)
            all_goals (
              have hA1 := hAd.kept kx (kk2 _ k0)
              have hB1 := hBd.kept kx (kk2 _ k1)
              have hR1 := hRd.kept kx (kk2 _ k2)
              have hN1 := hNd.kept kx kg
              have hk1 := hkd.trans (kx.mono fun i hi => kk2 _ (kk i hi))
              have ks := qset w1 gN j (.int .i64 x.2)
              have hA3 := hA1.set_other (n := j) (v := .int .i64 x.2) (show w.heap.size ≠ gN by omega)
              have hB3 := hB1.set_other (n := j) (v := .int .i64 x.2) (show w.heap.size + 1 ≠ gN by omega)
              have hR3 := hR1.set_other (n := j) (v := .int .i64 x.2) (show w.heap.size + 2 ≠ gN by omega)
              have hN3 := hN1.set j x.2
              have hQ3 := QAt.moved hQ1 ks kg
              have hk3 := hk1.trans (ks.mono fun i hi => by have := hKin i hi; show i ≠ gN; omega)
              have hsz3 : gN < (w1.setCell ⟨gN, j, none⟩ (.int .i64 x.2)).heap.size := by have := ks.size; have := kx.size; have : wr.drew.heap.size = wr.heap.size := rfl; omega
              clear hQd hAd hBd hRd hNd hkd bd cx' cx kx dA dB dc df hA1 hB1 hR1 hN1 hk1 ks hQ1 hA hB hR hN hQ hk hszj
              generalize w1.setCell ⟨gN, j, none⟩ (.int .i64 x.2) = w3 at *
              go_wp2_with fail
              go_roundw
              case rel => exact ⟨j + 1, by omega, by go_num, hA3, hB3, hR3, hN3.ext fun r _ => by rw [HS1.out]; exact sumO_step _ _ _ _, by rw [HS1.out]; exact hQ3, hk3, hsz3⟩
              case measure => simp [intOf]; omega)
          · have hc1 : (decide ((j : Int) + p < 32)) = false := by simp; omega
            have hc2 : wrap64 ((j : Int) + p) = ((j + p : Nat) : Int) := by unfold wrap64; omega
            have hsr : srcW 33 F.2 fl p j = fl := by unfold srcW; rw [if_neg (by decide), if_neg hc]
            rw [hsr] at cx'
            go_wp2_with fail
            go_region_law (go_simp; go_at_call 65; refine cx'.mono ?_; rintro r w1 ⟨rfl, hQ1, kx⟩; have dc := (hNd.kept kx kg).cell (i := j) hlj; have df := (hNd.kept kx kg).fro j)
            all_goals (
              have hA1 := hAd.kept kx (kk2 _ k0)
              have hB1 := hBd.kept kx (kk2 _ k1)
              have hR1 := hRd.kept kx (kk2 _ k2)
              have hN1 := hNd.kept kx kg
              have hk1 := hkd.trans (kx.mono fun i hi => kk2 _ (kk i hi))
              have ks := qset w1 gN j (.int .i64 x.2)
              have hA3 := hA1.set_other (n := j) (v := .int .i64 x.2) (show w.heap.size ≠ gN by omega)
              have hB3 := hB1.set_other (n := j) (v := .int .i64 x.2) (show w.heap.size + 1 ≠ gN by omega)
              have hR3 := hR1.set_other (n := j) (v := .int .i64 x.2) (show w.heap.size + 2 ≠ gN by omega)
              have hN3 := hN1.set j x.2
              have hQ3 := QAt.moved hQ1 ks kg
              have hk3 := hk1.trans (ks.mono fun i hi => by have := hKin i hi; show i ≠ gN; omega)
              have hsz3 : gN < (w1.setCell ⟨gN, j, none⟩ (.int .i64 x.2)).heap.size := by have := ks.size; have := kx.size; have : wr.drew.heap.size = wr.heap.size := rfl; omega
              clear hQd hAd hBd hRd hNd hkd bd cx' cx kx dA dB dc df hA1 hB1 hR1 hN1 hk1 ks hQ1 hA hB hR hN hQ hk hszj
              generalize w1.setCell ⟨gN, j, none⟩ (.int .i64 x.2) = w3 at *
              go_wp2_with fail
              go_roundw
              case rel => exact ⟨j + 1, by omega, by go_num, hA3, hB3, hR3, hN3.ext fun r _ => by rw [HS1.out]; exact sumO_step _ _ _ _, by rw [HS1.out]; exact hQ3, hk3, hsz3⟩
              case measure => simp [intOf]; omega)
        · have hlj' : ¬ (j : Int) < 32 := by omega
          obtain rfl : j = 32 := by omega
          have hN := hN.ext (z := (shift1 33 F.2 fl (b k) p F.1 32).2) fun r hr => if_pos hr
          rw [← HS.out] at hN hQ
          generalize hGe : shiftF 33 a b fl gs (k + 1) = G at *
          have HG := Lib.hid hGe
          clear hGe HS
          go_wp2_with (first | (refine wpList_load_row rfl 60 (.tmp 12) rfl gN rfl 60 (zV G.2) (0, 0) _ hN Try.underlying60 rfl (by rw [zV_size]; exact info_bits) ?_) | (refine wpList_store_row rfl 60 (.tmp 6) (.tmp 58) rfl w.heap.size (zV G.2) rfl rfl 60 _ hA (by rw [zV_size]; exact info_bits) (by rw [zV_size, zV_size]) (one_zV _) ?_) | fail)
          have hQ3 := QAt.mono (QAt.moved hQ (row_kept wr w.heap.size (zV G.2)) (kk2 _ k0)) kk2
          have hk3 := hk.trans ((row_kept wr w.heap.size (zV G.2)).mono fun i hi => by have := hKin i hi; show i ≠ w.heap.size; omega)
          have hA3 := hA.row G.2
          have hB3 := hB.row_other (cs := zV G.2) (show w.heap.size + 1 ≠ w.heap.size by omega)
          have hR3 := hR.row_other (cs := zV G.2) (show w.heap.size + 2 ≠ w.heap.size by omega)
          have hsz3 : w.heap.size + 3 ≤ (wr.setRow w.heap.size (zV G.2)).heap.size := by have := (row_kept wr w.heap.size (zV G.2)).size; omega
          clear hA hB hR hN hQ hk
          generalize wr.setRow w.heap.size (zV G.2) = w3 at *
          go_roundw
          case rel => exact ⟨k + 1, by omega, by go_num, by rw [HG.out]; exact hA3, hB3, hR3, by rw [HG.out]; exact hQ3, hk3, hsz3⟩
          case measure => simp [intOf]; omega
    · have hlt' : ¬ (k : Int) < 5 := by omega
      obtain rfl : k = 5 := by omega
      clear hok
      generalize shiftF 33 a b fl gs 5 = F at *
      go_wp2_with (first | (refine wpList_load_row rfl 60 (.tmp 6) rfl w.heap.size rfl 60 (zV F.2) (0, 0) _ hA Try.underlying60 rfl (by rw [zV_size]; exact info_bits) ?_) | (refine wpList_store_row rfl 60 (.tmp 8) (.tmp 60) rfl (w.heap.size + 2) (zV F.2) rfl rfl 60 _ hR (by rw [zV_size]; exact info_bits) (by rw [zV_size, zV_size]) (one_zV _) ?_) | fail)
      exact bodyPost_ret (v := .agg (zV F.2)) (results_cell_row rfl _ _ (w.heap.size + 2) 60 (zV F.2) (0, 0) _ rfl (setRow_heap _ _ _ _ _ _ hR) Try.underlying60 rfl (by rw [zV_size]; exact info_bits)) rfl ⟨rfl, QAt.mono (QAt.moved hQ (row_kept _ _ _) k2) kk, hk.trans ((row_kept _ _ _).mono fun i hi => by have := hKin i hi; show i ≠ w.heap.size + 2; omega)⟩
set_option maxRecDepth 100000 in
set_option maxHeartbeats 8000000 in
theorem shifted_34 (K : Nat → Prop) (q : Nat) (gs : List Gate) (hG : GGood gs) (a b : Nat → Int) (ha : Lits gs a) (hb : Lits gs b) (hl : gs.length < 199000) (w : World) (h : QS K w q gs) :
    Calls Try.prog 51 #[.pointer (some ⟨q, 0, none⟩), .int .i64 34, .agg (zV a), .agg (zV b)] w (WordPost K w q (shiftF 34 a b (fillW 34 a) gs 5)) := by
  have hok := shift_some hG ha hb 34
  have hfl := fillW_lit ha 34
  have b1 := (Below.refl w.heap.size w).alloc (Nat.le_refl _) (.cells (zV a) 60)
  have b2 := b1.alloc (by simp) (.cells (zV b) 60)
  have b3 := b2.alloc (by simp; omega) (.cells #[.int .i64 0, .int .i64 0, .int .i64 0, .int .i64 0, .int .i64 0, .int .i64 0, .int .i64 0, .int .i64 0, .int .i64 0, .int .i64 0, .int .i64 0, .int .i64 0, .int .i64 0, .int .i64 0, .int .i64 0, .int .i64 0, .int .i64 0, .int .i64 0, .int .i64 0, .int .i64 0, .int .i64 0, .int .i64 0, .int .i64 0, .int .i64 0, .int .i64 0, .int .i64 0, .int .i64 0, .int .i64 0, .int .i64 0, .int .i64 0, .int .i64 0, .int .i64 0] 60)
  have hz0 := blk_new w (.cells (zV a) 60)
  have hz1 := blk_new (w.alloc (.cells (zV a) 60)) (.cells (zV b) 60)
  have hz2 := blk_new ((w.alloc (.cells (zV a) 60)).alloc (.cells (zV b) 60)) (.cells #[.int .i64 0, .int .i64 0, .int .i64 0, .int .i64 0, .int .i64 0, .int .i64 0, .int .i64 0, .int .i64 0, .int .i64 0, .int .i64 0, .int .i64 0, .int .i64 0, .int .i64 0, .int .i64 0, .int .i64 0, .int .i64 0, .int .i64 0, .int .i64 0, .int .i64 0, .int .i64 0, .int .i64 0, .int .i64 0, .int .i64 0, .int .i64 0, .int .i64 0, .int .i64 0, .int .i64 0, .int .i64 0, .int .i64 0, .int .i64 0, .int .i64 0, .int .i64 0] 60)
  have hsz1 : (w.alloc (.cells (zV a) 60)).heap.size = w.heap.size + 1 := by simp
  have hsz2 : ((w.alloc (.cells (zV a) 60)).alloc (.cells (zV b) 60)).heap.size = w.heap.size + 2 := by simp
  have hsz3 : (((w.alloc (.cells (zV a) 60)).alloc (.cells (zV b) 60)).alloc (.cells #[.int .i64 0, .int .i64 0, .int .i64 0, .int .i64 0, .int .i64 0, .int .i64 0, .int .i64 0, .int .i64 0, .int .i64 0, .int .i64 0, .int .i64 0, .int .i64 0, .int .i64 0, .int .i64 0, .int .i64 0, .int .i64 0, .int .i64 0, .int .i64 0, .int .i64 0, .int .i64 0, .int .i64 0, .int .i64 0, .int .i64 0, .int .i64 0, .int .i64 0, .int .i64 0, .int .i64 0, .int .i64 0, .int .i64 0, .int .i64 0, .int .i64 0, .int .i64 0] 60)).heap.size = w.heap.size + 3 := by simp
  have hz0 := blk_alloc (blk_alloc hz0 (.cells (zV b) 60)) (.cells #[.int .i64 0, .int .i64 0, .int .i64 0, .int .i64 0, .int .i64 0, .int .i64 0, .int .i64 0, .int .i64 0, .int .i64 0, .int .i64 0, .int .i64 0, .int .i64 0, .int .i64 0, .int .i64 0, .int .i64 0, .int .i64 0, .int .i64 0, .int .i64 0, .int .i64 0, .int .i64 0, .int .i64 0, .int .i64 0, .int .i64 0, .int .i64 0, .int .i64 0, .int .i64 0, .int .i64 0, .int .i64 0, .int .i64 0, .int .i64 0, .int .i64 0, .int .i64 0] 60)
  have hz1 := blk_alloc hz1 (.cells #[.int .i64 0, .int .i64 0, .int .i64 0, .int .i64 0, .int .i64 0, .int .i64 0, .int .i64 0, .int .i64 0, .int .i64 0, .int .i64 0, .int .i64 0, .int .i64 0, .int .i64 0, .int .i64 0, .int .i64 0, .int .i64 0, .int .i64 0, .int .i64 0, .int .i64 0, .int .i64 0, .int .i64 0, .int .i64 0, .int .i64 0, .int .i64 0, .int .i64 0, .int .i64 0, .int .i64 0, .int .i64 0, .int .i64 0, .int .i64 0, .int .i64 0, .int .i64 0] 60)
  rw [hsz1] at hz1
  rw [hsz2] at hz2
  have hQ : QS (More K w (((w.alloc (.cells (zV a) 60)).alloc (.cells (zV b) 60)).alloc (.cells #[.int .i64 0, .int .i64 0, .int .i64 0, .int .i64 0, .int .i64 0, .int .i64 0, .int .i64 0, .int .i64 0, .int .i64 0, .int .i64 0, .int .i64 0, .int .i64 0, .int .i64 0, .int .i64 0, .int .i64 0, .int .i64 0, .int .i64 0, .int .i64 0, .int .i64 0, .int .i64 0, .int .i64 0, .int .i64 0, .int .i64 0, .int .i64 0, .int .i64 0, .int .i64 0, .int .i64 0, .int .i64 0, .int .i64 0, .int .i64 0, .int .i64 0, .int .i64 0] 60))) _ q gs := QAt.more h b3
  rw [zero_zV] at *
  generalize hw4 : (((w.alloc (.cells (zV a) 60)).alloc (.cells (zV b) 60)).alloc (.cells (zV fun _ => 0) 60)) = w4 at *
  have hk0 : ∀ j, j < 3 → More K w w4 (w.heap.size + j) := fun j hj => Or.inr ⟨Nat.le_add_right _ _, by omega⟩
  have kk : ∀ i, K i → More K w w4 i := fun i hi => Or.inl hi
  have hk4 : Kept K w w4 := Kept.below b3
  generalize More K w w4 = K1 at *
  have k0 := hk0 0 (by omega)
  have k1 := hk0 1 (by omega)
  have k2 := hk0 2 (by omega)
  rw [Nat.add_zero] at k0
  have hKin : ∀ i, K i → i < w.heap.size := QAt.in_ h
  have hlw : w.heap.size + 3 ≤ w4.heap.size := by omega
  have da31 := (show ZAt 60 w4 w.heap.size a from hz0).cell (i := 31) (by omega)
  clear hk0 b1 b2 b3 hsz1 hsz2 hsz3 h
  subst hw4
  rw [← zero_zV] at da31
  go_enter Try.func51, Try.ntmps51
  go_wp2_with fail
  rw [zero_zV] at *
  generalize hw4 : (((w.alloc (.cells (zV a) 60)).alloc (.cells (zV b) 60)).alloc (.cells (zV fun _ => 0) 60)) = w4 at *
  clear hw4 da31
  have hfe : fillW 34 a = a 31 := rfl
  rw [← hfe]
  clear hfe
  generalize hfg : fillW 34 a = fl at *
  clear hfg
  go_loopw [10, 11, 12, 13, 14, 15, 20, 25] (fun _ _ _ _ _ _ i _ wr => ∃ k : Nat, k ≤ 5 ∧ i = .int .i64 k ∧ ZAt 60 wr w.heap.size (shiftF 34 a b fl gs k).2 ∧ ZAt 60 wr (w.heap.size + 1) b ∧ ZAt 60 wr (w.heap.size + 2) (fun _ => 0) ∧ QS K1 wr q (shiftF 34 a b fl gs k).1 ∧ Kept K w wr ∧ w.heap.size + 3 ≤ wr.heap.size) (fun _ _ _ _ _ _ i _ _ => 5 - (intOf i).toNat)
  case atStart => exact ⟨0, by omega, rfl, hz0, hz1, hz2, hQ, hk4, hlw⟩
  case round =>
    clear hz0 hz1 hz2 hQ hk4 hlw
    obtain ⟨k, hk5, rfl, hA, hB, hR, hQ, hk, hsz⟩ := hrel
    by_cases hlt : k < 5
    · have hlt' : (k : Int) < 5 := by omega
      obtain ⟨v, o1⟩ := hok k hk5
      have hstep : shiftF 34 a b fl gs (k + 1) = shift1 34 (shiftF 34 a b fl gs k).2 fl (b k) (2 ^ k) (shiftF 34 a b fl gs k).1 32 := rfl
      generalize shiftF 34 a b fl gs k = F at o1 hstep hA hQ ⊢
      obtain ⟨p, hp, hp1, hp16, hpk⟩ : ∃ p : Nat, wrap64 ((2 : Int) ^ k) = (p : Int) ∧ 1 ≤ p ∧ p ≤ 16 ∧ 2 ^ k = p := by
        have : k = 0 ∨ k = 1 ∨ k = 2 ∨ k = 3 ∨ k = 4 := by omega
        rcases this with rfl | rfl | rfl | rfl | rfl
        · exact ⟨1, by kernel_rfl, by decide, by decide, by decide⟩
        · exact ⟨2, by kernel_rfl, by decide, by decide, by decide⟩
        · exact ⟨4, by kernel_rfl, by decide, by decide, by decide⟩
        · exact ⟨8, by kernel_rfl, by decide, by decide, by decide⟩
        · exact ⟨16, by kernel_rfl, by decide, by decide, by decide⟩
      rw [hpk] at hstep
      obtain ⟨e1, g1, l1, n1, _, _⟩ := o1
      have hf1 := hfl.mono (m := F.1.length + 1) (by have := e1.len; omega)
      have hb1 := (hb k (by omega)).mono (m := F.1.length + 1) (by have := e1.len; omega)
      have hin := shift1_some g1 l1 34 hf1 hb1 p
      have hFl : F.1.length < 199500 := by omega
      have l1' : Lits F.1 F.2 := l1
      go_wp2_with fail
      rw [zero_zV, hp]
      have bx := (Below.refl wr.heap.size wr).alloc (Nat.le_refl _) (.cells (zV fun _ => 0) 60)
      have hN0 := blk_new wr (.cells (zV fun _ => 0) 60)
      have hA0 := hA.below bx
      have hB0 := hB.below bx
      have hR0 := hR.below bx
      have hQ0 := QAt.more hQ bx
      have hk0 := hk.trans (Kept.below bx)
      have kg : More K1 wr (wr.alloc (.cells (zV fun _ => 0) 60)) wr.heap.size := Or.inr ⟨Nat.le_refl _, by simp⟩
      have kk2 : ∀ i, K1 i → More K1 wr (wr.alloc (.cells (zV fun _ => 0) 60)) i := fun i hi => Or.inl hi
      have hsz0 : wr.heap.size < (wr.alloc (.cells (zV fun _ => 0) 60)).heap.size := by simp
      generalize More K1 wr (wr.alloc (.cells (zV fun _ => 0) 60)) = K2 at *
      generalize wr.alloc (.cells (zV fun _ => 0) 60) = wa at *
      clear bx hA hB hR hQ hk hok hp hpk e1
      have HS := Lib.hid hstep
      clear hstep
      generalize hgN : wr.heap.size = gN at *
      clear hgN
      obtain ⟨wo, rfl⟩ : ∃ wo, wo = wr := ⟨_, rfl⟩
      go_loopw [13, 14, 15, 25] (fun _ _ _ i wr => ∃ j : Nat, j ≤ 32 ∧ i = .int .i64 j ∧ ZAt 60 wr w.heap.size F.2 ∧ ZAt 60 wr (w.heap.size + 1) b ∧ ZAt 60 wr (w.heap.size + 2) (fun _ => 0) ∧ ZAt 60 wr gN (fun r => if r < j then (shift1 34 F.2 fl (b k) p F.1 j).2 r else 0) ∧ QS K2 wr q (shift1 34 F.2 fl (b k) p F.1 j).1 ∧ Kept K w wr ∧ gN < wr.heap.size) (fun _ _ _ i _ => 32 - (intOf i).toNat)
      case atStart => exact ⟨0, by omega, rfl, hA0, hB0, hR0, hN0, hQ0, hk0, hsz0⟩
      case round =>
        clear hA0 hB0 hR0 hN0 hQ0 hk0 hsz0
        obtain ⟨j, hj, rfl, hA, hB, hR, hN, hQ, hk, hszj⟩ := hrel
        by_cases hlj : j < 32
        · have hlj' : (j : Int) < 32 := by omega
          obtain ⟨v1, o1⟩ := hin j hj
          have hstep : shift1 34 F.2 fl (b k) p F.1 (j + 1) = ((pickG (shift1 34 F.2 fl (b k) p F.1 j).1 (b k) (srcW 34 F.2 fl p j) (F.2 j)).1, fun i => if i = j then (pickG (shift1 34 F.2 fl (b k) p F.1 j).1 (b k) (srcW 34 F.2 fl p j) (F.2 j)).2 else (shift1 34 F.2 fl (b k) p F.1 j).2 i) := rfl
          generalize shift1 34 F.2 fl (b k) p F.1 j = S at o1 hstep hN hQ ⊢
          obtain ⟨e2, g2, l2, n2, _, _⟩ := o1
          have hb2 := hb1.mono (m := S.1.length + 1) (by have := e2.len; omega)
          have hf2 := hf1.mono (m := S.1.length + 1) (by have := e2.len; omega)
          have hs2 := srcW_lit (op := 34) (l1'.ext e2) hf2 p j hlj
          have ha2 := (l1'.ext e2) j hlj
          have cx := fun w h => pick_any K2 q S.1 g2 (b k) (srcW 34 F.2 fl p j) (F.2 j) hb2 hs2 ha2 (by omega) w h
          generalize pickG S.1 (b k) (srcW 34 F.2 fl p j) (F.2 j) = x at cx hstep
          have HS1 := Lib.hid hstep
          clear hstep e2 g2 l2 n2 hb2 hf2 hs2 ha2
          have dA := hA.cell (i := j) hlj
          have dB := hB.cell (i := k) (by omega)
          have hkl : (k : Int) < 32 := by omega
          have bd : Below wr.heap.size wr wr.drew := below_drewN (Below.refl _ _) 1
          have hQd := QAt.below hQ bd
          have hAd := hA.below bd
          have hBd := hB.below bd
          have hRd := hR.below bd
          have hNd := hN.below bd
          have hkd := hk.trans (Kept.below bd)
          have cx' := cx wr.drew hQd
          by_cases hc : j + p < 32
          · have hc1 : (j : Int) + p < 32 := by omega
            have hc2 : wrap64 ((j : Int) + p) = ((j + p : Nat) : Int) := by unfold wrap64; omega
            have dC := hA.cell (i := j + p) hc
            have hsr : srcW 34 F.2 fl p j = F.2 (j + p) := by unfold srcW; rw [if_neg (by decide), if_pos hc]
            rw [hsr] at cx'
            go_wp2_with fail
            go_region_law (go_simp; go_at_call 65; refine cx'.mono ?_; rintro r w1 ⟨rfl, hQ1, kx⟩; have dc := (hNd.kept kx kg).cell (i := j) hlj; have df := (hNd.kept kx kg).fro j)
            all_goals (
              have hA1 := hAd.kept kx (kk2 _ k0)
              have hB1 := hBd.kept kx (kk2 _ k1)
              have hR1 := hRd.kept kx (kk2 _ k2)
              have hN1 := hNd.kept kx kg
              have hk1 := hkd.trans (kx.mono fun i hi => kk2 _ (kk i hi))
              have ks := qset w1 gN j (.int .i64 x.2)
              have hA3 := hA1.set_other (n := j) (v := .int .i64 x.2) (show w.heap.size ≠ gN by omega)
              have hB3 := hB1.set_other (n := j) (v := .int .i64 x.2) (show w.heap.size + 1 ≠ gN by omega)
              have hR3 := hR1.set_other (n := j) (v := .int .i64 x.2) (show w.heap.size + 2 ≠ gN by omega)
              have hN3 := hN1.set j x.2
              have hQ3 := QAt.moved hQ1 ks kg
              have hk3 := hk1.trans (ks.mono fun i hi => by have := hKin i hi; show i ≠ gN; omega)
              have hsz3 : gN < (w1.setCell ⟨gN, j, none⟩ (.int .i64 x.2)).heap.size := by have := ks.size; have := kx.size; have : wr.drew.heap.size = wr.heap.size := rfl; omega
              clear hQd hAd hBd hRd hNd hkd bd cx' cx kx dA dB dc df hA1 hB1 hR1 hN1 hk1 ks hQ1 hA hB hR hN hQ hk hszj
              generalize w1.setCell ⟨gN, j, none⟩ (.int .i64 x.2) = w3 at *
              go_wp2_with fail
              go_roundw
              case rel => exact ⟨j + 1, by omega, by go_num, hA3, hB3, hR3, hN3.ext fun r _ => by rw [HS1.out]; exact sumO_step _ _ _ _, by rw [HS1.out]; exact hQ3, hk3, hsz3⟩
              case measure => simp [intOf]; omega)
          · have hc1 : (decide ((j : Int) + p < 32)) = false := by simp; omega
            have hc2 : wrap64 ((j : Int) + p) = ((j + p : Nat) : Int) := by unfold wrap64; omega
            have hsr : srcW 34 F.2 fl p j = fl := by unfold srcW; rw [if_neg (by decide), if_neg hc]
            rw [hsr] at cx'
            go_wp2_with fail
            go_region_law (go_simp; go_at_call 65; refine cx'.mono ?_; rintro r w1 ⟨rfl, hQ1, kx⟩; have dc := (hNd.kept kx kg).cell (i := j) hlj; have df := (hNd.kept kx kg).fro j)
            all_goals (
              have hA1 := hAd.kept kx (kk2 _ k0)
              have hB1 := hBd.kept kx (kk2 _ k1)
              have hR1 := hRd.kept kx (kk2 _ k2)
              have hN1 := hNd.kept kx kg
              have hk1 := hkd.trans (kx.mono fun i hi => kk2 _ (kk i hi))
              have ks := qset w1 gN j (.int .i64 x.2)
              have hA3 := hA1.set_other (n := j) (v := .int .i64 x.2) (show w.heap.size ≠ gN by omega)
              have hB3 := hB1.set_other (n := j) (v := .int .i64 x.2) (show w.heap.size + 1 ≠ gN by omega)
              have hR3 := hR1.set_other (n := j) (v := .int .i64 x.2) (show w.heap.size + 2 ≠ gN by omega)
              have hN3 := hN1.set j x.2
              have hQ3 := QAt.moved hQ1 ks kg
              have hk3 := hk1.trans (ks.mono fun i hi => by have := hKin i hi; show i ≠ gN; omega)
              have hsz3 : gN < (w1.setCell ⟨gN, j, none⟩ (.int .i64 x.2)).heap.size := by have := ks.size; have := kx.size; have : wr.drew.heap.size = wr.heap.size := rfl; omega
              clear hQd hAd hBd hRd hNd hkd bd cx' cx kx dA dB dc df hA1 hB1 hR1 hN1 hk1 ks hQ1 hA hB hR hN hQ hk hszj
              generalize w1.setCell ⟨gN, j, none⟩ (.int .i64 x.2) = w3 at *
              go_wp2_with fail
              go_roundw
              case rel => exact ⟨j + 1, by omega, by go_num, hA3, hB3, hR3, hN3.ext fun r _ => by rw [HS1.out]; exact sumO_step _ _ _ _, by rw [HS1.out]; exact hQ3, hk3, hsz3⟩
              case measure => simp [intOf]; omega)
        · have hlj' : ¬ (j : Int) < 32 := by omega
          obtain rfl : j = 32 := by omega
          have hN := hN.ext (z := (shift1 34 F.2 fl (b k) p F.1 32).2) fun r hr => if_pos hr
          rw [← HS.out] at hN hQ
          generalize hGe : shiftF 34 a b fl gs (k + 1) = G at *
          have HG := Lib.hid hGe
          clear hGe HS
          go_wp2_with (first | (refine wpList_load_row rfl 60 (.tmp 12) rfl gN rfl 60 (zV G.2) (0, 0) _ hN Try.underlying60 rfl (by rw [zV_size]; exact info_bits) ?_) | (refine wpList_store_row rfl 60 (.tmp 6) (.tmp 58) rfl w.heap.size (zV G.2) rfl rfl 60 _ hA (by rw [zV_size]; exact info_bits) (by rw [zV_size, zV_size]) (one_zV _) ?_) | fail)
          have hQ3 := QAt.mono (QAt.moved hQ (row_kept wr w.heap.size (zV G.2)) (kk2 _ k0)) kk2
          have hk3 := hk.trans ((row_kept wr w.heap.size (zV G.2)).mono fun i hi => by have := hKin i hi; show i ≠ w.heap.size; omega)
          have hA3 := hA.row G.2
          have hB3 := hB.row_other (cs := zV G.2) (show w.heap.size + 1 ≠ w.heap.size by omega)
          have hR3 := hR.row_other (cs := zV G.2) (show w.heap.size + 2 ≠ w.heap.size by omega)
          have hsz3 : w.heap.size + 3 ≤ (wr.setRow w.heap.size (zV G.2)).heap.size := by have := (row_kept wr w.heap.size (zV G.2)).size; omega
          clear hA hB hR hN hQ hk
          generalize wr.setRow w.heap.size (zV G.2) = w3 at *
          go_roundw
          case rel => exact ⟨k + 1, by omega, by go_num, by rw [HG.out]; exact hA3, hB3, hR3, by rw [HG.out]; exact hQ3, hk3, hsz3⟩
          case measure => simp [intOf]; omega
    · have hlt' : ¬ (k : Int) < 5 := by omega
      obtain rfl : k = 5 := by omega
      clear hok
      generalize shiftF 34 a b fl gs 5 = F at *
      go_wp2_with (first | (refine wpList_load_row rfl 60 (.tmp 6) rfl w.heap.size rfl 60 (zV F.2) (0, 0) _ hA Try.underlying60 rfl (by rw [zV_size]; exact info_bits) ?_) | (refine wpList_store_row rfl 60 (.tmp 8) (.tmp 60) rfl (w.heap.size + 2) (zV F.2) rfl rfl 60 _ hR (by rw [zV_size]; exact info_bits) (by rw [zV_size, zV_size]) (one_zV _) ?_) | fail)
      exact bodyPost_ret (v := .agg (zV F.2)) (results_cell_row rfl _ _ (w.heap.size + 2) 60 (zV F.2) (0, 0) _ rfl (setRow_heap _ _ _ _ _ _ hR) Try.underlying60 rfl (by rw [zV_size]; exact info_bits)) rfl ⟨rfl, QAt.mono (QAt.moved hQ (row_kept _ _ _) k2) kk, hk.trans ((row_kept _ _ _).mono fun i hi => by have := hKin i hi; show i ≠ w.heap.size + 2; omega)⟩
end Go.Proofs.Ytgnahjadjgjecaa
