/- segment: a row of the table. -/
import Derived.Test.YtlpoebobfdmcmaaEMust
import Derived.Test.YtlpoebobfdmcmaaEClone
import Derived.Test.YtlpoebobfdmcmaaESegA
import Derived.Deep.RegionHeld3
set_option linter.unusedVariables false
set_option linter.unusedSimpArgs false
namespace Go.Proofs.Ytlpoebobfdmcmaa
open Go.RowKit

/-- whatever lies there. -/
def cellAt (w : World) (a : Addr) : Value := (w.cell? a).getD undef
theorem cellAt_intro {w : World} {b i : Nat} {cs : Array Value} {t : TypeId} {fz : Nat × Nat} (h : w.heap[b]? = some (.cells cs t fz)) (hi : i < cs.size) : w.cell? ⟨b, i, none⟩ = some (cellAt w ⟨b, i, none⟩) := by
  have e : w.cell? ⟨b, i, none⟩ = some cs[i] := by rw [cell_of h]; simp [hi]
  unfold cellAt
  rw [e]; rfl
theorem seg_keep {W : World} {b : Nat} {x y : Value} {t : TypeId} {cs : Array Value} (c1 : W.cell? ⟨b, 0, none⟩ = some x) (c2 : W.cell? ⟨b + 1, 0, none⟩ = some y) (c3 : W.heap[b + 1 + 1]? = some (.cells cs t (0, 0))) (h4 : cs.size = 4) :
    W.cell? ⟨b, 0, none⟩ = some x ∧ W.cell? ⟨b + 1, 0, none⟩ = some y ∧ W.cell? ⟨b + 1 + 1, 0, none⟩ = some (cellAt W ⟨b + 1 + 1, 0, none⟩) ∧ W.cell? ⟨b + 1 + 1, 1, none⟩ = some (cellAt W ⟨b + 1 + 1, 1, none⟩) ∧ W.cell? ⟨b + 1 + 1, 2, none⟩ = some (cellAt W ⟨b + 1 + 1, 2, none⟩) ∧ W.cell? ⟨b + 1 + 1, 3, none⟩ = some (cellAt W ⟨b + 1 + 1, 3, none⟩) ∧ W.frozen? ⟨b + 1 + 1, 0, none⟩ = false ∧ W.frozen? ⟨b + 1 + 1, 1, none⟩ = false ∧ W.frozen? ⟨b + 1 + 1, 2, none⟩ = false ∧ W.frozen? ⟨b + 1 + 1, 3, none⟩ = false :=
  ⟨c1, c2, cellAt_intro (i := 0) c3 (by omega), cellAt_intro (i := 1) c3 (by omega), cellAt_intro (i := 2) c3 (by omega), cellAt_intro (i := 3) c3 (by omega), frozen_of c3 0, frozen_of c3 1, frozen_of c3 2, frozen_of c3 3⟩
theorem cell_set_far {W : World} {a c : Addr} {v x : Value} (h : W.cell? a = some x) (hne : a.block ≠ c.block) : (W.setCell c v).cell? a = some x :=
  (World.cell?_of_block (Below.heap_setCell W c v a.block hne)).trans h
theorem seg_keep4 {W : World} {b : Nat} {x y v0 v1 v2 v3 : Value} {t : TypeId} {cs : Array Value} (c1 : W.cell? ⟨b, 0, none⟩ = some x) (c2 : W.cell? ⟨b + 1, 0, none⟩ = some y) (c3 : W.heap[b + 1 + 1]? = some (.cells cs t (0, 0))) (h4 : cs.size = 4) :
    ((((W.setCell ⟨b + 1 + 1, 0, none⟩ v0).setCell ⟨b + 1 + 1, 1, none⟩ v1).setCell ⟨b + 1 + 1, 2, none⟩ v2).setCell ⟨b + 1 + 1, 3, none⟩ v3).cell? ⟨b, 0, none⟩ = some x ∧ ((((W.setCell ⟨b + 1 + 1, 0, none⟩ v0).setCell ⟨b + 1 + 1, 1, none⟩ v1).setCell ⟨b + 1 + 1, 2, none⟩ v2).setCell ⟨b + 1 + 1, 3, none⟩ v3).cell? ⟨b + 1, 0, none⟩ = some y ∧ ((((W.setCell ⟨b + 1 + 1, 0, none⟩ v0).setCell ⟨b + 1 + 1, 1, none⟩ v1).setCell ⟨b + 1 + 1, 2, none⟩ v2).setCell ⟨b + 1 + 1, 3, none⟩ v3).cell? ⟨b + 1 + 1, 0, none⟩ = some (cellAt ((((W.setCell ⟨b + 1 + 1, 0, none⟩ v0).setCell ⟨b + 1 + 1, 1, none⟩ v1).setCell ⟨b + 1 + 1, 2, none⟩ v2).setCell ⟨b + 1 + 1, 3, none⟩ v3) ⟨b + 1 + 1, 0, none⟩) ∧ ((((W.setCell ⟨b + 1 + 1, 0, none⟩ v0).setCell ⟨b + 1 + 1, 1, none⟩ v1).setCell ⟨b + 1 + 1, 2, none⟩ v2).setCell ⟨b + 1 + 1, 3, none⟩ v3).cell? ⟨b + 1 + 1, 1, none⟩ = some (cellAt ((((W.setCell ⟨b + 1 + 1, 0, none⟩ v0).setCell ⟨b + 1 + 1, 1, none⟩ v1).setCell ⟨b + 1 + 1, 2, none⟩ v2).setCell ⟨b + 1 + 1, 3, none⟩ v3) ⟨b + 1 + 1, 1, none⟩) ∧ ((((W.setCell ⟨b + 1 + 1, 0, none⟩ v0).setCell ⟨b + 1 + 1, 1, none⟩ v1).setCell ⟨b + 1 + 1, 2, none⟩ v2).setCell ⟨b + 1 + 1, 3, none⟩ v3).cell? ⟨b + 1 + 1, 2, none⟩ = some (cellAt ((((W.setCell ⟨b + 1 + 1, 0, none⟩ v0).setCell ⟨b + 1 + 1, 1, none⟩ v1).setCell ⟨b + 1 + 1, 2, none⟩ v2).setCell ⟨b + 1 + 1, 3, none⟩ v3) ⟨b + 1 + 1, 2, none⟩) ∧ ((((W.setCell ⟨b + 1 + 1, 0, none⟩ v0).setCell ⟨b + 1 + 1, 1, none⟩ v1).setCell ⟨b + 1 + 1, 2, none⟩ v2).setCell ⟨b + 1 + 1, 3, none⟩ v3).cell? ⟨b + 1 + 1, 3, none⟩ = some (cellAt ((((W.setCell ⟨b + 1 + 1, 0, none⟩ v0).setCell ⟨b + 1 + 1, 1, none⟩ v1).setCell ⟨b + 1 + 1, 2, none⟩ v2).setCell ⟨b + 1 + 1, 3, none⟩ v3) ⟨b + 1 + 1, 3, none⟩) ∧ ((((W.setCell ⟨b + 1 + 1, 0, none⟩ v0).setCell ⟨b + 1 + 1, 1, none⟩ v1).setCell ⟨b + 1 + 1, 2, none⟩ v2).setCell ⟨b + 1 + 1, 3, none⟩ v3).frozen? ⟨b + 1 + 1, 0, none⟩ = false ∧ ((((W.setCell ⟨b + 1 + 1, 0, none⟩ v0).setCell ⟨b + 1 + 1, 1, none⟩ v1).setCell ⟨b + 1 + 1, 2, none⟩ v2).setCell ⟨b + 1 + 1, 3, none⟩ v3).frozen? ⟨b + 1 + 1, 1, none⟩ = false ∧ ((((W.setCell ⟨b + 1 + 1, 0, none⟩ v0).setCell ⟨b + 1 + 1, 1, none⟩ v1).setCell ⟨b + 1 + 1, 2, none⟩ v2).setCell ⟨b + 1 + 1, 3, none⟩ v3).frozen? ⟨b + 1 + 1, 2, none⟩ = false ∧ ((((W.setCell ⟨b + 1 + 1, 0, none⟩ v0).setCell ⟨b + 1 + 1, 1, none⟩ v1).setCell ⟨b + 1 + 1, 2, none⟩ v2).setCell ⟨b + 1 + 1, 3, none⟩ v3).frozen? ⟨b + 1 + 1, 3, none⟩ = false := by
  have n1 : b ≠ b + 1 + 1 := by omega
  have n2 : b + 1 ≠ b + 1 + 1 := by omega
  exact seg_keep (cell_set_far (cell_set_far (cell_set_far (cell_set_far c1 n1) n1) n1) n1) (cell_set_far (cell_set_far (cell_set_far (cell_set_far c2 n2) n2) n2) n2) (blk_set (blk_set (blk_set (blk_set c3 0 v0) 1 v1) 2 v2) 3 v3) (by simpa using h4)
set_option maxRecDepth 100000 in
theorem seg1 (s : ByteArray) (at_ : Nat) (b1 b2 : Nat) (k : Int) (N : Nat → Nat) (w : World) (hs : s.size ≤ 281474976710656) (h : at_ + 32 ≤ s.size) (h0 : 0 ≤ k) (h7 : k ≤ 6) (hN : ∀ j, num (toL s) (at_ + 4 * j) 4 = N j)
    (c1 : w.cell? ⟨b1, 0, none⟩ = some (.string s)) (c2 : w.cell? ⟨b2, 0, none⟩ = some (.int .i64 at_)) :
    Calls Try.prog 29 #[.int .i64 k, .pointer (some ⟨b1, 0, none⟩), .pointer (some ⟨b2, 0, none⟩)] w fun e w' => e = .returned (.int .i64 (N k.toNat)) ∧ w = w' := by
  obtain ⟨j, rfl⟩ := Int.eq_ofNat_of_zero_le h0
  have e1 : wrap64 ((at_ : Int) + wrap64 (4 * (j : Int))) = ((at_ + 4 * j : Nat) : Int) := by unfold wrap64; omega
  have hn := num_ok s (at_ + 4 * j) 4 w (by omega) (by unfold maxLen; omega) (by omega)
  rw [hN] at hn
  go_enter Try.func29, Try.ntmps29
  go_wp2_with fail
  refine hn.mono ?_
  rintro e w1 ⟨rfl, rfl⟩
  go_wp2
  go_ret
  exact ⟨rfl, rfl⟩
set_option maxRecDepth 100000 in
set_option maxHeartbeats 8000000 in
theorem segment_any (s : ByteArray) (at_ : Nat) (w : World) (hs : s.size ≤ 281474976710656) (h : at_ + 32 ≤ s.size) :
    Calls Try.prog 27 #[.string s, .int .i64 at_] w fun r w' => Below w.heap.size w w' ∧ match segOf s at_ with | .ok g => r = .returned g.val | .error e => r = .panicked [{ v := oddOf e, recovered := false }] := by
  have hmf : ∀ (fn : Fn) (first cap : Array Value) (w : World), (Instr.makeFunc fn first cap).run Try.prog w = .ok (.func fn first cap) w := fun _ _ _ _ => rfl
  obtain ⟨N, hN⟩ : ∃ N : Nat → Nat, ∀ k, num (toL s) (at_ + 4 * k) 4 = N k := ⟨_, fun _ => rfl⟩
  have hseg : segOf s at_ = if N 0 = 1 ∧ N 6 ≤ 7 ∧ N 4 ≤ N 5 then if N 1 ≤ s.size ∧ N 4 ≤ s.size - N 1 then .ok ⟨N 2, s.extract (N 1) (N 1 + N 4), N 5, N 6⟩ else .error 60 else .error 62 := by
    simp only [← hN]; rfl
  have lN : ∀ j, N j < 4294967296 := fun j => hN j ▸ num_lt4 _ _ (Nat.le_refl _)
  have l1 := lN 1
  have l2 := lN 2
  have l4 := lN 4
  rw [hseg]
  clear hseg
  replace hN := Lib.hid hN
  by_cases h0 : N 0 = 1
  · by_cases h6 : N 6 ≤ 7
    · by_cases h45 : N 4 ≤ N 5
      · rw [if_pos ⟨h0, h6, h45⟩]
        by_cases hB : N 1 ≤ s.size ∧ N 4 ≤ s.size - N 1
        · rw [if_pos hB]
          obtain ⟨hB1, hB2⟩ := hB
          have d0 : ((N 0 : Int) == 1) = true := by rw [h0]; rfl
          have d6 : decide ((N 6 : Int) ≤ 7) = true := decide_eq_true (by omega)
          have d45 : decide ((N 4 : Int) ≤ (N 5 : Int)) = true := decide_eq_true (by omega)
          have d1 : decide ((N 1 : Int) ≤ (s.size : Int)) = true := decide_eq_true (by omega)
          have d4 : decide ((N 4 : Int) ≤ (s.size : Int) - (N 1 : Int)) = true := decide_eq_true (by omega)
          go_enter Try.func27, Try.ntmps27
          go_wp2_with (first | (go_at_call 29; refine (seg1 s at_ _ _ _ N _ hs h (by decide) (by decide) hN.out (by simp [go_sem]) (by simp [go_sem])).mono ?_; rintro e w1 ⟨rfl, rfl⟩) | (go_at_call 22; refine (must_any _ _ _).mono ?_; rintro r w1 ⟨rfl, ⟨hm, rfl⟩ | ⟨hm, rfl⟩⟩ <;> first | exact absurd hm (by decide) | skip) | fail)
          obtain ⟨w3, hw3⟩ : ∃ w3, w3 = (((w.alloc (.cells #[.string s] 9)).alloc (.cells #[.int .i64 at_] 3)).alloc (.cells #[.int .u32 0, .string ⟨#[]⟩, .int .i64 0, .int .i64 0] 36)) := ⟨_, rfl⟩
          rw [← hw3]
          have c1 : w3.cell? ⟨w.heap.size, 0, none⟩ = some (.string s) := by rw [hw3]; simp [go_sem]
          have c2 : w3.cell? ⟨w.heap.size + 1, 0, none⟩ = some (.int .i64 at_) := by rw [hw3]; simp [go_sem]
          have c3 : w3.heap[w.heap.size + 1 + 1]? = some (.cells #[.int .u32 0, .string ⟨#[]⟩, .int .i64 0, .int .i64 0] 36 (0, 0)) := by rw [hw3]; exact blk_top (by simp)
          have hb3 : Below w.heap.size w w3 := by rw [hw3]; exact (((Below.refl _ _).alloc (Nat.le_refl _) _).alloc (by simp) _).alloc (by simp; omega) _
          clear hw3
          have g1 : N 1 + N 4 ≤ s.size := by omega
          have hW : IntKind.i64.wrap ((N 1 : Int) + (N 4 : Int)) = (N 1 : Int) + (N 4 : Int) := by rw [IntKind.wrap_i64]; omega
          have hU : IntKind.u32.wrap (N 2 : Int) = (N 2 : Int) := by rw [IntKind.wrap_u32]; omega
          have g0 : (0 : Int) ≤ (N 1 : Int) := by omega
          have g2 : (N 1 : Int) + (N 4 : Int) ≤ (s.size : Int) := by omega
          have g3 : (N 1 : Int) ≤ (N 1 : Int) + (N 4 : Int) := by omega
          have g4 : (0 : Int) ≤ (N 1 : Int) + (N 4 : Int) := by omega
          go_region_held3 (fun w' => w'.cell? ⟨w.heap.size, 0, none⟩ = some (.string s) ∧ w'.cell? ⟨w.heap.size + 1, 0, none⟩ = some (.int .i64 at_) ∧ w'.cell? ⟨w.heap.size + 1 + 1, 0, none⟩ = some (cellAt w' ⟨w.heap.size + 1 + 1, 0, none⟩) ∧ w'.cell? ⟨w.heap.size + 1 + 1, 1, none⟩ = some (cellAt w' ⟨w.heap.size + 1 + 1, 1, none⟩) ∧ w'.cell? ⟨w.heap.size + 1 + 1, 2, none⟩ = some (cellAt w' ⟨w.heap.size + 1 + 1, 2, none⟩) ∧ w'.cell? ⟨w.heap.size + 1 + 1, 3, none⟩ = some (cellAt w' ⟨w.heap.size + 1 + 1, 3, none⟩) ∧ w'.frozen? ⟨w.heap.size + 1 + 1, 0, none⟩ = false ∧ w'.frozen? ⟨w.heap.size + 1 + 1, 1, none⟩ = false ∧ w'.frozen? ⟨w.heap.size + 1 + 1, 2, none⟩ = false ∧ w'.frozen? ⟨w.heap.size + 1 + 1, 3, none⟩ = false)
            (first | exact seg_keep (W := w3.drew) c1 c2 c3 rfl | exact seg_keep (W := w4) (cell_below (w := w3.drew) hb4 c1) (cell_below (w := w3.drew) hb4 c2) (blk_below (w := w3.drew) c3 hb4) rfl | exact seg_keep4 (W := w4) (cell_below (w := w3.drew) hb4 c1) (cell_below (w := w3.drew) hb4 c2) (blk_below (w := w3.drew) c3 hb4) rfl)
            (first
              | (go_at_call 29; refine (seg1 s at_ _ _ _ N _ hs h (by decide) (by decide) hN.out (by simp [*]) (by simp [*])).mono ?_; rintro e w1 ⟨rfl, rfl⟩)
              | (go_at_call 30; refine (clone_any _ _ (by simp; omega)).mono ?_; rintro e w4 ⟨rfl, hb4⟩))
          rw [show ((N 1 : Int) + (N 4 : Int)).toNat = N 1 + N 4 by omega]
          have BB := blk_set (blk_set (blk_set (blk_set (blk_below (w := w3.drew) c3 hb4) 0 (.int .u32 (N 2))) 1 (.string (s.extract (N 1) (N 1 + N 4)))) 2 (.int .i64 (N 5))) 3 (.int .i64 (N 6))
          have r0 := (cell_of BB 0).trans (show _ = some (Value.int .u32 (N 2)) from rfl)
          have r1 := (cell_of BB 1).trans (show _ = some (Value.string (s.extract (N 1) (N 1 + N 4))) from rfl)
          have r2 := (cell_of BB 2).trans (show _ = some (Value.int .i64 (N 5)) from rfl)
          have r3 := (cell_of BB 3).trans (show _ = some (Value.int .i64 (N 6)) from rfl)
          have hb5 := below_then hb3.drew hb4
          go_wp2
          refine bodyPost_ret (v := .agg #[.int .u32 (N 2), .string (s.extract (N 1) (N 1 + N 4)), .int .i64 (N 5), .int .i64 (N 6)]) (by simp [results, Try.results27, go_sem, r0, r1, r2, r3]) rfl ⟨?_, rfl⟩
          exact (((hb5.setCell (by simp; omega) _).setCell (by simp; omega) _).setCell (by simp; omega) _).setCell (by simp; omega) _
        · rw [if_neg hB]
          have d0 : ((N 0 : Int) == 1) = true := by rw [h0]; rfl
          have d6 : decide ((N 6 : Int) ≤ 7) = true := decide_eq_true (by omega)
          have d45 : decide ((N 4 : Int) ≤ (N 5 : Int)) = true := decide_eq_true (by omega)
          by_cases hB1 : N 1 ≤ s.size
          · have d1 : decide ((N 1 : Int) ≤ (s.size : Int)) = true := decide_eq_true (by omega)
            have d4 : decide ((N 4 : Int) ≤ (s.size : Int) - (N 1 : Int)) = false := decide_eq_false (by have := fun h => hB ⟨hB1, h⟩; omega)
            go_enter Try.func27, Try.ntmps27
            go_wp2_with (first | (go_at_call 29; refine (seg1 s at_ _ _ _ N _ hs h (by decide) (by decide) hN.out (by simp [go_sem]) (by simp [go_sem])).mono ?_; rintro e w1 ⟨rfl, rfl⟩) | (go_at_call 22; refine (must_any _ _ _).mono ?_; rintro r w1 ⟨rfl, ⟨hm, rfl⟩ | ⟨hm, rfl⟩⟩ <;> first | exact absurd hm (by decide) | skip) | fail)
            simp [bodyPost]
            exact (((Below.refl _ _).alloc (Nat.le_refl _) _).alloc (by simp) _).alloc (by simp; omega) _
          · have d1 : decide ((N 1 : Int) ≤ (s.size : Int)) = false := decide_eq_false (by omega)
            go_enter Try.func27, Try.ntmps27
            go_wp2_with (first | (go_at_call 29; refine (seg1 s at_ _ _ _ N _ hs h (by decide) (by decide) hN.out (by simp [go_sem]) (by simp [go_sem])).mono ?_; rintro e w1 ⟨rfl, rfl⟩) | (go_at_call 22; refine (must_any _ _ _).mono ?_; rintro r w1 ⟨rfl, ⟨hm, rfl⟩ | ⟨hm, rfl⟩⟩ <;> first | exact absurd hm (by decide) | skip) | fail)
            simp [bodyPost]
            exact (((Below.refl _ _).alloc (Nat.le_refl _) _).alloc (by simp) _).alloc (by simp; omega) _
      · rw [if_neg (fun h => h45 h.2.2)]
        have d0 : ((N 0 : Int) == 1) = true := by rw [h0]; rfl
        have d6 : decide ((N 6 : Int) ≤ 7) = true := decide_eq_true (by omega)
        have d45 : decide ((N 4 : Int) ≤ (N 5 : Int)) = false := decide_eq_false (by omega)
        go_enter Try.func27, Try.ntmps27
        go_wp2_with (first | (go_at_call 29; refine (seg1 s at_ _ _ _ N _ hs h (by decide) (by decide) hN.out (by simp [go_sem]) (by simp [go_sem])).mono ?_; rintro e w1 ⟨rfl, rfl⟩) | (go_at_call 22; refine (must_any _ _ _).mono ?_; rintro r w1 ⟨rfl, ⟨hm, rfl⟩ | ⟨hm, rfl⟩⟩ <;> first | exact absurd hm (by decide) | skip) | fail)
        simp [bodyPost]
        exact (((Below.refl _ _).alloc (Nat.le_refl _) _).alloc (by simp) _).alloc (by simp; omega) _
    · rw [if_neg (fun h => h6 h.2.1)]
      have d0 : ((N 0 : Int) == 1) = true := by rw [h0]; rfl
      have d6 : decide ((N 6 : Int) ≤ 7) = false := decide_eq_false (by omega)
      go_enter Try.func27, Try.ntmps27
      go_wp2_with (first | (go_at_call 29; refine (seg1 s at_ _ _ _ N _ hs h (by decide) (by decide) hN.out (by simp [go_sem]) (by simp [go_sem])).mono ?_; rintro e w1 ⟨rfl, rfl⟩) | (go_at_call 22; refine (must_any _ _ _).mono ?_; rintro r w1 ⟨rfl, ⟨hm, rfl⟩ | ⟨hm, rfl⟩⟩ <;> first | exact absurd hm (by decide) | skip) | fail)
      simp [bodyPost]
      exact (((Below.refl _ _).alloc (Nat.le_refl _) _).alloc (by simp) _).alloc (by simp; omega) _
  · rw [if_neg (fun h => h0 h.1)]
    have d0 : ((N 0 : Int) == 1) = false := by simp; omega
    go_enter Try.func27, Try.ntmps27
    go_wp2_with (first | (go_at_call 29; refine (seg1 s at_ _ _ _ N _ hs h (by decide) (by decide) hN.out (by simp [go_sem]) (by simp [go_sem])).mono ?_; rintro e w1 ⟨rfl, rfl⟩) | (go_at_call 22; refine (must_any _ _ _).mono ?_; rintro r w1 ⟨rfl, ⟨hm, rfl⟩ | ⟨hm, rfl⟩⟩ <;> first | exact absurd hm (by decide) | skip) | fail)
    simp [bodyPost]
    exact (((Below.refl _ _).alloc (Nat.le_refl _) _).alloc (by simp) _).alloc (by simp; omega) _
end Go.Proofs.Ytlpoebobfdmcmaa
