/- Parse. -/
import Derived.Test.YtlpoebobfdmcmaaESeg
import Derived.Test.YtlpoebobfdmcmaaECheck
import Derived.Test.YtlpoebobfdmcmaaESame
import Derived.Test.YtlpoebobfdmcmaaEPre
import Derived.Test.YtlpoebobfdmcmaaEOwn
set_option linter.unusedVariables false
set_option linter.unusedSimpArgs false
namespace Go.Proofs.Ytlpoebobfdmcmaa
open Go.RowKit

/-- The deferred closure: where something was odd the program is none. -/
theorem clear_any (b : Nat) (c : Int) (u : FrameMode) (x0 x1 x2 : Value) (w : World) (hbx : w.heap[b]? = some (.cells #[x0, x1, x2] 25 (0, 0))) (hbe : w.heap[b + 1]? = some (.cells #[.int .i64 c] 27 (0, 0))) :
    CallsD Try.prog 23 #[.pointer (some ⟨b + 1, 0, none⟩), .pointer (some ⟨b, 0, none⟩)] u w fun r u' w' => u' = u ∧ (r = .returned (.tuple #[]) ∧ w' = if c = 0 then w else ((w.setCell ⟨b, 0, none⟩ (.int .u32 0)).setCell ⟨b, 1, none⟩ (.int .u32 0)).setCell ⟨b, 2, none⟩ (.slice none 0 0)) := by
  have he := cell_of hbe 0
  simp only [List.getElem?_toArray, List.getElem?_cons_zero] at he
  have x0' := cell_of hbx 0
  have x1' := cell_of hbx 1
  have x2' := cell_of hbx 2
  simp only [List.getElem?_toArray, List.getElem?_cons_zero, List.getElem?_cons_succ] at x0' x1' x2'
  have f0 := frozen_of hbx 0
  have f1 := frozen_of hbx 1
  have f2 := frozen_of hbx 2
  by_cases hc : c = 0
  · rw [if_pos hc]
    have d : (c != 0) = false := by simpa using hc
    clear hc
    go_enter_d Try.func23, Try.ntmps23
    go_wp2
    go_end0
    exact ⟨rfl, rfl⟩
  · rw [if_neg hc]
    have d : (c != 0) = true := by simpa using hc
    clear hc
    go_enter_d Try.func23, Try.ntmps23
    go_wp2
    go_end0
    exact ⟨rfl, rfl⟩
/-- The door that a panic goes through. -/
theorem parse_door {tmps : Array Value} {R : Ending → World → Prop} (W : World) (b : Nat) (c : Int) (hc : c ≠ 0) {x0 x1 x2 : Value} (hbx : W.heap[b]? = some (.cells #[x0, x1, x2] 25 (0, 0))) (hbe : W.heap[b + 1]? = some (.cells #[.int .i64 0] 27 (0, 0)))
    (h : ∀ w', w'.heap[b]? = some (.cells #[.int .u32 0, .int .u32 0, .slice none 0 0] 25 (0, 0)) → w'.heap[b + 1]? = some (.cells #[.int .i64 c] 27 (0, 0)) → Below b W w' → Leaves Try.prog Try.f16 tmps R [] .returning w') :
    Leaves Try.prog Try.f16 tmps R [{ target := .fn (.func 21) #[], args := #[.pointer (some ⟨b + 1, 0, none⟩)] }, { target := .fn (.func 23) #[.pointer (some ⟨b + 1, 0, none⟩), .pointer (some ⟨b, 0, none⟩)], args := #[] }] (.panicking [{ v := oddOf c, recovered := false }]) W := by
  refine leaves_cons (f := 21) (args := #[.pointer (some ⟨b + 1, 0, none⟩)]) (by simp) (by simp [go_sem]) ?_
  refine (told_panicking (b + 1) _ 0 c [] _ hbe).mono ?_
  rintro r u' w'' ⟨rfl, rfl, w9, hb9, hk9, rfl⟩
  have hbx9 := blk_below hbx hb9
  have hbx10 : (w9.setCell ⟨b + 1, 0, none⟩ (.int .i64 c)).heap[b]? = some (.cells #[x0, x1, x2] 25 (0, 0)) := (Below.heap_setCell w9 ⟨b + 1, 0, none⟩ (.int .i64 c) b (by simp)).trans hbx9
  have hbe10 : (w9.setCell ⟨b + 1, 0, none⟩ (.int .i64 c)).heap[b + 1]? = some (.cells #[.int .i64 c] 27 (0, 0)) := blk_set hk9 0 (.int .i64 c)
  have hbW : b ≤ W.heap.size := Nat.le_of_lt (Array.getElem?_eq_some_iff.1 hbx).1
  have hb10 : Below b W (w9.setCell ⟨b + 1, 0, none⟩ (.int .i64 c)) := (hb9.mono hbW).setCell (by simp) _
  simp only [settle]
  refine leaves_cons (f := 23) (args := #[.pointer (some ⟨b + 1, 0, none⟩), .pointer (some ⟨b, 0, none⟩)]) (by simp [settle]) (by simp [go_sem]) ?_
  refine (clear_any b c _ x0 x1 x2 _ hbx10 hbe10).mono ?_
  rintro r u' w'' ⟨rfl, rfl, rfl⟩
  rw [if_neg hc]
  generalize w9.setCell ⟨b + 1, 0, none⟩ (.int .i64 c) = W3 at hbx10 hbe10 hb10
  have q := blk_set (blk_set (blk_set hbx10 0 (.int .u32 0)) 1 (.int .u32 0)) 2 (.slice none 0 0)
  refine h _ q ?_ (((hb10.setCell (by simp) _).setCell (by simp) _).setCell (by simp) _)
  rw [Below.heap_setCell _ _ _ _ (by simp), Below.heap_setCell _ _ _ _ (by simp), Below.heap_setCell _ _ _ _ (by simp)]
  exact hbe10
end Go.Proofs.Ytlpoebobfdmcmaa
