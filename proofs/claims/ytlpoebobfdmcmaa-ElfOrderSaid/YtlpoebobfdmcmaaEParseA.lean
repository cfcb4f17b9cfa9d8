/- Parse's answer, and calls in it. -/
import Derived.Test.YtlpoebobfdmcmaaEParse
import Derived.Test.YtlpoebobfdmcmaaENum
set_option linter.unusedVariables false
set_option linter.unusedSimpArgs false
namespace Go.Proofs.Ytlpoebobfdmcmaa
open Go.RowKit

def rowsAt (s : ByteArray) (at_ : Nat) : Nat → Except Int (List Seg)
  | 0 => .ok []
  | k + 1 => match rowsAt s at_ k with
    | .error e => .error e
    | .ok xs => match segOf s (at_ + 32 * k) with
      | .error e => .error e
      | .ok g => .ok (xs ++ [g])
theorem rowsAt_err {s : ByteArray} {a k : Nat} {e : Int} (h : rowsAt s a k = .error e) : ∀ n, k ≤ n → rowsAt s a n = .error e := by
  intro n hn
  induction n with
  | zero => have : k = 0 := by omega
            subst this; exact h
  | succ n ih =>
    by_cases hk : k = n + 1
    · subst hk; exact h
    · rw [rowsAt, ih (by omega)]
theorem segOf_fits {s : ByteArray} {a : Nat} {g : Seg} (hs : s.size ≤ 281474976710656) (h : segOf s a = .ok g) : g.Fits := by
  have l2 := num_lt4 (toL s) (a + 8) (Nat.le_refl 4)
  have l5 := num_lt4 (toL s) (a + 20) (Nat.le_refl 4)
  have l6 := num_lt4 (toL s) (a + 24) (Nat.le_refl 4)
  have l4 := num_lt4 (toL s) (a + 16) (Nat.le_refl 4)
  unfold segOf at h
  split at h
  · split at h
    · injection h with h
      subst h
      refine ⟨l2, ?_, ?_, ?_, ?_, ?_⟩
      · simp only [ByteArray.size_extract, maxLen]; omega
      all_goals (dsimp only; omega)
    · cases h
  · cases h
theorem rowsAt_len {s : ByteArray} {a : Nat} : ∀ {k : Nat} {xs : List Seg}, rowsAt s a k = .ok xs → xs.length = k := by
  intro k
  induction k with
  | zero => intro xs h; injection h with h; subst h; rfl
  | succ k ih =>
    intro xs h
    rw [rowsAt] at h
    split at h
    · cases h
    · rename_i ys hy
      split at h
      · cases h
      · injection h with h
        subst h
        simp [ih hy]
def parseOf (s : ByteArray) : Except Int (Nat × Nat × List Seg) :=
  if s.size < 52 then .error 60
  else if ¬ (toL s).take 7 = magicL then .error 61
  else if ¬ num (toL s) 16 2 = 2 then .error 61
  else if ¬ num (toL s) 18 2 = 243 then .error 61
  else if ¬ num (toL s) 20 4 = 1 then .error 61
  else if ¬ num (toL s) 40 2 = 52 then .error 61
  else if ¬ num (toL s) 42 2 = 32 then .error 61
  else if 16 < num (toL s) 44 2 then .error 2
  else if s.size < num (toL s) 28 4 + 32 * num (toL s) 44 2 then .error 60
  else match rowsAt s (num (toL s) 28 4) (num (toL s) 44 2) with
    | .error e => .error e
    | .ok xs => if chk xs = 0 then .ok (num (toL s) 24 4, num (toL s) 36 4, xs) else .error (chk xs)
theorem num_int (s : ByteArray) (N : Int → Int → Nat) (hN : ∀ a n, num (toL s) a.toNat n.toNat = N a n) (a n : Int) (w : World) (hn : 0 ≤ n ∧ n ≤ 4) (ha : 0 ≤ a) (hs : s.size ≤ maxLen) (h : a + n ≤ s.size) :
    Calls Try.prog 26 #[.string s, .int .i64 a, .int .i64 n] w fun r w' => r = .returned (.int .i64 (N a n)) ∧ w = w' := by
  obtain ⟨x, rfl⟩ : ∃ x : Nat, a = x := ⟨a.toNat, by omega⟩
  obtain ⟨y, rfl⟩ : ∃ y : Nat, n = y := ⟨n.toNat, by omega⟩
  refine (num_ok s x y w (by omega) hs (by omega)).mono ?_
  rintro r w' ⟨rfl, rfl⟩
  have := hN x y
  simp only [Int.toNat_natCast] at this
  rw [this]
  exact ⟨rfl, rfl⟩
theorem same_int (s : ByteArray) (N : Int → Int → Nat) (hN : ∀ a n, num (toL s) a.toNat n.toNat = N a n) (a n want : Int) (w : World) (hn : 0 ≤ n ∧ n ≤ 4) (ha : 0 ≤ a) (hw : 0 ≤ want) (hs : s.size ≤ maxLen) (h : a + n ≤ s.size) :
    Calls Try.prog 25 #[.string s, .int .i64 a, .int .i64 n, .int .i64 want] w fun r w' => w = w' ∧ ((((N a n : Nat) : Int) = want ∧ r = .returned (.tuple #[])) ∨ (((N a n : Nat) : Int) ≠ want ∧ r = .panicked [{ v := oddOf 61, recovered := false }])) := by
  obtain ⟨x, rfl⟩ : ∃ x : Nat, a = x := ⟨a.toNat, by omega⟩
  obtain ⟨y, rfl⟩ : ∃ y : Nat, n = y := ⟨n.toNat, by omega⟩
  obtain ⟨z, rfl⟩ : ∃ z : Nat, want = z := ⟨want.toNat, by omega⟩
  refine (same_any s x y z w (by omega) hs (by omega)).mono ?_
  have := hN x y
  simp only [Int.toNat_natCast] at this
  rw [this]
  rintro r w' ⟨rfl, ⟨h1, rfl⟩ | ⟨h1, rfl⟩⟩
  · exact ⟨rfl, Or.inl ⟨by omega, rfl⟩⟩
  · exact ⟨rfl, Or.inr ⟨by omega, rfl⟩⟩
theorem seg_ok {s : ByteArray} {m : Nat} {g : Seg} (x : Int) (w : World) (hx : x = (m : Int)) (hs : s.size ≤ 281474976710656) (h : m + 32 ≤ s.size) (hg : segOf s m = .ok g) :
    Calls Try.prog 27 #[.string s, .int .i64 x] w fun r w' => r = .returned (.agg #[.int .u32 g.addr, .string g.data, .int .i64 g.size, .int .i64 g.flags]) ∧ Below w.heap.size w w' := by
  subst hx
  refine (segment_any s m w hs h).mono ?_
  rintro r w' ⟨hb, hr⟩
  rw [hg] at hr
  exact ⟨hr, hb⟩
theorem seg_no {s : ByteArray} {m : Nat} {e : Int} (x : Int) (w : World) (hx : x = (m : Int)) (hs : s.size ≤ 281474976710656) (h : m + 32 ≤ s.size) (hg : segOf s m = .error e) :
    Calls Try.prog 27 #[.string s, .int .i64 x] w fun r w' => r = .panicked [{ v := oddOf e, recovered := false }] ∧ Below w.heap.size w w' := by
  subst hx
  refine (segment_any s m w hs h).mono ?_
  rintro r w' ⟨hb, hr⟩
  rw [hg] at hr
  exact ⟨hr, hb⟩
theorem segOf_err {s : ByteArray} {m : Nat} {e : Int} (h : segOf s m = .error e) : e ≠ 0 := by
  unfold segOf at h
  split at h
  · split at h
    · cases h
    · injection h with h; omega
  · injection h with h; omega
/-- What a panic leaves of Parse. -/
def ParsePanic (b : Nat) (W0 : World) (c : Int) : Exit → Act → World → Prop
  | .panic ch, a, w => (a.tmps[2]? = some (.pointer (some ⟨b, 0, none⟩)) ∧ a.tmps[3]? = some (.pointer (some ⟨b + 1, 0, none⟩)) ∧ a.defers = [{ target := .fn (.func 21) #[], args := #[.pointer (some ⟨b + 1, 0, none⟩)] }, { target := .fn (.func 23) #[.pointer (some ⟨b + 1, 0, none⟩), .pointer (some ⟨b, 0, none⟩)], args := #[] }]) ∧
      ch = [{ v := oddOf c, recovered := false }] ∧ Below b W0 w ∧ (∃ x0 x1 x2, w.heap[b]? = some (.cells #[x0, x1, x2] 25 (0, 0))) ∧ w.heap[b + 1]? = some (.cells #[.int .i64 0] 27 (0, 0))
  | _, _, _ => False
theorem ParsePanic.put {b : Nat} {W0 : World} {c : Int} {ch : List PanicEntry} {a : Act} {d : Nat} {v : Value} {w : World} (h2 : d ≠ 2) (h3 : d ≠ 3) (h : ParsePanic b W0 c (.panic ch) (a.put (some d) v) w) : ParsePanic b W0 c (.panic ch) a w := by
  obtain ⟨⟨e1, e2, e3⟩, rest⟩ := h
  refine ⟨⟨?_, ?_, e3⟩, rest⟩
  · simpa [Act.put, Array.getElem?_setIfInBounds, h2] using e1
  · simpa [Act.put, Array.getElem?_setIfInBounds, h3] using e2
theorem ParsePanic.body {b : Nat} {W0 : World} {c : Int} {R : Ending → World → Prop} (hc : c ≠ 0) (hb : W0.heap.size = b) {ch : List PanicEntry} {a : Act} {w : World} (h : ParsePanic b W0 c (.panic ch) a w)
    (hR : ∀ w', Below W0.heap.size W0 w' → R (.returned (.tuple #[.agg #[.int .u32 0, .int .u32 0, .slice none 0 0], .int .i64 c])) w') :
    bodyPostD Try.prog Try.f16 R (.panic ch) a w := by
  obtain ⟨⟨e1, e2, e3⟩, rfl, hB, ⟨x0, x1, x2, hbx⟩, hbe⟩ := h
  show Leaves _ _ _ _ a.defers _ _
  rw [e3]
  refine parse_door w b c hc hbx hbe ?_
  intro w9 k1 k2 k3
  have r0 := cell_of k1 0
  have r1 := cell_of k1 1
  have r2 := cell_of k1 2
  have r3 := cell_of k2 0
  simp only [List.getElem?_toArray, List.getElem?_cons_zero, List.getElem?_cons_succ] at r0 r1 r2 r3
  have hb2 := hB.trans k3
  have e1' : a.tmps.getD 2 undef = .pointer (some ⟨b, 0, none⟩) := by simp [Array.getD_eq_getD_getElem?, e1]
  have e2' : a.tmps.getD 3 undef = .pointer (some ⟨b + 1, 0, none⟩) := by simp [Array.getD_eq_getD_getElem?, e2]
  simp [Leaves, settle, results, Try.results16, go_sem, r0, r1, r2, r3, e1, e2, e1', e2']
  subst hb
  exact hR _ hb2
/-- The door where nothing panicked. -/
theorem parse_idle {tmps : Array Value} {R : Ending → World → Prop} (W : World) (b : Nat) (c : Int) {x0 x1 x2 : Value} (hbx : W.heap[b]? = some (.cells #[x0, x1, x2] 25 (0, 0))) (hbe : W.heap[b + 1]? = some (.cells #[.int .i64 c] 27 (0, 0)))
    (h0 : c = 0 → Leaves Try.prog Try.f16 tmps R [] .returning W)
    (h1 : c ≠ 0 → ∀ w', w'.heap[b]? = some (.cells #[.int .u32 0, .int .u32 0, .slice none 0 0] 25 (0, 0)) → w'.heap[b + 1]? = some (.cells #[.int .i64 c] 27 (0, 0)) → Below b W w' → Leaves Try.prog Try.f16 tmps R [] .returning w') :
    Leaves Try.prog Try.f16 tmps R [{ target := .fn (.func 21) #[], args := #[.pointer (some ⟨b + 1, 0, none⟩)] }, { target := .fn (.func 23) #[.pointer (some ⟨b + 1, 0, none⟩), .pointer (some ⟨b, 0, none⟩)], args := #[] }] .returning W := by
  refine leaves_cons (f := 21) (args := #[.pointer (some ⟨b + 1, 0, none⟩)]) (by simp) (by simp [go_sem]) ?_
  refine (told_idle _ _).mono ?_
  rintro r u' w'' ⟨rfl, rfl, rfl⟩
  refine leaves_cons (f := 23) (args := #[.pointer (some ⟨b + 1, 0, none⟩), .pointer (some ⟨b, 0, none⟩)]) (by simp [settle]) (by simp [go_sem]) ?_
  refine (clear_any b c _ x0 x1 x2 _ hbx hbe).mono ?_
  rintro r u' w'' ⟨rfl, rfl, rfl⟩
  by_cases hc : c = 0
  · rw [if_pos hc]
    exact h0 hc
  · rw [if_neg hc]
    have q := blk_set (blk_set (blk_set hbx 0 (.int .u32 0)) 1 (.int .u32 0)) 2 (.slice none 0 0)
    refine h1 hc _ q ?_ ((((Below.mono (Below.refl _ w'') (Nat.le_of_lt (Array.getElem?_eq_some_iff.1 hbx).1)).setCell (by simp) _).setCell (by simp) _).setCell (by simp) _)
    rw [Below.heap_setCell _ _ _ _ (by simp), Below.heap_setCell _ _ _ _ (by simp), Below.heap_setCell _ _ _ _ (by simp)]
    exact hbe
def tailOf (s : ByteArray) (en fl a n : Nat) : Except Int (Nat × Nat × List Seg) := match rowsAt s a n with
  | .error e => .error e
  | .ok xs => if chk xs = 0 then .ok (en, fl, xs) else .error (chk xs)
/-- What Parse leaves. -/
def ParseOut (w : World) (o : Except Int (Nat × Nat × List Seg)) (r : Ending) (w' : World) : Prop := (match o with
  | .error e => r = .returned (.tuple #[.agg #[.int .u32 0, .int .u32 0, .slice none 0 0], .int .i64 e])
  | .ok (en, fl, xs) => ∃ v, r = .returned (.tuple #[.agg #[.int .u32 en, .int .u32 fl, v], .int .i64 0]) ∧ Segs w.heap.size w' v xs) ∧ Below w.heap.size w w'
/-- .. the slice being of the call's own. -/
def ParseOutG (w : World) (o : Except Int (Nat × Nat × List Seg)) (r : Ending) (w' : World) : Prop := (match o with
  | .error e => r = .returned (.tuple #[.agg #[.int .u32 0, .int .u32 0, .slice none 0 0], .int .i64 e])
  | .ok (en, fl, xs) => ∃ v, r = .returned (.tuple #[.agg #[.int .u32 en, .int .u32 fl, v], .int .i64 0]) ∧ OwnG w.heap.size w' v xs) ∧ Below w.heap.size w w'
theorem ParseOutG.weak {w : World} {o : Except Int (Nat × Nat × List Seg)} {r : Ending} {w' : World} (h : ParseOutG w o r w') : ParseOut w o r w' := by
  obtain ⟨h1, h2⟩ := h
  refine ⟨?_, h2⟩
  cases o with
  | error e => exact h1
  | ok x =>
    obtain ⟨v, e, ho⟩ := h1
    exact ⟨v, e, ho.toSegs _⟩
end Go.Proofs.Ytlpoebobfdmcmaa
