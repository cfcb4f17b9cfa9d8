/- Slices whose elements are rows of k cells (structs), read and built as lists. -/
/- Slices of rows of k cells: append of a whole slice. -/
import Derived.Test.YtgnahjadjgjecaaCells
set_option linter.unusedVariables false
set_option linter.unusedSimpArgs false
namespace Go.Proofs.Ytgnahjadjgjecaa
open Go.RowKit

/-- How an element lies: k cells. -/
structure EncN {α : Type} (k : Nat) (enc : α → List Value) : Prop where
  len : ∀ x, (enc x).length = k
  one : ∀ x, ∀ u ∈ enc x, u.oneCell' = true
  pos : 0 < k
def AtN {α : Type} (enc : α → List Value) (w : World) (b o : Nat) (x : α) : Prop := ∀ j u, (enc x)[j]? = some u → w.cell? ⟨b, o + j, none⟩ = some u
/-- A slice that is read; where it lies from B on it is a row of type e. -/
def SlN {α : Type} (B : Nat) (e : TypeId) (k : Nat) (enc : α → List Value) : Rep (List α) := fun w v xs =>
  ∃ A c, v = .slice A xs.length c ∧ xs.length ≤ c ∧ c ≤ maxLen ∧ (A = none → c = 0) ∧
    (0 < xs.length → ∃ b off, A = some ⟨b, off, none⟩ ∧ b < w.heap.size ∧ (b < B ∨ ∃ cur fz, w.heap[b]? = some (.cells cur e fz)) ∧
      ∀ (j : Nat) (x : α), xs[j]? = some x → AtN enc w b (off + j * k) x)
section
variable {α : Type} {k : Nat} {enc : α → List Value} {e : TypeId} {B : Nat} {w w' : World} {v : Value} {xs : List α}
theorem AtN.of_block {b o : Nat} {x : α} (h : w'.heap[b]? = w.heap[b]?) (hx : AtN enc w b o x) : AtN enc w' b o x := fun j u hj => (World.cell?_of_block (a := ⟨b, o + j, none⟩) h).trans (hx j u hj)
theorem SlN.stable {T : List TypeId} (he : e ∈ T) : Stable B T (SlN B e k enc) := by
  rintro w w' v xs hq ⟨A, c, rfl, h1, h2, h3, h4⟩
  refine ⟨A, c, rfl, h1, h2, h3, fun hn => ?_⟩
  obtain ⟨b, off, rfl, hb, ht, hc⟩ := h4 hn
  obtain ⟨row, hg, hr⟩ := hq.out
  have hne : some b ≠ row := fun e1 => by
    obtain ⟨hB, hx⟩ := hr b e1.symm
    rcases ht with ht | ⟨cur, fz, ht⟩
    · omega
    · exact hx cur _ fz ht he
  have hbl := hg.block b hb hne
  refine ⟨b, off, rfl, Nat.lt_of_lt_of_le hb hg.size, ?_, fun j x hj => (hc j x hj).of_block hbl⟩
  rcases ht with ht | ⟨cur, fz, ht⟩
  · exact Or.inl ht
  · exact Or.inr ⟨cur, fz, hbl.trans ht⟩
theorem SlN.below (h : SlN B e k enc w v xs) (hb : Below w.heap.size w w') : SlN B e k enc w' v xs := SlN.stable (T := [e]) (by simp) _ _ _ _ (Quiet.below hb) h
theorem SlN.re {B' : Nat} (h : SlN B e k enc w v xs) (hB : w.heap.size ≤ B') : SlN B' e k enc w v xs := by
  obtain ⟨A, c, rfl, h1, h2, h3, h4⟩ := h
  refine ⟨A, c, rfl, h1, h2, h3, fun hn => ?_⟩
  obtain ⟨b, off, rfl, hb, _, hc⟩ := h4 hn
  exact ⟨b, off, rfl, hb, Or.inl (by omega), hc⟩
theorem SlN.open_ (h : SlN B e k enc w v xs) : ∃ A c, v = .slice A xs.length c ∧ xs.length ≤ c ∧ c ≤ maxLen ∧ (A = none → c = 0) := by
  obtain ⟨A, c, r, h1, h2, h3, _⟩ := h
  exact ⟨A, c, r, h1, h2, h3⟩
theorem SlN.at_ {A : Option Addr} {n c : Nat} (h : SlN B e k enc w (.slice A n c) xs) {j : Nat} (hj : j < xs.length) :
    ∃ b off, A = some ⟨b, off, none⟩ ∧ AtN enc w b (off + j * k) xs[j] ∧ b < w.heap.size := by
  obtain ⟨A', c', r, h1, h2, h3, h4⟩ := h
  injection r with e1 e2 e3
  subst e1
  obtain ⟨b, off, rfl, hb, _, hc⟩ := h4 (by omega)
  exact ⟨b, off, rfl, hc j _ (List.getElem?_eq_getElem hj), hb⟩
/-- A slice of the call's own. -/
def OwnN {α : Type} (B : Nat) (e : TypeId) (k : Nat) (enc : α → List Value) : Rep (List α) := fun w v xs => w.ownsRow B e k v xs.length (xs.flatMap enc)
theorem flat_len (E : EncN k enc) (xs : List α) : (xs.flatMap enc).length = xs.length * k := by
  induction xs with
  | nil => simp
  | cons x r ih => rw [List.flatMap_cons, List.length_append, ih, E.len, List.length_cons, Nat.succ_mul]; omega
theorem flat_at (E : EncN k enc) {xs : List α} {j : Nat} {x : α} (h : xs[j]? = some x) (i : Nat) (hi : i < k) : (xs.flatMap enc)[j * k + i]? = (enc x)[i]? := by
  induction xs generalizing j with
  | nil => simp at h
  | cons y r ih =>
    rw [List.flatMap_cons]
    have hy := E.len y
    cases j with
    | zero =>
      simp only [List.getElem?_cons_zero, Option.some.injEq] at h
      subst h
      rw [List.getElem?_append_left (by omega)]
      simp
    | succ j =>
      simp only [List.getElem?_cons_succ] at h
      rw [Nat.succ_mul, List.getElem?_append_right (by omega), ← ih h]
      congr 1
      omega
theorem OwnN.nil (B : Nat) (e : TypeId) (w : World) : OwnN B e k enc w (.slice none 0 0) [] := World.ownsRow_nil w B e k
theorem OwnN.empty {g : Nat} (hB : B ≤ g) (hg : w.heap.size = g) : OwnN B e k enc (w.alloc (.cells #[] e)) (.slice (some ⟨g, 0, none⟩) 0 0) [] := by
  subst hg
  exact show World.ownsRow _ B e k _ 0 [] by simpa using World.ownsRow_lit (base := B) (e := e) (size := k) w #[] 0 hB (Nat.zero_le _) (by simp)
theorem OwnN.typed (h : OwnN B e k enc w v xs) {g : Nat} (hg : v.ownBlock = some g) : B ≤ g ∧ ∃ cur, w.heap[g]? = some (.cells cur e (0, 0)) := by
  rcases h.2 with ⟨rfl, _⟩ | ⟨g', cap, cur, rfl, hb, hh, _⟩
  · simp [Value.ownBlock] at hg
  · simp only [Value.ownBlock, Option.some.injEq] at hg
    subst hg
    exact ⟨hb, cur, hh⟩
theorem OwnN.toSl (E : EncN k enc) (h : OwnN B e k enc w v xs) (B' : Nat) : SlN B' e k enc w v xs := by
  have h2 := h
  rcases h.2 with ⟨rfl, hn⟩ | ⟨g, cap, cur, rfl, hb, hh, hc1, hc2, hc3, htake⟩
  · have : xs = [] := List.eq_nil_of_length_eq_zero hn
    subst this
    exact ⟨none, 0, rfl, Nat.le_refl _, Nat.zero_le _, fun _ => rfl, fun h => absurd h (by simp)⟩
  · refine ⟨_, cap, rfl, hc1, hc2, (fun h => by cases h), fun hn => ⟨g, 0, rfl, (Array.getElem?_eq_some_iff.1 hh).1, Or.inr ⟨cur, _, hh⟩, fun j x hj i u hi => ?_⟩⟩
    have hlt : j < xs.length := (List.getElem?_eq_some_iff.1 hj).1
    have hik : i < k := by have := (List.getElem?_eq_some_iff.1 hi).1; rw [E.len] at this; exact this
    have hjk : j * k + i < xs.length * k := by
      have : (j + 1) * k ≤ xs.length * k := Nat.mul_le_mul_right k hlt
      rw [Nat.succ_mul] at this; omega
    rw [Nat.zero_add, World.ownsRow.cellAt (w := w) h2 (j * k + i) hjk, flat_at E hj i hik, hi]
theorem OwnN.move {T : List TypeId} (h : OwnN B e k enc w v xs) (hq : Quiet B T w w') (he : e ∈ T) : OwnN B e k enc w' v xs := by
  have ht := fun g => h.typed (g := g)
  obtain ⟨row, hg, hr⟩ := hq.out
  refine World.ownsRow.kept h hg ?_
  cases hv : v.ownBlock with
  | none => exact Or.inl rfl
  | some g =>
    refine Or.inr fun e1 => ?_
    obtain ⟨_, cur, hc⟩ := ht g hv
    exact (hr g e1.symm).2 cur _ _ hc he
theorem OwnN.other (h : OwnN B e k enc w v xs) (hg : w.grownBy w' v.ownBlock) {b : Nat} {o : Obj} (hb : w.heap[b]? = some o) (ho : ∀ cur fz, o ≠ .cells cur e fz) : w'.heap[b]? = some o := by
  refine (hg.block b (Array.getElem?_eq_some_iff.1 hb).1 fun e1 => ?_).trans hb
  obtain ⟨_, cur, hc⟩ := h.typed e1.symm
  rw [hb] at hc
  injection hc with hc
  exact ho _ _ hc
theorem OwnN.below {w0 : World} (h : OwnN B e k enc w v xs) (hb : Below B w0 w) (hg : w.grownBy w' v.ownBlock) (hB : B ≤ w.heap.size) : Below B w0 w' :=
  hb.grown hg hB fun g e1 => (h.typed e1).1
theorem OwnN.lower {B' : Nat} (h : OwnN B e k enc w v xs) (hB : B' ≤ B) : OwnN B' e k enc w v xs := by
  refine ⟨h.1, ?_⟩
  rcases h.2 with h4 | ⟨g, cap, cur, e1, hb, r⟩
  · exact Or.inl h4
  · exact Or.inr ⟨g, cap, cur, e1, Nat.le_trans hB hb, r⟩
end
section
variable {P : Program} {ops : Array Oper} {rest : List Oper} {o : Oper} {a : Act} {Q : Exit → Act → World → Prop}
theorem wp_pushN {α : Type} {k : Nat} {enc : α → List Value} (E : EncN k enc) {K : Act → World → Prop} {w0 W : World} (B : Nat) (s x : Operand) (t e : TypeId) (z : Value) (bytes : Nat)
    (ho : o.op = .call { callee := .builtin .append, args := #[s, x], argTypes := #[t, t] }) (ht : P.underlying t = some (.slice e)) (hinfo : (P.info? e).map (fun i => (i.zero, i.size, i.bytes)) = some (some z, k, bytes)) (hz : z.cells.size = k) (hb0 : 0 < bytes)
    {v : Value} {xs : List α} (HO : OwnN B e k enc W v xs) (g : α) (hs : a.eval s = v) (hx : a.eval x = .slice (some ⟨W.heap.size, 0, none⟩) 1 1) (HB : Below B w0 W) (hbase : B ≤ W.heap.size) (hl : (xs.length + 1) * bytes ≤ 140737488355328)
    {cs : Array Value} (hcs : cs = (enc g).toArray)
    (h : ∀ v1 w1, OwnN B e k enc w1 v1 (xs ++ [g]) → Below B w0 w1 → W.grownBy w1 v.ownBlock → (v1.ownBlock = v.ownBlock ∨ ∃ g, v1.ownBlock = some g ∧ W.heap.size ≤ g) → K (a.put o.dst v1) w1) :
    o.wp P a (W.alloc (.cells cs e)) K Q := by
  subst hcs
  obtain ⟨i0, hi, hzz⟩ := Option.map_eq_some_iff.1 hinfo
  simp only [Prod.mk.injEq] at hzz
  obtain ⟨hz0, hz1, hz2⟩ := hzz
  have hlen : xs.length + 1 ≤ 140737488355328 := Nat.le_trans (Nat.le_mul_of_pos_right _ hb0) hl
  obtain ⟨v1, w1, hr, h2, h3, h4, h5⟩ := run_append_own_at (P := P) (W.alloc (.cells (enc g).toArray e)) B t o.type e i0 z k bytes ht hi hz0 hz1 hz2 hz E.pos v xs.length (xs.flatMap enc) (World.ownsRow.alloc HO _) ⟨W.heap.size, 0, none⟩ 1 1 (enc g) (by rw [E.len, Nat.one_mul])
    (fun j u hj => by
      have hb := blk_new W (.cells (enc g).toArray e)
      have hadd : (⟨W.heap.size, 0, none⟩ : Addr).add j = ⟨W.heap.size, j, none⟩ := by unfold Addr.add; split <;> simp_all
      rw [hadd, cell_of hb j, ← hj]
      simp)
    (E.one g) (by simp only [maxLen]; omega) hl (by simp; omega)
  have hg2 : W.grownBy w1 v.ownBlock := World.grownBy.trans (World.grownBy_alloc W _ _) h3
  unfold Oper.wp execOp
  simp only [ho, resolve, invoke, builtin, Sem.run_bind, Sem.run_pure, Result.andThen_ok, List.map_toArray, List.map_cons, List.map_nil, hs, hx, hr]
  refine h v1 w1 ?_ (HO.below HB hg2 hbase) hg2 (h5.imp id fun e => ⟨_, e, by simp⟩)
  unfold OwnN
  rw [List.length_append, List.flatMap_append]
  simpa using h2
theorem wpList_pushN {α : Type} {k : Nat} {enc : α → List Value} (E : EncN k enc) {w0 W : World} (B : Nat) (hgd : o.guard = none) (s x : Operand) (t e : TypeId) (z : Value) (bytes : Nat)
    (ho : o.op = .call { callee := .builtin .append, args := #[s, x], argTypes := #[t, t] }) (ht : P.underlying t = some (.slice e)) (hinfo : (P.info? e).map (fun i => (i.zero, i.size, i.bytes)) = some (some z, k, bytes)) (hz : z.cells.size = k) (hb0 : 0 < bytes)
    {v : Value} {xs : List α} (HO : OwnN B e k enc W v xs) (g : α) (hs : a.eval s = v) (hx : a.eval x = .slice (some ⟨W.heap.size, 0, none⟩) 1 1) (HB : Below B w0 W) (hbase : B ≤ W.heap.size) (hl : (xs.length + 1) * bytes ≤ 140737488355328)
    {cs : Array Value} (hcs : cs = (enc g).toArray)
    (h : ∀ v1 w1, OwnN B e k enc w1 v1 (xs ++ [g]) → Below B w0 w1 → W.grownBy w1 v.ownBlock → (v1.ownBlock = v.ownBlock ∨ ∃ g, v1.ownBlock = some g ∧ W.heap.size ≤ g) → wpList P ops Q rest (a.put o.dst v1) w1) :
    wpList P ops Q (o :: rest) a (W.alloc (.cells cs e)) :=
  wpList_plain hgd fun K hK => wp_pushN E B s x t e z bytes ho ht hinfo hz hb0 HO g hs hx HB hbase hl hcs fun v1 w1 h2 h3 h4 h5 => hK _ _ (h v1 w1 h2 h3 h4 h5)
theorem step_pushN {α : Type} {k : Nat} {enc : α → List Value} (E : EncN k enc) {K : Act → World → Prop} {X : Prop} {w0 W : World} (B : Nat) (hgd : o.guard = none) (s x : Operand) (t e : TypeId) (z : Value) (bytes : Nat)
    (ho : o.op = .call { callee := .builtin .append, args := #[s, x], argTypes := #[t, t] }) (ht : P.underlying t = some (.slice e)) (hinfo : (P.info? e).map (fun i => (i.zero, i.size, i.bytes)) = some (some z, k, bytes)) (hz : z.cells.size = k) (hb0 : 0 < bytes)
    {v : Value} {xs : List α} (HO : OwnN B e k enc W v xs) (g : α) (hs : a.eval s = v) (hx : a.eval x = .slice (some ⟨W.heap.size, 0, none⟩) 1 1) (HB : Below B w0 W) (hbase : B ≤ W.heap.size) (hl : (xs.length + 1) * bytes ≤ 140737488355328)
    {cs : Array Value} (hcs : cs = (enc g).toArray)
    (h : ∀ v1 w1, OwnN B e k enc w1 v1 (xs ++ [g]) → Below B w0 w1 → W.grownBy w1 v.ownBlock → (v1.ownBlock = v.ownBlock ∨ ∃ g, v1.ownBlock = some g ∧ W.heap.size ≤ g) → K (a.put o.dst v1) w1) :
    if Region.wanted o (yielded ops a.tmps) = true then o.wp P a (W.alloc (.cells cs e)) K Q else X := by
  rw [if_pos (by simp [Region.wanted, hgd])]
  exact wp_pushN E B s x t e z bytes ho ht hinfo hz hb0 HO g hs hx HB hbase hl hcs h
end
end Go.Proofs.Ytgnahjadjgjecaa
set_option linter.unusedVariables false
set_option linter.unusedSimpArgs false
namespace Go.Proofs.Ytgnahjadjgjecaa
open Go.RowKit

section
variable {P : Program} {ops : Array Oper} {rest : List Oper} {o : Oper} {a : Act} {Q : Exit → Act → World → Prop}
theorem flat_one {α : Type} {k : Nat} {enc : α → List Value} (E : EncN k enc) (ys : List α) : ∀ u ∈ ys.flatMap enc, u.oneCell' = true := by
  intro u hu
  obtain ⟨x, _, hx⟩ := List.mem_flatMap.1 hu
  exact E.one x u hx
theorem wp_appN {α : Type} {k : Nat} {enc : α → List Value} (E : EncN k enc) {K : Act → World → Prop} {w0 W : World} (B : Nat) (s x : Operand) (t e : TypeId) (z : Value) (bytes : Nat)
    (ho : o.op = .call { callee := .builtin .append, args := #[s, x], argTypes := #[t, t] }) (ht : P.underlying t = some (.slice e)) (hinfo : (P.info? e).map (fun i => (i.zero, i.size, i.bytes)) = some (some z, k, bytes)) (hz : z.cells.size = k) (hb0 : 0 < bytes)
    {v : Value} {xs ys : List α} {B' e' : Nat} {y : Value} (HO : OwnN B e k enc W v xs) (hy : SlN B' e' k enc W y ys) (hs : a.eval s = v) (hx : a.eval x = y) (HB : Below B w0 W) (hbase : B ≤ W.heap.size) (hl : (xs.length + ys.length) * bytes ≤ 140737488355328)
    (h : ∀ v1 w1, OwnN B e k enc w1 v1 (xs ++ ys) → Below B w0 w1 → W.grownBy w1 v.ownBlock → (v1.ownBlock = v.ownBlock ∨ ∃ g, v1.ownBlock = some g ∧ W.heap.size ≤ g) → K (a.put o.dst v1) w1) :
    o.wp P a W K Q := by
  obtain ⟨i0, hi, hzz⟩ := Option.map_eq_some_iff.1 hinfo
  simp only [Prod.mk.injEq] at hzz
  obtain ⟨hz0, hz1, hz2⟩ := hzz
  obtain ⟨A, c, rfl, c1, c2, c3, c4⟩ := hy
  have hlen : xs.length + ys.length ≤ 140737488355328 := Nat.le_trans (Nat.le_mul_of_pos_right _ hb0) hl
  cases A with
  | none =>
    have hc0 := c3 rfl
    subst hc0
    have hys : ys = [] := List.eq_nil_of_length_eq_zero (by omega)
    subst hys
    have hrun := run_append_owned_none (P := P) W B t o.type e i0 k ht hi v xs.length (xs.flatMap enc) HO
    unfold Oper.wp
    simp [execOp, ho, resolve, invoke, builtin, hs, hx, hrun, Result.andThen]
    exact h v W (by simpa using HO) HB (World.grownBy.refl _ _) (Or.inl rfl)
  | some ad =>
    have hnews : ∀ j u, (ys.flatMap enc)[j]? = some u → W.cell? (ad.add j) = some u := by
      intro j u hj
      have hjl := (List.getElem?_eq_some_iff.1 hj).1
      rw [flat_len E] at hjl
      have hk := E.pos
      have hq : j / k < ys.length := (Nat.div_lt_iff_lt_mul hk).2 hjl
      obtain ⟨b, off, e1, _, _, hc⟩ := c4 (Nat.lt_of_le_of_lt (Nat.zero_le _) hq)
      injection e1 with e1
      subst e1
      have hdm := Nat.div_add_mod j k
      have hm := Nat.mod_lt j hk
      have hf := flat_at E (xs := ys) (j := j / k) (x := ys[j / k]) (List.getElem?_eq_getElem hq) (j % k) hm
      rw [Nat.mul_comm] at hdm
      rw [hdm, hj] at hf
      have := hc (j / k) ys[j / k] (List.getElem?_eq_getElem hq) (j % k) u hf.symm
      have hadd : (⟨b, off, none⟩ : Addr).add j = ⟨b, off + j, none⟩ := by unfold Addr.add; split <;> simp_all
      rw [hadd, ← this]
      congr 2
      omega
    obtain ⟨v1, w1, hr, h2, h3, h4, h5⟩ := run_append_own_at (P := P) W B t o.type e i0 z k bytes ht hi hz0 hz1 hz2 hz E.pos v xs.length (xs.flatMap enc) HO ad ys.length c (ys.flatMap enc) (by rw [flat_len E])
      hnews (flat_one E ys) (by simp only [maxLen]; omega) hl hbase
    unfold Oper.wp execOp
    simp only [ho, resolve, invoke, builtin, Sem.run_bind, Sem.run_pure, Result.andThen_ok, List.map_toArray, List.map_cons, List.map_nil, hs, hx, hr]
    refine h v1 w1 ?_ (HO.below HB h3 hbase) h3 (h5.imp id fun e => ⟨_, e, Nat.le_refl _⟩)
    unfold OwnN
    rw [List.length_append, List.flatMap_append]
    exact h2
theorem wpList_appN {α : Type} {k : Nat} {enc : α → List Value} (E : EncN k enc) {w0 W : World} (B : Nat) (hgd : o.guard = none) (s x : Operand) (t e : TypeId) (z : Value) (bytes : Nat)
    (ho : o.op = .call { callee := .builtin .append, args := #[s, x], argTypes := #[t, t] }) (ht : P.underlying t = some (.slice e)) (hinfo : (P.info? e).map (fun i => (i.zero, i.size, i.bytes)) = some (some z, k, bytes)) (hz : z.cells.size = k) (hb0 : 0 < bytes)
    {v : Value} {xs ys : List α} {B' e' : Nat} {y : Value} (HO : OwnN B e k enc W v xs) (hy : SlN B' e' k enc W y ys) (hs : a.eval s = v) (hx : a.eval x = y) (HB : Below B w0 W) (hbase : B ≤ W.heap.size) (hl : (xs.length + ys.length) * bytes ≤ 140737488355328)
    (h : ∀ v1 w1, OwnN B e k enc w1 v1 (xs ++ ys) → Below B w0 w1 → W.grownBy w1 v.ownBlock → (v1.ownBlock = v.ownBlock ∨ ∃ g, v1.ownBlock = some g ∧ W.heap.size ≤ g) → wpList P ops Q rest (a.put o.dst v1) w1) :
    wpList P ops Q (o :: rest) a W :=
  wpList_plain hgd fun K hK => wp_appN E B s x t e z bytes ho ht hinfo hz hb0 HO hy hs hx HB hbase hl fun v1 w1 h2 h3 h4 h5 => hK _ _ (h v1 w1 h2 h3 h4 h5)
end
end Go.Proofs.Ytgnahjadjgjecaa
