/- Slices whose elements are one cell each, read and built as lists. -/
import Derived.WalkKit
import Derived.Lib.Hide
import Derived.Maps.AppendAt
import Derived.MapFrom
import Derived.Deep.Draws
set_option linter.unusedVariables false
set_option linter.unusedSimpArgs false
namespace Go.Proofs.Ytgnahjadjgjecaa
open Go.RowKit

/-- What a value stands for. -/
abbrev Rep (α : Type) := World → Value → α → Prop
/-- What turned is new, or lies from B on and is no row of a type of T. -/
structure Quiet (B : Nat) (T : List TypeId) (w w' : World) : Prop where mk_ ::
  out : ∃ row, w.grownBy w' row ∧ ∀ g, row = some g → B ≤ g ∧ ∀ cur e fz, w.heap[g]? = some (.cells cur e fz) → e ∉ T
def Stable {α : Type} (B : Nat) (T : List TypeId) (R : Rep α) : Prop := ∀ w w' v x, Quiet B T w w' → R w v x → R w' v x

theorem grown_below {w w1 : World} (h : Below w.heap.size w w1) (row : Option Nat) : w.grownBy w1 row := ⟨h.os, h.tape, h.output, h.size, fun i hi _ => h.block i hi⟩
theorem Quiet.below {B : Nat} {T : List TypeId} {w w' : World} (h : Below w.heap.size w w') : Quiet B T w w' := ⟨⟨none, grown_below h none, fun g hg => by cases hg⟩⟩
theorem Quiet.grown {B : Nat} {T : List TypeId} {w w' : World} {g : Nat} {o : Obj} (h : w.grownBy w' (some g)) (hB : B ≤ g) (hg : w.heap[g]? = some o) (ho : ∀ cur e fz, o = .cells cur e fz → e ∉ T) : Quiet B T w w' :=
  ⟨⟨some g, h, fun k hk => by cases hk; exact ⟨hB, fun cur e fz hc => ho cur e fz (by rw [hg] at hc; injection hc)⟩⟩⟩
theorem Quiet.mono {B B' : Nat} {T T' : List TypeId} {w w' : World} (h : Quiet B T w w') (hB : B' ≤ B) (hT : ∀ e, e ∈ T' → e ∈ T) : Quiet B' T' w w' := by
  obtain ⟨row, hg, hr⟩ := h.out
  exact ⟨⟨row, hg, fun g e => ⟨Nat.le_trans hB (hr g e).1, fun cur e2 fz hc hm => (hr g e).2 cur e2 fz hc (hT _ hm)⟩⟩⟩

theorem Stable.mono {α : Type} {B B' : Nat} {T T' : List TypeId} {R : Rep α} (h : Stable B T R) (hB : B ≤ B') (hT : ∀ e, e ∈ T → e ∈ T' := by decide) : Stable B' T' R := fun w w' v x hq hx => h w w' v x (hq.mono hB hT) hx
def I64 : Rep Int := fun _ v x => v = .int .i64 x ∧ -9223372036854775808 ≤ x ∧ x ≤ 9223372036854775807
def Bit : Rep Bool := fun _ v x => v = .bool x
theorem stable_i64 (B : Nat) (T : List TypeId) : Stable B T I64 := fun _ _ _ _ _ h => h
theorem stable_bit (B : Nat) (T : List TypeId) : Stable B T Bit := fun _ _ _ _ _ h => h

/-- A slice that is read; where it lies from B on it is a row of type e. -/
def Sl {α : Type} (B : Nat) (e : TypeId) (R : Rep α) : Rep (List α) := fun w v xs =>
  ∃ A c, v = .slice A xs.length c ∧ xs.length ≤ c ∧ c ≤ maxLen ∧ (A = none → c = 0) ∧
    (0 < xs.length → ∃ b off, A = some ⟨b, off, none⟩ ∧ b < w.heap.size ∧ (b < B ∨ ∃ cur fz, w.heap[b]? = some (.cells cur e fz)) ∧
      ∀ (k : Nat) (x : α), xs[k]? = some x → ∃ u, w.cell? ⟨b, off + k, none⟩ = some u ∧ R w u x)

theorem Sl.stable {α : Type} {B : Nat} {e : TypeId} {T : List TypeId} {R : Rep α} (hR : Stable B T R) (he : e ∈ T) : Stable B T (Sl B e R) := by
  rintro w w' v xs hq ⟨A, c, rfl, h1, h2, h3, h4⟩
  refine ⟨A, c, rfl, h1, h2, h3, fun hn => ?_⟩
  obtain ⟨b, off, rfl, hb, ht, hc⟩ := h4 hn
  obtain ⟨row, hg, hr⟩ := hq.out
  have hne : some b ≠ row := fun e1 => by
    obtain ⟨hB, hx⟩ := hr b e1.symm
    rcases ht with ht | ⟨cur, fz, ht⟩
    · omega
    · exact hx cur e fz ht he
  have hbl := hg.block b hb hne
  refine ⟨b, off, rfl, Nat.lt_of_lt_of_le hb hg.size, ?_, fun k x hk => ?_⟩
  · rcases ht with ht | ⟨cur, fz, ht⟩
    · exact Or.inl ht
    · exact Or.inr ⟨cur, fz, hbl.trans ht⟩
  · obtain ⟨u, hu, hx⟩ := hc k x hk
    exact ⟨u, (World.cell?_of_block (a := ⟨b, off + k, none⟩) hbl).trans hu, hR _ _ _ _ hq hx⟩
theorem Sl.reB {α : Type} {B : Nat} {e : TypeId} {R R' : Rep α} {w : World} {v : Value} {xs : List α} (h : Sl B e R w v xs) (hR : ∀ u x, x ∈ xs → R w u x → R' w u x) (B' : Nat) (hB : w.heap.size ≤ B') : Sl B' e R' w v xs := by
  obtain ⟨A, c, rfl, h1, h2, h3, h4⟩ := h
  refine ⟨A, c, rfl, h1, h2, h3, fun hn => ?_⟩
  obtain ⟨b, off, rfl, hb, ht, hc⟩ := h4 hn
  exact ⟨b, off, rfl, hb, Or.inl (by omega), fun k x hk => by obtain ⟨u, hu, hx⟩ := hc k x hk; exact ⟨u, hu, hR u x (List.mem_of_getElem? hk) hx⟩⟩
/-- The element k. -/
theorem Sl.at_ {α : Type} {B : Nat} {e : TypeId} {R : Rep α} {w : World} {A : Option Addr} {n c : Nat} {xs : List α} (h : Sl B e R w (.slice A n c) xs) {k : Nat} (hk : k < xs.length) (d : α) :
    ∃ b off u, A = some ⟨b, off, none⟩ ∧ w.cell? ⟨b, off + k, none⟩ = some u ∧ R w u (xs.getD k d) := by
  obtain ⟨A', c', e1, h1, h2, h3, h4⟩ := h
  injection e1 with e1 _ _
  subst e1
  obtain ⟨b, off, e2, hb, _, hc⟩ := h4 (by omega)
  obtain ⟨u, hu, hx⟩ := hc k (xs.getD k d) (by simp [List.getD, List.getElem?_eq_getElem hk])
  exact ⟨b, off, u, e2, hu, hx⟩
theorem Sl.open_ {α : Type} {B : Nat} {e : TypeId} {R : Rep α} {w : World} {v : Value} {xs : List α} (h : Sl B e R w v xs) : ∃ A c, v = .slice A xs.length c ∧ xs.length ≤ c ∧ c ≤ maxLen ∧ (A = none → c = 0) := by
  obtain ⟨A, c, rfl, h1, h2, h3, h4⟩ := h
  exact ⟨A, c, rfl, h1, h2, h3⟩
/-- xs[:n]. -/
theorem Sl.take {α : Type} {B : Nat} {e : TypeId} {R : Rep α} {w : World} {A : Option Addr} {m c : Nat} {xs : List α} (h : Sl B e R w (.slice A m c) xs) {n : Nat} (hn : n ≤ xs.length) : Sl B e R w (.slice A n c) (xs.take n) := by
  obtain ⟨A', c', e1, h1, h2, h3, h4⟩ := h
  injection e1 with e1 _ e3
  subst e1 e3
  have hl : (xs.take n).length = n := by simp; omega
  refine ⟨A, c, by rw [hl], by omega, h2, h3, fun h0 => ?_⟩
  obtain ⟨b, off, e2, hb, ht, hc⟩ := h4 (by omega)
  refine ⟨b, off, e2, hb, ht, fun k x hk => hc k x ?_⟩
  rw [List.getElem?_take] at hk
  split at hk
  · exact hk
  · cases hk

/-- A literal. -/
def All2 {α : Type} (R : Rep α) (w : World) : List Value → List α → Prop
  | [], [] => True
  | u :: us, x :: xs => R w u x ∧ All2 R w us xs
  | _, _ => False
theorem All2.at_ {α : Type} {R : Rep α} {w : World} : ∀ {us : List Value} {xs : List α}, All2 R w us xs → us.length = xs.length ∧ ∀ (k : Nat) (x : α), xs[k]? = some x → ∃ u, us[k]? = some u ∧ R w u x
  | [], [], _ => ⟨rfl, fun k x h => by simp at h⟩
  | u :: us, x :: xs, ⟨h1, h2⟩ => by
    obtain ⟨h3, h4⟩ := h2.at_
    refine ⟨by simp [h3], fun k y hk => ?_⟩
    cases k with
    | zero => simp only [List.getElem?_cons_zero, Option.some.injEq] at hk; subst hk; exact ⟨u, rfl, h1⟩
    | succ k => simp only [List.getElem?_cons_succ] at hk ⊢; exact h4 k y hk
theorem Sl.lit {α : Type} {B : Nat} {e : TypeId} {R : Rep α} {w : World} {b n : Nat} {us : List Value} {xs : List α} {fz : Nat × Nat} (h : w.heap[b]? = some (.cells us.toArray e fz)) (hn : xs.length = n) (hm : n ≤ maxLen) (hall : All2 R w us xs) : Sl B e R w (.slice (some ⟨b, 0, none⟩) n n) xs := by
  subst hn
  obtain ⟨h1, h2⟩ := hall.at_
  refine ⟨_, _, rfl, Nat.le_refl _, hm, (fun h => by cases h), fun _ => ⟨b, 0, rfl, (Array.getElem?_eq_some_iff.1 h).1, Or.inr ⟨_, _, h⟩, fun k x hk => ?_⟩⟩
  obtain ⟨u, hu, hx⟩ := h2 k x hk
  exact ⟨u, by rw [Nat.zero_add]; simp [World.cell?, h, hu], hx⟩
theorem Sl.nil_ {α : Type} {B : Nat} {e : TypeId} {R : Rep α} {w : World} : Sl B e R w (.slice none 0 0) [] := ⟨none, 0, rfl, Nat.le_refl _, Nat.zero_le _, fun _ => rfl, fun h => absurd h (by simp)⟩

/-- A slice of the call's own, from block B on. -/
def Own {α : Type} (B : Nat) (e : TypeId) (R : Rep α) : Rep (List α) := fun w v xs =>
  ∃ vs : List Value, vs.length = xs.length ∧ w.ownsRow B e 1 v xs.length vs ∧ ∀ (k : Nat) (x : α), xs[k]? = some x → ∃ u, vs[k]? = some u ∧ R w u x

theorem Own.nil {α : Type} (B : Nat) (e : TypeId) (R : Rep α) (w : World) : Own B e R w (.slice none 0 0) [] := ⟨[], rfl, World.ownsRow_nil w B e 1, by simp⟩
theorem Own.empty {α : Type} (B : Nat) (e : TypeId) (R : Rep α) (w : World) (hB : B ≤ w.heap.size) : Own B e R (w.alloc (.cells #[] e)) (.slice (some ⟨w.heap.size, 0, none⟩) 0 0) [] :=
  ⟨[], rfl, by simpa using World.ownsRow_lit (base := B) (e := e) (size := 1) w #[] 0 hB (Nat.zero_le _) (by simp), by simp⟩
theorem Own.empty' {α : Type} {B : Nat} {e : TypeId} {R : Rep α} {w : World} {g : Nat} (hB : B ≤ g) (hg : w.heap.size = g) : Own B e R (w.alloc (.cells #[] e)) (.slice (some ⟨g, 0, none⟩) 0 0) [] := by
  subst hg; exact Own.empty B e R w hB
theorem Own.typed {α : Type} {B : Nat} {e : TypeId} {R : Rep α} {w : World} {v : Value} {xs : List α} (h : Own B e R w v xs) {g : Nat} (hg : v.ownBlock = some g) : B ≤ g ∧ ∃ cur, w.heap[g]? = some (.cells cur e (0, 0)) := by
  obtain ⟨vs, _, h2, _⟩ := h
  rcases h2.2 with ⟨rfl, _⟩ | ⟨g', cap, cur, rfl, hb, hh, _⟩
  · simp [Value.ownBlock] at hg
  · simp only [Value.ownBlock, Option.some.injEq] at hg
    subst hg
    exact ⟨hb, cur, hh⟩
theorem Own.toSl {α : Type} {B : Nat} {e : TypeId} {R : Rep α} {w : World} {v : Value} {xs : List α} (h : Own B e R w v xs) (B' : Nat) : Sl B' e R w v xs := by
  obtain ⟨vs, h1, h2, h3⟩ := h
  rcases h2.2 with ⟨rfl, hn⟩ | ⟨g, cap, cur, rfl, hb, hh, hc1, hc2, hc3, htake⟩
  · have : xs = [] := List.eq_nil_of_length_eq_zero hn
    subst this
    exact ⟨none, 0, rfl, Nat.le_refl _, Nat.zero_le _, fun _ => rfl, fun h => absurd h (by simp)⟩
  · refine ⟨_, cap, rfl, hc1, hc2, (fun h => by cases h), fun hn => ⟨g, 0, rfl, (Array.getElem?_eq_some_iff.1 hh).1, Or.inr ⟨cur, _, hh⟩, fun k x hk => ?_⟩⟩
    obtain ⟨u, hu, hx⟩ := h3 k x hk
    refine ⟨u, ?_, hx⟩
    have hlt : k < xs.length := (List.getElem?_eq_some_iff.1 hk).1
    have := h2.cellAt (j := k) (by omega)
    rw [Nat.zero_add, this]
    exact hu
theorem Own.move {α : Type} {B : Nat} {e : TypeId} {T : List TypeId} {R : Rep α} (hR : Stable B T R) {w w' : World} {v : Value} {xs : List α} (h : Own B e R w v xs) (hq : Quiet B T w w') (he : e ∈ T) : Own B e R w' v xs := by
  have ht := fun g => h.typed (g := g)
  obtain ⟨vs, h1, h2, h3⟩ := h
  obtain ⟨row, hg, hr⟩ := hq.out
  refine ⟨vs, h1, h2.kept hg ?_, fun k x hk => by obtain ⟨u, hu, hx⟩ := h3 k x hk; exact ⟨u, hu, hR _ _ _ _ hq hx⟩⟩
  cases hv : v.ownBlock with
  | none => exact Or.inl rfl
  | some g =>
    refine Or.inr fun e1 => ?_
    obtain ⟨_, cur, hc⟩ := ht g hv
    exact (hr g e1.symm).2 cur e _ hc he
theorem Own.lower {α : Type} {B B' : Nat} {e : TypeId} {R : Rep α} {w : World} {v : Value} {xs : List α} (h : Own B e R w v xs) (hB : B' ≤ B) : Own B' e R w v xs := by
  obtain ⟨vs, h1, h2, h3⟩ := h
  refine ⟨vs, h1, ⟨h2.1, ?_⟩, h3⟩
  rcases h2.2 with h4 | ⟨g, cap, cur, e1, hb, r⟩
  · exact Or.inl h4
  · exact Or.inr ⟨g, cap, cur, e1, Nat.le_trans hB hb, r⟩
/-- A block of another type stays. -/
theorem Own.other {α : Type} {B : Nat} {e : TypeId} {R : Rep α} {w w' : World} {v : Value} {xs : List α} (h : Own B e R w v xs) (hg : w.grownBy w' v.ownBlock) {b : Nat} {o : Obj} (hb : w.heap[b]? = some o) (ho : ∀ cur fz, o ≠ .cells cur e fz) : w'.heap[b]? = some o := by
  refine (hg.block b (Array.getElem?_eq_some_iff.1 hb).1 fun e1 => ?_).trans hb
  obtain ⟨_, cur, hc⟩ := h.typed e1.symm
  rw [hb] at hc
  injection hc with hc
  exact ho _ _ hc
theorem cell_of {w : World} {b : Nat} {cs : Array Value} {t : TypeId} {fz : Nat × Nat} (h : w.heap[b]? = some (.cells cs t fz)) (i : Nat) : w.cell? ⟨b, i, none⟩ = cs[i]? := by simp [World.cell?, h]
theorem below_drewN {B : Nat} {w W : World} (h : Below B w W) (n : Nat) : Below B w (W.drewN n) := ⟨h.os, h.tape, h.output, h.size, h.block⟩
theorem below_alloc1 {w W : World} (h : Below w.heap.size w W) (o : Obj) : Below w.heap.size w (W.alloc o) := h.alloc h.size o
theorem below_then {w W w2 : World} (h : Below w.heap.size w W) (k : Below W.heap.size W w2) : Below w.heap.size w w2 := h.trans (k.mono h.size)
theorem frozen_of {w : World} {b : Nat} {cs : Array Value} {t : TypeId} (h : w.heap[b]? = some (.cells cs t (0, 0))) (i : Nat) : w.frozen? ⟨b, i, none⟩ = false := by simp [World.frozen?, h]
theorem blk_set {w : World} {b : Nat} {cs : Array Value} {t : TypeId} {fz : Nat × Nat} (h : w.heap[b]? = some (.cells cs t fz)) (i : Nat) (v : Value) : (w.setCell ⟨b, i, none⟩ v).heap[b]? = some (.cells (cs.setIfInBounds i v) t fz) := by
  simp [World.setCell, Array.getElem?_modify, h]
theorem grown_set (w : World) (b i : Nat) (v : Value) : w.grownBy (w.setCell ⟨b, i, none⟩ v) (some b) :=
  ⟨rfl, rfl, rfl, by simp [World.setCell], fun k _ hk => Below.heap_setCell w ⟨b, i, none⟩ v k (fun e => hk (by rw [e]))⟩
theorem Quiet.set {w : World} {b : Nat} {cs : Array Value} {t : TypeId} {fz : Nat × Nat} (h : w.heap[b]? = some (.cells cs t fz)) {B : Nat} {T : List TypeId} (hB : B ≤ b) (hT : t ∉ T) (i : Nat) (v : Value) : Quiet B T w (w.setCell ⟨b, i, none⟩ v) :=
  Quiet.grown (grown_set w b i v) hB h fun cur e fz e1 => by injection e1 with _ e2 _; subst e2; exact hT
theorem cell_below {w w' : World} (hb : Below w.heap.size w w') {b off : Nat} {v : Value} (h : w.cell? ⟨b, off, none⟩ = some v) : w'.cell? ⟨b, off, none⟩ = some v :=
  (hb.cell (World.block_lt_of_cell? w _ h)).trans h
theorem cell_alloc0 {w : World} {b off : Nat} {v : Value} (h : w.cell? ⟨b, off, none⟩ = some v) (o : Obj) : (w.alloc o).cell? ⟨b, off, none⟩ = some v := cell_below ((Below.refl _ _).alloc (Nat.le_refl _) _) h
theorem blk_below {w w' : World} {b : Nat} {o : Obj} (h : w.heap[b]? = some o) (hb : Below w.heap.size w w') : w'.heap[b]? = some o := (hb.block b (Array.getElem?_eq_some_iff.1 h).1).trans h
theorem blk_alloc {w : World} {b : Nat} {o : Obj} (h : w.heap[b]? = some o) (o' : Obj) : (w.alloc o').heap[b]? = some o := blk_below h ((Below.refl _ _).alloc (Nat.le_refl _) _)
theorem blk_new (w : World) (o : Obj) : (w.alloc o).heap[w.heap.size]? = some o := (MapKept.heap_alloc w o).1
theorem blk_top {w : World} {o : Obj} {g : Nat} (h : w.heap.size = g) : (w.alloc o).heap[g]? = some o := by subst h; exact blk_new w o
/-- What an append to it turns. -/
theorem Own.quiet {α : Type} {B B' : Nat} {e : TypeId} {T : List TypeId} {R : Rep α} {w w' : World} {v : Value} {xs : List α} (h : Own B e R w v xs) (hg : w.grownBy w' v.ownBlock) (hB : B' ≤ B) (he : e ∉ T) : Quiet B' T w w' := by
  refine ⟨⟨v.ownBlock, hg, fun g e1 => ?_⟩⟩
  obtain ⟨hb, cur, hc⟩ := h.typed e1
  exact ⟨Nat.le_trans hB hb, fun cur' e' fz hc' => by rw [hc] at hc'; injection hc' with hc'; injection hc' with _ e2 _; subst e2; exact he⟩
theorem Own.below {α : Type} {B : Nat} {e : TypeId} {R : Rep α} {w0 w w' : World} {v : Value} {xs : List α} (h : Own B e R w v xs) (hb : Below B w0 w) (hg : w.grownBy w' v.ownBlock) (hB : B ≤ w.heap.size) : Below B w0 w' :=
  hb.grown hg hB fun g e1 => (h.typed e1).1

section
variable {P : Program} {ops : Array Oper} {rest : List Oper} {o : Oper} {a : Act} {Q : Exit → Act → World → Prop}
theorem wp_app0 {K : Act → World → Prop} {w : World} (s x : Operand) (t : TypeId) (ho : o.op = .call { callee := .builtin .append, args := #[s, x], argTypes := #[t, t] })
    (base : Nat) (e : TypeId) (i : TypeInfo) (z : Value) (bytes : Nat) (ht : P.underlying t = some (.slice e)) (hi : P.info? e = some i) (hz : i.zero = some z)
    (hsize : i.size = 1) (hby : i.bytes = bytes) (hzs : z.cells.size = 1)
    (v : Value) (n : Nat) (xs : List Value) (hs : a.eval s = v) (hown : w.ownsRow base e 1 v n xs)
    (ad : Addr) (m c : Nat) (news : List Value) (hx : a.eval x = .slice (some ad) m c) (hl : news.length = m) (hnews : ∀ j u, news[j]? = some u → w.cell? (ad.add j) = some u) (h1 : ∀ u ∈ news, u.oneCell' = true)
    (h63 : n + m ≤ maxLen) (hbytes : (n + m) * bytes ≤ 140737488355328) (hbase : base ≤ w.heap.size)
    (h : ∀ v' w', w'.ownsRow base e 1 v' (n + m) (xs ++ news) → w.grownBy w' v.ownBlock → K (a.put o.dst v') w') : o.wp P a w K Q := by
  obtain ⟨v', w', hr, h2, h3, h4, h5⟩ := run_append_own_at (P := P) w base t o.type e i z 1 bytes ht hi hz hsize hby hzs (by omega) v n xs hown ad m c news (by omega) hnews h1 h63 hbytes hbase
  unfold Oper.wp execOp
  simp only [ho, resolve, invoke, builtin, Sem.run_bind, Sem.run_pure, Result.andThen_ok, List.map_toArray, List.map_cons, List.map_nil, hs, hx, hr]
  exact h v' w' h2 h3

/-- append(v, y): the world is 'W.alloc' of the box of y. -/
theorem wp_push {α : Type} {K : Act → World → Prop} {w0 W : World} (B : Nat) (s x : Operand) (t e : TypeId) (z : Value) (bytes : Nat)
    (ho : o.op = .call { callee := .builtin .append, args := #[s, x], argTypes := #[t, t] })
    (ht : P.underlying t = some (.slice e)) (hinfo : (P.info? e).map (fun i => (i.zero, i.size, i.bytes)) = some (some z, 1, bytes)) (hz : z.cells.size = 1) (hb0 : 0 < bytes)
    {R : Rep α} (T : List TypeId) {v : Value} {xs : List α} {y : Value} {y0 : α}
    (HO : Own B e R W v xs) (HR : Stable B T R) (he : e ∉ T) (hy : R W y y0) (hs : a.eval s = v) (hx : a.eval x = .slice (some ⟨W.heap.size, 0, none⟩) 1 1) (h1 : y.oneCell' = true) (HB : Below B w0 W) (hbase : B ≤ W.heap.size) (hl : (xs.length + 1) * bytes ≤ 140737488355328)
    (h : ∀ v1 w1, Own B e R w1 v1 (xs ++ [y0]) → Below B w0 w1 → W.grownBy w1 v.ownBlock → K (a.put o.dst v1) w1) :
    o.wp P a (W.alloc (.cells #[y] e)) K Q := by
  obtain ⟨i0, hi, hzz⟩ := Option.map_eq_some_iff.1 hinfo
  simp only [Prod.mk.injEq] at hzz
  obtain ⟨hz0, hz1, hz2⟩ := hzz
  have HO' := HO
  obtain ⟨vs, hv1, hv2, hv3⟩ := HO'
  have hlen : xs.length + 1 ≤ 140737488355328 := Nat.le_trans (Nat.le_mul_of_pos_right _ hb0) hl
  refine wp_app0 (w := W.alloc (.cells #[y] e)) s x t ho B e i0 z bytes ht hi hz0 hz1 hz2 hz v xs.length vs hs (hv2.alloc _) ⟨W.heap.size, 0, none⟩ 1 1 [y] hx rfl
    (cell_one_new W y e) (by simpa using h1) (by simp only [maxLen]; omega) hl (by simp; omega) ?_
  intro v1 w1 hown hg
  have hg2 : W.grownBy w1 v.ownBlock := World.grownBy.trans (World.grownBy_alloc W _ _) hg
  have hq : Quiet B T W w1 := HO.quiet hg2 (Nat.le_refl _) he
  refine h v1 w1 ⟨vs ++ [y], by simp [hv1], by simpa using hown, ?_⟩ (HO.below HB hg2 hbase) hg2
  intro k u hk
  rw [List.getElem?_append] at hk
  split at hk
  · rename_i hlt
    obtain ⟨u', hu, hxu⟩ := hv3 k u hk
    exact ⟨u', by rw [List.getElem?_append, if_pos (by omega)]; exact hu, HR _ _ _ _ hq hxu⟩
  · rename_i hlt
    have hk0 : k - xs.length = 0 := by
      rcases Nat.eq_zero_or_pos (k - xs.length) with h0 | h0
      · exact h0
      · rw [List.getElem?_eq_none (by simp; omega)] at hk; cases hk
    rw [hk0] at hk
    simp only [List.getElem?_cons_zero, Option.some.injEq] at hk
    subst hk
    exact ⟨y, by rw [List.getElem?_append, if_neg (by omega), show k - vs.length = 0 by omega]; rfl, HR _ _ _ _ hq hy⟩

/-- append(v, y...). -/
theorem wp_app {α : Type} {K : Act → World → Prop} {w0 W : World} (B : Nat) (s x : Operand) (t e : TypeId) (z : Value) (bytes : Nat)
    (ho : o.op = .call { callee := .builtin .append, args := #[s, x], argTypes := #[t, t] })
    (ht : P.underlying t = some (.slice e)) (hinfo : (P.info? e).map (fun i => (i.zero, i.size, i.bytes)) = some (some z, 1, bytes)) (hz : z.cells.size = 1) (hb0 : 0 < bytes)
    {R : Rep α} (T : List TypeId) {v : Value} {xs : List α} {e' B' : Nat} {y : Value} {ys : List α}
    (HO : Own B e R W v xs) (HR : Stable B T R) (he : e ∉ T) (hy : Sl B' e' R W y ys) (hs : a.eval s = v) (hx : a.eval x = y) (h1 : ∀ u x, R W u x → u.oneCell' = true) (HB : Below B w0 W) (hbase : B ≤ W.heap.size) (hl : (xs.length + ys.length) * bytes ≤ 140737488355328)
    (h : ∀ v1 w1, Own B e R w1 v1 (xs ++ ys) → Below B w0 w1 → W.grownBy w1 v.ownBlock → K (a.put o.dst v1) w1) :
    o.wp P a W K Q := by
  obtain ⟨i0, hi, hzz⟩ := Option.map_eq_some_iff.1 hinfo
  simp only [Prod.mk.injEq] at hzz
  obtain ⟨hz0, hz1, hz2⟩ := hzz
  have HO' := HO
  obtain ⟨vs, hv1, hv2, hv3⟩ := HO'
  obtain ⟨A, c, rfl, c1, c2, c3, c4⟩ := hy
  have hlen : xs.length + ys.length ≤ 140737488355328 := Nat.le_trans (Nat.le_mul_of_pos_right _ hb0) hl
  cases A with
  | none =>
    have hc0 := c3 rfl
    subst hc0
    have hys : ys = [] := List.eq_nil_of_length_eq_zero (by omega)
    subst hys
    have hrun := run_append_owned_none (P := P) W B t o.type e i0 1 ht hi v xs.length vs hv2
    unfold Oper.wp
    simp [execOp, ho, resolve, invoke, builtin, hs, hx, hrun, Result.andThen]
    exact h v W (by simpa using HO) HB (World.grownBy.refl _ _)
  | some ad =>
    obtain ⟨us, hul, huc⟩ : ∃ us : List Value, us.length = ys.length ∧ ∀ k u, us[k]? = some u → W.cell? (ad.add k) = some u ∧ ∃ x, ys[k]? = some x ∧ R W u x := by
      rcases Nat.eq_zero_or_pos ys.length with h0 | h0
      · exact ⟨[], by simp [h0], by simp⟩
      · obtain ⟨b, off, e1, _, _, hc⟩ := c4 h0
        injection e1 with e1
        subst e1
        refine ⟨(List.range ys.length).map fun k => (W.cell? ⟨b, off + k, none⟩).getD undef, by simp, fun k u hk => ?_⟩
        have hlt : k < ys.length := by have := (List.getElem?_eq_some_iff.1 hk).1; simpa using this
        obtain ⟨u', hu', hx'⟩ := hc k ys[k] (List.getElem?_eq_getElem hlt)
        simp only [List.getElem?_map, List.getElem?_range hlt, Option.map_some, hu', Option.getD_some, Option.some.injEq] at hk
        subst hk
        refine ⟨?_, ys[k], List.getElem?_eq_getElem hlt, hx'⟩
        have : (⟨b, off, none⟩ : Addr).add k = ⟨b, off + k, none⟩ := by unfold Addr.add; split <;> simp_all
        rw [this]; exact hu'
    refine wp_app0 (w := W) s x t ho B e i0 z bytes ht hi hz0 hz1 hz2 hz v xs.length vs hs hv2 ad ys.length c us (by rw [hx]) (by omega)
      (fun j u hj => (huc j u hj).1) (fun u hu => by obtain ⟨k, hk⟩ := List.mem_iff_getElem?.1 hu; obtain ⟨_, x, _, hx⟩ := huc k u hk; exact h1 u x hx) (by simp only [maxLen]; omega) hl hbase ?_
    intro v1 w1 hown hg
    have hq : Quiet B T W w1 := HO.quiet hg (Nat.le_refl _) he
    refine h v1 w1 ⟨vs ++ us, by simp [hv1, hul], by simpa using hown, ?_⟩ (HO.below HB hg hbase) hg
    intro k u hk
    rw [List.getElem?_append] at hk
    split at hk
    · rename_i hlt
      obtain ⟨u', hu, hxu⟩ := hv3 k u hk
      exact ⟨u', by rw [List.getElem?_append, if_pos (by omega)]; exact hu, HR _ _ _ _ hq hxu⟩
    · rename_i hlt
      have hkl : k - xs.length < us.length := by have := (List.getElem?_eq_some_iff.1 hk).1; omega
      obtain ⟨_, x', hx', hr'⟩ := huc (k - xs.length) us[k - xs.length] (List.getElem?_eq_getElem hkl)
      rw [hk] at hx'
      injection hx' with hx'
      subst hx'
      exact ⟨us[k - xs.length], by rw [List.getElem?_append, if_neg (by omega), show k - vs.length = k - xs.length by omega]; exact List.getElem?_eq_getElem hkl, HR _ _ _ _ hq hr'⟩

/-- The same at the walk's operation, and in a region that draws its order. -/
theorem wpList_push {α : Type} {w0 W : World} (B : Nat) (hgd : o.guard = none) (s x : Operand) (t e : TypeId) (z : Value) (bytes : Nat)
    (ho : o.op = .call { callee := .builtin .append, args := #[s, x], argTypes := #[t, t] })
    (ht : P.underlying t = some (.slice e)) (hinfo : (P.info? e).map (fun i => (i.zero, i.size, i.bytes)) = some (some z, 1, bytes)) (hz : z.cells.size = 1) (hb0 : 0 < bytes)
    {R : Rep α} (T : List TypeId) {v : Value} {xs : List α} {y : Value} {y0 : α}
    (HO : Own B e R W v xs) (HR : Stable B T R) (he : e ∉ T) (hy : R W y y0) (hs : a.eval s = v) (hx : a.eval x = .slice (some ⟨W.heap.size, 0, none⟩) 1 1) (h1 : y.oneCell' = true) (HB : Below B w0 W) (hbase : B ≤ W.heap.size) (hl : (xs.length + 1) * bytes ≤ 140737488355328)
    (h : ∀ v1 w1, Own B e R w1 v1 (xs ++ [y0]) → Below B w0 w1 → W.grownBy w1 v.ownBlock → wpList P ops Q rest (a.put o.dst v1) w1) :
    wpList P ops Q (o :: rest) a (W.alloc (.cells #[y] e)) :=
  wpList_plain hgd fun K hK => wp_push B s x t e z bytes ho ht hinfo hz hb0 T HO HR he hy hs hx h1 HB hbase hl fun v1 w1 h2 h3 h4 => hK _ _ (h v1 w1 h2 h3 h4)
theorem wpList_app {α : Type} {w0 W : World} (B : Nat) (hgd : o.guard = none) (s x : Operand) (t e : TypeId) (z : Value) (bytes : Nat)
    (ho : o.op = .call { callee := .builtin .append, args := #[s, x], argTypes := #[t, t] })
    (ht : P.underlying t = some (.slice e)) (hinfo : (P.info? e).map (fun i => (i.zero, i.size, i.bytes)) = some (some z, 1, bytes)) (hz : z.cells.size = 1) (hb0 : 0 < bytes)
    {R : Rep α} (T : List TypeId) {v : Value} {xs : List α} {e' B' : Nat} {y : Value} {ys : List α}
    (HO : Own B e R W v xs) (HR : Stable B T R) (he : e ∉ T) (hy : Sl B' e' R W y ys) (hs : a.eval s = v) (hx : a.eval x = y) (h1 : ∀ u x, R W u x → u.oneCell' = true) (HB : Below B w0 W) (hbase : B ≤ W.heap.size) (hl : (xs.length + ys.length) * bytes ≤ 140737488355328)
    (h : ∀ v1 w1, Own B e R w1 v1 (xs ++ ys) → Below B w0 w1 → W.grownBy w1 v.ownBlock → wpList P ops Q rest (a.put o.dst v1) w1) :
    wpList P ops Q (o :: rest) a W :=
  wpList_plain hgd fun K hK => wp_app B s x t e z bytes ho ht hinfo hz hb0 T HO HR he hy hs hx h1 HB hbase hl fun v1 w1 h2 h3 h4 => hK _ _ (h v1 w1 h2 h3 h4)
theorem step_push {α : Type} {K : Act → World → Prop} {E : Prop} {w0 W : World} (B : Nat) (hgd : o.guard = none) (s x : Operand) (t e : TypeId) (z : Value) (bytes : Nat)
    (ho : o.op = .call { callee := .builtin .append, args := #[s, x], argTypes := #[t, t] })
    (ht : P.underlying t = some (.slice e)) (hinfo : (P.info? e).map (fun i => (i.zero, i.size, i.bytes)) = some (some z, 1, bytes)) (hz : z.cells.size = 1) (hb0 : 0 < bytes)
    {R : Rep α} (T : List TypeId) {v : Value} {xs : List α} {y : Value} {y0 : α}
    (HO : Own B e R W v xs) (HR : Stable B T R) (he : e ∉ T) (hy : R W y y0) (hs : a.eval s = v) (hx : a.eval x = .slice (some ⟨W.heap.size, 0, none⟩) 1 1) (h1 : y.oneCell' = true) (HB : Below B w0 W) (hbase : B ≤ W.heap.size) (hl : (xs.length + 1) * bytes ≤ 140737488355328)
    (h : ∀ v1 w1, Own B e R w1 v1 (xs ++ [y0]) → Below B w0 w1 → W.grownBy w1 v.ownBlock → K (a.put o.dst v1) w1) :
    if Region.wanted o (yielded ops a.tmps) = true then o.wp P a (W.alloc (.cells #[y] e)) K Q else E := by
  rw [if_pos (by simp [Region.wanted, hgd])]
  exact wp_push B s x t e z bytes ho ht hinfo hz hb0 T HO HR he hy hs hx h1 HB hbase hl h
theorem step_app {α : Type} {K : Act → World → Prop} {E : Prop} {w0 W : World} (B : Nat) (hgd : o.guard = none) (s x : Operand) (t e : TypeId) (z : Value) (bytes : Nat)
    (ho : o.op = .call { callee := .builtin .append, args := #[s, x], argTypes := #[t, t] })
    (ht : P.underlying t = some (.slice e)) (hinfo : (P.info? e).map (fun i => (i.zero, i.size, i.bytes)) = some (some z, 1, bytes)) (hz : z.cells.size = 1) (hb0 : 0 < bytes)
    {R : Rep α} (T : List TypeId) {v : Value} {xs : List α} {e' B' : Nat} {y : Value} {ys : List α}
    (HO : Own B e R W v xs) (HR : Stable B T R) (he : e ∉ T) (hy : Sl B' e' R W y ys) (hs : a.eval s = v) (hx : a.eval x = y) (h1 : ∀ u x, R W u x → u.oneCell' = true) (HB : Below B w0 W) (hbase : B ≤ W.heap.size) (hl : (xs.length + ys.length) * bytes ≤ 140737488355328)
    (h : ∀ v1 w1, Own B e R w1 v1 (xs ++ ys) → Below B w0 w1 → W.grownBy w1 v.ownBlock → K (a.put o.dst v1) w1) :
    if Region.wanted o (yielded ops a.tmps) = true then o.wp P a W K Q else E := by
  rw [if_pos (by simp [Region.wanted, hgd])]
  exact wp_app B s x t e z bytes ho ht hinfo hz hb0 T HO HR he hy hs hx h1 HB hbase hl h
end

theorem drop_cons {α : Type} {xs : List α} {k : Nat} (h : k < xs.length) (d : α) : xs.drop k = xs.getD k d :: xs.drop (k + 1) := by
  rw [List.drop_eq_getElem_cons h]; simp [List.getD, h]
theorem take_snoc {α : Type} {xs : List α} {k : Nat} (h : k < xs.length) (d : α) : xs.take (k + 1) = xs.take k ++ [xs.getD k d] := by
  rw [List.take_succ_eq_append_getElem h]; simp [List.getD, h]
theorem getD_mem {α : Type} {xs : List α} {k : Nat} (h : k < xs.length) (d : α) : xs.getD k d ∈ xs := by simp [List.getD, h]
theorem ret_val {a b : Value} (h : a = b) : Ending.returned a = .returned b := by rw [h]
end Go.Proofs.Ytgnahjadjgjecaa
