/- What the readings of a row's arguments are, as the walks want them. -/
import Derived.Test.YtgnahjadjgjecaaCells
import Derived.Deep.Slices
import Derived.Lib.SmallJoins
import Derived.WideShapes
set_option linter.unusedVariables false
set_option linter.unusedSimpArgs false
namespace Go.Proofs.Ytgnahjadjgjecaa
open Go.RowKit Go.Deep Go.WideShapes

/-- What reads at type t stands for a value by R. -/
def Reads {α : Type} (P : Program) (t : TypeId) (R : World → Rep α) : Prop :=
  ∀ (H : Type) (enc : TypeId × Value → H) (W : World) (base : Nat) (spare : Nat → Bool) (held : Bool) (fuel : Nat) (cs : List Value) (x : DataW H × List MemPlace), DataW.trod enc P W base spare held fuel t cs = some x → ∃ u y, cs = [u] ∧ R W W u y

theorem reads_i64 {P : Program} {t : TypeId} (ht : P.underlying t = some (.int .i64)) : Reads P t (fun _ => I64) := by
  intro H enc W base spare held fuel cs x h
  obtain ⟨n, rfl, _, hw⟩ := DataW.trod_int ht h
  refine ⟨_, n, rfl, rfl, ?_⟩
  have hw' : decide (IntKind.i64.min ≤ n) && decide (n ≤ IntKind.i64.max) := hw
  simp only [Bool.and_eq_true, decide_eq_true_eq] at hw'
  exact ⟨hw'.1, hw'.2⟩
theorem reads_slice {α : Type} [Inhabited α] {P : Program} {t e : TypeId} {R : World → Rep α} (ht : P.underlying t = some (.slice e)) (hc : P.cellsOf e = 1) (hR : Reads P e R) : Reads P t (fun W => Sl W.heap.size e (R W)) := by
  intro H enc W base spare held fuel cs x h
  rcases open_slice1 ht hc h with ⟨rfl, _⟩ | ⟨a, len, cap, m, n, V, D, Pl, rfl, _, hl, hm, hmm, _, hV⟩
  · exact ⟨_, [], rfl, Sl.nil_⟩
  · have hlm : len ≤ m := by rw [hmm]; split <;> omega
    obtain ⟨f, hf⟩ := choose_lt (n := len) (p := fun i y => R W W (V i) y) (fun i hi => by
      obtain ⟨u, y, e1, hy⟩ := hR H enc W base spare held n [V i] _ (hV i (by omega)).2
      simp only [List.cons.injEq, and_true] at e1
      subst e1
      exact ⟨y, hy⟩)
    refine ⟨_, (List.range len).map f, rfl, some a, cap, by simp, by simpa using hl, hm, (fun h => by cases h), fun h0 => ?_⟩
    have h0' : 0 < len := by simpa using h0
    have c0 := (hV 0 (by omega)).1
    obtain ⟨b, off, sp⟩ := a
    have hadd : ∀ i, (⟨b, off, none⟩ : Addr).add i = ⟨b, off + i, none⟩ := fun i => by unfold Addr.add; split <;> simp_all
    have hsp : sp = none := by
      cases sp with
      | none => rfl
      | some s =>
        exfalso
        unfold World.cell? at c0
        have : ((⟨b, off, some s⟩ : Addr).add 0).spot.isSome = true := by unfold Addr.add; split <;> simp_all
        split at c0
        · simp [this] at c0
        · cases c0
    subst hsp
    refine ⟨b, off, rfl, ?_, Or.inl ?_, fun k y hk => ?_⟩
    · have := World.block_lt_of_cell? W _ c0; rw [hadd] at this; exact this
    · have := World.block_lt_of_cell? W _ c0; rw [hadd] at this; exact this
    · have hk' : k < len := by have := (List.getElem?_eq_some_iff.1 hk).1; simpa using this
      simp only [List.getElem?_map, List.getElem?_range hk', Option.map_some, Option.some.injEq] at hk
      subst hk
      have := (hV k (by omega)).1
      rw [hadd] at this
      exact ⟨_, this, hf k hk'⟩
theorem reads_bool {P : Program} {t : TypeId} (ht : P.underlying t = some .bool) : Reads P t (fun _ => Bit) := by
  intro H enc W base spare held fuel cs x h
  cases fuel with
  | zero => simp [DataW.trod] at h
  | succ n =>
    unfold DataW.trod at h
    rw [ht] at h
    split at h <;> simp_all [Bit]
/-- An argument of one cell. -/
theorem Reads.arg {α : Type} {P : Program} {t : TypeId} {R : World → Rep α} (h : Reads P t R) {H : Type} {enc : TypeId × Value → H} {W : World} {base : Nat} {spare : Nat → Bool} {held : Bool} {v : Value} {d : DataW H} {p : List MemPlace}
    (hd : DataW.Trod enc P W base spare held t v d p) (hv : ∀ cs, v ≠ .agg cs) : ∃ y, R W W v y := by
  obtain ⟨fuel, hf⟩ := hd
  obtain ⟨u, y, e, hy⟩ := h _ _ _ _ _ _ _ _ _ hf
  refine ⟨y, ?_⟩
  have : u = v := by
    cases v <;> simp [Value.cells] at e <;> first | exact e.symm | exact absurd rfl (hv _)
  rw [← this]; exact hy
end Go.Proofs.Ytgnahjadjgjecaa
