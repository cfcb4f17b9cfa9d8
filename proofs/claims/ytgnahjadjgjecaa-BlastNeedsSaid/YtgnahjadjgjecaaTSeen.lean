/- A set of numbers that a call has made (map[int]bool), its numbers sorted. -/
import Derived.Test.YtgnahjadjgjecaaTMap
import Derived.Test.YtgnahjadjgjecaaTVal
import Derived.Maps.OwnSet
import Derived.Lib.SlKeysI
set_option linter.unusedVariables false
set_option linter.unusedSimpArgs false
namespace Go.Proofs.Ytgnahjadjgjecaa
open Go.RowKit Go.Maps Go.MapKept

/-- Registers, as an array. -/
def regsV (x : Nat → Nat) : Array Value := ((List.range 32).map fun r => Value.int .u32 (x r : Int)).toArray
theorem regsV_size (x : Nat → Nat) : (regsV x).size = 32 := by simp [regsV]
theorem regsV_get (x : Nat → Nat) {r : Nat} (h : r < 32) : (regsV x)[r]? = some (.int .u32 (x r : Int)) := by simp [regsV, h]
theorem regs_cell {w : World} {b : Nat} {t : TypeId} {x : Nat → Nat} (h : w.heap[b]? = some (.cells (regsV x) t (0, 0))) {r : Nat} (hr : r < 32) : w.cell? ⟨b, r, none⟩ = some (.int .u32 (x r : Int)) := by
  simp [World.cell?, h, regsV_get x hr]
theorem plainElem_bool_inv {H : Type} {P : Program} {e : TypeId} (he : P.underlying e = some .bool) {v : Value} {z : DataW H × List MemPlace} (h : plainElem (H := H) P e v = some z) : ∃ x, v = .bool x ∧ z = (.lit (.bool x), []) := by
  cases v <;> simp [plainElem, he] at h
  rename_i x
  exact ⟨x, rfl, h.symm⟩
noncomputable abbrev PB := plainElem (H := Unit) Try.prog 4
def keyL (x : Nat) : Lit := .int .i64 (x : Int)
theorem keyL_inj {x y : Nat} (h : keyL x = keyL y) : x = y := by
  unfold keyL at h
  injection h with _ h
  omega
theorem keyL_key (x : Nat) : WideAt.IsKeyLit (keyL x) := by unfold keyL WideAt.IsKeyLit; trivial
theorem keyOf_nat (x : Nat) (hx : x < 9223372036854775808) : keyOf Try.prog 3 (.int .i64 (x : Int)) = some (keyL x) := Maps.keyOf_int_mk Try.underlying3 (by simp [Lit.wf, IntKind.min, IntKind.max, IntKind.signed, IntKind.bits]; omega)
/-- Block b is the set S, made by the call. -/
structure Seen (w : World) (b N : Nat) (S : Nat → Bool) : Prop where mk_ ::
  out : ∃ D : DataW Unit, w.ownsMap Try.prog 3 PB b N D ∧ (∀ x : Nat, D.atKey (keyL x) (.lit (.bool false)) = .lit (.bool (S x))) ∧ (∀ x : Nat, has D (keyL x) = S x) ∧ (∀ x : Int, has D (.int .i64 x) = true → 0 ≤ x)
theorem Seen.lt {w : World} {b N : Nat} {S : Nat → Bool} (h : Seen w b N S) : b < w.heap.size := by
  obtain ⟨D, h1, _⟩ := h.out
  exact h1.lt
theorem Seen.grown {w w' : World} {b N : Nat} {S : Nat → Bool} {row : Option Nat} (h : Seen w b N S) (hg : w.grownBy w' row) (hne : some b ≠ row) : Seen w' b N S := by
  obtain ⟨D, h1, h2⟩ := h.out
  exact ⟨D, h1.kept hg hne, h2⟩
theorem Seen.alloc {w : World} {b N : Nat} {S : Nat → Bool} (h : Seen w b N S) (o : Obj) : Seen (w.alloc o) b N S := by
  obtain ⟨D, h1, h2⟩ := h.out
  exact ⟨D, h1.alloc o, h2⟩
theorem Seen.block {w w' : World} {b N : Nat} {S : Nat → Bool} (h : Seen w b N S) (e : w'.heap[b]? = w.heap[b]?) : Seen w' b N S := by
  obtain ⟨D, ⟨es, clock, hb, r⟩, h2⟩ := h.out
  exact ⟨D, ⟨es, clock, e.trans hb, r⟩, h2⟩
theorem Seen.below {w w' : World} {b N B : Nat} {S : Nat → Bool} (h : Seen w b N S) (hb : Below B w w') (hB : b < B) : Seen w' b N S := h.block (hb.block b hB)
theorem Seen.drewN {w : World} {b N : Nat} {S : Nat → Bool} (h : Seen w b N S) (n : Nat) : Seen (w.drewN n) b N S := h.block rfl
theorem Seen.mono {w : World} {b N N' : Nat} {S : Nat → Bool} (h : Seen w b N S) (hn : N ≤ N') : Seen w b N' S := by
  obtain ⟨D, h1, h2⟩ := h.out
  exact ⟨D, h1.mono hn, h2⟩
theorem Seen.ext {w : World} {b N : Nat} {S S' : Nat → Bool} (h : Seen w b N S) (hs : ∀ x, S' x = S x) : Seen w b N S' := by
  obtain ⟨D, h1, h2, h3, h4⟩ := h.out
  exact ⟨D, h1, fun x => by rw [hs]; exact h2 x, fun x => by rw [hs]; exact h3 x, h4⟩
theorem Seen.made (w : World) : Seen (w.alloc (.map #[] 0)) w.heap.size 0 (fun _ => false) :=
  ⟨_, World.ownsMap_made w Try.prog 3 PB, fun x => rfl, fun x => rfl, fun l h => by cases h⟩
theorem Seen.look {w : World} {b N : Nat} {S : Nat → Bool} (h : Seen w b N S) (x : Nat) (hx : x < 9223372036854775808) :
    (Instr.lookup 85 (.map (some b)) (.int .i64 (x : Int)) false).run Try.prog w = .ok (.bool (S x)) w := by
  obtain ⟨D, h1, h2, _⟩ := h.out
  obtain ⟨v, ps, hrun, hv⟩ := h1.lookup (Maps.int_keyed Try.underlying3) Try.underlying85 (Try.zeroValue4 w) (plainElem_bool Try.underlying4 false) (keyOf_nat x hx)
  rw [h2 x] at hv
  obtain ⟨y, rfl, he⟩ := plainElem_bool_inv Try.underlying4 hv
  simp only [Prod.mk.injEq, DataW.lit.injEq, Lit.bool.injEq] at he
  rw [hrun, he.1]
/-- 'm[x] = true'. -/
theorem Seen.store {w : World} {b N : Nat} {S : Nat → Bool} (h : Seen w b N S) (x : Nat) (hx : x < 9223372036854775808) (hN : N < 1000000000000) :
    ∃ w', (Instr.mapUpdate 85 (.map (some b)) (.int .i64 (x : Int)) (.bool true)).run Try.prog w = .ok () w' ∧ Seen w' b (N + 1) (putS S x) ∧ w.grownBy w' (some b) := by
  obtain ⟨D, h1, h2, h3, h4⟩ := h.out
  have hD := h1.isMap
  obtain ⟨w', hrun, ho, hg⟩ := h1.update (Maps.int_keyed Try.underlying3) Try.underlying85 (by unfold maxLen; omega) (keyOf_nat x hx) (plainElem_bool Try.underlying4 true)
  refine ⟨w', hrun, ⟨_, ho, fun y => ?_, fun y => ?_, fun l hl => ?_⟩, hg⟩
  · unfold putS
    by_cases e : y = x
    · subst e
      rw [if_pos rfl, atKey_put_same hD (keyL_key _)]
    · rw [if_neg e, atKey_put_other (fun h => e (keyL_inj h)), h2 y]
  · unfold putS
    by_cases e : y = x
    · subst e
      rw [if_pos rfl, has_put_same hD (keyL_key _)]
    · rw [if_neg e, has_put_other (fun h => e (keyL_inj h)), h3 y]
  · by_cases e : Lit.int .i64 l = keyL x
    · unfold keyL at e
      injection e with _ e
      omega
    · rw [has_put_other e] at hl
      exact h4 l hl
/-- The set's numbers, sorted: each once. -/
theorem Seen.sorted {w : World} {b N : Nat} {S : Nat → Bool} {D : DataW Unit} (hown : w.ownsMap Try.prog 3 PB b N D) (h3 : ∀ x : Nat, has D (keyL x) = S x) (h4 : ∀ x : Int, has D (.int .i64 x) = true → 0 ≤ x) {ss : List Int} (hp : ss.Perm (intKeys D)) :
    ∃ l : List Nat, ss.mergeSort (fun x y => decide (x ≤ y)) = l.map (fun (x : Nat) => (x : Int)) ∧ l.Pairwise (· < ·) ∧ ∀ x, x ∈ l ↔ S x = true := by
  obtain ⟨es, hD, hpw, _⟩ := hown.entries (Maps.int_keyed Try.underlying3)
  obtain ⟨es', hD', hko⟩ := hown.keysOf
  obtain rfl : es = es' := by rw [hD] at hD'; simpa using hD'
  have hk : ∀ p ∈ es, ∃ x : Int, p.1 = .int .i64 x := fun p hp => by obtain ⟨v, hv⟩ := hko p hp; obtain ⟨x, _, hx, _⟩ := Maps.keyOf_i64 Try.underlying3 hv; exact ⟨x, hx⟩
  have hmem : ∀ x : Int, x ∈ intKeys D ↔ has D (.int .i64 x) = true := fun x => by
    subst hD
    show x ∈ es.map (fun p => Go.intOf p.1) ↔ _
    rw [has_eq, List.any_eq_true, List.mem_map]
    constructor
    · rintro ⟨p, hp', rfl⟩
      obtain ⟨a, ha⟩ := hk p hp'
      exact ⟨p, hp', by rw [ha]; simp [Lit.sameKey, Go.intOf]⟩
    · rintro ⟨p, hp', hs⟩
      obtain ⟨a, ha⟩ := hk p hp'
      rw [ha] at hs
      exact ⟨p, hp', by rw [ha]; simpa [Lit.sameKey, Go.intOf] using hs⟩
  have hnd : (intKeys D).Nodup := by
    subst hD
    show (es.map fun p => Go.intOf p.1).Nodup
    refine List.pairwise_map.2 (hpw.imp_of_mem fun {p q} hp' hq' hne e => hne ?_)
    obtain ⟨a, ha⟩ := hk p hp'
    obtain ⟨b, hb⟩ := hk q hq'
    rw [ha, hb] at e ⊢
    exact congrArg _ e
  have tr : ∀ a b c : Int, leI a b = true → leI b c = true → leI a c = true := fun a b c h1 h2 => by simp only [leI, decide_eq_true_eq] at *; exact Int.le_trans h1 h2
  have to : ∀ a b : Int, (leI a b || leI b a) = true := fun a b => by simp only [leI, Bool.or_eq_true, decide_eq_true_eq]; exact Int.le_total a b
  have hL := (List.mergeSort_perm ss leI).trans hp
  have hsort := List.pairwise_mergeSort tr to ss
  change ∃ l : List Nat, ss.mergeSort leI = _ ∧ _
  generalize ss.mergeSort leI = L at hL hsort ⊢
  have hLm : ∀ x, x ∈ L ↔ has D (.int .i64 x) = true := fun x => by rw [hL.mem_iff, hmem]
  have hLn : L.Nodup := hL.nodup_iff.2 hnd
  have h0 : ∀ x ∈ L, ((x.toNat : Nat) : Int) = x := fun x hx => by have := h4 x ((hLm x).1 hx); omega
  have he : L = (L.map Int.toNat).map (fun (x : Nat) => (x : Int)) := by
    rw [List.map_map]
    conv => lhs; rw [← List.map_id L]
    exact List.map_congr_left fun x hx => (h0 x hx).symm
  refine ⟨L.map Int.toNat, he, ?_, fun x => ?_⟩
  · refine List.pairwise_map.2 ((hsort.and hLn).imp_of_mem fun {a b} ha hb h => ?_)
    have h1 := h0 a ha
    have h2 := h0 b hb
    have h3 : a ≤ b := by simpa [leI] using h.1
    have h4 : a ≠ b := h.2
    omega
  · rw [← h3 x, List.mem_map]
    constructor
    · rintro ⟨a, ha, rfl⟩
      show has D (.int .i64 ((a.toNat : Nat) : Int)) = true
      rw [h0 a ha]
      exact (hLm a).1 ha
    · intro hx
      exact ⟨(x : Int), (hLm _).2 hx, by simp⟩
end Go.Proofs.Ytgnahjadjgjecaa
