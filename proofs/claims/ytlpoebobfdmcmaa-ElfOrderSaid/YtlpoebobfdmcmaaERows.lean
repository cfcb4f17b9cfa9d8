/- A program's segments: rows of four cells each, read as lists. -/
import Derived.Test.YtlpoebobfdmcmaaESegA
set_option linter.unusedVariables false
set_option linter.unusedSimpArgs false
namespace Go.Proofs.Ytlpoebobfdmcmaa
open Go.RowKit

/-- What any segment keeps to. -/
structure Seg.Fits (g : Seg) : Prop where
  addr : g.addr < 4294967296
  data : g.data.size ≤ maxLen
  size0 : -9223372036854775808 ≤ g.size
  size1 : g.size ≤ 9223372036854775807
  flags0 : -9223372036854775808 ≤ g.flags
  flags1 : g.flags ≤ 9223372036854775807
/-- The four cells of a segment. -/
structure SegAt (w : World) (b o : Nat) (g : Seg) : Prop where
  addr : w.cell? ⟨b, o, none⟩ = some (.int .u32 g.addr)
  data : w.cell? ⟨b, o + 1, none⟩ = some (.string g.data)
  size : w.cell? ⟨b, o + 2, none⟩ = some (.int .i64 g.size)
  flags : w.cell? ⟨b, o + 3, none⟩ = some (.int .i64 g.flags)
/-- A slice of segments; where it lies from B on it is a row of segments. -/
def Segs (B : Nat) : Rep (List Seg) := fun w v xs =>
  ∃ A c, v = .slice A xs.length c ∧ xs.length ≤ c ∧ c ≤ maxLen ∧ (A = none → c = 0) ∧ (∀ g ∈ xs, g.Fits) ∧
    (0 < xs.length → ∃ b off, A = some ⟨b, off, none⟩ ∧ b < w.heap.size ∧ (b < B ∨ ∃ cur fz, w.heap[b]? = some (.cells cur 36 fz)) ∧
      ∀ (k : Nat) (g : Seg), xs[k]? = some g → SegAt w b (off + k * 4) g)
theorem SegAt.of_block {w w' : World} {b o : Nat} {g : Seg} (h : w'.heap[b]? = w.heap[b]?) (hg : SegAt w b o g) : SegAt w' b o g :=
  ⟨(World.cell?_of_block (a := ⟨b, o, none⟩) h).trans hg.addr, (World.cell?_of_block (a := ⟨b, o + 1, none⟩) h).trans hg.data, (World.cell?_of_block (a := ⟨b, o + 2, none⟩) h).trans hg.size, (World.cell?_of_block (a := ⟨b, o + 3, none⟩) h).trans hg.flags⟩
theorem Segs.stable {B : Nat} {T : List TypeId} (he : 36 ∈ T) : Stable B T (Segs B) := by
  rintro w w' v xs hq ⟨A, c, rfl, h1, h2, h3, hf, h4⟩
  refine ⟨A, c, rfl, h1, h2, h3, hf, fun hn => ?_⟩
  obtain ⟨b, off, rfl, hb, ht, hc⟩ := h4 hn
  obtain ⟨row, hg, hr⟩ := hq.out
  have hne : some b ≠ row := fun e1 => by
    obtain ⟨hB, hx⟩ := hr b e1.symm
    rcases ht with ht | ⟨cur, fz, ht⟩
    · omega
    · exact hx cur _ fz ht he
  have hbl := hg.block b hb hne
  refine ⟨b, off, rfl, Nat.lt_of_lt_of_le hb hg.size, ?_, fun k x hk => (hc k x hk).of_block hbl⟩
  rcases ht with ht | ⟨cur, fz, ht⟩
  · exact Or.inl ht
  · exact Or.inr ⟨cur, fz, hbl.trans ht⟩
theorem Segs.below {B : Nat} {w w' : World} {v : Value} {xs : List Seg} (h : Segs B w v xs) (hb : Below w.heap.size w w') : Segs B w' v xs := Segs.stable (T := [36]) (by decide) _ _ _ _ (Quiet.below hb) h
theorem Segs.re {B B' : Nat} {w : World} {v : Value} {xs : List Seg} (h : Segs B w v xs) (hB : w.heap.size ≤ B') : Segs B' w v xs := by
  obtain ⟨A, c, rfl, h1, h2, h3, hf, h4⟩ := h
  refine ⟨A, c, rfl, h1, h2, h3, hf, fun hn => ?_⟩
  obtain ⟨b, off, rfl, hb, _, hc⟩ := h4 hn
  exact ⟨b, off, rfl, hb, Or.inl (by omega), hc⟩
theorem Segs.open_ {B : Nat} {w : World} {v : Value} {xs : List Seg} (h : Segs B w v xs) : ∃ A c, v = .slice A xs.length c ∧ xs.length ≤ c ∧ c ≤ maxLen ∧ (A = none → c = 0) := by
  obtain ⟨A, c, e, h1, h2, h3, _⟩ := h
  exact ⟨A, c, e, h1, h2, h3⟩
theorem Segs.fits {B : Nat} {w : World} {v : Value} {xs : List Seg} (h : Segs B w v xs) : ∀ g ∈ xs, g.Fits := by
  obtain ⟨A, c, e, h1, h2, h3, h4, _⟩ := h
  exact h4
instance : Inhabited Seg := ⟨⟨0, ⟨#[]⟩, 0, 0⟩⟩
theorem Segs.at_ {B : Nat} {w : World} {A : Option Addr} {n c : Nat} {xs : List Seg} (h : Segs B w (.slice A n c) xs) {k : Nat} (hk : k < xs.length) :
    ∃ b off g, A = some ⟨b, off, none⟩ ∧ xs[k]? = some g ∧ g.Fits ∧ SegAt w b (off + k * 4) g ∧ b < w.heap.size := by
  obtain ⟨A', c', e, h1, h2, h3, hf, h4⟩ := h
  injection e with e1 e2 e3
  subst e1
  obtain ⟨b, off, rfl, hb, _, hc⟩ := h4 (by omega)
  have hx := List.getElem?_eq_getElem hk
  exact ⟨b, off, xs[k], rfl, hx, hf _ (List.getElem_mem hk), hc k _ hx, hb⟩
theorem Segs.take {B : Nat} {w : World} {A : Option Addr} {m c : Nat} {xs : List Seg} (h : Segs B w (.slice A m c) xs) {n : Nat} (hn : n ≤ xs.length) : Segs B w (.slice A n c) (xs.take n) := by
  obtain ⟨A', c', e, h1, h2, h3, hf, h4⟩ := h
  injection e with e1 e2 e3
  subst e1 e3
  have hl : (xs.take n).length = n := by simp; omega
  refine ⟨A, c, by rw [hl], by omega, h2, h3, fun g hg => hf g (List.mem_of_mem_take hg), fun h0 => ?_⟩
  obtain ⟨b, off, rfl, hb, ht, hc⟩ := h4 (by omega)
  refine ⟨b, off, rfl, hb, ht, fun k x hk => hc k x ?_⟩
  rw [List.getElem?_take] at hk
  split at hk
  · exact hk
  · cases hk
end Go.Proofs.Ytlpoebobfdmcmaa
