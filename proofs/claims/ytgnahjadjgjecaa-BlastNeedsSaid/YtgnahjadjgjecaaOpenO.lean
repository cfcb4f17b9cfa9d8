/- What a script is that was handed in. -/
import Derived.Test.YtgnahjadjgjecaaOpenB
import Derived.Test.YtgnahjadjgjecaaLLaid
set_option linter.unusedVariables false
set_option linter.unusedSimpArgs false
namespace Go.Proofs.Ytgnahjadjgjecaa
open Go.RowKit Go.Deep Go.WideShapes

theorem cells_sop : Try.prog.cellsOf 78 = 5 := by kernel_rfl
section
variable {H : Type} {enc : TypeId × Value → H} {W : World} {base : Nat} {spare : Nat → Bool} {held : Bool} {fuel : Nat} {cs : List Value} {x : DataW H × List MemPlace}
theorem read_sop (h : DataW.trod enc Try.prog W base spare held fuel 78 cs = some x) : ∃ g : SOp, cs = g.five ∧ g.Fits := by
  obtain ⟨y0, y1, y2, y3, y4, n, hl, r0, r1, r2, r3, r4⟩ := trod_five Try.underlying78 h
  rw [cells_sop] at hl
  obtain ⟨c0, c1, c2, c3, c4, rfl⟩ := list_five hl
  simp only [cells_w32, cells_wint, List.drop_succ_cons, List.drop_zero, List.take_succ_cons, List.take_zero] at r0 r1 r2 r3 r4
  obtain ⟨k, e0, _⟩ := read_int r0
  obtain ⟨v, e1, hv⟩ := read_u32 r1
  obtain ⟨o, e2, ho⟩ := read_int r2
  obtain ⟨a, e3, ha⟩ := read_int r3
  obtain ⟨b, e4, hb⟩ := read_int r4
  simp only [List.cons.injEq, and_true] at e0 e1 e2 e3 e4
  subst e0 e1 e2 e3 e4
  exact ⟨⟨k, v, o, a, b⟩, rfl, ⟨hv, ho, ha, hb⟩⟩
theorem read_sops (h : DataW.trod enc Try.prog W base spare held fuel 22 cs = some x) : ∃ v xs, cs = [v] ∧ SlN W.heap.size 78 5 SOp.five W v xs ∧ ∀ g ∈ xs, g.Fits := by
  rcases open_slice Try.underlying22 h with ⟨rfl, _⟩ | ⟨a, len, cap, m, n, D, Pl, rfl, _, hl, hm, hmm, _, hV⟩
  · exact ⟨_, [], rfl, ⟨none, 0, rfl, Nat.le_refl _, Nat.zero_le _, fun _ => rfl, fun h => absurd h (by simp)⟩, by simp⟩
  · have hlm : len ≤ m := by rw [hmm]; split <;> omega
    obtain ⟨f, hf⟩ := choose_lt (n := len) (p := fun i (g : SOp) => g.Fits ∧ ∀ j, j < 5 → W.cell? ((a.add (i * 5)).add j) = g.five[j]?) (fun i hi => by
      obtain ⟨cs', hc, ht⟩ := hV i (by omega)
      rw [cells_sop] at hc
      obtain ⟨g, rfl, hg⟩ := read_sop ht
      exact ⟨g, hg, (World.cells?_some hc).2.2⟩)
    obtain ⟨b, off, sp⟩ := a
    refine ⟨_, (List.range len).map f, rfl, ⟨some ⟨b, off, sp⟩, cap, by simp, by simpa using hl, hm, (fun h => by cases h), fun h0 => ?_⟩, ?_⟩
    · have h0' : 0 < len := by simpa using h0
      have hadd : ∀ i, (⟨b, off, none⟩ : Addr).add i = ⟨b, off + i, none⟩ := fun i => by unfold Addr.add; split <;> simp_all
      have hadd2 : ∀ i j, (⟨b, off + i, none⟩ : Addr).add j = ⟨b, off + i + j, none⟩ := fun i j => by unfold Addr.add; split <;> simp_all
      have c0 := (hf 0 h0').2 0 (by omega)
      have hsp : sp = none := by
        cases sp with
        | none => rfl
        | some s =>
          exfalso
          unfold World.cell? at c0
          have hs1 : ((⟨b, off, some s⟩ : Addr).add (0 * 5)).spot.isSome = true := by unfold Addr.add; split <;> simp_all
          have hs2 : (((⟨b, off, some s⟩ : Addr).add (0 * 5)).add 0).spot.isSome = true := by unfold Addr.add; split <;> simp_all
          split at c0
          · simp [hs2, SOp.five] at c0
          · simp [SOp.five] at c0
      subst hsp
      simp only [hadd, hadd2] at hf c0
      have hlt : b < W.heap.size := World.block_lt_of_cell? W (⟨b, off + 0 * 5 + 0, none⟩ : Addr) (c0.trans (show (f 0).five[0]? = some _ from rfl))
      refine ⟨b, off, rfl, hlt, Or.inl hlt, fun k g hk => ?_⟩
      have hk' : k < len := by have := (List.getElem?_eq_some_iff.1 hk).1; simpa using this
      simp only [List.getElem?_map, List.getElem?_range hk', Option.map_some, Option.some.injEq] at hk
      subst hk
      intro j u hu
      have hj : j < 5 := by have := (List.getElem?_eq_some_iff.1 hu).1; simpa [SOp.five] using this
      exact ((hf k hk').2 j hj).trans hu
    · intro g hg
      obtain ⟨i, hi, rfl⟩ := List.mem_map.1 hg
      exact (hf i (by simpa using hi)).1
end
end Go.Proofs.Ytgnahjadjgjecaa
