/- What three words are that were handed in. -/
import Derived.Test.YtgnahjadjgjecaaGreatOpenR0
set_option linter.unusedVariables false
set_option linter.unusedSimpArgs false
namespace Go.Proofs.YtgnahjadjgjecaaGreat
open Go.RowKit Go.Deep Go.WideShapes

theorem cells_three : Tryz.prog.cellsOf 53 = 3 := by kernel_rfl
section
variable {H : Type} {enc : TypeId × Value → H} {W : World} {base : Nat} {spare : Nat → Bool} {held : Bool} {fuel : Nat} {cs : List Value} {x : DataW H × List MemPlace}
theorem read_three (h : DataW.trod enc Tryz.prog W base spare held fuel 53 cs = some x) : ∃ a b c : Nat, cs = [.int .u32 (a : Int), .int .u32 (b : Int), .int .u32 (c : Int)] ∧ a < 4294967296 ∧ b < 4294967296 ∧ c < 4294967296 := by
  obtain ⟨xs, m, _, _, hl, hlen, hf⟩ := DataW.trod_array Tryz.underlying53 h
  rw [cells_three] at hl
  rw [cells_w32] at hf
  have key : ∀ i, i < 3 → ∃ n : Nat, cs[i]? = some (.int .u32 (n : Int)) ∧ n < 4294967296 := fun i hi => by
    have h1 := hf i hi
    rw [List.getElem?_eq_getElem (by omega)] at h1
    obtain ⟨n, e, hn⟩ := read_u32 h1
    refine ⟨n, ?_, hn⟩
    have h2 : ((cs.drop (i * 1)).take 1)[0]? = some (.int .u32 (n : Int)) := by rw [e]; rfl
    rw [List.getElem?_take_of_lt (by omega), List.getElem?_drop] at h2
    simpa using h2
  obtain ⟨a, ha, ha'⟩ := key 0 (by omega)
  obtain ⟨b, hb, hb'⟩ := key 1 (by omega)
  obtain ⟨c, hc, hc'⟩ := key 2 (by omega)
  refine ⟨a, b, c, ?_, ha', hb', hc'⟩
  rcases cs with _ | ⟨u, _ | ⟨v, _ | ⟨w, _ | ⟨z, t⟩⟩⟩⟩ <;> simp only [List.length_cons, List.length_nil] at hl <;> try omega
  simp only [List.getElem?_cons_zero, List.getElem?_cons_succ, Option.some.injEq] at ha hb hc
  rw [ha, hb, hc]
end
end Go.Proofs.YtgnahjadjgjecaaGreat
