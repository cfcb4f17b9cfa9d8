/- slices.IndexFunc, ContainsFunc at instructions. -/
import Derived.Test.YtaiggfknighhgaaDoorIRight
import Derived.Test.YtaiggfknighhgaaDoorRowN2
set_option linter.unusedVariables false
set_option linter.unusedSimpArgs false
namespace Go.Proofs.YtaiggfknighhgaaDoor
open Go.RowKit

def oddL (l : List Ins) : Bool := l.any fun x => !plainI x
theorem encI : EncN 5 Ins.five := ⟨fun _ => rfl, fun x u hu => by simp [Ins.five] at hu; rcases hu with rfl | rfl | rfl | rfl | rfl <;> rfl, by omega⟩
theorem oddL_false {l : List Ins} (h : oddL l = false) : ∀ i, i ∈ l → plainI i = true := fun i hi => by
  unfold oddL at h
  rw [List.any_eq_false] at h
  simpa using h i hi
set_option maxRecDepth 100000 in
theorem indexOdd_any (B : Nat) (e : TypeId) (v : Value) (xs : List Ins) (w : World) (hs : SlN B e 5 Ins.five w v xs) :
    Calls Tryd.prog 26 #[v, .func (.func 15) #[] #[]] w fun r w' => (∃ n : Int, r = .returned (.int .i64 n) ∧ decide (0 ≤ n) = oddL xs) ∧ Below w.heap.size w w' := by
  obtain ⟨A, c, rfl, q1, q2, q3⟩ := hs.open_
  have q4 : xs.length ≤ 9223372036854775807 := by unfold maxLen at q2; omega
  go_enter Tryd.func26, Tryd.ntmps26
  go_wp2_with fail
  go_loopw [5, 8] (fun _ i wr => ∃ j : Nat, j ≤ xs.length ∧ i = .int .i64 j ∧ oddL (xs.take j) = false ∧ Below w.heap.size w wr) (fun _ i _ => xs.length - (intOf i).toNat)
  case atStart => exact ⟨0, Nat.zero_le _, rfl, rfl, Below.refl _ _⟩
  case round =>
    obtain ⟨j, hj, rfl, hno0, hb⟩ := hrel
    have HNO := Lib.hid hno0
    clear hno0
    by_cases hlt : j < xs.length
    · have hlt' : (j : Int) < xs.length := by omega
      have hs1 := hs.below hb
      obtain ⟨bb, off, eA, hat, hbl⟩ := hs1.at_ hlt
      subst eA
      have hO := odd_any xs[j] wr
      have hno := HNO.out
      have hsn : oddL (xs.take (j + 1)) = !plainI xs[j] := by
        rw [List.take_succ_eq_append_getElem hlt]
        unfold oddL at hno ⊢
        rw [List.any_append, hno]
        simp
      have hall : plainI xs[j] = false → oddL xs = true := fun h => by
        unfold oddL
        rw [List.any_eq_true]
        exact ⟨xs[j], List.getElem_mem hlt, by rw [h]; rfl⟩
      generalize xs[j] = t at hat hO hsn hall
      obtain ⟨op, rd, rs1, rs2, imm⟩ := t
      have d0 : wr.cell? ⟨bb, off + j * 5, none⟩ = some (.int .i64 op) := hat 0 _ rfl
      have d1 : wr.cell? ⟨bb, off + j * 5 + 1, none⟩ = some (.int .i64 rd) := hat 1 _ rfl
      have d2 : wr.cell? ⟨bb, off + j * 5 + 2, none⟩ = some (.int .i64 rs1) := hat 2 _ rfl
      have d3 : wr.cell? ⟨bb, off + j * 5 + 3, none⟩ = some (.int .i64 rs2) := hat 3 _ rfl
      have d4 : wr.cell? ⟨bb, off + j * 5 + 4, none⟩ = some (.int .i64 imm) := hat 4 _ rfl
      change Calls Tryd.prog 15 #[.agg #[.int .i64 op, .int .i64 rd, .int .i64 rs1, .int .i64 rs2, .int .i64 imm]] wr _ at hO
      generalize plainI ⟨op, rd, rs1, rs2, imm⟩ = g at hO hsn hall
      have HS := Lib.hid hsn
      clear hat hs1 hsn hno
      cases g
      · have ha := hall rfl
        have HA := Lib.hid ha
        clear ha hall
        go_wp2_with fail
        refine hO.mono ?_
        rintro r w1 ⟨rfl, b1⟩
        go_wp2_with fail
        go_ret
        exact ⟨⟨j, rfl, by rw [HA.out]; simp⟩, below_then hb b1⟩
      · clear hall
        go_wp2_with fail
        refine hO.mono ?_
        rintro r w1 ⟨rfl, b1⟩
        go_wp2_with fail
        go_roundw
        case rel => exact ⟨j + 1, by omega, by go_num, HS.out, below_then hb b1⟩
        case measure => simp [intOf]; omega
    · have hlt' : ¬ (j : Int) < xs.length := by omega
      have hno := HNO.out
      have he : oddL xs = false := by rw [List.take_of_length_le (by omega)] at hno; exact hno
      have HE := Lib.hid he
      clear he hno
      go_wp2_with fail
      go_ret
      exact ⟨⟨-1, rfl, by rw [HE.out]; rfl⟩, hb⟩
set_option maxRecDepth 100000 in
theorem anyOdd_any (B : Nat) (e : TypeId) (v : Value) (xs : List Ins) (w : World) (hs : SlN B e 5 Ins.five w v xs) :
    Calls Tryd.prog 14 #[v, .func (.func 15) #[] #[]] w fun r w' => r = .returned (.bool (oddL xs)) ∧ Below w.heap.size w w' := by
  have hI := indexOdd_any B e v xs w hs
  go_enter Tryd.func14, Tryd.ntmps14
  go_wp2_with fail
  refine hI.mono ?_
  rintro r w1 ⟨⟨n, rfl, hn⟩, b1⟩
  have HN := Lib.hid hn
  clear hn
  go_wp2_with fail
  go_ret
  exact ⟨by rw [← HN.out]; rfl, b1⟩
end Go.Proofs.YtaiggfknighhgaaDoor
