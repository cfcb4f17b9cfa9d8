/- The reference's answer: Needs, Only. -/
import Derived.Test.YtgnahjadjgjecaaRVal0
import Derived.Test.YtgnahjadjgjecaaBTrue
set_option linter.unusedVariables false
set_option linter.unusedSimpArgs false
namespace Go.Proofs.Ytgnahjadjgjecaa
open Go.RowKit Go.Maps Go.MapKept

def needL (ts : List Term) (l : List Int) : Nat := l.foldl (fun m n => m ||| vr ts n.toNat) 0
theorem needL_take (ts : List Term) {l : List Int} {j : Nat} (hj : j < l.length) : needL ts (l.take (j + 1)) = needL ts (l.take j) ||| vr ts (l.getD j 0).toNat := by
  unfold needL
  rw [List.take_succ_eq_append_getElem hj, List.foldl_append]
  simp [List.getD, hj]
theorem needL_bit (ts : List Term) (r : Nat) (l : List Int) : (needL ts l).testBit r = true ↔ ∃ n, n ∈ l ∧ (vr ts n.toNat).testBit r = true := by
  have key : ∀ (l : List Int) (m : Nat), (l.foldl (fun m n => m ||| vr ts n.toNat) m).testBit r = true ↔ m.testBit r = true ∨ ∃ n, n ∈ l ∧ (vr ts n.toNat).testBit r = true := by
    intro l
    induction l with
    | nil => intro m; simp
    | cons n l ih =>
      intro m
      rw [List.foldl_cons, ih, Nat.testBit_or, Bool.or_eq_true]
      constructor
      · rintro ((h | h) | ⟨x, h1, h2⟩)
        · exact Or.inl h
        · exact Or.inr ⟨n, List.mem_cons_self, h⟩
        · exact Or.inr ⟨x, List.mem_cons_of_mem _ h1, h2⟩
      · rintro (h | ⟨x, h1, h2⟩)
        · exact Or.inl (Or.inl h)
        · rcases List.mem_cons.1 h1 with rfl | h1
          · exact Or.inl (Or.inr h2)
          · exact Or.inr ⟨x, h1, h2⟩
  unfold needL
  rw [key l 0]
  simp
theorem needL_prs {ts : List Term} {ax bx : List Int} (hl : ax.length = bx.length) (r : Nat) : (needL ts ax ||| needL ts bx).testBit r = (maskP ts (prs ax bx)).testBit r := by
  rw [Bool.eq_iff_iff, Nat.testBit_or, Bool.or_eq_true, needL_bit, needL_bit, maskP_bit]
  constructor
  · rintro (⟨n, h1, h2⟩ | ⟨n, h1, h2⟩)
    · obtain ⟨j, hj, e⟩ := List.mem_iff_getElem.1 h1
      refine ⟨((ax.getD j 0).toNat, (bx.getD j 0).toNat), by unfold prs; exact List.mem_map.2 ⟨j, List.mem_range.2 hj, rfl⟩, Or.inl ?_⟩
      rw [show ax.getD j 0 = n by rw [← e]; simp [List.getD, hj]]
      exact h2
    · obtain ⟨j, hj, e⟩ := List.mem_iff_getElem.1 h1
      refine ⟨((ax.getD j 0).toNat, (bx.getD j 0).toNat), by unfold prs; exact List.mem_map.2 ⟨j, List.mem_range.2 (by omega), rfl⟩, Or.inr ?_⟩
      rw [show bx.getD j 0 = n by rw [← e]; simp [List.getD, hj]]
      exact h2
  · rintro ⟨p, hp, h⟩
    unfold prs at hp
    obtain ⟨j, hj, rfl⟩ := List.mem_map.1 hp
    have hj := List.mem_range.1 hj
    rcases h with h | h
    · exact Or.inl ⟨_, getD_mem hj 0, h⟩
    · exact Or.inr ⟨_, getD_mem (by omega) 0, h⟩
set_option maxRecDepth 100000 in
set_option maxHeartbeats 2000000 in
theorem rneeds_any (k : Nat) (vl : Value) (ts : List Term) (hG : Good ts) (hfew : ts.length ≤ 1000) (l : List Int) (hl : l.length ≤ 1000) (hin : ∀ n, n ∈ l → inR n ts.length = true) (hv : ∀ n, n < ts.length → vr ts n < 4294967296) (hlt : ∀ j, needL ts (l.take j) < 4294967296) (v : Value) (e : TypeId) (w : World) (hs : Sl 0 e I64 w v l) (h : RefAt w k vl ts) :
    Calls Try.prog 7 #[.pointer (some ⟨k, 0, none⟩), v] w fun r w' => r = .returned (.int .u32 (needL ts l : Nat)) ∧ Below w.heap.size w w' := by
  obtain ⟨A, c, rfl, p1, p2, p3⟩ := hs.open_
  have HL := Lib.hid hlt
  clear hlt
  go_enter Try.func7, Try.ntmps7
  go_wp2_with fail
  go_loopw [5, 6, 7, 8] (fun m i _ _ wr => ∃ j : Nat, j ≤ l.length ∧ i = .int .i64 j ∧ m = .int .u32 (needL ts (l.take j) : Nat) ∧ Below w.heap.size w wr) (fun _ i _ _ _ => l.length - (Go.RowKit.intOf i).toNat)
  case atStart => exact ⟨0, Nat.zero_le _, rfl, by rw [List.take_zero]; rfl, Below.refl _ _⟩
  case round =>
    obtain ⟨j, hj, rfl, rfl, hb⟩ := hrel
    by_cases hlt : j < l.length
    · have hlt' : (j : Int) < l.length := by omega
      obtain ⟨bb, off, u, rfl, hc, hu⟩ := (hs.later hb).at_ hlt 0
      obtain ⟨rfl, _⟩ := hu
      obtain ⟨n, hn, hn2⟩ := inR_nat (hin _ (getD_mem hlt 0))
      have hV := rvars_any k vl n ts (by omega) hn2 hG wr (h.below hb)
      have hvn := hv n hn2
      have htk := needL_take ts hlt
      have hm := HL.out j
      rw [hn] at hc htk
      have htk : needL ts (l.take (j + 1)) = needL ts (l.take j) ||| vr ts n := by rw [htk]; simp
      have HT := Lib.hid htk
      have hor := u32_or _ _ hm hvn
      clear htk hn
      generalize needL ts (l.take j) = m at *
      generalize vr ts n = q at *
      go_wp2_with fail
      refine hV.mono ?_
      rintro r w1 ⟨rfl, b1⟩
      have hb1 := below_then hb b1
      clear hV hb hc
      go_wp2_with fail
      go_roundw
      case rel => exact ⟨j + 1, by omega, by go_num, by rw [HT.out], hb1⟩
      case measure => simp [Go.RowKit.intOf]; omega
    · have hlt' : ¬ (j : Int) < l.length := by omega
      obtain rfl : j = l.length := by omega
      rw [List.take_length]
      go_wp2_with fail
      go_ret
      exact ⟨rfl, hb⟩
/-- Registers, as far as a word tells them. -/
def onlyX (x : Nat → Nat) (m : Nat) : Nat → Nat := fun r => if m.testBit r = true then x r else 0
theorem regsV_regB (x : Nat → Nat) : regsV x = regB x := rfl
end Go.Proofs.Ytgnahjadjgjecaa
