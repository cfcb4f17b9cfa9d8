/- slices.Sorted(maps.Keys(m)) of a set that the call has made. -/
import Derived.Test.YtgnahjadjgjecaaGreatTSeen
import Derived.Test.YtgnahjadjgjecaaGreatTShelf
set_option linter.unusedVariables false
set_option linter.unusedSimpArgs false
namespace Go.Proofs.YtgnahjadjgjecaaGreat
open Go.RowKit Go.Maps Go.MapKept Go.Shelf Go.Sort

theorem keys_call (mb : Option Nat) (W : World) : Calls Tryz.prog 66 #[.map mb] W fun e w' => e = .returned (.func (.func 89) #[] #[.pointer (some ⟨W.heap.size, 0, none⟩)]) ∧ w' = W.alloc (.cells #[.map mb] 122) :=
  (callsIn_wide (n := 5)).1 (AnyZI.keys_in shelfKeys Fence.wide 5 trivial rfl mb W)
theorem sorts_in (m : Nat) : AnyZI.SortsIn Tryz.prog shelfSorted_ren Fence.wide m :=
  ⟨fun blk off cap ss W hH hblk hsz => callsIn_wide.2 (AnyM.slices_Sort_int shelfSort blk off cap ss W hH hblk hsz),
   fun p cap W => callsIn_wide.2 (AnyM.slices_Sort_int_none shelfSort p cap W)⟩
set_option maxHeartbeats 1000000 in
theorem sorted_call (b N : Nat) (S : Nat → Bool) (w : World) (h : Seen w b N S) (hN : N ≤ 1000000000000) :
    Calls Tryz.prog 65 #[.func (.func 89) #[] #[.pointer (some ⟨w.heap.size, 0, none⟩)]] (w.alloc (.cells #[.map (some b)] 122)) fun e w' => ∃ (v : Value) (l : List Nat), e = .returned v ∧ l.Pairwise (· < ·) ∧ (∀ i, i ∈ l ↔ S i = true) ∧ Own w.heap.size 3 I64 w' v (l.map fun (i : Nat) => (i : Int)) ∧ Below w.heap.size w w' := by
  refine (callsIn_wide (n := 5)).1 ?_
  obtain ⟨D, hown, h2, h3, h4⟩ := h.out
  have hsz := Go.World.ownsMap.size_le hown
  have hwf := intKeys_wf hown Tryz.underlying3
  have hseq : SeqGives Fence.wide 2 Tryz.prog 89 #[.pointer (some ⟨w.heap.size, 0, none⟩)] encZ (fun ss => ss.Perm (intKeys D)) (Maps.size D) (w.alloc (.cells #[.map (some b)] 122)) :=
    AnyZI.keys_gives (ρ := shelfKeys_ren) { shelfKeys with } Fence.wide _ trivial rfl (by omega) w.heap.size b N D _ (by simp) (by simp) (hown.alloc _)
  have cS := AnyZI.sorted_in shelfSorted Fence.wide 5 trivial trivial trivial trivial rfl (by omega) (sorts_in _) (enters_of Tryz.func88 (by kernel_rfl) rfl) 89 #[.pointer (some ⟨w.heap.size, 0, none⟩)] trivial (enters_of Tryz.func89 (by kernel_rfl) rfl) _ (Maps.size D) (by unfold maxLen; omega) (by omega) _ hseq
  change CallsIn _ _ Tryz.prog 65 _ _ _ at cS
  refine cS.mono ?_
  rintro e w' ⟨v, ss, rfl, hS, hrow, hnil, hb⟩
  obtain ⟨l, el, hl1, hl2⟩ := Seen.sorted hown h3 h4 hS
  have hlen : ss.length = l.length := by
    have := congrArg List.length el
    rw [List.length_mergeSort, List.length_map] at this
    exact this
  refine ⟨v, l, rfl, hl1, hl2, ?_, ((Below.refl _ w).alloc (Nat.le_refl _) _).trans (hb.mono (by simp))⟩
  rw [el, hlen] at hrow
  have hrow2 := ownsRow_base_a hrow (show w.heap.size ≤ _ by simp)
  refine ⟨(l.map fun (i : Nat) => (i : Int)).map encZ, by simp, by rw [List.length_map]; exact hrow2, fun k x hk => ⟨.int .i64 x, by rw [List.getElem?_map, hk]; rfl, rfl, ?_⟩⟩
  have hm : x ∈ intKeys D := by
    have h5 : x ∈ ss.mergeSort (fun x y => decide (x ≤ y)) := by rw [el]; exact List.mem_of_getElem? hk
    exact hS.mem_iff.1 ((List.mergeSort_perm ss _).mem_iff.1 h5)
  have := hwf x hm
  simp [Lit.wf, IntKind.min, IntKind.max, IntKind.signed, IntKind.bits] at this
  exact this
end Go.Proofs.YtgnahjadjgjecaaGreat
