/- term: Copy. -/
import Derived.Test.YtekleoccdockhaaDoorTTerm
import Derived.Test.YtekleoccdockhaaDoorRowN2
import Derived.Shelf.SlMaps.Clone
import Derived.WalkSpells
import Derived.Lib.SliceRun
set_option linter.unusedVariables false
set_option linter.unusedSimpArgs false
namespace Go.Proofs.YtekleoccdockhaaDoor
open Go.RowKit Go.Maps Go.MapKept

set_option maxRecDepth 100000 in
theorem sclone_any (vl : Value) (ts : List Term) (hl : ts.length < 1000000000000) (w : World) (h : OwnN 0 33 5 Term.five w vl ts) :
    Calls Tryd.prog 46 #[vl] w fun r w' => ∃ v, r = .returned v ∧ OwnN w.heap.size 33 5 Term.five w' v ts ∧ Below w.heap.size w w' := by
  rcases h.2 with ⟨rfl, hn⟩ | ⟨g, cap, cur, rfl, hg, hh, hc1, hc2, hc3, htake⟩
  · have hts : ts = [] := List.eq_nil_of_length_eq_zero hn
    subst hts
    have hq : ∀ w1 : World, (binOp .eql 51 (.slice none 0 0) (.slice none 0 0)).run Tryd.prog w1 = .ok (.bool true) w1 := fun w1 => Lib.run_eql_slice_nil w1 51 _ none 0 0 0 0 Tryd.underlying51
    go_enter Tryd.func46, Tryd.ntmps46
    go_wp2_with fail
    go_ret
    exact ⟨_, rfl, OwnN.nil _ _ _, Below.refl _ _⟩
  · have hq : ∀ w1 : World, (binOp .eql 51 (.slice (some ⟨g, 0, none⟩) ts.length cap) (.slice none 0 0)).run Tryd.prog w1 = .ok (.bool false) w1 := fun w1 => Lib.run_eql_slice_nil w1 51 _ (some ⟨g, 0, none⟩) ts.length cap 0 0 Tryd.underlying51
    go_enter Tryd.func46, Tryd.ntmps46
    have h1 : SlN 0 33 5 Term.five (w.alloc (.cells #[] 33)) (.slice (some ⟨g, 0, none⟩) ts.length cap) ts := (h.toSl encT 0).below ((Below.refl _ _).alloc (Nat.le_refl _) _)
    go_wp2_with (first | (at_builtin; refine wpList_appN encT (w0 := w) w.heap.size rfl _ _ 51 33 (.agg #[.int .i64 0, .int .u32 0, .int .i64 0, .int .i64 0, .int .i64 0]) 40 rfl Tryd.underlying51 (by kernel_rfl) rfl (by omega) (OwnN.empty (Nat.le_refl _) rfl) h1 rfl rfl ((Below.refl _ _).alloc (Nat.le_refl _) _) (by simp) (by simp only [List.length_nil]; omega) ?_; intro v1 w1 ho1 hB1 hg1 hn1; rw [List.nil_append] at ho1; obtain ⟨A1, c1, rfl, _, _, _⟩ := (ho1.toSl encT 0).open_) | fail)
    go_ret
    exact ⟨_, rfl, ho1, hB1⟩
set_option maxRecDepth 100000 in
theorem mclone_any (b : Nat) (es : Array MapEntry) (clock : Nat) (w : World) (hb : w.heap[b]? = some (.map es clock)) :
    Calls Tryd.prog 47 #[.map (some b)] w fun e w' => e = .returned (.map (some w.heap.size)) ∧ w' = w.alloc (.map es clock) := by
  have hq := fun w => run_eql_map_nil_sl (P := Tryd.prog) w 63 _ _ (some b) Tryd.underlying63
  go_enter Tryd.func47, Tryd.ntmps47
  go_wp2
  rw [run_callFunc_extern Tryd.func67 (by kernel_rfl) (by kernel_rfl) (by kernel_rfl) (e := Extern.MapsClone.clone) (by kernel_rfl), run_maps_clone_sl w 63 hb]
  simp only [Result.andThen]
  rw [Oper.upon_value]
  go_wp2
  rw [run_typeAssert_map_sl _ 63 20 _ _ _ Tryd.underlying63]
  simp only [Result.andThen]
  rw [Oper.upon_value]
  go_wp2
  go_ret
  exact ⟨rfl, rfl⟩
theorem load_next (a : Addr) (n : Int) (w : World) (hc : w.cell? a = some (.int .i64 n)) :
    Calls Tryd.prog 49 #[.pointer (some a)] w fun r w' => r = .returned (.int .i64 n) ∧ w = w' := by
  have hld := run_call_load (P := Tryd.prog) Tryd.func69 (by kernel_rfl) (by kernel_rfl) (by kernel_rfl) .i64 (by kernel_rfl) hc
  go_enter Tryd.func49, Tryd.ntmps49
  go_wp2
  go_ret
  exact ⟨rfl, rfl⟩
theorem store_next (a : Addr) (n : Int) (x : Value) (w : World) (hc : w.cell? a = some x) (hz : w.frozen? a = false) :
    Calls Tryd.prog 48 #[.pointer (some a), .int .i64 n] w fun r w' => r = .returned (.tuple #[]) ∧ w' = w.setCell a (.int .i64 n) := by
  have hst := run_call_store (P := Tryd.prog) Tryd.func68 (by kernel_rfl) (by kernel_rfl) (by kernel_rfl) (by kernel_rfl) (k := .i64) (y := n) hc hz
  go_enter Tryd.func48, Tryd.ntmps48
  go_wp2
  go_end0
  exact ⟨rfl, rfl⟩
end Go.Proofs.YtekleoccdockhaaDoor
