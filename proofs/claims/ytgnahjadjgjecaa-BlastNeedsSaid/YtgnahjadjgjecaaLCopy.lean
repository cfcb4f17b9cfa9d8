/- term: Copy. -/
/- term: Copy, walked. -/
import Derived.Test.YtgnahjadjgjecaaTTerm
import Derived.Test.YtgnahjadjgjecaaRowN2
import Derived.Shelf.SlMaps.Clone
import Derived.WalkSpells
import Derived.Lib.SliceRun
import Derived.Test.YtgnahjadjgjecaaLBoth
import Derived.Deep.RegionLaw
set_option linter.unusedVariables false
set_option linter.unusedSimpArgs false
namespace Go.Proofs.Ytgnahjadjgjecaa
open Go.RowKit Go.Maps Go.MapKept

set_option maxRecDepth 100000 in
theorem sclone_any (vl : Value) (ts : List Term) (hl : ts.length < 1000000000000) (w : World) (h : OwnN 0 82 5 Term.five w vl ts) :
    Calls Try.prog 39 #[vl] w fun r w' => ∃ v, r = .returned v ∧ OwnN w.heap.size 82 5 Term.five w' v ts ∧ Below w.heap.size w w' := by
  rcases h.2 with ⟨rfl, hn⟩ | ⟨g, cap, cur, rfl, hg, hh, hc1, hc2, hc3, htake⟩
  · have hts : ts = [] := List.eq_nil_of_length_eq_zero hn
    subst hts
    have hq : ∀ w1 : World, (binOp .eql 91 (.slice none 0 0) (.slice none 0 0)).run Try.prog w1 = .ok (.bool true) w1 := fun w1 => Lib.run_eql_slice_nil w1 91 _ none 0 0 0 0 Try.underlying91
    go_enter Try.func39, Try.ntmps39
    go_wp2_with fail
    go_ret
    exact ⟨_, rfl, OwnN.nil _ _ _, Below.refl _ _⟩
  · have hq : ∀ w1 : World, (binOp .eql 91 (.slice (some ⟨g, 0, none⟩) ts.length cap) (.slice none 0 0)).run Try.prog w1 = .ok (.bool false) w1 := fun w1 => Lib.run_eql_slice_nil w1 91 _ (some ⟨g, 0, none⟩) ts.length cap 0 0 Try.underlying91
    go_enter Try.func39, Try.ntmps39
    have h1 : SlN 0 82 5 Term.five (w.alloc (.cells #[] 82)) (.slice (some ⟨g, 0, none⟩) ts.length cap) ts := (h.toSl encT 0).below ((Below.refl _ _).alloc (Nat.le_refl _) _)
    go_wp2_with (first | (at_builtin; refine wpList_appN encT (w0 := w) w.heap.size rfl _ _ 91 82 (.agg #[.int .i64 0, .int .u32 0, .int .i64 0, .int .i64 0, .int .i64 0]) 40 rfl Try.underlying91 (by kernel_rfl) rfl (by omega) (OwnN.empty (Nat.le_refl _) rfl) h1 rfl rfl ((Below.refl _ _).alloc (Nat.le_refl _) _) (by simp) (by simp only [List.length_nil]; omega) ?_; intro v1 w1 ho1 hB1 hg1 hn1; rw [List.nil_append] at ho1; obtain ⟨A1, c1, rfl, _, _, _⟩ := (ho1.toSl encT 0).open_) | fail)
    go_ret
    exact ⟨_, rfl, ho1, hB1⟩
set_option maxRecDepth 100000 in
theorem mclone_any (b : Nat) (es : Array MapEntry) (clock : Nat) (w : World) (hb : w.heap[b]? = some (.map es clock)) :
    Calls Try.prog 40 #[.map (some b)] w fun e w' => e = .returned (.map (some w.heap.size)) ∧ w' = w.alloc (.map es clock) := by
  have hq := fun w => run_eql_map_nil_sl (P := Try.prog) w 103 _ _ (some b) Try.underlying103
  go_enter Try.func40, Try.ntmps40
  go_wp2
  rw [run_callFunc_extern Try.func60 (by kernel_rfl) (by kernel_rfl) (by kernel_rfl) (e := Extern.MapsClone.clone) (by kernel_rfl), run_maps_clone_sl w 103 hb]
  simp only [Result.andThen]
  rw [Oper.upon_value]
  go_wp2
  rw [run_typeAssert_map_sl _ 103 20 _ _ _ Try.underlying103]
  simp only [Result.andThen]
  rw [Oper.upon_value]
  go_wp2
  go_ret
  exact ⟨rfl, rfl⟩
theorem load_next (a : Addr) (n : Int) (w : World) (hc : w.cell? a = some (.int .i64 n)) :
    Calls Try.prog 42 #[.pointer (some a)] w fun r w' => r = .returned (.int .i64 n) ∧ w = w' := by
  have hld := run_call_load (P := Try.prog) Try.func62 (by kernel_rfl) (by kernel_rfl) (by kernel_rfl) .i64 (by kernel_rfl) hc
  go_enter Try.func42, Try.ntmps42
  go_wp2
  go_ret
  exact ⟨rfl, rfl⟩
theorem store_next (a : Addr) (n : Int) (x : Value) (w : World) (hc : w.cell? a = some x) (hz : w.frozen? a = false) :
    Calls Try.prog 41 #[.pointer (some a), .int .i64 n] w fun r w' => r = .returned (.tuple #[]) ∧ w' = w.setCell a (.int .i64 n) := by
  have hst := run_call_store (P := Try.prog) Try.func61 (by kernel_rfl) (by kernel_rfl) (by kernel_rfl) (by kernel_rfl) (k := .i64) (y := n) hc hz
  go_enter Try.func41, Try.ntmps41
  go_wp2
  go_end0
  exact ⟨rfl, rfl⟩
end Go.Proofs.Ytgnahjadjgjecaa
set_option linter.unusedVariables false
set_option linter.unusedSimpArgs false
namespace Go.Proofs.Ytgnahjadjgjecaa
open Go.RowKit Go.Maps Go.MapKept

structure Copied (K : Nat → Prop) (w : World) (b c N : Nat) (ts : List Term) (w' : World) : Prop where
  le : w.heap.size ≤ N
  old : DagAt (fun i => K i ∨ (N ≤ i ∧ i < w'.heap.size)) w' b ts
  new : DagAt (fun i => i < N) w' c ts
  kept : Kept K w w'
theorem Copied.drew {K : Nat → Prop} {w w' : World} {b c N : Nat} {ts : List Term} (h : Copied K w b c N ts w') : Copied K w b c N ts w'.drew :=
  ⟨h.le, h.old.below ((Below.refl _ _).drew), h.new.below ((Below.refl _ _).drew), h.kept.drew⟩
theorem copied {K : Nat → Prop} {w w1 w2 w5 : World} {b m : Nat} {vl v1 : Value} {ts : List Term} {es : Array MapEntry} {clock : Nat} (D : DagIn K w1 b m vl ts) (k1 : Kept K w w1)
    (hes : w1.heap[m]? = some (.map es clock)) (ho : OwnN w1.heap.size 82 5 Term.five w2 v1 ts) (b2 : Below w1.heap.size w1 w2)
    (h5 : w5.heap[w2.heap.size]? = some (.cells #[v1, .int .u32 1, .int .i32 0, .int .u32 0, .map (some (w2.heap.size + 1)), .int .i64 0] 108 (0, 0)))
    (g5 : ((w2.alloc (.cells #[v1, .int .u32 0, .int .i32 0, .int .u32 0, .map none, .int .i64 0] 108)).alloc (.map es clock)).grownBy w5 (some w2.heap.size)) :
    Copied K w b w2.heap.size w1.heap.size ts (w5.setCell ⟨w2.heap.size, 5, none⟩ (.int .i64 (ts.length : Int))) := by
  have b3 : Below w1.heap.size w1 ((w2.alloc (.cells #[v1, .int .u32 0, .int .i32 0, .int .u32 0, .map none, .int .i64 0] 108)).alloc (.map es clock)) := below_alloc1 (below_alloc1 b2 _) _
  have k5 : Kept (fun i => i < w1.heap.size) w1 w5 := (Kept.below b3).trans (Kept.grown g5 (by have := b2.size; omega))
  have k6 := k5.trans (Kept.grown (grown_set w5 w2.heap.size 5 (.int .i64 (ts.length : Int))) (by have := b2.size; omega))
  have hs3 : ((w2.alloc (.cells #[v1, .int .u32 0, .int .i32 0, .int .u32 0, .map none, .int .i64 0] 108)).alloc (.map es clock)).heap.size = w2.heap.size + 2 := by simp
  have hgs := g5.size
  rw [hs3] at hgs
  have hmap : MapAt WTerm.val ((w2.alloc (.cells #[v1, .int .u32 0, .int .i32 0, .int .u32 0, .map none, .int .i64 0] 108)).alloc (.map es clock)) (w2.heap.size + 1) (posOf ts) := by
    obtain ⟨es', cl', he, r⟩ := D.hm
    rw [hes] at he
    injection he with he
    injection he with he1 he2
    subst he1 he2
    exact ⟨es, clock, blk_top (by simp), r⟩
  have hown : OwnN w1.heap.size 82 5 Term.five (w5.setCell ⟨w2.heap.size, 5, none⟩ (.int .i64 (ts.length : Int))) v1 ts := by
    refine own_kept ho fun g hg => ?_
    obtain ⟨_, cur, hc⟩ := ho.typed hg
    have hgl := (Array.getElem?_eq_some_iff.1 hc).1
    have hne : g ≠ w2.heap.size := Nat.ne_of_lt hgl
    have e1 : ((w2.alloc (.cells #[v1, .int .u32 0, .int .i32 0, .int .u32 0, .map none, .int .i64 0] 108)).alloc (.map es clock)).heap[g]? = w2.heap[g]? := by rw [hc]; exact blk_alloc (blk_alloc hc _) _
    rw [(grown_set w5 w2.heap.size 5 (.int .i64 (ts.length : Int))).block g (Nat.lt_of_lt_of_le hgl (by omega)) (fun e => hne (by injection e)), g5.block g (by rw [hs3]; omega) (fun e => hne (by injection e)), e1]
  have hblk : (w5.setCell ⟨w2.heap.size, 5, none⟩ (.int .i64 (ts.length : Int))).heap[w2.heap.size]? = some (.cells #[v1, .int .u32 1, .int .i32 0, .int .u32 0, .map (some (w2.heap.size + 1)), .int .i64 (ts.length : Int)] 108 (0, 0)) := by
    have := blk_set h5 5 (.int .i64 (ts.length : Int))
    simpa using this
  have hsz : (w5.setCell ⟨w2.heap.size, 5, none⟩ (.int .i64 (ts.length : Int))).heap.size = w5.heap.size := by simp [World.setCell]
  refine ⟨k1.size, D.at_.move k6 fun i hi _ => hi, ⟨⟨v1, 1, .map (some (w2.heap.size + 1)), hblk, hown.lower (Nat.zero_le _), fun g hg => ?_, ?_, Or.inr ⟨rfl, w2.heap.size + 1, rfl, ?_, ?_⟩, fun i hi => Nat.lt_of_lt_of_le hi k6.size, D.wf, D.nd⟩⟩, k1.trans (k6.mono D.k)⟩
  · have := (hown.typed hg).1; omega
  · have := b2.size; omega
  · exact (hmap.grown g5 (fun e => by injection e with e; omega)).grown (grown_set _ _ _ _) (fun e => by injection e with e; omega)
  · have := b2.size; omega
set_option maxRecDepth 100000 in
set_option maxHeartbeats 2000000 in
theorem copy_any (K : Nat → Prop) (b : Nat) (ts : List Term) (hl : ts.length < 1000000000000) (w : World) (h : DagAt K w b ts) :
    Calls Try.prog 25 #[.pointer (some ⟨b, 0, none⟩)] w fun r w' => ∃ c N, r = .returned (.pointer (some ⟨c, 0, none⟩)) ∧ Copied K w b c N ts w' := by
  have hmm := @run_makeMap Try.prog
  have hm := MapAt.made (ek := WTerm.val) w
  have hd1 := h.below ((Below.refl _ _).alloc (Nat.le_refl _) (.map #[] 0))
  have hmk : ¬ K w.heap.size := fun hk => by have := h.in_ _ hk; omega
  have hk0 : Kept K w (w.alloc (.map #[] 0)) := Kept.alloc K w _
  go_enter Try.func25, Try.ntmps25
  go_wp2_with fail
  refine (begun_any K b _ ts _ hd1 hm hmk).mono ?_
  rintro r w1 ⟨rfl, ⟨m, vl, D⟩, k1⟩
  have k01 := hk0.trans k1
  obtain ⟨c0, c1, c2, c3, c4, c5⟩ := six_cells D.hb
  clear hm hd1 hmk hk0 k1
  go_wp2_with fail
  refine (sclone_any vl ts hl w1 D.l).mono ?_
  rintro r w2 ⟨v1, rfl, ho, b2⟩
  obtain ⟨A1, q1, hv1, _, _, _⟩ := (ho.toSl encT 0).open_
  obtain ⟨es, clock, hes, hes2⟩ := D.hm
  have hes3 := blk_alloc (blk_below hes b2) (.cells #[v1, .int .u32 0, .int .i32 0, .int .u32 0, .map none, .int .i64 0] 108)
  have d4 := cell_alloc0 (cell_below b2 c4) (.cells #[v1, .int .u32 0, .int .i32 0, .int .u32 0, .map none, .int .i64 0] 108)
  have hc3 := blk_new w2 (.cells #[v1, .int .u32 0, .int .i32 0, .int .u32 0, .map none, .int .i64 0] 108)
  clear c0 c1 c2 c3 c4 hmm
  subst hv1
  have hm2 := mclone_any m es clock _ hes3
  rw [show (w2.alloc (.cells #[.slice A1 ts.length q1, .int .u32 0, .int .i32 0, .int .u32 0, .map none, .int .i64 0] 108)).heap.size = w2.heap.size + 1 by simp] at hm2
  have d5 := cell_alloc0 (cell_alloc0 (cell_below b2 c5) (.cells #[.slice A1 ts.length q1, .int .u32 0, .int .i32 0, .int .u32 0, .map none, .int .i64 0] 108)) (.map es clock)
  have hbc : b ≠ w2.heap.size := by have := b2.size; have h3 := (Array.getElem?_eq_some_iff.1 D.hb).1; omega
  go_wp2_with fail
  refine hm2.mono ?_
  rintro r w3 ⟨rfl, rfl⟩
  go_wp2_with fail
  refine (begun_first w2.heap.size (w2.heap.size + 1) _ _ 0 _ (blk_alloc hc3 (.map es clock))).mono ?_
  rintro r w5 ⟨rfl, h5, g5⟩
  have hq := copied D k01 hes ho b2 h5 g5
  have e5 : w5.cell? ⟨b, 5, none⟩ = some (.int .i64 (ts.length : Int)) := by
    have hlt := World.block_lt_of_cell? _ _ d5
    exact (World.cell?_of_block (a := ⟨b, 5, none⟩) (g5.block b hlt (fun e => hbc (by injection e)))).trans d5
  obtain ⟨x0, x1, x2, x3, x4, x5⟩ := six_cells h5
  have f5 := frozen_of h5 5
  clear hm2 hes3 d4 hc3 c5 d5 g5
  go_wp2_with fail
  have e5' : w5.drew.cell? ⟨b, 5, none⟩ = some (.int .i64 (ts.length : Int)) := e5
  have x5' : w5.drew.cell? ⟨w2.heap.size, 5, none⟩ = some (.int .i64 0) := x5
  have f5' : w5.drew.frozen? ⟨w2.heap.size, 5, none⟩ = false := f5
  go_region_law (first
    | (go_simp; go_at_call 42; refine (load_next _ _ _ e5').mono ?_; rintro r w6 ⟨rfl, rfl⟩)
    | (go_simp; go_at_call 41; refine (store_next _ _ _ _ x5' f5').mono ?_; rintro r w7 ⟨rfl, rfl⟩))
  all_goals (
    go_wp2_with fail
    go_ret
    exact ⟨w2.heap.size, w1.heap.size, rfl, hq.drew⟩)
end Go.Proofs.Ytgnahjadjgjecaa
