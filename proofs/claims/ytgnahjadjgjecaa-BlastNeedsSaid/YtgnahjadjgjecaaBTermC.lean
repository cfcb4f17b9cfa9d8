/- blast: a term's literals: a reckoning. -/
import Derived.Test.YtgnahjadjgjecaaBTermA
set_option linter.unusedVariables false
set_option linter.unusedSimpArgs false
namespace Go.Proofs.Ytgnahjadjgjecaa
open Go.RowKit Go.Maps Go.MapKept

set_option maxRecDepth 100000 in
set_option maxHeartbeats 8000000 in
theorem term_op (f : Nat) (ih : TermSpec f) (K Kd : Nat → Prop) (m b q bl : Nat) (ts : List Term) (gs : List Gate) (d : Dn) (n L : Nat) (w : World) (hnf : n < f + 1) (hn : n < ts.length) (hh : hardB ts n = false) (hT : TermAt ts gs d L) (hI : TermIn K Kd w m b q bl ts gs d) (op p s : Nat) (hop : (doW op 0 0).isSome = true) (hp : p < n) (hs : s < n) (hd : d n = none) (hte : ts.getD n default = opT op p s) :
    Calls Try.prog 13 #[.pointer (some ⟨bl, 0, none⟩), .int .i64 n] w (TermPost K w q m (termF (f + 1) ts gs d n)) := by
  obtain ⟨km, kb, hne, hbl, hm, hQ, hD⟩ := hI
  have hKin : ∀ i, K i → i < w.heap.size := QAt.in_ hQ
  have bx1 := (Below.refl w.heap.size w).alloc (Nat.le_refl _) (.cells #[.int .i64 0, .int .i64 0, .int .i64 0, .int .i64 0, .int .i64 0, .int .i64 0, .int .i64 0, .int .i64 0, .int .i64 0, .int .i64 0, .int .i64 0, .int .i64 0, .int .i64 0, .int .i64 0, .int .i64 0, .int .i64 0, .int .i64 0, .int .i64 0, .int .i64 0, .int .i64 0, .int .i64 0, .int .i64 0, .int .i64 0, .int .i64 0, .int .i64 0, .int .i64 0, .int .i64 0, .int .i64 0, .int .i64 0, .int .i64 0, .int .i64 0, .int .i64 0] 60)
  have hR1 := blk_new w (.cells #[.int .i64 0, .int .i64 0, .int .i64 0, .int .i64 0, .int .i64 0, .int .i64 0, .int .i64 0, .int .i64 0, .int .i64 0, .int .i64 0, .int .i64 0, .int .i64 0, .int .i64 0, .int .i64 0, .int .i64 0, .int .i64 0, .int .i64 0, .int .i64 0, .int .i64 0, .int .i64 0, .int .i64 0, .int .i64 0, .int .i64 0, .int .i64 0, .int .i64 0, .int .i64 0, .int .i64 0, .int .i64 0, .int .i64 0, .int .i64 0, .int .i64 0, .int .i64 0] 60)
  have hbl1 := blk_alloc hbl (.cells #[.int .i64 0, .int .i64 0, .int .i64 0, .int .i64 0, .int .i64 0, .int .i64 0, .int .i64 0, .int .i64 0, .int .i64 0, .int .i64 0, .int .i64 0, .int .i64 0, .int .i64 0, .int .i64 0, .int .i64 0, .int .i64 0, .int .i64 0, .int .i64 0, .int .i64 0, .int .i64 0, .int .i64 0, .int .i64 0, .int .i64 0, .int .i64 0, .int .i64 0, .int .i64 0, .int .i64 0, .int .i64 0, .int .i64 0, .int .i64 0, .int .i64 0, .int .i64 0] 60)
  have hm1 := hm.alloc (.cells #[.int .i64 0, .int .i64 0, .int .i64 0, .int .i64 0, .int .i64 0, .int .i64 0, .int .i64 0, .int .i64 0, .int .i64 0, .int .i64 0, .int .i64 0, .int .i64 0, .int .i64 0, .int .i64 0, .int .i64 0, .int .i64 0, .int .i64 0, .int .i64 0, .int .i64 0, .int .i64 0, .int .i64 0, .int .i64 0, .int .i64 0, .int .i64 0, .int .i64 0, .int .i64 0, .int .i64 0, .int .i64 0, .int .i64 0, .int .i64 0, .int .i64 0, .int .i64 0] 60)
  have bx2 := bx1.alloc (by simp) (.cells #[.int .i64 0, .int .i64 0, .int .i64 0, .int .i64 0, .int .i64 0, .int .i64 0, .int .i64 0, .int .i64 0, .int .i64 0, .int .i64 0, .int .i64 0, .int .i64 0, .int .i64 0, .int .i64 0, .int .i64 0, .int .i64 0, .int .i64 0, .int .i64 0, .int .i64 0, .int .i64 0, .int .i64 0, .int .i64 0, .int .i64 0, .int .i64 0, .int .i64 0, .int .i64 0, .int .i64 0, .int .i64 0, .int .i64 0, .int .i64 0, .int .i64 0, .int .i64 0] 60)
  have hs1 : (w.alloc (.cells #[.int .i64 0, .int .i64 0, .int .i64 0, .int .i64 0, .int .i64 0, .int .i64 0, .int .i64 0, .int .i64 0, .int .i64 0, .int .i64 0, .int .i64 0, .int .i64 0, .int .i64 0, .int .i64 0, .int .i64 0, .int .i64 0, .int .i64 0, .int .i64 0, .int .i64 0, .int .i64 0, .int .i64 0, .int .i64 0, .int .i64 0, .int .i64 0, .int .i64 0, .int .i64 0, .int .i64 0, .int .i64 0, .int .i64 0, .int .i64 0, .int .i64 0, .int .i64 0] 60)).heap.size = w.heap.size + 1 := by simp
  have hL2 := blk_new (w.alloc (.cells #[.int .i64 0, .int .i64 0, .int .i64 0, .int .i64 0, .int .i64 0, .int .i64 0, .int .i64 0, .int .i64 0, .int .i64 0, .int .i64 0, .int .i64 0, .int .i64 0, .int .i64 0, .int .i64 0, .int .i64 0, .int .i64 0, .int .i64 0, .int .i64 0, .int .i64 0, .int .i64 0, .int .i64 0, .int .i64 0, .int .i64 0, .int .i64 0, .int .i64 0, .int .i64 0, .int .i64 0, .int .i64 0, .int .i64 0, .int .i64 0, .int .i64 0, .int .i64 0] 60)) (.cells #[.int .i64 0, .int .i64 0, .int .i64 0, .int .i64 0, .int .i64 0, .int .i64 0, .int .i64 0, .int .i64 0, .int .i64 0, .int .i64 0, .int .i64 0, .int .i64 0, .int .i64 0, .int .i64 0, .int .i64 0, .int .i64 0, .int .i64 0, .int .i64 0, .int .i64 0, .int .i64 0, .int .i64 0, .int .i64 0, .int .i64 0, .int .i64 0, .int .i64 0, .int .i64 0, .int .i64 0, .int .i64 0, .int .i64 0, .int .i64 0, .int .i64 0, .int .i64 0] 60)
  rw [hs1] at hL2
  have hR2 := blk_alloc hR1 (.cells #[.int .i64 0, .int .i64 0, .int .i64 0, .int .i64 0, .int .i64 0, .int .i64 0, .int .i64 0, .int .i64 0, .int .i64 0, .int .i64 0, .int .i64 0, .int .i64 0, .int .i64 0, .int .i64 0, .int .i64 0, .int .i64 0, .int .i64 0, .int .i64 0, .int .i64 0, .int .i64 0, .int .i64 0, .int .i64 0, .int .i64 0, .int .i64 0, .int .i64 0, .int .i64 0, .int .i64 0, .int .i64 0, .int .i64 0, .int .i64 0, .int .i64 0, .int .i64 0] 60)
  have hbl2 := blk_alloc hbl1 (.cells #[.int .i64 0, .int .i64 0, .int .i64 0, .int .i64 0, .int .i64 0, .int .i64 0, .int .i64 0, .int .i64 0, .int .i64 0, .int .i64 0, .int .i64 0, .int .i64 0, .int .i64 0, .int .i64 0, .int .i64 0, .int .i64 0, .int .i64 0, .int .i64 0, .int .i64 0, .int .i64 0, .int .i64 0, .int .i64 0, .int .i64 0, .int .i64 0, .int .i64 0, .int .i64 0, .int .i64 0, .int .i64 0, .int .i64 0, .int .i64 0, .int .i64 0, .int .i64 0] 60)
  have hm2 := hm1.alloc (.cells #[.int .i64 0, .int .i64 0, .int .i64 0, .int .i64 0, .int .i64 0, .int .i64 0, .int .i64 0, .int .i64 0, .int .i64 0, .int .i64 0, .int .i64 0, .int .i64 0, .int .i64 0, .int .i64 0, .int .i64 0, .int .i64 0, .int .i64 0, .int .i64 0, .int .i64 0, .int .i64 0, .int .i64 0, .int .i64 0, .int .i64 0, .int .i64 0, .int .i64 0, .int .i64 0, .int .i64 0, .int .i64 0, .int .i64 0, .int .i64 0, .int .i64 0, .int .i64 0] 60)
  have hs2 : ((w.alloc (.cells #[.int .i64 0, .int .i64 0, .int .i64 0, .int .i64 0, .int .i64 0, .int .i64 0, .int .i64 0, .int .i64 0, .int .i64 0, .int .i64 0, .int .i64 0, .int .i64 0, .int .i64 0, .int .i64 0, .int .i64 0, .int .i64 0, .int .i64 0, .int .i64 0, .int .i64 0, .int .i64 0, .int .i64 0, .int .i64 0, .int .i64 0, .int .i64 0, .int .i64 0, .int .i64 0, .int .i64 0, .int .i64 0, .int .i64 0, .int .i64 0, .int .i64 0, .int .i64 0] 60)).alloc (.cells #[.int .i64 0, .int .i64 0, .int .i64 0, .int .i64 0, .int .i64 0, .int .i64 0, .int .i64 0, .int .i64 0, .int .i64 0, .int .i64 0, .int .i64 0, .int .i64 0, .int .i64 0, .int .i64 0, .int .i64 0, .int .i64 0, .int .i64 0, .int .i64 0, .int .i64 0, .int .i64 0, .int .i64 0, .int .i64 0, .int .i64 0, .int .i64 0, .int .i64 0, .int .i64 0, .int .i64 0, .int .i64 0, .int .i64 0, .int .i64 0, .int .i64 0, .int .i64 0] 60)).heap.size = w.heap.size + 2 := by simp
  have hlook := hm1.look (natB_ops Try.underlying3) Try.underlying51 (zbits (w.alloc (.cells #[.int .i64 0, .int .i64 0, .int .i64 0, .int .i64 0, .int .i64 0, .int .i64 0, .int .i64 0, .int .i64 0, .int .i64 0, .int .i64 0, .int .i64 0, .int .i64 0, .int .i64 0, .int .i64 0, .int .i64 0, .int .i64 0, .int .i64 0, .int .i64 0, .int .i64 0, .int .i64 0, .int .i64 0, .int .i64 0, .int .i64 0, .int .i64 0, .int .i64 0, .int .i64 0, .int .i64 0, .int .i64 0, .int .i64 0, .int .i64 0, .int .i64 0, .int .i64 0] 60))) n true
  simp only [if_pos, natB] at hlook
  obtain ⟨c0, c1, c2⟩ := three_cells hbl1
  have lbl : bl < w.heap.size := hKin _ kb
  obtain ⟨r1, hr1⟩ : ∃ x, termF f ts gs d p = x := ⟨_, rfl⟩
  obtain ⟨r2, hr2⟩ : ∃ x, termF f ts r1.1.1 r1.1.2 s = x := ⟨_, rfl⟩
  obtain ⟨o, ho⟩ : ∃ x, doesG op r1.2 r2.2 r2.1.1 = x := ⟨_, rfl⟩
  rw [termF_op hd hte hr1 hr2 ho]
  have hhn0 := hardB_op hT.good hn (by rw [hte]; rfl)
  rw [hh, hte] at hhn0
  have hhn := hhn0.symm
  clear hhn0
  change (decide (37 ≤ op) || hardB ts p || hardB ts s) = false at hhn
  rw [Bool.or_eq_false_iff, Bool.or_eq_false_iff] at hhn
  obtain ⟨⟨h37, hhp⟩, hhs⟩ := hhn
  have hsoft : soft op = true := soft_of hop (by simpa using h37)
  have o1 := term_ok hT.good (M := vr ts p) f gs d p (by omega) (by omega) hhp (fun r h => h) hT.gg hT.dn
  rw [hr1] at o1
  have T1 : TermAt ts r1.1.1 r1.1.2 L := ⟨hT.good, hT.few, o1.good, o1.dn, by have := o1.len; have := hT.cnt; omega, hT.small⟩
  have o2 := term_ok hT.good (M := vr ts s) f r1.1.1 r1.1.2 s (by omega) (by omega) hhs (fun r h => h) T1.gg T1.dn
  rw [hr2] at o2
  have T2 : TermAt ts r2.1.1 r2.1.2 L := ⟨hT.good, hT.few, o2.good, o2.dn, by have := o2.len; have := T1.cnt; omega, hT.small⟩
  have lx : Lits r2.1.1 r1.2 := (o1.dn.lits p r1.2 o1.here).ext o2.ext
  have ly : Lits r2.1.1 r2.2 := o2.dn.lits s r2.2 o2.here
  have hl2 : r2.1.1.length < 199000 := by have := T2.cnt; have := T2.small; have := cntD_le ts r2.1.2; omega
  have c1 : ∀ K w, TermIn K Kd w m b q bl ts gs d → Calls Try.prog 13 #[.pointer (some ⟨bl, 0, none⟩), .int .i64 p] w (TermPost K w q m r1) := fun K w h => by rw [← hr1]; exact ih K Kd m b q bl ts gs d p L w (by omega) (by omega) hhp hT h
  have c2 : ∀ K w, TermIn K Kd w m b q bl ts r1.1.1 r1.1.2 → Calls Try.prog 13 #[.pointer (some ⟨bl, 0, none⟩), .int .i64 s] w (TermPost K w q m r2) := fun K w h => by rw [← hr2]; exact ih K Kd m b q bl ts r1.1.1 r1.1.2 s L w (by omega) (by omega) hhs T1 h
  have c3 : ∀ K w, QS K w q r2.1.1 → Calls Try.prog 33 #[.pointer (some ⟨q, 0, none⟩), .int .i64 op, .agg (zV r1.2), .agg (zV r2.2)] w (WordPost K w q o) := fun K w h => by rw [← ho]; exact bdoes_any K q r2.1.1 o2.good r1.2 r2.2 lx ly hl2 op hsoft w h
  have C1 := Lib.hid c1
  have C2 := Lib.hid c2
  have C3 := Lib.hid c3
  have hfew := hT.few
  clear c1 c2 c3 hr1 hr2 ho hh hhp hhs h37 hop hsoft o1 o2 T1 T2 lx ly hl2 ih
  rw [show dnV d n = none by unfold dnV; rw [hd]; rfl] at hlook
  simp only [Option.getD_none, Option.isSome_none] at hlook
  have hbl3 := (setRow_other ((w.alloc (.cells #[.int .i64 0, .int .i64 0, .int .i64 0, .int .i64 0, .int .i64 0, .int .i64 0, .int .i64 0, .int .i64 0, .int .i64 0, .int .i64 0, .int .i64 0, .int .i64 0, .int .i64 0, .int .i64 0, .int .i64 0, .int .i64 0, .int .i64 0, .int .i64 0, .int .i64 0, .int .i64 0, .int .i64 0, .int .i64 0, .int .i64 0, .int .i64 0, .int .i64 0, .int .i64 0, .int .i64 0, .int .i64 0, .int .i64 0, .int .i64 0, .int .i64 0, .int .i64 0] 60)).alloc (.cells #[.int .i64 0, .int .i64 0, .int .i64 0, .int .i64 0, .int .i64 0, .int .i64 0, .int .i64 0, .int .i64 0, .int .i64 0, .int .i64 0, .int .i64 0, .int .i64 0, .int .i64 0, .int .i64 0, .int .i64 0, .int .i64 0, .int .i64 0, .int .i64 0, .int .i64 0, .int .i64 0, .int .i64 0, .int .i64 0, .int .i64 0, .int .i64 0, .int .i64 0, .int .i64 0, .int .i64 0, .int .i64 0, .int .i64 0, .int .i64 0, .int .i64 0, .int .i64 0] 60)) (w.heap.size + 1) bl (zV fun _ => 0) (by omega)).trans hbl2
  have hR3 := (setRow_other ((w.alloc (.cells #[.int .i64 0, .int .i64 0, .int .i64 0, .int .i64 0, .int .i64 0, .int .i64 0, .int .i64 0, .int .i64 0, .int .i64 0, .int .i64 0, .int .i64 0, .int .i64 0, .int .i64 0, .int .i64 0, .int .i64 0, .int .i64 0, .int .i64 0, .int .i64 0, .int .i64 0, .int .i64 0, .int .i64 0, .int .i64 0, .int .i64 0, .int .i64 0, .int .i64 0, .int .i64 0, .int .i64 0, .int .i64 0, .int .i64 0, .int .i64 0, .int .i64 0, .int .i64 0] 60)).alloc (.cells #[.int .i64 0, .int .i64 0, .int .i64 0, .int .i64 0, .int .i64 0, .int .i64 0, .int .i64 0, .int .i64 0, .int .i64 0, .int .i64 0, .int .i64 0, .int .i64 0, .int .i64 0, .int .i64 0, .int .i64 0, .int .i64 0, .int .i64 0, .int .i64 0, .int .i64 0, .int .i64 0, .int .i64 0, .int .i64 0, .int .i64 0, .int .i64 0, .int .i64 0, .int .i64 0, .int .i64 0, .int .i64 0, .int .i64 0, .int .i64 0, .int .i64 0, .int .i64 0] 60)) (w.heap.size + 1) w.heap.size (zV fun _ => 0) (by omega)).trans hR2
  have hm3 := hm2.block (setRow_other ((w.alloc (.cells #[.int .i64 0, .int .i64 0, .int .i64 0, .int .i64 0, .int .i64 0, .int .i64 0, .int .i64 0, .int .i64 0, .int .i64 0, .int .i64 0, .int .i64 0, .int .i64 0, .int .i64 0, .int .i64 0, .int .i64 0, .int .i64 0, .int .i64 0, .int .i64 0, .int .i64 0, .int .i64 0, .int .i64 0, .int .i64 0, .int .i64 0, .int .i64 0, .int .i64 0, .int .i64 0, .int .i64 0, .int .i64 0, .int .i64 0, .int .i64 0, .int .i64 0, .int .i64 0] 60)).alloc (.cells #[.int .i64 0, .int .i64 0, .int .i64 0, .int .i64 0, .int .i64 0, .int .i64 0, .int .i64 0, .int .i64 0, .int .i64 0, .int .i64 0, .int .i64 0, .int .i64 0, .int .i64 0, .int .i64 0, .int .i64 0, .int .i64 0, .int .i64 0, .int .i64 0, .int .i64 0, .int .i64 0, .int .i64 0, .int .i64 0, .int .i64 0, .int .i64 0, .int .i64 0, .int .i64 0, .int .i64 0, .int .i64 0, .int .i64 0, .int .i64 0, .int .i64 0, .int .i64 0] 60)) (w.heap.size + 1) m (zV fun _ => 0) (by have := hKin _ km; omega))
  have hk3 : Kept (Km K m) w (((w.alloc (.cells #[.int .i64 0, .int .i64 0, .int .i64 0, .int .i64 0, .int .i64 0, .int .i64 0, .int .i64 0, .int .i64 0, .int .i64 0, .int .i64 0, .int .i64 0, .int .i64 0, .int .i64 0, .int .i64 0, .int .i64 0, .int .i64 0, .int .i64 0, .int .i64 0, .int .i64 0, .int .i64 0, .int .i64 0, .int .i64 0, .int .i64 0, .int .i64 0, .int .i64 0, .int .i64 0, .int .i64 0, .int .i64 0, .int .i64 0, .int .i64 0, .int .i64 0, .int .i64 0] 60)).alloc (.cells #[.int .i64 0, .int .i64 0, .int .i64 0, .int .i64 0, .int .i64 0, .int .i64 0, .int .i64 0, .int .i64 0, .int .i64 0, .int .i64 0, .int .i64 0, .int .i64 0, .int .i64 0, .int .i64 0, .int .i64 0, .int .i64 0, .int .i64 0, .int .i64 0, .int .i64 0, .int .i64 0, .int .i64 0, .int .i64 0, .int .i64 0, .int .i64 0, .int .i64 0, .int .i64 0, .int .i64 0, .int .i64 0, .int .i64 0, .int .i64 0, .int .i64 0, .int .i64 0] 60)).setRow (w.heap.size + 1) (zV fun _ => 0)) := (Kept.below bx2).trans ((row_kept _ _ _).mono fun i hi => by have := hKin i hi.1; show i ≠ w.heap.size + 1; omega)
  have hQ3 : QS (More K w ((w.alloc (.cells #[.int .i64 0, .int .i64 0, .int .i64 0, .int .i64 0, .int .i64 0, .int .i64 0, .int .i64 0, .int .i64 0, .int .i64 0, .int .i64 0, .int .i64 0, .int .i64 0, .int .i64 0, .int .i64 0, .int .i64 0, .int .i64 0, .int .i64 0, .int .i64 0, .int .i64 0, .int .i64 0, .int .i64 0, .int .i64 0, .int .i64 0, .int .i64 0, .int .i64 0, .int .i64 0, .int .i64 0, .int .i64 0, .int .i64 0, .int .i64 0, .int .i64 0, .int .i64 0] 60)).alloc (.cells #[.int .i64 0, .int .i64 0, .int .i64 0, .int .i64 0, .int .i64 0, .int .i64 0, .int .i64 0, .int .i64 0, .int .i64 0, .int .i64 0, .int .i64 0, .int .i64 0, .int .i64 0, .int .i64 0, .int .i64 0, .int .i64 0, .int .i64 0, .int .i64 0, .int .i64 0, .int .i64 0, .int .i64 0, .int .i64 0, .int .i64 0, .int .i64 0, .int .i64 0, .int .i64 0, .int .i64 0, .int .i64 0, .int .i64 0, .int .i64 0, .int .i64 0, .int .i64 0] 60))) (((w.alloc (.cells #[.int .i64 0, .int .i64 0, .int .i64 0, .int .i64 0, .int .i64 0, .int .i64 0, .int .i64 0, .int .i64 0, .int .i64 0, .int .i64 0, .int .i64 0, .int .i64 0, .int .i64 0, .int .i64 0, .int .i64 0, .int .i64 0, .int .i64 0, .int .i64 0, .int .i64 0, .int .i64 0, .int .i64 0, .int .i64 0, .int .i64 0, .int .i64 0, .int .i64 0, .int .i64 0, .int .i64 0, .int .i64 0, .int .i64 0, .int .i64 0, .int .i64 0, .int .i64 0] 60)).alloc (.cells #[.int .i64 0, .int .i64 0, .int .i64 0, .int .i64 0, .int .i64 0, .int .i64 0, .int .i64 0, .int .i64 0, .int .i64 0, .int .i64 0, .int .i64 0, .int .i64 0, .int .i64 0, .int .i64 0, .int .i64 0, .int .i64 0, .int .i64 0, .int .i64 0, .int .i64 0, .int .i64 0, .int .i64 0, .int .i64 0, .int .i64 0, .int .i64 0, .int .i64 0, .int .i64 0, .int .i64 0, .int .i64 0, .int .i64 0, .int .i64 0, .int .i64 0, .int .i64 0] 60)).setRow (w.heap.size + 1) (zV fun _ => 0)) q gs := QAt.moved (QAt.more hQ bx2) (row_kept _ _ _) (Or.inr ⟨Nat.le_add_right _ _, by omega⟩)
  have kk3 : ∀ i, K i → More K w ((w.alloc (.cells #[.int .i64 0, .int .i64 0, .int .i64 0, .int .i64 0, .int .i64 0, .int .i64 0, .int .i64 0, .int .i64 0, .int .i64 0, .int .i64 0, .int .i64 0, .int .i64 0, .int .i64 0, .int .i64 0, .int .i64 0, .int .i64 0, .int .i64 0, .int .i64 0, .int .i64 0, .int .i64 0, .int .i64 0, .int .i64 0, .int .i64 0, .int .i64 0, .int .i64 0, .int .i64 0, .int .i64 0, .int .i64 0, .int .i64 0, .int .i64 0, .int .i64 0, .int .i64 0] 60)).alloc (.cells #[.int .i64 0, .int .i64 0, .int .i64 0, .int .i64 0, .int .i64 0, .int .i64 0, .int .i64 0, .int .i64 0, .int .i64 0, .int .i64 0, .int .i64 0, .int .i64 0, .int .i64 0, .int .i64 0, .int .i64 0, .int .i64 0, .int .i64 0, .int .i64 0, .int .i64 0, .int .i64 0, .int .i64 0, .int .i64 0, .int .i64 0, .int .i64 0, .int .i64 0, .int .i64 0, .int .i64 0, .int .i64 0, .int .i64 0, .int .i64 0, .int .i64 0, .int .i64 0] 60)) i := fun i hi => Or.inl hi
  have kr3 : More K w ((w.alloc (.cells #[.int .i64 0, .int .i64 0, .int .i64 0, .int .i64 0, .int .i64 0, .int .i64 0, .int .i64 0, .int .i64 0, .int .i64 0, .int .i64 0, .int .i64 0, .int .i64 0, .int .i64 0, .int .i64 0, .int .i64 0, .int .i64 0, .int .i64 0, .int .i64 0, .int .i64 0, .int .i64 0, .int .i64 0, .int .i64 0, .int .i64 0, .int .i64 0, .int .i64 0, .int .i64 0, .int .i64 0, .int .i64 0, .int .i64 0, .int .i64 0, .int .i64 0, .int .i64 0] 60)).alloc (.cells #[.int .i64 0, .int .i64 0, .int .i64 0, .int .i64 0, .int .i64 0, .int .i64 0, .int .i64 0, .int .i64 0, .int .i64 0, .int .i64 0, .int .i64 0, .int .i64 0, .int .i64 0, .int .i64 0, .int .i64 0, .int .i64 0, .int .i64 0, .int .i64 0, .int .i64 0, .int .i64 0, .int .i64 0, .int .i64 0, .int .i64 0, .int .i64 0, .int .i64 0, .int .i64 0, .int .i64 0, .int .i64 0, .int .i64 0, .int .i64 0, .int .i64 0, .int .i64 0] 60)) w.heap.size := Or.inr ⟨Nat.le_refl _, by omega⟩
  have hs3 : w.heap.size + 2 ≤ (((w.alloc (.cells #[.int .i64 0, .int .i64 0, .int .i64 0, .int .i64 0, .int .i64 0, .int .i64 0, .int .i64 0, .int .i64 0, .int .i64 0, .int .i64 0, .int .i64 0, .int .i64 0, .int .i64 0, .int .i64 0, .int .i64 0, .int .i64 0, .int .i64 0, .int .i64 0, .int .i64 0, .int .i64 0, .int .i64 0, .int .i64 0, .int .i64 0, .int .i64 0, .int .i64 0, .int .i64 0, .int .i64 0, .int .i64 0, .int .i64 0, .int .i64 0, .int .i64 0, .int .i64 0] 60)).alloc (.cells #[.int .i64 0, .int .i64 0, .int .i64 0, .int .i64 0, .int .i64 0, .int .i64 0, .int .i64 0, .int .i64 0, .int .i64 0, .int .i64 0, .int .i64 0, .int .i64 0, .int .i64 0, .int .i64 0, .int .i64 0, .int .i64 0, .int .i64 0, .int .i64 0, .int .i64 0, .int .i64 0, .int .i64 0, .int .i64 0, .int .i64 0, .int .i64 0, .int .i64 0, .int .i64 0, .int .i64 0, .int .i64 0, .int .i64 0, .int .i64 0, .int .i64 0, .int .i64 0] 60)).setRow (w.heap.size + 1) (zV fun _ => 0)).heap.size := by have := (row_kept ((w.alloc (.cells #[.int .i64 0, .int .i64 0, .int .i64 0, .int .i64 0, .int .i64 0, .int .i64 0, .int .i64 0, .int .i64 0, .int .i64 0, .int .i64 0, .int .i64 0, .int .i64 0, .int .i64 0, .int .i64 0, .int .i64 0, .int .i64 0, .int .i64 0, .int .i64 0, .int .i64 0, .int .i64 0, .int .i64 0, .int .i64 0, .int .i64 0, .int .i64 0, .int .i64 0, .int .i64 0, .int .i64 0, .int .i64 0, .int .i64 0, .int .i64 0, .int .i64 0, .int .i64 0] 60)).alloc (.cells #[.int .i64 0, .int .i64 0, .int .i64 0, .int .i64 0, .int .i64 0, .int .i64 0, .int .i64 0, .int .i64 0, .int .i64 0, .int .i64 0, .int .i64 0, .int .i64 0, .int .i64 0, .int .i64 0, .int .i64 0, .int .i64 0, .int .i64 0, .int .i64 0, .int .i64 0, .int .i64 0, .int .i64 0, .int .i64 0, .int .i64 0, .int .i64 0, .int .i64 0, .int .i64 0, .int .i64 0, .int .i64 0, .int .i64 0, .int .i64 0, .int .i64 0, .int .i64 0] 60)) (w.heap.size + 1) (zV fun _ => 0)).size; omega
  obtain ⟨x0, x1, x2⟩ := three_cells hbl3
  have hfew := hT.few
  have hN := node_any Kd b n ts (by omega) hn _ (hD _ hk3)
  rw [hte] at hN
  change Calls Try.prog 29 #[.pointer (some ⟨b, 0, none⟩), .int .i64 n] _ (fun r w' => r = .returned (.tuple #[.agg #[.int .i64 2, .int .u32 0, .int .i64 (op : Int), .int .i64 (p : Int), .int .i64 (s : Int)], .int .i64 0]) ∧ Below _ _ w') at hN
  generalize More K w ((w.alloc (.cells #[.int .i64 0, .int .i64 0, .int .i64 0, .int .i64 0, .int .i64 0, .int .i64 0, .int .i64 0, .int .i64 0, .int .i64 0, .int .i64 0, .int .i64 0, .int .i64 0, .int .i64 0, .int .i64 0, .int .i64 0, .int .i64 0, .int .i64 0, .int .i64 0, .int .i64 0, .int .i64 0, .int .i64 0, .int .i64 0, .int .i64 0, .int .i64 0, .int .i64 0, .int .i64 0, .int .i64 0, .int .i64 0, .int .i64 0, .int .i64 0, .int .i64 0, .int .i64 0] 60)).alloc (.cells #[.int .i64 0, .int .i64 0, .int .i64 0, .int .i64 0, .int .i64 0, .int .i64 0, .int .i64 0, .int .i64 0, .int .i64 0, .int .i64 0, .int .i64 0, .int .i64 0, .int .i64 0, .int .i64 0, .int .i64 0, .int .i64 0, .int .i64 0, .int .i64 0, .int .i64 0, .int .i64 0, .int .i64 0, .int .i64 0, .int .i64 0, .int .i64 0, .int .i64 0, .int .i64 0, .int .i64 0, .int .i64 0, .int .i64 0, .int .i64 0, .int .i64 0, .int .i64 0] 60)) = K3 at *
  clear bx1 bx2 hm1 hm2 hbl1 hbl2 hR1 hR2 hm hbl hQ
  go_enter Try.func13, Try.ntmps13
  go_wp2_with (first | (refine wpList_store_row rfl 60 (.tmp 5) (.tmp 19) rfl (w.heap.size + 1) (zV fun _ => 0) rfl rfl 60 _ hL2 (by rw [zV_size]; exact info_bits) (by rw [zV_size]; rfl) (one_zV _) ?_) | fail)
  clear hL2 hs1 hs2 hlook c0 c1 c2 x0 x1 x2
  generalize ((w.alloc (.cells #[.int .i64 0, .int .i64 0, .int .i64 0, .int .i64 0, .int .i64 0, .int .i64 0, .int .i64 0, .int .i64 0, .int .i64 0, .int .i64 0, .int .i64 0, .int .i64 0, .int .i64 0, .int .i64 0, .int .i64 0, .int .i64 0, .int .i64 0, .int .i64 0, .int .i64 0, .int .i64 0, .int .i64 0, .int .i64 0, .int .i64 0, .int .i64 0, .int .i64 0, .int .i64 0, .int .i64 0, .int .i64 0, .int .i64 0, .int .i64 0, .int .i64 0, .int .i64 0] 60)).alloc (.cells #[.int .i64 0, .int .i64 0, .int .i64 0, .int .i64 0, .int .i64 0, .int .i64 0, .int .i64 0, .int .i64 0, .int .i64 0, .int .i64 0, .int .i64 0, .int .i64 0, .int .i64 0, .int .i64 0, .int .i64 0, .int .i64 0, .int .i64 0, .int .i64 0, .int .i64 0, .int .i64 0, .int .i64 0, .int .i64 0, .int .i64 0, .int .i64 0, .int .i64 0, .int .i64 0, .int .i64 0, .int .i64 0, .int .i64 0, .int .i64 0, .int .i64 0, .int .i64 0] 60)).setRow (w.heap.size + 1) (zV fun _ => 0) = w3 at *
  refine hN.mono ?_
  rintro r w4 ⟨rfl, b4⟩
  have hs4 : w.heap.size + 2 ≤ w4.heap.size := Nat.le_trans hs3 b4.size
  have hbl4 := blk_below hbl3 b4
  have hR4 := blk_below hR3 b4
  have hm4 := hm3.below b4 hm3.lt
  have hQ4 := QAt.below hQ3 b4
  have hk4 := hk3.trans (Kept.below b4)
  have bx5 := (Below.refl w4.heap.size w4).alloc (Nat.le_refl _) (.cells #[.int .i64 2, .int .u32 0, .int .i64 (op : Int), .int .i64 (p : Int), .int .i64 (s : Int)] 82)
  have bx6 := bx5.alloc (by simp) (.cells #[.int .i64 0, .int .i64 0, .int .i64 0, .int .i64 0, .int .i64 0, .int .i64 0, .int .i64 0, .int .i64 0, .int .i64 0, .int .i64 0, .int .i64 0, .int .i64 0, .int .i64 0, .int .i64 0, .int .i64 0, .int .i64 0, .int .i64 0, .int .i64 0, .int .i64 0, .int .i64 0, .int .i64 0, .int .i64 0, .int .i64 0, .int .i64 0, .int .i64 0, .int .i64 0, .int .i64 0, .int .i64 0, .int .i64 0, .int .i64 0, .int .i64 0, .int .i64 0] 60)
  have hT5 := blk_new w4 (.cells #[.int .i64 2, .int .u32 0, .int .i64 (op : Int), .int .i64 (p : Int), .int .i64 (s : Int)] 82)
  have hT6 := blk_alloc hT5 (.cells #[.int .i64 0, .int .i64 0, .int .i64 0, .int .i64 0, .int .i64 0, .int .i64 0, .int .i64 0, .int .i64 0, .int .i64 0, .int .i64 0, .int .i64 0, .int .i64 0, .int .i64 0, .int .i64 0, .int .i64 0, .int .i64 0, .int .i64 0, .int .i64 0, .int .i64 0, .int .i64 0, .int .i64 0, .int .i64 0, .int .i64 0, .int .i64 0, .int .i64 0, .int .i64 0, .int .i64 0, .int .i64 0, .int .i64 0, .int .i64 0, .int .i64 0, .int .i64 0] 60)
  have hZ6 := blk_new (w4.alloc (.cells #[.int .i64 2, .int .u32 0, .int .i64 (op : Int), .int .i64 (p : Int), .int .i64 (s : Int)] 82)) (.cells #[.int .i64 0, .int .i64 0, .int .i64 0, .int .i64 0, .int .i64 0, .int .i64 0, .int .i64 0, .int .i64 0, .int .i64 0, .int .i64 0, .int .i64 0, .int .i64 0, .int .i64 0, .int .i64 0, .int .i64 0, .int .i64 0, .int .i64 0, .int .i64 0, .int .i64 0, .int .i64 0, .int .i64 0, .int .i64 0, .int .i64 0, .int .i64 0, .int .i64 0, .int .i64 0, .int .i64 0, .int .i64 0, .int .i64 0, .int .i64 0, .int .i64 0, .int .i64 0] 60)
  have hs5 : (w4.alloc (.cells #[.int .i64 2, .int .u32 0, .int .i64 (op : Int), .int .i64 (p : Int), .int .i64 (s : Int)] 82)).heap.size = w4.heap.size + 1 := by simp
  rw [hs5] at hZ6
  have hs6 : ((w4.alloc (.cells #[.int .i64 2, .int .u32 0, .int .i64 (op : Int), .int .i64 (p : Int), .int .i64 (s : Int)] 82)).alloc (.cells #[.int .i64 0, .int .i64 0, .int .i64 0, .int .i64 0, .int .i64 0, .int .i64 0, .int .i64 0, .int .i64 0, .int .i64 0, .int .i64 0, .int .i64 0, .int .i64 0, .int .i64 0, .int .i64 0, .int .i64 0, .int .i64 0, .int .i64 0, .int .i64 0, .int .i64 0, .int .i64 0, .int .i64 0, .int .i64 0, .int .i64 0, .int .i64 0, .int .i64 0, .int .i64 0, .int .i64 0, .int .i64 0, .int .i64 0, .int .i64 0, .int .i64 0, .int .i64 0] 60)).heap.size = w4.heap.size + 2 := by simp
  have hbl6 := blk_below hbl4 bx6
  have hR6 := blk_below hR4 bx6
  have hm6 := hm4.below bx6 hm4.lt
  have hQ6 := QAt.more hQ4 bx6
  have hk6 := hk4.trans (Kept.below bx6)
  have kk6 : ∀ i, K i → More K3 w4 ((w4.alloc (.cells #[.int .i64 2, .int .u32 0, .int .i64 (op : Int), .int .i64 (p : Int), .int .i64 (s : Int)] 82)).alloc (.cells #[.int .i64 0, .int .i64 0, .int .i64 0, .int .i64 0, .int .i64 0, .int .i64 0, .int .i64 0, .int .i64 0, .int .i64 0, .int .i64 0, .int .i64 0, .int .i64 0, .int .i64 0, .int .i64 0, .int .i64 0, .int .i64 0, .int .i64 0, .int .i64 0, .int .i64 0, .int .i64 0, .int .i64 0, .int .i64 0, .int .i64 0, .int .i64 0, .int .i64 0, .int .i64 0, .int .i64 0, .int .i64 0, .int .i64 0, .int .i64 0, .int .i64 0, .int .i64 0] 60)) i := fun i hi => Or.inl (kk3 i hi)
  have kr6 : More K3 w4 ((w4.alloc (.cells #[.int .i64 2, .int .u32 0, .int .i64 (op : Int), .int .i64 (p : Int), .int .i64 (s : Int)] 82)).alloc (.cells #[.int .i64 0, .int .i64 0, .int .i64 0, .int .i64 0, .int .i64 0, .int .i64 0, .int .i64 0, .int .i64 0, .int .i64 0, .int .i64 0, .int .i64 0, .int .i64 0, .int .i64 0, .int .i64 0, .int .i64 0, .int .i64 0, .int .i64 0, .int .i64 0, .int .i64 0, .int .i64 0, .int .i64 0, .int .i64 0, .int .i64 0, .int .i64 0, .int .i64 0, .int .i64 0, .int .i64 0, .int .i64 0, .int .i64 0, .int .i64 0, .int .i64 0, .int .i64 0] 60)) w.heap.size := Or.inl kr3
  have kt6 : More K3 w4 ((w4.alloc (.cells #[.int .i64 2, .int .u32 0, .int .i64 (op : Int), .int .i64 (p : Int), .int .i64 (s : Int)] 82)).alloc (.cells #[.int .i64 0, .int .i64 0, .int .i64 0, .int .i64 0, .int .i64 0, .int .i64 0, .int .i64 0, .int .i64 0, .int .i64 0, .int .i64 0, .int .i64 0, .int .i64 0, .int .i64 0, .int .i64 0, .int .i64 0, .int .i64 0, .int .i64 0, .int .i64 0, .int .i64 0, .int .i64 0, .int .i64 0, .int .i64 0, .int .i64 0, .int .i64 0, .int .i64 0, .int .i64 0, .int .i64 0, .int .i64 0, .int .i64 0, .int .i64 0, .int .i64 0, .int .i64 0] 60)) w4.heap.size := Or.inr ⟨Nat.le_refl _, by omega⟩
  have kz6 : More K3 w4 ((w4.alloc (.cells #[.int .i64 2, .int .u32 0, .int .i64 (op : Int), .int .i64 (p : Int), .int .i64 (s : Int)] 82)).alloc (.cells #[.int .i64 0, .int .i64 0, .int .i64 0, .int .i64 0, .int .i64 0, .int .i64 0, .int .i64 0, .int .i64 0, .int .i64 0, .int .i64 0, .int .i64 0, .int .i64 0, .int .i64 0, .int .i64 0, .int .i64 0, .int .i64 0, .int .i64 0, .int .i64 0, .int .i64 0, .int .i64 0, .int .i64 0, .int .i64 0, .int .i64 0, .int .i64 0, .int .i64 0, .int .i64 0, .int .i64 0, .int .i64 0, .int .i64 0, .int .i64 0, .int .i64 0, .int .i64 0] 60)) (w4.heap.size + 1) := Or.inr ⟨Nat.le_add_right _ _, by omega⟩
  generalize More K3 w4 ((w4.alloc (.cells #[.int .i64 2, .int .u32 0, .int .i64 (op : Int), .int .i64 (p : Int), .int .i64 (s : Int)] 82)).alloc (.cells #[.int .i64 0, .int .i64 0, .int .i64 0, .int .i64 0, .int .i64 0, .int .i64 0, .int .i64 0, .int .i64 0, .int .i64 0, .int .i64 0, .int .i64 0, .int .i64 0, .int .i64 0, .int .i64 0, .int .i64 0, .int .i64 0, .int .i64 0, .int .i64 0, .int .i64 0, .int .i64 0, .int .i64 0, .int .i64 0, .int .i64 0, .int .i64 0, .int .i64 0, .int .i64 0, .int .i64 0, .int .i64 0, .int .i64 0, .int .i64 0, .int .i64 0, .int .i64 0] 60)) = K6 at *
  obtain ⟨z0, z1, z2, z3, z4⟩ := five_cells hT6
  clear hbl3 hR3 hm3 hQ3 hk3 hN b4 hbl4 hR4 hm4 hQ4 hk4 bx5 bx6 hT5 hs5
  go_wp2_with fail
  refine (C1.out K6 _ ⟨kk6 _ km, kk6 _ kb, hne, hbl6, hm6, hQ6, fun w' hk' => hD w' (hk6.trans (hk'.mono fun i hi => ⟨kk6 i hi.1, hi.2⟩))⟩).mono ?_
  rintro r w7 ⟨rfl, hQ7, hm7, k7⟩
  have lm := hKin _ km
  have hs7 : w4.heap.size + 2 ≤ w7.heap.size := by have := k7.size; omega
  have hbl7 := k7.blk ⟨kk6 _ kb, hne⟩ hbl6
  have hR7 := k7.blk ⟨kr6, by omega⟩ hR6
  have hT7 := k7.blk ⟨kt6, by omega⟩ hT6
  have hZ7 := k7.blk ⟨kz6, by omega⟩ hZ6
  have hk7 := hk6.trans (k7.mono fun i hi => ⟨kk6 i hi.1, hi.2⟩)
  have bx := (Below.refl w7.heap.size w7).alloc (Nat.le_refl _) (.cells #[.int .i64 0, .int .i64 0, .int .i64 0, .int .i64 0, .int .i64 0, .int .i64 0, .int .i64 0, .int .i64 0, .int .i64 0, .int .i64 0, .int .i64 0, .int .i64 0, .int .i64 0, .int .i64 0, .int .i64 0, .int .i64 0, .int .i64 0, .int .i64 0, .int .i64 0, .int .i64 0, .int .i64 0, .int .i64 0, .int .i64 0, .int .i64 0, .int .i64 0, .int .i64 0, .int .i64 0, .int .i64 0, .int .i64 0, .int .i64 0, .int .i64 0, .int .i64 0] 60)
  have hX8 := blk_new w7 (.cells #[.int .i64 0, .int .i64 0, .int .i64 0, .int .i64 0, .int .i64 0, .int .i64 0, .int .i64 0, .int .i64 0, .int .i64 0, .int .i64 0, .int .i64 0, .int .i64 0, .int .i64 0, .int .i64 0, .int .i64 0, .int .i64 0, .int .i64 0, .int .i64 0, .int .i64 0, .int .i64 0, .int .i64 0, .int .i64 0, .int .i64 0, .int .i64 0, .int .i64 0, .int .i64 0, .int .i64 0, .int .i64 0, .int .i64 0, .int .i64 0, .int .i64 0, .int .i64 0] 60)
  have hs8 : (w7.alloc (.cells #[.int .i64 0, .int .i64 0, .int .i64 0, .int .i64 0, .int .i64 0, .int .i64 0, .int .i64 0, .int .i64 0, .int .i64 0, .int .i64 0, .int .i64 0, .int .i64 0, .int .i64 0, .int .i64 0, .int .i64 0, .int .i64 0, .int .i64 0, .int .i64 0, .int .i64 0, .int .i64 0, .int .i64 0, .int .i64 0, .int .i64 0, .int .i64 0, .int .i64 0, .int .i64 0, .int .i64 0, .int .i64 0, .int .i64 0, .int .i64 0, .int .i64 0, .int .i64 0] 60)).heap.size = w7.heap.size + 1 := by simp
  have hQ9 := QAt.moved (QAt.more hQ7 bx) (row_kept (w7.alloc (.cells #[.int .i64 0, .int .i64 0, .int .i64 0, .int .i64 0, .int .i64 0, .int .i64 0, .int .i64 0, .int .i64 0, .int .i64 0, .int .i64 0, .int .i64 0, .int .i64 0, .int .i64 0, .int .i64 0, .int .i64 0, .int .i64 0, .int .i64 0, .int .i64 0, .int .i64 0, .int .i64 0, .int .i64 0, .int .i64 0, .int .i64 0, .int .i64 0, .int .i64 0, .int .i64 0, .int .i64 0, .int .i64 0, .int .i64 0, .int .i64 0, .int .i64 0, .int .i64 0] 60)) w7.heap.size (zV r1.2)) (Or.inr ⟨Nat.le_refl _, by omega⟩)
  have kk9 : ∀ i, K6 i → More K6 w7 (w7.alloc (.cells #[.int .i64 0, .int .i64 0, .int .i64 0, .int .i64 0, .int .i64 0, .int .i64 0, .int .i64 0, .int .i64 0, .int .i64 0, .int .i64 0, .int .i64 0, .int .i64 0, .int .i64 0, .int .i64 0, .int .i64 0, .int .i64 0, .int .i64 0, .int .i64 0, .int .i64 0, .int .i64 0, .int .i64 0, .int .i64 0, .int .i64 0, .int .i64 0, .int .i64 0, .int .i64 0, .int .i64 0, .int .i64 0, .int .i64 0, .int .i64 0, .int .i64 0, .int .i64 0] 60)) i := fun i hi => Or.inl hi
  have kx9 : More K6 w7 (w7.alloc (.cells #[.int .i64 0, .int .i64 0, .int .i64 0, .int .i64 0, .int .i64 0, .int .i64 0, .int .i64 0, .int .i64 0, .int .i64 0, .int .i64 0, .int .i64 0, .int .i64 0, .int .i64 0, .int .i64 0, .int .i64 0, .int .i64 0, .int .i64 0, .int .i64 0, .int .i64 0, .int .i64 0, .int .i64 0, .int .i64 0, .int .i64 0, .int .i64 0, .int .i64 0, .int .i64 0, .int .i64 0, .int .i64 0, .int .i64 0, .int .i64 0, .int .i64 0, .int .i64 0] 60)) w7.heap.size := Or.inr ⟨Nat.le_refl _, by omega⟩
  have ks := row_kept (w7.alloc (.cells #[.int .i64 0, .int .i64 0, .int .i64 0, .int .i64 0, .int .i64 0, .int .i64 0, .int .i64 0, .int .i64 0, .int .i64 0, .int .i64 0, .int .i64 0, .int .i64 0, .int .i64 0, .int .i64 0, .int .i64 0, .int .i64 0, .int .i64 0, .int .i64 0, .int .i64 0, .int .i64 0, .int .i64 0, .int .i64 0, .int .i64 0, .int .i64 0, .int .i64 0, .int .i64 0, .int .i64 0, .int .i64 0, .int .i64 0, .int .i64 0, .int .i64 0, .int .i64 0] 60)) w7.heap.size (zV r1.2)
  have hbl9 := ks.blk (show bl ≠ w7.heap.size by omega) (blk_below hbl7 bx)
  have hR9 := ks.blk (show w.heap.size ≠ w7.heap.size by omega) (blk_below hR7 bx)
  have hT9 := ks.blk (show w4.heap.size ≠ w7.heap.size by omega) (blk_below hT7 bx)
  have hZ9 := ks.blk (show w4.heap.size + 1 ≠ w7.heap.size by omega) (blk_below hZ7 bx)
  have hm8 := hm7.below bx hm7.lt
  have hm9 := hm8.block (ks.block m hm8.lt (show m ≠ w7.heap.size by omega))
  have hk9 := (hk7.trans (Kept.below bx)).trans (ks.mono fun i hi => by have := hKin i hi.1; show i ≠ w7.heap.size; omega)
  have hX9 : ZAt 60 ((w7.alloc (.cells #[.int .i64 0, .int .i64 0, .int .i64 0, .int .i64 0, .int .i64 0, .int .i64 0, .int .i64 0, .int .i64 0, .int .i64 0, .int .i64 0, .int .i64 0, .int .i64 0, .int .i64 0, .int .i64 0, .int .i64 0, .int .i64 0, .int .i64 0, .int .i64 0, .int .i64 0, .int .i64 0, .int .i64 0, .int .i64 0, .int .i64 0, .int .i64 0, .int .i64 0, .int .i64 0, .int .i64 0, .int .i64 0, .int .i64 0, .int .i64 0, .int .i64 0, .int .i64 0] 60)).setRow w7.heap.size (zV r1.2)) w7.heap.size r1.2 := setRow_heap _ _ _ _ _ _ hX8
  generalize More K6 w7 (w7.alloc (.cells #[.int .i64 0, .int .i64 0, .int .i64 0, .int .i64 0, .int .i64 0, .int .i64 0, .int .i64 0, .int .i64 0, .int .i64 0, .int .i64 0, .int .i64 0, .int .i64 0, .int .i64 0, .int .i64 0, .int .i64 0, .int .i64 0, .int .i64 0, .int .i64 0, .int .i64 0, .int .i64 0, .int .i64 0, .int .i64 0, .int .i64 0, .int .i64 0, .int .i64 0, .int .i64 0, .int .i64 0, .int .i64 0, .int .i64 0, .int .i64 0, .int .i64 0, .int .i64 0] 60)) = KN at *
  go_wp2_with (first | (refine wpList_store_row rfl 60 (.tmp 11) (.tmp 37) rfl w7.heap.size (zV r1.2) rfl rfl 60 _ hX8 (by rw [zV_size]; exact info_bits) (by rw [zV_size]; rfl) (one_zV _) ?_) | fail)
  clear hX8 bx ks hs8 hQ7 hm7 k7 hbl7 hR7 hT7 hZ7 hk7 hm8 hbl6 hm6 hQ6 hR6 hT6 hZ6 hk6 z0 z1 z2 z3 z4 hs3 hs6
  generalize (w7.alloc (.cells #[.int .i64 0, .int .i64 0, .int .i64 0, .int .i64 0, .int .i64 0, .int .i64 0, .int .i64 0, .int .i64 0, .int .i64 0, .int .i64 0, .int .i64 0, .int .i64 0, .int .i64 0, .int .i64 0, .int .i64 0, .int .i64 0, .int .i64 0, .int .i64 0, .int .i64 0, .int .i64 0, .int .i64 0, .int .i64 0, .int .i64 0, .int .i64 0, .int .i64 0, .int .i64 0, .int .i64 0, .int .i64 0, .int .i64 0, .int .i64 0, .int .i64 0, .int .i64 0] 60)).setRow w7.heap.size (zV r1.2) = wb at *
  generalize hgx : w7.heap.size = gx at *
  generalize hgt : w4.heap.size = gt at *
  clear hgx hgt
  have bd : Below wb.heap.size wb wb.drew := below_drewN (Below.refl _ _) 1
  have hbld := blk_below hbl9 bd
  have hRd := blk_below hR9 bd
  have hTd := blk_below hT9 bd
  have hZd := blk_below hZ9 bd
  have hXd := hX9.below bd
  have hmd := hm9.below bd hm9.lt
  have hQd := QAt.below hQ9 bd
  have hkd := hk9.trans (Kept.below bd)
  have c2' := C2.out KN wb.drew ⟨kk9 _ (kk6 _ km), kk9 _ (kk6 _ kb), hne, hbld, hmd, hQd, fun w' hk' => hD w' (hkd.trans (hk'.mono fun i hi => ⟨kk9 _ (kk6 i hi.1), hi.2⟩))⟩
  have hSd : wb.drew.cell? ⟨bl, 1, none⟩ = some (.pointer (some ⟨q, 0, none⟩)) ∧ wb.drew.cell? ⟨gt, 2, none⟩ = some (.int .i64 (op : Int)) ∧ wb.drew.cell? ⟨gt, 4, none⟩ = some (.int .i64 (s : Int)) ∧ wb.drew.rangeAt gx 0 (zV r1.2).toList := ⟨(three_cells hbld).2.1, (five_cells hTd).2.2.1, (five_cells hTd).2.2.2.2, range_row hXd⟩
  clear hbl9 hR9 hT9 hZ9 hX9 hm9 hQ9 hk9 hmd hQd bd
  refine wp_region_any (by kernel_rfl) (wpAny_of_held (S := fun w' => w'.cell? ⟨bl, 1, none⟩ = some (.pointer (some ⟨q, 0, none⟩)) ∧ w'.cell? ⟨gt, 2, none⟩ = some (.int .i64 (op : Int)) ∧ w'.cell? ⟨gt, 4, none⟩ = some (.int .i64 (s : Int)) ∧ w'.rangeAt gx 0 (zV r1.2).toList) _ _ _ _ ?_)
  change wpAnyH _ _ _ _ _ 13 _ _ wb.drew
  refine wpAnyH_take (i := 0) (v := ?_) rfl (by kernel_rfl) (by kernel_rfl) (by kernel_rfl) (fun _ _ _ h => h) (Or.inl ⟨by rfl, ?_⟩) hSd ?_
  rotate_left
  · intro w9 hw9
    go_simp
    try with_reducible rfl
  refine wpAnyH_take (i := 1) (v := ?_) rfl (by kernel_rfl) (by kernel_rfl) (by kernel_rfl) (fun _ _ _ h => h) (Or.inl ⟨by rfl, ?_⟩) hSd ?_
  rotate_left
  · intro w9 hw9
    go_simp
    try with_reducible rfl
  refine wpAnyH_take (i := 2) (v := ?_) rfl (by kernel_rfl) (by kernel_rfl) (by kernel_rfl) (fun _ _ _ h => h) (Or.inl ⟨by rfl, ?_⟩) hSd ?_
  rotate_left
  · intro w9 hw9
    go_simp
    try with_reducible rfl
  refine wpAnyH_take (i := 3) (v := ?_) rfl (by kernel_rfl) (by kernel_rfl) (by kernel_rfl) (fun _ _ _ h => h) (Or.inl ⟨by rfl, ?_⟩) hSd ?_
  rotate_left
  · intro w9 hw9
    obtain ⟨hw8, _⟩ := hw9
    go_simp
    try with_reducible rfl
  refine wpAnyH_take (i := 4) (v := ?_) rfl (by kernel_rfl) (by kernel_rfl) (by kernel_rfl) (fun _ _ _ h => h) (Or.inl ⟨by rfl, ?_⟩) hSd ?_
  rotate_left
  · intro w9 hw9
    go_simp
    try with_reducible rfl
  refine wpAnyH_take (i := 5) (v := ?_) rfl (by kernel_rfl) (by kernel_rfl) (by kernel_rfl) (fun _ _ _ h => h) (Or.inl ⟨by rfl, ?_⟩) hSd ?_
  rotate_left
  · intro w9 hw9
    obtain ⟨_, hw8, _⟩ := hw9
    go_simp
    try with_reducible rfl
  refine wpAnyH_take (i := 6) rfl (by kernel_rfl) (by kernel_rfl) (by kernel_rfl) (fun _ _ _ h => h) (yieldsIf_load_mid (by rfl) 60 (.tmp 11) rfl gx 0 rfl (zV r1.2).toList _ (fun w hw => hw.2.2.2) Try.underlying60 rfl (by rw [Array.length_toList, zV_size]; exact info_bits)) hSd ?_
  refine wpAnyH_take (i := 7) (v := ?_) rfl (by kernel_rfl) (by kernel_rfl) (by kernel_rfl) (fun _ _ _ h => h) (Or.inl ⟨by rfl, ?_⟩) hSd ?_
  rotate_left
  · intro w9 hw9
    go_simp
    try with_reducible rfl
  refine wpAnyH_take (i := 8) (v := ?_) rfl (by kernel_rfl) (by kernel_rfl) (by kernel_rfl) (fun _ _ _ h => h) (Or.inl ⟨by rfl, ?_⟩) hSd ?_
  rotate_left
  · intro w9 hw9
    go_simp
    try with_reducible rfl
  refine wpAnyH_take (i := 9) (v := ?_) rfl (by kernel_rfl) (by kernel_rfl) (by kernel_rfl) (fun _ _ _ h => h) (Or.inl ⟨by rfl, ?_⟩) hSd ?_
  rotate_left
  · intro w9 hw9
    obtain ⟨_, _, hw8, _⟩ := hw9
    go_simp
    try with_reducible rfl
  refine wpAnyH_all (rs := [10]) (by kernel_rfl) (by simp) (fun i hi => ?_)
  obtain rfl : i = 10 := by simpa using hi
  refine wpOp_step rfl (fun K9 hK9 => ?_)
  rw [if_pos (by rfl)]
  go_simp
  go_at_call 13
  refine c2'.mono ?_
  rintro r wc ⟨rfl, hQc, hmc, kc⟩
  have hblc := kc.blk ⟨kk9 _ (kk6 _ kb), hne⟩ hbld
  have hRc := kc.blk ⟨kk9 _ kr6, by omega⟩ hRd
  have hTc := kc.blk ⟨kk9 _ kt6, by omega⟩ hTd
  have hZc := kc.blk ⟨kk9 _ kz6, by omega⟩ hZd
  have hXc := hXd.kept kc ⟨kx9, by omega⟩
  have hkc := hkd.trans (kc.mono fun i hi => ⟨kk9 _ (kk6 i hi.1), hi.2⟩)
  refine hK9 _ _ ⟨⟨(three_cells hblc).2.1, (five_cells hTc).2.2.1, (five_cells hTc).2.2.2.2, range_row hXc⟩, ?_⟩
  clear hK9
  refine wpAnyH_all (rs := [11]) (by kernel_rfl) (by simp) (fun i hi => ?_)
  obtain rfl : i = 11 := by simpa using hi
  refine wpOp_step rfl (fun K9 hK9 => ?_)
  rw [if_pos (by rfl)]
  go_simp
  go_at_call 33
  refine (C3.out KN wc hQc).mono ?_
  rintro r we ⟨rfl, hQe, ke⟩
  have hble := ke.blk (kk9 _ (kk6 _ kb)) hblc
  have hRe := ke.blk (kk9 _ kr6) hRc
  have hTe := ke.blk (kk9 _ kt6) hTc
  have hZe := ke.blk (kk9 _ kz6) hZc
  have hXe := hXc.kept ke kx9
  have hme := hmc.block (ke.block m hmc.lt (kk9 _ (kk6 _ km)))
  have hke := hkc.trans (ke.mono fun i hi => kk9 _ (kk6 i hi.1))
  refine hK9 _ _ ⟨⟨(three_cells hble).2.1, (five_cells hTe).2.2.1, (five_cells hTe).2.2.2.2, range_row hXe⟩, ?_⟩
  clear hK9
  have ks := row_kept we (gt + 1) (zV o.2)
  have hblx := ks.blk (show bl ≠ gt + 1 by omega) hble
  have hRx := ks.blk (show w.heap.size ≠ gt + 1 by omega) hRe
  have hTx := ks.blk (show gt ≠ gt + 1 by omega) hTe
  have hXx : ZAt 60 _ gx r1.2 := ks.blk (show gx ≠ gt + 1 by omega) hXe
  have hmx := hme.block (ks.block m hme.lt (show m ≠ gt + 1 by omega))
  have hQx := QAt.moved hQe ks (kk9 _ kz6)
  have hkx := hke.trans (ks.mono fun i hi => by have := hKin i hi.1; show i ≠ gt + 1; omega)
  have hZx : ZAt 60 (we.setRow (gt + 1) (zV o.2)) (gt + 1) o.2 := setRow_heap _ _ _ _ _ _ hZe
  refine wpAnyH_all (rs := [12]) (by kernel_rfl) (by simp) (fun i hi => ?_)
  obtain rfl : i = 12 := by simpa using hi
  refine wpOp_step rfl (fun K9 hK9 => ?_)
  rw [if_pos (by rfl)]
  refine wp_store_row 60 (.tmp 9) (.tmp 49) rfl (gt + 1) (zV o.2) rfl rfl 60 _ hZe (by rw [zV_size]; exact info_bits) (by rw [zV_size]; rfl) (one_zV _) ?_
  refine hK9 _ _ ⟨⟨(three_cells hblx).2.1, (five_cells hTx).2.2.1, (five_cells hTx).2.2.2.2, range_row hXx⟩, ?_⟩
  clear hK9
  refine wpAnyH_done (by kernel_rfl) ?_ _
  have kmx := kk9 _ (kk6 _ km)
  have krx := kk9 _ kr6
  have kkx := fun i hi => kk9 _ (kk6 i hi)
  clear hTx hXx hble hRe hTe hZe hXe hme hke hQe ks hblc hRc hTc hZc hXc hkc hQc hmc kc ke hbld hRd hTd hZd hXd hkd hSd c2'
  generalize we.setRow (gt + 1) (zV o.2) = wx at *
  go_wp2_with fail
  have bd : Below wx.heap.size wx wx.drew := below_drewN (Below.refl _ _) 1
  have hbld := blk_below hblx bd
  have hRd := blk_below hRx bd
  have hZd := blk_below hZx bd
  have hmd := hmx.below bd hmx.lt
  have hQd := QAt.below hQx bd
  have hkd := hkx.trans (Kept.below bd)
  obtain ⟨wm, hrun, hgen, hgr⟩ := hmd.store (natB_ops Try.underlying3) Try.underlying51 n (.agg (zV o.2))
  simp only [natB] at hrun
  have hmm := hgen (dnV (putD r2.1.2 n o.2)) (dnV_put r2.1.2 n o.2).1 (dnV_put r2.1.2 n o.2).2
  have kg : Kept (fun i => i ≠ m) wx.drew wm := Kept.grown hgr fun h => h rfl
  have lm := hKin _ km
  have hZm := kg.blk (show gt + 1 ≠ m by omega) hZd
  have hRm := kg.blk (show w.heap.size ≠ m by omega) hRd
  have hblm := kg.blk hne hbld
  have hQm := QAt.moved hQd kg kmx
  have hkm := hkd.trans (kg.mono fun i hi => hi.2)
  have hSd : wx.drew.cell? ⟨bl, 2, none⟩ = some (.map (some m)) ∧ wx.drew.rangeAt (gt + 1) 0 (zV o.2).toList := ⟨(three_cells hbld).2.2, range_row hZd⟩
  have hSm : wm.cell? ⟨bl, 2, none⟩ = some (.map (some m)) ∧ wm.rangeAt (gt + 1) 0 (zV o.2).toList := ⟨(three_cells hblm).2.2, range_row hZm⟩
  clear hgen hgr hmd bd hblx hRx hmx hkx hbld hQd hkd hRd hQx
  refine wp_region_any (by kernel_rfl) (wpAny_of_held (S := fun w' => w'.cell? ⟨bl, 2, none⟩ = some (.map (some m)) ∧ w'.rangeAt (gt + 1) 0 (zV o.2).toList) _ _ _ _ ?_)
  change wpAnyH _ _ _ _ _ 7 _ _ wx.drew
  refine wpAnyH_take (i := 0) (v := ?_) rfl (by kernel_rfl) (by kernel_rfl) (by kernel_rfl) (fun _ _ _ h => h) (Or.inl ⟨by rfl, ?_⟩) hSd ?_
  rotate_left
  · intro w9 hw9
    go_simp
    try with_reducible rfl
  refine wpAnyH_take (i := 1) (v := ?_) rfl (by kernel_rfl) (by kernel_rfl) (by kernel_rfl) (fun _ _ _ h => h) (Or.inl ⟨by rfl, ?_⟩) hSd ?_
  rotate_left
  · intro w9 hw9
    go_simp
    try with_reducible rfl
  refine wpAnyH_take (i := 2) (v := ?_) rfl (by kernel_rfl) (by kernel_rfl) (by kernel_rfl) (fun _ _ _ h => h) (Or.inl ⟨by rfl, ?_⟩) hSd ?_
  rotate_left
  · intro w9 hw9
    go_simp
    try with_reducible rfl
  refine wpAnyH_take (i := 3) (v := ?_) rfl (by kernel_rfl) (by kernel_rfl) (by kernel_rfl) (fun _ _ _ h => h) (Or.inl ⟨by rfl, ?_⟩) hSd ?_
  rotate_left
  · intro w9 hw9
    obtain ⟨hw8, _⟩ := hw9
    go_simp
    try with_reducible rfl
  refine wpAnyH_take (i := 4) (v := ?_) rfl (by kernel_rfl) (by kernel_rfl) (by kernel_rfl) (fun _ _ _ h => h) (Or.inl ⟨by rfl, ?_⟩) hSd ?_
  rotate_left
  · intro w9 hw9
    go_simp
    try with_reducible rfl
  refine wpAnyH_take (i := 5) rfl (by kernel_rfl) (by kernel_rfl) (by kernel_rfl) (fun _ _ _ h => h) (yieldsIf_load_mid (by rfl) 60 (.tmp 9) rfl (gt + 1) 0 rfl (zV o.2).toList _ (fun w hw => hw.2) Try.underlying60 rfl (by rw [Array.length_toList, zV_size]; exact info_bits)) hSd ?_
  refine wpAnyH_all (rs := [6]) (by kernel_rfl) (by simp) (fun i hi => ?_)
  obtain rfl : i = 6 := by simpa using hi
  refine wpOp_step rfl (fun K9 hK9 => ?_)
  rw [if_pos (by rfl)]
  go_simp
  refine hK9 _ _ ⟨hSm, ?_⟩
  clear hK9
  refine wpAnyH_done (by kernel_rfl) ?_ _
  go_wp2_with (first | (refine wpList_load_row rfl 60 (.tmp 9) rfl (gt + 1) rfl 60 (zV o.2) (0, 0) _ hZm Try.underlying60 rfl (by rw [zV_size]; exact info_bits) ?_) | (refine wpList_store_row rfl 60 (.tmp 4) (.tmp 79) rfl w.heap.size (zV o.2) rfl rfl 60 _ hRm (by rw [zV_size]; exact info_bits) (by rw [zV_size]; rfl) (one_zV _) ?_) | fail)
  exact bodyPost_ret (v := .agg (zV o.2)) (results_cell_row rfl _ _ w.heap.size 60 (zV o.2) (0, 0) _ rfl (setRow_heap _ _ _ _ _ _ hRm) Try.underlying60 rfl (by rw [zV_size]; exact info_bits)) rfl ⟨rfl, QAt.mono (QAt.moved hQm (row_kept _ _ _) krx) kkx, hmm.block (setRow_other _ _ _ _ (by omega)), hkm.trans ((row_kept _ _ _).mono fun i hi => by have := hKin i hi.1; show i ≠ w.heap.size; omega)⟩
end Go.Proofs.Ytgnahjadjgjecaa
