/- blast: a term's literals: a register. -/
import Derived.Test.YtgnahjadjgjecaaBTermA
set_option linter.unusedVariables false
set_option linter.unusedSimpArgs false
namespace Go.Proofs.Ytgnahjadjgjecaa
open Go.RowKit Go.Maps Go.MapKept

set_option maxRecDepth 100000 in
set_option maxHeartbeats 8000000 in
theorem term_var (f : Nat) (K Kd : Nat → Prop) (m b q bl : Nat) (ts : List Term) (gs : List Gate) (d : Dn) (n L : Nat) (w : World) (hnf : n < f + 1) (hn : n < ts.length) (hh : hardB ts n = false) (hT : TermAt ts gs d L) (hI : TermIn K Kd w m b q bl ts gs d) (v : Nat) (hv : v < 32) (hd : d n = none) (hte : ts.getD n default = varT v) :
    Calls Try.prog 13 #[.pointer (some ⟨bl, 0, none⟩), .int .i64 n] w (TermPost K w q m (termF (f + 1) ts gs d n)) := by
  obtain ⟨km, kb, hne, hbl, hm, hQ, hD⟩ := hI
  have hKin : ∀ i, K i → i < w.heap.size := QAt.in_ hQ
  have bx1 := (Below.refl w.heap.size w).alloc (Nat.le_refl _) (.cells #[.int .i64 0, .int .i64 0, .int .i64 0, .int .i64 0, .int .i64 0, .int .i64 0, .int .i64 0, .int .i64 0, .int .i64 0, .int .i64 0, .int .i64 0, .int .i64 0, .int .i64 0, .int .i64 0, .int .i64 0, .int .i64 0, .int .i64 0, .int .i64 0, .int .i64 0, .int .i64 0, .int .i64 0, .int .i64 0, .int .i64 0, .int .i64 0, .int .i64 0, .int .i64 0, .int .i64 0, .int .i64 0, .int .i64 0, .int .i64 0, .int .i64 0, .int .i64 0] 60)
  have hR1 := blk_new w (.cells #[.int .i64 0, .int .i64 0, .int .i64 0, .int .i64 0, .int .i64 0, .int .i64 0, .int .i64 0, .int .i64 0, .int .i64 0, .int .i64 0, .int .i64 0, .int .i64 0, .int .i64 0, .int .i64 0, .int .i64 0, .int .i64 0, .int .i64 0, .int .i64 0, .int .i64 0, .int .i64 0, .int .i64 0, .int .i64 0, .int .i64 0, .int .i64 0, .int .i64 0, .int .i64 0, .int .i64 0, .int .i64 0, .int .i64 0, .int .i64 0, .int .i64 0, .int .i64 0] 60)
  have hbl1 := blk_alloc hbl (.cells #[.int .i64 0, .int .i64 0, .int .i64 0, .int .i64 0, .int .i64 0, .int .i64 0, .int .i64 0, .int .i64 0, .int .i64 0, .int .i64 0, .int .i64 0, .int .i64 0, .int .i64 0, .int .i64 0, .int .i64 0, .int .i64 0, .int .i64 0, .int .i64 0, .int .i64 0, .int .i64 0, .int .i64 0, .int .i64 0, .int .i64 0, .int .i64 0, .int .i64 0, .int .i64 0, .int .i64 0, .int .i64 0, .int .i64 0, .int .i64 0, .int .i64 0, .int .i64 0] 60)
  have hm1 := hm.alloc (.cells #[.int .i64 0, .int .i64 0, .int .i64 0, .int .i64 0, .int .i64 0, .int .i64 0, .int .i64 0, .int .i64 0, .int .i64 0, .int .i64 0, .int .i64 0, .int .i64 0, .int .i64 0, .int .i64 0, .int .i64 0, .int .i64 0, .int .i64 0, .int .i64 0, .int .i64 0, .int .i64 0, .int .i64 0, .int .i64 0, .int .i64 0, .int .i64 0, .int .i64 0, .int .i64 0, .int .i64 0, .int .i64 0, .int .i64 0, .int .i64 0, .int .i64 0, .int .i64 0] 60)
  have bx2 := bx1.alloc (by simp) (.cells #[.int .i64 0, .int .i64 0, .int .i64 0, .int .i64 0, .int .i64 0, .int .i64 0, .int .i64 0, .int .i64 0, .int .i64 0, .int .i64 0, .int .i64 0, .int .i64 0, .int .i64 0, .int .i64 0, .int .i64 0, .int .i64 0, .int .i64 0, .int .i64 0, .int .i64 0, .int .i64 0, .int .i64 0, .int .i64 0, .int .i64 0, .int .i64 0, .int .i64 0, .int .i64 0, .int .i64 0, .int .i64 0, .int .i64 0, .int .i64 0, .int .i64 0, .int .i64 0] 60)
  have hs1 : (w.alloc (.cells #[.int .i64 0, .int .i64 0, .int .i64 0, .int .i64 0, .int .i64 0, .int .i64 0, .int .i64 0, .int .i64 0, .int .i64 0, .int .i64 0, .int .i64 0, .int .i64 0, .int .i64 0, .int .i64 0, .int .i64 0, .int .i64 0, .int .i64 0, .int .i64 0, .int .i64 0, .int .i64 0, .int .i64 0, .int .i64 0, .int .i64 0, .int .i64 0, .int .i64 0, .int .i64 0, .int .i64 0, .int .i64 0, .int .i64 0, .int .i64 0, .int .i64 0, .int .i64 0] 60)).heap.size = w.heap.size + 1 := by simp
  have hL2 := blk_new (w.alloc (.cells #[.int .i64 0, .int .i64 0, .int .i64 0, .int .i64 0, .int .i64 0, .int .i64 0, .int .i64 0, .int .i64 0, .int .i64 0, .int .i64 0, .int .i64 0, .int .i64 0, .int .i64 0, .int .i64 0, .int .i64 0, .int .i64 0, .int .i64 0, .int .i64 0, .int .i64 0, .int .i64 0, .int .i64 0, .int .i64 0, .int .i64 0, .int .i64 0, .int .i64 0, .int .i64 0, .int .i64 0, .int .i64 0, .int .i64 0, .int .i64 0, .int .i64 0, .int .i64 0] 60)) (.cells #[.int .i64 0, .int .i64 0, .int .i64 0, .int .i64 0, .int .i64 0, .int .i64 0, .int .i64 0, .int .i64 0, .int .i64 0, .int .i64 0, .int .i64 0, .int .i64 0, .int .i64 0, .int .i64 0, .int .i64 0, .int .i64 0, .int .i64 0, .int .i64 0, .int .i64 0, .int .i64 0, .int .i64 0, .int .i64 0, .int .i64 0, .int .i64 0, .int .i64 0, .int .i64 0, .int .i64 0, .int .i64 0, .int .i64 0, .int .i64 0, .int .i64 0, .int .i64 0] 60)
  rw [hs1] at hL2
  have hR2 := blk_alloc hR1 (.cells #[.int .i64 0, .int .i64 0, .int .i64 0, .int .i64 0, .int .i64 0, .int .i64 0, .int .i64 0, .int .i64 0, .int .i64 0, .int .i64 0, .int .i64 0, .int .i64 0, .int .i64 0, .int .i64 0, .int .i64 0, .int .i64 0, .int .i64 0, .int .i64 0, .int .i64 0, .int .i64 0, .int .i64 0, .int .i64 0, .int .i64 0, .int .i64 0, .int .i64 0, .int .i64 0, .int .i64 0, .int .i64 0, .int .i64 0, .int .i64 0, .int .i64 0, .int .i64 0] 60)
  have hbl2 := blk_alloc hbl1 (.cells #[.int .i64 0, .int .i64 0, .int .i64 0, .int .i64 0, .int .i64 0, .int .i64 0, .int .i64 0, .int .i64 0, .int .i64 0, .int .i64 0, .int .i64 0, .int .i64 0, .int .i64 0, .int .i64 0, .int .i64 0, .int .i64 0, .int .i64 0, .int .i64 0, .int .i64 0, .int .i64 0, .int .i64 0, .int .i64 0, .int .i64 0, .int .i64 0, .int .i64 0, .int .i64 0, .int .i64 0, .int .i64 0, .int .i64 0, .int .i64 0, .int .i64 0, .int .i64 0] 60)
  have hm2 := hm1.alloc (.cells #[.int .i64 0, .int .i64 0, .int .i64 0, .int .i64 0, .int .i64 0, .int .i64 0, .int .i64 0, .int .i64 0, .int .i64 0, .int .i64 0, .int .i64 0, .int .i64 0, .int .i64 0, .int .i64 0, .int .i64 0, .int .i64 0, .int .i64 0, .int .i64 0, .int .i64 0, .int .i64 0, .int .i64 0, .int .i64 0, .int .i64 0, .int .i64 0, .int .i64 0, .int .i64 0, .int .i64 0, .int .i64 0, .int .i64 0, .int .i64 0, .int .i64 0, .int .i64 0] 60)
  have hs2 : ((w.alloc (.cells #[.int .i64 0, .int .i64 0, .int .i64 0, .int .i64 0, .int .i64 0, .int .i64 0, .int .i64 0, .int .i64 0, .int .i64 0, .int .i64 0, .int .i64 0, .int .i64 0, .int .i64 0, .int .i64 0, .int .i64 0, .int .i64 0, .int .i64 0, .int .i64 0, .int .i64 0, .int .i64 0, .int .i64 0, .int .i64 0, .int .i64 0, .int .i64 0, .int .i64 0, .int .i64 0, .int .i64 0, .int .i64 0, .int .i64 0, .int .i64 0, .int .i64 0, .int .i64 0] 60)).alloc (.cells #[.int .i64 0, .int .i64 0, .int .i64 0, .int .i64 0, .int .i64 0, .int .i64 0, .int .i64 0, .int .i64 0, .int .i64 0, .int .i64 0, .int .i64 0, .int .i64 0, .int .i64 0, .int .i64 0, .int .i64 0, .int .i64 0, .int .i64 0, .int .i64 0, .int .i64 0, .int .i64 0, .int .i64 0, .int .i64 0, .int .i64 0, .int .i64 0, .int .i64 0, .int .i64 0, .int .i64 0, .int .i64 0, .int .i64 0, .int .i64 0, .int .i64 0, .int .i64 0] 60)).heap.size = w.heap.size + 2 := by simp
  have hlook := hm1.look (natB_ops Try.underlying3) Try.underlying51 (zbits (w.alloc (.cells #[.int .i64 0, .int .i64 0, .int .i64 0, .int .i64 0, .int .i64 0, .int .i64 0, .int .i64 0, .int .i64 0, .int .i64 0, .int .i64 0, .int .i64 0, .int .i64 0, .int .i64 0, .int .i64 0, .int .i64 0, .int .i64 0, .int .i64 0, .int .i64 0, .int .i64 0, .int .i64 0, .int .i64 0, .int .i64 0, .int .i64 0, .int .i64 0, .int .i64 0, .int .i64 0, .int .i64 0, .int .i64 0, .int .i64 0, .int .i64 0, .int .i64 0, .int .i64 0] 60))) n true
  simp only [if_pos, natB] at hlook
  obtain ⟨c0, c1, c2⟩ := three_cells hbl1
  have lbl : bl < w.heap.size := hKin _ kb
  rw [termF_var hd hte]
  generalize hFe : inF v gs 32 = F0
  have HF := Lib.hid hFe
  clear hFe
  rw [show dnV d n = none by unfold dnV; rw [hd]; rfl] at hlook
  simp only [Option.getD_none, Option.isSome_none] at hlook
  have hbl3 := (setRow_other ((w.alloc (.cells #[.int .i64 0, .int .i64 0, .int .i64 0, .int .i64 0, .int .i64 0, .int .i64 0, .int .i64 0, .int .i64 0, .int .i64 0, .int .i64 0, .int .i64 0, .int .i64 0, .int .i64 0, .int .i64 0, .int .i64 0, .int .i64 0, .int .i64 0, .int .i64 0, .int .i64 0, .int .i64 0, .int .i64 0, .int .i64 0, .int .i64 0, .int .i64 0, .int .i64 0, .int .i64 0, .int .i64 0, .int .i64 0, .int .i64 0, .int .i64 0, .int .i64 0, .int .i64 0] 60)).alloc (.cells #[.int .i64 0, .int .i64 0, .int .i64 0, .int .i64 0, .int .i64 0, .int .i64 0, .int .i64 0, .int .i64 0, .int .i64 0, .int .i64 0, .int .i64 0, .int .i64 0, .int .i64 0, .int .i64 0, .int .i64 0, .int .i64 0, .int .i64 0, .int .i64 0, .int .i64 0, .int .i64 0, .int .i64 0, .int .i64 0, .int .i64 0, .int .i64 0, .int .i64 0, .int .i64 0, .int .i64 0, .int .i64 0, .int .i64 0, .int .i64 0, .int .i64 0, .int .i64 0] 60)) (w.heap.size + 1) bl (zV fun _ => 0) (by omega)).trans hbl2
  have hR3 := (setRow_other ((w.alloc (.cells #[.int .i64 0, .int .i64 0, .int .i64 0, .int .i64 0, .int .i64 0, .int .i64 0, .int .i64 0, .int .i64 0, .int .i64 0, .int .i64 0, .int .i64 0, .int .i64 0, .int .i64 0, .int .i64 0, .int .i64 0, .int .i64 0, .int .i64 0, .int .i64 0, .int .i64 0, .int .i64 0, .int .i64 0, .int .i64 0, .int .i64 0, .int .i64 0, .int .i64 0, .int .i64 0, .int .i64 0, .int .i64 0, .int .i64 0, .int .i64 0, .int .i64 0, .int .i64 0] 60)).alloc (.cells #[.int .i64 0, .int .i64 0, .int .i64 0, .int .i64 0, .int .i64 0, .int .i64 0, .int .i64 0, .int .i64 0, .int .i64 0, .int .i64 0, .int .i64 0, .int .i64 0, .int .i64 0, .int .i64 0, .int .i64 0, .int .i64 0, .int .i64 0, .int .i64 0, .int .i64 0, .int .i64 0, .int .i64 0, .int .i64 0, .int .i64 0, .int .i64 0, .int .i64 0, .int .i64 0, .int .i64 0, .int .i64 0, .int .i64 0, .int .i64 0, .int .i64 0, .int .i64 0] 60)) (w.heap.size + 1) w.heap.size (zV fun _ => 0) (by omega)).trans hR2
  have hm3 := hm2.block (setRow_other ((w.alloc (.cells #[.int .i64 0, .int .i64 0, .int .i64 0, .int .i64 0, .int .i64 0, .int .i64 0, .int .i64 0, .int .i64 0, .int .i64 0, .int .i64 0, .int .i64 0, .int .i64 0, .int .i64 0, .int .i64 0, .int .i64 0, .int .i64 0, .int .i64 0, .int .i64 0, .int .i64 0, .int .i64 0, .int .i64 0, .int .i64 0, .int .i64 0, .int .i64 0, .int .i64 0, .int .i64 0, .int .i64 0, .int .i64 0, .int .i64 0, .int .i64 0, .int .i64 0, .int .i64 0] 60)).alloc (.cells #[.int .i64 0, .int .i64 0, .int .i64 0, .int .i64 0, .int .i64 0, .int .i64 0, .int .i64 0, .int .i64 0, .int .i64 0, .int .i64 0, .int .i64 0, .int .i64 0, .int .i64 0, .int .i64 0, .int .i64 0, .int .i64 0, .int .i64 0, .int .i64 0, .int .i64 0, .int .i64 0, .int .i64 0, .int .i64 0, .int .i64 0, .int .i64 0, .int .i64 0, .int .i64 0, .int .i64 0, .int .i64 0, .int .i64 0, .int .i64 0, .int .i64 0, .int .i64 0] 60)) (w.heap.size + 1) m (zV fun _ => 0) (by have := hKin _ km; omega))
  have hk3 : Kept (Km K m) w (((w.alloc (.cells #[.int .i64 0, .int .i64 0, .int .i64 0, .int .i64 0, .int .i64 0, .int .i64 0, .int .i64 0, .int .i64 0, .int .i64 0, .int .i64 0, .int .i64 0, .int .i64 0, .int .i64 0, .int .i64 0, .int .i64 0, .int .i64 0, .int .i64 0, .int .i64 0, .int .i64 0, .int .i64 0, .int .i64 0, .int .i64 0, .int .i64 0, .int .i64 0, .int .i64 0, .int .i64 0, .int .i64 0, .int .i64 0, .int .i64 0, .int .i64 0, .int .i64 0, .int .i64 0] 60)).alloc (.cells #[.int .i64 0, .int .i64 0, .int .i64 0, .int .i64 0, .int .i64 0, .int .i64 0, .int .i64 0, .int .i64 0, .int .i64 0, .int .i64 0, .int .i64 0, .int .i64 0, .int .i64 0, .int .i64 0, .int .i64 0, .int .i64 0, .int .i64 0, .int .i64 0, .int .i64 0, .int .i64 0, .int .i64 0, .int .i64 0, .int .i64 0, .int .i64 0, .int .i64 0, .int .i64 0, .int .i64 0, .int .i64 0, .int .i64 0, .int .i64 0, .int .i64 0, .int .i64 0] 60)).setRow (w.heap.size + 1) (zV fun _ => 0)) := (Kept.below bx2).trans ((row_kept _ _ _).mono fun i hi => by have := hKin i hi.1; show i ≠ w.heap.size + 1; omega)
  have hQ3 : QS (More K w ((w.alloc (.cells #[.int .i64 0, .int .i64 0, .int .i64 0, .int .i64 0, .int .i64 0, .int .i64 0, .int .i64 0, .int .i64 0, .int .i64 0, .int .i64 0, .int .i64 0, .int .i64 0, .int .i64 0, .int .i64 0, .int .i64 0, .int .i64 0, .int .i64 0, .int .i64 0, .int .i64 0, .int .i64 0, .int .i64 0, .int .i64 0, .int .i64 0, .int .i64 0, .int .i64 0, .int .i64 0, .int .i64 0, .int .i64 0, .int .i64 0, .int .i64 0, .int .i64 0, .int .i64 0] 60)).alloc (.cells #[.int .i64 0, .int .i64 0, .int .i64 0, .int .i64 0, .int .i64 0, .int .i64 0, .int .i64 0, .int .i64 0, .int .i64 0, .int .i64 0, .int .i64 0, .int .i64 0, .int .i64 0, .int .i64 0, .int .i64 0, .int .i64 0, .int .i64 0, .int .i64 0, .int .i64 0, .int .i64 0, .int .i64 0, .int .i64 0, .int .i64 0, .int .i64 0, .int .i64 0, .int .i64 0, .int .i64 0, .int .i64 0, .int .i64 0, .int .i64 0, .int .i64 0, .int .i64 0] 60))) (((w.alloc (.cells #[.int .i64 0, .int .i64 0, .int .i64 0, .int .i64 0, .int .i64 0, .int .i64 0, .int .i64 0, .int .i64 0, .int .i64 0, .int .i64 0, .int .i64 0, .int .i64 0, .int .i64 0, .int .i64 0, .int .i64 0, .int .i64 0, .int .i64 0, .int .i64 0, .int .i64 0, .int .i64 0, .int .i64 0, .int .i64 0, .int .i64 0, .int .i64 0, .int .i64 0, .int .i64 0, .int .i64 0, .int .i64 0, .int .i64 0, .int .i64 0, .int .i64 0, .int .i64 0] 60)).alloc (.cells #[.int .i64 0, .int .i64 0, .int .i64 0, .int .i64 0, .int .i64 0, .int .i64 0, .int .i64 0, .int .i64 0, .int .i64 0, .int .i64 0, .int .i64 0, .int .i64 0, .int .i64 0, .int .i64 0, .int .i64 0, .int .i64 0, .int .i64 0, .int .i64 0, .int .i64 0, .int .i64 0, .int .i64 0, .int .i64 0, .int .i64 0, .int .i64 0, .int .i64 0, .int .i64 0, .int .i64 0, .int .i64 0, .int .i64 0, .int .i64 0, .int .i64 0, .int .i64 0] 60)).setRow (w.heap.size + 1) (zV fun _ => 0)) q gs := QAt.moved (QAt.more hQ bx2) (row_kept _ _ _) (Or.inr ⟨Nat.le_add_right _ _, by omega⟩)
  have kk3 : ∀ i, K i → More K w ((w.alloc (.cells #[.int .i64 0, .int .i64 0, .int .i64 0, .int .i64 0, .int .i64 0, .int .i64 0, .int .i64 0, .int .i64 0, .int .i64 0, .int .i64 0, .int .i64 0, .int .i64 0, .int .i64 0, .int .i64 0, .int .i64 0, .int .i64 0, .int .i64 0, .int .i64 0, .int .i64 0, .int .i64 0, .int .i64 0, .int .i64 0, .int .i64 0, .int .i64 0, .int .i64 0, .int .i64 0, .int .i64 0, .int .i64 0, .int .i64 0, .int .i64 0, .int .i64 0, .int .i64 0] 60)).alloc (.cells #[.int .i64 0, .int .i64 0, .int .i64 0, .int .i64 0, .int .i64 0, .int .i64 0, .int .i64 0, .int .i64 0, .int .i64 0, .int .i64 0, .int .i64 0, .int .i64 0, .int .i64 0, .int .i64 0, .int .i64 0, .int .i64 0, .int .i64 0, .int .i64 0, .int .i64 0, .int .i64 0, .int .i64 0, .int .i64 0, .int .i64 0, .int .i64 0, .int .i64 0, .int .i64 0, .int .i64 0, .int .i64 0, .int .i64 0, .int .i64 0, .int .i64 0, .int .i64 0] 60)) i := fun i hi => Or.inl hi
  have kr3 : More K w ((w.alloc (.cells #[.int .i64 0, .int .i64 0, .int .i64 0, .int .i64 0, .int .i64 0, .int .i64 0, .int .i64 0, .int .i64 0, .int .i64 0, .int .i64 0, .int .i64 0, .int .i64 0, .int .i64 0, .int .i64 0, .int .i64 0, .int .i64 0, .int .i64 0, .int .i64 0, .int .i64 0, .int .i64 0, .int .i64 0, .int .i64 0, .int .i64 0, .int .i64 0, .int .i64 0, .int .i64 0, .int .i64 0, .int .i64 0, .int .i64 0, .int .i64 0, .int .i64 0, .int .i64 0] 60)).alloc (.cells #[.int .i64 0, .int .i64 0, .int .i64 0, .int .i64 0, .int .i64 0, .int .i64 0, .int .i64 0, .int .i64 0, .int .i64 0, .int .i64 0, .int .i64 0, .int .i64 0, .int .i64 0, .int .i64 0, .int .i64 0, .int .i64 0, .int .i64 0, .int .i64 0, .int .i64 0, .int .i64 0, .int .i64 0, .int .i64 0, .int .i64 0, .int .i64 0, .int .i64 0, .int .i64 0, .int .i64 0, .int .i64 0, .int .i64 0, .int .i64 0, .int .i64 0, .int .i64 0] 60)) w.heap.size := Or.inr ⟨Nat.le_refl _, by omega⟩
  have hs3 : w.heap.size + 2 ≤ (((w.alloc (.cells #[.int .i64 0, .int .i64 0, .int .i64 0, .int .i64 0, .int .i64 0, .int .i64 0, .int .i64 0, .int .i64 0, .int .i64 0, .int .i64 0, .int .i64 0, .int .i64 0, .int .i64 0, .int .i64 0, .int .i64 0, .int .i64 0, .int .i64 0, .int .i64 0, .int .i64 0, .int .i64 0, .int .i64 0, .int .i64 0, .int .i64 0, .int .i64 0, .int .i64 0, .int .i64 0, .int .i64 0, .int .i64 0, .int .i64 0, .int .i64 0, .int .i64 0, .int .i64 0] 60)).alloc (.cells #[.int .i64 0, .int .i64 0, .int .i64 0, .int .i64 0, .int .i64 0, .int .i64 0, .int .i64 0, .int .i64 0, .int .i64 0, .int .i64 0, .int .i64 0, .int .i64 0, .int .i64 0, .int .i64 0, .int .i64 0, .int .i64 0, .int .i64 0, .int .i64 0, .int .i64 0, .int .i64 0, .int .i64 0, .int .i64 0, .int .i64 0, .int .i64 0, .int .i64 0, .int .i64 0, .int .i64 0, .int .i64 0, .int .i64 0, .int .i64 0, .int .i64 0, .int .i64 0] 60)).setRow (w.heap.size + 1) (zV fun _ => 0)).heap.size := by have := (row_kept ((w.alloc (.cells #[.int .i64 0, .int .i64 0, .int .i64 0, .int .i64 0, .int .i64 0, .int .i64 0, .int .i64 0, .int .i64 0, .int .i64 0, .int .i64 0, .int .i64 0, .int .i64 0, .int .i64 0, .int .i64 0, .int .i64 0, .int .i64 0, .int .i64 0, .int .i64 0, .int .i64 0, .int .i64 0, .int .i64 0, .int .i64 0, .int .i64 0, .int .i64 0, .int .i64 0, .int .i64 0, .int .i64 0, .int .i64 0, .int .i64 0, .int .i64 0, .int .i64 0, .int .i64 0] 60)).alloc (.cells #[.int .i64 0, .int .i64 0, .int .i64 0, .int .i64 0, .int .i64 0, .int .i64 0, .int .i64 0, .int .i64 0, .int .i64 0, .int .i64 0, .int .i64 0, .int .i64 0, .int .i64 0, .int .i64 0, .int .i64 0, .int .i64 0, .int .i64 0, .int .i64 0, .int .i64 0, .int .i64 0, .int .i64 0, .int .i64 0, .int .i64 0, .int .i64 0, .int .i64 0, .int .i64 0, .int .i64 0, .int .i64 0, .int .i64 0, .int .i64 0, .int .i64 0, .int .i64 0] 60)) (w.heap.size + 1) (zV fun _ => 0)).size; omega
  obtain ⟨x0, x1, x2⟩ := three_cells hbl3
  have hfew := hT.few
  have hN := node_any Kd b n ts (by omega) hn _ (hD _ hk3)
  rw [hte] at hN
  change Calls Try.prog 29 #[.pointer (some ⟨b, 0, none⟩), .int .i64 n] _ (fun r w' => r = .returned (.tuple #[.agg #[.int .i64 1, .int .u32 (v : Int), .int .i64 0, .int .i64 0, .int .i64 0], .int .i64 0]) ∧ Below _ _ w') at hN
  generalize More K w ((w.alloc (.cells #[.int .i64 0, .int .i64 0, .int .i64 0, .int .i64 0, .int .i64 0, .int .i64 0, .int .i64 0, .int .i64 0, .int .i64 0, .int .i64 0, .int .i64 0, .int .i64 0, .int .i64 0, .int .i64 0, .int .i64 0, .int .i64 0, .int .i64 0, .int .i64 0, .int .i64 0, .int .i64 0, .int .i64 0, .int .i64 0, .int .i64 0, .int .i64 0, .int .i64 0, .int .i64 0, .int .i64 0, .int .i64 0, .int .i64 0, .int .i64 0, .int .i64 0, .int .i64 0] 60)).alloc (.cells #[.int .i64 0, .int .i64 0, .int .i64 0, .int .i64 0, .int .i64 0, .int .i64 0, .int .i64 0, .int .i64 0, .int .i64 0, .int .i64 0, .int .i64 0, .int .i64 0, .int .i64 0, .int .i64 0, .int .i64 0, .int .i64 0, .int .i64 0, .int .i64 0, .int .i64 0, .int .i64 0, .int .i64 0, .int .i64 0, .int .i64 0, .int .i64 0, .int .i64 0, .int .i64 0, .int .i64 0, .int .i64 0, .int .i64 0, .int .i64 0, .int .i64 0, .int .i64 0] 60)) = K3 at *
  clear bx1 bx2 hm1 hm2 hbl1 hbl2 hR1 hR2 hm hbl hQ
  go_enter Try.func13, Try.ntmps13
  go_wp2_with (first | (refine wpList_store_row rfl 60 (.tmp 5) (.tmp 19) rfl (w.heap.size + 1) (zV fun _ => 0) rfl rfl 60 _ hL2 (by rw [zV_size]; exact info_bits) (by rw [zV_size]; rfl) (one_zV _) ?_) | fail)
  clear hL2 hs1 hs2 hlook c0 c1 c2 x0 x1 x2
  generalize ((w.alloc (.cells #[.int .i64 0, .int .i64 0, .int .i64 0, .int .i64 0, .int .i64 0, .int .i64 0, .int .i64 0, .int .i64 0, .int .i64 0, .int .i64 0, .int .i64 0, .int .i64 0, .int .i64 0, .int .i64 0, .int .i64 0, .int .i64 0, .int .i64 0, .int .i64 0, .int .i64 0, .int .i64 0, .int .i64 0, .int .i64 0, .int .i64 0, .int .i64 0, .int .i64 0, .int .i64 0, .int .i64 0, .int .i64 0, .int .i64 0, .int .i64 0, .int .i64 0, .int .i64 0] 60)).alloc (.cells #[.int .i64 0, .int .i64 0, .int .i64 0, .int .i64 0, .int .i64 0, .int .i64 0, .int .i64 0, .int .i64 0, .int .i64 0, .int .i64 0, .int .i64 0, .int .i64 0, .int .i64 0, .int .i64 0, .int .i64 0, .int .i64 0, .int .i64 0, .int .i64 0, .int .i64 0, .int .i64 0, .int .i64 0, .int .i64 0, .int .i64 0, .int .i64 0, .int .i64 0, .int .i64 0, .int .i64 0, .int .i64 0, .int .i64 0, .int .i64 0, .int .i64 0, .int .i64 0] 60)).setRow (w.heap.size + 1) (zV fun _ => 0) = w3 at *
  refine hN.mono ?_
  rintro r w4 ⟨rfl, b4⟩
  have hs4 : w.heap.size + 2 ≤ w4.heap.size := Nat.le_trans hs3 b4.size
  have hbl4 := blk_below hbl3 b4
  have hR4 := blk_below hR3 b4
  have hm4 := hm3.below b4 hm3.lt
  have hQ4 := QAt.below hQ3 b4
  have hk4 := hk3.trans (Kept.below b4)
  have bx5 := (Below.refl w4.heap.size w4).alloc (Nat.le_refl _) (.cells #[.int .i64 1, .int .u32 (v : Int), .int .i64 0, .int .i64 0, .int .i64 0] 82)
  have bx6 := bx5.alloc (by simp) (.cells #[.int .i64 0, .int .i64 0, .int .i64 0, .int .i64 0, .int .i64 0, .int .i64 0, .int .i64 0, .int .i64 0, .int .i64 0, .int .i64 0, .int .i64 0, .int .i64 0, .int .i64 0, .int .i64 0, .int .i64 0, .int .i64 0, .int .i64 0, .int .i64 0, .int .i64 0, .int .i64 0, .int .i64 0, .int .i64 0, .int .i64 0, .int .i64 0, .int .i64 0, .int .i64 0, .int .i64 0, .int .i64 0, .int .i64 0, .int .i64 0, .int .i64 0, .int .i64 0] 60)
  have hT5 := blk_new w4 (.cells #[.int .i64 1, .int .u32 (v : Int), .int .i64 0, .int .i64 0, .int .i64 0] 82)
  have hT6 := blk_alloc hT5 (.cells #[.int .i64 0, .int .i64 0, .int .i64 0, .int .i64 0, .int .i64 0, .int .i64 0, .int .i64 0, .int .i64 0, .int .i64 0, .int .i64 0, .int .i64 0, .int .i64 0, .int .i64 0, .int .i64 0, .int .i64 0, .int .i64 0, .int .i64 0, .int .i64 0, .int .i64 0, .int .i64 0, .int .i64 0, .int .i64 0, .int .i64 0, .int .i64 0, .int .i64 0, .int .i64 0, .int .i64 0, .int .i64 0, .int .i64 0, .int .i64 0, .int .i64 0, .int .i64 0] 60)
  have hZ6 := blk_new (w4.alloc (.cells #[.int .i64 1, .int .u32 (v : Int), .int .i64 0, .int .i64 0, .int .i64 0] 82)) (.cells #[.int .i64 0, .int .i64 0, .int .i64 0, .int .i64 0, .int .i64 0, .int .i64 0, .int .i64 0, .int .i64 0, .int .i64 0, .int .i64 0, .int .i64 0, .int .i64 0, .int .i64 0, .int .i64 0, .int .i64 0, .int .i64 0, .int .i64 0, .int .i64 0, .int .i64 0, .int .i64 0, .int .i64 0, .int .i64 0, .int .i64 0, .int .i64 0, .int .i64 0, .int .i64 0, .int .i64 0, .int .i64 0, .int .i64 0, .int .i64 0, .int .i64 0, .int .i64 0] 60)
  have hs5 : (w4.alloc (.cells #[.int .i64 1, .int .u32 (v : Int), .int .i64 0, .int .i64 0, .int .i64 0] 82)).heap.size = w4.heap.size + 1 := by simp
  rw [hs5] at hZ6
  have hs6 : ((w4.alloc (.cells #[.int .i64 1, .int .u32 (v : Int), .int .i64 0, .int .i64 0, .int .i64 0] 82)).alloc (.cells #[.int .i64 0, .int .i64 0, .int .i64 0, .int .i64 0, .int .i64 0, .int .i64 0, .int .i64 0, .int .i64 0, .int .i64 0, .int .i64 0, .int .i64 0, .int .i64 0, .int .i64 0, .int .i64 0, .int .i64 0, .int .i64 0, .int .i64 0, .int .i64 0, .int .i64 0, .int .i64 0, .int .i64 0, .int .i64 0, .int .i64 0, .int .i64 0, .int .i64 0, .int .i64 0, .int .i64 0, .int .i64 0, .int .i64 0, .int .i64 0, .int .i64 0, .int .i64 0] 60)).heap.size = w4.heap.size + 2 := by simp
  have hbl6 := blk_below hbl4 bx6
  have hR6 := blk_below hR4 bx6
  have hm6 := hm4.below bx6 hm4.lt
  have hQ6 := QAt.more hQ4 bx6
  have hk6 := hk4.trans (Kept.below bx6)
  have kk6 : ∀ i, K i → More K3 w4 ((w4.alloc (.cells #[.int .i64 1, .int .u32 (v : Int), .int .i64 0, .int .i64 0, .int .i64 0] 82)).alloc (.cells #[.int .i64 0, .int .i64 0, .int .i64 0, .int .i64 0, .int .i64 0, .int .i64 0, .int .i64 0, .int .i64 0, .int .i64 0, .int .i64 0, .int .i64 0, .int .i64 0, .int .i64 0, .int .i64 0, .int .i64 0, .int .i64 0, .int .i64 0, .int .i64 0, .int .i64 0, .int .i64 0, .int .i64 0, .int .i64 0, .int .i64 0, .int .i64 0, .int .i64 0, .int .i64 0, .int .i64 0, .int .i64 0, .int .i64 0, .int .i64 0, .int .i64 0, .int .i64 0] 60)) i := fun i hi => Or.inl (kk3 i hi)
  have kr6 : More K3 w4 ((w4.alloc (.cells #[.int .i64 1, .int .u32 (v : Int), .int .i64 0, .int .i64 0, .int .i64 0] 82)).alloc (.cells #[.int .i64 0, .int .i64 0, .int .i64 0, .int .i64 0, .int .i64 0, .int .i64 0, .int .i64 0, .int .i64 0, .int .i64 0, .int .i64 0, .int .i64 0, .int .i64 0, .int .i64 0, .int .i64 0, .int .i64 0, .int .i64 0, .int .i64 0, .int .i64 0, .int .i64 0, .int .i64 0, .int .i64 0, .int .i64 0, .int .i64 0, .int .i64 0, .int .i64 0, .int .i64 0, .int .i64 0, .int .i64 0, .int .i64 0, .int .i64 0, .int .i64 0, .int .i64 0] 60)) w.heap.size := Or.inl kr3
  have kt6 : More K3 w4 ((w4.alloc (.cells #[.int .i64 1, .int .u32 (v : Int), .int .i64 0, .int .i64 0, .int .i64 0] 82)).alloc (.cells #[.int .i64 0, .int .i64 0, .int .i64 0, .int .i64 0, .int .i64 0, .int .i64 0, .int .i64 0, .int .i64 0, .int .i64 0, .int .i64 0, .int .i64 0, .int .i64 0, .int .i64 0, .int .i64 0, .int .i64 0, .int .i64 0, .int .i64 0, .int .i64 0, .int .i64 0, .int .i64 0, .int .i64 0, .int .i64 0, .int .i64 0, .int .i64 0, .int .i64 0, .int .i64 0, .int .i64 0, .int .i64 0, .int .i64 0, .int .i64 0, .int .i64 0, .int .i64 0] 60)) w4.heap.size := Or.inr ⟨Nat.le_refl _, by omega⟩
  have kz6 : More K3 w4 ((w4.alloc (.cells #[.int .i64 1, .int .u32 (v : Int), .int .i64 0, .int .i64 0, .int .i64 0] 82)).alloc (.cells #[.int .i64 0, .int .i64 0, .int .i64 0, .int .i64 0, .int .i64 0, .int .i64 0, .int .i64 0, .int .i64 0, .int .i64 0, .int .i64 0, .int .i64 0, .int .i64 0, .int .i64 0, .int .i64 0, .int .i64 0, .int .i64 0, .int .i64 0, .int .i64 0, .int .i64 0, .int .i64 0, .int .i64 0, .int .i64 0, .int .i64 0, .int .i64 0, .int .i64 0, .int .i64 0, .int .i64 0, .int .i64 0, .int .i64 0, .int .i64 0, .int .i64 0, .int .i64 0] 60)) (w4.heap.size + 1) := Or.inr ⟨Nat.le_add_right _ _, by omega⟩
  generalize More K3 w4 ((w4.alloc (.cells #[.int .i64 1, .int .u32 (v : Int), .int .i64 0, .int .i64 0, .int .i64 0] 82)).alloc (.cells #[.int .i64 0, .int .i64 0, .int .i64 0, .int .i64 0, .int .i64 0, .int .i64 0, .int .i64 0, .int .i64 0, .int .i64 0, .int .i64 0, .int .i64 0, .int .i64 0, .int .i64 0, .int .i64 0, .int .i64 0, .int .i64 0, .int .i64 0, .int .i64 0, .int .i64 0, .int .i64 0, .int .i64 0, .int .i64 0, .int .i64 0, .int .i64 0, .int .i64 0, .int .i64 0, .int .i64 0, .int .i64 0, .int .i64 0, .int .i64 0, .int .i64 0, .int .i64 0] 60)) = K6 at *
  obtain ⟨z0, z1, z2, z3, z4⟩ := five_cells hT6
  clear hbl3 hR3 hm3 hQ3 hk3 hN b4 hbl4 hR4 hm4 hQ4 hk4 bx5 bx6 hT5 hs5
  have hgl : gs.length ≤ 190000 := by have := hT.cnt; have := hT.small; have := cntD_le ts d; omega
  have hok := in_ok hT.gg hv
  rw [zero_zV] at *
  go_wp2_with fail
  rw [zero_zV] at *
  have hs6' : w.heap.size + 4 ≤ ((w4.alloc (.cells #[.int .i64 1, .int .u32 (v : Int), .int .i64 0, .int .i64 0, .int .i64 0] 82)).alloc (.cells (zV fun _ => 0) 60)).heap.size := by omega
  generalize (w4.alloc (.cells #[.int .i64 1, .int .u32 (v : Int), .int .i64 0, .int .i64 0, .int .i64 0] 82)).alloc (.cells (zV fun _ => 0) 60) = w6 at *
  clear z0 z1 z2 z3 z4
  generalize hgz : w4.heap.size = gt at *
  clear hgz hs6 hs6'
  go_loopw [10, 57] (fun _ i wr => ∃ j : Nat, j ≤ 32 ∧ i = .int .i64 j ∧ ZAt 60 wr (gt + 1) (fun r => if r < j then (inF v gs j).2 r else 0) ∧ wr.heap[bl]? = some (.cells #[.pointer (some ⟨b, 0, none⟩), .pointer (some ⟨q, 0, none⟩), .map (some m)] 53 (0, 0)) ∧ ZAt 60 wr w.heap.size (fun _ => 0) ∧ wr.heap[gt]? = some (.cells #[.int .i64 1, .int .u32 (v : Int), .int .i64 0, .int .i64 0, .int .i64 0] 82 (0, 0)) ∧ MapAt natB wr m (dnV d) ∧ QS K6 wr q (inF v gs j).1 ∧ Kept (Km K m) w wr) (fun _ i _ => 32 - (intOf i).toNat)
  case atStart => exact ⟨0, by omega, rfl, hZ6, hbl6, hR6, hT6, hm6, hQ6, hk6⟩
  case round =>
    clear hZ6 hbl6 hR6 hT6 hm6 hQ6 hk6
    obtain ⟨j, hj, rfl, hZx, hblx, hRx, hTx, hmx, hQx, hkx⟩ := hrel
    by_cases hlt : j < 32
    · have hlt' : (j : Int) < 32 := by omega
      obtain ⟨e1, _, _, n1, _, _, _⟩ := hok j hj
      have hstep : inF v gs (j + 1) = (gins (inF v gs j).1 ⟨0, v, j⟩, fun i => if i = j then gvar (inF v gs j).1 ⟨0, v, j⟩ else (inF v gs j).2 i) := rfl
      generalize inF v gs j = F at e1 n1 hstep hZx hQx ⊢
      have cx := variable_any K6 q F.1 0 (v : Int) (j : Int) ⟨by show 0 < 100; decide, by show _ < (v : Int); omega, by show (v : Int) < _; omega, by show _ < (j : Int); omega, by show (j : Int) < _; omega⟩ (by decide) (by omega)
      change ∀ (w : World), QS K6 w q F.1 → Calls Try.prog 32 #[.pointer (some ⟨q, 0, none⟩), .agg #[.int .i64 0, .int .i64 (v : Int), .int .i64 (j : Int)]] w (fun r w' => r = .returned (.int .i64 (gvar F.1 ⟨0, v, j⟩)) ∧ QS K6 w' q (gins F.1 ⟨0, v, j⟩) ∧ Kept K6 w w') at cx
      generalize gvar F.1 ⟨0, v, j⟩ = x at cx hstep
      generalize gins F.1 ⟨0, v, j⟩ = H at cx hstep
      have HS := Lib.hid hstep
      have bd : Below wr.heap.size wr wr.drew := below_drewN (Below.refl _ _) 1
      have hZd := hZx.below bd
      have hbld := blk_below hblx bd
      have hRd := blk_below hRx bd
      have hTd := blk_below hTx bd
      have hmd := hmx.below bd hmx.lt
      have hQd := QAt.below hQx bd
      have hkd := hkx.trans (Kept.below bd)
      have cx' := cx wr.drew hQd
      obtain ⟨x0, x1, x2⟩ := three_cells hblx
      obtain ⟨z0, z1, z2, z3, z4⟩ := five_cells hTx
      have wv2 := wraps_v hv
      clear hstep cx e1 n1 hQx hRx hmx hkx
      go_wp2_with fail
      go_region_law (go_simp; go_at_call 32; refine cx'.mono ?_; rintro r w1 ⟨rfl, hQ1, kx⟩; have dc := (hZd.kept kx kz6).cell (i := j) hlt; have df := (hZd.kept kx kz6).fro j)
      all_goals (
        have hZ1 := (hZd.kept kx kz6).set j x
        have ks := qset w1 (gt + 1) j (.int .i64 x)
        have hbl1 := ks.blk (show bl ≠ gt + 1 by omega) (kx.blk (kk6 _ kb) hbld)
        have hR1 := ks.blk (show w.heap.size ≠ gt + 1 by omega) (kx.blk kr6 hRd)
        have hT1 := ks.blk (show gt ≠ gt + 1 by omega) (kx.blk kt6 hTd)
        have hm1 := (hmd.block (kx.block m hmd.lt (kk6 _ km)))
        have hm2 := hm1.block (ks.block m hm1.lt (show m ≠ gt + 1 by have := hKin _ km; omega))
        have hQ2 := QAt.moved hQ1 ks kz6
        have hk2 := (hkd.trans (kx.mono fun i hi => kk6 _ hi.1)).trans (ks.mono fun i hi => by have := hKin i hi.1; show i ≠ gt + 1; omega)
        clear hZd hbld hRd hTd hmd hQd hkd bd cx' kx dc df hZx hblx hTx x0 x1 x2 z0 z1 z2 z3 z4 hm1 ks hQ1
        generalize w1.setCell ⟨gt + 1, j, none⟩ (.int .i64 x) = w8 at *
        go_wp2_with fail
        go_roundw
        case rel => exact ⟨j + 1, by omega, by go_num, hZ1.ext fun r _ => by rw [HS.out]; exact sumO_step _ _ _ _, hbl1, hR1, hT1, hm2, by rw [HS.out]; exact hQ2, hk2⟩
        case measure => simp [intOf]; omega)
    · have hlt' : ¬ (j : Int) < 32 := by omega
      obtain rfl : j = 32 := by omega
      clear hok hTx
      have hZx := hZx.ext (z := (inF v gs 32).2) fun r hr => if_pos hr
      rw [HF.out] at hZx hQx
      have kmx := kk6 _ km
      have krx := kr6
      have kkx := kk6
      go_wp2_with fail
      have bd : Below wr.heap.size wr wr.drew := below_drewN (Below.refl _ _) 1
      have hbld := blk_below hblx bd
      have hRd := blk_below hRx bd
      have hZd := blk_below hZx bd
      have hmd := hmx.below bd hmx.lt
      have hQd := QAt.below hQx bd
      have hkd := hkx.trans (Kept.below bd)
      obtain ⟨wm, hrun, hgen, hgr⟩ := hmd.store (natB_ops Try.underlying3) Try.underlying51 n (.agg (zV F0.2))
      simp only [natB] at hrun
      have hmm := hgen (dnV (putD d n F0.2)) (dnV_put d n F0.2).1 (dnV_put d n F0.2).2
      have kg : Kept (fun i => i ≠ m) wr.drew wm := Kept.grown hgr fun h => h rfl
      have lm := hKin _ km
      have hZm := kg.blk (show gt + 1 ≠ m by omega) hZd
      have hRm := kg.blk (show w.heap.size ≠ m by omega) hRd
      have hblm := kg.blk hne hbld
      have hQm := QAt.moved hQd kg kmx
      have hkm := hkd.trans (kg.mono fun i hi => hi.2)
      have hSd : wr.drew.cell? ⟨bl, 2, none⟩ = some (.map (some m)) ∧ wr.drew.rangeAt (gt + 1) 0 (zV F0.2).toList := ⟨(three_cells hbld).2.2, range_row hZd⟩
      have hSm : wm.cell? ⟨bl, 2, none⟩ = some (.map (some m)) ∧ wm.rangeAt (gt + 1) 0 (zV F0.2).toList := ⟨(three_cells hblm).2.2, range_row hZm⟩
      clear hgen hgr hmd bd hblx hRx hmx hkx hbld hQd hkd hRd hQx
      refine wp_region_any (by kernel_rfl) (wpAny_of_held (S := fun w' => w'.cell? ⟨bl, 2, none⟩ = some (.map (some m)) ∧ w'.rangeAt (gt + 1) 0 (zV F0.2).toList) _ _ _ _ ?_)
      change wpAnyH _ _ _ _ _ 7 _ _ wr.drew
      refine wpAnyH_take (i := 0) (v := ?_) rfl (by kernel_rfl) (by kernel_rfl) (by kernel_rfl) (fun _ _ _ h => h) (Or.inl ⟨by rfl, ?_⟩) hSd ?_
      rotate_left
      · intro w9 hw9
        go_simp
        try with_reducible rfl
      refine wpAnyH_take (i := 1) (v := ?_) rfl (by kernel_rfl) (by kernel_rfl) (by kernel_rfl) (fun _ _ _ h => h) (Or.inl ⟨by rfl, ?_⟩) hSd ?_
      rotate_left
      · intro w9 hw9
        go_simp
        try with_reducible rfl
      refine wpAnyH_take (i := 2) (v := ?_) rfl (by kernel_rfl) (by kernel_rfl) (by kernel_rfl) (fun _ _ _ h => h) (Or.inl ⟨by rfl, ?_⟩) hSd ?_
      rotate_left
      · intro w9 hw9
        go_simp
        try with_reducible rfl
      refine wpAnyH_take (i := 3) (v := ?_) rfl (by kernel_rfl) (by kernel_rfl) (by kernel_rfl) (fun _ _ _ h => h) (Or.inl ⟨by rfl, ?_⟩) hSd ?_
      rotate_left
      · intro w9 hw9
        obtain ⟨hw8, _⟩ := hw9
        go_simp
        try with_reducible rfl
      refine wpAnyH_take (i := 4) (v := ?_) rfl (by kernel_rfl) (by kernel_rfl) (by kernel_rfl) (fun _ _ _ h => h) (Or.inl ⟨by rfl, ?_⟩) hSd ?_
      rotate_left
      · intro w9 hw9
        go_simp
        try with_reducible rfl
      refine wpAnyH_take (i := 5) rfl (by kernel_rfl) (by kernel_rfl) (by kernel_rfl) (fun _ _ _ h => h) (yieldsIf_load_mid (by rfl) 60 (.tmp 9) rfl (gt + 1) 0 rfl (zV F0.2).toList _ (fun w hw => hw.2) Try.underlying60 rfl (by rw [Array.length_toList, zV_size]; exact info_bits)) hSd ?_
      refine wpAnyH_all (rs := [6]) (by kernel_rfl) (by simp) (fun i hi => ?_)
      obtain rfl : i = 6 := by simpa using hi
      refine wpOp_step rfl (fun K9 hK9 => ?_)
      rw [if_pos (by rfl)]
      go_simp
      refine hK9 _ _ ⟨hSm, ?_⟩
      clear hK9
      refine wpAnyH_done (by kernel_rfl) ?_ _
      go_wp2_with (first | (refine wpList_load_row rfl 60 (.tmp 9) rfl (gt + 1) rfl 60 (zV F0.2) (0, 0) _ hZm Try.underlying60 rfl (by rw [zV_size]; exact info_bits) ?_) | (refine wpList_store_row rfl 60 (.tmp 4) (.tmp 79) rfl w.heap.size (zV F0.2) rfl rfl 60 _ hRm (by rw [zV_size]; exact info_bits) (by rw [zV_size]; rfl) (one_zV _) ?_) | fail)
      exact bodyPost_ret (v := .agg (zV F0.2)) (results_cell_row rfl _ _ w.heap.size 60 (zV F0.2) (0, 0) _ rfl (setRow_heap _ _ _ _ _ _ hRm) Try.underlying60 rfl (by rw [zV_size]; exact info_bits)) rfl ⟨rfl, QAt.mono (QAt.moved hQm (row_kept _ _ _) krx) kkx, hmm.block (setRow_other _ _ _ _ (by omega)), hkm.trans ((row_kept _ _ _).mono fun i hi => by have := hKin i hi.1; show i ≠ w.heap.size; omega)⟩
end Go.Proofs.Ytgnahjadjgjecaa
