/- simp.All, walked. -/
import Derived.Test.YtekleoccdockhaaDoorSAll
import Derived.Laws.EntriesVeiled
set_option linter.unusedVariables false
set_option linter.unusedSimpArgs false
namespace Go.Proofs.YtekleoccdockhaaDoor
open Go.RowKit Go.Maps Go.MapKept

set_option maxRecDepth 100000 in
theorem simpAll_no (K : Nat → Prop) (b : Nat) (n : Int) (ts : List Term) (hl : ts.length < 1000000000000) (hn : inR n ts.length = false) (w : World) (h : DagAt K w b ts) :
    Calls Tryd.prog 15 #[.pointer (some ⟨b, 0, none⟩), .int .i64 n] w fun e w' => e = .returned (.tuple #[.int .i64 0, .int .i64 100]) ∧ Below w.heap.size w w' := by
  have b0 := (Below.refl w.heap.size w).alloc (Nat.le_refl _) (.cells #[.pointer (some ⟨b, 0, none⟩)] 22)
  have hX := node_no K b n ts hl hn _ (h.alloc (.cells #[.pointer (some ⟨b, 0, none⟩)] 22))
  unfold tv constT at hX
  have c2 : (w.alloc (.cells #[.pointer (some ⟨b, 0, none⟩)] 22)).cell? ⟨w.heap.size, 0, none⟩ = some (.pointer (some ⟨b, 0, none⟩)) := (cell_of (blk_new w _) 0).trans rfl
  clear hn
  go_enter Tryd.func15, Tryd.ntmps15
  go_wp2_with fail
  refine hX.mono ?_
  rintro r w1 ⟨rfl, b1⟩
  have b3 := below_then b0 b1
  clear hX b1
  go_wp2_with fail
  go_ret2
  exact ⟨rfl, b3.alloc b3.size _⟩
set_option maxRecDepth 100000 in
theorem simpAll_any (K : Nat → Prop) (b n : Nat) (ts : List Term) (hl : (allT ts n).1.length < 100000000000) (hn : n < ts.length) (hG : Good ts) (hg : K 0) (w : World) (hT : Tab w) (h : DagAt K w b ts) :
    Calls Tryd.prog 15 #[.pointer (some ⟨b, 0, none⟩), .int .i64 n] w (OpPost K b w (allT ts n)) := by
  have hlt := (allT_ok hG hn).2.1.len
  have b0 := (Below.refl w.heap.size w).alloc (Nat.le_refl _) (.cells #[.pointer (some ⟨b, 0, none⟩)] 22)
  have hX := node_any K b n ts (by omega) hn _ (h.alloc (.cells #[.pointer (some ⟨b, 0, none⟩)] 22))
  generalize ts.getD n default = t at hX
  unfold tv at hX
  have c2 : (w.alloc (.cells #[.pointer (some ⟨b, 0, none⟩)] 22)).cell? ⟨w.heap.size, 0, none⟩ = some (.pointer (some ⟨b, 0, none⟩)) := (cell_of (blk_new w _) 0).trans rfl
  have hmm := @run_makeMap Tryd.prog
  have hmf : ∀ (fn : Fn) (first cap : Array Value) (w : World), (Instr.makeFunc fn first cap).run Tryd.prog w = .ok (.func fn first cap) w := fun _ _ _ _ => rfl
  go_enter Tryd.func15, Tryd.ntmps15
  go_wp2_with fail
  refine hX.mono ?_
  rintro r w1 ⟨rfl, b1⟩
  have b3 := below_then b0 b1
  have c2' := cell_below b1 c2
  clear hX b1 b0
  go_wp2_with fail
  obtain ⟨W1, hW1⟩ : ∃ W1, w1.alloc (.cells #[.int .i64 t.k, .int .u32 t.v, .int .i64 t.op, .int .i64 t.a, .int .i64 t.b] 33) = W1 := ⟨_, rfl⟩
  have s1 : W1.heap.size = w1.heap.size + 1 := by rw [← hW1]; simp
  have b4 : Below w.heap.size w W1 := by rw [← hW1]; exact b3.alloc b3.size _
  have c24 : W1.cell? ⟨w.heap.size, 0, none⟩ = some (.pointer (some ⟨b, 0, none⟩)) := by rw [← hW1]; exact cell_alloc0 c2' _
  rw [hW1]
  clear hW1 c2' b3
  have hmap := MapAt.made (ek := natK) W1
  rw [s1] at hmap
  have hmap2 := (hmap.alloc (.cells #[.map (some (w1.heap.size + 1))] 74)).alloc (.cells #[.func (.func 25) #[] #[.pointer (some ⟨w1.heap.size + 1 + 1, 0, none⟩), .pointer (some ⟨w.heap.size, 0, none⟩), .pointer (some ⟨w1.heap.size + 1 + 1 + 1, 0, none⟩)]] 75)
  have b5 := below_alloc1 (below_alloc1 (below_alloc1 b4 (.map #[] 0)) (.cells #[.map (some (w1.heap.size + 1))] 74)) (.cells #[.func (.func 25) #[] #[.pointer (some ⟨w1.heap.size + 1 + 1, 0, none⟩), .pointer (some ⟨w.heap.size, 0, none⟩), .pointer (some ⟨w1.heap.size + 1 + 1 + 1, 0, none⟩)]] 75)
  have e2 : (W1.alloc (.map #[] 0)).heap.size = w1.heap.size + 1 + 1 := by simp [s1]
  have e3 : ((W1.alloc (.map #[] 0)).alloc (.cells #[.map (some (w1.heap.size + 1))] 74)).heap.size = w1.heap.size + 1 + 1 + 1 := by simp [s1]
  have c1 : (((W1.alloc (.map #[] 0)).alloc (.cells #[.map (some (w1.heap.size + 1))] 74)).alloc (.cells #[.func (.func 25) #[] #[.pointer (some ⟨w1.heap.size + 1 + 1, 0, none⟩), .pointer (some ⟨w.heap.size, 0, none⟩), .pointer (some ⟨w1.heap.size + 1 + 1 + 1, 0, none⟩)]] 75)).cell? ⟨w1.heap.size + 1 + 1, 0, none⟩ = some (.map (some (w1.heap.size + 1))) :=
    (cell_of (blk_alloc (blk_top e2) _) 0).trans rfl
  have c3 : (((W1.alloc (.map #[] 0)).alloc (.cells #[.map (some (w1.heap.size + 1))] 74)).alloc (.cells #[.func (.func 25) #[] #[.pointer (some ⟨w1.heap.size + 1 + 1, 0, none⟩), .pointer (some ⟨w.heap.size, 0, none⟩), .pointer (some ⟨w1.heap.size + 1 + 1 + 1, 0, none⟩)]] 75)).cell? ⟨w1.heap.size + 1 + 1 + 1, 0, none⟩ = some (.func (.func 25) #[] #[.pointer (some ⟨w1.heap.size + 1 + 1, 0, none⟩), .pointer (some ⟨w.heap.size, 0, none⟩), .pointer (some ⟨w1.heap.size + 1 + 1 + 1, 0, none⟩)]) :=
    (cell_of (blk_top e3) 0).trans rfl
  have c22 := cell_alloc0 (cell_alloc0 (cell_alloc0 c24 (.map #[] 0)) (.cells #[.map (some (w1.heap.size + 1))] 74)) (.cells #[.func (.func 25) #[] #[.pointer (some ⟨w1.heap.size + 1 + 1, 0, none⟩), .pointer (some ⟨w.heap.size, 0, none⟩), .pointer (some ⟨w1.heap.size + 1 + 1 + 1, 0, none⟩)]] 75)
  have hsz := b4.size
  have hs5 : (((W1.alloc (.map #[] 0)).alloc (.cells #[.map (some (w1.heap.size + 1))] 74)).alloc (.cells #[.func (.func 25) #[] #[.pointer (some ⟨w1.heap.size + 1 + 1, 0, none⟩), .pointer (some ⟨w.heap.size, 0, none⟩), .pointer (some ⟨w1.heap.size + 1 + 1 + 1, 0, none⟩)]] 75)).heap.size = w1.heap.size + 4 := by simp [s1]
  have hb1s : w.heap.size ≤ w1.heap.size := by
    have := World.block_lt_of_cell? W1 _ c24
    simp only [s1] at this
    omega
  generalize ((W1.alloc (.map #[] 0)).alloc (.cells #[.map (some (w1.heap.size + 1))] 74)).alloc (.cells #[.func (.func 25) #[] #[.pointer (some ⟨w1.heap.size + 1 + 1, 0, none⟩), .pointer (some ⟨w.heap.size, 0, none⟩), .pointer (some ⟨w1.heap.size + 1 + 1 + 1, 0, none⟩)]] 75) = W at *
  have hin : AllIn (More K w W) W b (w1.heap.size + 1 + 1) w.heap.size (w1.heap.size + 1 + 1 + 1) (w1.heap.size + 1) ts ts dn0 :=
    ⟨h.more b5, hG, hG, Ext.refl _, dn0_ok ts ts, Or.inl hg, hT.below b5, Or.inr ⟨by omega, by omega⟩, Or.inr ⟨Nat.le_refl _, by omega⟩, Or.inr ⟨by omega, by omega⟩, Or.inr ⟨by omega, by omega⟩, c1, c22, c3, hmap2⟩
  refine (all_any (n + 1) _ b _ _ _ _ ts ts dn0 n W hin hn (by omega) hl).mono ?_
  rintro r w2 ⟨rfl, h2, _, k2⟩
  have k3 : Kept K w w2 := (Kept.below (K := K) b5).trans (k2.mono fun i hi => ⟨Or.inl hi, by rintro rfl; have := h.in_ _ hi; omega⟩)
  go_wp2_with fail
  go_ret2
  exact ⟨rfl, h2.mono fun i hi => Or.inl hi, k3⟩
end Go.Proofs.YtekleoccdockhaaDoor
