/- The law LiftPlace, walked. -/
import Derived.Test.YtaiggfknighhgaaDoorIFix
import Derived.Test.YtaiggfknighhgaaDoorIAgain
import Derived.Test.YtaiggfknighhgaaDoorIEqA
set_option linter.unusedVariables false
set_option linter.unusedSimpArgs false
namespace Go.Proofs.YtaiggfknighhgaaDoor
open Go.RowKit Go.Maps Go.MapKept

theorem wpList_load_rowG {P : Program} {ops : Array Oper} {rest : List Oper} {o : Oper} {a : Act} {w : World} {Q : Exit → Act → World → Prop} (hw : Region.wanted o (yielded ops a.tmps) = true) (ty : TypeId) (x : Operand) (ho : o.op = .load ty x)
    (g : Nat) (hx : a.eval x = .pointer (some ⟨g, 0, none⟩)) (t : TypeId) (cs : Array Value) (fr : Nat × Nat) (d : TypeDesc) (hg : w.heap[g]? = some (.cells cs t fr))
    (hu : P.underlying ty = some d) (hd : (match d with | .struct _ | .array _ _ => true | _ => false) = true) (hi : (P.info? ty).map (·.size) = some cs.size)
    (h : wpList P ops Q rest (a.put o.dst (.agg cs)) w) : wpList P ops Q (o :: rest) a w :=
  wpList_step fun K hK => by rw [if_pos hw]; exact wp_load_row ty x ho g hx t cs fr d hg hu hd hi (hK _ _ h)
theorem SlN.takeI {B : Nat} {e : TypeId} {w : World} {A : Option Addr} {m c : Nat} {xs : List Ins} (h : SlN B e 5 Ins.five w (.slice A m c) xs) {n : Nat} (hn : n ≤ xs.length) : SlN B e 5 Ins.five w (.slice A n c) (xs.take n) := by
  obtain ⟨A', c', hv, h1, h2, h3, h4⟩ := h
  injection hv with e1 e2 e3
  subst e1 e2 e3
  have hl : (xs.take n).length = n := by rw [List.length_take, Nat.min_eq_left hn]
  refine ⟨A, c, by rw [hl], by omega, h2, h3, fun h0 => ?_⟩
  obtain ⟨b, off, hA, hb, ht, hx⟩ := h4 (by omega)
  refine ⟨b, off, hA, hb, ht, fun j x hj => ?_⟩
  have hj' : j < n := by have := (List.getElem?_eq_some_iff.1 hj).1; omega
  exact hx j x (by rw [← hj, List.getElem?_take_of_lt hj'])
theorem blockO_again {y : List Ins} {a b : Nat} (hl : y.length ≤ 100) (hn : ∀ i, i ∈ y → i.op ≠ 1) : blockO (blockO [] y a).1 y b = blockO [] y a ∧ Good (blockO [] y a).1 ∧ (blockO [] y a).1.length ≤ 90000 := by
  have hG0 : Good [] := good_of rfl
  cases h : oddL y with
  | true =>
    have e : ∀ ts pc, blockO ts y pc = (ts, fun _ => 0, 120) := fun ts pc => by unfold blockO; rw [if_pos h]
    rw [e, e]
    exact ⟨rfl, hG0, by show 0 ≤ 90000; omega⟩
  | false =>
    have hp := oddL_false h
    have e : ∀ ts pc, blockO ts y pc = ((blkT ts y pc).1, fun r => (((blkT ts y pc).2 r : Nat) : Int), 0) := fun ts pc => by unfold blockO; rw [if_neg (by rw [h]; decide)]; rfl
    obtain ⟨g1, _, _⟩ := blkT_ok (pc := a) hG0 hp
    have hlen := blkT_len (pc := a) hG0 hp hl (by decide)
    rw [e [] a]
    dsimp only
    rw [e, blkT_again (pc' := b) hG0 g1 hp (Or.inr hn) (Ext.refl _)]
    exact ⟨rfl, g1, by simp only [List.length_nil] at hlen; omega⟩
theorem take_more {y : List Ins} {j : Nat} (hj : j < y.length) (h : ∀ i, i ∈ y.take j → i.op ≠ 1) (hx : y[j].op ≠ 1) : ∀ i, i ∈ y.take (j + 1) → i.op ≠ 1 := fun i hi => by
  rw [takeI_snoc hj, List.mem_append] at hi
  rcases hi with hi | hi
  · exact h i hi
  · simp at hi; rw [hi]; exact hx
set_option maxRecDepth 100000 in
set_option maxHeartbeats 4000000 in
theorem law2_any (B : Nat) (e : TypeId) (v : Value) (xs : List Ins) (a b : Nat) (ha : a < 4294967296) (hb : b < 4294967296) (w : World) (hs : SlN B e 5 Ins.five w v xs) (hT : Tab w) (hgz : 0 < w.heap.size) :
    Calls Tryd.prog 4 #[v, .int .u32 a, .int .u32 b] w fun e w' => e = .returned (.bool true) ∧ Below w.heap.size w w' := by
  obtain ⟨A, c, rfl, hd1, hd2, _⟩ := hs.open_
  have hpl : xs.length ≤ 9223372036854775807 := by unfold maxLen at hd2; omega
  have hy0 := hs.takeI (n := min xs.length 30) (Nat.min_le_left _ _)
  obtain ⟨y, hy⟩ : ∃ y, y = xs.take (min xs.length 30) := ⟨_, rfl⟩
  rw [← hy] at hy0
  have hyl : y.length = min xs.length 30 := by rw [hy, List.length_take]; omega
  clear hy
  obtain ⟨N, hq⟩ : ∃ N : Nat, y.length = N ∧ N ≤ 30 ∧ N ≤ c ∧ SlN B e 5 Ins.five w (.slice A N c) y ∧ (((30 : Int) < (xs.length : Int) ∧ N = 30 ∧ (30 : Int) ≤ (c : Int)) ∨ ((¬ (30 : Int) < (xs.length : Int)) ∧ ((30 : Int) < (xs.length : Int)) = False ∧ (30 < xs.length) = False ∧ (if (30 : Int) < (xs.length : Int) then 30 else (xs.length : Int)) = (xs.length : Int) ∧ N = xs.length ∧ (xs.length : Int) ≤ (c : Int))) := by
    refine ⟨min xs.length 30, hyl, Nat.min_le_right _ _, by omega, hy0, ?_⟩
    by_cases h12 : (30 : Int) < (xs.length : Int)
    · exact Or.inl ⟨h12, Nat.min_eq_right (by omega), by omega⟩
    · exact Or.inr ⟨h12, eq_false h12, eq_false (by omega), if_neg h12, Nat.min_eq_left (by omega), by omega⟩
  obtain ⟨hyN, hN30, hNc, hyS, hq⟩ := hq
  have HYN := Lib.hid hyN
  clear hy0 hyl hs hyN
  have hNew := new_any (fun i => i < w.heap.size) w (fun i hi => hi)
  have hend : ∀ w', Kept (fun i => i < w.heap.size) w w' → Below w.heap.size w w' := fun w' h => below_kept h
  obtain ⟨K0, hK⟩ : ∃ K : Nat → Prop, (fun i => i < w.heap.size) = K := ⟨_, rfl⟩
  rw [hK] at hNew hend
  have hg0 : K0 0 := by rw [← hK]; exact hgz
  have hgs : ∀ w', Kept K0 w w' → 0 < w'.heap.size := fun w' h => Nat.lt_of_lt_of_le hgz h.size
  clear hK
  have hBB := fun a ha b w hT h hv => block_any K0 b [] B e (.slice A N c) y a ha (by decide) (by rw [HYN.out]; omega) (good_of rfl) hg0 w hT h hv
  have hB2' := fun ts K p w hl hG hg hT h hv => block_any K p ts B e (.slice A N c) y b hb hl (by rw [HYN.out]; omega) hG hg w hT h hv
  have HBA := fun h => blockO_again (y := y) (a := a) (b := b) (by rw [HYN.out]; omega) h
  rcases hq with ⟨h12, hNe, hq1⟩ | ⟨h12, h13, h14, h15, hNe, hq1⟩
  all_goals
    subst hNe
    go_enter Tryd.func4, Tryd.ntmps4
    go_wp2_with fail
    refine hNew.mono ?_
    rintro r w1 ⟨rfl, h1, b1⟩
    have k1 : Kept K0 w w1 := Kept.below b1
    have T1 := hT.kept k1 hg0
    have hvK : ∀ w', Kept K0 w w' → SlN B e 5 Ins.five w' _ y := fun w' h => hyS.below (hend w' h)
    have hy1 := hvK _ k1
    clear hNew b1 hT
    go_wp2_with fail
    go_loopw [8] (fun i wr => ∃ j : Nat, j ≤ y.length ∧ i = .int .i64 j ∧ (∀ i, i ∈ y.take j → i.op ≠ 1) ∧ w1 = wr) (fun i _ => y.length - (intOf i).toNat)
    case atStart => exact ⟨0, by omega, rfl, by simp, rfl⟩
    case round =>
      obtain ⟨j, hj, rfl, hno, rfl⟩ := hrel
      have hn := HYN.out
      by_cases hlt : j < y.length
      · try have hlt1 : (j : Int) < 30 := by omega
        try have hlt2 : (j : Int) < (xs.length : Int) := by omega
        obtain ⟨bb, off, eA, hat, hbl⟩ := hy1.at_ hlt
        have hmore := fun h => take_more hlt hno h
        generalize y[j] = i at hat hmore
        obtain ⟨op, rd, rs1, rs2, imm⟩ := i
        subst eA
        have d0 : w1.cell? ⟨bb, off + j * 5, none⟩ = some (.int .i64 op) := hat 0 _ rfl
        clear hn hat
        by_cases h1' : op = 1
        · have hb1 : (op == 1) = true := by simpa using h1'
          clear h1' hmore
          go_wp2_with fail
          refine (lfixed_any w1 T1 (hgs _ k1)).mono ?_
          rintro r w2 ⟨rfl, b2⟩
          go_wp2_with fail
          go_ret
          exact ⟨rfl, hend _ (k1.trans (Kept.below b2))⟩
        · have hb1 : (op == 1) = false := by simpa using h1'
          have hm := hmore h1'
          clear h1' hmore
          go_wp2_with fail
          go_roundw
          case rel => exact ⟨j + 1, by omega, by go_num, hm, by first | rfl | trivial⟩
          case measure => simp [intOf]; omega
      · try have hlt1 : ¬ (j : Int) < 30 := by omega
        try have hlt2 : ¬ (j : Int) < (xs.length : Int) := by omega
        rw [List.take_of_length_le (by omega)] at hno
        obtain ⟨rA, rG, rL⟩ := HBA hno
        have hB1 := hBB a ha w.heap.size w1 T1 h1 (fun w' hk => hvK _ (k1.trans hk))
        have hB2 := fun K hg W hT h hv => hB2' (blockO [] y a).1 K w.heap.size W rL rG hg hT h hv
        rw [rA] at hB2
        clear hn hBB hB2' HBA hno hb ha h1 hy1 rA
        generalize blockO [] y a = R at hB1 hB2 rG rL
        unfold FromPost at hB1 hB2
        go_wp2_with fail
        refine hB1.mono ?_
        rintro r w2 ⟨rfl, h2, k2⟩
        have k3 := k1.trans k2
        have T2 := T1.kept k2 hg0
        have ba := (Below.refl w2.heap.size w2).alloc (Nat.le_refl _) (.cells (zV R.2.1) 26)
        have gX := ZAt.new 26 w2 R.2.1
        obtain ⟨K2, d2, kk2, kn2⟩ := h2.grow ba
        have e1 := kn2 w2.heap.size (Nat.le_refl _) (by simp)
        have k4 := k3.trans (Kept.below ba)
        have hB := hB2 K2 (kk2 _ hg0) _ (T2.below ba) d2 (fun w' hk => hvK _ (k4.trans (hk.mono kk2)))
        have T3 := T2.below ba
        clear hB1 hB2 h2 k2 k3 T2 T1 k1 ba kn2 rL rG
        go_wp2_with (first | ((refine wpList_store_row rfl 26 (.tmp 9) (.tmp 39) rfl w2.heap.size (zV R.2.1) rfl rfl 26 _ (blk_new w2 _) (by rw [zV_size]; exact info_arr) rfl (zV_one _) ?_); rw [World.setRow_alloc_new]) | fail)
        refine hB.mono ?_
        rintro r w3 ⟨rfl, h3, k5⟩
        have k6 := k4.trans (k5.mono kk2)
        have T4 := T3.kept k5 (kk2 _ hg0)
        have bc := (Below.refl w3.heap.size w3).alloc (Nat.le_refl _) (.cells (zV R.2.1) 26)
        have gY := ZAt.new 26 w3 R.2.1
        have gX2 := (gX.kept k5 e1).below bc
        have k7 := k6.trans (Kept.below bc)
        have T5 := T4.below bc
        have hq := fun w => eq_arr R.2.1 w
        have he : (R.2.2 == R.2.2) = true := by simp
        unfold ZAt at gX2 gY
        clear hB d2 k4 T3 k5 k6 T4 bc gX
        go_wp2_with (first | ((refine wpList_store_row rfl 26 (.tmp 11) (.tmp 46) rfl w3.heap.size (zV R.2.1) rfl rfl 26 _ (blk_new w3 _) (by rw [zV_size]; exact info_arr) rfl (zV_one _) ?_); rw [World.setRow_alloc_new]) | (refine wpList_load_rowG (by first | rfl | (simp [Region.wanted, yielded]; done)) 26 (.tmp 9) rfl w2.heap.size rfl 26 (zV R.2.1) (0, 0) _ gX2 Tryd.underlying26 rfl (by rw [zV_size]; exact info_arr) ?_) | (refine wpList_load_rowG (by first | rfl | (simp [Region.wanted, yielded]; done)) 26 (.tmp 11) rfl w3.heap.size rfl 26 (zV R.2.1) (0, 0) _ gY Tryd.underlying26 rfl (by rw [zV_size]; exact info_arr) ?_) | fail)
        refine (lfixed_any _ T5 (hgs _ k7)).mono ?_
        rintro r w4 ⟨rfl, b4⟩
        go_wp2_with fail
        go_ret
        exact ⟨rfl, hend _ (k7.trans (Kept.below b4))⟩
end Go.Proofs.YtaiggfknighhgaaDoor
