/- blast: below. -/
import Derived.Test.YtgnahjadjgjecaaBSum
import Derived.Deep.MidRow
set_option linter.unusedVariables false
set_option linter.unusedSimpArgs false
namespace Go.Proofs.Ytgnahjadjgjecaa
open Go.RowKit Go.Maps Go.MapKept

theorem range_row {w : World} {b : Nat} {cs : Array Value} {t : TypeId} {fz : Nat × Nat} (h : w.heap[b]? = some (.cells cs t fz)) : w.rangeAt b 0 cs.toList := fun j v hv => by
  rw [Nat.zero_add, cell_of_row w b j cs t fz h]
  simpa using hv
def sgW (sg : Bool) (a : Nat → Int) : Nat → Int := if sg = true then flipW a else a
theorem sgW_lits {gs : List Gate} {a : Nat → Int} (h : Lits gs a) (sg : Bool) : Lits gs (sgW sg a) := by
  unfold sgW
  split
  · exact flipW_lits h
  · exact h
def belowG (sg : Bool) (a b : Nat → Int) (gs : List Gate) : GL := ((sumF (sgW sg a) (notW (sgW sg b)) gs 1 32).1, -(sumF (sgW sg a) (notW (sgW sg b)) gs 1 32).2.2)
set_option maxRecDepth 100000 in
set_option maxHeartbeats 4000000 in
theorem below_any (K : Nat → Prop) (q : Nat) (gs : List Gate) (hG : GGood gs) (a b : Nat → Int) (sg : Bool) (ha : Lits gs a) (hb : Lits gs b) (hl : gs.length < 199000) (w : World) (h : QS K w q gs) :
    Calls Try.prog 52 #[.pointer (some ⟨q, 0, none⟩), .agg (zV a), .agg (zV b), .bool sg] w (LitPost K w q (belowG sg a b gs)) := by
  have b1 := (Below.refl w.heap.size w).alloc (Nat.le_refl _) (.cells (zV a) 60)
  have b2 := b1.alloc (by simp) (.cells (zV b) 60)
  have hz0 := blk_new w (.cells (zV a) 60)
  have hz1 := blk_new (w.alloc (.cells (zV a) 60)) (.cells (zV b) 60)
  have hsz1 : (w.alloc (.cells (zV a) 60)).heap.size = w.heap.size + 1 := by simp
  have hsz2 : ((w.alloc (.cells (zV a) 60)).alloc (.cells (zV b) 60)).heap.size = w.heap.size + 2 := by simp
  have hA := blk_alloc hz0 (.cells (zV b) 60)
  rw [hsz1] at hz1
  have hQ : QS (More K w ((w.alloc (.cells (zV a) 60)).alloc (.cells (zV b) 60))) _ q gs := QAt.more h b2
  generalize hw2 : (w.alloc (.cells (zV a) 60)).alloc (.cells (zV b) 60) = w2 at *
  have kk : ∀ i, K i → More K w w2 i := fun i hi => Or.inl hi
  have k0 : More K w w2 w.heap.size := Or.inr ⟨Nat.le_refl _, by omega⟩
  have k1 : More K w w2 (w.heap.size + 1) := Or.inr ⟨Nat.le_add_right _ _, by omega⟩
  have hk : Kept K w w2 := Kept.below b2
  generalize More K w w2 = K1 at *
  have hKin : ∀ i, K i → i < w.heap.size := QAt.in_ h
  clear b1 b2 hsz1 h hz0
  have hB : ZAt 60 w2 (w.heap.size + 1) b := hz1
  have hA : ZAt 60 w2 w.heap.size a := hA
  clear hz1
  have hx := sgW_lits ha sg
  have hy := sgW_lits hb sg
  have hT := fun K w h => sum_any K q gs hG (sgW sg a) (notW (sgW sg b)) 1 (Or.inl rfl) hx (notW_lits hy) hl w h
  have hbs : SmallW (sgW sg b) := Lits.small hy (by omega)
  have hwr : wrap64 (-(sumF (sgW sg a) (notW (sgW sg b)) gs 1 32).2.2) = -(sumF (sgW sg a) (notW (sgW sg b)) gs 1 32).2.2 := by
    obtain ⟨A, B, cv, hok⟩ := sum_some hG hx (notW_lits hy) (c := 1) (Or.inl rfl)
    have h32 := hok 32 (Nat.le_refl _)
    obtain ⟨c1, c2⟩ := h32.clit
    have c3 := h32.len
    unfold wrap64
    omega
  unfold belowG
  generalize hs : sumF (sgW sg a) (notW (sgW sg b)) gs 1 32 = s at *
  clear hs hx hy
  subst hw2
  cases sg with
  | false =>
    change ∀ (K : Nat → Prop) (w : World), QS K w q gs → Calls Try.prog 46 #[.pointer (some ⟨q, 0, none⟩), .agg (zV a), .agg (zV (notW b)), .int .i64 1] w (SumPost K w q s) at hT
    change SmallW b at hbs
    go_enter Try.func52, Try.ntmps52
    go_wp2_with fail
    generalize hwr0 : (w.alloc (.cells (zV a) 60)).alloc (.cells (zV b) 60) = wr at *
    have hsz : w.heap.size + 2 ≤ wr.heap.size := by omega
    clear hwr0 hsz2
    generalize hxa : a = x at *
    generalize hyb : b = y at *
    clear hxa hyb
    have bd : Below wr.heap.size wr wr.drew := below_drewN (Below.refl _ _) 1
    have hQd := QAt.below hQ bd
    have hAd := hA.below bd
    have hBd := hB.below bd
    have hkd := hk.trans (Kept.below bd)
    have hSd : wr.drew.rangeAt w.heap.size 0 (zV x).toList ∧ wr.drew.rangeAt (w.heap.size + 1) 0 (zV y).toList := ⟨range_row hAd, range_row hBd⟩
    clear hA hB hQ hk
    refine wp_region_any (by kernel_rfl) (wpAny_of_held (S := fun w' => w'.rangeAt w.heap.size 0 (zV x).toList ∧ w'.rangeAt (w.heap.size + 1) 0 (zV y).toList) _ _ _ _ ?_)
    change wpAnyH _ _ _ _ _ 11 _ _ wr.drew
    refine wpAnyH_take (i := 0) (v := ?_) rfl (by kernel_rfl) (by kernel_rfl) (by kernel_rfl) (fun _ _ _ h => h) (Or.inl ⟨by rfl, ?_⟩) hSd ?_
    rotate_left
    · intro w hw
      go_simp
      try with_reducible rfl
    refine wpAnyH_take (i := 1) rfl (by kernel_rfl) (by kernel_rfl) (by kernel_rfl) (fun _ _ _ h => h) (yieldsIf_load_mid (by rfl) 60 (.tmp 5) rfl w.heap.size 0 rfl (zV x).toList _ (fun w hw => hw.1) Try.underlying60 rfl (by rw [Array.length_toList, zV_size]; exact info_bits)) hSd ?_
    refine wpAnyH_take (i := 2) rfl (by kernel_rfl) (by kernel_rfl) (by kernel_rfl) (fun _ _ _ h => h) (yieldsIf_load_mid (by rfl) 60 (.tmp 6) rfl (w.heap.size + 1) 0 rfl (zV y).toList _ (fun w hw => hw.2) Try.underlying60 rfl (by rw [Array.length_toList, zV_size]; exact info_bits)) hSd ?_
    refine wpAnyH_all (rs := [3, 8]) (by kernel_rfl) (by simp) (fun i hi => ?_)
    rcases (by simpa using hi : i = 3 ∨ i = 8) with rfl | rfl
    · refine wpOp_step rfl (fun K9 hK9 => ?_)
      rw [if_pos (by rfl)]
      go_simp
      go_at_call 47
      refine (turned_any y hbs wr.drew).mono ?_
      rintro r w1 ⟨rfl, b1⟩
      have hQ1 := QAt.below hQd b1
      have hA1 := hAd.below b1
      have hB1 := hBd.below b1
      have hk1 := hkd.trans (Kept.below b1)
      have hg1 : wr.heap.size ≤ w1.heap.size := b1.size
      refine hK9 _ _ ⟨⟨range_row hA1, range_row hB1⟩, ?_⟩
      clear hK9
      refine wpAnyH_all (rs := [4, 8]) (by kernel_rfl) (by simp) (fun i hi => ?_)
      rcases (by simpa using hi : i = 4 ∨ i = 8) with rfl | rfl
      · refine wpOp_step rfl (fun K9 hK9 => ?_)
        rw [if_pos (by rfl)]
        go_simp
        go_at_call 46
        refine (hT K1 w1 hQ1).mono ?_
        rintro r w2 ⟨rfl, hQx, kx⟩
        have hA2 := hA1.kept kx k0
        have hB2 := hB1.kept kx k1
        have hk2 := hk1.trans (kx.mono kk)
        have hg2 : wr.heap.size ≤ w2.heap.size := Nat.le_trans hg1 kx.size
        have hSx : w2.rangeAt w.heap.size 0 (zV x).toList ∧ w2.rangeAt (w.heap.size + 1) 0 (zV y).toList := ⟨range_row hA2, range_row hB2⟩
        refine hK9 _ _ ⟨hSx, ?_⟩
        clear hK9
        refine wpAnyH_take (i := 5) (v := ?_) rfl (by kernel_rfl) (by kernel_rfl) (by kernel_rfl) (fun _ _ _ h => h) (Or.inl ⟨by rfl, ?_⟩) hSx ?_
        rotate_left
        · intro w hw
          go_simp
          try with_reducible rfl
        refine wpAnyH_take (i := 6) (v := ?_) rfl (by kernel_rfl) (by kernel_rfl) (by kernel_rfl) (fun _ _ _ h => h) (Or.inl ⟨by rfl, ?_⟩) hSx ?_
        rotate_left
        · intro w hw
          go_simp
          try with_reducible rfl
        refine wpAnyH_take (i := 7) (v := ?_) rfl (by kernel_rfl) (by kernel_rfl) (by kernel_rfl) (fun _ _ _ h => h) (Or.inl ⟨by rfl, ?_⟩) hSx ?_
        rotate_left
        · intro w hw
          go_simp
          try with_reducible rfl
        refine wpAnyH_all (rs := [8]) (by kernel_rfl) (by simp) (fun i hi => ?_)
        obtain rfl : i = 8 := by simpa using hi
        have bx := (Below.refl w2.heap.size w2).alloc (Nat.le_refl _) (.cells (zV fun _ => 0) 60)
        have hZx := blk_new w2 (.cells (zV fun _ => 0) 60)
        have hAx := hA2.below bx
        have hBx := hB2.below bx
        have hQx := QAt.more hQx bx
        have kg : More K1 w2 (w2.alloc (.cells (zV fun _ => 0) 60)) w2.heap.size := Or.inr ⟨Nat.le_refl _, by simp⟩
        have kk2 : ∀ i, K i → More K1 w2 (w2.alloc (.cells (zV fun _ => 0) 60)) i := fun i hi => Or.inl (kk i hi)
        have hkx := hk2.trans (Kept.below bx)
        refine wpOp_step rfl (fun K9 hK9 => ?_)
        rw [if_pos (by rfl)]
        go_simp
        rw [zero_zV]
        refine hK9 _ _ ⟨⟨range_row hAx, range_row hBx⟩, ?_⟩
        clear hK9
        have hSy : ((w2.alloc (.cells (zV fun _ => 0) 60)).setRow w2.heap.size (zV s.2.1)).rangeAt w.heap.size 0 (zV x).toList ∧ ((w2.alloc (.cells (zV fun _ => 0) 60)).setRow w2.heap.size (zV s.2.1)).rangeAt (w.heap.size + 1) 0 (zV y).toList := ⟨range_row (hAx.row_other (by omega)), range_row (hBx.row_other (by omega))⟩
        have hQy := QAt.moved hQx (row_kept (w2.alloc (.cells (zV fun _ => 0) 60)) w2.heap.size (zV s.2.1)) kg
        have hky := hkx.trans ((row_kept (w2.alloc (.cells (zV fun _ => 0) 60)) w2.heap.size (zV s.2.1)).mono fun i hi => by have := hKin i hi; omega)
        refine wpAnyH_all (rs := [9]) (by kernel_rfl) (by simp) (fun i hi => ?_)
        obtain rfl : i = 9 := by simpa using hi
        refine wpOp_step rfl (fun K9 hK9 => ?_)
        rw [if_pos (by rfl)]
        refine wp_store_row 60 (.tmp 9) (.tmp 26) rfl w2.heap.size (zV s.2.1) rfl rfl 60 _ hZx (by rw [zV_size]; exact info_bits) (by rw [zV_size, zV_size]) (one_zV _) ?_
        refine hK9 _ _ ⟨hSy, ?_⟩
        clear hK9
        refine wpAnyH_take (i := 10) (v := ?_) rfl (by kernel_rfl) (by kernel_rfl) (by kernel_rfl) (fun _ _ _ h => h) (Or.inl ⟨by rfl, ?_⟩) hSy ?_
        rotate_left
        · intro w hw
          go_simp
          try with_reducible rfl
        refine wpAnyH_done (by kernel_rfl) ?_ _
        have hky' := hky
        clear hZx hQx hkx hSx hSy hAx hBx kx
        generalize (w2.alloc (.cells (zV fun _ => 0) 60)).setRow w2.heap.size (zV s.2.1) = wy at *
        go_wp2_with fail
        go_ret
        exact ⟨congrArg (fun n => Ending.returned (.int .i64 n)) hwr, QAt.mono hQy kk2, hky⟩
      · have bx := (Below.refl w1.heap.size w1).alloc (Nat.le_refl _) (.cells (zV fun _ => 0) 60)
        have hZ2 := blk_new w1 (.cells (zV fun _ => 0) 60)
        have hA2 := hA1.below bx
        have hB2 := hB1.below bx
        have hQ2 := QAt.more hQ1 bx
        have kg : More K1 w1 (w1.alloc (.cells (zV fun _ => 0) 60)) w1.heap.size := Or.inr ⟨Nat.le_refl _, by simp⟩
        have kk2 : ∀ i, K1 i → More K1 w1 (w1.alloc (.cells (zV fun _ => 0) 60)) i := fun i hi => Or.inl hi
        have hk2 := hk1.trans (Kept.below bx)
        refine wpOp_step rfl (fun K9 hK9 => ?_)
        rw [if_pos (by rfl)]
        go_simp
        rw [zero_zV]
        refine hK9 _ _ ⟨⟨range_row hA2, range_row hB2⟩, ?_⟩
        clear hK9
        refine wpAnyH_all (rs := [4]) (by kernel_rfl) (by simp) (fun i hi => ?_)
        obtain rfl : i = 4 := by simpa using hi
        refine wpOp_step rfl (fun K9 hK9 => ?_)
        rw [if_pos (by rfl)]
        go_simp
        go_at_call 46
        refine (hT _ _ hQ2).mono ?_
        rintro r w3 ⟨rfl, hQx, kx⟩
        have hAx := hA2.kept kx (kk2 _ k0)
        have hBx := hB2.kept kx (kk2 _ k1)
        have hZx := kx.blk kg hZ2
        have hkx := hk2.trans (kx.mono fun i hi => kk2 _ (kk i hi))
        have hSx : w3.rangeAt w.heap.size 0 (zV x).toList ∧ w3.rangeAt (w.heap.size + 1) 0 (zV y).toList := ⟨range_row hAx, range_row hBx⟩
        have kk2 := fun i hi => kk2 i (kk i hi)
        refine hK9 _ _ ⟨hSx, ?_⟩
        clear hK9
        refine wpAnyH_take (i := 5) (v := ?_) rfl (by kernel_rfl) (by kernel_rfl) (by kernel_rfl) (fun _ _ _ h => h) (Or.inl ⟨by rfl, ?_⟩) hSx ?_
        rotate_left
        · intro w hw
          go_simp
          try with_reducible rfl
        refine wpAnyH_take (i := 6) (v := ?_) rfl (by kernel_rfl) (by kernel_rfl) (by kernel_rfl) (fun _ _ _ h => h) (Or.inl ⟨by rfl, ?_⟩) hSx ?_
        rotate_left
        · intro w hw
          go_simp
          try with_reducible rfl
        refine wpAnyH_take (i := 7) (v := ?_) rfl (by kernel_rfl) (by kernel_rfl) (by kernel_rfl) (fun _ _ _ h => h) (Or.inl ⟨by rfl, ?_⟩) hSx ?_
        rotate_left
        · intro w hw
          go_simp
          try with_reducible rfl
        have hSy : ((w3).setRow w1.heap.size (zV s.2.1)).rangeAt w.heap.size 0 (zV x).toList ∧ ((w3).setRow w1.heap.size (zV s.2.1)).rangeAt (w.heap.size + 1) 0 (zV y).toList := ⟨range_row (hAx.row_other (by omega)), range_row (hBx.row_other (by omega))⟩
        have hQy := QAt.moved hQx (row_kept (w3) w1.heap.size (zV s.2.1)) kg
        have hky := hkx.trans ((row_kept (w3) w1.heap.size (zV s.2.1)).mono fun i hi => by have := hKin i hi; omega)
        refine wpAnyH_all (rs := [9]) (by kernel_rfl) (by simp) (fun i hi => ?_)
        obtain rfl : i = 9 := by simpa using hi
        refine wpOp_step rfl (fun K9 hK9 => ?_)
        rw [if_pos (by rfl)]
        refine wp_store_row 60 (.tmp 9) (.tmp 26) rfl w1.heap.size (zV s.2.1) rfl rfl 60 _ hZx (by rw [zV_size]; exact info_bits) (by rw [zV_size, zV_size]) (one_zV _) ?_
        refine hK9 _ _ ⟨hSy, ?_⟩
        clear hK9
        refine wpAnyH_take (i := 10) (v := ?_) rfl (by kernel_rfl) (by kernel_rfl) (by kernel_rfl) (fun _ _ _ h => h) (Or.inl ⟨by rfl, ?_⟩) hSy ?_
        rotate_left
        · intro w hw
          go_simp
          try with_reducible rfl
        refine wpAnyH_done (by kernel_rfl) ?_ _
        have hky' := hky
        clear hZx hQx hkx hSx hSy hAx hBx kx
        generalize (w3).setRow w1.heap.size (zV s.2.1) = wy at *
        go_wp2_with fail
        go_ret
        exact ⟨congrArg (fun n => Ending.returned (.int .i64 n)) hwr, QAt.mono hQy kk2, hky⟩
    · have bx := (Below.refl wr.drew.heap.size wr.drew).alloc (Nat.le_refl _) (.cells (zV fun _ => 0) 60)
      have hZ1 := blk_new wr.drew (.cells (zV fun _ => 0) 60)
      have hA1 := hAd.below bx
      have hB1 := hBd.below bx
      have hQ1 := QAt.more hQd bx
      have kg : More K1 wr.drew (wr.drew.alloc (.cells (zV fun _ => 0) 60)) wr.drew.heap.size := Or.inr ⟨Nat.le_refl _, by simp⟩
      have kk2 : ∀ i, K1 i → More K1 wr.drew (wr.drew.alloc (.cells (zV fun _ => 0) 60)) i := fun i hi => Or.inl hi
      have hk1 := hkd.trans (Kept.below bx)
      refine wpOp_step rfl (fun K9 hK9 => ?_)
      rw [if_pos (by rfl)]
      go_simp
      rw [zero_zV]
      refine hK9 _ _ ⟨⟨range_row hA1, range_row hB1⟩, ?_⟩
      clear hK9
      refine wpAnyH_all (rs := [3]) (by kernel_rfl) (by simp) (fun i hi => ?_)
      obtain rfl : i = 3 := by simpa using hi
      refine wpOp_step rfl (fun K9 hK9 => ?_)
      rw [if_pos (by rfl)]
      go_simp
      go_at_call 47
      refine (turned_any y hbs _).mono ?_
      rintro r w2 ⟨rfl, b2⟩
      have hQ2 := QAt.below hQ1 b2
      have hA2 := hA1.below b2
      have hB2 := hB1.below b2
      have hk2 := hk1.trans (Kept.below b2)
      have hZ2 := blk_below hZ1 b2
      refine hK9 _ _ ⟨⟨range_row hA2, range_row hB2⟩, ?_⟩
      clear hK9
      refine wpAnyH_all (rs := [4]) (by kernel_rfl) (by simp) (fun i hi => ?_)
      obtain rfl : i = 4 := by simpa using hi
      refine wpOp_step rfl (fun K9 hK9 => ?_)
      rw [if_pos (by rfl)]
      go_simp
      go_at_call 46
      refine (hT _ _ hQ2).mono ?_
      rintro r w3 ⟨rfl, hQx, kx⟩
      have hAx := hA2.kept kx (kk2 _ k0)
      have hBx := hB2.kept kx (kk2 _ k1)
      have hZx := kx.blk kg hZ2
      have hkx := hk2.trans (kx.mono fun i hi => kk2 _ (kk i hi))
      have hSx : w3.rangeAt w.heap.size 0 (zV x).toList ∧ w3.rangeAt (w.heap.size + 1) 0 (zV y).toList := ⟨range_row hAx, range_row hBx⟩
      have kk2 := fun i hi => kk2 i (kk i hi)
      refine hK9 _ _ ⟨hSx, ?_⟩
      clear hK9
      refine wpAnyH_take (i := 5) (v := ?_) rfl (by kernel_rfl) (by kernel_rfl) (by kernel_rfl) (fun _ _ _ h => h) (Or.inl ⟨by rfl, ?_⟩) hSx ?_
      rotate_left
      · intro w hw
        go_simp
        try with_reducible rfl
      refine wpAnyH_take (i := 6) (v := ?_) rfl (by kernel_rfl) (by kernel_rfl) (by kernel_rfl) (fun _ _ _ h => h) (Or.inl ⟨by rfl, ?_⟩) hSx ?_
      rotate_left
      · intro w hw
        go_simp
        try with_reducible rfl
      refine wpAnyH_take (i := 7) (v := ?_) rfl (by kernel_rfl) (by kernel_rfl) (by kernel_rfl) (fun _ _ _ h => h) (Or.inl ⟨by rfl, ?_⟩) hSx ?_
      rotate_left
      · intro w hw
        go_simp
        try with_reducible rfl
      have hSy : ((w3).setRow wr.heap.size (zV s.2.1)).rangeAt w.heap.size 0 (zV x).toList ∧ ((w3).setRow wr.heap.size (zV s.2.1)).rangeAt (w.heap.size + 1) 0 (zV y).toList := ⟨range_row (hAx.row_other (by omega)), range_row (hBx.row_other (by omega))⟩
      have hQy := QAt.moved hQx (row_kept (w3) wr.heap.size (zV s.2.1)) kg
      have hky := hkx.trans ((row_kept (w3) wr.heap.size (zV s.2.1)).mono fun i hi => by have := hKin i hi; omega)
      refine wpAnyH_all (rs := [9]) (by kernel_rfl) (by simp) (fun i hi => ?_)
      obtain rfl : i = 9 := by simpa using hi
      refine wpOp_step rfl (fun K9 hK9 => ?_)
      rw [if_pos (by rfl)]
      refine wp_store_row 60 (.tmp 9) (.tmp 26) rfl wr.heap.size (zV s.2.1) rfl rfl 60 _ hZx (by rw [zV_size]; exact info_bits) (by rw [zV_size, zV_size]) (one_zV _) ?_
      refine hK9 _ _ ⟨hSy, ?_⟩
      clear hK9
      refine wpAnyH_take (i := 10) (v := ?_) rfl (by kernel_rfl) (by kernel_rfl) (by kernel_rfl) (fun _ _ _ h => h) (Or.inl ⟨by rfl, ?_⟩) hSy ?_
      rotate_left
      · intro w hw
        go_simp
        try with_reducible rfl
      refine wpAnyH_done (by kernel_rfl) ?_ _
      have hky' := hky
      clear hZx hQx hkx hSx hSy hAx hBx kx
      generalize (w3).setRow wr.heap.size (zV s.2.1) = wy at *
      go_wp2_with fail
      go_ret
      exact ⟨congrArg (fun n => Ending.returned (.int .i64 n)) hwr, QAt.mono hQy kk2, hky⟩
  | true =>
    change ∀ (K : Nat → Prop) (w : World), QS K w q gs → Calls Try.prog 46 #[.pointer (some ⟨q, 0, none⟩), .agg (zV (flipW a)), .agg (zV (notW (flipW b))), .int .i64 1] w (SumPost K w q s) at hT
    change SmallW (flipW b) at hbs
    have wa : wrap64 (-(a 31)) = -(a 31) := by have := ha 31 (by omega); unfold Lit at this; unfold wrap64; omega
    have wb : wrap64 (-(b 31)) = -(b 31) := by have := hb 31 (by omega); unfold Lit at this; unfold wrap64; omega
    go_enter Try.func52, Try.ntmps52
    go_wp2_with fail
    generalize hwr0 : (w.alloc (.cells (zV a) 60)).alloc (.cells (zV b) 60) = wo at *
    have hsz : w.heap.size + 2 ≤ wo.heap.size := by omega
    clear hwr0 hsz2
    have da := hA.cell (i := 31) (by omega)
    have db := hB.cell (i := 31) (by omega)
    have fa := hA.fro 31
    have fb := hB.fro 31
    go_region
    have hA2 : ZAt 60 ((wo.setCell ⟨w.heap.size, 31, none⟩ (.int .i64 (-(a 31)))).setCell ⟨w.heap.size + 1, 31, none⟩ (.int .i64 (-(b 31)))) w.heap.size (flipW a) := ((hA.set 31 (-(a 31))).ext (fun r _ => rfl)).set_other (by omega)
    have hB2 : ZAt 60 ((wo.setCell ⟨w.heap.size, 31, none⟩ (.int .i64 (-(a 31)))).setCell ⟨w.heap.size + 1, 31, none⟩ (.int .i64 (-(b 31)))) (w.heap.size + 1) (flipW b) := ((hB.set_other (by omega)).set 31 (-(b 31))).ext (fun r _ => rfl)
    have ks := qset wo w.heap.size 31 (.int .i64 (-(a 31)))
    have ks2 := qset (wo.setCell ⟨w.heap.size, 31, none⟩ (.int .i64 (-(a 31)))) (w.heap.size + 1) 31 (.int .i64 (-(b 31)))
    have hQ2 := QAt.moved (QAt.moved hQ ks k0) ks2 k1
    have hk2 := (hk.trans (ks.mono fun i hi => by have := hKin i hi; show i ≠ w.heap.size; omega)).trans (ks2.mono fun i hi => by have := hKin i hi; show i ≠ w.heap.size + 1; omega)
    have hsz3 : w.heap.size + 2 ≤ ((wo.setCell ⟨w.heap.size, 31, none⟩ (.int .i64 (-(a 31)))).setCell ⟨w.heap.size + 1, 31, none⟩ (.int .i64 (-(b 31)))).heap.size := by have := ks.size; have := ks2.size; omega
    clear hA hB hQ hk hsz da db fa fb ks ks2 wa wb
    generalize (wo.setCell ⟨w.heap.size, 31, none⟩ (.int .i64 (-(a 31)))).setCell ⟨w.heap.size + 1, 31, none⟩ (.int .i64 (-(b 31))) = w3 at *
    have bd : Below w3.heap.size w3 w3.drew := below_drewN (Below.refl _ _) 1
    have hQ := QAt.below hQ2 bd
    have hA := hA2.below bd
    have hB := hB2.below bd
    have hk := hk2.trans (Kept.below bd)
    have hsz : w.heap.size + 2 ≤ w3.drew.heap.size := hsz3
    clear hA2 hB2 hQ2 hk2 hsz3 bd
    go_wp2_with fail
    generalize w3.drew = wr at *
    generalize hxa : flipW a = x at *
    generalize hyb : flipW b = y at *
    clear hxa hyb
    have bd : Below wr.heap.size wr wr.drew := below_drewN (Below.refl _ _) 1
    have hQd := QAt.below hQ bd
    have hAd := hA.below bd
    have hBd := hB.below bd
    have hkd := hk.trans (Kept.below bd)
    have hSd : wr.drew.rangeAt w.heap.size 0 (zV x).toList ∧ wr.drew.rangeAt (w.heap.size + 1) 0 (zV y).toList := ⟨range_row hAd, range_row hBd⟩
    clear hA hB hQ hk
    refine wp_region_any (by kernel_rfl) (wpAny_of_held (S := fun w' => w'.rangeAt w.heap.size 0 (zV x).toList ∧ w'.rangeAt (w.heap.size + 1) 0 (zV y).toList) _ _ _ _ ?_)
    change wpAnyH _ _ _ _ _ 11 _ _ wr.drew
    refine wpAnyH_take (i := 0) (v := ?_) rfl (by kernel_rfl) (by kernel_rfl) (by kernel_rfl) (fun _ _ _ h => h) (Or.inl ⟨by rfl, ?_⟩) hSd ?_
    rotate_left
    · intro w hw
      go_simp
      try with_reducible rfl
    refine wpAnyH_take (i := 1) rfl (by kernel_rfl) (by kernel_rfl) (by kernel_rfl) (fun _ _ _ h => h) (yieldsIf_load_mid (by rfl) 60 (.tmp 5) rfl w.heap.size 0 rfl (zV x).toList _ (fun w hw => hw.1) Try.underlying60 rfl (by rw [Array.length_toList, zV_size]; exact info_bits)) hSd ?_
    refine wpAnyH_take (i := 2) rfl (by kernel_rfl) (by kernel_rfl) (by kernel_rfl) (fun _ _ _ h => h) (yieldsIf_load_mid (by rfl) 60 (.tmp 6) rfl (w.heap.size + 1) 0 rfl (zV y).toList _ (fun w hw => hw.2) Try.underlying60 rfl (by rw [Array.length_toList, zV_size]; exact info_bits)) hSd ?_
    refine wpAnyH_all (rs := [3, 8]) (by kernel_rfl) (by simp) (fun i hi => ?_)
    rcases (by simpa using hi : i = 3 ∨ i = 8) with rfl | rfl
    · refine wpOp_step rfl (fun K9 hK9 => ?_)
      rw [if_pos (by rfl)]
      go_simp
      go_at_call 47
      refine (turned_any y hbs wr.drew).mono ?_
      rintro r w1 ⟨rfl, b1⟩
      have hQ1 := QAt.below hQd b1
      have hA1 := hAd.below b1
      have hB1 := hBd.below b1
      have hk1 := hkd.trans (Kept.below b1)
      have hg1 : wr.heap.size ≤ w1.heap.size := b1.size
      refine hK9 _ _ ⟨⟨range_row hA1, range_row hB1⟩, ?_⟩
      clear hK9
      refine wpAnyH_all (rs := [4, 8]) (by kernel_rfl) (by simp) (fun i hi => ?_)
      rcases (by simpa using hi : i = 4 ∨ i = 8) with rfl | rfl
      · refine wpOp_step rfl (fun K9 hK9 => ?_)
        rw [if_pos (by rfl)]
        go_simp
        go_at_call 46
        refine (hT K1 w1 hQ1).mono ?_
        rintro r w2 ⟨rfl, hQx, kx⟩
        have hA2 := hA1.kept kx k0
        have hB2 := hB1.kept kx k1
        have hk2 := hk1.trans (kx.mono kk)
        have hg2 : wr.heap.size ≤ w2.heap.size := Nat.le_trans hg1 kx.size
        have hSx : w2.rangeAt w.heap.size 0 (zV x).toList ∧ w2.rangeAt (w.heap.size + 1) 0 (zV y).toList := ⟨range_row hA2, range_row hB2⟩
        refine hK9 _ _ ⟨hSx, ?_⟩
        clear hK9
        refine wpAnyH_take (i := 5) (v := ?_) rfl (by kernel_rfl) (by kernel_rfl) (by kernel_rfl) (fun _ _ _ h => h) (Or.inl ⟨by rfl, ?_⟩) hSx ?_
        rotate_left
        · intro w hw
          go_simp
          try with_reducible rfl
        refine wpAnyH_take (i := 6) (v := ?_) rfl (by kernel_rfl) (by kernel_rfl) (by kernel_rfl) (fun _ _ _ h => h) (Or.inl ⟨by rfl, ?_⟩) hSx ?_
        rotate_left
        · intro w hw
          go_simp
          try with_reducible rfl
        refine wpAnyH_take (i := 7) (v := ?_) rfl (by kernel_rfl) (by kernel_rfl) (by kernel_rfl) (fun _ _ _ h => h) (Or.inl ⟨by rfl, ?_⟩) hSx ?_
        rotate_left
        · intro w hw
          go_simp
          try with_reducible rfl
        refine wpAnyH_all (rs := [8]) (by kernel_rfl) (by simp) (fun i hi => ?_)
        obtain rfl : i = 8 := by simpa using hi
        have bx := (Below.refl w2.heap.size w2).alloc (Nat.le_refl _) (.cells (zV fun _ => 0) 60)
        have hZx := blk_new w2 (.cells (zV fun _ => 0) 60)
        have hAx := hA2.below bx
        have hBx := hB2.below bx
        have hQx := QAt.more hQx bx
        have kg : More K1 w2 (w2.alloc (.cells (zV fun _ => 0) 60)) w2.heap.size := Or.inr ⟨Nat.le_refl _, by simp⟩
        have kk2 : ∀ i, K i → More K1 w2 (w2.alloc (.cells (zV fun _ => 0) 60)) i := fun i hi => Or.inl (kk i hi)
        have hkx := hk2.trans (Kept.below bx)
        refine wpOp_step rfl (fun K9 hK9 => ?_)
        rw [if_pos (by rfl)]
        go_simp
        rw [zero_zV]
        refine hK9 _ _ ⟨⟨range_row hAx, range_row hBx⟩, ?_⟩
        clear hK9
        have hSy : ((w2.alloc (.cells (zV fun _ => 0) 60)).setRow w2.heap.size (zV s.2.1)).rangeAt w.heap.size 0 (zV x).toList ∧ ((w2.alloc (.cells (zV fun _ => 0) 60)).setRow w2.heap.size (zV s.2.1)).rangeAt (w.heap.size + 1) 0 (zV y).toList := ⟨range_row (hAx.row_other (by omega)), range_row (hBx.row_other (by omega))⟩
        have hQy := QAt.moved hQx (row_kept (w2.alloc (.cells (zV fun _ => 0) 60)) w2.heap.size (zV s.2.1)) kg
        have hky := hkx.trans ((row_kept (w2.alloc (.cells (zV fun _ => 0) 60)) w2.heap.size (zV s.2.1)).mono fun i hi => by have := hKin i hi; omega)
        refine wpAnyH_all (rs := [9]) (by kernel_rfl) (by simp) (fun i hi => ?_)
        obtain rfl : i = 9 := by simpa using hi
        refine wpOp_step rfl (fun K9 hK9 => ?_)
        rw [if_pos (by rfl)]
        refine wp_store_row 60 (.tmp 9) (.tmp 26) rfl w2.heap.size (zV s.2.1) rfl rfl 60 _ hZx (by rw [zV_size]; exact info_bits) (by rw [zV_size, zV_size]) (one_zV _) ?_
        refine hK9 _ _ ⟨hSy, ?_⟩
        clear hK9
        refine wpAnyH_take (i := 10) (v := ?_) rfl (by kernel_rfl) (by kernel_rfl) (by kernel_rfl) (fun _ _ _ h => h) (Or.inl ⟨by rfl, ?_⟩) hSy ?_
        rotate_left
        · intro w hw
          go_simp
          try with_reducible rfl
        refine wpAnyH_done (by kernel_rfl) ?_ _
        have hky' := hky
        clear hZx hQx hkx hSx hSy hAx hBx kx
        generalize (w2.alloc (.cells (zV fun _ => 0) 60)).setRow w2.heap.size (zV s.2.1) = wy at *
        go_wp2_with fail
        go_ret
        exact ⟨congrArg (fun n => Ending.returned (.int .i64 n)) hwr, QAt.mono hQy kk2, hky⟩
      · have bx := (Below.refl w1.heap.size w1).alloc (Nat.le_refl _) (.cells (zV fun _ => 0) 60)
        have hZ2 := blk_new w1 (.cells (zV fun _ => 0) 60)
        have hA2 := hA1.below bx
        have hB2 := hB1.below bx
        have hQ2 := QAt.more hQ1 bx
        have kg : More K1 w1 (w1.alloc (.cells (zV fun _ => 0) 60)) w1.heap.size := Or.inr ⟨Nat.le_refl _, by simp⟩
        have kk2 : ∀ i, K1 i → More K1 w1 (w1.alloc (.cells (zV fun _ => 0) 60)) i := fun i hi => Or.inl hi
        have hk2 := hk1.trans (Kept.below bx)
        refine wpOp_step rfl (fun K9 hK9 => ?_)
        rw [if_pos (by rfl)]
        go_simp
        rw [zero_zV]
        refine hK9 _ _ ⟨⟨range_row hA2, range_row hB2⟩, ?_⟩
        clear hK9
        refine wpAnyH_all (rs := [4]) (by kernel_rfl) (by simp) (fun i hi => ?_)
        obtain rfl : i = 4 := by simpa using hi
        refine wpOp_step rfl (fun K9 hK9 => ?_)
        rw [if_pos (by rfl)]
        go_simp
        go_at_call 46
        refine (hT _ _ hQ2).mono ?_
        rintro r w3 ⟨rfl, hQx, kx⟩
        have hAx := hA2.kept kx (kk2 _ k0)
        have hBx := hB2.kept kx (kk2 _ k1)
        have hZx := kx.blk kg hZ2
        have hkx := hk2.trans (kx.mono fun i hi => kk2 _ (kk i hi))
        have hSx : w3.rangeAt w.heap.size 0 (zV x).toList ∧ w3.rangeAt (w.heap.size + 1) 0 (zV y).toList := ⟨range_row hAx, range_row hBx⟩
        have kk2 := fun i hi => kk2 i (kk i hi)
        refine hK9 _ _ ⟨hSx, ?_⟩
        clear hK9
        refine wpAnyH_take (i := 5) (v := ?_) rfl (by kernel_rfl) (by kernel_rfl) (by kernel_rfl) (fun _ _ _ h => h) (Or.inl ⟨by rfl, ?_⟩) hSx ?_
        rotate_left
        · intro w hw
          go_simp
          try with_reducible rfl
        refine wpAnyH_take (i := 6) (v := ?_) rfl (by kernel_rfl) (by kernel_rfl) (by kernel_rfl) (fun _ _ _ h => h) (Or.inl ⟨by rfl, ?_⟩) hSx ?_
        rotate_left
        · intro w hw
          go_simp
          try with_reducible rfl
        refine wpAnyH_take (i := 7) (v := ?_) rfl (by kernel_rfl) (by kernel_rfl) (by kernel_rfl) (fun _ _ _ h => h) (Or.inl ⟨by rfl, ?_⟩) hSx ?_
        rotate_left
        · intro w hw
          go_simp
          try with_reducible rfl
        have hSy : ((w3).setRow w1.heap.size (zV s.2.1)).rangeAt w.heap.size 0 (zV x).toList ∧ ((w3).setRow w1.heap.size (zV s.2.1)).rangeAt (w.heap.size + 1) 0 (zV y).toList := ⟨range_row (hAx.row_other (by omega)), range_row (hBx.row_other (by omega))⟩
        have hQy := QAt.moved hQx (row_kept (w3) w1.heap.size (zV s.2.1)) kg
        have hky := hkx.trans ((row_kept (w3) w1.heap.size (zV s.2.1)).mono fun i hi => by have := hKin i hi; omega)
        refine wpAnyH_all (rs := [9]) (by kernel_rfl) (by simp) (fun i hi => ?_)
        obtain rfl : i = 9 := by simpa using hi
        refine wpOp_step rfl (fun K9 hK9 => ?_)
        rw [if_pos (by rfl)]
        refine wp_store_row 60 (.tmp 9) (.tmp 26) rfl w1.heap.size (zV s.2.1) rfl rfl 60 _ hZx (by rw [zV_size]; exact info_bits) (by rw [zV_size, zV_size]) (one_zV _) ?_
        refine hK9 _ _ ⟨hSy, ?_⟩
        clear hK9
        refine wpAnyH_take (i := 10) (v := ?_) rfl (by kernel_rfl) (by kernel_rfl) (by kernel_rfl) (fun _ _ _ h => h) (Or.inl ⟨by rfl, ?_⟩) hSy ?_
        rotate_left
        · intro w hw
          go_simp
          try with_reducible rfl
        refine wpAnyH_done (by kernel_rfl) ?_ _
        have hky' := hky
        clear hZx hQx hkx hSx hSy hAx hBx kx
        generalize (w3).setRow w1.heap.size (zV s.2.1) = wy at *
        go_wp2_with fail
        go_ret
        exact ⟨congrArg (fun n => Ending.returned (.int .i64 n)) hwr, QAt.mono hQy kk2, hky⟩
    · have bx := (Below.refl wr.drew.heap.size wr.drew).alloc (Nat.le_refl _) (.cells (zV fun _ => 0) 60)
      have hZ1 := blk_new wr.drew (.cells (zV fun _ => 0) 60)
      have hA1 := hAd.below bx
      have hB1 := hBd.below bx
      have hQ1 := QAt.more hQd bx
      have kg : More K1 wr.drew (wr.drew.alloc (.cells (zV fun _ => 0) 60)) wr.drew.heap.size := Or.inr ⟨Nat.le_refl _, by simp⟩
      have kk2 : ∀ i, K1 i → More K1 wr.drew (wr.drew.alloc (.cells (zV fun _ => 0) 60)) i := fun i hi => Or.inl hi
      have hk1 := hkd.trans (Kept.below bx)
      refine wpOp_step rfl (fun K9 hK9 => ?_)
      rw [if_pos (by rfl)]
      go_simp
      rw [zero_zV]
      refine hK9 _ _ ⟨⟨range_row hA1, range_row hB1⟩, ?_⟩
      clear hK9
      refine wpAnyH_all (rs := [3]) (by kernel_rfl) (by simp) (fun i hi => ?_)
      obtain rfl : i = 3 := by simpa using hi
      refine wpOp_step rfl (fun K9 hK9 => ?_)
      rw [if_pos (by rfl)]
      go_simp
      go_at_call 47
      refine (turned_any y hbs _).mono ?_
      rintro r w2 ⟨rfl, b2⟩
      have hQ2 := QAt.below hQ1 b2
      have hA2 := hA1.below b2
      have hB2 := hB1.below b2
      have hk2 := hk1.trans (Kept.below b2)
      have hZ2 := blk_below hZ1 b2
      refine hK9 _ _ ⟨⟨range_row hA2, range_row hB2⟩, ?_⟩
      clear hK9
      refine wpAnyH_all (rs := [4]) (by kernel_rfl) (by simp) (fun i hi => ?_)
      obtain rfl : i = 4 := by simpa using hi
      refine wpOp_step rfl (fun K9 hK9 => ?_)
      rw [if_pos (by rfl)]
      go_simp
      go_at_call 46
      refine (hT _ _ hQ2).mono ?_
      rintro r w3 ⟨rfl, hQx, kx⟩
      have hAx := hA2.kept kx (kk2 _ k0)
      have hBx := hB2.kept kx (kk2 _ k1)
      have hZx := kx.blk kg hZ2
      have hkx := hk2.trans (kx.mono fun i hi => kk2 _ (kk i hi))
      have hSx : w3.rangeAt w.heap.size 0 (zV x).toList ∧ w3.rangeAt (w.heap.size + 1) 0 (zV y).toList := ⟨range_row hAx, range_row hBx⟩
      have kk2 := fun i hi => kk2 i (kk i hi)
      refine hK9 _ _ ⟨hSx, ?_⟩
      clear hK9
      refine wpAnyH_take (i := 5) (v := ?_) rfl (by kernel_rfl) (by kernel_rfl) (by kernel_rfl) (fun _ _ _ h => h) (Or.inl ⟨by rfl, ?_⟩) hSx ?_
      rotate_left
      · intro w hw
        go_simp
        try with_reducible rfl
      refine wpAnyH_take (i := 6) (v := ?_) rfl (by kernel_rfl) (by kernel_rfl) (by kernel_rfl) (fun _ _ _ h => h) (Or.inl ⟨by rfl, ?_⟩) hSx ?_
      rotate_left
      · intro w hw
        go_simp
        try with_reducible rfl
      refine wpAnyH_take (i := 7) (v := ?_) rfl (by kernel_rfl) (by kernel_rfl) (by kernel_rfl) (fun _ _ _ h => h) (Or.inl ⟨by rfl, ?_⟩) hSx ?_
      rotate_left
      · intro w hw
        go_simp
        try with_reducible rfl
      have hSy : ((w3).setRow wr.heap.size (zV s.2.1)).rangeAt w.heap.size 0 (zV x).toList ∧ ((w3).setRow wr.heap.size (zV s.2.1)).rangeAt (w.heap.size + 1) 0 (zV y).toList := ⟨range_row (hAx.row_other (by omega)), range_row (hBx.row_other (by omega))⟩
      have hQy := QAt.moved hQx (row_kept (w3) wr.heap.size (zV s.2.1)) kg
      have hky := hkx.trans ((row_kept (w3) wr.heap.size (zV s.2.1)).mono fun i hi => by have := hKin i hi; omega)
      refine wpAnyH_all (rs := [9]) (by kernel_rfl) (by simp) (fun i hi => ?_)
      obtain rfl : i = 9 := by simpa using hi
      refine wpOp_step rfl (fun K9 hK9 => ?_)
      rw [if_pos (by rfl)]
      refine wp_store_row 60 (.tmp 9) (.tmp 26) rfl wr.heap.size (zV s.2.1) rfl rfl 60 _ hZx (by rw [zV_size]; exact info_bits) (by rw [zV_size, zV_size]) (one_zV _) ?_
      refine hK9 _ _ ⟨hSy, ?_⟩
      clear hK9
      refine wpAnyH_take (i := 10) (v := ?_) rfl (by kernel_rfl) (by kernel_rfl) (by kernel_rfl) (fun _ _ _ h => h) (Or.inl ⟨by rfl, ?_⟩) hSy ?_
      rotate_left
      · intro w hw
        go_simp
        try with_reducible rfl
      refine wpAnyH_done (by kernel_rfl) ?_ _
      have hky' := hky
      clear hZx hQx hkx hSx hSy hAx hBx kx
      generalize (w3).setRow wr.heap.size (zV s.2.1) = wy at *
      go_wp2_with fail
      go_ret
      exact ⟨congrArg (fun n => Ending.returned (.int .i64 n)) hwr, QAt.mono hQy kk2, hky⟩
end Go.Proofs.Ytgnahjadjgjecaa
