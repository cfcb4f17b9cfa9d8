/- The law LiftParts, walked. -/
import Derived.Test.YtaiggfknighhgaaDoorIL2W
import Derived.Test.YtaiggfknighhgaaDoorIParts
set_option linter.unusedVariables false
set_option linter.unusedSimpArgs false
namespace Go.Proofs.YtaiggfknighhgaaDoor
open Go.RowKit Go.Maps Go.MapKept

theorem cut20 {B : Nat} {e : TypeId} {w : World} {v : Value} {xs : List Ins} (hs : SlN B e 5 Ins.five w v xs) :
    ∃ A c N la, v = .slice A xs.length c ∧ la.length = N ∧ N ≤ 20 ∧ SlN B e 5 Ins.five w (.slice A N c) la ∧ (((20 : Int) < (xs.length : Int) ∧ N = 20 ∧ (20 : Int) ≤ (c : Int)) ∨ (¬ (20 : Int) < (xs.length : Int) ∧ N = xs.length ∧ (xs.length : Int) ≤ (c : Int))) ∧ xs.length ≤ 9223372036854775807 := by
  obtain ⟨A, c, rfl, h1, h2, _⟩ := hs.open_
  refine ⟨A, c, min xs.length 20, xs.take (min xs.length 20), rfl, by rw [List.length_take]; omega, Nat.min_le_right _ _, hs.takeI (Nat.min_le_left _ _), ?_, by unfold maxLen at h2; omega⟩
  by_cases h12 : (20 : Int) < (xs.length : Int)
  · exact Or.inl ⟨h12, Nat.min_eq_right (by omega), by omega⟩
  · exact Or.inr ⟨h12, Nat.min_eq_left (by omega), by omega⟩
theorem OwnN.keptI {B e : Nat} {K : Nat → Prop} {w w' : World} {v : Value} {xs : List Ins} (h : OwnN B e 5 Ins.five w v xs) (hK : ∀ g, B ≤ g → g < w.heap.size → K g) (hk : Kept K w w') : SlN 0 e 5 Ins.five w' v xs :=
  (ownI_kept h fun g hg => by
    obtain ⟨h1, cur, hc⟩ := h.typed hg
    have hl := (Array.getElem?_eq_some_iff.1 hc).1
    exact hk.block g hl (hK g h1 hl)).toSl encI 0
set_option maxRecDepth 100000 in
set_option maxHeartbeats 4000000 in
theorem law4_any (B : Nat) (e : TypeId) (v : Value) (xs : List Ins) (B' : Nat) (e' : TypeId) (v' : Value) (ys : List Ins) (pc : Nat) (hpc : pc < 4294967296) (w : World) (hs : SlN B e 5 Ins.five w v xs) (hs' : SlN B' e' 5 Ins.five w v' ys) (hT : Tab w) (hgz : 0 < w.heap.size) :
    Calls Tryd.prog 3 #[v, v', .int .u32 pc] w fun e w' => e = .returned (.bool true) ∧ Below w.heap.size w w' := by
  obtain ⟨A, c, N, la, rfl, hN, hN2, hA, hq, hpl⟩ := cut20 hs
  obtain ⟨A', c', M, lb, rfl, hM, hM2, hA', hq', hpl'⟩ := cut20 hs'
  obtain ⟨ts1, x, er, ts2, z, gr, r1, g1, l1, r2, g2, l2, hcase⟩ := parts_facts (a := la) (b := lb) (by omega) (by omega) hpc
  have hNew := new_any (fun i => i < w.heap.size) w (fun i hi => hi)
  have hend : ∀ w', Kept (fun i => i < w.heap.size) w w' → Below w.heap.size w w' := fun w' h => below_kept h
  obtain ⟨K0, hK⟩ : ∃ K : Nat → Prop, (fun i => i < w.heap.size) = K := ⟨_, rfl⟩
  rw [hK] at hNew hend
  have hg0 : K0 0 := by rw [← hK]; exact hgz
  have hgs : ∀ w', Kept K0 w w' → 0 < w'.heap.size := fun w' h => Nat.lt_of_lt_of_le hgz h.size
  clear hK hgz
  have hB1 := fun K b w hg hT h hv => block_any K b [] B e (.slice A N c) la pc hpc (by decide) (by omega) (good_of rfl) hg w hT h hv
  rw [r1] at hB1
  have hB2 := fun K b v w hg hT h hv => block_any K b ts1 0 35 v (la ++ lb) pc hpc (by omega) (by rw [List.length_append]; omega) g1 hg w hT h hv
  rw [r2] at hB2
  have hF := fun K b w hg hs hT h hv => from_any K b ts2 x B' e' (.slice A' M c') lb ((pc + 4 * la.length) % 4294967296) (Nat.mod_lt _ (by decide)) (by omega) (by omega) g2 hg w hs hT h hv
  have hS := fun K b w h => start_any K b ts2 (by omega) w h
  have hB3 := fun K b w hg hT h => block_any K b ts2 0 35 (.slice none 0 0) [] pc hpc (by omega) (by decide) g2 hg w hT h (fun w' _ => SlN.nilI w' _)
  clear g1 g2 l1 l2 r1 r2 hs hs'
  have hvA : ∀ w', Kept K0 w w' → SlN B e 5 Ins.five w' _ la := fun w' h => hA.below (hend w' h)
  have hvB : ∀ w', Kept K0 w w' → SlN B' e' 5 Ins.five w' _ lb := fun w' h => hA'.below (hend w' h)
  have HLE : ∀ (B : Nat) (v : Value) (w : World), OwnN B 35 5 Ins.five w v ([] ++ la ++ lb) → OwnN B 35 5 Ins.five w v (la ++ lb) := fun _ _ _ h => h
  have hlen : ([] : List Ins).length + la.length ≤ 1000 ∧ ([] ++ la).length + lb.length ≤ 1000 := by simp; omega
  have hpN : (pc + 4 * la.length) % 4294967296 = (pc + 4 * N) % 4294967296 := by rw [hN]
  rw [hpN] at hF hcase
  clear hA hA' hN hM hpN
  rcases hq with ⟨q1, q2, q3⟩ | ⟨q1, q2, q3⟩ <;> rcases hq' with ⟨p1, p2, p3⟩ | ⟨p1, p2, p3⟩
  all_goals
    subst q2
    subst p2
    go_enter Tryd.func3, Tryd.ntmps3
    go_wp2_with fail
    refine hNew.mono ?_
    rintro r w1 ⟨rfl, h1, b1⟩
    have k1 : Kept K0 w w1 := Kept.below b1
    have T1 := hT.kept k1 hg0
    have hvA1 := hvA _ k1
    clear hNew b1 hT
    go_wp2_with (first | (at_builtin; refine wpList_appN encI (w0 := w1) w1.heap.size rfl _ _ 22 35 (.agg #[.int .i64 0, .int .i64 0, .int .i64 0, .int .i64 0, .int .i64 0]) 40 rfl Tryd.underlying22 (by kernel_rfl) rfl (by omega) (OwnN.empty (Nat.le_refl _) rfl) (hvA1.below ((Below.refl _ _).alloc (Nat.le_refl _) _)) rfl rfl ((Below.refl _ _).alloc (Nat.le_refl _) _) (by simp) (by omega) ?_; intro v2 w2 ho2 hb2 hg2 _; have hvB2 := hvB _ (k1.trans (Kept.below hb2))) | (at_builtin; refine wpList_appN encI (w0 := w1) w1.heap.size rfl _ _ 22 35 (.agg #[.int .i64 0, .int .i64 0, .int .i64 0, .int .i64 0, .int .i64 0]) 40 rfl Tryd.underlying22 (by kernel_rfl) rfl (by omega) ho2 hvB2 rfl rfl hb2 hb2.size (by omega) ?_; intro v3 w3 ho3 hb3 hg3 _) | fail)
    have k3 := k1.trans (Kept.below hb3)
    have T3 := T1.below hb3
    obtain ⟨K2, d2, kk2, kn2⟩ := h1.grow hb3
    have hvC := fun w' (hk : Kept K2 w3 w') => OwnN.keptI (HLE _ _ _ ho3) (fun g g1 g2 => kn2 g g1 g2) hk
    have hB := hB1 K2 w.heap.size w3 (kk2 _ hg0) T3 d2 (fun w' hk => hvA _ (k3.trans (hk.mono kk2)))
    unfold FromPost at hB
    dsimp only at hB
    clear hvA1 hvB2 ho2 hb2 hg2 ho3 hb3 hg3 T1 k1 kn2 h1 hB1 d2 HLE hlen
    refine hB.mono ?_
    rintro r w4 ⟨rfl, h4, m4⟩
    have k4 := k3.trans (m4.mono kk2)
    have T4 := T3.kept m4 (kk2 _ hg0)
    have ba := (Below.refl w4.heap.size w4).alloc (Nat.le_refl _) (.cells (zV x) 26)
    have gX := ZAt.new 26 w4 x
    obtain ⟨K3, d3, kk3, kn3⟩ := h4.grow ba
    have e3 := kn3 w4.heap.size (Nat.le_refl _) (by simp)
    have k5 := k4.trans (Kept.below ba)
    have m5 := m4.trans (Kept.below ba)
    have hC := hB2 K3 w.heap.size v3 _ (kk3 _ (kk2 _ hg0)) (T4.below ba) d3 (fun w' hk => hvC _ (m5.trans (hk.mono kk3)))
    have T5 := T4.below ba
    unfold FromPost at hC
    dsimp only at hC
    clear hB hB2 m4 m5 k3 k4 T3 T4 h4 ba kn3 d3 hvC hvA
    go_wp2_with (first | ((refine wpList_store_row rfl 26 (.tmp 9) (.tmp 42) rfl w4.heap.size (zV x) rfl rfl 26 _ (blk_new w4 _) (by rw [zV_size]; exact info_arr) rfl (zV_one _) ?_); rw [World.setRow_alloc_new]) | fail)
    refine hC.mono ?_
    rintro r w5 ⟨rfl, h5, q5⟩
    have k6 := k5.trans (q5.mono fun i hi => kk3 _ (kk2 _ hi))
    have T6 := T5.kept q5 (kk3 _ (kk2 _ hg0))
    have gX5 := gX.kept q5 e3
    have bb := (Below.refl w5.heap.size w5).alloc (Nat.le_refl _) (.cells (zV z) 26)
    have gZ := ZAt.new 26 w5 z
    have gX6 := gX5.below bb
    obtain ⟨K4, d4, kk4, kn4⟩ := h5.grow bb
    have eZ := kn4 w5.heap.size (Nat.le_refl _) (by simp)
    have eX := kk4 _ e3
    have k7 := k6.trans (Kept.below bb)
    have T7 := T6.below bb
    have hgK4 := kk4 _ (kk3 _ (kk2 _ hg0))
    have kk7 : ∀ i, K0 i → K4 i := fun i hi => kk4 _ (kk3 _ (kk2 _ hi))
    have lx : w4.heap.size < w5.heap.size := gX5.lt
    clear hC q5 k5 k6 T5 T6 gX gX5 bb kn4 h5 kk2 kk3 kk4 e3
    rcases hcase with ⟨rfl, rfl⟩ | ⟨rfl, hf, hst, hbn⟩
    · go_wp2_with (first | ((refine wpList_store_row rfl 26 (.tmp 11) (.tmp 49) rfl w5.heap.size (zV z) rfl rfl 26 _ (blk_new w5 _) (by rw [zV_size]; exact info_arr) rfl (zV_one _) ?_); rw [World.setRow_alloc_new]) | fail)
      refine (lfixed_any _ T7 (hgs _ k7)).mono ?_
      rintro r w6 ⟨rfl, b6⟩
      go_wp2_with fail
      go_ret
      exact ⟨rfl, hend _ (k7.trans (Kept.below b6))⟩
    · have hD := hF K4 w.heap.size _ hgK4 (hvB _ k7) T7 d4 (fun w' hk => hvB _ (k7.trans (hk.mono kk7)))
      rw [hf] at hD
      unfold FromPost at hD
      dsimp only at hD
      unfold ZAt at gX6 gZ
      first
        | rw [show (((pc + 4 * 20) % 4294967296 : Nat) : Int) = ((pc : Int) + 80) % 4294967296 by omega] at hD
        | rw [show (((pc + 4 * xs.length) % 4294967296 : Nat) : Int) = ((pc : Int) + 4 * (xs.length : Int)) % 4294967296 by omega] at hD
      clear hF hf d4
      go_wp2_with (first | ((refine wpList_store_row rfl 26 (.tmp 11) (.tmp 49) rfl w5.heap.size (zV z) rfl rfl 26 _ (blk_new w5 _) (by rw [zV_size]; exact info_arr) rfl (zV_one _) ?_); rw [World.setRow_alloc_new]) | (refine wpList_load_row rfl 26 (.tmp 9) rfl w4.heap.size rfl 26 (zV x) (0, 0) _ gX6 Tryd.underlying26 rfl (by rw [zV_size]; exact info_arr) ?_) | fail)
      refine hD.mono ?_
      rintro r w6 ⟨rfl, h6, q6⟩
      have k8 := k7.trans (q6.mono kk7)
      have T8 := T7.kept q6 hgK4
      have gZ6 : ZAt 26 w6 w5.heap.size z := ZAt.kept (t := 26) gZ q6 eZ
      have bc := (Below.refl w6.heap.size w6).alloc (Nat.le_refl _) (.cells (zV z) 26)
      have gY := ZAt.new 26 w6 z
      have gZ7 := gZ6.below bc
      obtain ⟨K5, d5, kk5, kn5⟩ := h6.grow bc
      have eY := kn5 w6.heap.size (Nat.le_refl _) (by simp)
      have eZ5 := kk5 _ eZ
      have k9 := k8.trans (Kept.below bc)
      have T9 := T8.below bc
      have hgK5 := kk5 _ hgK4
      have kk9 : ∀ i, K0 i → K5 i := fun i hi => kk5 _ (kk7 _ hi)
      have hS5 := hS K5 w.heap.size _ d5
      rw [hst] at hS5
      generalize startZ ts2 32 = sz at hS5 hbn
      clear hD hS hst q6 k8 T8 bc gZ gZ6 h6 d5 kn5 kk5 gX6 eX T7 k7 hgK4 kk7 eZ
      go_wp2_with (first | ((refine wpList_store_row rfl 26 (.tmp 13) (.tmp 70) rfl w6.heap.size (zV z) rfl rfl 26 _ (blk_new w6 _) (by rw [zV_size]; exact info_arr) rfl (zV_one _) ?_); rw [World.setRow_alloc_new]) | fail)
      refine hS5.mono ?_
      rintro r w7 ⟨rfl, h7, q7⟩
      have k10 := k9.trans (q7.mono kk9)
      have T10 := T9.kept q7 hgK5
      have gZ8 := gZ7.kept q7 eZ5
      have gY8 := gY.kept q7 eY
      have bd := (Below.refl w7.heap.size w7).alloc (Nat.le_refl _) (.cells (zV sz) 26)
      have gS := ZAt.new 26 w7 sz
      obtain ⟨K6, d6, kk6, kn6⟩ := h7.grow bd
      have eS := kn6 w7.heap.size (Nat.le_refl _) (by simp)
      have eZ6 := kk6 _ eZ5
      have eY6 := kk6 _ eY
      have gZ9 := gZ8.below bd
      have gY9 := gY8.below bd
      have k11 := k10.trans (Kept.below bd)
      have T11 := T10.below bd
      have hgK6 := kk6 _ hgK5
      have kk11 : ∀ i, K0 i → K6 i := fun i hi => kk6 _ (kk9 _ hi)
      have hE := hB3 K6 w.heap.size _ hgK6 T11 d6
      rw [hbn] at hE
      unfold FromPost at hE
      dsimp only at hE
      clear hS5 hB3 hbn q7 k9 k10 T9 T10 gZ7 gZ8 gY gY8 bd h7 d6 kn6 kk6 kk9 hgK5 eZ5 eY
      go_wp2_with (first | ((refine wpList_store_row rfl 26 (.tmp 15) (.tmp 73) rfl w7.heap.size (zV sz) rfl rfl 26 _ (blk_new w7 _) (by rw [zV_size]; exact info_arr) rfl (zV_one _) ?_); rw [World.setRow_alloc_new]) | fail)
      refine hE.mono ?_
      rintro r w8 ⟨rfl, h8, q8⟩
      have k12 := k11.trans (q8.mono kk11)
      have T12 := T11.kept q8 hgK6
      have be := (Below.refl w8.heap.size w8).alloc (Nat.le_refl _) (.cells (zV sz) 26)
      have gN := ZAt.new 26 w8 sz
      have gZ10 := (gZ9.kept q8 eZ6).below be
      have gY10 := (gY9.kept q8 eY6).below be
      have gS10 := (gS.kept q8 eS).below be
      have k13 := k12.trans (Kept.below be)
      have T13 := T12.below be
      have hq1 := fun w => eq_arr z w
      have hq2 := fun w => eq_arr sz w
      have hqe : (gr == gr) = true := by simp
      unfold ZAt at gN gZ10 gY10 gS10
      clear hE q8 k11 k12 T11 T12 gZ9 gY9 gS be h8
      go_wp2_with (first | ((refine wpList_store_row rfl 26 (.tmp 16) (.tmp 78) rfl w8.heap.size (zV sz) rfl rfl 26 _ (blk_new w8 _) (by rw [zV_size]; exact info_arr) rfl (zV_one _) ?_); rw [World.setRow_alloc_new]) | (refine wpList_load_rowG (by first | rfl | (simp [Region.wanted, yielded]; done)) 26 (.tmp 13) rfl w6.heap.size rfl 26 (zV z) (0, 0) _ gY10 Tryd.underlying26 rfl (by rw [zV_size]; exact info_arr) ?_) | (refine wpList_load_rowG (by first | rfl | (simp [Region.wanted, yielded]; done)) 26 (.tmp 11) rfl w5.heap.size rfl 26 (zV z) (0, 0) _ gZ10 Tryd.underlying26 rfl (by rw [zV_size]; exact info_arr) ?_) | (refine wpList_load_rowG (by first | rfl | (simp [Region.wanted, yielded]; done)) 26 (.tmp 16) rfl w8.heap.size rfl 26 (zV sz) (0, 0) _ gN Tryd.underlying26 rfl (by rw [zV_size]; exact info_arr) ?_) | (refine wpList_load_rowG (by first | rfl | (simp [Region.wanted, yielded]; done)) 26 (.tmp 15) rfl w7.heap.size rfl 26 (zV sz) (0, 0) _ gS10 Tryd.underlying26 rfl (by rw [zV_size]; exact info_arr) ?_) | fail)
      refine (lfixed_any _ T13 (hgs _ k13)).mono ?_
      rintro r w9 ⟨rfl, b9⟩
      go_wp2_with fail
      go_ret
      exact ⟨rfl, hend _ (k13.trans (Kept.below b9))⟩
end Go.Proofs.YtaiggfknighhgaaDoor
