/- The law's fixed calls. -/
import Derived.Test.YtaiggfknighhgaaDoorIBlock
import Derived.Test.YtaiggfknighhgaaDoorTLen
import Derived.Deep.WholeRow
set_option linter.unusedVariables false
set_option linter.unusedSimpArgs false
namespace Go.Proofs.YtaiggfknighhgaaDoor
open Go.RowKit Go.Maps Go.MapKept

theorem DagAt.grow {K : Nat → Prop} {w w' : World} {b : Nat} {ts : List Term} (h : DagAt K w b ts) (hb : Below w.heap.size w w') : ∃ K', DagAt K' w' b ts ∧ (∀ i, K i → K' i) ∧ (∀ i, w.heap.size ≤ i → i < w'.heap.size → K' i) := ⟨More K w w', h.more hb, fun _ => Or.inl, fun i h1 h2 => Or.inr ⟨h1, h2⟩⟩
theorem SlN.litI {w : World} {g : Nat} {e : TypeId} {xs : List Ins} (hg : w.heap[g]? = some (.cells (xs.flatMap Ins.five).toArray e (0, 0))) (hl : xs.length ≤ 100) : SlN 0 e 5 Ins.five w (.slice (some ⟨g, 0, none⟩) xs.length xs.length) xs := by
  refine ⟨some ⟨g, 0, none⟩, xs.length, rfl, Nat.le_refl _, (by unfold maxLen; omega), (fun h => by cases h), fun _ => ⟨g, 0, rfl, (Array.getElem?_eq_some_iff.1 hg).1, Or.inr ⟨_, _, hg⟩, fun j x hj i u hi => ?_⟩⟩
  have h5 : i < 5 := by have := (List.getElem?_eq_some_iff.1 hi).1; simpa [Ins.five] using this
  have h1 := flat_at encI hj i h5
  rw [Nat.zero_add]
  simp [World.cell?, hg, h1, hi]
theorem SlN.nilI (w : World) (e : TypeId) : SlN 0 e 5 Ins.five w (.slice none 0 0) [] := ⟨none, 0, rfl, Nat.le_refl _, Nat.zero_le _, fun _ => rfl, fun h => absurd h (by simp)⟩
def fx1 : List Ins := [⟨18, 1, 0, 0, 5⟩, ⟨27, 2, 1, 1, 0⟩, ⟨1, 3, 0, 0, 1⟩]
def fx2 : List Ins := [⟨45, 0, 0, 0, 0⟩]
def zm : Nat → Int := fun r => if r = 0 then -1 else 0
theorem zm_lit : (#[.int .i64 (-1), .int .i64 0, .int .i64 0, .int .i64 0, .int .i64 0, .int .i64 0, .int .i64 0, .int .i64 0, .int .i64 0, .int .i64 0, .int .i64 0, .int .i64 0, .int .i64 0, .int .i64 0, .int .i64 0, .int .i64 0, .int .i64 0, .int .i64 0, .int .i64 0, .int .i64 0, .int .i64 0, .int .i64 0, .int .i64 0, .int .i64 0, .int .i64 0, .int .i64 0, .int .i64 0, .int .i64 0, .int .i64 0, .int .i64 0, .int .i64 0, .int .i64 0] : Array Value) = zV zm := by kernel_rfl
theorem fx_out : blockO [] fx1 256 = ((blockT [] fx1 256).1, fun r => (((blockT [] fx1 256).2 r : Nat) : Int), 0) := by
  unfold blockO
  rw [if_neg (by decide +kernel)]
theorem fx_node1 : (blockT [] fx1 256).2 1 < (blockT [] fx1 256).1.length ∧ (blockT [] fx1 256).1.getD ((blockT [] fx1 256).2 1) default = constT 5 := by decide +kernel
theorem fx_node2 : (blockT [] fx1 256).2 2 < (blockT [] fx1 256).1.length ∧ (blockT [] fx1 256).1.getD ((blockT [] fx1 256).2 2) default = constT 10 := by decide +kernel
theorem fx_node3 : (blockT [] fx1 256).2 3 < (blockT [] fx1 256).1.length ∧ (blockT [] fx1 256).1.getD ((blockT [] fx1 256).2 3) default = constT 4360 := by decide +kernel
theorem fx_len : (blockT [] fx1 256).1.length < 1000 := by decide +kernel
theorem fx_good : Good (blockT [] fx1 256).1 := good_of (by decide +kernel)
set_option maxRecDepth 100000 in
set_option maxHeartbeats 4000000 in
theorem lfixed_any (w : World) (hT : Tab w) (hgz : 0 < w.heap.size) : Calls Tryd.prog 9 #[] w fun e w' => e = .returned (.bool true) ∧ Below w.heap.size w w' := by
  have hN := new_any (fun i => i < w.heap.size) w (fun i hi => hi)
  have hend : ∀ w', Kept (fun i => i < w.heap.size) w w' → Below w.heap.size w w' := fun w' h => below_kept h
  obtain ⟨K0, hK⟩ : ∃ K : Nat → Prop, (fun i => i < w.heap.size) = K := ⟨_, rfl⟩
  rw [hK] at hN hend
  have hg0 : K0 0 := by rw [← hK]; exact hgz
  clear hK
  obtain ⟨b, hb⟩ : ∃ b, w.heap.size = b := ⟨_, rfl⟩
  have HB := Lib.hid hb
  rw [hb] at hN hend
  clear hb
  have n1 := fx_node1
  have n2 := fx_node2
  have n3 := fx_node3
  have nl := fx_len
  have nG := fx_good
  go_enter Tryd.func9, Tryd.ntmps9
  go_wp2_with fail
  refine hN.mono ?_
  rintro r w1 ⟨rfl, h1, b1⟩
  have k1 : Kept K0 w w1 := Kept.below (by rw [HB.out]; exact b1)
  have T1 := hT.kept k1 hg0
  clear hN b1 hT
  -- the first block
  have ba := (Below.refl w1.heap.size w1).alloc (Nat.le_refl _) (.cells (fx1.flatMap Ins.five).toArray 35)
  have ga := blk_new w1 (.cells (fx1.flatMap Ins.five).toArray 35)
  obtain ⟨K1, d1, kk1, kn1⟩ := h1.grow ba
  have hk1 := kn1 w1.heap.size (Nat.le_refl _) (by simp)
  have hB := block_any K1 b [] 0 35 _ fx1 256 (by decide) (by decide) (by decide) (good_of rfl) (kk1 _ hg0) _ (T1.below ba) d1 (fun w' hk => SlN.litI (hk.blk hk1 ga) (by decide))
  have T2 := T1.below ba
  have k2 := k1.trans (Kept.below ba)
  rw [fx_out] at hB
  unfold FromPost at hB
  dsimp only at hB
  generalize blockT [] fx1 256 = F at hB n1 n2 n3 nl nG
  change Calls Tryd.prog 8 #[.pointer (some ⟨b, 0, none⟩), .slice (some ⟨w1.heap.size, 0, none⟩) 3 3, .int .u32 256] (w1.alloc (.cells #[.int .i64 18, .int .i64 1, .int .i64 0, .int .i64 0, .int .i64 5, .int .i64 27, .int .i64 2, .int .i64 1, .int .i64 1, .int .i64 0, .int .i64 1, .int .i64 3, .int .i64 0, .int .i64 0, .int .i64 1] 35)) _ at hB
  clear h1 ga hk1 kn1 T1 k1
  go_wp2_with fail
  refine hB.mono ?_
  rintro r w2 ⟨rfl, h2, q2⟩
  have k3 := k2.trans (q2.mono kk1)
  have T3 := T2.kept q2 (kk1 _ hg0)
  have h2' := h2.mono kk1
  clear hB d1 k2 T2 q2 ba h2 kk1
  clear K1
  have bb := (Below.refl w2.heap.size w2).alloc (Nat.le_refl _) (.cells (zV fun r => ((F.2 r : Nat) : Int)) 26)
  have bc := bb.alloc (by simp) (.cells #[.int .i64 45, .int .i64 0, .int .i64 0, .int .i64 0, .int .i64 0] 35)
  have gx := ZAt.new 26 w2 (fun r => ((F.2 r : Nat) : Int))
  have gx2 := gx.below ((Below.refl _ _).alloc (Nat.le_refl _) (.cells #[.int .i64 45, .int .i64 0, .int .i64 0, .int .i64 0, .int .i64 0] 35))
  have gs := blk_new (w2.alloc (.cells (zV fun r => ((F.2 r : Nat) : Int)) 26)) (.cells #[.int .i64 45, .int .i64 0, .int .i64 0, .int .i64 0, .int .i64 0] 35)
  have hs1 : (w2.alloc (.cells (zV fun r => ((F.2 r : Nat) : Int)) 26)).heap.size = w2.heap.size + 1 := by simp
  rw [hs1] at gs
  obtain ⟨K2, d2, kk2, kn2⟩ := h2'.grow bc
  have e1 := kn2 w2.heap.size (Nat.le_refl _) (by simp; omega)
  have e2 := kn2 (w2.heap.size + 1) (by omega) (by simp)
  have hL := len_any K0 b F.1 _ (h2'.below bb)
  have T4 := T3.below bc
  have hB2 := block_any K2 b F.1 0 35 _ fx2 0 (by decide) (by omega) (by decide) nG (kk2 _ hg0) _ T4 d2 (fun w' hk => SlN.litI (hk.blk e2 gs) (by decide))
  have k4 := k3.trans (Kept.below bc)
  rw [show blockO F.1 fx2 0 = (F.1, fun _ => 0, 120) by unfold blockO; rw [if_pos (by decide +kernel)]] at hB2
  unfold FromPost at hB2
  dsimp only at hB2
  change Calls Tryd.prog 8 #[.pointer (some ⟨b, 0, none⟩), .slice (some ⟨w2.heap.size + 1, 0, none⟩) 1 1, .int .u32 0] ((w2.alloc (.cells (zV fun r => ((F.2 r : Nat) : Int)) 26)).alloc (.cells #[.int .i64 45, .int .i64 0, .int .i64 0, .int .i64 0, .int .i64 0] 35)) _ at hB2
  clear gs kn2 T3 k3 bb bc hs1
  go_wp2_with (first | ((refine wpList_store_row rfl 26 (.tmp 2) (.tmp 25) rfl w2.heap.size (zV fun r => ((F.2 r : Nat) : Int)) rfl rfl 26 _ (blk_new w2 _) (by rw [zV_size]; exact info_arr) rfl (zV_one _) ?_); rw [World.setRow_alloc_new]) | fail)
  refine hL.mono ?_
  rintro r wz ⟨rfl, rfl⟩
  go_wp2_with fail
  refine hB2.mono ?_
  rintro r w3 ⟨rfl, h3, q3⟩
  have k5 := k4.trans (q3.mono kk2)
  have T5 := T4.kept q3 (kk2 _ hg0)
  have gx3 := gx2.kept q3 e1
  clear hB2 hL d2 k4 T4 q3 gx gx2 e2
  have bd := (Below.refl w3.heap.size w3).alloc (Nat.le_refl _) (.cells (zV fun _ => 0) 26)
  have T6 := T5.below bd
  have h4 := h3.below bd
  have gx4 := gx3.below bd
  have k6 := k5.trans (Kept.below bd)
  have hF := from_any K2 b F.1 zm 0 35 _ [] 0 (by decide) (by omega) (by decide) nG (kk2 _ hg0) _ (SlN.nilI _ _) T6 h4 (fun w' _ => SlN.nilI w' _)
  rw [show fromO F.1 zm [] 0 = (F.1, fun _ => 0, 100) by unfold fromO; rw [if_pos (okX_bad (j := 0) (by decide) rfl)]] at hF
  unfold FromPost at hF
  rw [← zm_lit] at hF
  dsimp only at hF
  clear h3 gx3 T5 k5 bd
  go_wp2_with (first | ((refine wpList_store_row rfl 26 (.tmp 5) (.tmp 34) rfl w3.heap.size (zV fun _ => 0) rfl rfl 26 _ (blk_new w3 _) (by rw [zV_size]; exact info_arr) rfl (zV_one _) ?_); rw [World.setRow_alloc_new]) | fail)
  refine hF.mono ?_
  rintro r w4 ⟨rfl, h5, q4⟩
  have k7 := k6.trans (q4.mono kk2)
  have T7 := T6.kept q4 (kk2 _ hg0)
  have gx5 := gx4.kept q4 e1
  have be := (Below.refl w4.heap.size w4).alloc (Nat.le_refl _) (.cells (zV fun _ => 0) 26)
  have h6 := h5.below be
  have gx6 := gx5.below be
  have T8 := T7.below be
  have k8 := k7.trans (Kept.below be)
  have c1 := gx6.cell (i := 1) (by decide)
  have hN1 := node_any K2 b (F.2 1) F.1 (by omega) n1.1 _ h6
  rw [n1.2] at hN1
  change Calls Tryd.prog 17 #[.pointer (some ⟨b, 0, none⟩), .int .i64 (F.2 1)] _ fun r w' => r = .returned (.tuple #[.agg #[.int .i64 0, .int .u32 5, .int .i64 0, .int .i64 0, .int .i64 0], .int .i64 0]) ∧ Below _ _ w' at hN1
  clear hF h4 gx4 T6 k6 q4 h5 gx5 T7 k7 be
  go_wp2_with (first | ((refine wpList_store_row rfl 26 (.tmp 7) (.tmp 40) rfl w4.heap.size (zV fun _ => 0) rfl rfl 26 _ (blk_new w4 _) (by rw [zV_size]; exact info_arr) rfl (zV_one _) ?_); rw [World.setRow_alloc_new]) | fail)
  refine hN1.mono ?_
  rintro r w5 ⟨rfl, b5⟩
  have a11 := b5.alloc b5.size (.cells #[.int .i64 0, .int .u32 5, .int .i64 0, .int .i64 0, .int .i64 0] 64)
  have h11' := h6.below a11
  have gx11' := gx6.below a11
  have T11' := T8.below a11
  have k11' := k8.trans (Kept.below a11)
  have c11' := gx11'.cell (i := 2) (by decide)
  have hN2 := node_any K2 b (F.2 2) F.1 (by omega) n2.1 _ h11'
  rw [n2.2] at hN2
  change Calls Tryd.prog 17 #[.pointer (some ⟨b, 0, none⟩), .int .i64 (F.2 2)] _ fun r w' => r = .returned (.tuple #[.agg #[.int .i64 0, .int .u32 10, .int .i64 0, .int .i64 0, .int .i64 0], .int .i64 0]) ∧ Below _ _ w' at hN2
  have m1 := blk_new w5 (.cells #[.int .i64 0, .int .u32 5, .int .i64 0, .int .i64 0, .int .i64 0] 64)
  clear hN1 h6 gx6 T8 k8 c1
  go_wp2_with fail
  refine hN2.mono ?_
  rintro r w6 ⟨rfl, b6⟩
  have a12 := b6.alloc b6.size (.cells #[.int .i64 0, .int .u32 10, .int .i64 0, .int .i64 0, .int .i64 0] 64)
  have h12' := h11'.below a12
  have gx12' := gx11'.below a12
  have T12' := T11'.below a12
  have k12' := k11'.trans (Kept.below a12)
  have c12' := gx12'.cell (i := 3) (by decide)
  have hN3 := node_any K2 b (F.2 3) F.1 (by omega) n3.1 _ h12'
  rw [n3.2] at hN3
  change Calls Tryd.prog 17 #[.pointer (some ⟨b, 0, none⟩), .int .i64 (F.2 3)] _ fun r w' => r = .returned (.tuple #[.agg #[.int .i64 0, .int .u32 4360, .int .i64 0, .int .i64 0, .int .i64 0], .int .i64 0]) ∧ Below _ _ w' at hN3
  have m2 := blk_new w6 (.cells #[.int .i64 0, .int .u32 10, .int .i64 0, .int .i64 0, .int .i64 0] 64)
  have m1' := blk_alloc (blk_below m1 b6) (.cells #[.int .i64 0, .int .u32 10, .int .i64 0, .int .i64 0, .int .i64 0] 64)
  clear hN2 h11' gx11' T11' k11' c11' m1 b5 a11
  go_wp2_with fail
  refine hN3.mono ?_
  rintro r w7 ⟨rfl, b7⟩
  have a13 := b7.alloc b7.size (.cells #[.int .i64 0, .int .u32 4360, .int .i64 0, .int .i64 0, .int .i64 0] 64)
  have h13' := h12'.below a13
  have T13' := T12'.below a13
  have k13' := k12'.trans (Kept.below a13)
  have m3 := blk_new w7 (.cells #[.int .i64 0, .int .u32 4360, .int .i64 0, .int .i64 0, .int .i64 0] 64)
  have m2' := blk_alloc (blk_below m2 b7) (.cells #[.int .i64 0, .int .u32 4360, .int .i64 0, .int .i64 0, .int .i64 0] 64)
  have m1 := blk_alloc (blk_below m1' b7) (.cells #[.int .i64 0, .int .u32 4360, .int .i64 0, .int .i64 0, .int .i64 0] 64)
  obtain ⟨u0, u1, u2, u3, u4⟩ := five_cells m1
  obtain ⟨v0, v1, v2, v3, v4⟩ := five_cells m2'
  obtain ⟨y0, y1, y2, y3, y4⟩ := five_cells m3
  have hL2 := len_any K2 b F.1 _ h13'
  have hP1 := lplain_any ⟨27, 0, 0, 0, 0⟩ (w7.alloc (.cells #[.int .i64 0, .int .u32 4360, .int .i64 0, .int .i64 0, .int .i64 0] 64))
  have hP2 := lplain_any ⟨12, 0, 0, 0, 0⟩
  rw [show plainI ⟨27, 0, 0, 0, 0⟩ = true by decide +kernel] at hP1
  rw [show plainI ⟨12, 0, 0, 0, 0⟩ = false by decide +kernel] at hP2
  change Calls Tryd.prog 12 #[.agg #[.int .i64 27, .int .i64 0, .int .i64 0, .int .i64 0, .int .i64 0]] _ _ at hP1
  change ∀ w, Calls Tryd.prog 12 #[.agg #[.int .i64 12, .int .i64 0, .int .i64 0, .int .i64 0, .int .i64 0]] _ _ at hP2
  clear hN3 h12' gx12' T12' k12' c12' m1' m2 m3 m2' b6 a12 m1
  go_wp2_with fail
  refine hL2.mono ?_
  rintro r w8 ⟨rfl, e8⟩
  subst e8
  go_wp2_with fail
  refine hP1.mono ?_
  rintro r w9 ⟨rfl, b9⟩
  go_wp2_with fail
  refine (hP2 _).mono ?_
  rintro r w10 ⟨rfl, b10⟩
  go_wp2_with fail
  go_ret
  exact ⟨rfl, by rw [HB.out]; exact hend _ ((k13'.trans (Kept.below b9)).trans (Kept.below b10))⟩
end Go.Proofs.YtaiggfknighhgaaDoor
