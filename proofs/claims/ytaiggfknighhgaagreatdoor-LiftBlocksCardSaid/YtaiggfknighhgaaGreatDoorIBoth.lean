/- How many terms a Dag has. -/
/- The law's fixed calls. -/
/- Arrays of 32 numbers, equal. -/
/- Have both Dags the same terms: walked (lift). -/
/- From, Block on a Dag and on the reference's, side by side. -/
import Derived.Test.YtaiggfknighhgaaGreatDoorTTerm
import Derived.Test.YtaiggfknighhgaaGreatDoorIBlock
import Derived.Deep.WholeRow
import Derived.ChangeKeysEq
import Derived.Test.YtaiggfknighhgaaGreatDoorLDoes
import Derived.Test.YtaiggfknighhgaaGreatDoorJBlock
import Derived.Test.YtaiggfknighhgaaGreatDoorLLaid
set_option linter.unusedVariables false
set_option linter.unusedSimpArgs false
namespace Go.Proofs.YtaiggfknighhgaaGreatDoor
open Go.RowKit Go.Maps Go.MapKept
set_option maxRecDepth 100000 in
theorem len_any (K : Nat → Prop) (b : Nat) (ts : List Term) (w : World) (h : DagAt K w b ts) :
    Calls Tryz.prog 33 #[.pointer (some ⟨b, 0, none⟩)] w fun r w' =>
      r = .returned (.int .i64 (ts.length : Int)) ∧ w = w' := by
  obtain ⟨vl, c0, hs⟩ := h.list
  obtain ⟨A, c, rfl, q1, q2, q3⟩ := hs.open_
  go_enter Tryz.func33, Tryz.ntmps33
  go_wp2_with fail
  go_ret
  exact ⟨rfl, rfl⟩
end Go.Proofs.YtaiggfknighhgaaGreatDoor
set_option linter.unusedVariables false
set_option linter.unusedSimpArgs false
namespace Go.Proofs.YtaiggfknighhgaaGreatDoor
open Go.RowKit Go.Maps Go.MapKept

theorem DagAt.grow {K : Nat → Prop} {w w' : World} {b : Nat} {ts : List Term} (h : DagAt K w b ts) (hb : Below w.heap.size w w') : ∃ K', DagAt K' w' b ts ∧ (∀ i, K i → K' i) ∧ (∀ i, w.heap.size ≤ i → i < w'.heap.size → K' i) := ⟨More K w w', h.more hb, fun _ => Or.inl, fun i h1 h2 => Or.inr ⟨h1, h2⟩⟩
theorem SlN.litI {w : World} {g : Nat} {e : TypeId} {xs : List Ins} (hg : w.heap[g]? = some (.cells (xs.flatMap Ins.five).toArray e (0, 0))) (hl : xs.length ≤ 100) : SlN 0 e 5 Ins.five w (.slice (some ⟨g, 0, none⟩) xs.length xs.length) xs := by
  refine ⟨some ⟨g, 0, none⟩, xs.length, rfl, Nat.le_refl _, (by unfold maxLen; omega), (fun h => by cases h), fun _ => ⟨g, 0, rfl, (Array.getElem?_eq_some_iff.1 hg).1, Or.inr ⟨_, _, hg⟩, fun j x hj i u hi => ?_⟩⟩
  have h5 : i < 5 := by have := (List.getElem?_eq_some_iff.1 hi).1; simpa [Ins.five] using this
  have h1 := flat_at encI hj i h5
  rw [Nat.zero_add]
  simp [World.cell?, hg, h1, hi]
theorem SlN.nilI (w : World) (e : TypeId) : SlN 0 e 5 Ins.five w (.slice none 0 0) [] := ⟨none, 0, rfl, Nat.le_refl _, Nat.zero_le _, fun _ => rfl, fun h => absurd h (by simp)⟩
def fx1 : List Ins := [⟨18, 1, 0, 0, 5⟩, ⟨27, 2, 1, 1, 0⟩, ⟨1, 3, 0, 0, 1⟩]
def fx2 : List Ins := [⟨45, 0, 0, 0, 0⟩]
def zm : Nat → Int := fun r => if r = 0 then -1 else 0
theorem zm_lit : (#[.int .i64 (-1), .int .i64 0, .int .i64 0, .int .i64 0, .int .i64 0, .int .i64 0, .int .i64 0, .int .i64 0, .int .i64 0, .int .i64 0, .int .i64 0, .int .i64 0, .int .i64 0, .int .i64 0, .int .i64 0, .int .i64 0, .int .i64 0, .int .i64 0, .int .i64 0, .int .i64 0, .int .i64 0, .int .i64 0, .int .i64 0, .int .i64 0, .int .i64 0, .int .i64 0, .int .i64 0, .int .i64 0, .int .i64 0, .int .i64 0, .int .i64 0, .int .i64 0] : Array Value) = zV zm := by kernel_rfl
theorem fx_out : blockO [] fx1 256 = ((blockT [] fx1 256).1, fun r => (((blockT [] fx1 256).2 r : Nat) : Int), 0) := by
  unfold blockO
  rw [if_neg (by decide +kernel)]
theorem fx_node1 : (blockT [] fx1 256).2 1 < (blockT [] fx1 256).1.length ∧ (blockT [] fx1 256).1.getD ((blockT [] fx1 256).2 1) default = constT 5 := by decide +kernel
theorem fx_node2 : (blockT [] fx1 256).2 2 < (blockT [] fx1 256).1.length ∧ (blockT [] fx1 256).1.getD ((blockT [] fx1 256).2 2) default = constT 10 := by decide +kernel
theorem fx_node3 : (blockT [] fx1 256).2 3 < (blockT [] fx1 256).1.length ∧ (blockT [] fx1 256).1.getD ((blockT [] fx1 256).2 3) default = constT 4360 := by decide +kernel
theorem fx_len : (blockT [] fx1 256).1.length < 1000 := by decide +kernel
theorem fx_good : Good (blockT [] fx1 256).1 := good_of (by decide +kernel)
set_option maxRecDepth 100000 in
set_option maxHeartbeats 4000000 in
theorem lfixed_any (w : World) (hT : Tab w) (hgz : 0 < w.heap.size) : Calls Tryz.prog 12 #[] w fun e w' => e = .returned (.bool true) ∧ Below w.heap.size w w' := by
  have hN := new_any (fun i => i < w.heap.size) w (fun i hi => hi)
  have hend : ∀ w', Kept (fun i => i < w.heap.size) w w' → Below w.heap.size w w' := fun w' h => below_kept h
  obtain ⟨K0, hK⟩ : ∃ K : Nat → Prop, (fun i => i < w.heap.size) = K := ⟨_, rfl⟩
  rw [hK] at hN hend
  have hg0 : K0 0 := by rw [← hK]; exact hgz
  clear hK
  obtain ⟨b, hb⟩ : ∃ b, w.heap.size = b := ⟨_, rfl⟩
  have HB := Lib.hid hb
  rw [hb] at hN hend
  clear hb
  have n1 := fx_node1
  have n2 := fx_node2
  have n3 := fx_node3
  have nl := fx_len
  have nG := fx_good
  go_enter Tryz.func12, Tryz.ntmps12
  go_wp2_with fail
  refine hN.mono ?_
  rintro r w1 ⟨rfl, h1, b1⟩
  have k1 : Kept K0 w w1 := Kept.below (by rw [HB.out]; exact b1)
  have T1 := hT.kept k1 hg0
  clear hN b1 hT
  -- the first block
  have ba := (Below.refl w1.heap.size w1).alloc (Nat.le_refl _) (.cells (fx1.flatMap Ins.five).toArray 31)
  have ga := blk_new w1 (.cells (fx1.flatMap Ins.five).toArray 31)
  obtain ⟨K1, d1, kk1, kn1⟩ := h1.grow ba
  have hk1 := kn1 w1.heap.size (Nat.le_refl _) (by simp)
  have hB := block_any K1 b [] 0 31 _ fx1 256 (by decide) (by decide) (by decide) (good_of rfl) (kk1 _ hg0) _ (T1.below ba) d1 (fun w' hk => SlN.litI (hk.blk hk1 ga) (by decide))
  have T2 := T1.below ba
  have k2 := k1.trans (Kept.below ba)
  rw [fx_out] at hB
  unfold FromPost at hB
  dsimp only at hB
  generalize blockT [] fx1 256 = F at hB n1 n2 n3 nl nG
  change Calls Tryz.prog 9 #[.pointer (some ⟨b, 0, none⟩), .slice (some ⟨w1.heap.size, 0, none⟩) 3 3, .int .u32 256] (w1.alloc (.cells #[.int .i64 18, .int .i64 1, .int .i64 0, .int .i64 0, .int .i64 5, .int .i64 27, .int .i64 2, .int .i64 1, .int .i64 1, .int .i64 0, .int .i64 1, .int .i64 3, .int .i64 0, .int .i64 0, .int .i64 1] 31)) _ at hB
  clear h1 ga hk1 kn1 T1 k1
  go_wp2_with fail
  refine hB.mono ?_
  rintro r w2 ⟨rfl, h2, q2⟩
  have k3 := k2.trans (q2.mono kk1)
  have T3 := T2.kept q2 (kk1 _ hg0)
  have h2' := h2.mono kk1
  clear hB d1 k2 T2 q2 ba h2 kk1
  clear K1
  have bb := (Below.refl w2.heap.size w2).alloc (Nat.le_refl _) (.cells (zV fun r => ((F.2 r : Nat) : Int)) 32)
  have bc := bb.alloc (by simp) (.cells #[.int .i64 45, .int .i64 0, .int .i64 0, .int .i64 0, .int .i64 0] 31)
  have gx := ZAt.new 32 w2 (fun r => ((F.2 r : Nat) : Int))
  have gx2 := gx.below ((Below.refl _ _).alloc (Nat.le_refl _) (.cells #[.int .i64 45, .int .i64 0, .int .i64 0, .int .i64 0, .int .i64 0] 31))
  have gs := blk_new (w2.alloc (.cells (zV fun r => ((F.2 r : Nat) : Int)) 32)) (.cells #[.int .i64 45, .int .i64 0, .int .i64 0, .int .i64 0, .int .i64 0] 31)
  have hs1 : (w2.alloc (.cells (zV fun r => ((F.2 r : Nat) : Int)) 32)).heap.size = w2.heap.size + 1 := by simp
  rw [hs1] at gs
  obtain ⟨K2, d2, kk2, kn2⟩ := h2'.grow bc
  have e1 := kn2 w2.heap.size (Nat.le_refl _) (by simp; omega)
  have e2 := kn2 (w2.heap.size + 1) (by omega) (by simp)
  have hL := len_any K0 b F.1 _ (h2'.below bb)
  have T4 := T3.below bc
  have hB2 := block_any K2 b F.1 0 31 _ fx2 0 (by decide) (by omega) (by decide) nG (kk2 _ hg0) _ T4 d2 (fun w' hk => SlN.litI (hk.blk e2 gs) (by decide))
  have k4 := k3.trans (Kept.below bc)
  rw [show blockO F.1 fx2 0 = (F.1, fun _ => 0, 120) by unfold blockO; rw [if_pos (by decide +kernel)]] at hB2
  unfold FromPost at hB2
  dsimp only at hB2
  change Calls Tryz.prog 9 #[.pointer (some ⟨b, 0, none⟩), .slice (some ⟨w2.heap.size + 1, 0, none⟩) 1 1, .int .u32 0] ((w2.alloc (.cells (zV fun r => ((F.2 r : Nat) : Int)) 32)).alloc (.cells #[.int .i64 45, .int .i64 0, .int .i64 0, .int .i64 0, .int .i64 0] 31)) _ at hB2
  clear gs kn2 T3 k3 bb bc hs1
  go_wp2_with (first | ((refine wpList_store_row rfl 32 (.tmp 2) (.tmp 25) rfl w2.heap.size (zV fun r => ((F.2 r : Nat) : Int)) rfl rfl 32 _ (blk_new w2 _) (by rw [zV_size]; exact info_arr) rfl (zV_one _) ?_); rw [World.setRow_alloc_new]) | fail)
  refine hL.mono ?_
  rintro r wz ⟨rfl, rfl⟩
  go_wp2_with fail
  refine hB2.mono ?_
  rintro r w3 ⟨rfl, h3, q3⟩
  have k5 := k4.trans (q3.mono kk2)
  have T5 := T4.kept q3 (kk2 _ hg0)
  have gx3 := gx2.kept q3 e1
  clear hB2 hL d2 k4 T4 q3 gx gx2 e2
  have bd := (Below.refl w3.heap.size w3).alloc (Nat.le_refl _) (.cells (zV fun _ => 0) 32)
  have T6 := T5.below bd
  have h4 := h3.below bd
  have gx4 := gx3.below bd
  have k6 := k5.trans (Kept.below bd)
  have hF := from_any K2 b F.1 zm 0 31 _ [] 0 (by decide) (by omega) (by decide) nG (kk2 _ hg0) _ (SlN.nilI _ _) T6 h4 (fun w' _ => SlN.nilI w' _)
  rw [show fromO F.1 zm [] 0 = (F.1, fun _ => 0, 100) by unfold fromO; rw [if_pos (okX_bad (j := 0) (by decide) rfl)]] at hF
  unfold FromPost at hF
  rw [← zm_lit] at hF
  dsimp only at hF
  clear h3 gx3 T5 k5 bd
  go_wp2_with (first | ((refine wpList_store_row rfl 32 (.tmp 5) (.tmp 34) rfl w3.heap.size (zV fun _ => 0) rfl rfl 32 _ (blk_new w3 _) (by rw [zV_size]; exact info_arr) rfl (zV_one _) ?_); rw [World.setRow_alloc_new]) | fail)
  refine hF.mono ?_
  rintro r w4 ⟨rfl, h5, q4⟩
  have k7 := k6.trans (q4.mono kk2)
  have T7 := T6.kept q4 (kk2 _ hg0)
  have gx5 := gx4.kept q4 e1
  have be := (Below.refl w4.heap.size w4).alloc (Nat.le_refl _) (.cells (zV fun _ => 0) 32)
  have h6 := h5.below be
  have gx6 := gx5.below be
  have T8 := T7.below be
  have k8 := k7.trans (Kept.below be)
  have c1 := gx6.cell (i := 1) (by decide)
  have hN1 := node_any K2 b (F.2 1) F.1 (by omega) n1.1 _ h6
  rw [n1.2] at hN1
  change Calls Tryz.prog 34 #[.pointer (some ⟨b, 0, none⟩), .int .i64 (F.2 1)] _ fun r w' => r = .returned (.tuple #[.agg #[.int .i64 0, .int .u32 5, .int .i64 0, .int .i64 0, .int .i64 0], .int .i64 0]) ∧ Below _ _ w' at hN1
  clear hF h4 gx4 T6 k6 q4 h5 gx5 T7 k7 be
  go_wp2_with (first | ((refine wpList_store_row rfl 32 (.tmp 7) (.tmp 40) rfl w4.heap.size (zV fun _ => 0) rfl rfl 32 _ (blk_new w4 _) (by rw [zV_size]; exact info_arr) rfl (zV_one _) ?_); rw [World.setRow_alloc_new]) | fail)
  refine hN1.mono ?_
  rintro r w5 ⟨rfl, b5⟩
  have a11 := b5.alloc b5.size (.cells #[.int .i64 0, .int .u32 5, .int .i64 0, .int .i64 0, .int .i64 0] 68)
  have h11' := h6.below a11
  have gx11' := gx6.below a11
  have T11' := T8.below a11
  have k11' := k8.trans (Kept.below a11)
  have c11' := gx11'.cell (i := 2) (by decide)
  have hN2 := node_any K2 b (F.2 2) F.1 (by omega) n2.1 _ h11'
  rw [n2.2] at hN2
  change Calls Tryz.prog 34 #[.pointer (some ⟨b, 0, none⟩), .int .i64 (F.2 2)] _ fun r w' => r = .returned (.tuple #[.agg #[.int .i64 0, .int .u32 10, .int .i64 0, .int .i64 0, .int .i64 0], .int .i64 0]) ∧ Below _ _ w' at hN2
  have m1 := blk_new w5 (.cells #[.int .i64 0, .int .u32 5, .int .i64 0, .int .i64 0, .int .i64 0] 68)
  clear hN1 h6 gx6 T8 k8 c1
  go_wp2_with fail
  refine hN2.mono ?_
  rintro r w6 ⟨rfl, b6⟩
  have a12 := b6.alloc b6.size (.cells #[.int .i64 0, .int .u32 10, .int .i64 0, .int .i64 0, .int .i64 0] 68)
  have h12' := h11'.below a12
  have gx12' := gx11'.below a12
  have T12' := T11'.below a12
  have k12' := k11'.trans (Kept.below a12)
  have c12' := gx12'.cell (i := 3) (by decide)
  have hN3 := node_any K2 b (F.2 3) F.1 (by omega) n3.1 _ h12'
  rw [n3.2] at hN3
  change Calls Tryz.prog 34 #[.pointer (some ⟨b, 0, none⟩), .int .i64 (F.2 3)] _ fun r w' => r = .returned (.tuple #[.agg #[.int .i64 0, .int .u32 4360, .int .i64 0, .int .i64 0, .int .i64 0], .int .i64 0]) ∧ Below _ _ w' at hN3
  have m2 := blk_new w6 (.cells #[.int .i64 0, .int .u32 10, .int .i64 0, .int .i64 0, .int .i64 0] 68)
  have m1' := blk_alloc (blk_below m1 b6) (.cells #[.int .i64 0, .int .u32 10, .int .i64 0, .int .i64 0, .int .i64 0] 68)
  clear hN2 h11' gx11' T11' k11' c11' m1 b5 a11
  go_wp2_with fail
  refine hN3.mono ?_
  rintro r w7 ⟨rfl, b7⟩
  have a13 := b7.alloc b7.size (.cells #[.int .i64 0, .int .u32 4360, .int .i64 0, .int .i64 0, .int .i64 0] 68)
  have h13' := h12'.below a13
  have T13' := T12'.below a13
  have k13' := k12'.trans (Kept.below a13)
  have m3 := blk_new w7 (.cells #[.int .i64 0, .int .u32 4360, .int .i64 0, .int .i64 0, .int .i64 0] 68)
  have m2' := blk_alloc (blk_below m2 b7) (.cells #[.int .i64 0, .int .u32 4360, .int .i64 0, .int .i64 0, .int .i64 0] 68)
  have m1 := blk_alloc (blk_below m1' b7) (.cells #[.int .i64 0, .int .u32 4360, .int .i64 0, .int .i64 0, .int .i64 0] 68)
  obtain ⟨u0, u1, u2, u3, u4⟩ := five_cells m1
  obtain ⟨v0, v1, v2, v3, v4⟩ := five_cells m2'
  obtain ⟨y0, y1, y2, y3, y4⟩ := five_cells m3
  have hL2 := len_any K2 b F.1 _ h13'
  have hP1 := lplain_any ⟨27, 0, 0, 0, 0⟩ (w7.alloc (.cells #[.int .i64 0, .int .u32 4360, .int .i64 0, .int .i64 0, .int .i64 0] 68))
  have hP2 := lplain_any ⟨12, 0, 0, 0, 0⟩
  rw [show plainI ⟨27, 0, 0, 0, 0⟩ = true by decide +kernel] at hP1
  rw [show plainI ⟨12, 0, 0, 0, 0⟩ = false by decide +kernel] at hP2
  change Calls Tryz.prog 7 #[.agg #[.int .i64 27, .int .i64 0, .int .i64 0, .int .i64 0, .int .i64 0]] _ _ at hP1
  change ∀ w, Calls Tryz.prog 7 #[.agg #[.int .i64 12, .int .i64 0, .int .i64 0, .int .i64 0, .int .i64 0]] _ _ at hP2
  clear hN3 h12' gx12' T12' k12' c12' m1' m2 m3 m2' b6 a12 m1
  go_wp2_with fail
  refine hL2.mono ?_
  rintro r w8 ⟨rfl, e8⟩
  subst e8
  go_wp2_with fail
  refine hP1.mono ?_
  rintro r w9 ⟨rfl, b9⟩
  go_wp2_with fail
  refine (hP2 _).mono ?_
  rintro r w10 ⟨rfl, b10⟩
  go_wp2_with fail
  go_ret
  exact ⟨rfl, by rw [HB.out]; exact hend _ ((k13'.trans (Kept.below b9)).trans (Kept.below b10))⟩
end Go.Proofs.YtaiggfknighhgaaGreatDoor
set_option linter.unusedVariables false
set_option linter.unusedSimpArgs false
namespace Go.Proofs.YtaiggfknighhgaaGreatDoor
open Go.RowKit

theorem info_int1 : ∃ i, Tryz.prog.info? 3 = some i := by
  have h : (Tryz.prog.info? 3).isSome = true := by kernel_rfl
  exact Option.isSome_iff_exists.1 h
theorem cells_int1 : Tryz.prog.cellsOf 3 = 1 := by kernel_rfl
theorem eq_items (d : Nat) (z : Nat → Int) (w : World) : ∀ is : List Nat, (∀ i, i ∈ is → i < 32) → (Op.eqItems (d + 1) 3 1 (zV z) (zV z) is).run Tryz.prog w = .ok true w
  | [], _ => by simp [Op.eqItems]
  | i :: is, h => by
    have hi := h i List.mem_cons_self
    have h1 : (isAgg 3).run Tryz.prog w = .ok false w := by kernel_rfl
    have hp : (part 3 (zV z) (i * 1)).run Tryz.prog w = .ok (.int .i64 (z i)) w := by
      rw [Nat.mul_one]
      simp [part, Sem.run_bind, h1, zV_get z hi]
    have he : (Op.equalIn (d + 1) 3 (.int .i64 (z i)) (.int .i64 (z i))).run Tryz.prog w = .ok true w := by
      simp [Op.equalIn, Sem.run_bind, run_underlying Tryz.underlying3]
    have ih := eq_items d z w is fun j hj => h j (List.mem_cons_of_mem i hj)
    simp only [Op.eqItems, Sem.run_bind, hp, he, Result.andThen_ok]
    simpa using ih
theorem eq_arr (z : Nat → Int) (w : World) : (binOp .eql 32 (.agg (zV z)) (.agg (zV z))).run Tryz.prog w = .ok (.bool true) w := by
  obtain ⟨i, hi⟩ := info_int1
  have h := run_equalIn_array (P := Tryz.prog) (w := w) 9999 (zV z) (zV z) Tryz.underlying32 hi
  rw [cells_int1, eq_items 9998 z w _ (fun i hi => by simpa using hi)] at h
  have h2 : (Op.equalIn 10000 32 (.agg (zV z)) (.agg (zV z))).run Tryz.prog w = .ok true w := h
  rw [run_eql_struct, h2]
  rfl
end Go.Proofs.YtaiggfknighhgaaGreatDoor
set_option linter.unusedVariables false
set_option linter.unusedSimpArgs false
namespace Go.Proofs.YtaiggfknighhgaaGreatDoor
open Go.RowKit Go.Maps Go.MapKept

theorem neq_same (w : World) (t : Term) : (binOp .neq 68 (tv t) (tv t)).run Tryz.prog w = .ok (.bool false) w := by
  unfold tv
  rw [run_neq_struct]
  simp [go_sem, Tryz.underlying68]
set_option maxRecDepth 100000 in
theorem same_any (ts : List Term) (hl : ts.length < 1000000000000) (K0 : Nat → Prop) (d k : Nat) (w : World) (h : BothM K0 w d k ts ts) :
    Calls Tryz.prog 11 #[.pointer (some ⟨d, 0, none⟩), .pointer (some ⟨k, 0, none⟩)] w fun e w' => e = .returned (.bool true) ∧ Below w.heap.size w w' := by
  obtain ⟨K, vl, hX⟩ := h
  have hD := hX.dag
  have hR := hX.ref
  clear hX
  have hq : ∀ n, Calls Tryz.prog 33 #[.pointer (some ⟨d, 0, none⟩)] (w.drewN n) fun e w'' => e = .returned (.int .i64 (ts.length : Int)) ∧ ∃ m, w'' = w.drewN m := fun n => Calls.quiet_of_same ((len_any K d ts _ (hD.below (below_drewN (Below.refl _ _) n))).mono fun r w' ⟨e, h⟩ => ⟨e, h.symm⟩)
  obtain ⟨A, c, rfl, q1, q2, q3⟩ := (hR.l.toSl encT 0).open_
  have c0 := one_cell hR.hb
  go_enter Tryz.func11, Tryz.ntmps11
  go_wp2_with fail
  go_quiet ((go_at_call 33; exact hq _))
  have b0 := below_drewN (Below.refl w.heap.size w) nq
  clear hq c0
  go_wp2_with fail
  go_loopw [5] (fun i wr => ∃ j : Nat, j ≤ ts.length ∧ i = .int .i64 j ∧ Below w.heap.size w wr) (fun i _ => ts.length - (intOf i).toNat)
  case atStart => exact ⟨0, Nat.zero_le _, rfl, b0⟩
  case round =>
    clear b0
    obtain ⟨j, hj, rfl, hb⟩ := hrel
    have hD1 := hD.below hb
    have hR1 := hR.below hb
    have c1 := one_cell hR1.hb
    by_cases hlt : j < ts.length
    · have hlt' : (j : Int) < ts.length := by omega
      have hN := node_any K d j ts hl hlt wr hD1
      generalize ht : ts.getD j default = t at hN
      unfold tv at hN
      go_wp2_with fail
      refine hN.mono ?_
      rintro r w1 ⟨rfl, b1⟩
      have hR2 := (hR1.below b1).below ((Below.refl _ _).alloc (Nat.le_refl _) (.cells #[.int .i64 t.k, .int .u32 t.v, .int .i64 t.op, .int .i64 t.a, .int .i64 t.b] 68))
      have b2 := (below_then hb b1).alloc (Nat.le_trans hb.size b1.size) (.cells #[.int .i64 t.k, .int .u32 t.v, .int .i64 t.op, .int .i64 t.a, .int .i64 t.b] 68)
      obtain ⟨z0, z1, z2, z3, z4⟩ := five_cells (blk_new w1 (.cells #[.int .i64 t.k, .int .u32 t.v, .int .i64 t.op, .int .i64 t.a, .int .i64 t.b] 68))
      obtain ⟨bb, off, eA, hat, hbl⟩ := (hR2.l.toSl encT 0).at_ hlt
      subst eA
      rw [show ts[j] = ts.getD j default by simp [List.getD, hlt], ht] at hat
      have d0 := hat 0 _ rfl
      have d1 := hat 1 _ rfl
      have d2 := hat 2 _ rfl
      have d3 := hat 3 _ rfl
      have d4 := hat 4 _ rfl
      simp only [Nat.add_zero] at d0
      have c2 := one_cell hR2.hb
      have hne := fun W => neq_same W t
      unfold tv at hne
      clear hat ht hR2 hN hD1 hR1 c1 hb b1 hR hD
      go_wp2_with fail
      go_quiet (fail)
      go_wp2_with fail
      go_roundw
      case rel => exact ⟨j + 1, by omega, by go_num, below_drewN b2 nq⟩
      case measure => simp [intOf]; omega
    · have hlt' : ¬ (j : Int) < ts.length := by omega
      go_wp2_with fail
      go_ret
      exact ⟨rfl, hb⟩
end Go.Proofs.YtaiggfknighhgaaGreatDoor
set_option linter.unusedVariables false
set_option linter.unusedSimpArgs false
namespace Go.Proofs.YtaiggfknighhgaaGreatDoor
open Go.RowKit Go.Maps Go.MapKept

theorem fromO_len {ts : List Term} {z : Nat → Int} {xs : List Ins} {pc : Nat} (hG : Good ts) (hl : ts.length ≤ 1000000) (hxs : xs.length ≤ 100) : (fromO ts z xs pc).1.length < 1000000000 := by
  unfold fromO
  split
  · show ts.length < _; omega
  · rename_i hok
    split
    · show ts.length < _; omega
    · rename_i hod
      have hod' : oddL xs = false := by cases e : oddL xs; rfl; exact absurd e hod
      have hok' : okX ts z = true := by cases e : okX ts z; exact absurd e hok; rfl
      have hIn : InT ts (toN z) := fun r hr => by
        unfold okX at hok'
        rw [List.all_eq_true] at hok'
        obtain ⟨n, e1, e2⟩ := inR_nat (hok' r (by simpa using hr))
        unfold toN
        rw [e1]
        exact e2
      have := fromT_len xs ts (toN z) pc ts.length hG hIn (oddL_false hod') (fun r hr => Nat.le_trans (dp_le hG (hIn r hr)) (Nat.le_of_lt (hIn r hr)))
      have h9 : xs.length * (8 * (ts.length + xs.length) + 11) ≤ 100 * (8 * (1000000 + 100) + 11) := Nat.mul_le_mul (by omega) (by omega)
      show (fromT ts (toN z) xs pc).1.length < _
      omega
theorem blockO_len {ts : List Term} {xs : List Ins} {pc : Nat} (hG : Good ts) (hl : ts.length ≤ 90000) (hxs : xs.length ≤ 100) : (blockO ts xs pc).1.length < 1000000000 := by
  unfold blockO
  split
  · show ts.length < _; omega
  · rename_i hod
    have hod' : oddL xs = false := by cases e : oddL xs; rfl; exact absurd e hod
    have gS := startT_good hG 32 (Nat.le_refl _)
    have lS := startT_len ts 32
    have hIn := startT_in ts
    have := fromT_len xs (startT ts 32).1 (startT ts 32).2 pc (startT ts 32).1.length gS hIn (oddL_false hod') (fun r hr => Nat.le_trans (dp_le gS (hIn r hr)) (Nat.le_of_lt (hIn r hr)))
    have h9 : xs.length * (8 * ((startT ts 32).1.length + xs.length) + 11) ≤ 100 * (8 * (1000000 + 100) + 11) := Nat.mul_le_mul (by omega) (by omega)
    show (fromT (startT ts 32).1 (startT ts 32).2 xs pc).1.length < _
    omega
theorem BothX.sub_refm {K0 K : Nat → Prop} {vl : Value} {w : World} {d k : Nat} {ts us : List Term} (h : BothX K0 K vl w d k ts us) : ∀ i, K0 i → i < w.heap.size ∧ i ≠ k ∧ vl.ownBlock ≠ some i :=
  fun i hi => ⟨h.dag.in_ i (h.sub i hi), by rintro rfl; exact h.nk hi, fun e => h.nv i e hi⟩
section
variable {K0 : Nat → Prop} {w : World} {d k : Nat} {ts us : List Term} (h : BothM K0 w d k ts us) {B : Nat} {e : TypeId} {v : Value} {xs : List Ins} (hxs : xs.length ≤ 100) {pc : Nat} (hpc : pc < 4294967296) (hvK : ∀ w', Kept K0 w w' → SlN B e 5 Ins.five w' v xs)
include h hxs hpc hvK
theorem both_from (z : Nat → Int) (hG : Good ts) (hl : ts.length ≤ 1000000) (hg : K0 0) (hT : Tab w) : Calls Tryz.prog 13 #[.pointer (some ⟨d, 0, none⟩), .agg (zV z), v, .int .u32 pc] w fun e w' =>
    e = .returned (.tuple #[.agg (zV (fromO ts z xs pc).2.1), .int .i64 (fromO ts z xs pc).2.2]) ∧ BothM K0 w' d k (fromO ts z xs pc).1 us ∧ Kept K0 w w' := by
  obtain ⟨K, vl, h⟩ := h
  exact (from_any K d ts z B e v xs pc hpc hl hxs hG (h.sub _ hg) w (hvK _ (Kept.refl _ _)) hT h.dag (fun w' hk => hvK _ (hk.mono h.sub))).mono fun e w' ⟨e1, h1, h2⟩ => ⟨e1, BothM.dag_step h h1 h2⟩
theorem both_rfrom (z : Nat → Int) (hG : Good us) (hl : us.length ≤ 1000000) : Calls Tryz.prog 14 #[.pointer (some ⟨k, 0, none⟩), .agg (zV z), v, .int .u32 pc] w fun e w' =>
    e = .returned (.tuple #[.agg (zV (fromO us z xs pc).2.1), .int .i64 (fromO us z xs pc).2.2]) ∧ BothM K0 w' d k ts (fromO us z xs pc).1 ∧ Kept K0 w w' := by
  obtain ⟨K, vl, h⟩ := h
  exact (rfrom_any _ k us z B e v xs pc hpc hl hxs hG w (hvK _ (Kept.refl _ _)) h.refm (fun w' hk => hvK _ (hk.mono h.sub_refm))).mono fun e w' ⟨e1, h1, h2⟩ => ⟨e1, BothM.refm_step h h1 h2⟩
theorem both_block (hG : Good ts) (hl : ts.length ≤ 90000) (hg : K0 0) (hT : Tab w) : Calls Tryz.prog 9 #[.pointer (some ⟨d, 0, none⟩), v, .int .u32 pc] w fun e w' =>
    e = .returned (.tuple #[.agg (zV (blockO ts xs pc).2.1), .int .i64 (blockO ts xs pc).2.2]) ∧ BothM K0 w' d k (blockO ts xs pc).1 us ∧ Kept K0 w w' := by
  obtain ⟨K, vl, h⟩ := h
  exact (block_any K d ts B e v xs pc hpc hl hxs hG (h.sub _ hg) w hT h.dag (fun w' hk => hvK _ (hk.mono h.sub))).mono fun e w' ⟨e1, h1, h2⟩ => ⟨e1, BothM.dag_step h h1 h2⟩
theorem both_rblock (hG : Good us) (hl : us.length ≤ 90000) : Calls Tryz.prog 10 #[.pointer (some ⟨k, 0, none⟩), v, .int .u32 pc] w fun e w' =>
    e = .returned (.tuple #[.agg (zV (blockO us xs pc).2.1), .int .i64 (blockO us xs pc).2.2]) ∧ BothM K0 w' d k ts (blockO us xs pc).1 ∧ Kept K0 w w' := by
  obtain ⟨K, vl, h⟩ := h
  exact (rblock_any _ k us B e v xs pc hpc hl hxs hG w h.refm (fun w' hk => hvK _ (hk.mono h.sub_refm))).mono fun e w' ⟨e1, h1, h2⟩ => ⟨e1, BothM.refm_step h h1 h2⟩
end
theorem BothM.grow {K0 : Nat → Prop} {w w' : World} {d k : Nat} {ts us : List Term} (h : BothM K0 w d k ts us) (hb : Below w.heap.size w w') : ∃ K', BothM K' w' d k ts us ∧ (∀ i, K0 i → K' i) ∧ (∀ i, w.heap.size ≤ i → i < w'.heap.size → K' i) := ⟨More K0 w w', h.more hb, fun _ => Or.inl, fun i h1 h2 => Or.inr ⟨h1, h2⟩⟩
theorem cut30 {B : Nat} {e : TypeId} {w : World} {v : Value} {xs : List Ins} (hs : SlN B e 5 Ins.five w v xs) :
    ∃ A c N la, v = .slice A xs.length c ∧ la.length = N ∧ N ≤ 30 ∧ SlN B e 5 Ins.five w (.slice A N c) la ∧ (((30 : Int) < (xs.length : Int) ∧ min (xs.length : Int) 30 = 30 ∧ N = 30 ∧ (30 : Int) ≤ (c : Int)) ∨ (¬ (30 : Int) < (xs.length : Int) ∧ min (xs.length : Int) 30 = (xs.length : Int) ∧ N = xs.length ∧ (xs.length : Int) ≤ (c : Int))) ∧ xs.length ≤ 9223372036854775807 := by
  obtain ⟨A, c, rfl, h1, h2, h3, h4⟩ := hs
  have hl : (xs.take (min xs.length 30)).length = min xs.length 30 := by rw [List.length_take]; omega
  refine ⟨A, c, min xs.length 30, xs.take (min xs.length 30), rfl, hl, Nat.min_le_right _ _, ⟨A, c, by rw [hl], by omega, h2, h3, fun h0 => ?_⟩, ?_, by unfold maxLen at h2; omega⟩
  · obtain ⟨b, off, hA, hb, ht, hx⟩ := h4 (by omega)
    refine ⟨b, off, hA, hb, ht, fun j x hj => ?_⟩
    have hj' : j < min xs.length 30 := by have := (List.getElem?_eq_some_iff.1 hj).1; omega
    exact hx j x (by rw [← hj, List.getElem?_take_of_lt hj'])
  · by_cases h12 : (30 : Int) < (xs.length : Int)
    · exact Or.inl ⟨h12, by omega, Nat.min_eq_right (by omega), by omega⟩
    · exact Or.inr ⟨h12, by omega, Nat.min_eq_left (by omega), by omega⟩
end Go.Proofs.YtaiggfknighhgaaGreatDoor
