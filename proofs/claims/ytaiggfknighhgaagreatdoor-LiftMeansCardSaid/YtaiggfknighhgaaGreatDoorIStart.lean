/- lift.Start. -/
import Derived.Test.YtaiggfknighhgaaGreatDoorIArr
import Derived.Test.YtaiggfknighhgaaGreatDoorIMean
import Derived.Test.YtaiggfknighhgaaGreatDoorTLit
import Derived.Laws.Rows
import Derived.Laws.Tables
set_option linter.unusedVariables false
set_option linter.unusedSimpArgs false
namespace Go.Proofs.YtaiggfknighhgaaGreatDoor
open Go.RowKit Go.Maps Go.MapKept

theorem zV_zero : (#[.int .i64 0, .int .i64 0, .int .i64 0, .int .i64 0, .int .i64 0, .int .i64 0, .int .i64 0, .int .i64 0, .int .i64 0, .int .i64 0, .int .i64 0, .int .i64 0, .int .i64 0, .int .i64 0, .int .i64 0, .int .i64 0, .int .i64 0, .int .i64 0, .int .i64 0, .int .i64 0, .int .i64 0, .int .i64 0, .int .i64 0, .int .i64 0, .int .i64 0, .int .i64 0, .int .i64 0, .int .i64 0, .int .i64 0, .int .i64 0, .int .i64 0, .int .i64 0] : Array Value) = zV fun _ => 0 := by kernel_rfl
theorem zV_one (z : Nat → Int) : (zV z).all (·.oneCell') = true := by
  rw [Array.all_eq_true]
  intro i hi
  simp [zV]
  rfl
theorem ownI_kept {α : Type} {B e n : Nat} {enc : α → List Value} {w w' : World} {v : Value} {xs : List α} (h : OwnN B e n enc w v xs) (hk : ∀ g, v.ownBlock = some g → w'.heap[g]? = w.heap[g]?) : OwnN B e n enc w' v xs := by
  refine ⟨h.1, ?_⟩
  rcases h.2 with hl | ⟨g, cap, cur, rfl, hg, hh, r⟩
  · exact Or.inl hl
  · exact Or.inr ⟨g, cap, cur, rfl, hg, (hk g rfl).trans hh, r⟩
/-- A Dag stays where a block turns that is none of its own. -/
theorem DagAt.moved {K : Nat → Prop} {w w' : World} {b g : Nat} {ts : List Term} (h : DagAt K w b ts) (hk : Kept (fun i => i ≠ g) w w') (hg : K g) : DagAt K w' b ts := by
  obtain ⟨vl, u, vm, h1, h2, h3, h4, h5, h6, h7, h8⟩ := h.out
  have hne : ∀ i, ¬ K i → i ≠ g := fun i hi e => hi (by rw [e]; exact hg)
  have hlt := h.lt
  refine ⟨vl, u, vm, (hk.block b hlt (hne b h4)).trans h1, ownI_kept h2 fun q hq => ?_, h3, h4, ?_, fun i hi => Nat.lt_of_lt_of_le (h6 i hi) hk.size, h7, h8⟩
  · obtain ⟨_, cur, hc⟩ := h2.typed hq
    exact hk.block q (Array.getElem?_eq_some_iff.1 hc).1 (hne q (h3 q hq))
  · rcases h5 with h5 | ⟨hu, m, hm, hma, hkm⟩
    · exact Or.inl h5
    · exact Or.inr ⟨hu, m, hm, hma.block (hk.block m hma.lt (hne m hkm)), hkm⟩
theorem kept_set (w : World) (g i : Nat) (v : Value) : Kept (fun i => i ≠ g) w (w.setCell ⟨g, i, none⟩ v) := Kept.grown (grown_set w g i v) fun h => h rfl
theorem kept_row (w : World) (g : Nat) (cs : Array Value) : Kept (fun i => i ≠ g) w (w.setRow g cs) := ⟨rfl, rfl, rfl, by rw [setRow_size]; exact Nat.le_refl _, fun i _ hi => setRow_other w g i cs hi⟩
theorem info_arr : (Tryz.prog.info? 32).map (·.size) = some 32 := by kernel_rfl
def startZ (ts : List Term) (n : Nat) : Nat → Int := fun r => ((startT ts n).2 r : Nat)
theorem startT_len (ts : List Term) : ∀ n, (startT ts n).1.length ≤ ts.length + n
  | 0 => Nat.le_refl _
  | n + 1 => Nat.le_trans (ins_len _ _).2 (by have := startT_len ts n; omega)
set_option maxRecDepth 100000 in
theorem start_any (K : Nat → Prop) (b : Nat) (ts : List Term) (hl : ts.length < 100000000000) (w : World) (h : DagAt K w b ts) :
    Calls Tryz.prog 30 #[.pointer (some ⟨b, 0, none⟩)] w fun e w' => e = .returned (.agg (zV (startZ ts 32))) ∧ DagAt K w' b (startT ts 32).1 ∧ Kept K w w' := by
  have b1 := (Below.refl w.heap.size w).alloc (Nat.le_refl _) (.cells #[.int .i64 0, .int .i64 0, .int .i64 0, .int .i64 0, .int .i64 0, .int .i64 0, .int .i64 0, .int .i64 0, .int .i64 0, .int .i64 0, .int .i64 0, .int .i64 0, .int .i64 0, .int .i64 0, .int .i64 0, .int .i64 0, .int .i64 0, .int .i64 0, .int .i64 0, .int .i64 0, .int .i64 0, .int .i64 0, .int .i64 0, .int .i64 0, .int .i64 0, .int .i64 0, .int .i64 0, .int .i64 0, .int .i64 0, .int .i64 0, .int .i64 0, .int .i64 0] 32)
  have b2 := b1.alloc (by simp) (.cells #[.int .i64 0, .int .i64 0, .int .i64 0, .int .i64 0, .int .i64 0, .int .i64 0, .int .i64 0, .int .i64 0, .int .i64 0, .int .i64 0, .int .i64 0, .int .i64 0, .int .i64 0, .int .i64 0, .int .i64 0, .int .i64 0, .int .i64 0, .int .i64 0, .int .i64 0, .int .i64 0, .int .i64 0, .int .i64 0, .int .i64 0, .int .i64 0, .int .i64 0, .int .i64 0, .int .i64 0, .int .i64 0, .int .i64 0, .int .i64 0, .int .i64 0, .int .i64 0] 32)
  have hz0 := blk_alloc (blk_new w (.cells #[.int .i64 0, .int .i64 0, .int .i64 0, .int .i64 0, .int .i64 0, .int .i64 0, .int .i64 0, .int .i64 0, .int .i64 0, .int .i64 0, .int .i64 0, .int .i64 0, .int .i64 0, .int .i64 0, .int .i64 0, .int .i64 0, .int .i64 0, .int .i64 0, .int .i64 0, .int .i64 0, .int .i64 0, .int .i64 0, .int .i64 0, .int .i64 0, .int .i64 0, .int .i64 0, .int .i64 0, .int .i64 0, .int .i64 0, .int .i64 0, .int .i64 0, .int .i64 0] 32)) (.cells #[.int .i64 0, .int .i64 0, .int .i64 0, .int .i64 0, .int .i64 0, .int .i64 0, .int .i64 0, .int .i64 0, .int .i64 0, .int .i64 0, .int .i64 0, .int .i64 0, .int .i64 0, .int .i64 0, .int .i64 0, .int .i64 0, .int .i64 0, .int .i64 0, .int .i64 0, .int .i64 0, .int .i64 0, .int .i64 0, .int .i64 0, .int .i64 0, .int .i64 0, .int .i64 0, .int .i64 0, .int .i64 0, .int .i64 0, .int .i64 0, .int .i64 0, .int .i64 0] 32)
  have hz1 := blk_new (w.alloc (.cells #[.int .i64 0, .int .i64 0, .int .i64 0, .int .i64 0, .int .i64 0, .int .i64 0, .int .i64 0, .int .i64 0, .int .i64 0, .int .i64 0, .int .i64 0, .int .i64 0, .int .i64 0, .int .i64 0, .int .i64 0, .int .i64 0, .int .i64 0, .int .i64 0, .int .i64 0, .int .i64 0, .int .i64 0, .int .i64 0, .int .i64 0, .int .i64 0, .int .i64 0, .int .i64 0, .int .i64 0, .int .i64 0, .int .i64 0, .int .i64 0, .int .i64 0, .int .i64 0] 32)) (.cells #[.int .i64 0, .int .i64 0, .int .i64 0, .int .i64 0, .int .i64 0, .int .i64 0, .int .i64 0, .int .i64 0, .int .i64 0, .int .i64 0, .int .i64 0, .int .i64 0, .int .i64 0, .int .i64 0, .int .i64 0, .int .i64 0, .int .i64 0, .int .i64 0, .int .i64 0, .int .i64 0, .int .i64 0, .int .i64 0, .int .i64 0, .int .i64 0, .int .i64 0, .int .i64 0, .int .i64 0, .int .i64 0, .int .i64 0, .int .i64 0, .int .i64 0, .int .i64 0] 32)
  have hsz : (w.alloc (.cells #[.int .i64 0, .int .i64 0, .int .i64 0, .int .i64 0, .int .i64 0, .int .i64 0, .int .i64 0, .int .i64 0, .int .i64 0, .int .i64 0, .int .i64 0, .int .i64 0, .int .i64 0, .int .i64 0, .int .i64 0, .int .i64 0, .int .i64 0, .int .i64 0, .int .i64 0, .int .i64 0, .int .i64 0, .int .i64 0, .int .i64 0, .int .i64 0, .int .i64 0, .int .i64 0, .int .i64 0, .int .i64 0, .int .i64 0, .int .i64 0, .int .i64 0, .int .i64 0] 32)).heap.size = w.heap.size + 1 := by simp
  have hsz2 : ((w.alloc (.cells #[.int .i64 0, .int .i64 0, .int .i64 0, .int .i64 0, .int .i64 0, .int .i64 0, .int .i64 0, .int .i64 0, .int .i64 0, .int .i64 0, .int .i64 0, .int .i64 0, .int .i64 0, .int .i64 0, .int .i64 0, .int .i64 0, .int .i64 0, .int .i64 0, .int .i64 0, .int .i64 0, .int .i64 0, .int .i64 0, .int .i64 0, .int .i64 0, .int .i64 0, .int .i64 0, .int .i64 0, .int .i64 0, .int .i64 0, .int .i64 0, .int .i64 0, .int .i64 0] 32)).alloc (.cells #[.int .i64 0, .int .i64 0, .int .i64 0, .int .i64 0, .int .i64 0, .int .i64 0, .int .i64 0, .int .i64 0, .int .i64 0, .int .i64 0, .int .i64 0, .int .i64 0, .int .i64 0, .int .i64 0, .int .i64 0, .int .i64 0, .int .i64 0, .int .i64 0, .int .i64 0, .int .i64 0, .int .i64 0, .int .i64 0, .int .i64 0, .int .i64 0, .int .i64 0, .int .i64 0, .int .i64 0, .int .i64 0, .int .i64 0, .int .i64 0, .int .i64 0, .int .i64 0] 32)).heap.size = w.heap.size + 2 := by simp
  rw [hsz, zV_zero] at hz1
  rw [zV_zero] at hz0
  have hD := h.more b2
  generalize hK : More K w ((w.alloc (.cells #[.int .i64 0, .int .i64 0, .int .i64 0, .int .i64 0, .int .i64 0, .int .i64 0, .int .i64 0, .int .i64 0, .int .i64 0, .int .i64 0, .int .i64 0, .int .i64 0, .int .i64 0, .int .i64 0, .int .i64 0, .int .i64 0, .int .i64 0, .int .i64 0, .int .i64 0, .int .i64 0, .int .i64 0, .int .i64 0, .int .i64 0, .int .i64 0, .int .i64 0, .int .i64 0, .int .i64 0, .int .i64 0, .int .i64 0, .int .i64 0, .int .i64 0, .int .i64 0] 32)).alloc (.cells #[.int .i64 0, .int .i64 0, .int .i64 0, .int .i64 0, .int .i64 0, .int .i64 0, .int .i64 0, .int .i64 0, .int .i64 0, .int .i64 0, .int .i64 0, .int .i64 0, .int .i64 0, .int .i64 0, .int .i64 0, .int .i64 0, .int .i64 0, .int .i64 0, .int .i64 0, .int .i64 0, .int .i64 0, .int .i64 0, .int .i64 0, .int .i64 0, .int .i64 0, .int .i64 0, .int .i64 0, .int .i64 0, .int .i64 0, .int .i64 0, .int .i64 0, .int .i64 0] 32)) = K1 at hD
  have k0 : K1 w.heap.size := by rw [← hK]; exact Or.inr ⟨Nat.le_refl _, by omega⟩
  have k1 : K1 (w.heap.size + 1) := by rw [← hK]; exact Or.inr ⟨by omega, by omega⟩
  have kk : ∀ i, K i → K1 i := fun i hi => by rw [← hK]; exact Or.inl hi
  have kn0 : ¬ K w.heap.size := fun hh => by have := h.in_ _ hh; omega
  have kn1 : ¬ K (w.heap.size + 1) := fun hh => by have := h.in_ _ hh; omega
  clear hK h b1 hsz hsz2
  have kb := Kept.below (K := K) b2
  go_enter Tryz.func30, Tryz.ntmps30
  go_wp2_with fail
  rw [zV_zero] at *
  go_loopw [4, 5] (fun _ i wr => ∃ j : Nat, j ≤ 32 ∧ i = .int .i64 j ∧ ZAt 32 wr (w.heap.size + 1) (startZ ts j) ∧ wr.heap[w.heap.size]? = some (.cells (zV fun _ => 0) 32 (0, 0)) ∧ DagAt K1 wr b (startT ts j).1 ∧ Kept K w wr) (fun _ i _ => 32 - (intOf i).toNat)
  case atStart => exact ⟨0, by omega, rfl, hz1, hz0, hD, kb⟩
  case round =>
    clear hz0 hz1 hD b2 kb
    obtain ⟨j, hj, rfl, hZ, h0, hD, hk⟩ := hrel
    by_cases hlt : j < 32
    · have hlt' : (j : Int) < 32 := by omega
      have hV := var_any K1 b j (startT ts j).1 hlt (by have := startT_len ts j; omega) wr hD
      change Calls Tryz.prog 49 #[.pointer (some ⟨b, 0, none⟩), .int .i64 j] wr fun r w' => r = .returned (.tuple #[.int .i64 (pos (startT ts j).1 (varTm' j) : Nat), .int .i64 0]) ∧ DagAt K1 w' b (startT ts (j + 1)).1 ∧ Kept K1 wr w' at hV
      have hzz : ∀ r, r < 32 → setZ (startZ ts j) j (pos (startT ts j).1 (varTm' j) : Nat) r = startZ ts (j + 1) r := fun r _ => by
        show (if r = j then _ else ((startT ts j).2 r : Int)) = ((if r = j then _ else (startT ts j).2 r : Nat) : Int)
        split <;> rfl
      generalize pos (startT ts j).1 (varTm' j) = p at hV hzz
      clear hlt hD
      go_wp2_with fail
      refine hV.mono ?_
      rintro r w1 ⟨rfl, hD1, hk1⟩
      have hZ1 := hZ.kept hk1 k1
      have h01 := hk1.blk k0 h0
      have hc := hZ1.cell (i := j) (by omega)
      have hf := hZ1.fro j
      clear hV
      go_wp2_with fail
      go_roundw
      case rel => exact ⟨j + 1, by omega, by go_num, (hZ1.set j p).ext hzz, ((kept_set w1 _ j _).blk (by omega) h01), hD1.moved (kept_set w1 _ j _) k1, (hk.trans (hk1.mono kk)).trans ((kept_set w1 _ j _).mono fun i hi e => kn1 (by rw [← e]; exact hi))⟩
      case measure => simp [intOf]; omega
    · have hlt' : ¬ (j : Int) < 32 := by omega
      obtain rfl : j = 32 := by omega
      obtain ⟨z, hz⟩ : ∃ z, startZ ts 32 = z := ⟨_, rfl⟩
      rw [hz] at hZ
      have HZ := Lib.hid hz
      clear hz
      go_wp2_with (first | (refine wpList_load_row rfl 32 (.tmp 3) rfl (w.heap.size + 1) rfl 32 (zV z) (0, 0) _ hZ Tryz.underlying32 rfl (by rw [zV_size]; exact info_arr) ?_) | (refine wpList_store_row rfl 32 (.tmp 2) (.tmp 17) rfl w.heap.size (zV z) rfl rfl 32 _ h0 (by rw [zV_size]; exact info_arr) (by rw [zV_size, zV_size]) (zV_one z) ?_) | fail)
      exact bodyPost_ret (v := .agg (zV z)) (results_cell_row rfl _ _ w.heap.size 32 (zV z) (0, 0) _ rfl (setRow_heap _ _ _ _ _ _ h0) Tryz.underlying32 rfl (by rw [zV_size]; exact info_arr)) rfl ⟨by rw [HZ.out], (hD.moved (kept_row wr _ _) k0).mono kk, hk.trans ((kept_row wr _ _).mono fun i hi e => kn0 (by rw [← e]; exact hi))⟩
end Go.Proofs.YtaiggfknighhgaaGreatDoor
