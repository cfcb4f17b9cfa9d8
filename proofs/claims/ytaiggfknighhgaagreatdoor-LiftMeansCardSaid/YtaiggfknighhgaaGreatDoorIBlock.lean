/- lift.Block. -/
import Derived.Test.YtaiggfknighhgaaGreatDoorIFrom
import Derived.Test.YtaiggfknighhgaaGreatDoorILen
set_option linter.unusedVariables false
set_option linter.unusedSimpArgs false
namespace Go.Proofs.YtaiggfknighhgaaGreatDoor
open Go.RowKit Go.Maps Go.MapKept

def blockT (ts : List Term) (xs : List Ins) (pc : Nat) : List Term × (Nat → Nat) := fromT (startT ts 32).1 (startT ts 32).2 xs pc
def blockO (ts : List Term) (xs : List Ins) (pc : Nat) : List Term × (Nat → Int) × Int :=
  if oddL xs = true then (ts, fun _ => 0, 120) else ((blockT ts xs pc).1, fun r => (((blockT ts xs pc).2 r : Nat) : Int), 0)
theorem toN_startZ (ts : List Term) : toN (startZ ts 32) = (startT ts 32).2 := by
  funext r
  simp [toN, startZ]
theorem okX_start (ts : List Term) : okX (startT ts 32).1 (startZ ts 32) = true := okX_all fun r hr => inR_cast (startT_in ts r hr)
set_option maxRecDepth 100000 in
theorem block_any (K : Nat → Prop) (b : Nat) (ts : List Term) (B : Nat) (e : TypeId) (v : Value) (xs : List Ins) (pc : Nat) (hpc : pc < 4294967296) (hl : ts.length ≤ 90000) (hxs : xs.length ≤ 100) (hG : Good ts) (hg : K 0) (w : World) (hT : Tab w) (h : DagAt K w b ts) (hvK : ∀ w', Kept K w w' → SlN B e 5 Ins.five w' v xs) :
    Calls Tryz.prog 9 #[.pointer (some ⟨b, 0, none⟩), v, .int .u32 pc] w (FromPost K b w (blockO ts xs pc)) := by
  have b1 := (Below.refl w.heap.size w).alloc (Nat.le_refl _) (.cells #[.int .i64 0, .int .i64 0, .int .i64 0, .int .i64 0, .int .i64 0, .int .i64 0, .int .i64 0, .int .i64 0, .int .i64 0, .int .i64 0, .int .i64 0, .int .i64 0, .int .i64 0, .int .i64 0, .int .i64 0, .int .i64 0, .int .i64 0, .int .i64 0, .int .i64 0, .int .i64 0, .int .i64 0, .int .i64 0, .int .i64 0, .int .i64 0, .int .i64 0, .int .i64 0, .int .i64 0, .int .i64 0, .int .i64 0, .int .i64 0, .int .i64 0, .int .i64 0] 32)
  have hz0 := blk_new w (.cells #[.int .i64 0, .int .i64 0, .int .i64 0, .int .i64 0, .int .i64 0, .int .i64 0, .int .i64 0, .int .i64 0, .int .i64 0, .int .i64 0, .int .i64 0, .int .i64 0, .int .i64 0, .int .i64 0, .int .i64 0, .int .i64 0, .int .i64 0, .int .i64 0, .int .i64 0, .int .i64 0, .int .i64 0, .int .i64 0, .int .i64 0, .int .i64 0, .int .i64 0, .int .i64 0, .int .i64 0, .int .i64 0, .int .i64 0, .int .i64 0, .int .i64 0, .int .i64 0] 32)
  rw [zV_zero] at hz0
  have hsz : (w.alloc (.cells #[.int .i64 0, .int .i64 0, .int .i64 0, .int .i64 0, .int .i64 0, .int .i64 0, .int .i64 0, .int .i64 0, .int .i64 0, .int .i64 0, .int .i64 0, .int .i64 0, .int .i64 0, .int .i64 0, .int .i64 0, .int .i64 0, .int .i64 0, .int .i64 0, .int .i64 0, .int .i64 0, .int .i64 0, .int .i64 0, .int .i64 0, .int .i64 0, .int .i64 0, .int .i64 0, .int .i64 0, .int .i64 0, .int .i64 0, .int .i64 0, .int .i64 0, .int .i64 0] 32)).heap.size = w.heap.size + 1 := by simp
  have hD := h.more b1
  generalize hK : More K w (w.alloc (.cells #[.int .i64 0, .int .i64 0, .int .i64 0, .int .i64 0, .int .i64 0, .int .i64 0, .int .i64 0, .int .i64 0, .int .i64 0, .int .i64 0, .int .i64 0, .int .i64 0, .int .i64 0, .int .i64 0, .int .i64 0, .int .i64 0, .int .i64 0, .int .i64 0, .int .i64 0, .int .i64 0, .int .i64 0, .int .i64 0, .int .i64 0, .int .i64 0, .int .i64 0, .int .i64 0, .int .i64 0, .int .i64 0, .int .i64 0, .int .i64 0, .int .i64 0, .int .i64 0] 32)) = K1 at hD
  have k0 : K1 w.heap.size := by rw [← hK]; exact Or.inr ⟨Nat.le_refl _, by omega⟩
  have kk : ∀ i, K i → K1 i := fun i hi => by rw [← hK]; exact Or.inl hi
  have kn0 : ¬ K w.heap.size := fun hh => by have := h.in_ _ hh; omega
  have kb := Kept.below (K := K) b1
  have hT1 := hT.below b1
  have hg1 := kk _ hg
  have hA := anyOdd_any B e v xs _ (hvK _ kb)
  have hR : FromPost K b w (blockO ts xs pc) = FromPost K b w (blockO ts xs pc) := rfl
  generalize hRR : blockO ts xs pc = R at hR
  have HR := Lib.hid hRR
  clear hK h hsz hRR hR hT
  cases hod : oddL xs with
  | true =>
    have hRe : R = (ts, fun _ => 0, 120) := by rw [← HR.out]; unfold blockO; rw [if_pos hod]
    rw [hod] at hA
    have HRE := Lib.hid hRe
    clear hRe hod
    go_enter Tryz.func9, Tryz.ntmps9
    go_wp2_with fail
    refine hA.mono ?_
    rintro r w1 ⟨rfl, b2⟩
    have h02 := blk_below hz0 b2
    have hD2 := hD.below b2
    have k2 := kb.trans (Kept.below b2)
    clear hz0
    go_wp2_with (first | (refine wpList_store_row rfl 32 (.tmp 6) (.tmp 10) rfl w.heap.size (zV fun _ => 0) rfl (by rw [← zV_zero]; rfl) 32 _ h02 (by rw [zV_size]; exact info_arr) rfl (zV_one _) ?_) | fail)
    exact bodyPost_ret (results_arr2 rfl _ _ w.heap.size 32 (zV fun _ => 0) (0, 0) _ _ rfl rfl (setRow_heap _ _ _ _ _ _ h02) Tryz.underlying32 rfl (by rw [zV_size]; exact info_arr)) rfl (by rw [HRE.out]; exact ⟨rfl, (hD2.moved (kept_row _ _ _) k0).mono kk, k2.trans ((kept_row _ _ _).mono fun i hi e => kn0 (by rw [← e]; exact hi))⟩)
  | false =>
    have hRe : R = ((blockT ts xs pc).1, fun r => (((blockT ts xs pc).2 r : Nat) : Int), 0) := by rw [← HR.out]; unfold blockO; rw [if_neg (by rw [hod]; decide)]
    have hpl := oddL_false hod
    have hS := fun w h => start_any K1 b ts (by omega) w h
    have gS := startT_good hG 32 (Nat.le_refl _)
    have lS := startT_len ts 32
    have hF := fun w hs hT h hv => from_any K1 b (startT ts 32).1 (startZ ts 32) B e v xs pc hpc (by omega) hxs gS hg1 w hs hT h hv
    rw [fromO_ok (okX_start ts) hod, toN_startZ] at hF
    rw [hod] at hA
    change ∀ w, SlN B e 5 Ins.five w v xs → Tab w → DagAt K1 w b (startT ts 32).1 → (∀ w', Kept K1 w w' → SlN B e 5 Ins.five w' v xs) → Calls Tryz.prog 13 #[.pointer (some ⟨b, 0, none⟩), .agg (zV (startZ ts 32)), v, .int .u32 pc] w fun r w' => r = .returned (.tuple #[.agg (zV fun r => (((blockT ts xs pc).2 r : Nat) : Int)), .int .i64 0]) ∧ DagAt K1 w' b (blockT ts xs pc).1 ∧ Kept K1 w w' at hF
    have HRE := Lib.hid hRe
    clear hRe hod HR hpl gS lS
    generalize (startT ts 32).1 = ts1 at hS hF
    generalize startZ ts 32 = z1 at hS hF
    generalize blockT ts xs pc = F at hF HRE
    go_enter Tryz.func9, Tryz.ntmps9
    go_wp2_with fail
    refine hA.mono ?_
    rintro r w1 ⟨rfl, b2⟩
    have h02 := blk_below hz0 b2
    have hD2 := hD.below b2
    have hT2 := hT1.below b2
    have k2 := kb.trans (Kept.below b2)
    clear hz0 hA hD hT1 kb b1
    go_wp2_with fail
    refine (hS _ hD2).mono ?_
    rintro r w3 ⟨rfl, hD3, k3⟩
    have h03 := k3.blk k0 h02
    have hT3 := hT2.kept k3 hg1
    have k4 := k2.trans (k3.mono kk)
    clear hS h02 hD2 hT2 k2 k3 b2
    go_wp2_with fail
    refine (hF _ (hvK _ k4) hT3 hD3 (fun w' hk => hvK _ (k4.trans (hk.mono kk)))).mono ?_
    rintro r w5 ⟨rfl, hD5, k5⟩
    have h05 := k5.blk k0 h03
    have k6 := k4.trans (k5.mono kk)
    clear hF h03 hD3 hT3 k4 k5
    go_wp2_with (first | (refine wpList_store_row rfl 32 (.tmp 6) (.tmp 17) rfl w.heap.size (zV fun r => ((F.2 r : Nat) : Int)) rfl rfl 32 _ h05 (by rw [zV_size]; exact info_arr) rfl (zV_one _) ?_) | fail)
    exact bodyPost_ret (results_arr2 rfl _ _ w.heap.size 32 (zV fun r => ((F.2 r : Nat) : Int)) (0, 0) _ _ rfl rfl (setRow_heap _ _ _ _ _ _ h05) Tryz.underlying32 rfl (by rw [zV_size]; exact info_arr)) rfl (by rw [HRE.out]; exact ⟨rfl, (hD5.moved (kept_row _ _ _) k0).mono kk, k6.trans ((kept_row _ _ _).mono fun i hi e => kn0 (by rw [← e]; exact hi))⟩)
end Go.Proofs.YtaiggfknighhgaaGreatDoor
