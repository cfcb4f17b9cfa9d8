/- The law TermVars, walked. -/
import Derived.Test.YtkleidcepnmioaaTFix
import Derived.Test.YtkleidcepnmioaaLLaid
import Derived.Test.YtkleidcepnmioaaTOut
import Derived.Laws.Tables
import Derived.Deep.WholeRow
set_option linter.unusedVariables false
set_option linter.unusedSimpArgs false
namespace Go.Proofs.Ytkleidcepnmioaa
open Go.RowKit Go.Maps Go.MapKept

/-- Registers of y, those of a mask of x, as far as r. -/
def mixR (x y : Nat → Nat) (m r : Nat) : Nat → Nat := fun q => if q < r ∧ m.testBit q = true then x q else y q
theorem regsV_ext {x y : Nat → Nat} (h : ∀ r, r < 32 → x r = y r) : regsV x = regsV y := by
  unfold regsV
  congr 1
  exact List.map_congr_left fun r hr => by rw [h r (List.mem_range.1 hr)]
theorem mixR_zero (x y : Nat → Nat) (m : Nat) : mixR x y m 0 = y := by
  funext q
  unfold mixR
  rw [if_neg (by omega)]
theorem mixR_no {x y : Nat → Nat} {m r : Nat} (h : m.testBit r = false) : mixR x y m (r + 1) = mixR x y m r := by
  funext q
  unfold mixR
  by_cases e : q = r
  · subst e
    rw [if_neg (by rw [h]; simp), if_neg (by omega)]
  · by_cases h2 : q < r ∧ m.testBit q = true
    · rw [if_pos ⟨by omega, h2.2⟩, if_pos h2]
    · rw [if_neg (by rintro ⟨h3, h4⟩; exact h2 ⟨by omega, h4⟩), if_neg h2]
theorem mixR_yes {x y : Nat → Nat} {m r : Nat} (hr : r < 32) (h : m.testBit r = true) : (regsV (mixR x y m r)).setIfInBounds r (.int .u32 (x r : Int)) = regsV (mixR x y m (r + 1)) := by
  apply Array.ext_getElem?
  intro q
  by_cases hq : q < 32
  · rw [regsV_get _ hq]
    by_cases e : q = r
    · subst e
      rw [Array.getElem?_setIfInBounds, if_pos rfl, if_pos (by rw [regsV_size]; exact hq)]
      unfold mixR
      rw [if_pos ⟨by omega, h⟩]
    · rw [Array.getElem?_setIfInBounds, if_neg (fun h => e h.symm), regsV_get _ hq]
      unfold mixR
      by_cases h2 : q < r ∧ m.testBit q = true
      · rw [if_pos h2, if_pos ⟨by omega, h2.2⟩]
      · rw [if_neg h2, if_neg (by rintro ⟨h3, h4⟩; exact h2 ⟨by omega, h4⟩)]
  · rw [Array.getElem?_eq_none (by simp [regsV_size]; omega), Array.getElem?_eq_none (by simp [regsV_size]; omega)]
theorem low_bit {m r : Nat} (hm : m < 4294967296) : bits BinOp.and IntKind.u32 ((m : Int) / 2 ^ r) 1 = (if m.testBit r = true then 1 else 0) := by
  have h1 : (m : Int) / 2 ^ r = ((m / 2 ^ r : Nat) : Int) := by simp
  have h2 := u32_and (m / 2 ^ r) 1 (div_lt32 hm _) (by omega)
  rw [h1]
  refine h2.trans ?_
  rw [Nat.and_one_is_mod, Nat.testBit_eq_decide_div_mod_eq]
  have : m / 2 ^ r % 2 = 0 ∨ m / 2 ^ r % 2 = 1 := by omega
  rcases this with h | h <;> rw [h] <;> rfl
theorem regsV_one (x : Nat → Nat) : (regsV x).all (·.oneCell') = true := by
  rw [Array.all_eq_true_iff_forall_mem]
  intro v hv
  unfold regsV at hv
  rw [List.mem_toArray] at hv
  obtain ⟨r, _, rfl⟩ := List.mem_map.1 hv
  rfl
set_option maxRecDepth 100000 in
set_option maxHeartbeats 4000000 in
theorem tlaw5_any (B : Nat) (e : TypeId) (v : Value) (xs : List SOp) (hf : ∀ x ∈ xs, x.Fits) (x y : Nat → Nat) (hx : ∀ r, x r < 4294967296) (hy : ∀ r, y r < 4294967296) (w : World) (hs : SlN B e 5 SOp.five w v xs) :
    Calls Try.prog 7 #[v, .agg (regsV x), .agg (regsV y)] w fun e w' => e = .returned (.bool true) ∧ Below w.heap.size w w' := by
  have b1 := below_alloc1 ((Below.refl w.heap.size w).alloc (Nat.le_refl _) (.cells (regsV x) 23)) (.cells (regsV y) 23)
  have hs1 := hs.below b1
  have hL := laid_any B e v xs hf _ hs1
  have hs0 : (w.alloc (.cells (regsV x) 23)).heap.size = w.heap.size + 1 := by simp
  have hsw : ((w.alloc (.cells (regsV x) 23)).alloc (.cells (regsV y) 23)).heap.size = w.heap.size + 2 := by simp
  have hbx := blk_alloc (blk_new w (.cells (regsV x) 23)) (.cells (regsV y) 23)
  have hby := blk_new (w.alloc (.cells (regsV x) 23)) (.cells (regsV y) 23)
  rw [hs0] at hby
  obtain ⟨A, cp, rfl, q1, q2, q3⟩ := hs.open_
  obtain ⟨K0, hK⟩ : ∃ K : Nat → Prop, (fun i => i < ((w.alloc (.cells (regsV x) 23)).alloc (.cells (regsV y) 23)).heap.size) = K := ⟨_, rfl⟩
  have hz : K0 w.heap.size := by rw [← hK]; show _ < _; omega
  have hz1 : K0 (w.heap.size + 1) := by rw [← hK]; show _ < _; omega
  have hend : ∀ w', Kept K0 ((w.alloc (.cells (regsV x) 23)).alloc (.cells (regsV y) 23)) w' → Below w.heap.size w w' := fun w' h => by
    rw [← hK] at h
    exact b1.trans ((below_kept h).mono b1.size)
  rw [hK] at hL
  have hRx : ∃ R, regsV x = R := ⟨_, rfl⟩
  obtain ⟨Rx, eRx⟩ := hRx
  obtain ⟨Ry, eRy⟩ : ∃ R, regsV y = R := ⟨_, rfl⟩
  rw [eRx, eRy] at hL hbx hby hend ⊢
  have HRx := Lib.hid eRx
  have HRy := Lib.hid eRy
  have hszx : Rx.size = 32 := by rw [← eRx]; exact regsV_size x
  have hszy : Ry.size = 32 := by rw [← eRy]; exact regsV_size y
  have hony : Ry.all (·.oneCell') = true := by rw [← eRy]; exact regsV_one y
  clear hK hs hf hs1 b1 hsw hs0 eRx eRy
  go_enter Try.func7, Try.ntmps7
  go_wp2_with fail
  refine hL.mono ?_
  rintro r w0 ⟨d, k, ts, rfl, ⟨K, vl, hX⟩, hG, hlen, hk1⟩
  have hD := hX.dag
  have hbx0 := hk1.blk hz hbx
  have hby0 := hk1.blk hz1 hby
  have hend2 : ∀ w', Below w0.heap.size w0 w' → Below w.heap.size w w' := fun w' b => hend _ (hk1.then_below b)
  clear hX hL hend hk1 hbx hby
  have HE := Lib.hid hend2
  clear hend2
  go_wp2_with fail
  go_loopw [10] (fun i wr => ∃ j : Nat, j ≤ ts.length ∧ i = .int .i64 j ∧ Below w0.heap.size w0 wr) (fun i _ => ts.length - (Go.RowKit.intOf i).toNat)
  case atStart => exact ⟨0, Nat.zero_le _, rfl, Below.refl _ _⟩
  case round =>
    obtain ⟨j, hj, rfl, hb⟩ := hrel
    have hd1 := hD.below hb
    have hLn := len_any K d ts wr hd1
    by_cases hlt : j < ts.length
    · have hlt' : (j : Int) < ts.length := by omega
      have hV := vars_any K d j ts (by omega) hlt hG wr hd1
      have hvl := vr_lt hG j hlt
      have hreg := ev_regs hG (x := x) (y := mixR x y (vr ts j) 32) j hlt (fun r hr ht => by unfold mixR; rw [if_pos ⟨hr, ht⟩])
      generalize vr ts j = m at hV hvl hreg
      go_wp2_with fail
      refine hLn.mono ?_
      rintro r w1 ⟨rfl, rfl⟩
      go_wp2_with fail
      refine hV.mono ?_
      rintro r w2 ⟨rfl, b2⟩
      have bw2 := below_then hb b2
      have hx2 := blk_below hbx0 bw2
      have hy2 := blk_below hby0 bw2
      clear hV hLn hd1 b2
      go_wp2_with (first
        | (refine wpList_load_row rfl 23 (.tmp 5) rfl (w.heap.size + 1) rfl 23 Ry (0, 0) _ hy2 Try.underlying23 rfl (by rw [hszy]; kernel_rfl) ?_)
        | (refine wpList_store_row rfl 23 (.tmp 13) (.tmp 39) rfl w2.heap.size Ry rfl rfl 23 _ (blk_new w2 _) (by rw [hszy]; kernel_rfl) (by rw [hszy]; rfl) hony ?_)
        | fail)
      rw [World.setRow_alloc_new]
      have hz0 := blk_new w2 (.cells Ry 23)
      have bz0 := bw2.alloc bw2.size (.cells Ry 23)
      have hsz2 := bw2.size
      obtain ⟨W1, hW1⟩ : ∃ W1, w2.alloc (.cells Ry 23) = W1 := ⟨_, rfl⟩
      rw [hW1] at hz0 bz0 ⊢
      rw [show Ry = regsV (mixR x y m 0) by rw [mixR_zero]; exact HRy.out.symm] at hz0
      generalize w2.heap.size = gz at hz0 hsz2 ⊢
      clear hx2 hy2 bw2 hW1 hb
      go_loopw [14] (fun q wq => ∃ r : Nat, r ≤ 32 ∧ q = .int .i64 r ∧ wq.heap[gz]? = some (.cells (regsV (mixR x y m r)) 23 (0, 0)) ∧ Below w0.heap.size w0 wq) (fun q _ => 32 - (Go.RowKit.intOf q).toNat)
      case atStart => exact ⟨0, Nat.zero_le _, rfl, hz0, bz0⟩
      case round =>
        clear hz0 bz0
        rename_i wq _
        obtain ⟨r, hr, rfl, hz, hbq⟩ := hrel
        by_cases hr32 : r < 32
        · have hr32' : (r : Int) < 32 := by omega
          have hcx := regs_cell (x := x) (by rw [HRx.out]; exact blk_below hbx0 hbq) hr32
          have hlb := low_bit (r := r) hvl
          cases hbit : m.testBit r with
          | true =>
            rw [hbit, if_pos rfl] at hlb
            have hcz := regs_cell hz hr32
            have hfz := frozen_of hz r
            have hzs := blk_set hz r (.int .u32 (x r : Nat))
            rw [mixR_yes hr32 hbit] at hzs
            have bzs := hbq.setCell (p := ⟨gz, r, none⟩) hsz2 (.int .u32 (x r : Nat))
            clear hz hbq hreg
            go_wp2_with fail
            go_roundw
            case rel => exact ⟨r + 1, by omega, by go_num, hzs, bzs⟩
            case measure => simp [Go.RowKit.intOf]; omega
          | false =>
            rw [hbit, if_neg (by decide)] at hlb
            rw [← mixR_no hbit] at hz
            go_wp2_with fail
            go_roundw
            case rel => exact ⟨r + 1, by omega, by go_num, hz, hbq⟩
            case measure => simp [Go.RowKit.intOf]; omega
        · have hr32' : ¬ (r : Int) < 32 := by omega
          obtain rfl : r = 32 := by omega
          have hd3 := hD.below hbq
          have hbxq := blk_below hbx0 hbq
          have E1 := fun w h => eval_any K d j ts x hx (by omega) hlt hG w h
          have E2 := fun w h => eval_any K d j ts (mixR x y m 32) (fun r => by unfold mixR; split; exact hx r; exact hy r) (by omega) hlt hG w h
          rw [← hreg] at E2
          rw [HRx.out] at E1
          have hszz := regsV_size (mixR x y m 32)
          generalize regsV (mixR x y m 32) = Rz at hz E2 hszz
          generalize ev ts x j = u at E1 E2
          clear hreg hvl
          go_wp2_with (first
            | (refine wpList_load_row rfl 23 (.tmp 4) rfl w.heap.size rfl 23 Rx (0, 0) _ hbxq Try.underlying23 rfl (by rw [hszx]; kernel_rfl) ?_)
            | fail)
          refine (E1 _ hd3).mono ?_
          rintro r w5 ⟨rfl, b5⟩
          have hd5 := hd3.below b5
          have hz5 := blk_below hz b5
          have bw5 := below_then hbq b5
          clear E1 hd3 hz hbq b5 hbxq
          go_wp2_with (first
            | (refine wpList_load_row rfl 23 (.tmp 13) rfl gz rfl 23 Rz (0, 0) _ hz5 Try.underlying23 rfl (by rw [hszz]; kernel_rfl) ?_)
            | fail)
          refine (E2 _ hd5).mono ?_
          rintro r w6 ⟨rfl, b6⟩
          have bw6 := below_then bw5 b6
          clear E2 hd5 hz5 b6 bw5
          go_wp2_with fail
          go_roundw
          case rel => exact ⟨j + 1, by omega, by go_num, bw6⟩
          case measure => simp [Go.RowKit.intOf]; omega
    · have hlt' : ¬ (j : Int) < ts.length := by omega
      go_wp2_with fail
      refine hLn.mono ?_
      rintro r w8 ⟨rfl, rfl⟩
      go_wp2_with fail
      refine (tfixed_any _).mono ?_
      rintro r w9 ⟨rfl, b9⟩
      go_wp2_with fail
      go_ret
      exact ⟨rfl, HE.out _ (below_then hb b9)⟩
end Go.Proofs.Ytkleidcepnmioaa
