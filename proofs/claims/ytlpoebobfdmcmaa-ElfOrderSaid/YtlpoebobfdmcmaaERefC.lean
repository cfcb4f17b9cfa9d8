/- The reference's Check. -/
import Derived.Test.YtlpoebobfdmcmaaECheck
import Derived.Test.YtlpoebobfdmcmaaENum
import Derived.Deep.RegionHeld3
set_option linter.unusedVariables false
set_option linter.unusedSimpArgs false
namespace Go.Proofs.Ytlpoebobfdmcmaa
open Go.RowKit

theorem pairs_iff (xs seen : List Seg) : pairs seen xs = true ↔ (∀ s ∈ seen, ∀ t ∈ xs, apart t s = true) ∧ xs.Pairwise (fun s t => apart t s = true) := by
  induction xs generalizing seen with
  | nil => simp [pairs]
  | cons x r ih =>
    rw [pairs, Bool.and_eq_true, ih, List.all_eq_true, List.pairwise_cons]
    constructor
    · rintro ⟨h1, h2, h3⟩
      refine ⟨fun s hs t ht => ?_, fun t ht => h2 x (by simp) t ht, h3⟩
      rcases List.mem_cons.1 ht with rfl | ht
      · exact h1 s hs
      · exact h2 s (by simp [hs]) t ht
    · rintro ⟨h1, h2, h3⟩
      refine ⟨fun s hs => h1 s hs x (by simp), fun s hs t ht => ?_, h3⟩
      rcases List.mem_append.1 hs with hs | hs
      · exact h1 s hs t (by simp [ht])
      · rw [List.mem_singleton.1 hs]; exact h2 t ht
/-- Segment i has segment k's first address. -/
def meets (xs : List Seg) (i k : Nat) : Bool := match xs[i]?, xs[k]? with
  | some g, some t => decide (i ≠ k) && (decide (g.addr ≤ t.addr) && decide ((t.addr : Int) < g.addr + g.size))
  | _, _ => false
theorem chk_meets {xs : List Seg} (hn : xs.length ≤ 16) (hall : xs.all okSeg = true) {i k : Nat} (h : meets xs i k = true) : chk xs = 63 := by
  unfold chk
  rw [if_neg (by omega), if_pos hall, if_neg]
  intro hp
  have hp := ((pairs_iff xs []).1 hp).2
  rw [List.pairwise_iff_getElem] at hp
  unfold meets at h
  split at h
  · rename_i g t hg ht
    obtain ⟨hi, rfl⟩ := List.getElem?_eq_some_iff.1 hg
    obtain ⟨hk, rfl⟩ := List.getElem?_eq_some_iff.1 ht
    simp only [Bool.and_eq_true, decide_eq_true_eq] at h
    obtain ⟨h1, h2, h3⟩ := h
    have o1 := ok_at hall hg
    have o2 := ok_at hall ht
    rcases Nat.lt_or_gt_of_ne h1 with hlt | hlt
    · have := hp i k hi hk hlt
      simp only [apart, Bool.or_eq_true, decide_eq_true_eq] at this
      omega
    · have := hp k i hk hi hlt
      simp only [apart, Bool.or_eq_true, decide_eq_true_eq] at this
      omega
  · cases h
theorem chk_none {xs : List Seg} (hn : xs.length ≤ 16) (hall : xs.all okSeg = true) (h : ∀ i k, i < xs.length → k < xs.length → meets xs i k = false) : chk xs = 0 := by
  unfold chk
  rw [if_neg (by omega), if_pos hall, if_pos]
  refine (pairs_iff xs []).2 ⟨by simp, ?_⟩
  rw [List.pairwise_iff_getElem]
  intro i k hi hk hlt
  have h1 := h i k hi hk
  have h2 := h k i hk hi
  unfold meets at h1 h2
  rw [List.getElem?_eq_getElem hi, List.getElem?_eq_getElem hk] at h1 h2
  simp only [Bool.and_eq_false_iff, decide_eq_false_iff_not] at h1 h2
  simp only [apart, Bool.or_eq_true, decide_eq_true_eq]
  omega
theorem ok_one {g : Seg} (h : okSeg g = true) : 1 ≤ g.size ∧ g.size ≤ 16777216 ∧ (g.data.size : Int) ≤ g.size ∧ 0 ≤ g.flags ∧ g.flags ≤ 7 ∧ (g.addr : Int) + g.size ≤ 4294967296 := by
  simp only [okSeg, ok1, ok2, Bool.and_eq_true, decide_eq_true_eq] at h
  omega
theorem ok_mk {g : Seg} (h1 : 1 ≤ g.size) (h2 : g.size ≤ 16777216) (h3 : (g.data.size : Int) ≤ g.size) (h4 : 0 ≤ g.flags) (h5 : g.flags ≤ 7) (h6 : (g.addr : Int) + g.size ≤ 4294967296) : okSeg g = true := by
  simp only [okSeg, ok1, ok2, Bool.and_eq_true, decide_eq_true_eq]
  omega
set_option maxRecDepth 100000 in
set_option maxHeartbeats 800000 in
theorem refcheck_any (B : Nat) (en fl : Int) (v : Value) (xs : List Seg) (w : World) (h : Segs B w v xs) (hlen : xs.length ≤ 100000) :
    Calls Try.prog 15 #[.agg #[.int .u32 en, .int .u32 fl, v]] w fun r w' => r = .returned (.int .i64 (chk xs)) ∧ Below w.heap.size w w' := by
  replace h := h.re (Nat.le_refl w.heap.size)
  obtain ⟨A, c, rfl, hc1, hc2, hc3⟩ := h.open_
  have hbx := blk_new w (.cells #[.int .u32 en, .int .u32 fl, .slice A xs.length c] 25)
  have hb := (Below.refl w.heap.size w).alloc (Nat.le_refl _) (.cells #[.int .u32 en, .int .u32 fl, .slice A xs.length c] 25)
  by_cases hn : xs.length ≤ 16
  · go_enter Try.func15, Try.ntmps15
    go_wp2_with fail
    go_loopw [3] (fun i wr => ∃ k : Nat, k ≤ xs.length ∧ i = .int .i64 k ∧ Hid (xs.all okSeg = (xs.drop k).all okSeg) ∧ wr.heap[w.heap.size]? = some (.cells #[.int .u32 en, .int .u32 fl, .slice A xs.length c] 25 (0, 0)) ∧ Below w.heap.size w wr) (fun i _ => xs.length - (intOf i).toNat)
    case atStart => exact ⟨0, Nat.zero_le _, rfl, Lib.hid (by simp), hbx, hb⟩
    case round =>
      clear hbx hb
      obtain ⟨k, hk, rfl, HA, hbx, hb⟩ := hrel
      have hx := h.below hb
      have hx2 := cell_of hbx 2
      simp only [List.getElem?_toArray, List.getElem?_cons_zero, List.getElem?_cons_succ] at hx2
      by_cases hlt : k < xs.length
      · obtain ⟨bb, off, g, rfl, hg, hfit, hat, hbb⟩ := hx.at_ hlt
        have HD := Lib.hid (drop_get hg)
        obtain ⟨ha0, ha1, ha2, ha3⟩ := hat
        obtain ⟨f1, f2, f3, f4, f5, f6⟩ := hfit
        have hbx2 := blk_alloc hbx (.cells #[.int .u32 g.addr, .string g.data, .int .i64 g.size, .int .i64 g.flags] 36)
        have hb2 := hb.alloc hb.size (.cells #[.int .u32 g.addr, .string g.data, .int .i64 g.size, .int .i64 g.flags] 36)
        have hbad : okSeg g = false → Hid (chk xs = 62) := fun e => Lib.hid (by unfold chk; rw [if_neg (by omega), if_neg (by rw [HA.out, HD.out]; simp [e])])
        have hgood : okSeg g = true → Hid (xs.all okSeg = (xs.drop (k + 1)).all okSeg) := fun e => Lib.hid (by rw [HA.out, HD.out]; simp [e])
        go_wp2_with fail
        all_goals first
          | (go_ret
             exact ⟨by rw [(hbad (by rw [Bool.eq_false_iff]; intro hq; have hq2 := ok_one hq; first | omega | (unfold wrap64 at *; omega))).out]; rfl, hb2⟩)
          | (go_roundw
             case rel => exact ⟨k + 1, by omega, vsucc _, hgood (ok_mk (by omega) (by omega) (by omega) (by omega) (by omega) (by first | omega | (unfold wrap64 at *; omega) | (trace_state; fail))), hbx2, hb2⟩
             case measure => simp [intOf] <;> omega)
      · have hall := Lib.hid (show xs.all okSeg = true by rw [HA.out, List.drop_eq_nil_of_le (by omega)]; rfl)
        clear HA hk
        go_wp2_with fail
        go_loopw [5] (fun i wr => ∃ k : Nat, k ≤ xs.length ∧ i = .int .i64 k ∧ Hid (∀ i j, i < k → j < xs.length → meets xs i j = false) ∧ wr.heap[w.heap.size]? = some (.cells #[.int .u32 en, .int .u32 fl, .slice A xs.length c] 25 (0, 0)) ∧ Below w.heap.size w wr) (fun i _ => xs.length - (intOf i).toNat)
        case atStart => exact ⟨0, Nat.zero_le _, rfl, Lib.hid (by intro i j h; omega), hbx, hb⟩
        case round =>
          clear hbx hb hx hx2 hlt
          obtain ⟨k, hk, rfl, HA, hbx, hb⟩ := hrel
          have hx2 := cell_of hbx 2
          simp only [List.getElem?_toArray, List.getElem?_cons_zero, List.getElem?_cons_succ] at hx2
          by_cases hlt : k < xs.length
          · obtain ⟨wo, rfl⟩ : ∃ wo : World, wo = wr := ⟨_, rfl⟩
            go_wp2_with fail
            go_loopw [6] (fun i wr => ∃ j : Nat, j ≤ xs.length ∧ i = .int .i64 j ∧ Hid (∀ i, i < j → meets xs k i = false) ∧ wr.heap[w.heap.size]? = some (.cells #[.int .u32 en, .int .u32 fl, .slice A xs.length c] 25 (0, 0)) ∧ Below w.heap.size w wr) (fun i _ => xs.length - (intOf i).toNat)
            case atStart => exact ⟨0, Nat.zero_le _, rfl, Lib.hid (by intro i h; omega), hbx, hb⟩
            case round =>
              clear hbx hb hx2
              obtain ⟨j, hj, rfl, HI, hbx, hb⟩ := hrel
              have hx := h.below hb
              have hx2 := cell_of hbx 2
              simp only [List.getElem?_toArray, List.getElem?_cons_zero, List.getElem?_cons_succ] at hx2
              by_cases hltj : j < xs.length
              · obtain ⟨bb, off, g, rfl, hg, hfit, hat, hbb⟩ := hx.at_ hlt
                obtain ⟨b5, o5, t, e5, ht, htf, hta, _⟩ := hx.at_ hltj
                simp only [Option.some.injEq, Addr.mk.injEq, and_true] at e5
                obtain ⟨rfl, rfl⟩ := e5
                obtain ⟨ha0, ha1, ha2, ha3⟩ := hat
                obtain ⟨t0, t1, t2, t3⟩ := hta
                have hM := Lib.hid (show meets xs k j = (decide (k ≠ j) && (decide (g.addr ≤ t.addr) && decide ((t.addr : Int) < g.addr + g.size))) by unfold meets; rw [hg, ht])
                have f1 := hfit.addr
                have f2 := htf.addr
                have hok := ok_at hall.out hg
                have hW : wrap64 ((g.addr : Int) + g.size) = (g.addr : Int) + g.size := by unfold wrap64; omega
                cases hkj : ((k : Int) != (j : Int))
                · have hm := Lib.hid (show meets xs k j = false by
                    have hkj2 : k = j := by simp at hkj; omega
                    rw [hM.out]
                    simp [hkj2])
                  have HI2 := Lib.hid (show ∀ i, i < j + 1 → meets xs k i = false by
                    intro i hi
                    rcases Nat.lt_or_ge i j with h1 | h1
                    · exact HI.out i h1
                    · have : i = j := by omega
                      subst this
                      exact hm.out)
                  go_wp2_with fail
                  go_region_held3 (fun w' => w'.cell? ⟨w.heap.size, 2, none⟩ = some (.slice (some ⟨bb, off, none⟩) xs.length c) ∧ w'.cell? ⟨bb, off + k * 4, none⟩ = some (.int .u32 g.addr) ∧ w'.cell? ⟨bb, off + j * 4, none⟩ = some (.int .u32 t.addr))
                    (first | go_keep) (fail)
                  go_wp2_with fail
                  go_roundw
                  case rel => exact ⟨j + 1, by omega, vsucc _, HI2, hbx, hb.drew⟩
                  case measure => simp [intOf] <;> omega
                · have hkj2 : k ≠ j := by rintro rfl; simp at hkj
                  go_wp2_with fail
                  go_region_held3 (fun w' => w'.cell? ⟨w.heap.size, 2, none⟩ = some (.slice (some ⟨bb, off, none⟩) xs.length c) ∧ w'.cell? ⟨bb, off + k * 4, none⟩ = some (.int .u32 g.addr) ∧ w'.cell? ⟨bb, off + j * 4, none⟩ = some (.int .u32 t.addr))
                    (first | go_keep) (fail)
                  go_wp2_with fail
                  all_goals first
                    | (have hm : meets xs k j = true := by
                         rw [hM.out]
                         simp only [Bool.and_eq_true, decide_eq_true_eq]
                         try simp only [bne_iff_ne, bne_eq_false_iff_eq, ne_eq] at *
                         omega
                       have hS := Lib.hid (chk_meets hn hall.out hm)
                       go_ret
                       exact ⟨by rw [hS.out]; rfl, hb.drew⟩)
                    | (have hm : meets xs k j = false := by
                         rw [hM.out]
                         simp only [Bool.and_eq_false_iff, decide_eq_false_iff_not]
                         try simp only [bne_iff_ne, bne_eq_false_iff_eq, ne_eq] at *
                         omega
                       have HI2 := Lib.hid (show ∀ i, i < j + 1 → meets xs k i = false by
                         intro i hi
                         rcases Nat.lt_or_ge i j with h1 | h1
                         · exact HI.out i h1
                         · have : i = j := by omega
                           subst this
                           exact hm)
                       go_roundw
                       case rel => exact ⟨j + 1, by omega, vsucc _, HI2, hbx, hb.drew⟩
                       case measure => simp [intOf] <;> omega)
              · have HA2 := Lib.hid (show ∀ i j, i < k + 1 → j < xs.length → meets xs i j = false by
                  intro i j hi hj
                  rcases Nat.lt_or_ge i k with h1 | h1
                  · exact HA.out i j h1 hj
                  · have : i = k := by omega
                    subst this
                    exact HI.out j (by omega))
                go_wp2_with fail
                go_roundw
                case rel => exact ⟨k + 1, by omega, vsucc _, HA2, hbx, hb⟩
                case measure => simp [intOf] <;> omega
          · have hS := Lib.hid (chk_none hn hall.out fun i j hi hj => HA.out i j (by omega) hj)
            go_wp2_with fail
            go_ret
            exact ⟨by rw [hS.out]; rfl, hb⟩
  · have hS := Lib.hid (show chk xs = 2 by unfold chk; rw [if_pos (by omega)])
    go_enter Try.func15, Try.ntmps15
    go_wp2_with fail
    go_ret
    exact ⟨by rw [hS.out]; rfl, hb⟩
end Go.Proofs.Ytlpoebobfdmcmaa
