/- The reference's Same. -/
import Derived.Test.YtlpoebobfdmcmaaERefS0
import Derived.Test.YtlpoebobfdmcmaaENum
import Derived.Deep.RegionHeld3
set_option linter.unusedVariables false
set_option linter.unusedSimpArgs false
namespace Go.Proofs.Ytlpoebobfdmcmaa
open Go.RowKit

set_option maxRecDepth 100000 in
set_option maxHeartbeats 800000 in
theorem same_ref (B : Nat) (en fl en' fl' : Int) (v v' : Value) (xs ys : List Seg) (w : World) (h : Segs B w v xs) (h' : Segs B w v' ys) :
    Calls Try.prog 17 #[.agg #[.int .u32 en, .int .u32 fl, v], .agg #[.int .u32 en', .int .u32 fl', v']] w fun r w' => ∃ b : Bool, r = .returned (.bool b) ∧ (b = true ↔ en = en' ∧ fl = fl' ∧ xs = ys) ∧ Below w.heap.size w w' := by
  replace h := h.re (Nat.le_refl w.heap.size)
  obtain ⟨A, c, rfl, hc1, hc2, hc3⟩ := h.open_
  replace h' := h'.re (Nat.le_refl w.heap.size)
  obtain ⟨A', c', rfl, hc1', hc2', hc3'⟩ := h'.open_
  have hxl : xs.length ≤ 9223372036854775807 := by unfold maxLen at hc2; omega
  have hb := ((Below.refl w.heap.size w).alloc (Nat.le_refl _) (.cells #[.int .u32 en, .int .u32 fl, .slice A xs.length c] 25)).alloc (by simp) (.cells #[.int .u32 en', .int .u32 fl', .slice A' ys.length c'] 25)
  have hbx := blk_alloc (blk_new w (.cells #[.int .u32 en, .int .u32 fl, .slice A xs.length c] 25)) (.cells #[.int .u32 en', .int .u32 fl', .slice A' ys.length c'] 25)
  have hby : ((w.alloc (.cells #[.int .u32 en, .int .u32 fl, .slice A xs.length c] 25)).alloc (.cells #[.int .u32 en', .int .u32 fl', .slice A' ys.length c'] 25)).heap[w.heap.size + 1]? = _ := blk_top (by simp)
  cases d1 : (en != en')
  · have e1 := Lib.hid (show en = en' by simpa using d1)
    cases d2 : (fl != fl')
    · have e2 := Lib.hid (show fl = fl' by simpa using d2)
      cases d3 : ((xs.length : Int) != (ys.length : Int))
      · have e3 := Lib.hid (show xs.length = ys.length by simp at d3; omega)
        go_enter Try.func17, Try.ntmps17
        go_wp2_with fail
        go_loopw [5] (fun i wr => ∃ k : Nat, k ≤ xs.length ∧ i = .int .i64 k ∧ Hid (xs.take k = ys.take k) ∧ wr.heap[w.heap.size]? = some (.cells #[.int .u32 en, .int .u32 fl, .slice A xs.length c] 25 (0, 0)) ∧ wr.heap[w.heap.size + 1]? = some (.cells #[.int .u32 en', .int .u32 fl', .slice A' ys.length c'] 25 (0, 0)) ∧ Below w.heap.size w wr) (fun i _ => xs.length - (intOf i).toNat)
        case atStart => exact ⟨0, Nat.zero_le _, rfl, Lib.hid (by simp), hbx, hby, hb⟩
        case round =>
          clear hbx hby hb
          obtain ⟨k, hk, rfl, HA, hbx, hby, hb⟩ := hrel
          have hx := h.below hb
          have hy := h'.below hb
          have hx2 := cell_of hbx 2
          simp only [List.getElem?_toArray, List.getElem?_cons_zero, List.getElem?_cons_succ] at hx2
          have hy2 := cell_of hby 2
          simp only [List.getElem?_toArray, List.getElem?_cons_zero, List.getElem?_cons_succ] at hy2
          by_cases hlt : k < xs.length
          · have hlt2 : k < ys.length := by have := e3.out; omega
            obtain ⟨bb, off, g, rfl, hg, hfit, hat, hbb⟩ := hx.at_ hlt
            obtain ⟨bb', off', t, rfl, ht, hfit', hat', hbb'⟩ := hy.at_ hlt2
            have hgs := List.take_add_one (l := xs) (i := k)
            have hts := List.take_add_one (l := ys) (i := k)
            rw [hg] at hgs
            rw [ht] at hts
            replace hgs := Lib.hid hgs
            replace hts := Lib.hid hts
            obtain ⟨ha0, ha1, ha2, ha3⟩ := hat
            obtain ⟨hb0, hb1, hb2, hb3⟩ := hat'
            obtain ⟨ga, gd, gs, gf⟩ := g
            obtain ⟨ta, td, ts, tf⟩ := t
            dsimp only at ha0 ha1 ha2 ha3 hb0 hb1 hb2 hb3
            have hq := fun w' => seg_neq w' ga ta gd td gs ts gf tf
            have hiff := segEq_iff ga ta gd td gs ts gf tf
            generalize segEq ga ta gd td gs ts gf tf = q at hq hiff
            replace hiff := Lib.hid hiff
            go_wp2_with fail
            go_region_held3 (fun w' => w'.cell? ⟨w.heap.size, 2, none⟩ = some (.slice (some ⟨bb, off, none⟩) xs.length c) ∧ w'.cell? ⟨w.heap.size + 1, 2, none⟩ = some (.slice (some ⟨bb', off', none⟩) ys.length c') ∧ w'.cell? ⟨bb, off + k * 4, none⟩ = some (.int .u32 ga) ∧ w'.cell? ⟨bb, off + k * 4 + 1, none⟩ = some (.string gd) ∧ w'.cell? ⟨bb, off + k * 4 + 2, none⟩ = some (.int .i64 gs) ∧ w'.cell? ⟨bb, off + k * 4 + 3, none⟩ = some (.int .i64 gf) ∧ w'.cell? ⟨bb', off' + k * 4, none⟩ = some (.int .u32 ta) ∧ w'.cell? ⟨bb', off' + k * 4 + 1, none⟩ = some (.string td) ∧ w'.cell? ⟨bb', off' + k * 4 + 2, none⟩ = some (.int .i64 ts) ∧ w'.cell? ⟨bb', off' + k * 4 + 3, none⟩ = some (.int .i64 tf))
              (first | go_keep) (fail)
            cases q
            · go_wp2_with fail
              go_ret
              refine ⟨false, rfl, ⟨fun e => (by cases e), fun ⟨_, _, e⟩ => ?_⟩, hb.drew⟩
              rw [e, ht] at hg
              exact hiff.out.2 (Option.some.inj hg).symm
            · have HA2 := Lib.hid (show xs.take (k + 1) = ys.take (k + 1) by rw [hgs.out, hts.out, HA.out, hiff.out.1 rfl])
              go_wp2_with fail
              go_roundw
              case rel => exact ⟨k + 1, hlt, vsucc _, HA2, hbx, hby, hb.drew⟩
              case measure => simp [intOf] <;> omega
          · have hxy := Lib.hid (show xs = ys by have := HA.out; rwa [List.take_of_length_le (by omega), List.take_of_length_le (by have := e3.out; omega)] at this)
            go_wp2_with fail
            go_ret
            exact ⟨true, rfl, by simp [e1.out, e2.out, hxy.out], hb⟩
      · have e3 := Lib.hid (show ¬ xs = ys by rintro rfl; simp at d3)
        go_enter Try.func17, Try.ntmps17
        go_wp2_with fail
        go_ret
        exact ⟨false, rfl, by simp [e3.out], hb⟩
    · have e2 := Lib.hid (show ¬ fl = fl' by simpa using d2)
      go_enter Try.func17, Try.ntmps17
      go_wp2_with fail
      go_ret
      exact ⟨false, rfl, by simp [e2.out], hb⟩
  · have e1 := Lib.hid (show ¬ en = en' by simpa using d1)
    go_enter Try.func17, Try.ntmps17
    go_wp2_with fail
    go_ret
    exact ⟨false, rfl, by simp [e1.out], hb⟩
end Go.Proofs.Ytlpoebobfdmcmaa
