/- The walk of the document's Check. -/
import Derived.Test.YtpafgieijplehaaChkW
set_option linter.unusedVariables false
set_option linter.unusedSimpArgs false
namespace Go.Proofs.Ytpafgieijplehaa
open Go.RowKit

set_option maxRecDepth 100000 in
set_option maxHeartbeats 400000 in
theorem rcheck_any (b0 b1 : Nat) (n : Int) (l proof : List (List Int)) (v vp : Value) (w : World) (hl : Grid b0 w v l) (hp : Grid b1 w vp proof) (hsz : l.length + proof.length ≤ 1099511627776) (hsz2 : l.flatten.length + proof.flatten.length ≤ 1099511627776) :
    Calls Try.prog 23 #[.agg #[.int .i64 n, v], vp] w fun e w' => e = .returned (.tuple #[.int .i64 (Rup.check Rup.rfollows l proof 0 false).1, .bool (Rup.check Rup.rfollows l proof 0 false).2]) ∧ Below w.heap.size w w' := by
  replace hl := grid_re hl (Nat.le_refl w.heap.size)
  replace hp := grid_re hp (Nat.le_refl w.heap.size)
  obtain ⟨A, c, rfl, hlc, hcm, hnil⟩ := hl.open_
  obtain ⟨Ap, cp, rfl, hpc, hpm, _⟩ := hp.open_
  clear hlc hcm hpc hpm
  go_enter Try.func23, Try.ntmps23
  go_wp2
  go_loopw [6, 8] (fun vl i wr => ∃ k : Nat, k ≤ l.length ∧ i = .int .i64 k ∧ OwnGrid w.heap.size w.heap.size wr vl (l.take k) ∧ wr.heap[w.heap.size]? = some (.cells #[.int .i64 n, .slice A l.length c] 28 (0, 0)) ∧ Below w.heap.size w wr) (fun _ i _ => l.length - (intOf i).toNat)
  case atStart => exact ⟨0, Nat.zero_le _, rfl, Own.empty' (Nat.le_succ _) (World.size_alloc _ _), blk_alloc (blk_new _ _) _, ((Below.refl _ _).alloc (Nat.le_refl _) _).alloc (by simp) _⟩
  case round =>
    obtain ⟨k, hk, rfl, ho, hbx, hb⟩ := hrel
    have hb0 := cell_of hbx 0
    have hb1 := cell_of hbx 1
    simp only [List.getElem?_toArray, List.getElem?_cons_zero, List.getElem?_cons_succ] at hb0 hb1
    have hl2 := grid_below hl hb
    by_cases hlt : k < l.length
    · obtain ⟨bl, off, u, rfl, hc, hi⟩ := hl2.at_ hlt []
      have HT := Lib.hid (take_snoc hlt [])
      have htl : (l.take k).length ≤ k := List.length_take_le _ _
      generalize l.getD k [] = x at hc HT hi
      obtain ⟨Ax, cx, rfl, hx1, hx2, _⟩ := hi.open_
      generalize hlk : l.take k = lk at ho HT htl
      have HLK := Lib.hid hlk
      clear hlk
      go_wp2_with (first | (at_builtin; refine wpList_push (w0 := w) w.heap.size rfl _ _ 22 23 _ 24 rfl Try.underlying22 info_row rfl (by decide) [3] ho (stable_row1.mono (by omega)) (by decide) hi rfl rfl rfl hb hb.size (by omega) ?_; intro v3 w3 ho3 hb5 hg3; have hbx3 := ho.other hg3 hbx (by simp)) | go_in)
      go_roundw
      case rel => exact ⟨k + 1, by omega, by go_num, by rw [HT.out]; exact ho3, hbx3, hb5⟩
      case measure => simp [intOf]; omega
    · rw [List.take_of_length_le (by omega)] at ho
      go_wp2
      go_loopw [6, 7, 9] (fun vl ve i wr => ∃ k : Nat, k ≤ proof.length ∧ i = .int .i64 k ∧ ∃ (em : Bool) (lc : List (List Int)), ve = .bool em ∧ OwnGrid w.heap.size w.heap.size wr vl lc ∧ lc.length + proof.length ≤ 1099511627776 + k ∧ lc.flatten.length + (proof.drop k).flatten.length ≤ 1099511627776 ∧ Hid (Rup.check Rup.rfollows lc (proof.drop k) k em = Rup.check Rup.rfollows l proof 0 false) ∧ Below w.heap.size w wr) (fun _ _ i _ => proof.length - (intOf i).toNat)
      case atStart => exact ⟨0, Nat.zero_le _, rfl, false, l, rfl, ho, by omega, by simpa using hsz2, Lib.hid (by simp), hb⟩
      case round =>
        clear ho hb hbx hb0 hb1 hl2 hk hlt
        obtain ⟨k, hk, rfl, em, lc, rfl, ho, hbd, hfl, H, hb⟩ := hrel
        have hp2 := grid_below hp hb
        have hg : Grid w.heap.size wr u6 lc := ho.toSl _
        by_cases hlt : k < proof.length
        · obtain ⟨bl, off, u, rfl, hc, hi⟩ := hp2.at_ hlt []
          have HD := Lib.hid (drop_cons hlt [])
          have hfd := flat_drop hlt
          generalize proof.getD k [] = x at hc HD hi hfd
          obtain ⟨Ax, cx, rfl, hx1, hx2, _⟩ := hi.open_
          have hxl : x.length ≤ 1099511627776 := by omega
          clear hx1 hx2
          have hF := rfollows_any _ _ lc x _ _ wr hg hi (by omega)
          rcases Bool.eq_false_or_eq_true (Rup.rfollows lc x) with hf | hf
          · have R := Lib.hid (show Rup.check Rup.rfollows (lc ++ [x]) (proof.drop (k + 1)) (k + 1) (em || Rup.none_ x) = Rup.check Rup.rfollows l proof 0 false by have H1 := H.out; rw [HD.out] at H1; simpa [Rup.check, hf] using H1)
            have hfl2 : (lc ++ [x]).flatten.length + (proof.drop (k + 1)).flatten.length ≤ 1099511627776 := by rw [flat_snoc]; omega
            clear hfd
            go_wp2_with (first | (go_at_call 21; refine hF.mono ?_; rintro e w2 ⟨rfl, hb2⟩; have ho2 := ho.move (stable_row1.mono (by omega)) (Quiet.below hb2) (T := [3, 23]) (by decide); have hi2 := row_below hi hb2; have hb3 := hb.trans (hb2.mono hb.size); have hb4 := Nat.le_trans hb.size hb2.size; have hc2 := (hb2.cell (World.block_lt_of_cell? wr _ hc)).trans hc) | (at_builtin; refine wpList_push (w0 := w) w.heap.size rfl _ _ 22 23 _ 24 rfl Try.underlying22 info_row rfl (by decide) [3] ho2 (stable_row1.mono (by omega)) (by decide) hi2 rfl rfl rfl hb3 (by omega) (by omega) ?_; intro v3 w3 ho3 hb5 hg3) | go_in)
            all_goals
              go_roundw
              case rel => exact ⟨k + 1, by omega, by go_num, _, _, rfl, ho3, by simp; omega, hfl2, Lib.hid (by
                have R1 := R.out
                clear R H HD hf hF
                first
                  | (have he : em = true := by assumption
                     subst he
                     simpa [Rup.none_] using R1)
                  | (have he : ¬ em = true := by assumption
                     have he2 : em = false := by simpa using he
                     subst he2
                     simpa [Rup.none_] using R1)), hb5⟩
              case measure => simp [intOf]; omega
          · have R := Lib.hid (show Rup.check Rup.rfollows l proof 0 false = (k, em) by have H1 := H.out; rw [HD.out] at H1; rw [← H1]; simp [Rup.check, hf])
            clear hfd
            go_wp2_with (first | (go_at_call 21; refine hF.mono ?_; rintro e w2 ⟨rfl, hb2⟩; have hb3 := hb.trans (hb2.mono hb.size)) | go_in)
            go_ret2
            exact ⟨ret_val (by rw [R.out]; rfl), hb3⟩
        · have R := Lib.hid (show Rup.check Rup.rfollows l proof 0 false = (proof.length, em) by have H1 := H.out; rw [List.drop_eq_nil_of_le (by omega)] at H1; rw [← H1, show k = proof.length by omega]; rfl)
          go_wp2
          go_ret2
          exact ⟨ret_val (by rw [R.out]; rfl), hb⟩
end Go.Proofs.Ytpafgieijplehaa
