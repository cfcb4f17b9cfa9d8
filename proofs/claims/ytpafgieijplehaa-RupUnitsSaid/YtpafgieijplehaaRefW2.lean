/- The walk of the document's Follows. -/
import Derived.Test.YtpafgieijplehaaRefW
set_option linter.unusedVariables false
set_option linter.unusedSimpArgs false
namespace Go.Proofs.Ytpafgieijplehaa
open Go.RowKit

set_option maxRecDepth 100000 in
set_option maxHeartbeats 800000 in
theorem rfollows_any (b1 b2 : Nat) (l : List (List Int)) (p : List Int) (vl vp : Value) (w : World) (hl : Grid b1 w vl l) (hp : Row b2 w vp p) (hsz : p.length + l.flatten.length ≤ 17592186044415) :
    Calls Try.prog 21 #[vl, vp] w fun e w' => e = .returned (.bool (Rup.rfollows l p)) ∧ Below w.heap.size w w' := by
  obtain ⟨A, c, rfl, hlc, hcm, _⟩ := hl.open_
  obtain ⟨Ap, cp, rfl, hpc, hpm, _⟩ := hp.open_
  have hlen : l.length ≤ 9223372036854775807 := by unfold maxLen at hcm; omega
  have hlp : p.length ≤ 17592186044415 := by omega
  clear hlc hcm hpc hpm
  go_enter Try.func21, Try.ntmps21
  go_wp2
  go_loopw [5, 6] (fun vo i wr => ∃ k : Nat, k ≤ p.length ∧ i = .int .i64 k ∧ ∃ holds : List Int, Own w.heap.size 3 I64 wr vo holds ∧ holds.length ≤ k ∧ Hid (Rup.rstart holds (p.drop k) = Rup.rstart [] p) ∧ Below w.heap.size w wr) (fun _ i _ => p.length - (intOf i).toNat)
  case atStart => exact ⟨0, Nat.zero_le _, rfl, [], Own.empty _ _ _ _ (Nat.le_refl _), Nat.le_refl _, Lib.hid (by simp), (Below.refl _ _).alloc (Nat.le_refl _) _⟩
  case round =>
    obtain ⟨k, hk, rfl, holds, ho, hol, H, hb⟩ := hrel
    have ho2 := ho.toSl 0
    obtain ⟨Ao, co, rfl, _, _, _⟩ := ho2.open_
    have hp2 := row_below hp hb
    by_cases hlt : k < p.length
    · obtain ⟨b, off, u, rfl, hc, hu⟩ := hp2.at_ hlt 0
      have HD := Lib.hid (drop_cons hlt 0)
      obtain ⟨rfl, hx1, hx2⟩ := hu
      generalize p.getD k 0 = y at hc HD hx1 hx2
      rcases Bool.eq_false_or_eq_true (Rup.never y) with hn | hn
      · go_wp2_with (first | (go_at_call 26; refine (odd_any _ hx1 hx2 _).mono ?_; rintro e w' ⟨rfl, rfl⟩) | go_in)
        go_roundw
        case rel => exact ⟨k + 1, by omega, by go_num, holds, ho, by omega, Lib.hid (by have H1 := H.out; have H2 := HD.out; rw [← H1, H2]; simp [Rup.rstart, hn]), hb⟩
        case measure => simp [intOf]; omega
      · have R2 := has_any 0 holds y _ wr ho2
        have hy2 : -9223372036854775808 ≤ wrap64 (-y) ∧ wrap64 (-y) ≤ 9223372036854775807 := by unfold wrap64; omega
        rcases Bool.eq_false_or_eq_true (Rup.has holds y) with hm | hm
        · go_wp2_with (first | (go_at_call 26; refine (odd_any _ hx1 hx2 _).mono ?_; rintro e w' ⟨rfl, rfl⟩) | (go_at_call 27; (with_reducible refine R2.mono ?_); rintro e w' ⟨rfl, rfl⟩) | go_in)
          go_ret
          refine ⟨ret_val (congrArg Value.bool ?_), hb⟩
          have H1 := H.out; have H2 := HD.out
          rw [H2] at H1
          simp only [Rup.rstart, hn, hm] at H1
          simp only [Rup.rfollows, ← H1]
          rfl
        · go_wp2_with (first | (go_at_call 26; refine (odd_any _ hx1 hx2 _).mono ?_; rintro e w' ⟨rfl, rfl⟩) | (go_at_call 27; (with_reducible refine R2.mono ?_); rintro e w' ⟨rfl, rfl⟩) | (at_builtin; refine wpList_push (w0 := w) w.heap.size rfl _ _ 23 3 _ 8 rfl Try.underlying23 info_int rfl (by decide) [] ho (stable_i64 _ _) (by decide) ⟨rfl, hy2⟩ rfl rfl rfl hb hb.size (by omega) ?_; intro v1 w1 ho1 hb1 hg1) | go_in)
          have R := Lib.hid (show Rup.rstart (holds ++ [wrap64 (-y)]) (p.drop (k + 1)) = Rup.rstart [] p by have H1 := H.out; have H2 := HD.out; rw [← H1, H2, wrap_neg]; simp [Rup.rstart, hn, hm])
          go_roundw
          case rel => exact ⟨k + 1, by omega, by go_num, _, ho1, by simp; omega, R, hb1⟩
          case measure => simp [intOf]; omega
    · go_wp2
      have F : Hid (Rup.rrounds l (l.flatten.length + 1) holds = Rup.rfollows l p) := Lib.hid (by
        have H1 := H.out
        rw [List.drop_eq_nil_of_le (by omega)] at H1
        simp only [Rup.rstart] at H1
        simp only [Rup.rfollows, ← H1])
      clear H
      have hcl : Rup.rcount l holds < l.flatten.length + 1 := by have := Rup.rcount_le l holds; omega
      have hbd : holds.length + Rup.rcount l holds ≤ 17592186044415 := by omega
      go_loopg [5] (l.flatten.length + 1) (fun n vo w1 => ∃ holds : List Int, Own w.heap.size 3 I64 w1 vo holds ∧ Rup.rcount l holds < n ∧ holds.length + Rup.rcount l holds ≤ 17592186044415 ∧ Hid (Rup.rrounds l n holds = Rup.rfollows l p) ∧ Below w.heap.size w w1)
      case atStart => exact ⟨holds, ho, hcl, hbd, F, hb⟩
      case round =>
        clear F hb hcl hbd ho ho2 hp2 hk hlt hol
        obtain ⟨holds, ho, hcl, hbd, F, hb⟩ := hrel
        obtain ⟨Ao, co, rfl, _, _, _⟩ := (ho.toSl 0).open_
        go_wp2
        have hg := grid_below hl hb
        obtain ⟨wo, rfl⟩ : ∃ wo : World, wo = wr := ⟨_, rfl⟩
        go_loopw [7, 8] (fun vm i wr => ∃ k : Nat, k ≤ l.length ∧ i = .int .i64 k ∧ ∃ more : List Int, Own w.heap.size 3 I64 wr vm more ∧ more.length + Rup.rcount l more ≤ 17592186044415 ∧ Hid (Rup.rpass (l.drop k) more = Rup.rpass l holds) ∧ Below w.heap.size w wr) (fun _ i _ => l.length - (intOf i).toNat)
        case atStart => exact ⟨0, Nat.zero_le _, rfl, holds, ho, hbd, Lib.hid (by simp), hb⟩
        case round =>
          clear hbd hb hg
          obtain ⟨k, hk, rfl, more, ho, hbd, G, hb⟩ := hrel
          have ho2 := ho.toSl 0
          obtain ⟨Am, cm, rfl, _, hcm, _⟩ := ho2.open_
          have hml : more.length ≤ 9223372036854775807 := by unfold maxLen at hcm; omega
          clear hcm
          have hg := grid_below hl hb
          by_cases hlt : k < l.length
          · obtain ⟨bl, off, u, rfl, hc, hi⟩ := hg.at_ hlt []
            have HD := Lib.hid (drop_cons hlt [])
            have hmem := getD_mem hlt []
            have hxl := Rup.mem_flat hmem
            generalize l.getD k [] = x at hc HD hi hmem hxl
            go_wp2_with (first | (go_at_call 28; refine (rest_any _ _ _ _ _ _ _ hi ho2 (by omega)).mono ?_; rintro e w1 ⟨vr, rfl, hr, hb1⟩; have hr2 := hr.toSl 0; clear hr; have ho1 := ho.move (stable_i64 _ [3]) (Quiet.below hb1) (by decide); have ho3 := ho1.toSl 0; generalize hR : Rup.rest more x [] = r at hr2; have HR := Lib.hid hR; clear hR; obtain ⟨Ar, cr, rfl, _, _, _⟩ := hr2.open_; rcases r with _ | ⟨y, _ | ⟨z, t⟩⟩; all_goals first | (have hq0 := hr2.at_ (k := 0) (Nat.succ_pos _) 0; obtain ⟨br, ofr, u, rfl, hcr, rfl, hy1, hy2⟩ := hq0; simp only [Nat.add_zero, List.getD_cons_zero] at hcr hy1 hy2; rcases Bool.eq_false_or_eq_true (Rup.has more y) with hm | hm) | skip) | (go_at_call 27; (with_reducible refine (has_any 0 _ _ _ _ ho3).mono ?_); rintro e w' ⟨rfl, rfl⟩) | (at_builtin; refine wpList_push (w0 := w) w.heap.size rfl _ _ 23 3 _ 8 rfl Try.underlying23 info_int rfl (by decide) [] ho1 (stable_i64 _ _) (by decide) ⟨rfl, hy1, hy2⟩ rfl rfl rfl (hb.trans (hb1.mono hb.size)) (Nat.le_trans hb.size hb1.size) (by omega) ?_; intro v2 w2 ho4 hb2 hg2) | go_in)
            all_goals first
              | (go_ret
                 exact ⟨ret_val (congrArg Value.bool (Rup.rrounds_none hcl F.out (G.out.symm.trans (Rup.rpass_none HD.out rfl HR.out))).symm), hb.trans (hb1.mono hb.size)⟩)
              | (have U := Rup.rpass_new hmem HD.out G.out HR.out hm
                 go_roundw
                 case rel => exact ⟨k + 1, by omega, by go_num, _, ho4, by have := U.2; simp; omega, Lib.hid U.1, hb2⟩
                 case measure => simp [intOf]; omega)
              | (have U := Rup.rpass_old HD.out G.out HR.out hm
                 go_roundw
                 case rel => exact ⟨k + 1, by omega, by go_num, _, ho1, hbd, Lib.hid U, hb.trans (hb1.mono hb.size)⟩
                 case measure => simp [intOf]; omega)
              | (have U := Rup.rpass_more HD.out G.out HR.out
                 go_roundw
                 case rel => exact ⟨k + 1, by omega, by go_num, _, ho1, hbd, Lib.hid U, hb.trans (hb1.mono hb.size)⟩
                 case measure => simp [intOf]; omega)
          · have Z := Lib.hid (show Rup.rpass l holds = some more by have := G.out; rw [List.drop_eq_nil_of_le (by omega)] at this; exact this.symm)
            go_wp2
            · have e : ((more.length : Int) == (holds.length : Int)) = true := by assumption
              go_ret
              exact ⟨ret_val (congrArg Value.bool (Rup.rrounds_same hcl F.out Z.out (Int.ofNat_inj.1 (beq_iff_eq.1 e))).symm), hb⟩
            · have e : ((more.length : Int) == (holds.length : Int)) = false := by assumption
              have U := Rup.rrounds_more hcl F.out Z.out (fun h => by simp [h] at e)
              go_roundg (gk - 1)
              case measure => exact U.2.2
              case rel => exact ⟨more, ho, U.2.1, hbd, Lib.hid U.1, hb⟩
end Go.Proofs.Ytpafgieijplehaa
