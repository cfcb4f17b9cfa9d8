/- The law ElfAgain. -/
import Derived.Test.YtlpoebobfdmcmaaEFixW
import Derived.Test.YtlpoebobfdmcmaaELawB
set_option linter.unusedVariables false
set_option linter.unusedSimpArgs false
namespace Go.Proofs.Ytlpoebobfdmcmaa
open Go.RowKit
set_option maxRecDepth 100000 in
set_option maxHeartbeats 800000 in
theorem law3_any (s : ByteArray) (w : World) (hs : s.size ≤ maxLen) :
    Calls Try.prog 5 #[.string s] w fun r w' => r = .returned (.bool true) ∧ Below w.heap.size w w' := by
  have hmin : (min (s.size : Int) 2000).toNat = min s.size 2000 := by omega
  have hS0 : (s.extract 0 (min s.size 2000)).size ≤ 281474976710656 := by rw [ByteArray.size_extract]; omega
  rcases parseOf_cases (s.extract 0 (min s.size 2000)) with ⟨e, hP, he⟩ | ⟨en, fl, ys, hP, hc, hen, hfl⟩
  · have hd : (e != 0) = true := by simpa using he
    replace hP := Lib.hid hP
    clear he
    go_enter Try.func5, Try.ntmps5
    go_wp2_with fail
    refine (parse_is _ _ _ hS0 hP.out).mono ?_
    rintro r w1 ⟨rfl, hb1⟩
    go_wp2_with fail
    refine (fixed_any _).mono ?_
    rintro r w2 ⟨rfl, hb2⟩
    replace hb2 := below_then ((Below.refl w1.heap.size w1).alloc (Nat.le_refl _) (.cells #[.int .u32 0, .int .u32 0, .slice none 0 0] 25)) hb2
    go_wp2_with fail
    go_ret
    exact ⟨rfl, hb1.trans (hb2.mono hb1.size)⟩
  · obtain ⟨F, hF⟩ : ∃ F, F = fileOf en fl ys := ⟨_, rfl⟩
    have hFP := Lib.hid (show parseOf F = .ok (en, fl, ys) by rw [hF]; exact parse_written hc hen hfl)
    have hFl : F.size ≤ 281474976710656 := by rw [hF]; exact file_small
    have hn16 := chk_len hc
    have hwr := fun B v W (h : Segs B W v ys) => write_any B en fl v ys W h hen hfl (by omega)
    rw [hc, ← hF] at hwr
    replace hwr := Lib.hid hwr
    replace hP := Lib.hid hP
    clear hF
    go_enter Try.func5, Try.ntmps5
    go_wp2_with fail
    refine (parse_is _ _ _ hS0 hP.out).mono ?_
    rintro r w1 ⟨⟨v1, rfl, hs1⟩, hb⟩
    replace hs1 := hs1.re (Nat.le_refl w1.heap.size)
    obtain ⟨A1, c1, rfl, _, _, _⟩ := hs1.open_
    replace hs1 := hs1.below ((Below.refl w1.heap.size w1).alloc (Nat.le_refl _) (.cells #[.int .u32 en, .int .u32 fl, .slice A1 ys.length c1] 25))
    have hbx := blk_new w1 (.cells #[.int .u32 en, .int .u32 fl, .slice A1 ys.length c1] 25)
    replace hb := hb.alloc hb.size (.cells #[.int .u32 en, .int .u32 fl, .slice A1 ys.length c1] 25)
    obtain ⟨h0, h1, h2⟩ := three hbx
    go_wp2_with fail
    refine (hwr.out _ _ _ hs1).mono ?_
    rintro r w2 ⟨rfl, hb2⟩
    replace hs1 := hs1.below hb2
    replace hbx := blk_below hbx hb2
    replace hb := hb.trans (hb2.mono hb.size)
    clear hb2
    obtain ⟨h0, h1, h2⟩ := three hbx
    go_wp2_with fail
    refine (parse_is _ _ _ hFl hFP.out).mono ?_
    rintro r w3 ⟨⟨v3, rfl, hs3⟩, hb2⟩
    replace hs1 := hs1.below hb2
    replace hbx := blk_below hbx hb2
    replace hb := hb.trans (hb2.mono hb.size)
    clear hb2
    obtain ⟨A3, c3, rfl, _, _, _⟩ := hs3.open_
    replace hs3 := hs3.re (Nat.le_refl w3.heap.size)
    have hq := (Below.refl w3.heap.size w3).alloc (Nat.le_refl _) (.cells #[.int .u32 en, .int .u32 fl, .slice A3 ys.length c3] 25)
    have hby := blk_new w3 (.cells #[.int .u32 en, .int .u32 fl, .slice A3 ys.length c3] 25)
    replace hs1 := hs1.below hq
    replace hs3 := hs3.below hq
    replace hbx := blk_below hbx hq
    replace hb := hb.trans (hq.mono hb.size)
    clear hq
    obtain ⟨h0, h1, h2⟩ := three hbx
    obtain ⟨g0, g1, g2⟩ := three hby
    go_wp2_with fail
    refine (hwr.out _ _ _ hs3).mono ?_
    rintro r w4 ⟨rfl, hb2⟩
    replace hs1 := hs1.below hb2
    replace hs3 := hs3.below hb2
    replace hbx := blk_below hbx hb2
    replace hby := blk_below hby hb2
    replace hb := hb.trans (hb2.mono hb.size)
    clear hb2
    obtain ⟨h0, h1, h2⟩ := three hbx
    obtain ⟨g0, g1, g2⟩ := three hby
    go_wp2_with fail
    refine (same_ref _ _ _ _ _ _ _ ys ys _ (hs1.re (Nat.le_refl w4.heap.size)) (hs3.re (Nat.le_refl w4.heap.size))).mono ?_
    rintro r wa ⟨b, rfl, hiff, hba⟩
    have hbt := hiff.2 ⟨rfl, rfl, rfl⟩
    clear hiff
    subst hbt
    replace hb := hb.trans (hba.mono hb.size)
    go_wp2_with fail
    refine (fixed_any _).mono ?_
    rintro r wb ⟨rfl, hbb⟩
    replace hb := hb.trans (hbb.mono hb.size)
    go_wp2_with fail
    go_ret
    exact ⟨rfl, hb⟩
end Go.Proofs.Ytlpoebobfdmcmaa
