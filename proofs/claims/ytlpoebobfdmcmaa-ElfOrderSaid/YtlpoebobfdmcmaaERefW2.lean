/- The reference's Write: all ways. -/
import Derived.Test.YtlpoebobfdmcmaaERefW
set_option linter.unusedVariables false
set_option linter.unusedSimpArgs false
namespace Go.Proofs.Ytlpoebobfdmcmaa
open Go.RowKit
set_option maxRecDepth 100000 in
theorem refwrite_any (B : Nat) (en fl : Nat) (v : Value) (xs : List Seg) (w : World) (h : Segs B w v xs) (hen : en < 4294967296) (hfl : fl < 4294967296) (hlen : xs.length ≤ 100000) :
    Calls Try.prog 12 #[.agg #[.int .u32 en, .int .u32 fl, v]] w fun r w' => r = .returned (.tuple #[.string (fileOf en fl xs), .int .i64 (chk xs)]) ∧ Below w.heap.size w w' := by
  by_cases hc : chk xs = 0
  · refine (refwrite_try B en fl v xs w h hen hfl hlen hc).mono ?_
    rintro r w' ⟨rfl, hb⟩
    rw [hc, fileOf, if_pos hc]
    exact ⟨rfl, hb⟩
  · rw [fileOf, if_neg hc]
    replace h := h.re (Nat.le_refl w.heap.size)
    obtain ⟨A, c, rfl, hc1, hc2, hc3⟩ := h.open_
    have hcw := refcheck_any w.heap.size en fl (.slice A xs.length c) xs (w.alloc (.cells #[.int .u32 en, .int .u32 fl, .slice A xs.length c] 25)) (h.below ((Below.refl _ _).alloc (Nat.le_refl _) _)) hlen
    have hd : (chk xs != 0) = true := by simpa using hc
    clear hc
    generalize chk xs = q at hcw hd
    go_enter Try.func12, Try.ntmps12
    go_wp2_with (first | (go_at_call 15; refine hcw.mono ?_; rintro r w1 ⟨rfl, hb1⟩) | fail)
    have hb2 := below_then ((Below.refl w.heap.size w).alloc (Nat.le_refl _) (.cells #[.int .u32 en, .int .u32 fl, .slice A xs.length c] 25)) hb1
    go_ret2
    exact ⟨rfl, hb2⟩
end Go.Proofs.Ytlpoebobfdmcmaa
