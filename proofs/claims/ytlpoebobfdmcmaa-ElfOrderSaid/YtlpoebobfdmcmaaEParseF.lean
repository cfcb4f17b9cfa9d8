/- Parse: all ways. -/
import Derived.Test.YtlpoebobfdmcmaaEParseE
import Derived.Test.YtlpoebobfdmcmaaEParseM
set_option linter.unusedVariables false
set_option linter.unusedSimpArgs false
namespace Go.Proofs.Ytlpoebobfdmcmaa
open Go.RowKit
theorem parse_own (s : ByteArray) (w : World) (hs : s.size ≤ 281474976710656) : Calls Try.prog 16 #[.string s] w fun r w' => ParseOutG w (parseOf s) r w' := by
  have hN : Hid (∀ a n, num (toL s) a.toNat n.toNat = (fun a n : Int => num (toL s) a.toNat n.toNat) a n) := Lib.hid fun _ _ => rfl
  unfold parseOf
  by_cases h0 : s.size < 52
  · rw [if_pos h0]
    exact parse_e0 s _ hN w hs h0
  rw [if_neg h0]
  replace h0 : 52 ≤ s.size := by omega
  by_cases h1 : (toL s).take 7 = magicL
  case neg => rw [if_pos h1]; exact parse_e1 s _ hN w hs h0 h1
  rw [if_neg (fun h => h h1)]
  by_cases h2 : num (toL s) 16 2 = 2
  case neg => rw [if_pos h2]; exact parse_e2 s _ hN w hs h0 h1 h2
  rw [if_neg (fun h => h h2)]
  by_cases h3 : num (toL s) 18 2 = 243
  case neg => rw [if_pos h3]; exact parse_e3 s _ hN w hs h0 h1 h2 h3
  rw [if_neg (fun h => h h3)]
  by_cases h4 : num (toL s) 20 4 = 1
  case neg => rw [if_pos h4]; exact parse_e4 s _ hN w hs h0 h1 h2 h3 h4
  rw [if_neg (fun h => h h4)]
  by_cases h5 : num (toL s) 40 2 = 52
  case neg => rw [if_pos h5]; exact parse_e5 s _ hN w hs h0 h1 h2 h3 h4 h5
  rw [if_neg (fun h => h h5)]
  by_cases h6 : num (toL s) 42 2 = 32
  case neg => rw [if_pos h6]; exact parse_e6 s _ hN w hs h0 h1 h2 h3 h4 h5 h6
  rw [if_neg (fun h => h h6)]
  by_cases h7 : 16 < num (toL s) 44 2
  · rw [if_pos h7]; exact parse_e7 s _ hN w hs h0 h1 h2 h3 h4 h5 h6 h7
  rw [if_neg h7]
  by_cases h8 : s.size < num (toL s) 28 4 + 32 * num (toL s) 44 2
  · rw [if_pos h8]; exact parse_e8 s _ hN w hs h0 h1 h2 h3 h4 h5 h6 (Nat.le_of_not_lt h7) h8
  rw [if_neg h8]
  exact parse_main s _ hN w hs h0 h1 h2 h3 h4 h5 h6 (Nat.le_of_not_lt h7) (Nat.le_of_not_lt h8)
theorem parse_any (s : ByteArray) (w : World) (hs : s.size ≤ 281474976710656) : Calls Try.prog 16 #[.string s] w fun r w' => ParseOut w (parseOf s) r w' := (parse_own s w hs).mono fun r w' h => h.weak
end Go.Proofs.Ytlpoebobfdmcmaa
