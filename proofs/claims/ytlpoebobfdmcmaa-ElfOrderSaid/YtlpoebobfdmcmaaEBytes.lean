/- The reference's Bytes. -/
import Derived.Test.YtlpoebobfdmcmaaEPut
import Derived.Laws.IdiomStrings
set_option linter.unusedVariables false
set_option linter.unusedSimpArgs false
namespace Go.Proofs.Ytlpoebobfdmcmaa
open Go.RowKit

theorem bs_app (a b : List UInt8) : (⟨a.toArray⟩ ++ ⟨b.toArray⟩ : ByteArray) = ⟨(a ++ b).toArray⟩ := by
  apply ByteArray.ext
  simp
theorem wrap_div (v k : Nat) (hv : v < 4611686018427387904) : Value.int .i64 (wrap64 (((v : Int) / 2 ^ (8 * k)).tdiv 256)) = Value.int .i64 ((v / 2 ^ (8 * (k + 1)) : Nat) : Int) := by
  have e : ((v : Int) / 2 ^ (8 * k)) = ((v / 2 ^ (8 * k) : Nat) : Int) := by simp
  have e2 : v / 2 ^ (8 * (k + 1)) = v / 2 ^ (8 * k) / 256 := by rw [Nat.mul_add, Nat.pow_add, Nat.div_div_eq_div_mul]
  have e3 : v / 2 ^ (8 * k) ≤ v := Nat.div_le_self _ _
  rw [e, e2]
  generalize v / 2 ^ (8 * k) = y at e3
  have e4 : ((y : Int)).tdiv 256 = ((y / 256 : Nat) : Int) := by rw [Int.tdiv_eq_ediv_of_nonneg (by omega)]; simp
  rw [e4]
  have e5 : y / 256 ≤ y := Nat.div_le_self _ _
  congr 1
  unfold wrap64; omega
set_option maxRecDepth 100000 in
set_option maxHeartbeats 800000 in
theorem bytes_any (v n : Nat) (w : World) (hn : n ≤ 9) (hv : v < 4611686018427387904) :
    Calls Try.prog 19 #[.int .i64 v, .int .i64 n] w fun r w' => r = .returned (.string ⟨(leB v n).toArray⟩) ∧ Below w.heap.size w w' := by
  go_enter Try.func19, Try.ntmps19
  go_wp2
  go_loopw [0, 5, 6] (fun x s i wr => ∃ k : Nat, k ≤ n ∧ i = .int .i64 k ∧ s = .string ⟨(leB v k).toArray⟩ ∧ x = .int .i64 ((v / 2 ^ (8 * k) : Nat) : Int) ∧ Below w.heap.size w wr) (fun _ _ i _ => n - (intOf i).toNat)
  case atStart => exact ⟨0, Nat.zero_le _, rfl, by simp [leB], by simp, Below.refl _ _⟩
  case round =>
    obtain ⟨k, hk, rfl, rfl, rfl, hb⟩ := hrel
    by_cases hlt : k < n
    · have hB8 := Lib.hid (leB_succ v k)
      have ht : (((v : Int) / 2 ^ (8 * k)).tmod 256 % 256) = ((UInt8.ofNat (v / 2 ^ (8 * k))).toNat : Int) := by
        have e : ((v : Int) / 2 ^ (8 * k)) = ((v / 2 ^ (8 * k) : Nat) : Int) := by simp
        rw [e]
        generalize v / 2 ^ (8 * k) = y
        rw [Int.tmod_eq_emod_of_nonneg (by omega)]
        simp
      generalize UInt8.ofNat (v / 2 ^ (8 * k)) = b8 at ht hB8
      have hcv : (convert 40 9 (.slice (some ⟨wr.heap.size, 0, none⟩) 1 1)).run Try.prog (wr.alloc (.cells #[.int .u8 (((v : Int) / 2 ^ (8 * k)).tmod 256 % 256)] 5)) = .ok (.string ⟨[b8].toArray⟩) (wr.alloc (.cells #[.int .u8 (((v : Int) / 2 ^ (8 * k)).tmod 256 % 256)] 5)) := by
        rw [ht]
        refine run_convert_bytes_back (P := Try.prog) _ 40 9 5 ⟨wr.heap.size, 0, none⟩ 1 [b8] Try.underlying40 Try.underlying5 Try.underlying9 fun j hj => ?_
        have h0 : j = 0 := by simpa using hj
        subst h0
        exact cell_of (blk_new wr (.cells #[.int .u8 (b8.toNat : Int)] 5)) 0
      clear ht
      have hle : (9223372036854775807 < (leB v k).length + 1) = False := by simp [leB_len]; omega
      have R1 := Lib.hid (wrap_div v k hv)
      go_wp2
      go_roundw
      case rel => exact ⟨k + 1, by omega, by go_num, by rw [hB8.out]; exact congrArg Value.string (bs_app _ _), R1.out, hb.alloc hb.size _⟩
      case measure => simp [intOf] <;> omega
    · have hkn : k = n := by omega
      subst hkn
      go_wp2
      go_ret
      exact ⟨rfl, hb⟩
def bytesI (x n : Int) : List UInt8 := leB x.toNat n.toNat
theorem bytesI_len (x n : Int) : (bytesI x n).length = n.toNat := leB_len _ _
theorem bytes_int (x n : Int) (w : World) (hn : 0 ≤ n ∧ n ≤ 9) (hv : 0 ≤ x ∧ x < 4611686018427387904) :
    Calls Try.prog 19 #[.int .i64 x, .int .i64 n] w fun r w' => r = .returned (.string ⟨(bytesI x n).toArray⟩) ∧ Below w.heap.size w w' := by
  obtain ⟨a, rfl⟩ : ∃ a : Nat, x = a := ⟨x.toNat, by omega⟩
  obtain ⟨b, rfl⟩ : ∃ b : Nat, n = b := ⟨n.toNat, by omega⟩
  exact bytes_any a b w (by omega) (by omega)
end Go.Proofs.Ytlpoebobfdmcmaa
