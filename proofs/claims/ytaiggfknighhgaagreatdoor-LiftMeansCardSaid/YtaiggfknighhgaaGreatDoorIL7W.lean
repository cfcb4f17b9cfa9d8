/- The reference's words on instructions: Form, in, reg, span, Right, Plain; what can be lifted. -/
/- The reference's Right. -/
/- The reference's Plain. -/
/- A machine's step, as the reference has it: set, Does. -/
/- A machine's step, as the reference has it: Does. -/
/- What a machine is behind instructions: plain laws of LiftMeans. -/
/- The first 30 of some instructions. -/
/- Arrays of 32 numbers, equal. -/
/- How many terms a Dag has. -/
/- The law's fixed calls. -/
/- The law LiftMeans, walked. -/
import Derived.Test.YtaiggfknighhgaaGreatDoorIAny
import Derived.Deep.QuietTactic
import Derived.BigQuiet
import Derived.Laws.Strings
import Derived.Test.YtaiggfknighhgaaGreatDoorOpenC
import Derived.Test.YtaiggfknighhgaaGreatDoorRDo
import Derived.Test.YtaiggfknighhgaaGreatDoorIFrom
import Derived.Deep.CutRange
import Derived.Test.YtaiggfknighhgaaGreatDoorIBlock
import Derived.ChangeKeysEq
import Derived.Test.YtaiggfknighhgaaGreatDoorTTerm
import Derived.Deep.WholeRow
import Derived.Test.YtaiggfknighhgaaGreatDoorTEval0
import Derived.Deep.MidRow
import Derived.Deep.RegionLaw
set_option linter.unusedVariables false
set_option linter.unusedSimpArgs false
namespace Go.Proofs.YtaiggfknighhgaaGreatDoor
open Go.RowKit

def formS : ByteArray := ⟨#[85, 85, 74, 73, 66, 66, 66, 66, 66, 66, 73, 73, 73, 73, 73, 83, 83, 83, 73, 73, 73, 73, 73, 73, 72, 72, 72, 82, 82, 82, 82, 82, 82, 82, 82, 82, 82, 82, 82, 82, 82, 82, 82, 82, 82, 69, 69]⟩
theorem formS_at : ∀ k : Nat, ∀ hk : k < 47, (formS[k]'(hk)).toNat = formL.getD k 0 := by decide
theorem formS_index (k : Nat) (hk : k < 47) (w : World) : (Instr.index 9 (.string formS) (.int .i64 (k : Int))).run Tryz.prog w = .ok (.int .u8 (formL.getD k 0 : Nat)) w := by
  rw [run_index_string w 9 formS .i64 k Tryz.underlying9, dif_pos ⟨by omega, by show (k : Int) < 47; omega⟩]
  have := formS_at k hk
  exact congrArg (fun n : Nat => Result.ok (Value.int .u8 (n : Int)) w) this
set_option maxRecDepth 100000 in
theorem rforms_any (w : World) : Calls Tryz.prog 60 #[] w fun e w' => e = .returned (.string formS) ∧ w = w' := by
  go_enter Tryz.func60, Tryz.ntmps60
  go_wp2
  go_ret
  exact ⟨rfl, rfl⟩
set_option maxRecDepth 100000 in
theorem rform_any (op : Int) (w : World) : Calls Tryz.prog 27 #[.int .i64 op] w fun e w' => e = .returned (.int .u8 (formI op : Nat)) ∧ w = w' := by
  have hK := rforms_any w
  by_cases h : op < 0 ∨ 47 ≤ op
  · rw [show formI op = 0 from if_pos h]
    by_cases h0 : op < 0
    · have e0 : (decide (op < 0)) = true := by simpa using h0
      go_enter Tryz.func27, Tryz.ntmps27
      go_wp2
      go_ret
      exact ⟨rfl, rfl⟩
    · have e0 : (decide (op < 0)) = false := by simpa using h0
      have e1 : 47 ≤ op := by omega
      have hl : (formS.size : Int) = 47 := rfl
      go_enter Tryz.func27, Tryz.ntmps27
      go_wp2_with fail
      refine hK.mono ?_
      rintro r w1 ⟨rfl, rfl⟩
      go_wp2
      go_ret
      exact ⟨rfl, rfl⟩
  · obtain ⟨k, rfl⟩ : ∃ k : Nat, op = k := ⟨op.toNat, by omega⟩
    have hx := formS_index k (by omega) w
    have hl : (formS.size : Int) = 47 := rfl
    rw [show formI k = formL.getD k 0 from if_neg h]
    generalize formL.getD k 0 = f at hx ⊢
    generalize formS = A at *
    have e0 : (decide ((k : Int) < 0)) = false := by simp
    have e1 : (decide ((47 : Int) ≤ (k : Int))) = false := by simp; omega
    clear h
    go_enter Tryz.func27, Tryz.ntmps27
    go_wp2_with fail
    refine hK.mono ?_
    rintro r w1 ⟨rfl, rfl⟩
    go_wp2_with fail
    refine hK.mono ?_
    rintro r w1 ⟨rfl, rfl⟩
    go_wp2_with fail
    go_ret
    exact ⟨rfl, rfl⟩
/-- Does a letter stand in a text? -/
def inS (c : Nat) (s : ByteArray) : Bool := s.data.toList.any fun u => u.toNat == c
theorem inS_at {c : Nat} {s : ByteArray} {j : Nat} (hj : j < s.size) (h : (s[j]).toNat = c) : inS c s = true := by
  unfold inS
  rw [List.any_eq_true]
  exact ⟨s[j], by rw [Array.mem_toList_iff]; exact Array.getElem_mem hj, by simpa using h⟩
theorem inS_none {c : Nat} {s : ByteArray} (h : ∀ j, ∀ hj : j < s.size, (s[j]).toNat ≠ c) : inS c s = false := by
  unfold inS
  rw [List.any_eq_false]
  intro u hu
  rw [Array.mem_toList_iff, Array.mem_iff_getElem] at hu
  obtain ⟨j, hj, rfl⟩ := hu
  have h1 : (s.data[j]).toNat ≠ c := h j hj
  simpa using h1
set_option maxRecDepth 100000 in
theorem rinS_any (c : Nat) (s : ByteArray) (hs : s.size ≤ 100) (w : World) : Calls Tryz.prog 59 #[.int .u8 c, .string s] w fun e w' => e = .returned (.bool (inS c s)) ∧ w' = w := by
  go_enter Tryz.func59, Tryz.ntmps59
  go_wp2_with fail
  go_loopw [5] (fun i wr => ∃ j : Nat, j ≤ s.size ∧ i = .int .i64 j ∧ (∀ k, ∀ hk : k < s.size, k < j → (s[k]).toNat ≠ c) ∧ w = wr) (fun i _ => s.size - (intOf i).toNat)
  case atStart => exact ⟨0, Nat.zero_le _, rfl, fun k _ h => absurd h (by omega), rfl⟩
  case round =>
    obtain ⟨j, hj, rfl, hno, rfl⟩ := hrel
    by_cases hlt : j < s.size
    · have hlt' : (j : Int) < (s.size : Int) := by omega
      have hx : ∀ w, (Instr.index 9 (.string s) (.int .i64 (j : Int))).run Tryz.prog w = .ok (.int .u8 ((s[j]).toNat : Nat)) w := fun w => by
        rw [run_index_string w 9 s .i64 j Tryz.underlying9, dif_pos ⟨by omega, by omega⟩]
        simp only [Int.toNat_natCast]
      have hin := inS_at (c := c) hlt
      have hmore : (s[j]).toNat ≠ c → ∀ k, ∀ hk : k < s.size, k < j + 1 → (s[k]).toNat ≠ c := fun h k hk h2 => by
        rcases Nat.lt_succ_iff_lt_or_eq.1 h2 with h3 | h3
        · exact hno k hk h3
        · subst h3; exact h
      generalize (s[j]).toNat = u at hx hin hmore
      have hx1 := hx w
      by_cases hu : u = c
      · have hI := hin hu
        have e0 : ((u : Int) == (c : Int)) = true := by rw [hu]; simp
        have HI := Lib.hid hI
        clear hu hI hin hmore hno
        go_wp2_with fail
        go_ret
        exact ⟨by rw [HI.out]; first | done | rfl, rfl⟩
      · have e0 : ((u : Int) == (c : Int)) = false := by simp; omega
        have hm := hmore hu
        clear hin hmore hno hu
        go_wp2_with fail
        go_roundw
        case rel => exact ⟨j + 1, by omega, by go_num, hm, by first | rfl | trivial⟩
        case measure => simp [intOf]; omega
    · have hlt' : ¬ (j : Int) < (s.size : Int) := by omega
      have hI : inS c s = false := inS_none fun k hk => hno k hk (by omega)
      have HI := Lib.hid hI
      clear hI hno
      go_wp2_with fail
      go_ret
      exact ⟨by rw [HI.out]; first | done | rfl, rfl⟩
theorem inS_rd : ∀ f, (f = 85 ∨ f = 74 ∨ f = 73 ∨ f = 66 ∨ f = 83 ∨ f = 72 ∨ f = 82 ∨ f = 69 ∨ f = 0) → inS f ⟨#[85, 74, 73, 72, 82]⟩ = rdB f ∧ inS f ⟨#[73, 72, 66, 83, 82]⟩ = rs1B f ∧ inS f ⟨#[66, 83, 82]⟩ = rs2B f := by
  rintro f (rfl | rfl | rfl | rfl | rfl | rfl | rfl | rfl | rfl) <;> decide
set_option maxRecDepth 100000 in
theorem rreg_any (n : Int) (is : Bool) (w : World) : Calls Tryz.prog 58 #[.int .i64 n, .bool is] w fun e w' => e = .returned (.bool (regB is n)) ∧ w' = w := by
  have e0 : (n == 0) = decide (n = 0) := beq_dec n
  by_cases h0 : n = 0
  · have hr : regB is n = true := by unfold regB; simp [h0]
    have HR := Lib.hid hr
    have e1 : (n == 0) = true := by simpa using h0
    clear hr h0 e0
    go_enter Tryz.func58, Tryz.ntmps58
    go_wp2
    go_ret
    exact ⟨by rw [HR.out]; first | done | rfl, rfl⟩
  · have e1 : (n == 0) = false := by simpa using h0
    cases is
    · have hr : regB false n = false := by unfold regB; simp [h0]
      have HR := Lib.hid hr
      clear hr h0 e0
      go_enter Tryz.func58, Tryz.ntmps58
      go_wp2
      go_ret
      exact ⟨by rw [HR.out]; first | done | rfl, rfl⟩
    · by_cases h1 : 0 < n
      · have e2 : (decide (0 < n)) = true := by simpa using h1
        by_cases h2 : n < 32
        · have e3 : (decide (n < 32)) = true := by simpa using h2
          have hr : regB true n = true := by unfold regB; simp; omega
          have HR := Lib.hid hr
          clear hr h0 e0 h1 h2
          go_enter Tryz.func58, Tryz.ntmps58
          go_wp2
          go_ret
          exact ⟨by rw [HR.out]; first | done | rfl, rfl⟩
        · have e3 : (decide (n < 32)) = false := by simpa using h2
          have hr : regB true n = false := by unfold regB; simp; omega
          have HR := Lib.hid hr
          clear hr h0 e0 h1 h2
          go_enter Tryz.func58, Tryz.ntmps58
          go_wp2
          go_ret
          exact ⟨by rw [HR.out]; first | done | rfl, rfl⟩
      · have e2 : (decide (0 < n)) = false := by simpa using h1
        have hr : regB true n = false := by unfold regB; simp; omega
        have HR := Lib.hid hr
        clear hr h0 e0 h1
        go_enter Tryz.func58, Tryz.ntmps58
        go_wp2
        go_ret
        exact ⟨by rw [HR.out]; first | done | rfl, rfl⟩
def loI (f : Nat) : Int := if f = 74 then -1048576 else if f = 73 ∨ f = 83 then -2048 else if f = 66 then -4096 else 0
def hiI (f : Nat) : Int := if f = 85 then 1048575 else if f = 74 then 1048574 else if f = 73 ∨ f = 83 then 2047 else if f = 66 then 4094 else if f = 72 then 31 else 0
def stI (f : Nat) : Int := if f = 74 ∨ f = 66 then 2 else 1
set_option maxRecDepth 100000 in
theorem rspan_any (f : Nat) (hf : f = 85 ∨ f = 74 ∨ f = 73 ∨ f = 66 ∨ f = 83 ∨ f = 72 ∨ f = 82 ∨ f = 69 ∨ f = 0) (w : World) :
    Calls Tryz.prog 57 #[.int .u8 f] w fun e w' => e = .returned (.tuple #[.int .i64 (loI f), .int .i64 (hiI f), .int .i64 (stI f)]) ∧ w = w' := by
  rcases hf with rfl | rfl | rfl | rfl | rfl | rfl | rfl | rfl | rfl
  all_goals (
    go_enter Tryz.func57, Tryz.ntmps57
    go_wp2
    go_ret3
    exact ⟨rfl, rfl⟩)
theorem tmod_two (n : Int) : (n.tmod 2 = 0) ↔ n % 2 = 0 := by
  rw [← Int.dvd_iff_tmod_eq_zero, Int.dvd_iff_emod_eq_zero]
theorem numB_is (f : Nat) (hf : f = 85 ∨ f = 74 ∨ f = 73 ∨ f = 66 ∨ f = 83 ∨ f = 72 ∨ f = 82 ∨ f = 69 ∨ f = 0) (n : Int) : numB f n = (decide (loI f ≤ n) && decide (n ≤ hiI f) && (n.tmod (stI f) == 0)) := by
  have h2 := tmod_two n
  have h1 : n.tmod 1 = 0 := Int.tmod_one n
  rcases hf with rfl | rfl | rfl | rfl | rfl | rfl | rfl | rfl | rfl
  all_goals (
    rw [Bool.eq_iff_iff]
    simp [numB, loI, hiI, stI, h1, h2]
    try omega)
end Go.Proofs.YtaiggfknighhgaaGreatDoor
set_option linter.unusedVariables false
set_option linter.unusedSimpArgs false
namespace Go.Proofs.YtaiggfknighhgaaGreatDoor
open Go.RowKit

set_option maxRecDepth 100000 in
set_option maxHeartbeats 4000000 in
theorem rright_any (x : Ins) (w : World) : Calls Tryz.prog 26 #[.agg x.five.toArray] w fun e w' => e = .returned (.bool (rightI x)) ∧ Below w.heap.size w w' := by
  obtain ⟨op, rd, rs1, rs2, imm⟩ := x
  show Calls Tryz.prog 26 #[.agg #[.int .i64 op, .int .i64 rd, .int .i64 rs1, .int .i64 rs2, .int .i64 imm]] w _
  obtain ⟨z0, z1, z2, z3, z4⟩ := five_cells (blk_new w (.cells #[.int .i64 op, .int .i64 rd, .int .i64 rs1, .int .i64 rs2, .int .i64 imm] 31))
  have b1 := (Below.refl w.heap.size w).alloc (Nat.le_refl _) (.cells #[.int .i64 op, .int .i64 rd, .int .i64 rs1, .int .i64 rs2, .int .i64 imm] 31)
  have hF := rform_any op
  have hi := formI_is op
  unfold rightI
  dsimp only
  generalize formI op = f at hF hi ⊢
  obtain ⟨i1, i2, i3⟩ := inS_rd f hi
  have hS := rspan_any f hi
  have hI1 := rinS_any f ⟨#[85, 74, 73, 72, 82]⟩ (by decide)
  have hI2 := rinS_any f ⟨#[73, 72, 66, 83, 82]⟩ (by decide)
  have hI3 := rinS_any f ⟨#[66, 83, 82]⟩ (by decide)
  rw [i1] at hI1
  rw [i2] at hI2
  rw [i3] at hI3
  have hR1 := rreg_any rd (rdB f)
  have hR2 := rreg_any rs1 (rs1B f)
  have hR3 := rreg_any rs2 (rs2B f)
  have e0 : ((f : Int) != 0) = decide (f ≠ 0) := by by_cases h : f = 0 <;> simp [h]
  rw [numB_is f hi imm]
  have hst : stI f ≠ 0 := by unfold stI; split <;> decide
  generalize rdB f = r1 at *
  generalize rs1B f = r2 at *
  generalize rs2B f = r3 at *
  generalize regB r1 rd = g1 at *
  generalize regB r2 rs1 = g2 at *
  generalize regB r3 rs2 = g3 at *
  generalize decide (f ≠ 0) = g0 at *
  generalize loI f = lo at *
  generalize hiI f = hi' at *
  generalize stI f = st at *
  have e4 : decide (lo ≤ imm) = decide (lo ≤ imm) := rfl
  have e5 : decide (imm ≤ hi') = decide (imm ≤ hi') := rfl
  have e6 : (imm.tmod st == 0) = (imm.tmod st == 0) := rfl
  have hrem : ∀ w, (binOp .rem 3 (.int .i64 imm) (.int .i64 st)).run Tryz.prog w = .ok (.int .i64 (imm.tmod st)) w := fun w => by
    rw [binOp_rem]
    simp [Op.intDiv, hst]
  generalize hg4 : decide (lo ≤ imm) = g4 at e4 ⊢
  generalize hg5 : decide (imm ≤ hi') = g5 at e5 ⊢
  generalize hg6 : (imm.tmod st == 0) = g6 at e6 ⊢
  clear hi i1 i2 i3 e4 e5 e6
  go_enter Tryz.func26, Tryz.ntmps26
  go_wp2_with fail
  refine (hF _).mono ?_
  rintro r w2 ⟨rfl, rfl⟩
  go_wp2_with fail
  refine (hS _).mono ?_
  rintro r w2 ⟨rfl, rfl⟩
  clear hS hF
  go_wp2_with fail
  cases g0
  · go_quiet (first | (go_at_call 59; with_reducible refine Calls.quiet_of_same (hI1 _)) | (go_at_call 59; with_reducible refine Calls.quiet_of_same (hI2 _)) | (go_at_call 59; with_reducible refine Calls.quiet_of_same (hI3 _)) | (go_at_call 58; with_reducible refine Calls.quiet_of_same (hR1 _)) | (go_at_call 58; with_reducible refine Calls.quiet_of_same (hR2 _)) | (go_at_call 58; with_reducible refine Calls.quiet_of_same (hR3 _)))
    go_wp2_with fail
    go_ret
    exact ⟨rfl, below_drewN b1 nq⟩
  cases g1
  · go_quiet (first | (go_at_call 59; with_reducible refine Calls.quiet_of_same (hI1 _)) | (go_at_call 59; with_reducible refine Calls.quiet_of_same (hI2 _)) | (go_at_call 59; with_reducible refine Calls.quiet_of_same (hI3 _)) | (go_at_call 58; with_reducible refine Calls.quiet_of_same (hR1 _)) | (go_at_call 58; with_reducible refine Calls.quiet_of_same (hR2 _)) | (go_at_call 58; with_reducible refine Calls.quiet_of_same (hR3 _)))
    go_wp2_with fail
    go_ret
    exact ⟨rfl, below_drewN b1 nq⟩
  cases g2
  · go_quiet (first | (go_at_call 59; with_reducible refine Calls.quiet_of_same (hI1 _)) | (go_at_call 59; with_reducible refine Calls.quiet_of_same (hI2 _)) | (go_at_call 59; with_reducible refine Calls.quiet_of_same (hI3 _)) | (go_at_call 58; with_reducible refine Calls.quiet_of_same (hR1 _)) | (go_at_call 58; with_reducible refine Calls.quiet_of_same (hR2 _)) | (go_at_call 58; with_reducible refine Calls.quiet_of_same (hR3 _)))
    go_wp2_with fail
    go_ret
    exact ⟨rfl, below_drewN b1 nq⟩
  cases g3
  · go_quiet (first | (go_at_call 59; with_reducible refine Calls.quiet_of_same (hI1 _)) | (go_at_call 59; with_reducible refine Calls.quiet_of_same (hI2 _)) | (go_at_call 59; with_reducible refine Calls.quiet_of_same (hI3 _)) | (go_at_call 58; with_reducible refine Calls.quiet_of_same (hR1 _)) | (go_at_call 58; with_reducible refine Calls.quiet_of_same (hR2 _)) | (go_at_call 58; with_reducible refine Calls.quiet_of_same (hR3 _)))
    go_wp2_with fail
    go_ret
    exact ⟨rfl, below_drewN b1 nq⟩
  cases g4
  · go_quiet (first | (go_at_call 59; with_reducible refine Calls.quiet_of_same (hI1 _)) | (go_at_call 59; with_reducible refine Calls.quiet_of_same (hI2 _)) | (go_at_call 59; with_reducible refine Calls.quiet_of_same (hI3 _)) | (go_at_call 58; with_reducible refine Calls.quiet_of_same (hR1 _)) | (go_at_call 58; with_reducible refine Calls.quiet_of_same (hR2 _)) | (go_at_call 58; with_reducible refine Calls.quiet_of_same (hR3 _)))
    go_wp2_with fail
    go_ret
    exact ⟨rfl, below_drewN b1 nq⟩
  cases g5
  · go_quiet (first | (go_at_call 59; with_reducible refine Calls.quiet_of_same (hI1 _)) | (go_at_call 59; with_reducible refine Calls.quiet_of_same (hI2 _)) | (go_at_call 59; with_reducible refine Calls.quiet_of_same (hI3 _)) | (go_at_call 58; with_reducible refine Calls.quiet_of_same (hR1 _)) | (go_at_call 58; with_reducible refine Calls.quiet_of_same (hR2 _)) | (go_at_call 58; with_reducible refine Calls.quiet_of_same (hR3 _)))
    go_wp2_with fail
    go_ret
    exact ⟨rfl, below_drewN b1 nq⟩
  cases g6
  · go_quiet (first | (go_at_call 59; with_reducible refine Calls.quiet_of_same (hI1 _)) | (go_at_call 59; with_reducible refine Calls.quiet_of_same (hI2 _)) | (go_at_call 59; with_reducible refine Calls.quiet_of_same (hI3 _)) | (go_at_call 58; with_reducible refine Calls.quiet_of_same (hR1 _)) | (go_at_call 58; with_reducible refine Calls.quiet_of_same (hR2 _)) | (go_at_call 58; with_reducible refine Calls.quiet_of_same (hR3 _)))
    go_wp2_with fail
    go_ret
    exact ⟨by first | (simp; done) | (simp at hg6; simp [hg6]), below_drewN b1 nq⟩
  · go_quiet (first | (go_at_call 59; with_reducible refine Calls.quiet_of_same (hI1 _)) | (go_at_call 59; with_reducible refine Calls.quiet_of_same (hI2 _)) | (go_at_call 59; with_reducible refine Calls.quiet_of_same (hI3 _)) | (go_at_call 58; with_reducible refine Calls.quiet_of_same (hR1 _)) | (go_at_call 58; with_reducible refine Calls.quiet_of_same (hR2 _)) | (go_at_call 58; with_reducible refine Calls.quiet_of_same (hR3 _)))
    go_wp2_with fail
    go_ret
    exact ⟨by first | (simp; done) | (simp at hg6; simp [hg6]), below_drewN b1 nq⟩
end Go.Proofs.YtaiggfknighhgaaGreatDoor
set_option linter.unusedVariables false
set_option linter.unusedSimpArgs false
namespace Go.Proofs.YtaiggfknighhgaaGreatDoor
open Go.RowKit

def immL : List Nat := [27, 30, 31, 32, 35, 36, 29, 33, 34]
theorem immOp_at : ∀ j : Nat, j < 9 → immOp ((18 : Int) + j) = some (immL.getD j 0) := by decide
set_option maxRecDepth 100000 in
set_option maxHeartbeats 4000000 in
theorem rplain_any (op : Int) (w : World) : Calls Tryz.prog 25 #[.int .i64 op] w fun e w' => e = .returned (.tuple #[.int .i64 (((immOp op).getD 0 : Nat) : Int), .bool (immOp op).isSome]) ∧ Below w.heap.size w w' := by
  have b1 := (Below.refl w.heap.size w).alloc (Nat.le_refl _) (.cells #[.int .i64 18, .int .i64 19, .int .i64 20, .int .i64 21, .int .i64 22, .int .i64 23, .int .i64 24, .int .i64 25, .int .i64 26] 3)
  have b2 := b1.alloc (by simp) (.cells #[.int .i64 27, .int .i64 30, .int .i64 31, .int .i64 32, .int .i64 35, .int .i64 36, .int .i64 29, .int .i64 33, .int .i64 34] 3)
  have g1 := blk_alloc (blk_new w (.cells #[.int .i64 18, .int .i64 19, .int .i64 20, .int .i64 21, .int .i64 22, .int .i64 23, .int .i64 24, .int .i64 25, .int .i64 26] 3)) (.cells #[.int .i64 27, .int .i64 30, .int .i64 31, .int .i64 32, .int .i64 35, .int .i64 36, .int .i64 29, .int .i64 33, .int .i64 34] 3)
  have g2 := blk_new (w.alloc (.cells #[.int .i64 18, .int .i64 19, .int .i64 20, .int .i64 21, .int .i64 22, .int .i64 23, .int .i64 24, .int .i64 25, .int .i64 26] 3)) (.cells #[.int .i64 27, .int .i64 30, .int .i64 31, .int .i64 32, .int .i64 35, .int .i64 36, .int .i64 29, .int .i64 33, .int .i64 34] 3)
  rw [show (w.alloc (.cells #[.int .i64 18, .int .i64 19, .int .i64 20, .int .i64 21, .int .i64 22, .int .i64 23, .int .i64 24, .int .i64 25, .int .i64 26] 3)).heap.size = w.heap.size + 1 by simp] at g2
  have c1 : ∀ j : Nat, j < 9 → ((w.alloc (.cells #[.int .i64 18, .int .i64 19, .int .i64 20, .int .i64 21, .int .i64 22, .int .i64 23, .int .i64 24, .int .i64 25, .int .i64 26] 3)).alloc (.cells #[.int .i64 27, .int .i64 30, .int .i64 31, .int .i64 32, .int .i64 35, .int .i64 36, .int .i64 29, .int .i64 33, .int .i64 34] 3)).cell? ⟨w.heap.size, j, none⟩ = some (.int .i64 (18 + (j : Int))) := fun j hj => by
    rw [cell_of g1 j]
    have : ∀ j : Nat, j < 9 → (#[.int .i64 18, .int .i64 19, .int .i64 20, .int .i64 21, .int .i64 22, .int .i64 23, .int .i64 24, .int .i64 25, .int .i64 26] : Array Value)[j]? = some (.int .i64 (18 + (j : Int))) := by
      intro j hj
      rcases (by omega : j = 0 ∨ j = 1 ∨ j = 2 ∨ j = 3 ∨ j = 4 ∨ j = 5 ∨ j = 6 ∨ j = 7 ∨ j = 8) with rfl | rfl | rfl | rfl | rfl | rfl | rfl | rfl | rfl
      all_goals rfl
    exact this j hj
  have c2 : ∀ j : Nat, j < 9 → ((w.alloc (.cells #[.int .i64 18, .int .i64 19, .int .i64 20, .int .i64 21, .int .i64 22, .int .i64 23, .int .i64 24, .int .i64 25, .int .i64 26] 3)).alloc (.cells #[.int .i64 27, .int .i64 30, .int .i64 31, .int .i64 32, .int .i64 35, .int .i64 36, .int .i64 29, .int .i64 33, .int .i64 34] 3)).cell? ⟨w.heap.size + 1, j, none⟩ = some (.int .i64 (immL.getD j 0 : Nat)) := fun j hj => by
    rw [cell_of g2 j]
    have : ∀ j : Nat, j < 9 → (#[.int .i64 27, .int .i64 30, .int .i64 31, .int .i64 32, .int .i64 35, .int .i64 36, .int .i64 29, .int .i64 33, .int .i64 34] : Array Value)[j]? = some (.int .i64 (immL.getD j 0 : Nat)) := by
      intro j hj
      rcases (by omega : j = 0 ∨ j = 1 ∨ j = 2 ∨ j = 3 ∨ j = 4 ∨ j = 5 ∨ j = 6 ∨ j = 7 ∨ j = 8) with rfl | rfl | rfl | rfl | rfl | rfl | rfl | rfl | rfl
      all_goals rfl
    exact this j hj
  clear g1 g2 b1
  go_enter Tryz.func25, Tryz.ntmps25
  go_wp2_with fail
  generalize (w.alloc (.cells #[.int .i64 18, .int .i64 19, .int .i64 20, .int .i64 21, .int .i64 22, .int .i64 23, .int .i64 24, .int .i64 25, .int .i64 26] 3)).alloc (.cells #[.int .i64 27, .int .i64 30, .int .i64 31, .int .i64 32, .int .i64 35, .int .i64 36, .int .i64 29, .int .i64 33, .int .i64 34] 3) = wa at *
  go_loopw [6] (fun i wr => ∃ j : Nat, j ≤ 9 ∧ i = .int .i64 j ∧ (∀ k : Nat, k < j → (18 : Int) + k ≠ op) ∧ wa = wr) (fun i _ => 9 - (intOf i).toNat)
  case atStart => exact ⟨0, by omega, rfl, fun k h => absurd h (by omega), rfl⟩
  case round =>
    obtain ⟨j, hj, rfl, hno, rfl⟩ := hrel
    by_cases hlt : j < 9
    · have hlt' : (j : Int) < 9 := by omega
      have x1 := c1 j hlt
      have x2 := c2 j hlt
      by_cases he : (18 : Int) + j = op
      · have hI : immOp op = some (immL.getD j 0) := by rw [← he]; exact immOp_at j hlt
        have e0 : ((18 : Int) + (j : Int) == op) = true := by simpa using he
        have HI := Lib.hid hI
        clear he hI hno c1 c2
        generalize immL.getD j 0 = k at *
        go_wp2_with fail
        go_ret2
        exact ⟨by rw [HI.out]; rfl, b2⟩
      · have e0 : ((18 : Int) + (j : Int) == op) = false := by simpa using he
        have hm : ∀ k : Nat, k < j + 1 → (18 : Int) + k ≠ op := fun k h => by
          rcases Nat.lt_succ_iff_lt_or_eq.1 h with h2 | h2
          · exact hno k h2
          · subst h2; exact he
        clear he hno c1 c2
        go_wp2_with fail
        go_roundw
        case rel => exact ⟨j + 1, by omega, by go_num, hm, by first | rfl | trivial⟩
        case measure => simp [intOf]; omega
    · have hlt' : ¬ (j : Int) < 9 := by omega
      have hI : immOp op = none := immOp_none fun h => hno (op - 18).toNat (by omega) (by omega)
      have HI := Lib.hid hI
      clear hI hno c1 c2
      go_wp2_with fail
      go_ret2
      exact ⟨by rw [HI.out]; rfl, b2⟩
end Go.Proofs.YtaiggfknighhgaaGreatDoor
set_option linter.unusedVariables false
set_option linter.unusedSimpArgs false
namespace Go.Proofs.YtaiggfknighhgaaGreatDoor
open Go.RowKit Go.Maps Go.MapKept

theorem cpuV_size (g : Nat → Nat) (pc : Nat) : (cpuV g pc).size = 33 := by simp [cpuV, regsV_size]
theorem cpuV_get (g : Nat → Nat) (pc : Nat) {r : Nat} (h : r < 32) : (cpuV g pc)[r]? = some (.int .u32 (g r : Nat)) := by
  unfold cpuV
  rw [Array.getElem?_push, if_neg (by rw [regsV_size]; omega)]
  exact regsV_get g h
theorem cpuV_pc (g : Nat → Nat) (pc : Nat) : (cpuV g pc)[32]? = some (.int .u32 (pc : Nat)) := by
  unfold cpuV
  rw [Array.getElem?_push, if_pos (by rw [regsV_size])]
theorem cpuV_out (g : Nat → Nat) (pc : Nat) {r : Nat} (h : ¬ r < 33) : (cpuV g pc)[r]? = none := Array.getElem?_eq_none (by rw [cpuV_size]; omega)
theorem cpuV_set (g : Nat → Nat) (pc : Nat) {r : Nat} (h : r < 32) (v : Nat) : (cpuV g pc).setIfInBounds r (.int .u32 (v : Nat)) = cpuV (fun q => if q = r then v else g q) pc := by
  apply Array.ext_getElem?
  intro i
  rw [Array.getElem?_setIfInBounds, cpuV_size]
  by_cases hi : i < 32
  · rw [cpuV_get _ _ hi, cpuV_get _ _ hi]
    by_cases e : r = i
    · rw [if_pos e, if_pos (by omega), if_pos e.symm]
    · rw [if_neg e, if_neg fun h => e h.symm]
  · rw [if_neg (by omega)]
    by_cases e : i = 32
    · rw [e, cpuV_pc, cpuV_pc]
    · rw [cpuV_out _ _ (by omega), cpuV_out _ _ (by omega)]
theorem cpuV_setpc (g : Nat → Nat) (pc v : Nat) : (cpuV g pc).setIfInBounds 32 (.int .u32 (v : Nat)) = cpuV g v := by
  apply Array.ext_getElem?
  intro i
  rw [Array.getElem?_setIfInBounds, cpuV_size]
  by_cases hi : i < 32
  · rw [if_neg (by omega), cpuV_get _ _ hi, cpuV_get _ _ hi]
  · by_cases e : i = 32
    · rw [if_pos e.symm, if_pos (by omega), e, cpuV_pc]
    · rw [if_neg (by omega), cpuV_out _ _ (by omega), cpuV_out _ _ (by omega)]
theorem cpuV_one (g : Nat → Nat) (pc : Nat) : (cpuV g pc).all (·.oneCell') = true := by
  rw [Array.all_eq_true]
  intro i hi
  rw [cpuV_size] at hi
  by_cases h : i < 32
  · have := cpuV_get g pc h
    rw [Array.getElem?_eq_getElem (by rw [cpuV_size]; omega)] at this
    injection this with this
    rw [this]
    rfl
  · have := cpuV_pc g pc
    obtain rfl : i = 32 := by omega
    rw [Array.getElem?_eq_getElem (by rw [cpuV_size]; omega)] at this
    injection this with this
    rw [this]
    rfl
theorem cpuV_zero : (#[.int .u32 0, .int .u32 0, .int .u32 0, .int .u32 0, .int .u32 0, .int .u32 0, .int .u32 0, .int .u32 0, .int .u32 0, .int .u32 0, .int .u32 0, .int .u32 0, .int .u32 0, .int .u32 0, .int .u32 0, .int .u32 0, .int .u32 0, .int .u32 0, .int .u32 0, .int .u32 0, .int .u32 0, .int .u32 0, .int .u32 0, .int .u32 0, .int .u32 0, .int .u32 0, .int .u32 0, .int .u32 0, .int .u32 0, .int .u32 0, .int .u32 0, .int .u32 0, .int .u32 0] : Array Value) = cpuV (fun _ => 0) 0 := by kernel_rfl
theorem info_cpu : (Tryz.prog.info? 45).map (·.size) = some 33 := by kernel_rfl
theorem below_row {B : Nat} {w W : World} (h : Below B w W) {g : Nat} (hB : B ≤ g) (cs : Array Value) : Below B w (W.setRow g cs) :=
  ⟨h.os, h.tape, h.output, by rw [setRow_size]; exact h.size, fun i hi => (setRow_other W g i cs (by omega)).trans (h.block i hi)⟩
theorem pc_add (pc : Nat) : ((pc : Int) + 4) % 4294967296 = (((pc + 4) % 4294967296 : Nat) : Int) := by omega
set_option maxRecDepth 100000 in
theorem rset_any (g : Nat → Nat) (pc rd v : Nat) (hrd : rd < 32) (w : World) :
    Calls Tryz.prog 38 #[.agg (cpuV g pc), .int .i64 rd, .int .u32 v] w fun e w' => e = .returned (.agg (cpuV (setR g rd v) ((pc + 4) % 4294967296))) ∧ Below w.heap.size w w' := by
  have b1 := (Below.refl w.heap.size w).alloc (Nat.le_refl _) (.cells (cpuV g pc) 45)
  have b2 := b1.alloc (by simp) (.cells #[.int .u32 0, .int .u32 0, .int .u32 0, .int .u32 0, .int .u32 0, .int .u32 0, .int .u32 0, .int .u32 0, .int .u32 0, .int .u32 0, .int .u32 0, .int .u32 0, .int .u32 0, .int .u32 0, .int .u32 0, .int .u32 0, .int .u32 0, .int .u32 0, .int .u32 0, .int .u32 0, .int .u32 0, .int .u32 0, .int .u32 0, .int .u32 0, .int .u32 0, .int .u32 0, .int .u32 0, .int .u32 0, .int .u32 0, .int .u32 0, .int .u32 0, .int .u32 0, .int .u32 0] 45)
  have hc := blk_alloc (blk_new w (.cells (cpuV g pc) 45)) (.cells #[.int .u32 0, .int .u32 0, .int .u32 0, .int .u32 0, .int .u32 0, .int .u32 0, .int .u32 0, .int .u32 0, .int .u32 0, .int .u32 0, .int .u32 0, .int .u32 0, .int .u32 0, .int .u32 0, .int .u32 0, .int .u32 0, .int .u32 0, .int .u32 0, .int .u32 0, .int .u32 0, .int .u32 0, .int .u32 0, .int .u32 0, .int .u32 0, .int .u32 0, .int .u32 0, .int .u32 0, .int .u32 0, .int .u32 0, .int .u32 0, .int .u32 0, .int .u32 0, .int .u32 0] 45)
  have hz := blk_new (w.alloc (.cells (cpuV g pc) 45)) (.cells #[.int .u32 0, .int .u32 0, .int .u32 0, .int .u32 0, .int .u32 0, .int .u32 0, .int .u32 0, .int .u32 0, .int .u32 0, .int .u32 0, .int .u32 0, .int .u32 0, .int .u32 0, .int .u32 0, .int .u32 0, .int .u32 0, .int .u32 0, .int .u32 0, .int .u32 0, .int .u32 0, .int .u32 0, .int .u32 0, .int .u32 0, .int .u32 0, .int .u32 0, .int .u32 0, .int .u32 0, .int .u32 0, .int .u32 0, .int .u32 0, .int .u32 0, .int .u32 0, .int .u32 0] 45)
  rw [show (w.alloc (.cells (cpuV g pc) 45)).heap.size = w.heap.size + 1 by simp] at hz
  have hs2 : ((w.alloc (.cells (cpuV g pc) 45)).alloc (.cells #[.int .u32 0, .int .u32 0, .int .u32 0, .int .u32 0, .int .u32 0, .int .u32 0, .int .u32 0, .int .u32 0, .int .u32 0, .int .u32 0, .int .u32 0, .int .u32 0, .int .u32 0, .int .u32 0, .int .u32 0, .int .u32 0, .int .u32 0, .int .u32 0, .int .u32 0, .int .u32 0, .int .u32 0, .int .u32 0, .int .u32 0, .int .u32 0, .int .u32 0, .int .u32 0, .int .u32 0, .int .u32 0, .int .u32 0, .int .u32 0, .int .u32 0, .int .u32 0, .int .u32 0] 45)).heap.size = w.heap.size + 2 := by simp
  have e1 := pc_add pc
  obtain ⟨G, hG⟩ : ∃ G, setR g (rd : Int) v = G := ⟨_, rfl⟩
  rw [hG]
  generalize (pc + 4) % 4294967296 = p at *
  go_enter Tryz.func38, Tryz.ntmps38
  go_upto_region 1 with fail
  generalize (w.alloc (.cells (cpuV g pc) 45)).alloc (.cells #[.int .u32 0, .int .u32 0, .int .u32 0, .int .u32 0, .int .u32 0, .int .u32 0, .int .u32 0, .int .u32 0, .int .u32 0, .int .u32 0, .int .u32 0, .int .u32 0, .int .u32 0, .int .u32 0, .int .u32 0, .int .u32 0, .int .u32 0, .int .u32 0, .int .u32 0, .int .u32 0, .int .u32 0, .int .u32 0, .int .u32 0, .int .u32 0, .int .u32 0, .int .u32 0, .int .u32 0, .int .u32 0, .int .u32 0, .int .u32 0, .int .u32 0, .int .u32 0, .int .u32 0] 45) = W at *
  rw [cpuV_zero] at hz
  clear b1 hs2
  by_cases hr0 : rd = 0
  · subst hr0
    obtain rfl : g = G := by rw [← hG]; exact (show setR g (((0 : Nat)) : Int) v = g from if_pos rfl).symm
    have hb0 : (decide ((0 : Int) < ((0 : Nat) : Int))) = false := rfl
    have c32 : W.cell? ⟨w.heap.size, 32, none⟩ = some (.int .u32 pc) := (cell_of hc 32).trans (cpuV_pc g pc)
    have f32 := frozen_of hc 32
    have hs := blk_set hc 32 (.int .u32 ((p : Nat) : Int))
    rw [cpuV_setpc] at hs
    have hz2 : (W.setCell ⟨w.heap.size, 32, none⟩ (.int .u32 ((p : Nat) : Int))).heap[w.heap.size + 1]? = _ := (kept_set W w.heap.size 32 _).blk (by show _ ≠ _; omega) hz
    have bs := b2.grown (grown_set W w.heap.size 32 (.int .u32 ((p : Nat) : Int))) b2.size (fun k e => by cases e; omega)
    go_wp2_with (first | (refine wpList_load_row rfl 45 (.tmp 3) rfl w.heap.size rfl 45 (cpuV g p) (0, 0) _ hs Tryz.underlying45 rfl (by rw [cpuV_size]; exact info_cpu) ?_) | (refine wpList_store_row rfl 45 (.tmp 6) (.tmp 17) rfl (w.heap.size + 1) (cpuV g p) rfl rfl 45 _ hz2 (by rw [cpuV_size]; exact info_cpu) (by rw [cpuV_size, cpuV_size]) (cpuV_one g p) ?_) | fail)
    exact bodyPost_ret (v := .agg (cpuV g p)) (results_cell_row rfl _ _ (w.heap.size + 1) 45 (cpuV g p) (0, 0) _ rfl (setRow_heap _ _ _ _ _ _ hz2) Tryz.underlying45 rfl (by rw [cpuV_size]; exact info_cpu)) rfl ⟨rfl, below_row bs (by omega) _⟩
  · have hb0 : (0 : Int) < (rd : Int) := by omega
    have hrl : (rd : Int) < 32 := by omega
    have cr : W.cell? ⟨w.heap.size, rd, none⟩ = some (.int .u32 (g rd : Nat)) := (cell_of hc rd).trans (cpuV_get g pc hrd)
    have fr := frozen_of hc rd
    have h1 := blk_set hc rd (.int .u32 (v : Nat))
    rw [cpuV_set g pc hrd] at h1
    have hz1 : (W.setCell ⟨w.heap.size, rd, none⟩ (.int .u32 (v : Nat))).heap[w.heap.size + 1]? = _ := (kept_set W w.heap.size rd _).blk (by show _ ≠ _; omega) hz
    have b3 := b2.grown (grown_set W w.heap.size rd (.int .u32 (v : Nat))) b2.size (fun k e => by cases e; omega)
    have hR : setR g (rd : Int) v = fun q => if q = rd then v else g q := by
      unfold setR
      rw [if_neg (by omega)]
      rfl
    rw [← hR, hG] at h1
    clear hc hz b2 hR hG
    go_upto_region 3 with fail
    generalize W.setCell ⟨w.heap.size, rd, none⟩ (.int .u32 (v : Nat)) = W1 at *
    clear cr fr
    have c32 : W1.cell? ⟨w.heap.size, 32, none⟩ = some (.int .u32 pc) := (cell_of h1 32).trans (cpuV_pc G pc)
    have f32 := frozen_of h1 32
    have hs := blk_set h1 32 (.int .u32 ((p : Nat) : Int))
    rw [cpuV_setpc] at hs
    have hz2 : (W1.setCell ⟨w.heap.size, 32, none⟩ (.int .u32 ((p : Nat) : Int))).heap[w.heap.size + 1]? = _ := (kept_set W1 w.heap.size 32 _).blk (by show _ ≠ _; omega) hz1
    have bs := b3.grown (grown_set W1 w.heap.size 32 (.int .u32 ((p : Nat) : Int))) b3.size (fun k e => by cases e; omega)
    go_wp2_with (first | (refine wpList_load_row rfl 45 (.tmp 3) rfl w.heap.size rfl 45 (cpuV G p) (0, 0) _ hs Tryz.underlying45 rfl (by rw [cpuV_size]; exact info_cpu) ?_) | (refine wpList_store_row rfl 45 (.tmp 6) (.tmp 17) rfl (w.heap.size + 1) (cpuV G p) rfl rfl 45 _ hz2 (by rw [cpuV_size]; exact info_cpu) (by rw [cpuV_size, cpuV_size]) (cpuV_one G p) ?_) | fail)
    exact bodyPost_ret (v := .agg (cpuV G p)) (results_cell_row rfl _ _ (w.heap.size + 1) 45 (cpuV G p) (0, 0) _ rfl (setRow_heap _ _ _ _ _ _ hz2) Tryz.underlying45 rfl (by rw [cpuV_size]; exact info_cpu)) rfl ⟨rfl, below_row bs (by omega) _⟩
end Go.Proofs.YtaiggfknighhgaaGreatDoor
set_option linter.unusedVariables false
set_option linter.unusedSimpArgs false
namespace Go.Proofs.YtaiggfknighhgaaGreatDoor
open Go.RowKit Go.Maps Go.MapKept

theorem opOk_form {op : Int} (h0 : op ≠ 0) (h1 : op ≠ 1) (hn : immOp op = none) : opOk op = decide (formI op = 82) := by
  rw [Bool.eq_iff_iff, decide_eq_true_eq]
  constructor
  · intro h
    obtain ⟨n, rfl, hk⟩ := opOk_nat h
    have := op_cases hk
    exact formI_range (by omega)
  · intro h
    have := formI_82 h
    obtain ⟨n, rfl⟩ : ∃ n : Nat, op = n := ⟨op.toNat, by omega⟩
    exact opOk_cast (doW_range (by omega) (by omega))
/-- A machine behind an instruction that can be lifted. -/
def nextG (g : Nat → Nat) (x : Ins) (pc : Nat) : Nat → Nat := setR (zero1 g) x.rd (valI (zero1 g) x pc)
theorem zero1_lt {g : Nat → Nat} (hg : ∀ r, g r < 4294967296) (r : Nat) : zero1 g r < 4294967296 := by
  unfold zero1
  split
  · omega
  · exact hg r
def doesV (g : Nat → Nat) (pc : Nat) (x : Ins) : Array Value := if plainI x = true then cpuV (nextG g x pc) ((pc + 4) % 4294967296) else cpuV (zero1 g) pc
theorem doesV_no {g : Nat → Nat} {pc : Nat} {x : Ins} (h : plainI x = false) : doesV g pc x = cpuV (zero1 g) pc := if_neg (by rw [h]; decide)
theorem doesV_yes {g : Nat → Nat} {pc : Nat} {x : Ins} (h : plainI x = true) : doesV g pc x = cpuV (nextG g x pc) ((pc + 4) % 4294967296) := if_pos h
set_option maxRecDepth 100000 in
set_option maxHeartbeats 4000000 in
theorem rdoes_any (g : Nat → Nat) (pc : Nat) (x : Ins) (hg : ∀ r, g r < 4294967296) (hpc : pc < 4294967296) (w : World) :
    Calls Tryz.prog 16 #[.agg (cpuV g pc), .agg x.five.toArray] w fun e w' => e = .returned (.tuple #[.agg (doesV g pc x), .bool (plainI x)]) ∧ Below w.heap.size w w' := by
  have hR := rright_any x
  have hP := rplain_any x.op
  have hD : doesV g pc x = doesV g pc x := rfl
  generalize hV : doesV g pc x = V at hD
  have HV := Lib.hid hV
  generalize hB : plainI x = pl
  have HB := Lib.hid hB
  clear hV hB hD
  have hz1 := zero1_lt hg
  obtain ⟨op, rd, rs1, rs2, imm⟩ := x
  show Calls Tryz.prog 16 #[.agg (cpuV g pc), .agg #[.int .i64 op, .int .i64 rd, .int .i64 rs1, .int .i64 rs2, .int .i64 imm]] w _
  change ∀ w, Calls Tryz.prog 26 #[.agg #[.int .i64 op, .int .i64 rd, .int .i64 rs1, .int .i64 rs2, .int .i64 imm]] w _ at hR
  dsimp only at hP
  have b1 := (Below.refl w.heap.size w).alloc (Nat.le_refl _) (.cells (cpuV g pc) 45)
  have b2 := b1.alloc (by simp) (.cells #[.int .i64 op, .int .i64 rd, .int .i64 rs1, .int .i64 rs2, .int .i64 imm] 31)
  have b3 := b2.alloc (by simp; omega) (.cells #[.int .u32 0, .int .u32 0, .int .u32 0, .int .u32 0, .int .u32 0, .int .u32 0, .int .u32 0, .int .u32 0, .int .u32 0, .int .u32 0, .int .u32 0, .int .u32 0, .int .u32 0, .int .u32 0, .int .u32 0, .int .u32 0, .int .u32 0, .int .u32 0, .int .u32 0, .int .u32 0, .int .u32 0, .int .u32 0, .int .u32 0, .int .u32 0, .int .u32 0, .int .u32 0, .int .u32 0, .int .u32 0, .int .u32 0, .int .u32 0, .int .u32 0, .int .u32 0, .int .u32 0] 45)
  have hc := blk_alloc (blk_alloc (blk_new w (.cells (cpuV g pc) 45)) (.cells #[.int .i64 op, .int .i64 rd, .int .i64 rs1, .int .i64 rs2, .int .i64 imm] 31)) (.cells #[.int .u32 0, .int .u32 0, .int .u32 0, .int .u32 0, .int .u32 0, .int .u32 0, .int .u32 0, .int .u32 0, .int .u32 0, .int .u32 0, .int .u32 0, .int .u32 0, .int .u32 0, .int .u32 0, .int .u32 0, .int .u32 0, .int .u32 0, .int .u32 0, .int .u32 0, .int .u32 0, .int .u32 0, .int .u32 0, .int .u32 0, .int .u32 0, .int .u32 0, .int .u32 0, .int .u32 0, .int .u32 0, .int .u32 0, .int .u32 0, .int .u32 0, .int .u32 0, .int .u32 0] 45)
  have hi := blk_alloc (blk_new (w.alloc (.cells (cpuV g pc) 45)) (.cells #[.int .i64 op, .int .i64 rd, .int .i64 rs1, .int .i64 rs2, .int .i64 imm] 31)) (.cells #[.int .u32 0, .int .u32 0, .int .u32 0, .int .u32 0, .int .u32 0, .int .u32 0, .int .u32 0, .int .u32 0, .int .u32 0, .int .u32 0, .int .u32 0, .int .u32 0, .int .u32 0, .int .u32 0, .int .u32 0, .int .u32 0, .int .u32 0, .int .u32 0, .int .u32 0, .int .u32 0, .int .u32 0, .int .u32 0, .int .u32 0, .int .u32 0, .int .u32 0, .int .u32 0, .int .u32 0, .int .u32 0, .int .u32 0, .int .u32 0, .int .u32 0, .int .u32 0, .int .u32 0] 45)
  have hz := blk_new ((w.alloc (.cells (cpuV g pc) 45)).alloc (.cells #[.int .i64 op, .int .i64 rd, .int .i64 rs1, .int .i64 rs2, .int .i64 imm] 31)) (.cells #[.int .u32 0, .int .u32 0, .int .u32 0, .int .u32 0, .int .u32 0, .int .u32 0, .int .u32 0, .int .u32 0, .int .u32 0, .int .u32 0, .int .u32 0, .int .u32 0, .int .u32 0, .int .u32 0, .int .u32 0, .int .u32 0, .int .u32 0, .int .u32 0, .int .u32 0, .int .u32 0, .int .u32 0, .int .u32 0, .int .u32 0, .int .u32 0, .int .u32 0, .int .u32 0, .int .u32 0, .int .u32 0, .int .u32 0, .int .u32 0, .int .u32 0, .int .u32 0, .int .u32 0] 45)
  rw [show (w.alloc (.cells (cpuV g pc) 45)).heap.size = w.heap.size + 1 by simp] at hi
  rw [show ((w.alloc (.cells (cpuV g pc) 45)).alloc (.cells #[.int .i64 op, .int .i64 rd, .int .i64 rs1, .int .i64 rs2, .int .i64 imm] 31)).heap.size = w.heap.size + 2 by simp] at hz
  go_enter Tryz.func16, Tryz.ntmps16
  go_upto_region 1 with fail
  generalize ((w.alloc (.cells (cpuV g pc) 45)).alloc (.cells #[.int .i64 op, .int .i64 rd, .int .i64 rs1, .int .i64 rs2, .int .i64 imm] 31)).alloc (.cells #[.int .u32 0, .int .u32 0, .int .u32 0, .int .u32 0, .int .u32 0, .int .u32 0, .int .u32 0, .int .u32 0, .int .u32 0, .int .u32 0, .int .u32 0, .int .u32 0, .int .u32 0, .int .u32 0, .int .u32 0, .int .u32 0, .int .u32 0, .int .u32 0, .int .u32 0, .int .u32 0, .int .u32 0, .int .u32 0, .int .u32 0, .int .u32 0, .int .u32 0, .int .u32 0, .int .u32 0, .int .u32 0, .int .u32 0, .int .u32 0, .int .u32 0, .int .u32 0, .int .u32 0] 45) = W at *
  rw [cpuV_zero] at hz
  have cr : W.cell? ⟨w.heap.size, 0, none⟩ = some (.int .u32 (g 0 : Nat)) := (cell_of hc 0).trans (cpuV_get g pc (by omega))
  have fr := frozen_of hc 0
  have h1 := blk_set hc 0 (.int .u32 ((0 : Nat) : Int))
  rw [cpuV_set g pc (by omega)] at h1
  have hi1 : (W.setCell ⟨w.heap.size, 0, none⟩ (.int .u32 ((0 : Nat) : Int))).heap[w.heap.size + 1]? = _ := (kept_set W w.heap.size 0 _).blk (by show _ ≠ _; omega) hi
  have hz0 : (W.setCell ⟨w.heap.size, 0, none⟩ (.int .u32 ((0 : Nat) : Int))).heap[w.heap.size + 2]? = _ := (kept_set W w.heap.size 0 _).blk (by show _ ≠ _; omega) hz
  have b4 := b3.grown (grown_set W w.heap.size 0 (.int .u32 ((0 : Nat) : Int))) b3.size (fun k e => by cases e; omega)
  rw [show (fun q => if q = 0 then (0 : Nat) else g q) = zero1 g from rfl] at h1
  rw [show ((0 : Nat) : Int) = 0 from rfl] at h1 hi1 hz0 b4
  clear b1 b2 b3 hc hi hz
  go_upto_region 2 with fail
  generalize W.setCell ⟨w.heap.size, 0, none⟩ (.int .u32 0) = W1 at *
  clear cr fr
  generalize hzg : zero1 g = z at *
  obtain ⟨z0, z1, z2, z3, z4⟩ := five_cells hi1
  generalize hrg : rightI ⟨op, rd, rs1, rs2, imm⟩ = rg at hR
  go_wp2_with fail
  refine (hR _).mono ?_
  rintro rr w2 ⟨rfl, b5⟩
  have h2 := blk_below h1 b5
  have hz2 := blk_below hz0 b5
  have y0 := cell_below b5 z0
  have y1 := cell_below b5 z1
  have y2 := cell_below b5 z2
  have y3 := cell_below b5 z3
  have y4 := cell_below b5 z4
  have bw := below_then b4 b5
  clear hR h1 hz0 hi1 z0 z1 z2 z3 z4 b4 b5
  cases rg with
  | false =>
    have hpf : plainI ⟨op, rd, rs1, rs2, imm⟩ = false := by unfold plainI; rw [hrg]; rfl
    have hpe : pl = false := by rw [← HB.out]; exact hpf
    have hVe : V = cpuV z pc := by rw [← HV.out, doesV_no hpf, hzg]
    subst hpe
    clear hrg hpf hzg
    go_wp2_with (first | (refine wpList_load_row rfl 45 (.tmp 2) rfl w.heap.size rfl 45 (cpuV z pc) (0, 0) _ h2 Tryz.underlying45 rfl (by rw [cpuV_size]; exact info_cpu) ?_) | (refine wpList_store_row rfl 45 (.tmp 4) (.tmp 18) rfl (w.heap.size + 2) (cpuV z pc) rfl rfl 45 _ hz2 (by rw [cpuV_size]; exact info_cpu) (by rw [cpuV_size, cpuV_size]) (cpuV_one _ _) ?_) | fail)
    exact bodyPost_ret (results_arr2 rfl _ _ (w.heap.size + 2) 45 (cpuV z pc) (0, 0) _ _ rfl rfl (setRow_heap _ _ _ _ _ _ hz2) Tryz.underlying45 rfl (by rw [cpuV_size]; exact info_cpu)) rfl ⟨by rw [hVe]; first | done | rfl, below_row bw (by omega) _⟩
  | true =>
    obtain ⟨g1, g2, g3⟩ := rightI_regs hrg
    dsimp only at g1 g2 g3
    obtain ⟨r, rfl⟩ : ∃ r : Nat, rd = r := ⟨rd.toNat, by omega⟩
    obtain ⟨r1, rfl⟩ : ∃ r : Nat, rs1 = r := ⟨rs1.toNat, by omega⟩
    obtain ⟨r2, rfl⟩ : ∃ r : Nat, rs2 = r := ⟨rs2.toNat, by omega⟩
    have hup := up_eq imm
    have hul := up_lt imm
    by_cases c0 : op = 0
    · subst c0
      have hpt : plainI ⟨0, r, r1, r2, imm⟩ = true := by unfold plainI; rw [hrg]; rfl
      have hpe : pl = true := by rw [← HB.out]; exact hpt
      have hVe : V = cpuV (setR z r (up imm)) ((pc + 4) % 4294967296) := by rw [← HV.out, doesV_yes hpt]; unfold nextG; rw [hzg]; rfl
      subst hpe
      clear hrg hpt hP hzg
      generalize up imm = u at *
      go_wp2_with (first | (refine wpList_load_row rfl 45 (.tmp 2) rfl w.heap.size rfl 45 (cpuV z pc) (0, 0) _ h2 Tryz.underlying45 rfl (by rw [cpuV_size]; exact info_cpu) ?_) | fail)
      refine (rset_any z pc r (u) (by omega) _).mono ?_
      rintro rr w4 ⟨rfl, b6⟩
      have hz4 := blk_below hz2 b6
      have bz := below_then bw b6
      go_wp2_with (first | (refine wpList_store_row rfl 45 (.tmp 4) (.tmp 30) rfl (w.heap.size + 2) (cpuV (setR z r u) ((pc + 4) % 4294967296)) rfl rfl 45 _ hz4 (by rw [cpuV_size]; exact info_cpu) (by rw [cpuV_size, cpuV_size]) (cpuV_one _ _) ?_) | fail)
      exact bodyPost_ret (results_arr2 rfl _ _ (w.heap.size + 2) 45 (cpuV (setR z r u) ((pc + 4) % 4294967296)) (0, 0) _ _ rfl rfl (setRow_heap _ _ _ _ _ _ hz4) Tryz.underlying45 rfl (by rw [cpuV_size]; exact info_cpu)) rfl ⟨by rw [hVe]; first | done | rfl, below_row bz (by omega) _⟩
    by_cases c1 : op = 1
    · subst c1
      have hpt : plainI ⟨1, r, r1, r2, imm⟩ = true := by unfold plainI; rw [hrg]; rfl
      have hpe : pl = true := by rw [← HB.out]; exact hpt
      have hVe : V = cpuV (setR z r ((up imm + pc) % 4294967296)) ((pc + 4) % 4294967296) := by rw [← HV.out, doesV_yes hpt]; unfold nextG; rw [hzg]; rfl
      subst hpe
      clear hrg hpt hP hzg
      generalize up imm = u at *
      have c32 : w2.cell? ⟨w.heap.size, 32, none⟩ = some (.int .u32 pc) := (cell_of h2 32).trans (cpuV_pc z pc)
      have hsum : ((pc : Int) + (u : Int)) % 4294967296 = (((u + pc) % 4294967296 : Nat) : Int) := by omega
      generalize (u + pc) % 4294967296 = v at *
      go_wp2_with (first | (refine wpList_load_row rfl 45 (.tmp 2) rfl w.heap.size rfl 45 (cpuV z pc) (0, 0) _ h2 Tryz.underlying45 rfl (by rw [cpuV_size]; exact info_cpu) ?_) | fail)
      refine (rset_any z pc r (v) (by omega) _).mono ?_
      rintro rr w4 ⟨rfl, b6⟩
      have hz4 := blk_below hz2 b6
      have bz := below_then bw b6
      go_wp2_with (first | (refine wpList_store_row rfl 45 (.tmp 4) (.tmp 41) rfl (w.heap.size + 2) (cpuV (setR z r v) ((pc + 4) % 4294967296)) rfl rfl 45 _ hz4 (by rw [cpuV_size]; exact info_cpu) (by rw [cpuV_size, cpuV_size]) (cpuV_one _ _) ?_) | fail)
      exact bodyPost_ret (results_arr2 rfl _ _ (w.heap.size + 2) 45 (cpuV (setR z r v) ((pc + 4) % 4294967296)) (0, 0) _ _ rfl rfl (setRow_heap _ _ _ _ _ _ hz4) Tryz.underlying45 rfl (by rw [cpuV_size]; exact info_cpu)) rfl ⟨by rw [hVe]; first | done | rfl, below_row bz (by omega) _⟩
    have e0 : (op == 0) = false := by simpa using c0
    have e1 : (op == 1) = false := by simpa using c1
    have k2 : (r2 : Int) < 32 := by omega
    have k1 : (r1 : Int) < 32 := by omega
    have cb : w2.cell? ⟨w.heap.size, r2, none⟩ = some (.int .u32 (z r2 : Nat)) := (cell_of h2 r2).trans (cpuV_get z pc (by omega))
    go_wp2_with fail
    go_quiet (fail)
    have hd : ∀ (W : World) n, Below W.heap.size W (W.drewN n) := fun W n => below_drewN (Below.refl _ W) n
    have h3 := blk_below h2 (hd _ nq)
    have hz3 := blk_below hz2 (hd _ nq)
    have x0 := cell_below (hd _ nq) y0
    have x1 := cell_below (hd _ nq) y1
    have x2 := cell_below (hd _ nq) y2
    have x4 := cell_below (hd _ nq) y4
    have bx := below_then bw (hd _ nq)
    clear h2 hz2 y0 y1 y2 y3 y4 bw hd cb k2
    generalize w2.drewN nq = w3 at *
    have hzr1 := hz1 r1
    have hzr2 := hz1 r2
    cases him : immOp op with
    | some o =>
      have hpt : plainI ⟨op, r, r1, r2, imm⟩ = true := by unfold plainI; rw [hrg, him]; rfl
      have hpe : pl = true := by rw [← HB.out]; exact hpt
      have hw := (immOp_some him).2.2
      have hus := us_int imm
      have hul2 := us_lt imm
      have hVe : V = cpuV (setR z r ((doW o (z r1) (us imm)).getD 0)) ((pc + 4) % 4294967296) := by
        rw [← HV.out, doesV_yes hpt]
        unfold nextG valI
        rw [hzg]
        dsimp only
        rw [if_neg c0, if_neg c1, him]
        rfl
      subst hpe
      rw [him] at hP
      change ∀ w, Calls Tryz.prog 25 #[.int .i64 op] w fun e w' => e = .returned (.tuple #[.int .i64 (o : Nat), .bool true]) ∧ Below w.heap.size w w' at hP
      have hO := rdo_any o hw (z r1) (us imm) hzr1 hul2
      clear hrg hpt hzg him hw hup hul hzr2
      generalize (doW o (z r1) (us imm)).getD 0 = v at *
      generalize us imm = ui at *
      go_wp2_with fail
      refine (hP _).mono ?_
      rintro rr w5 ⟨rfl, b7⟩
      have h5 := blk_below h3 b7
      have hz5 := blk_below hz3 b7
      have v1 := cell_below b7 x1
      have v2 := cell_below b7 x2
      have v4 := cell_below b7 x4
      have b5' := below_then bx b7
      have ca : w5.cell? ⟨w.heap.size, r1, none⟩ = some (.int .u32 (z r1 : Nat)) := (cell_of h5 r1).trans (cpuV_get z pc (by omega))
      clear hP h3 hz3 x0 x1 x2 x4 bx b7
      go_wp2_with fail
      refine (hO _).mono ?_
      rintro rr w6 ⟨rfl, b8⟩
      have h6 := blk_below h5 b8
      have hz6 := blk_below hz5 b8
      have u1 := cell_below b8 v1
      have b6' := below_then b5' b8
      clear hO h5 hz5 v1 v2 v4 ca b5' b8
      go_wp2_with (first | (refine wpList_load_row rfl 45 (.tmp 2) rfl w.heap.size rfl 45 (cpuV z pc) (0, 0) _ h6 Tryz.underlying45 rfl (by rw [cpuV_size]; exact info_cpu) ?_) | fail)
      refine (rset_any z pc r (v) (by omega) _).mono ?_
      rintro rr w7 ⟨rfl, b9⟩
      have hz9 := blk_below hz6 b9
      have bz := below_then b6' b9
      go_wp2_with (first | (refine wpList_store_row rfl 45 (.tmp 4) (.tmp 78) rfl (w.heap.size + 2) (cpuV (setR z r v) ((pc + 4) % 4294967296)) rfl rfl 45 _ hz9 (by rw [cpuV_size]; exact info_cpu) (by rw [cpuV_size, cpuV_size]) (cpuV_one _ _) ?_) | fail)
      exact bodyPost_ret (results_arr2 rfl _ _ (w.heap.size + 2) 45 (cpuV (setR z r v) ((pc + 4) % 4294967296)) (0, 0) _ _ rfl rfl (setRow_heap _ _ _ _ _ _ hz9) Tryz.underlying45 rfl (by rw [cpuV_size]; exact info_cpu)) rfl ⟨by rw [hVe]; first | done | rfl, below_row bz (by omega) _⟩
    | none =>
      have hus := us_int imm
      rw [him] at hP
      change ∀ w, Calls Tryz.prog 25 #[.int .i64 op] w fun e w' => e = .returned (.tuple #[.int .i64 0, .bool false]) ∧ Below w.heap.size w w' at hP
      have hof := opOk_form c0 c1 him
      cases hok : opOk op with
      | true =>
        obtain ⟨o, rfl, hw⟩ := opOk_nat hok
        rw [hok] at hof
        have hpt : plainI ⟨(o : Int), r, r1, r2, imm⟩ = true := by unfold plainI; rw [hrg]; dsimp only; rw [him, ← hof]; simp
        have hpe : pl = true := by rw [← HB.out]; exact hpt
        have hVe : V = cpuV (setR z r ((doW o (z r1) (z r2)).getD 0)) ((pc + 4) % 4294967296) := by
          rw [← HV.out, doesV_yes hpt]
          unfold nextG valI
          rw [hzg]
          dsimp only
          rw [if_neg c0, if_neg c1, him]
          rfl
        subst hpe
        have hO := rdo_any o hw (z r1) (z r2) hzr1 hzr2
        clear hrg hpt hzg him hw hup hul hof hok
        generalize (doW o (z r1) (z r2)).getD 0 = v at *
        go_wp2_with fail
        refine (hP _).mono ?_
        rintro rr w5 ⟨rfl, b7⟩
        have h5 := blk_below h3 b7
        have hz5 := blk_below hz3 b7
        have v1 := cell_below b7 x1
        have v2 := cell_below b7 x2
        have b5' := below_then bx b7
        have ca : w5.cell? ⟨w.heap.size, r1, none⟩ = some (.int .u32 (z r1 : Nat)) := (cell_of h5 r1).trans (cpuV_get z pc (by omega))
        clear hP h3 hz3 x0 x1 x2 x4 bx b7
        go_wp2_with fail
        refine (hO _).mono ?_
        rintro rr w6 ⟨rfl, b8⟩
        have h6 := blk_below h5 b8
        have hz6 := blk_below hz5 b8
        have u1 := cell_below b8 v1
        have b6' := below_then b5' b8
        clear hO h5 hz5 v1 v2 ca b5' b8
        go_wp2_with (first | (refine wpList_load_row rfl 45 (.tmp 2) rfl w.heap.size rfl 45 (cpuV z pc) (0, 0) _ h6 Tryz.underlying45 rfl (by rw [cpuV_size]; exact info_cpu) ?_) | fail)
        refine (rset_any z pc r (v) (by omega) _).mono ?_
        rintro rr w7 ⟨rfl, b9⟩
        have hz9 := blk_below hz6 b9
        have bz := below_then b6' b9
        go_wp2_with (first | (refine wpList_store_row rfl 45 (.tmp 4) (.tmp 78) rfl (w.heap.size + 2) (cpuV (setR z r v) ((pc + 4) % 4294967296)) rfl rfl 45 _ hz9 (by rw [cpuV_size]; exact info_cpu) (by rw [cpuV_size, cpuV_size]) (cpuV_one _ _) ?_) | fail)
        exact bodyPost_ret (results_arr2 rfl _ _ (w.heap.size + 2) 45 (cpuV (setR z r v) ((pc + 4) % 4294967296)) (0, 0) _ _ rfl rfl (setRow_heap _ _ _ _ _ _ hz9) Tryz.underlying45 rfl (by rw [cpuV_size]; exact info_cpu)) rfl ⟨by rw [hVe]; first | done | rfl, below_row bz (by omega) _⟩
      | false =>
        rw [hok] at hof
        have hpt : plainI ⟨op, r, r1, r2, imm⟩ = false := by
          unfold plainI
          rw [hrg]
          dsimp only
          rw [him, ← hof]
          simp [c0, c1]
        have hpe : pl = false := by rw [← HB.out]; exact hpt
        have hVe : V = cpuV z pc := by rw [← HV.out, doesV_no hpt, hzg]
        subst hpe
        have hO := rdo_no op hok (z r1) (z r2) hzr1 hzr2
        clear hrg hpt hzg him hup hul hof hok
        go_wp2_with fail
        refine (hP _).mono ?_
        rintro rr w5 ⟨rfl, b7⟩
        have h5 := blk_below h3 b7
        have hz5 := blk_below hz3 b7
        have v2 := cell_below b7 x2
        have b5' := below_then bx b7
        have ca : w5.cell? ⟨w.heap.size, r1, none⟩ = some (.int .u32 (z r1 : Nat)) := (cell_of h5 r1).trans (cpuV_get z pc (by omega))
        clear hP h3 hz3 x0 x1 x2 x4 bx b7
        go_wp2_with fail
        refine (hO _).mono ?_
        rintro rr w6 ⟨rfl, rfl⟩
        go_wp2_with (first | (refine wpList_load_row rfl 45 (.tmp 2) rfl w.heap.size rfl 45 (cpuV z pc) (0, 0) _ h5 Tryz.underlying45 rfl (by rw [cpuV_size]; exact info_cpu) ?_) | (refine wpList_store_row rfl 45 (.tmp 4) (.tmp 73) rfl (w.heap.size + 2) (cpuV z pc) rfl rfl 45 _ hz5 (by rw [cpuV_size]; exact info_cpu) (by rw [cpuV_size, cpuV_size]) (cpuV_one _ _) ?_) | fail)
        exact bodyPost_ret (results_arr2 rfl _ _ (w.heap.size + 2) 45 (cpuV z pc) (0, 0) _ _ rfl rfl (setRow_heap _ _ _ _ _ _ hz5) Tryz.underlying45 rfl (by rw [cpuV_size]; exact info_cpu)) rfl ⟨by rw [hVe]; first | done | rfl, below_row b5' (by omega) _⟩
end Go.Proofs.YtaiggfknighhgaaGreatDoor
set_option linter.unusedVariables false
set_option linter.unusedSimpArgs false
namespace Go.Proofs.YtaiggfknighhgaaGreatDoor

theorem zero1_zero1 {g : Nat → Nat} (h : g 0 = 0) : zero1 g = g := by
  funext r
  unfold zero1
  split
  · rename_i e; rw [e, h]
  · rfl
theorem zero1_at (g : Nat → Nat) : zero1 g 0 = 0 := if_pos rfl
theorem runI_snoc : ∀ (l : List Ins) (g : Nat → Nat) (i : Ins) (pc : Nat), pc < 4294967296 → runI g (l ++ [i]) pc = setR (runI g l pc) i.rd (valI (runI g l pc) i ((pc + 4 * l.length) % 4294967296))
  | [], g, i, pc, h => by
    show setR g i.rd (valI g i pc) = setR g i.rd (valI g i ((pc + 4 * 0) % 4294967296))
    rw [Nat.mul_zero, Nat.add_zero, Nat.mod_eq_of_lt h]
  | j :: l, g, i, pc, h => by
    show runI _ (l ++ [i]) _ = _
    rw [runI_snoc l _ i _ (Nat.mod_lt _ (by omega)), show ((pc + 4) % 4294967296 + 4 * l.length) % 4294967296 = (pc + 4 * (j :: l).length) % 4294967296 by simp only [List.length_cons]; omega]
    rfl
theorem plain_rd {i : Ins} (h : plainI i = true) : 0 ≤ i.rd ∧ i.rd ≤ 31 := by
  have hr : rightI i = true := by unfold plainI at h; rw [Bool.and_eq_true] at h; exact h.1
  exact (rightI_regs hr).1
theorem setR_zero {g : Nat → Nat} (h : g 0 = 0) {rd : Int} (hr : 0 ≤ rd) (v : Nat) : setR g rd v 0 = 0 := by
  unfold setR
  split
  · exact h
  · exact (if_neg (by omega)).trans h
theorem runI_zero : ∀ (l : List Ins) (g : Nat → Nat) (pc : Nat), g 0 = 0 → (∀ i, i ∈ l → plainI i = true) → runI g l pc 0 = 0
  | [], g, pc, h, _ => h
  | i :: l, g, pc, h, hl => runI_zero l _ _ (setR_zero h (plain_rd (hl i List.mem_cons_self)).1 _) fun j hj => hl j (List.mem_cons_of_mem _ hj)
theorem valI_lt {g : Nat → Nat} (hg : ∀ r, g r < 4294967296) {i : Ins} (hi : plainI i = true) (pc : Nat) : valI g i pc < 4294967296 := by
  unfold valI
  rcases plainI_kind hi with h | h | ⟨o, ho, hd, h0, h1⟩ | ⟨o, ho, hn, hd, h0, h1⟩
  · rw [if_pos h]; exact up_lt _
  · rw [if_neg (by omega), if_pos h]; exact Nat.mod_lt _ (by decide)
  · rw [if_neg h0, if_neg h1, ho]; exact doW_lt hd (hg _) (us_lt _)
  · rw [if_neg h0, if_neg h1, hn, show i.op.toNat = o by omega]; exact doW_lt hd (hg _) (hg _)
theorem setR_lt {g : Nat → Nat} (hg : ∀ r, g r < 4294967296) (rd : Int) {v : Nat} (hv : v < 4294967296) (r : Nat) : setR g rd v r < 4294967296 := by
  unfold setR
  split
  · exact hg r
  · show (if r = rd.toNat then v else g r) < _
    split
    · exact hv
    · exact hg r
theorem runI_lt : ∀ (l : List Ins) (g : Nat → Nat) (pc : Nat), (∀ r, g r < 4294967296) → (∀ i, i ∈ l → plainI i = true) → ∀ r, runI g l pc r < 4294967296
  | [], g, pc, hg, _ => hg
  | i :: l, g, pc, hg, hl => runI_lt l _ _ (setR_lt hg i.rd (valI_lt hg (hl i List.mem_cons_self) pc)) fun j hj => hl j (List.mem_cons_of_mem _ hj)
/-- The machine behind the first j instructions. -/
def mG (g : Nat → Nat) (l : List Ins) (pc j : Nat) : Nat → Nat := runI (zero1 g) (l.take j) pc
def mP (pc j : Nat) : Nat := (pc + 4 * j) % 4294967296
theorem mP_lt (pc j : Nat) : mP pc j < 4294967296 := Nat.mod_lt _ (by decide)
theorem mP_next (pc j : Nat) : (mP pc j + 4) % 4294967296 = mP pc (j + 1) := by unfold mP; omega
theorem mG_next {g : Nat → Nat} (hg : ∀ r, g r < 4294967296) {l : List Ins} {pc j : Nat} (hpc : pc < 4294967296) (hj : j < l.length) (hl : oddL (l.take j) = false) : nextG (mG g l pc j) l[j] (mP pc j) = mG g l pc (j + 1) := by
  have hp := oddL_false hl
  have h0 : mG g l pc j 0 = 0 := runI_zero _ _ _ (zero1_at g) hp
  unfold nextG
  rw [zero1_zero1 h0]
  unfold mG mP
  rw [takeI_snoc hj, runI_snoc _ _ _ _ hpc, List.length_take, Nat.min_eq_left (by omega)]
theorem mG_lt {g : Nat → Nat} (hg : ∀ r, g r < 4294967296) {l : List Ins} {pc j : Nat} (hl : oddL (l.take j) = false) (r : Nat) : mG g l pc j r < 4294967296 :=
  runI_lt _ _ _ (zero1_lt hg) (oddL_false hl) r
theorem mG_start (g : Nat → Nat) (l : List Ins) (pc : Nat) : mG g l pc 0 = zero1 g := rfl
theorem mP_start {pc : Nat} (h : pc < 4294967296) : mP pc 0 = pc := by unfold mP; omega
theorem means_facts {y : List Ins} {g : Nat → Nat} (hg : ∀ r, g r < 4294967296) {pc : Nat} (hl : y.length ≤ 100) (hpc : pc < 4294967296) :
    ∃ ts z er, blockO [] y pc = (ts, z, er) ∧ ((oddL y = true ∧ er = 120 ∧ z = fun _ => 0) ∨
      (oddL y = false ∧ er = 0 ∧ Good ts ∧ ts.length ≤ 90000 ∧ ∃ x : Nat → Nat, z = (fun r => ((x r : Nat) : Int)) ∧ ∀ r, r < 32 → x r < ts.length ∧ ev ts g (x r) = mG g y pc y.length r)) := by
  have hG0 : Good [] := good_of rfl
  have hGS := startT_good hG0 32 (Nat.le_refl _)
  have hIS := startT_in []
  have hM := fun r hr => startT_mean [] g (r := r) hr
  have hLS := startT_len [] 32
  have hD := fun r hr => startT_dp [] (r := r) hr
  unfold blockO
  cases h : oddL y with
  | true =>
    rw [if_pos rfl]
    exact ⟨_, _, _, rfl, Or.inl ⟨rfl, rfl, rfl⟩⟩
  | false =>
    have hp := oddL_false h
    rw [if_neg (by decide)]
    unfold blockT
    generalize (startT [] 32).1 = t1 at *
    generalize (startT [] 32).2 = x1 at *
    obtain ⟨f1, f2, f3⟩ := fromT_ok y t1 x1 pc hGS hIS hp
    have hfl := fromT_len y t1 x1 pc 0 hGS hIS hp (fun r hr => by rw [hD r hr]; exact Nat.le_refl _)
    have hm := fromT_mean hg y t1 x1 (zero1 g) pc hGS hIS hp hM
    refine ⟨_, _, _, rfl, Or.inr ⟨rfl, rfl, f1, ?_, _, rfl, fun r hr => ⟨f2 r hr, ?_⟩⟩⟩
    · have h9 : y.length * (8 * (0 + y.length) + 11) ≤ 100 * (8 * (0 + 100) + 11) := Nat.mul_le_mul hl (by omega)
      simp only [List.length_nil] at hLS
      show (fromT t1 x1 y pc).1.length ≤ 90000
      omega
    · rw [hm r hr]
      unfold mG
      rw [List.take_length]
end Go.Proofs.YtaiggfknighhgaaGreatDoor
set_option linter.unusedVariables false
set_option linter.unusedSimpArgs false
namespace Go.Proofs.YtaiggfknighhgaaGreatDoor
open Go.RowKit

theorem cut30 {B : Nat} {e : TypeId} {w : World} {v : Value} {xs : List Ins} (hs : SlN B e 5 Ins.five w v xs) :
    ∃ A c N la, v = .slice A xs.length c ∧ la.length = N ∧ N ≤ 30 ∧ SlN B e 5 Ins.five w (.slice A N c) la ∧ (((30 : Int) < (xs.length : Int) ∧ min (xs.length : Int) 30 = 30 ∧ N = 30 ∧ (30 : Int) ≤ (c : Int)) ∨ (¬ (30 : Int) < (xs.length : Int) ∧ min (xs.length : Int) 30 = (xs.length : Int) ∧ N = xs.length ∧ (xs.length : Int) ≤ (c : Int))) ∧ xs.length ≤ 9223372036854775807 := by
  obtain ⟨A, c, rfl, h1, h2, h3, h4⟩ := hs
  have hl : (xs.take (min xs.length 30)).length = min xs.length 30 := by rw [List.length_take]; omega
  refine ⟨A, c, min xs.length 30, xs.take (min xs.length 30), rfl, hl, Nat.min_le_right _ _, ⟨A, c, by rw [hl], by omega, h2, h3, fun h0 => ?_⟩, ?_, by unfold maxLen at h2; omega⟩
  · obtain ⟨b, off, hA, hb, ht, hx⟩ := h4 (by omega)
    refine ⟨b, off, hA, hb, ht, fun j x hj => ?_⟩
    have hj' : j < min xs.length 30 := by have := (List.getElem?_eq_some_iff.1 hj).1; omega
    exact hx j x (by rw [← hj, List.getElem?_take_of_lt hj'])
  · by_cases h12 : (30 : Int) < (xs.length : Int)
    · exact Or.inl ⟨h12, by omega, Nat.min_eq_right (by omega), by omega⟩
    · exact Or.inr ⟨h12, by omega, Nat.min_eq_left (by omega), by omega⟩
end Go.Proofs.YtaiggfknighhgaaGreatDoor
set_option linter.unusedVariables false
set_option linter.unusedSimpArgs false
namespace Go.Proofs.YtaiggfknighhgaaGreatDoor
open Go.RowKit

theorem info_int1 : ∃ i, Tryz.prog.info? 3 = some i := by
  have h : (Tryz.prog.info? 3).isSome = true := by kernel_rfl
  exact Option.isSome_iff_exists.1 h
theorem cells_int1 : Tryz.prog.cellsOf 3 = 1 := by kernel_rfl
theorem eq_items (d : Nat) (z : Nat → Int) (w : World) : ∀ is : List Nat, (∀ i, i ∈ is → i < 32) → (Op.eqItems (d + 1) 3 1 (zV z) (zV z) is).run Tryz.prog w = .ok true w
  | [], _ => by simp [Op.eqItems]
  | i :: is, h => by
    have hi := h i List.mem_cons_self
    have h1 : (isAgg 3).run Tryz.prog w = .ok false w := by kernel_rfl
    have hp : (part 3 (zV z) (i * 1)).run Tryz.prog w = .ok (.int .i64 (z i)) w := by
      rw [Nat.mul_one]
      simp [part, Sem.run_bind, h1, zV_get z hi]
    have he : (Op.equalIn (d + 1) 3 (.int .i64 (z i)) (.int .i64 (z i))).run Tryz.prog w = .ok true w := by
      simp [Op.equalIn, Sem.run_bind, run_underlying Tryz.underlying3]
    have ih := eq_items d z w is fun j hj => h j (List.mem_cons_of_mem i hj)
    simp only [Op.eqItems, Sem.run_bind, hp, he, Result.andThen_ok]
    simpa using ih
theorem eq_arr (z : Nat → Int) (w : World) : (binOp .eql 32 (.agg (zV z)) (.agg (zV z))).run Tryz.prog w = .ok (.bool true) w := by
  obtain ⟨i, hi⟩ := info_int1
  have h := run_equalIn_array (P := Tryz.prog) (w := w) 9999 (zV z) (zV z) Tryz.underlying32 hi
  rw [cells_int1, eq_items 9998 z w _ (fun i hi => by simpa using hi)] at h
  have h2 : (Op.equalIn 10000 32 (.agg (zV z)) (.agg (zV z))).run Tryz.prog w = .ok true w := h
  rw [run_eql_struct, h2]
  rfl
end Go.Proofs.YtaiggfknighhgaaGreatDoor
set_option linter.unusedVariables false
set_option linter.unusedSimpArgs false
namespace Go.Proofs.YtaiggfknighhgaaGreatDoor
open Go.RowKit Go.Maps Go.MapKept
set_option maxRecDepth 100000 in
theorem len_any (K : Nat → Prop) (b : Nat) (ts : List Term) (w : World) (h : DagAt K w b ts) :
    Calls Tryz.prog 33 #[.pointer (some ⟨b, 0, none⟩)] w fun r w' =>
      r = .returned (.int .i64 (ts.length : Int)) ∧ w = w' := by
  obtain ⟨vl, c0, hs⟩ := h.list
  obtain ⟨A, c, rfl, q1, q2, q3⟩ := hs.open_
  go_enter Tryz.func33, Tryz.ntmps33
  go_wp2_with fail
  go_ret
  exact ⟨rfl, rfl⟩
end Go.Proofs.YtaiggfknighhgaaGreatDoor
set_option linter.unusedVariables false
set_option linter.unusedSimpArgs false
namespace Go.Proofs.YtaiggfknighhgaaGreatDoor
open Go.RowKit Go.Maps Go.MapKept

theorem DagAt.grow {K : Nat → Prop} {w w' : World} {b : Nat} {ts : List Term} (h : DagAt K w b ts) (hb : Below w.heap.size w w') : ∃ K', DagAt K' w' b ts ∧ (∀ i, K i → K' i) ∧ (∀ i, w.heap.size ≤ i → i < w'.heap.size → K' i) := ⟨More K w w', h.more hb, fun _ => Or.inl, fun i h1 h2 => Or.inr ⟨h1, h2⟩⟩
theorem SlN.litI {w : World} {g : Nat} {e : TypeId} {xs : List Ins} (hg : w.heap[g]? = some (.cells (xs.flatMap Ins.five).toArray e (0, 0))) (hl : xs.length ≤ 100) : SlN 0 e 5 Ins.five w (.slice (some ⟨g, 0, none⟩) xs.length xs.length) xs := by
  refine ⟨some ⟨g, 0, none⟩, xs.length, rfl, Nat.le_refl _, (by unfold maxLen; omega), (fun h => by cases h), fun _ => ⟨g, 0, rfl, (Array.getElem?_eq_some_iff.1 hg).1, Or.inr ⟨_, _, hg⟩, fun j x hj i u hi => ?_⟩⟩
  have h5 : i < 5 := by have := (List.getElem?_eq_some_iff.1 hi).1; simpa [Ins.five] using this
  have h1 := flat_at encI hj i h5
  rw [Nat.zero_add]
  simp [World.cell?, hg, h1, hi]
theorem SlN.nilI (w : World) (e : TypeId) : SlN 0 e 5 Ins.five w (.slice none 0 0) [] := ⟨none, 0, rfl, Nat.le_refl _, Nat.zero_le _, fun _ => rfl, fun h => absurd h (by simp)⟩
def fx1 : List Ins := [⟨18, 1, 0, 0, 5⟩, ⟨27, 2, 1, 1, 0⟩, ⟨1, 3, 0, 0, 1⟩]
def fx2 : List Ins := [⟨45, 0, 0, 0, 0⟩]
def zm : Nat → Int := fun r => if r = 0 then -1 else 0
theorem zm_lit : (#[.int .i64 (-1), .int .i64 0, .int .i64 0, .int .i64 0, .int .i64 0, .int .i64 0, .int .i64 0, .int .i64 0, .int .i64 0, .int .i64 0, .int .i64 0, .int .i64 0, .int .i64 0, .int .i64 0, .int .i64 0, .int .i64 0, .int .i64 0, .int .i64 0, .int .i64 0, .int .i64 0, .int .i64 0, .int .i64 0, .int .i64 0, .int .i64 0, .int .i64 0, .int .i64 0, .int .i64 0, .int .i64 0, .int .i64 0, .int .i64 0, .int .i64 0, .int .i64 0] : Array Value) = zV zm := by kernel_rfl
theorem fx_out : blockO [] fx1 256 = ((blockT [] fx1 256).1, fun r => (((blockT [] fx1 256).2 r : Nat) : Int), 0) := by
  unfold blockO
  rw [if_neg (by decide +kernel)]
theorem fx_node1 : (blockT [] fx1 256).2 1 < (blockT [] fx1 256).1.length ∧ (blockT [] fx1 256).1.getD ((blockT [] fx1 256).2 1) default = constT 5 := by decide +kernel
theorem fx_node2 : (blockT [] fx1 256).2 2 < (blockT [] fx1 256).1.length ∧ (blockT [] fx1 256).1.getD ((blockT [] fx1 256).2 2) default = constT 10 := by decide +kernel
theorem fx_node3 : (blockT [] fx1 256).2 3 < (blockT [] fx1 256).1.length ∧ (blockT [] fx1 256).1.getD ((blockT [] fx1 256).2 3) default = constT 4360 := by decide +kernel
theorem fx_len : (blockT [] fx1 256).1.length < 1000 := by decide +kernel
theorem fx_good : Good (blockT [] fx1 256).1 := good_of (by decide +kernel)
set_option maxRecDepth 100000 in
set_option maxHeartbeats 4000000 in
theorem lfixed_any (w : World) (hT : Tab w) (hgz : 0 < w.heap.size) : Calls Tryz.prog 12 #[] w fun e w' => e = .returned (.bool true) ∧ Below w.heap.size w w' := by
  have hN := new_any (fun i => i < w.heap.size) w (fun i hi => hi)
  have hend : ∀ w', Kept (fun i => i < w.heap.size) w w' → Below w.heap.size w w' := fun w' h => below_kept h
  obtain ⟨K0, hK⟩ : ∃ K : Nat → Prop, (fun i => i < w.heap.size) = K := ⟨_, rfl⟩
  rw [hK] at hN hend
  have hg0 : K0 0 := by rw [← hK]; exact hgz
  clear hK
  obtain ⟨b, hb⟩ : ∃ b, w.heap.size = b := ⟨_, rfl⟩
  have HB := Lib.hid hb
  rw [hb] at hN hend
  clear hb
  have n1 := fx_node1
  have n2 := fx_node2
  have n3 := fx_node3
  have nl := fx_len
  have nG := fx_good
  go_enter Tryz.func12, Tryz.ntmps12
  go_wp2_with fail
  refine hN.mono ?_
  rintro r w1 ⟨rfl, h1, b1⟩
  have k1 : Kept K0 w w1 := Kept.below (by rw [HB.out]; exact b1)
  have T1 := hT.kept k1 hg0
  clear hN b1 hT
  -- the first block
  have ba := (Below.refl w1.heap.size w1).alloc (Nat.le_refl _) (.cells (fx1.flatMap Ins.five).toArray 31)
  have ga := blk_new w1 (.cells (fx1.flatMap Ins.five).toArray 31)
  obtain ⟨K1, d1, kk1, kn1⟩ := h1.grow ba
  have hk1 := kn1 w1.heap.size (Nat.le_refl _) (by simp)
  have hB := block_any K1 b [] 0 31 _ fx1 256 (by decide) (by decide) (by decide) (good_of rfl) (kk1 _ hg0) _ (T1.below ba) d1 (fun w' hk => SlN.litI (hk.blk hk1 ga) (by decide))
  have T2 := T1.below ba
  have k2 := k1.trans (Kept.below ba)
  rw [fx_out] at hB
  unfold FromPost at hB
  dsimp only at hB
  generalize blockT [] fx1 256 = F at hB n1 n2 n3 nl nG
  change Calls Tryz.prog 9 #[.pointer (some ⟨b, 0, none⟩), .slice (some ⟨w1.heap.size, 0, none⟩) 3 3, .int .u32 256] (w1.alloc (.cells #[.int .i64 18, .int .i64 1, .int .i64 0, .int .i64 0, .int .i64 5, .int .i64 27, .int .i64 2, .int .i64 1, .int .i64 1, .int .i64 0, .int .i64 1, .int .i64 3, .int .i64 0, .int .i64 0, .int .i64 1] 31)) _ at hB
  clear h1 ga hk1 kn1 T1 k1
  go_wp2_with fail
  refine hB.mono ?_
  rintro r w2 ⟨rfl, h2, q2⟩
  have k3 := k2.trans (q2.mono kk1)
  have T3 := T2.kept q2 (kk1 _ hg0)
  have h2' := h2.mono kk1
  clear hB d1 k2 T2 q2 ba h2 kk1
  clear K1
  have bb := (Below.refl w2.heap.size w2).alloc (Nat.le_refl _) (.cells (zV fun r => ((F.2 r : Nat) : Int)) 32)
  have bc := bb.alloc (by simp) (.cells #[.int .i64 45, .int .i64 0, .int .i64 0, .int .i64 0, .int .i64 0] 31)
  have gx := ZAt.new 32 w2 (fun r => ((F.2 r : Nat) : Int))
  have gx2 := gx.below ((Below.refl _ _).alloc (Nat.le_refl _) (.cells #[.int .i64 45, .int .i64 0, .int .i64 0, .int .i64 0, .int .i64 0] 31))
  have gs := blk_new (w2.alloc (.cells (zV fun r => ((F.2 r : Nat) : Int)) 32)) (.cells #[.int .i64 45, .int .i64 0, .int .i64 0, .int .i64 0, .int .i64 0] 31)
  have hs1 : (w2.alloc (.cells (zV fun r => ((F.2 r : Nat) : Int)) 32)).heap.size = w2.heap.size + 1 := by simp
  rw [hs1] at gs
  obtain ⟨K2, d2, kk2, kn2⟩ := h2'.grow bc
  have e1 := kn2 w2.heap.size (Nat.le_refl _) (by simp; omega)
  have e2 := kn2 (w2.heap.size + 1) (by omega) (by simp)
  have hL := len_any K0 b F.1 _ (h2'.below bb)
  have T4 := T3.below bc
  have hB2 := block_any K2 b F.1 0 31 _ fx2 0 (by decide) (by omega) (by decide) nG (kk2 _ hg0) _ T4 d2 (fun w' hk => SlN.litI (hk.blk e2 gs) (by decide))
  have k4 := k3.trans (Kept.below bc)
  rw [show blockO F.1 fx2 0 = (F.1, fun _ => 0, 120) by unfold blockO; rw [if_pos (by decide +kernel)]] at hB2
  unfold FromPost at hB2
  dsimp only at hB2
  change Calls Tryz.prog 9 #[.pointer (some ⟨b, 0, none⟩), .slice (some ⟨w2.heap.size + 1, 0, none⟩) 1 1, .int .u32 0] ((w2.alloc (.cells (zV fun r => ((F.2 r : Nat) : Int)) 32)).alloc (.cells #[.int .i64 45, .int .i64 0, .int .i64 0, .int .i64 0, .int .i64 0] 31)) _ at hB2
  clear gs kn2 T3 k3 bb bc hs1
  go_wp2_with (first | ((refine wpList_store_row rfl 32 (.tmp 2) (.tmp 25) rfl w2.heap.size (zV fun r => ((F.2 r : Nat) : Int)) rfl rfl 32 _ (blk_new w2 _) (by rw [zV_size]; exact info_arr) rfl (zV_one _) ?_); rw [World.setRow_alloc_new]) | fail)
  refine hL.mono ?_
  rintro r wz ⟨rfl, rfl⟩
  go_wp2_with fail
  refine hB2.mono ?_
  rintro r w3 ⟨rfl, h3, q3⟩
  have k5 := k4.trans (q3.mono kk2)
  have T5 := T4.kept q3 (kk2 _ hg0)
  have gx3 := gx2.kept q3 e1
  clear hB2 hL d2 k4 T4 q3 gx gx2 e2
  have bd := (Below.refl w3.heap.size w3).alloc (Nat.le_refl _) (.cells (zV fun _ => 0) 32)
  have T6 := T5.below bd
  have h4 := h3.below bd
  have gx4 := gx3.below bd
  have k6 := k5.trans (Kept.below bd)
  have hF := from_any K2 b F.1 zm 0 31 _ [] 0 (by decide) (by omega) (by decide) nG (kk2 _ hg0) _ (SlN.nilI _ _) T6 h4 (fun w' _ => SlN.nilI w' _)
  rw [show fromO F.1 zm [] 0 = (F.1, fun _ => 0, 100) by unfold fromO; rw [if_pos (okX_bad (j := 0) (by decide) rfl)]] at hF
  unfold FromPost at hF
  rw [← zm_lit] at hF
  dsimp only at hF
  clear h3 gx3 T5 k5 bd
  go_wp2_with (first | ((refine wpList_store_row rfl 32 (.tmp 5) (.tmp 34) rfl w3.heap.size (zV fun _ => 0) rfl rfl 32 _ (blk_new w3 _) (by rw [zV_size]; exact info_arr) rfl (zV_one _) ?_); rw [World.setRow_alloc_new]) | fail)
  refine hF.mono ?_
  rintro r w4 ⟨rfl, h5, q4⟩
  have k7 := k6.trans (q4.mono kk2)
  have T7 := T6.kept q4 (kk2 _ hg0)
  have gx5 := gx4.kept q4 e1
  have be := (Below.refl w4.heap.size w4).alloc (Nat.le_refl _) (.cells (zV fun _ => 0) 32)
  have h6 := h5.below be
  have gx6 := gx5.below be
  have T8 := T7.below be
  have k8 := k7.trans (Kept.below be)
  have c1 := gx6.cell (i := 1) (by decide)
  have hN1 := node_any K2 b (F.2 1) F.1 (by omega) n1.1 _ h6
  rw [n1.2] at hN1
  change Calls Tryz.prog 34 #[.pointer (some ⟨b, 0, none⟩), .int .i64 (F.2 1)] _ fun r w' => r = .returned (.tuple #[.agg #[.int .i64 0, .int .u32 5, .int .i64 0, .int .i64 0, .int .i64 0], .int .i64 0]) ∧ Below _ _ w' at hN1
  clear hF h4 gx4 T6 k6 q4 h5 gx5 T7 k7 be
  go_wp2_with (first | ((refine wpList_store_row rfl 32 (.tmp 7) (.tmp 40) rfl w4.heap.size (zV fun _ => 0) rfl rfl 32 _ (blk_new w4 _) (by rw [zV_size]; exact info_arr) rfl (zV_one _) ?_); rw [World.setRow_alloc_new]) | fail)
  refine hN1.mono ?_
  rintro r w5 ⟨rfl, b5⟩
  have a11 := b5.alloc b5.size (.cells #[.int .i64 0, .int .u32 5, .int .i64 0, .int .i64 0, .int .i64 0] 68)
  have h11' := h6.below a11
  have gx11' := gx6.below a11
  have T11' := T8.below a11
  have k11' := k8.trans (Kept.below a11)
  have c11' := gx11'.cell (i := 2) (by decide)
  have hN2 := node_any K2 b (F.2 2) F.1 (by omega) n2.1 _ h11'
  rw [n2.2] at hN2
  change Calls Tryz.prog 34 #[.pointer (some ⟨b, 0, none⟩), .int .i64 (F.2 2)] _ fun r w' => r = .returned (.tuple #[.agg #[.int .i64 0, .int .u32 10, .int .i64 0, .int .i64 0, .int .i64 0], .int .i64 0]) ∧ Below _ _ w' at hN2
  have m1 := blk_new w5 (.cells #[.int .i64 0, .int .u32 5, .int .i64 0, .int .i64 0, .int .i64 0] 68)
  clear hN1 h6 gx6 T8 k8 c1
  go_wp2_with fail
  refine hN2.mono ?_
  rintro r w6 ⟨rfl, b6⟩
  have a12 := b6.alloc b6.size (.cells #[.int .i64 0, .int .u32 10, .int .i64 0, .int .i64 0, .int .i64 0] 68)
  have h12' := h11'.below a12
  have gx12' := gx11'.below a12
  have T12' := T11'.below a12
  have k12' := k11'.trans (Kept.below a12)
  have c12' := gx12'.cell (i := 3) (by decide)
  have hN3 := node_any K2 b (F.2 3) F.1 (by omega) n3.1 _ h12'
  rw [n3.2] at hN3
  change Calls Tryz.prog 34 #[.pointer (some ⟨b, 0, none⟩), .int .i64 (F.2 3)] _ fun r w' => r = .returned (.tuple #[.agg #[.int .i64 0, .int .u32 4360, .int .i64 0, .int .i64 0, .int .i64 0], .int .i64 0]) ∧ Below _ _ w' at hN3
  have m2 := blk_new w6 (.cells #[.int .i64 0, .int .u32 10, .int .i64 0, .int .i64 0, .int .i64 0] 68)
  have m1' := blk_alloc (blk_below m1 b6) (.cells #[.int .i64 0, .int .u32 10, .int .i64 0, .int .i64 0, .int .i64 0] 68)
  clear hN2 h11' gx11' T11' k11' c11' m1 b5 a11
  go_wp2_with fail
  refine hN3.mono ?_
  rintro r w7 ⟨rfl, b7⟩
  have a13 := b7.alloc b7.size (.cells #[.int .i64 0, .int .u32 4360, .int .i64 0, .int .i64 0, .int .i64 0] 68)
  have h13' := h12'.below a13
  have T13' := T12'.below a13
  have k13' := k12'.trans (Kept.below a13)
  have m3 := blk_new w7 (.cells #[.int .i64 0, .int .u32 4360, .int .i64 0, .int .i64 0, .int .i64 0] 68)
  have m2' := blk_alloc (blk_below m2 b7) (.cells #[.int .i64 0, .int .u32 4360, .int .i64 0, .int .i64 0, .int .i64 0] 68)
  have m1 := blk_alloc (blk_below m1' b7) (.cells #[.int .i64 0, .int .u32 4360, .int .i64 0, .int .i64 0, .int .i64 0] 68)
  obtain ⟨u0, u1, u2, u3, u4⟩ := five_cells m1
  obtain ⟨v0, v1, v2, v3, v4⟩ := five_cells m2'
  obtain ⟨y0, y1, y2, y3, y4⟩ := five_cells m3
  have hL2 := len_any K2 b F.1 _ h13'
  have hP1 := lplain_any ⟨27, 0, 0, 0, 0⟩ (w7.alloc (.cells #[.int .i64 0, .int .u32 4360, .int .i64 0, .int .i64 0, .int .i64 0] 68))
  have hP2 := lplain_any ⟨12, 0, 0, 0, 0⟩
  rw [show plainI ⟨27, 0, 0, 0, 0⟩ = true by decide +kernel] at hP1
  rw [show plainI ⟨12, 0, 0, 0, 0⟩ = false by decide +kernel] at hP2
  change Calls Tryz.prog 7 #[.agg #[.int .i64 27, .int .i64 0, .int .i64 0, .int .i64 0, .int .i64 0]] _ _ at hP1
  change ∀ w, Calls Tryz.prog 7 #[.agg #[.int .i64 12, .int .i64 0, .int .i64 0, .int .i64 0, .int .i64 0]] _ _ at hP2
  clear hN3 h12' gx12' T12' k12' c12' m1' m2 m3 m2' b6 a12 m1
  go_wp2_with fail
  refine hL2.mono ?_
  rintro r w8 ⟨rfl, e8⟩
  subst e8
  go_wp2_with fail
  refine hP1.mono ?_
  rintro r w9 ⟨rfl, b9⟩
  go_wp2_with fail
  refine (hP2 _).mono ?_
  rintro r w10 ⟨rfl, b10⟩
  go_wp2_with fail
  go_ret
  exact ⟨rfl, by rw [HB.out]; exact hend _ ((k13'.trans (Kept.below b9)).trans (Kept.below b10))⟩
end Go.Proofs.YtaiggfknighhgaaGreatDoor
set_option linter.unusedVariables false
set_option linter.unusedSimpArgs false
namespace Go.Proofs.YtaiggfknighhgaaGreatDoor
open Go.RowKit Go.Maps Go.MapKept

theorem wpList_load_rowG {P : Program} {ops : Array Oper} {rest : List Oper} {o : Oper} {a : Act} {w : World} {Q : Exit → Act → World → Prop} (hw : Region.wanted o (yielded ops a.tmps) = true) (ty : TypeId) (x : Operand) (ho : o.op = .load ty x)
    (g : Nat) (hx : a.eval x = .pointer (some ⟨g, 0, none⟩)) (t : TypeId) (cs : Array Value) (fr : Nat × Nat) (d : TypeDesc) (hg : w.heap[g]? = some (.cells cs t fr))
    (hu : P.underlying ty = some d) (hd : (match d with | .struct _ | .array _ _ => true | _ => false) = true) (hi : (P.info? ty).map (·.size) = some cs.size)
    (h : wpList P ops Q rest (a.put o.dst (.agg cs)) w) : wpList P ops Q (o :: rest) a w :=
  wpList_step fun K hK => by rw [if_pos hw]; exact wp_load_row ty x ho g hx t cs fr d hg hu hd hi (hK _ _ h)
theorem doesV_size (g : Nat → Nat) (pc : Nat) (x : Ins) : (doesV g pc x).size = 33 := by unfold doesV; split <;> exact cpuV_size _ _
theorem doesV_one (g : Nat → Nat) (pc : Nat) (x : Ins) : (doesV g pc x).all (·.oneCell') = true := by unfold doesV; split <;> exact cpuV_one _ _
theorem range_row {w : World} {b : Nat} {cs : Array Value} {t : TypeId} {fz : Nat × Nat} (h : w.heap[b]? = some (.cells cs t fz)) : w.rangeAt b 0 cs.toList := fun j v hv => by
  rw [Nat.zero_add, cell_of_row w b j cs t fz h]
  simpa using hv
theorem range_five {w : World} {b o : Nat} {op rd rs1 rs2 imm : Int} (h : AtN Ins.five w b o ⟨op, rd, rs1, rs2, imm⟩) : w.rangeAt b o [.int .i64 op, .int .i64 rd, .int .i64 rs1, .int .i64 rs2, .int .i64 imm] := fun j v hv => h j v hv
theorem range_both {w w' : World} {b o b' o' : Nat} {xs ys : List Value} (hb : Below w.heap.size w w') (h : w.rangeAt b o xs ∧ w.rangeAt b' o' ys) : w'.rangeAt b o xs ∧ w'.rangeAt b' o' ys :=
  ⟨fun j v hv => cell_below hb (h.1 j v hv), fun j v hv => cell_below hb (h.2 j v hv)⟩
theorem range_set {w : World} {b o b' o' g : Nat} {xs ys : List Value} {cs : Array Value} (h : w.rangeAt b o xs ∧ w.rangeAt b' o' ys) (h1 : b ≠ g) (h2 : b' ≠ g) : (w.setRow g cs).rangeAt b o xs ∧ (w.setRow g cs).rangeAt b' o' ys :=
  ⟨fun j v hv => (cell_setRow_other w g cs _ h1).trans (h.1 j v hv), fun j v hv => (cell_setRow_other w g cs _ h2).trans (h.2 j v hv)⟩
theorem range_regs {w : World} {b : Nat} {g : Nat → Nat} {pc : Nat} {t : TypeId} {fz : Nat × Nat} (h : w.heap[b]? = some (.cells (cpuV g pc) t fz)) : w.rangeAt b 0 (regsV g).toList := fun j v hv => by
  have hj : j < 32 := by have := (List.getElem?_eq_some_iff.1 hv).1; rw [Array.length_toList, regsV_size] at this; exact this
  rw [Nat.zero_add, cell_of_row w b j (cpuV g pc) t fz h, cpuV_get g pc hj]
  rw [Array.getElem?_toList, regsV_get g hj] at hv
  exact hv
theorem load_cpu {w : World} {b : Nat} {t : TypeId} {cs : Array Value} {fz : Nat × Nat} (h : w.heap[b]? = some (.cells cs t fz)) (hs : cs.size = 33) : (loadCellsFrom ⟨b, 0, none⟩ 0 33 #[]).run Tryz.prog w = .ok cs w := by
  have := run_loadCells_list (P := Tryz.prog) w ⟨b, 0, none⟩ cs.toList (fun j v hv => by
    have hadd : (⟨b, 0, none⟩ : Addr).add j = ⟨b, j, none⟩ := by unfold Addr.add; split <;> simp_all
    rw [hadd, cell_of_row w b j cs t fz h]
    simpa using hv)
  simpa [loadCells, hs] using this
theorem store_cpu {w : World} {b : Nat} {t : TypeId} {old cs : Array Value} (h : w.heap[b]? = some (.cells old t (0, 0))) (ho : old.size = 33) (hs : cs.size = 33) (h1 : cs.all (·.oneCell') = true) : (storeCells ⟨b, 0, none⟩ cs.toList 0).run Tryz.prog w = .ok () (w.setRow b cs) := by
  have := run_storeVar_row (P := Tryz.prog) w b t 45 old cs h (by rw [hs]; exact info_cpu) (by rw [ho, hs]) h1
  cases hq : Tryz.prog.info? 45 with
  | none => have := info_cpu; simp [hq] at this
  | some i =>
    have hi := info_cpu
    have hsz : cs.size = i.size := by simp [hq] at hi; omega
    simpa [storeVar, sizeOf, typeInfo, hq, Value.cells, hsz] using this
set_option maxRecDepth 100000 in
set_option maxHeartbeats 4000000 in
theorem law7_any (B : Nat) (e : TypeId) (v : Value) (xs : List Ins) (g : Nat → Nat) (pc : Nat) (hgr : ∀ r, g r < 4294967296) (hpc : pc < 4294967296) (w : World) (hs : SlN B e 5 Ins.five w v xs) (hT : Tab w) (hgz : 0 < w.heap.size) :
    Calls Tryz.prog 5 #[v, .agg (cpuV g pc)] w fun e w' => e = .returned (.bool true) ∧ Below w.heap.size w w' := by
  have b0 := (Below.refl w.heap.size w).alloc (Nat.le_refl _) (.cells (cpuV g pc) 45)
  have hC := blk_new w (.cells (cpuV g pc) 45)
  have hs0 : (w.alloc (.cells (cpuV g pc) 45)).heap.size = w.heap.size + 1 := by simp
  have hT0 := hT.below b0
  have hNew := new_any (fun i => i < (w.alloc (.cells (cpuV g pc) 45)).heap.size) (w.alloc (.cells (cpuV g pc) 45)) (fun i hi => hi)
  obtain ⟨K0, hK⟩ : ∃ K : Nat → Prop, (fun i => i < (w.alloc (.cells (cpuV g pc) 45)).heap.size) = K := ⟨_, rfl⟩
  have hend : ∀ w', Kept K0 (w.alloc (.cells (cpuV g pc) 45)) w' → Below w.heap.size w w' := fun w' h => by rw [← hK] at h; exact b0.trans ((below_kept h).mono b0.size)
  have hgs : ∀ w', Kept K0 (w.alloc (.cells (cpuV g pc) 45)) w' → 0 < w'.heap.size := fun w' h => by have := h.size; omega
  have hg0 : K0 0 := by rw [← hK]; show _ < _; omega
  have hk0 : K0 w.heap.size := by rw [← hK]; show _ < _; omega
  have hKl : ∀ i, K0 i → i < w.heap.size + 1 := fun i hi => by rw [← hK] at hi; simpa using hi
  rw [hK, hs0] at hNew
  clear hK hs0 hT
  obtain ⟨A, c, N, la, rfl, hN, hN2, hA, hq, hpl⟩ := cut30 hs
  have hvK : ∀ w', Kept K0 (w.alloc (.cells (cpuV g pc) 45)) w' → SlN B e 5 Ins.five w' (.slice A N c) la := fun w' h => hA.below (hend w' h)
  obtain ⟨ts, z, er, hRR, hcase⟩ := means_facts (y := la) hgr (by omega) hpc
  have hBB := fun K b w hg hT h hv => block_any K b [] B e (.slice A N c) la pc hpc (by decide) (by omega) (good_of rfl) hg w hT h hv
  rw [hRR] at hBB
  unfold FromPost at hBB
  dsimp only at hBB
  have HYN := Lib.hid hN
  clear hs hA hRR hN b0
  rcases hq with ⟨q1, q0, q2, q3⟩ | ⟨q1, q0, q2, q3⟩
  all_goals
    subst q2
    go_enter Tryz.func5, Tryz.ntmps5
    go_wp2_with fail
    refine hNew.mono ?_
    rintro r w1 ⟨rfl, h1, b1⟩
    have k1 : Kept K0 (w.alloc (.cells (cpuV g pc) 45)) w1 := Kept.below (by simpa using b1)
    have T1 := hT0.kept k1 hg0
    have hC1 := k1.blk hk0 hC
    have c32 : w1.cell? ⟨w.heap.size, 32, none⟩ = some (.int .u32 pc) := (cell_of hC1 32).trans (cpuV_pc g pc)
    have hB1 := hBB K0 (w.heap.size + 1) w1 hg0 T1 h1 (fun w' hk => hvK _ (k1.trans hk))
    clear hNew b1 hT0 hC hBB h1
    go_wp2_with fail
    refine hB1.mono ?_
    rintro r w2 ⟨rfl, h2, k2⟩
    have k3 := k1.trans k2
    have T2 := T1.kept k2 hg0
    have hC2 := k2.blk hk0 hC1
    have ba := (Below.refl w2.heap.size w2).alloc (Nat.le_refl _) (.cells (zV z) 32)
    have gX : ZAt 32 _ _ _ := ZAt.new 32 w2 z
    have hC3 := blk_below hC2 ba
    have bb := ba.alloc (by simp) (.cells (cpuV g pc) 45)
    have hM0 := blk_new (w2.alloc (.cells (zV z) 32)) (.cells #[.int .u32 0, .int .u32 0, .int .u32 0, .int .u32 0, .int .u32 0, .int .u32 0, .int .u32 0, .int .u32 0, .int .u32 0, .int .u32 0, .int .u32 0, .int .u32 0, .int .u32 0, .int .u32 0, .int .u32 0, .int .u32 0, .int .u32 0, .int .u32 0, .int .u32 0, .int .u32 0, .int .u32 0, .int .u32 0, .int .u32 0, .int .u32 0, .int .u32 0, .int .u32 0, .int .u32 0, .int .u32 0, .int .u32 0, .int .u32 0, .int .u32 0, .int .u32 0, .int .u32 0] 45)
    have hM1 := blk_new (w2.alloc (.cells (zV z) 32)) (.cells (cpuV g pc) 45)
    have hSR : ((w2.alloc (.cells (zV z) 32)).alloc (.cells #[.int .u32 0, .int .u32 0, .int .u32 0, .int .u32 0, .int .u32 0, .int .u32 0, .int .u32 0, .int .u32 0, .int .u32 0, .int .u32 0, .int .u32 0, .int .u32 0, .int .u32 0, .int .u32 0, .int .u32 0, .int .u32 0, .int .u32 0, .int .u32 0, .int .u32 0, .int .u32 0, .int .u32 0, .int .u32 0, .int .u32 0, .int .u32 0, .int .u32 0, .int .u32 0, .int .u32 0, .int .u32 0, .int .u32 0, .int .u32 0, .int .u32 0, .int .u32 0, .int .u32 0] 45)).setRow (w2.heap.size + 1) (cpuV g pc) = (w2.alloc (.cells (zV z) 32)).alloc (.cells (cpuV g pc) 45) := by
      have hsz : (w2.alloc (.cells (zV z) 32)).heap.size = w2.heap.size + 1 := by simp
      rw [← hsz]
      exact World.setRow_alloc_new _ _ _ _
    rw [show (w2.alloc (.cells (zV z) 32)).heap.size = w2.heap.size + 1 by simp] at hM0 hM1
    have gX2 := blk_alloc (show (w2.alloc (.cells (zV z) 32)).heap[w2.heap.size]? = some (.cells (zV z) 32 (0, 0)) from gX) (.cells (cpuV g pc) 45)
    have hC4 := blk_alloc hC3 (.cells (cpuV g pc) 45)
    obtain ⟨K2, d2, kk2, kn2⟩ := h2.grow bb
    have eX := kn2 w2.heap.size (Nat.le_refl _) (by simp; omega)
    have eM := kn2 (w2.heap.size + 1) (by omega) (by simp)
    have T3 := T2.below bb
    have k4 := k3.trans (Kept.below bb)
    have l2 : w.heap.size < w2.heap.size := (Array.getElem?_eq_some_iff.1 hC2).1
    clear hB1 k1 k2 k3 T1 T2 hC1 hC2 c32 h2 kn2
    go_upto_region 7 with (first | ((refine wpList_store_row rfl 32 (.tmp 6) (.tmp 29) rfl w2.heap.size (zV z) rfl rfl 32 _ (blk_new w2 _) (by rw [zV_size]; exact info_arr) rfl (zV_one _) ?_); rw [World.setRow_alloc_new]) | (refine wpList_load_row rfl 45 (.tmp 3) rfl w.heap.size rfl 45 (cpuV g pc) (0, 0) _ hC3 Tryz.underlying45 rfl (by rw [cpuV_size]; exact info_cpu) ?_) | ((refine wpList_store_row rfl 45 (.tmp 8) (.tmp 31) rfl (w2.heap.size + 1) (cpuV g pc) rfl rfl 45 _ hM0 (by rw [cpuV_size]; exact info_cpu) (by rw [cpuV_size]; rfl) (cpuV_one _ _) ?_); rw [hSR]) | fail)
    clear hM0 hSR gX hC3 ba bb
    generalize hWW : (w2.alloc (.cells (zV z) 32)).alloc (.cells (cpuV g pc) 45) = W at *
    clear hWW
    have cr : W.cell? ⟨w2.heap.size + 1, 0, none⟩ = some (.int .u32 (g 0 : Nat)) := (cell_of hM1 0).trans (cpuV_get g pc (by omega))
    have fr := frozen_of hM1 0
    have h1 := blk_set hM1 0 (.int .u32 ((0 : Nat) : Int))
    rw [cpuV_set g pc (by omega), show (fun q => if q = 0 then (0 : Nat) else g q) = zero1 g from rfl, show ((0 : Nat) : Int) = 0 from rfl] at h1
    have ks := kept_set W (w2.heap.size + 1) 0 (.int .u32 0)
    have gX3 : (W.setCell ⟨w2.heap.size + 1, 0, none⟩ (.int .u32 0)).heap[w2.heap.size]? = _ := ks.blk (by show _ ≠ _; omega) gX2
    have hC5 : (W.setCell ⟨w2.heap.size + 1, 0, none⟩ (.int .u32 0)).heap[w.heap.size]? = _ := ks.blk (by show _ ≠ _; omega) hC4
    have d3 := d2.moved ks eM
    have T4 := T3.kept ks (by show _ ≠ _; omega)
    have k5 := k4.trans (ks.mono fun i hi e => by have := hKl i hi; omega)
    clear ks gX2 hC4 d2 T3 k4 hM1
    go_upto_region 8 with fail
    generalize W.setCell ⟨w2.heap.size + 1, 0, none⟩ (.int .u32 0) = W1 at *
    clear cr fr
    obtain ⟨bM, hbM⟩ : ∃ bM, w2.heap.size + 1 = bM := ⟨_, rfl⟩
    obtain ⟨bX, hbX⟩ : ∃ bX, w2.heap.size = bX := ⟨_, rfl⟩
    have lM : w.heap.size + 1 < bM := by omega
    have lX : w.heap.size < bX := by omega
    have lMX : bX < bM := by omega
    rw [hbM] at h1 eM ⊢
    rw [hbX] at gX3 eX ⊢
    clear hbM hbX l2
    go_wp2_with fail
    go_loopw [9] (fun i wr => ∃ j : Nat, j ≤ la.length ∧ i = .int .i64 j ∧ oddL (la.take j) = false ∧ wr.heap[bM]? = some (.cells (cpuV (mG g la pc j) (mP pc j)) 45 (0, 0)) ∧ wr.heap[bX]? = some (.cells (zV z) 32 (0, 0)) ∧ wr.heap[w.heap.size]? = some (.cells (cpuV g pc) 45 (0, 0)) ∧ DagAt K2 wr (w.heap.size + 1) ts ∧ Tab wr ∧ Kept K0 (w.alloc (.cells (cpuV g pc) 45)) wr) (fun i _ => la.length - (Go.RowKit.intOf i).toNat)
    case atStart => exact ⟨0, Nat.zero_le _, rfl, rfl, by rw [mG_start, mP_start hpc]; exact h1, gX3, hC5, d3, T4, k5⟩
    case round =>
      clear h1 gX3 hC5 d3 T4 k5
      obtain ⟨j, hj, rfl, hno, hM, hX, hCr, hD, hTr, hk⟩ := hrel
      have hn := HYN.out
      by_cases hlt : j < la.length
      · try have hlt1 : (j : Int) < 30 := by omega
        try have hlt2 : (j : Int) < (xs.length : Int) := by omega
        have hs1 := hvK _ hk
        obtain ⟨bb, off, eA, hat, hbl⟩ := hs1.at_ hlt
        subst eA
        have hDo := fun w => rdoes_any (mG g la pc j) (mP pc j) la[j] (mG_lt hgr hno) (mP_lt pc j) w
        have hall : plainI la[j] = false → oddL la = true := fun h => by
          unfold oddL
          rw [List.any_eq_true]
          exact ⟨la[j], List.getElem_mem hlt, by rw [h]; rfl⟩
        have hnx := mG_next hgr hpc hlt hno
        have hmo : plainI la[j] = true → oddL (la.take (j + 1)) = false := fun h => by
          rw [takeI_snoc hlt]
          unfold oddL at hno ⊢
          rw [List.any_append, hno]
          simp [h]
        generalize la[j] = t at hat hDo hall hnx hmo
        have hVs := doesV_size (mG g la pc j) (mP pc j) t
        have hV1 := doesV_one (mG g la pc j) (mP pc j) t
        have hVy : plainI t = true → doesV (mG g la pc j) (mP pc j) t = cpuV (mG g la pc (j + 1)) (mP pc (j + 1)) := fun h => by rw [doesV_yes h, hnx, mP_next]
        generalize doesV (mG g la pc j) (mP pc j) t = V at hDo hVs hV1 hVy
        generalize plainI t = pl at hDo hall hmo hVy
        have hCs := cpuV_size (mG g la pc j) (mP pc j)
        generalize cpuV (mG g la pc j) (mP pc j) = CV at hDo hM hCs
        obtain ⟨op, rd, rs1, rs2, imm⟩ := t
        change ∀ w, Calls Tryz.prog 16 #[.agg CV, .agg #[.int .i64 op, .int .i64 rd, .int .i64 rs1, .int .i64 rs2, .int .i64 imm]] w _ at hDo
        clear hn hs1 hnx
        have hMd : wr.drew.heap[bM]? = some (.cells CV 45 (0, 0)) := hM
        have hMa := blk_alloc hMd (.cells #[.int .u32 0, .int .u32 0, .int .u32 0, .int .u32 0, .int .u32 0, .int .u32 0, .int .u32 0, .int .u32 0, .int .u32 0, .int .u32 0, .int .u32 0, .int .u32 0, .int .u32 0, .int .u32 0, .int .u32 0, .int .u32 0, .int .u32 0, .int .u32 0, .int .u32 0, .int .u32 0, .int .u32 0, .int .u32 0, .int .u32 0, .int .u32 0, .int .u32 0, .int .u32 0, .int .u32 0, .int .u32 0, .int .u32 0, .int .u32 0, .int .u32 0, .int .u32 0, .int .u32 0] 45)
        have hZa : (wr.drew.alloc (.cells #[.int .u32 0, .int .u32 0, .int .u32 0, .int .u32 0, .int .u32 0, .int .u32 0, .int .u32 0, .int .u32 0, .int .u32 0, .int .u32 0, .int .u32 0, .int .u32 0, .int .u32 0, .int .u32 0, .int .u32 0, .int .u32 0, .int .u32 0, .int .u32 0, .int .u32 0, .int .u32 0, .int .u32 0, .int .u32 0, .int .u32 0, .int .u32 0, .int .u32 0, .int .u32 0, .int .u32 0, .int .u32 0, .int .u32 0, .int .u32 0, .int .u32 0, .int .u32 0, .int .u32 0] 45)).heap[wr.heap.size]? = some (.cells #[.int .u32 0, .int .u32 0, .int .u32 0, .int .u32 0, .int .u32 0, .int .u32 0, .int .u32 0, .int .u32 0, .int .u32 0, .int .u32 0, .int .u32 0, .int .u32 0, .int .u32 0, .int .u32 0, .int .u32 0, .int .u32 0, .int .u32 0, .int .u32 0, .int .u32 0, .int .u32 0, .int .u32 0, .int .u32 0, .int .u32 0, .int .u32 0, .int .u32 0, .int .u32 0, .int .u32 0, .int .u32 0, .int .u32 0, .int .u32 0, .int .u32 0, .int .u32 0, .int .u32 0] 45 (0, 0)) := blk_top rfl
        have hld := load_cpu hMd hCs
        have hla := load_cpu hMa hCs
        have hat1 : AtN Ins.five wr.drew bb (off + j * 5) ⟨op, rd, rs1, rs2, imm⟩ := hat.of_block rfl
        have d0 : wr.drew.cell? ⟨bb, off + j * 5, none⟩ = some (.int .i64 op) := hat1 0 _ rfl
        have d1 : wr.drew.cell? ⟨bb, off + j * 5 + 1, none⟩ = some (.int .i64 rd) := hat1 1 _ rfl
        have d2 : wr.drew.cell? ⟨bb, off + j * 5 + 2, none⟩ = some (.int .i64 rs1) := hat1 2 _ rfl
        have d3 : wr.drew.cell? ⟨bb, off + j * 5 + 3, none⟩ = some (.int .i64 rs2) := hat1 3 _ rfl
        have d4 : wr.drew.cell? ⟨bb, off + j * 5 + 4, none⟩ = some (.int .i64 imm) := hat1 4 _ rfl
        have a0 := cell_alloc0 d0 (.cells #[.int .u32 0, .int .u32 0, .int .u32 0, .int .u32 0, .int .u32 0, .int .u32 0, .int .u32 0, .int .u32 0, .int .u32 0, .int .u32 0, .int .u32 0, .int .u32 0, .int .u32 0, .int .u32 0, .int .u32 0, .int .u32 0, .int .u32 0, .int .u32 0, .int .u32 0, .int .u32 0, .int .u32 0, .int .u32 0, .int .u32 0, .int .u32 0, .int .u32 0, .int .u32 0, .int .u32 0, .int .u32 0, .int .u32 0, .int .u32 0, .int .u32 0, .int .u32 0, .int .u32 0] 45)
        have a1 := cell_alloc0 d1 (.cells #[.int .u32 0, .int .u32 0, .int .u32 0, .int .u32 0, .int .u32 0, .int .u32 0, .int .u32 0, .int .u32 0, .int .u32 0, .int .u32 0, .int .u32 0, .int .u32 0, .int .u32 0, .int .u32 0, .int .u32 0, .int .u32 0, .int .u32 0, .int .u32 0, .int .u32 0, .int .u32 0, .int .u32 0, .int .u32 0, .int .u32 0, .int .u32 0, .int .u32 0, .int .u32 0, .int .u32 0, .int .u32 0, .int .u32 0, .int .u32 0, .int .u32 0, .int .u32 0, .int .u32 0] 45)
        have a2 := cell_alloc0 d2 (.cells #[.int .u32 0, .int .u32 0, .int .u32 0, .int .u32 0, .int .u32 0, .int .u32 0, .int .u32 0, .int .u32 0, .int .u32 0, .int .u32 0, .int .u32 0, .int .u32 0, .int .u32 0, .int .u32 0, .int .u32 0, .int .u32 0, .int .u32 0, .int .u32 0, .int .u32 0, .int .u32 0, .int .u32 0, .int .u32 0, .int .u32 0, .int .u32 0, .int .u32 0, .int .u32 0, .int .u32 0, .int .u32 0, .int .u32 0, .int .u32 0, .int .u32 0, .int .u32 0, .int .u32 0] 45)
        have a3 := cell_alloc0 d3 (.cells #[.int .u32 0, .int .u32 0, .int .u32 0, .int .u32 0, .int .u32 0, .int .u32 0, .int .u32 0, .int .u32 0, .int .u32 0, .int .u32 0, .int .u32 0, .int .u32 0, .int .u32 0, .int .u32 0, .int .u32 0, .int .u32 0, .int .u32 0, .int .u32 0, .int .u32 0, .int .u32 0, .int .u32 0, .int .u32 0, .int .u32 0, .int .u32 0, .int .u32 0, .int .u32 0, .int .u32 0, .int .u32 0, .int .u32 0, .int .u32 0, .int .u32 0, .int .u32 0, .int .u32 0] 45)
        have a4 := cell_alloc0 d4 (.cells #[.int .u32 0, .int .u32 0, .int .u32 0, .int .u32 0, .int .u32 0, .int .u32 0, .int .u32 0, .int .u32 0, .int .u32 0, .int .u32 0, .int .u32 0, .int .u32 0, .int .u32 0, .int .u32 0, .int .u32 0, .int .u32 0, .int .u32 0, .int .u32 0, .int .u32 0, .int .u32 0, .int .u32 0, .int .u32 0, .int .u32 0, .int .u32 0, .int .u32 0, .int .u32 0, .int .u32 0, .int .u32 0, .int .u32 0, .int .u32 0, .int .u32 0, .int .u32 0, .int .u32 0] 45)
        have bD : Below wr.heap.size wr wr.drew := below_drewN (Below.refl _ wr) 1
        have bA := bD.alloc bD.size (.cells #[.int .u32 0, .int .u32 0, .int .u32 0, .int .u32 0, .int .u32 0, .int .u32 0, .int .u32 0, .int .u32 0, .int .u32 0, .int .u32 0, .int .u32 0, .int .u32 0, .int .u32 0, .int .u32 0, .int .u32 0, .int .u32 0, .int .u32 0, .int .u32 0, .int .u32 0, .int .u32 0, .int .u32 0, .int .u32 0, .int .u32 0, .int .u32 0, .int .u32 0, .int .u32 0, .int .u32 0, .int .u32 0, .int .u32 0, .int .u32 0, .int .u32 0, .int .u32 0, .int .u32 0] 45)
        clear hat
        go_upto_region 11 with fail
        go_cut [10, 11] from 34 to 61 (fun p q wx => ∃ bN : Nat, p = .pointer (some ⟨bN, 0, none⟩) ∧ q = .bool pl ∧ wx.heap[bN]? = some (.cells V 45 (0, 0)) ∧ Below wr.heap.size wr wx)
        case first =>
          clear hX hCr hD hTr hk hvK hmo hall hVy hcase hld hla d0 d1 d2 d3 d4 a0 a1 a2 a3 a4
          have lMr : bM < wr.heap.size := (Array.getElem?_eq_some_iff.1 hM).1
          have lbr : bb < wr.heap.size := hbl
          have hSD : wr.drew.rangeAt bM 0 CV.toList ∧ wr.drew.rangeAt bb (off + j * 5) [.int .i64 op, .int .i64 rd, .int .i64 rs1, .int .i64 rs2, .int .i64 imm] := ⟨range_row hMd, range_five hat1⟩
          refine wp_region_any (by kernel_rfl) (wpAny_of_held (S := fun w' => w'.rangeAt bM 0 CV.toList ∧ w'.rangeAt bb (off + j * 5) [.int .i64 op, .int .i64 rd, .int .i64 rs1, .int .i64 rs2, .int .i64 imm]) _ _ _ _ ?_)
          change wpAnyH _ _ _ _ _ 12 _ _ wr.drew
          refine wpAnyH_take (i := 1) (v := ?_) rfl (by kernel_rfl) (by kernel_rfl) (by kernel_rfl) (fun _ _ _ h => h) (Or.inl ⟨by rfl, ?_⟩) hSD ?_
          rotate_left
          · intro w hw
            go_simp
            try with_reducible rfl
          refine wpAnyH_take (i := 2) (v := ?_) rfl (by kernel_rfl) (by kernel_rfl) (by kernel_rfl) (fun _ _ _ h => h) (Or.inl ⟨by rfl, ?_⟩) hSD ?_
          rotate_left
          · intro w hw
            go_simp
            try with_reducible rfl
          refine wpAnyH_take (i := 3) (v := ?_) rfl (by kernel_rfl) (by kernel_rfl) (by kernel_rfl) (fun _ _ _ h => h) (Or.inl ⟨by rfl, ?_⟩) hSD ?_
          rotate_left
          · intro w hw
            go_simp
            try with_reducible rfl
          refine wpAnyH_take (i := 0) rfl (by kernel_rfl) (by kernel_rfl) (by kernel_rfl) (fun _ _ _ h => h) (yieldsIf_load_mid (by rfl) 45 (.tmp 8) rfl bM 0 rfl CV.toList _ (fun w hw => hw.1) Tryz.underlying45 rfl (by rw [Array.length_toList, hCs]; exact info_cpu)) hSD ?_
          refine wpAnyH_take (i := 4) rfl (by kernel_rfl) (by kernel_rfl) (by kernel_rfl) (fun _ _ _ h => h) (yieldsIf_load_mid (by rfl) 31 (.tmp 44) rfl bb (off + j * 5) rfl [.int .i64 op, .int .i64 rd, .int .i64 rs1, .int .i64 rs2, .int .i64 imm] _ (fun w hw => hw.2) Tryz.underlying31 rfl (by kernel_rfl)) hSD ?_
          refine wpAnyH_all (rs := [5, 9]) (by kernel_rfl) (by simp) (fun i hi => ?_)
          rcases (by simpa using hi : i = 5 ∨ i = 9) with rfl | rfl
          · refine wpOp_step rfl (fun K9 hK9 => ?_)
            rw [if_pos (by rfl)]
            go_simp
            go_at_call 16
            refine (hDo _).mono ?_
            rintro rr w3 ⟨rfl, b3⟩
            have hS3 := range_both b3 hSD
            have l3 : wr.heap.size ≤ w3.heap.size := b3.size
            have hB3 : (w3.alloc (.cells #[.int .u32 0, .int .u32 0, .int .u32 0, .int .u32 0, .int .u32 0, .int .u32 0, .int .u32 0, .int .u32 0, .int .u32 0, .int .u32 0, .int .u32 0, .int .u32 0, .int .u32 0, .int .u32 0, .int .u32 0, .int .u32 0, .int .u32 0, .int .u32 0, .int .u32 0, .int .u32 0, .int .u32 0, .int .u32 0, .int .u32 0, .int .u32 0, .int .u32 0, .int .u32 0, .int .u32 0, .int .u32 0, .int .u32 0, .int .u32 0, .int .u32 0, .int .u32 0, .int .u32 0] 45)).heap[w3.heap.size]? = some (.cells #[.int .u32 0, .int .u32 0, .int .u32 0, .int .u32 0, .int .u32 0, .int .u32 0, .int .u32 0, .int .u32 0, .int .u32 0, .int .u32 0, .int .u32 0, .int .u32 0, .int .u32 0, .int .u32 0, .int .u32 0, .int .u32 0, .int .u32 0, .int .u32 0, .int .u32 0, .int .u32 0, .int .u32 0, .int .u32 0, .int .u32 0, .int .u32 0, .int .u32 0, .int .u32 0, .int .u32 0, .int .u32 0, .int .u32 0, .int .u32 0, .int .u32 0, .int .u32 0, .int .u32 0] 45 (0, 0)) := blk_new _ _
            have hS4 := range_both ((Below.refl w3.heap.size w3).alloc (Nat.le_refl _) (.cells #[.int .u32 0, .int .u32 0, .int .u32 0, .int .u32 0, .int .u32 0, .int .u32 0, .int .u32 0, .int .u32 0, .int .u32 0, .int .u32 0, .int .u32 0, .int .u32 0, .int .u32 0, .int .u32 0, .int .u32 0, .int .u32 0, .int .u32 0, .int .u32 0, .int .u32 0, .int .u32 0, .int .u32 0, .int .u32 0, .int .u32 0, .int .u32 0, .int .u32 0, .int .u32 0, .int .u32 0, .int .u32 0, .int .u32 0, .int .u32 0, .int .u32 0, .int .u32 0, .int .u32 0] 45)) hS3
            refine hK9 _ _ ⟨hS3, ?_⟩
            clear hK9
            refine wpAnyH_take (i := 6) (v := ?_) rfl (by kernel_rfl) (by kernel_rfl) (by kernel_rfl) (fun _ _ _ h => h) (Or.inl ⟨by rfl, ?_⟩) hS3 ?_
            rotate_left
            · intro w hw
              go_simp
              try with_reducible rfl
            refine wpAnyH_take (i := 7) (v := ?_) rfl (by kernel_rfl) (by kernel_rfl) (by kernel_rfl) (fun _ _ _ h => h) (Or.inl ⟨by rfl, ?_⟩) hS3 ?_
            rotate_left
            · intro w hw
              go_simp
              try with_reducible rfl
            refine wpAnyH_take (i := 8) (v := ?_) rfl (by kernel_rfl) (by kernel_rfl) (by kernel_rfl) (fun _ _ _ h => h) (Or.inl ⟨by rfl, ?_⟩) hS3 ?_
            rotate_left
            · intro w hw
              go_simp
              try with_reducible rfl
            refine wpAnyH_all (rs := [9]) (by kernel_rfl) (by simp) (fun i hi => ?_)
            obtain rfl : i = 9 := by simpa using hi
            refine wpOp_step rfl (fun K9 hK9 => ?_)
            rw [if_pos (by rfl)]
            go_simp
            refine hK9 _ _ ⟨hS4, ?_⟩
            clear hK9
            refine wpAnyH_all (rs := [10]) (by kernel_rfl) (by simp) (fun i hi => ?_)
            obtain rfl : i = 10 := by simpa using hi
            refine wpOp_step rfl (fun K9 hK9 => ?_)
            rw [if_pos (by rfl)]
            refine wp_store_row 45 (.tmp 10) (.tmp 47) rfl w3.heap.size V rfl rfl 45 _ hB3 (by rw [hVs]; exact info_cpu) (by rw [hVs]; rfl) hV1 ?_
            refine hK9 _ _ ⟨range_set hS4 (by omega) (by omega), ?_⟩
            refine wpAnyH_take (i := 11) (v := ?_) rfl (by kernel_rfl) (by kernel_rfl) (by kernel_rfl) (fun _ _ _ h => h) (Or.inl ⟨by rfl, ?_⟩) (range_set hS4 (by omega) (by omega)) ?_
            rotate_left
            · intro w hw
              go_simp
              try with_reducible rfl
            refine wpAnyH_done (by kernel_rfl) ?_ _
            go_wp2_with fail
            go_meet
            exact ⟨w3.heap.size, rfl, rfl, setRow_heap _ _ _ V _ _ hB3, below_row ((below_then bD b3).alloc (below_then bD b3).size _) (by omega) _⟩
          · refine wpOp_step rfl (fun K9 hK9 => ?_)
            rw [if_pos (by rfl)]
            go_simp
            have hS4 := range_both ((Below.refl wr.drew.heap.size wr.drew).alloc (Nat.le_refl _) (.cells #[.int .u32 0, .int .u32 0, .int .u32 0, .int .u32 0, .int .u32 0, .int .u32 0, .int .u32 0, .int .u32 0, .int .u32 0, .int .u32 0, .int .u32 0, .int .u32 0, .int .u32 0, .int .u32 0, .int .u32 0, .int .u32 0, .int .u32 0, .int .u32 0, .int .u32 0, .int .u32 0, .int .u32 0, .int .u32 0, .int .u32 0, .int .u32 0, .int .u32 0, .int .u32 0, .int .u32 0, .int .u32 0, .int .u32 0, .int .u32 0, .int .u32 0, .int .u32 0, .int .u32 0] 45)) hSD
            refine hK9 _ _ ⟨hS4, ?_⟩
            clear hK9
            refine wpAnyH_all (rs := [5]) (by kernel_rfl) (by simp) (fun i hi => ?_)
            obtain rfl : i = 5 := by simpa using hi
            refine wpOp_step rfl (fun K9 hK9 => ?_)
            rw [if_pos (by rfl)]
            go_simp
            go_at_call 16
            refine (hDo _).mono ?_
            rintro rr w3 ⟨rfl, b3⟩
            have hS5 := range_both b3 hS4
            have hB3 := blk_below hZa b3
            refine hK9 _ _ ⟨hS5, ?_⟩
            clear hK9
            refine wpAnyH_take (i := 6) (v := ?_) rfl (by kernel_rfl) (by kernel_rfl) (by kernel_rfl) (fun _ _ _ h => h) (Or.inl ⟨by rfl, ?_⟩) hS5 ?_
            rotate_left
            · intro w hw
              go_simp
              try with_reducible rfl
            refine wpAnyH_take (i := 7) (v := ?_) rfl (by kernel_rfl) (by kernel_rfl) (by kernel_rfl) (fun _ _ _ h => h) (Or.inl ⟨by rfl, ?_⟩) hS5 ?_
            rotate_left
            · intro w hw
              go_simp
              try with_reducible rfl
            refine wpAnyH_take (i := 8) (v := ?_) rfl (by kernel_rfl) (by kernel_rfl) (by kernel_rfl) (fun _ _ _ h => h) (Or.inl ⟨by rfl, ?_⟩) hS5 ?_
            rotate_left
            · intro w hw
              go_simp
              try with_reducible rfl
            refine wpAnyH_all (rs := [10]) (by kernel_rfl) (by simp) (fun i hi => ?_)
            obtain rfl : i = 10 := by simpa using hi
            refine wpOp_step rfl (fun K9 hK9 => ?_)
            rw [if_pos (by rfl)]
            refine wp_store_row 45 (.tmp 10) (.tmp 47) rfl wr.heap.size V rfl rfl 45 _ hB3 (by rw [hVs]; exact info_cpu) (by rw [hVs]; rfl) hV1 ?_
            refine hK9 _ _ ⟨range_set hS5 (by omega) (by omega), ?_⟩
            refine wpAnyH_take (i := 11) (v := ?_) rfl (by kernel_rfl) (by kernel_rfl) (by kernel_rfl) (fun _ _ _ h => h) (Or.inl ⟨by rfl, ?_⟩) (range_set hS5 (by omega) (by omega)) ?_
            rotate_left
            · intro w hw
              go_simp
              try with_reducible rfl
            refine wpAnyH_done (by kernel_rfl) ?_ _
            go_wp2_with fail
            go_meet
            exact ⟨wr.heap.size, rfl, rfl, setRow_heap _ _ _ V _ _ hB3, below_row (below_then bA b3) (Nat.le_refl _) _⟩
        case rest =>
          obtain ⟨bN, rfl, rfl, hN, bwc⟩ := hcut
          have hMc := blk_below hM bwc
          have hXc := blk_below hX bwc
          have hCc := blk_below hCr bwc
          have hDc := hD.below bwc
          have Tc := hTr.below bwc
          have kc := hk.trans (Kept.below bwc)
          clear hM hX hCr hD hTr hk bwc hMd hMa hZa hld hla d0 d1 d2 d3 d4 a0 a1 a2 a3 a4 bD bA hat1 hDo
          cases pl with
          | false =>
            have hod := hall rfl
            rcases hcase with ⟨_, rfl, rfl⟩ | ⟨h9, _⟩
            rotate_left
            · rw [hod] at h9; cases h9
            have hq1 : ∀ w, (binOp .eql 32 (.agg (zV fun _ => 0)) (.agg #[.int .i64 0, .int .i64 0, .int .i64 0, .int .i64 0, .int .i64 0, .int .i64 0, .int .i64 0, .int .i64 0, .int .i64 0, .int .i64 0, .int .i64 0, .int .i64 0, .int .i64 0, .int .i64 0, .int .i64 0, .int .i64 0, .int .i64 0, .int .i64 0, .int .i64 0, .int .i64 0, .int .i64 0, .int .i64 0, .int .i64 0, .int .i64 0, .int .i64 0, .int .i64 0, .int .i64 0, .int .i64 0, .int .i64 0, .int .i64 0, .int .i64 0, .int .i64 0])).run Tryz.prog w = .ok (.bool true) w := fun w => by rw [zV_zero]; exact eq_arr _ w
            clear hall hmo hVy hod
            go_wp2_with (first | (refine wpList_load_rowG (by first | rfl | (simp [Region.wanted, yielded]; done)) 32 (.tmp 6) rfl bX rfl 32 (zV fun _ => 0) (0, 0) _ hXc Tryz.underlying32 rfl (by rw [zV_size]; exact info_arr) ?_) | fail)
            refine (lfixed_any _ Tc (hgs _ kc)).mono ?_
            rintro r w4 ⟨rfl, b4⟩
            go_wp2_with fail
            go_ret
            exact ⟨rfl, hend _ (kc.trans (Kept.below b4))⟩
          | true =>
            have hmo2 := hmo rfl
            have hVe := hVy rfl
            have kr := kept_row wc bM V
            have hM9 := setRow_heap wc bM _ V _ _ hMc
            have hX9 : (wc.setRow bM V).heap[bX]? = _ := kr.blk (by show _ ≠ _; omega) hXc
            have hC9 : (wc.setRow bM V).heap[w.heap.size]? = _ := kr.blk (by show _ ≠ _; omega) hCc
            have hD9 := hDc.moved kr eM
            have T9 := Tc.kept kr (by have := hKl _ hg0; show _ ≠ _; omega)
            have k9 := kc.trans (kr.mono fun i hi e => by have := hKl i hi; omega)
            have HV := Lib.hid hVe
            clear hall hmo hVy hDc Tc kc kr hXc hCc hVe
            go_wp2_with (first | (refine wpList_load_row rfl 45 (.tmp 10) rfl bN rfl 45 V (0, 0) _ hN Tryz.underlying45 rfl (by rw [hVs]; exact info_cpu) ?_) | (refine wpList_store_row rfl 45 (.tmp 8) (.tmp 61) rfl bM V rfl rfl 45 _ hMc (by rw [hVs]; exact info_cpu) (by rw [hCs, hVs]) hV1 ?_) | fail)
            go_roundw
            case rel => exact ⟨j + 1, by omega, by go_num, hmo2, by rw [← HV.out]; exact hM9, hX9, hC9, hD9, T9, k9⟩
            case measure => simp [Go.RowKit.intOf]; omega
      · try have hlt1 : ¬ (j : Int) < 30 := by omega
        try have hlt2 : ¬ (j : Int) < (xs.length : Int) := by omega
        obtain rfl : j = la.length := by omega
        rw [List.take_length] at hno
        rcases hcase with ⟨h9, _⟩ | ⟨_, rfl, hG, htl, x, rfl, hx⟩
        · rw [hno] at h9; cases h9
        have hE := fun (r : Nat) (hr : r < 32) W h => eval_any K2 (w.heap.size + 1) (x r) ts g hgr (by omega) (hx r hr).1 hG W h
        clear hn hno
        generalize hmm : mG g la pc la.length = m at *
        generalize mP pc la.length = p at *
        go_wp2_with fail
        obtain ⟨wo, rfl⟩ : ∃ wo, wo = wr := ⟨_, rfl⟩
        go_loopw [12] (fun i w9 => ∃ j : Nat, j ≤ 32 ∧ i = .int .i64 j ∧ Below wo.heap.size wo w9) (fun i _ => 32 - (Go.RowKit.intOf i).toNat)
        case atStart => exact ⟨0, by omega, rfl, Below.refl _ _⟩
        case round =>
          obtain ⟨j, hj, rfl, hb⟩ := hrel
          have hMr := blk_below hM hb
          have hXr := blk_below hX hb
          have hCr2 := blk_below hCr hb
          have hDr := hD.below hb
          by_cases hlt : j < 32
          · have hlt' : (j : Int) < 32 := by omega
            have c1 : wr.cell? ⟨bX, j, none⟩ = some (.int .i64 ((x j : Nat) : Int)) := (cell_of hXr j).trans (zV_get _ hlt)
            have cm : wr.cell? ⟨bM, j, none⟩ = some (.int .u32 (m j : Nat)) := (cell_of hMr j).trans (cpuV_get m p hlt)
            have hEj := hE j hlt
            rw [(hx j hlt).2] at hEj
            have bD : Below wr.heap.size wr wr.drew := below_drewN (Below.refl _ wr) 1
            have hDd := hDr.below bD
            clear hCr hDr hD hE
            have hCr := hCr2
            clear hCr2
            go_upto_region 18 with fail
            go_cut [13, 14] from 62 to 85 (fun p9 q9 wx => p9 = .int .u32 (m j : Nat) ∧ q9 = .int .i64 0 ∧ Below wr.heap.size wr wx)
            case first =>
              clear hM hX hMr hXr hTr hk hb cm hlt hx
              have hSD : wr.drew.cell? ⟨bX, j, none⟩ = some (.int .i64 ((x j : Nat) : Int)) ∧ wr.drew.rangeAt w.heap.size 0 (regsV g).toList := ⟨c1, range_regs hCr⟩
              refine wp_region_any (by kernel_rfl) (wpAny_of_held (S := fun w' => w'.cell? ⟨bX, j, none⟩ = some (.int .i64 ((x j : Nat) : Int)) ∧ w'.rangeAt w.heap.size 0 (regsV g).toList) _ _ _ _ ?_)
              change wpAnyH _ _ _ _ _ 12 _ _ wr.drew
              refine wpAnyH_take (i := 0) (v := ?_) rfl (by kernel_rfl) (by kernel_rfl) (by kernel_rfl) (fun _ _ _ h => h) (Or.inl ⟨by rfl, ?_⟩) hSD ?_
              rotate_left
              · intro w9 hw9
                go_simp
                try with_reducible rfl
              refine wpAnyH_take (i := 1) (v := ?_) rfl (by kernel_rfl) (by kernel_rfl) (by kernel_rfl) (fun _ _ _ h => h) (Or.inl ⟨by rfl, ?_⟩) hSD ?_
              rotate_left
              · intro w9 hw9
                go_simp
                try with_reducible rfl
              refine wpAnyH_take (i := 2) (v := ?_) rfl (by kernel_rfl) (by kernel_rfl) (by kernel_rfl) (fun _ _ _ h => h) (Or.inl ⟨by rfl, ?_⟩) hSD ?_
              rotate_left
              · intro w9 hw9
                go_simp
                try with_reducible rfl
              refine wpAnyH_take (i := 3) (v := ?_) rfl (by kernel_rfl) (by kernel_rfl) (by kernel_rfl) (fun _ _ _ h => h) (Or.inl ⟨by rfl, ?_⟩) hSD ?_
              rotate_left
              · intro w9 hw9
                obtain ⟨hw8, _⟩ := hw9
                go_simp
                try with_reducible rfl
              refine wpAnyH_take (i := 4) (v := ?_) rfl (by kernel_rfl) (by kernel_rfl) (by kernel_rfl) (fun _ _ _ h => h) (Or.inl ⟨by rfl, ?_⟩) hSD ?_
              rotate_left
              · intro w9 hw9
                go_simp
                try with_reducible rfl
              refine wpAnyH_take (i := 5) rfl (by kernel_rfl) (by kernel_rfl) (by kernel_rfl) (fun _ _ _ h => h) (yieldsIf_load_mid (by rfl) 43 (.tmp 71) rfl w.heap.size 0 rfl (regsV g).toList _ (fun w hw => hw.2) Tryz.underlying43 rfl (by rw [Array.length_toList, regsV_size]; kernel_rfl)) hSD ?_
              refine wpAnyH_all (rs := [6]) (by kernel_rfl) (by simp) (fun i hi => ?_)
              obtain rfl : i = 6 := by simpa using hi
              refine wpOp_step rfl (fun K9 hK9 => ?_)
              rw [if_pos (by rfl)]
              go_simp
              go_at_call 17
              refine (hEj _ hDd).mono ?_
              rintro rr w3 ⟨rfl, b3⟩
              have hS3 : w3.cell? ⟨bX, j, none⟩ = some (.int .i64 ((x j : Nat) : Int)) ∧ w3.rangeAt w.heap.size 0 (regsV g).toList := ⟨cell_below b3 hSD.1, fun k v hv => cell_below b3 (hSD.2 k v hv)⟩
              refine hK9 _ _ ⟨hS3, ?_⟩
              clear hK9
              refine wpAnyH_take (i := 7) (v := ?_) rfl (by kernel_rfl) (by kernel_rfl) (by kernel_rfl) (fun _ _ _ h => h) (Or.inl ⟨by rfl, ?_⟩) hS3 ?_
              rotate_left
              · intro w9 hw9
                go_simp
                try with_reducible rfl
              refine wpAnyH_take (i := 8) (v := ?_) rfl (by kernel_rfl) (by kernel_rfl) (by kernel_rfl) (fun _ _ _ h => h) (Or.inl ⟨by rfl, ?_⟩) hS3 ?_
              rotate_left
              · intro w9 hw9
                go_simp
                try with_reducible rfl
              refine wpAnyH_take (i := 9) (v := ?_) rfl (by kernel_rfl) (by kernel_rfl) (by kernel_rfl) (fun _ _ _ h => h) (Or.inl ⟨by rfl, ?_⟩) hS3 ?_
              rotate_left
              · intro w9 hw9
                go_simp
                try with_reducible rfl
              refine wpAnyH_take (i := 10) (v := ?_) rfl (by kernel_rfl) (by kernel_rfl) (by kernel_rfl) (fun _ _ _ h => h) (Or.inl ⟨by rfl, ?_⟩) hS3 ?_
              rotate_left
              · intro w9 hw9
                go_simp
                try with_reducible rfl
              refine wpAnyH_take (i := 11) (v := ?_) rfl (by kernel_rfl) (by kernel_rfl) (by kernel_rfl) (fun _ _ _ h => h) (Or.inl ⟨by rfl, ?_⟩) hS3 ?_
              rotate_left
              · intro w9 hw9
                go_simp
                try with_reducible rfl
              refine wpAnyH_done (by kernel_rfl) ?_ _
              go_wp2_with fail
              go_meet
              exact ⟨rfl, rfl, below_then bD b3⟩
            case rest =>
              obtain ⟨rfl, rfl, bwc⟩ := hcut
              have cm2 := cell_below bwc cm
              clear hMr hXr hCr c1 cm hEj hDd bD
              have he : ((m j : Int) != (m j : Int)) = false := by simp
              go_wp2_with fail
              go_roundw
              case rel => exact ⟨j + 1, by omega, by go_num, below_then hb bwc⟩
              case measure => simp [Go.RowKit.intOf]; omega
          · have hlt' : ¬ (j : Int) < 32 := by omega
            have T9 := hTr.below hb
            have k9 := hk.trans (Kept.below hb)
            go_wp2_with fail
            refine (lfixed_any _ T9 (hgs _ k9)).mono ?_
            rintro r w4 ⟨rfl, b4⟩
            go_wp2_with fail
            go_ret
            exact ⟨rfl, hend _ (k9.trans (Kept.below b4))⟩
end Go.Proofs.YtaiggfknighhgaaGreatDoor
