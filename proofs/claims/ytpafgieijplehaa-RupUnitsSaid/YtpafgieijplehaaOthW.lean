/- The walks of the smaller functions of the seat. -/
import Derived.Test.YtpafgieijplehaaBndW
import Derived.Deep.QuietTactic
import Derived.BigQuiet
set_option linter.unusedVariables false
set_option linter.unusedSimpArgs false
namespace Go.Proofs.Ytpafgieijplehaa
open Go.RowKit

theorem field_l (x : Value) (A : Option Addr) (m c : Nat) (w : World) : (Instr.field 28 (.agg #[x, .slice A m c]) 1).run Try.prog w = .ok (.slice A m c) w := by kernel_rfl
set_option maxRecDepth 100000 in
theorem lists_any (b0 : Nat) (l : List (List Int)) (v : Value) (w : World) (hl : Grid b0 w v l) :
    Calls Try.prog 10 #[v] w fun e w' => ∃ v', e = .returned v' ∧ OwnGrid w.heap.size 0 w' v' (bound l) ∧ Below w.heap.size w w' := by
  replace hl := grid_re hl (Nat.le_refl w.heap.size)
  obtain ⟨A, c, rfl, hlc, hcm, hnil⟩ := hl.open_
  have hfl := field_l
  go_enter Try.func10, Try.ntmps10
  go_wp2_with (go_at_call 14; refine (bound_any _ _ _ _ _ hl).mono ?_; rintro e w1 ⟨v1, rfl, ho, hb⟩; obtain ⟨A1, c1, rfl, _, _, _⟩ := (ho.toSl 0).open_)
  go_ret
  exact ⟨_, rfl, ho, hb⟩

theorem follows16_any (b1 b2 : Nat) (l : List (List Int)) (p : List Int) (vl vp : Value) (w : World) (hl : Grid b1 w vl l) (hp : Row b2 w vp p) (hsz : p.length + l.flatten.length ≤ 17592186044415) :
    Calls Try.prog 13 #[vl, vp] w fun e w' => e = .returned (.bool (Rup.rfollows l p)) ∧ Below w.heap.size w w' := by
  go_enter Try.func13, Try.ntmps13
  go_wp2_with (go_at_call 21; refine (rfollows_any _ _ _ _ _ _ _ hl hp hsz).mono ?_; rintro e w1 ⟨rfl, hb⟩)
  go_ret
  exact ⟨rfl, hb⟩

theorem check16_any (b0 b1 : Nat) (n : Int) (l proof : List (List Int)) (v vp : Value) (w : World) (hl : Grid b0 w v l) (hp : Grid b1 w vp proof) (hsz : l.length + proof.length ≤ 1099511627776) (hsz2 : l.flatten.length + proof.flatten.length ≤ 1099511627776) :
    Calls Try.prog 16 #[.agg #[.int .i64 n, v], vp] w fun e w' => e = .returned (.tuple #[.int .i64 (Rup.check Rup.rfollows l proof 0 false).1, .bool (Rup.check Rup.rfollows l proof 0 false).2]) ∧ Below w.heap.size w w' := by
  obtain ⟨A, c, rfl, _, _, _⟩ := hl.open_
  go_enter Try.func16, Try.ntmps16
  go_wp2_with (go_at_call 23; refine (rcheck_any _ _ _ _ _ _ _ _ (grid_below hl ((Below.refl _ _).alloc (Nat.le_refl _) _)) (grid_below hp ((Below.refl _ _).alloc (Nat.le_refl _) _)) hsz hsz2).mono ?_; rintro e w1 ⟨rfl, hb⟩)
  go_ret2
  exact ⟨rfl, ((Below.refl w.heap.size w).alloc (Nat.le_refl _) _).trans (hb.mono (by simp))⟩

def sameRow (a b : List Int) : Bool := a == b
def sameGrid (a b : List (List Int)) : Bool := a == b
theorem sameRow_cons (x y : Int) (a b : List Int) : sameRow (x :: a) (y :: b) = ((x == y) && sameRow a b) := rfl
theorem sameGrid_cons (x y : List Int) (a b : List (List Int)) : sameGrid (x :: a) (y :: b) = (sameRow x y && sameGrid a b) := rfl
theorem nums_any (b0 b1 : Nat) (a b : List Int) (va vb : Value) (w : World) (ha : Row b0 w va a) (hb : Row b1 w vb b) :
    Calls Try.prog 24 #[va, vb] w fun e w' => e = .returned (.bool (sameRow a b)) ∧ ∃ m, w' = w.drewN m := by
  obtain ⟨A, c, rfl, hlc, hcm, _⟩ := ha.open_
  obtain ⟨B, d, rfl, _, hdm, _⟩ := hb.open_
  have hla : a.length ≤ 9223372036854775807 := by unfold maxLen at hcm; omega
  clear hlc hcm
  by_cases hle : a.length = b.length
  · have hb2 := hb
    rw [← hle] at hb2
    have HL := Lib.hid hle
    rw [← hle]
    clear hle
    go_enter Try.func24, Try.ntmps24
    go_wp2
    go_loopw [5] (fun i wr => ∃ k : Nat, k ≤ a.length ∧ i = .int .i64 k ∧ Hid (sameRow (a.drop k) (b.drop k) = sameRow a b) ∧ ∃ m, wr = w.drewN m) (fun i _ => a.length - (intOf i).toNat)
    case atStart => exact ⟨0, Nat.zero_le _, rfl, Lib.hid (by simp), 0, rfl⟩
    case round =>
      obtain ⟨k, hk, rfl, H, mm, hmm⟩ := hrel
      have ha3 : Row b0 wr (.slice A a.length c) a := by rw [hmm]; exact row_drewN ha mm
      have hb3 : Row b1 wr (.slice B a.length d) b := by rw [hmm]; exact row_drewN hb2 mm
      have HM := Lib.hid hmm
      clear hmm
      by_cases hlt : k < a.length
      · obtain ⟨b1, off, u, rfl, hc, hu, _⟩ := ha3.at_ hlt 0
        obtain ⟨b2, off2, u2, rfl, hc2, hu2, _⟩ := hb3.at_ (k := k) (by rw [← HL.out]; exact hlt) 0
        have HD := Lib.hid (drop_cons hlt 0)
        have HD2 := Lib.hid (drop_cons (show k < b.length by rw [← HL.out]; exact hlt) 0)
        subst hu hu2
        generalize a.getD k 0 = x at hc HD
        generalize b.getD k 0 = y at hc2 HD2
        go_wp2
        go_quiet (fail)
        go_wp2
        · have hne : (x != y) = true := by assumption
          go_ret
          refine ⟨ret_val (congrArg Value.bool ?_), _, by rw [HM.out]; exact World.drewN_drewN _ _ _⟩
          rw [← H.out, HD.out, HD2.out, sameRow_cons]
          have : (x == y) = false := by simpa using hne
          rw [this]; rfl
        · have hne : (x != y) = false := by assumption
          have R := Lib.hid (show sameRow (a.drop (k + 1)) (b.drop (k + 1)) = sameRow a b by
            rw [← H.out, HD.out, HD2.out, sameRow_cons]
            have : (x == y) = true := by simpa using hne
            rw [this]; rfl)
          go_roundw
          case rel => exact ⟨k + 1, by omega, by go_num, R, _, by rw [HM.out]; exact World.drewN_drewN _ _ _⟩
          case measure => simp [intOf]; omega
      · go_wp2
        go_ret
        refine ⟨ret_val (congrArg Value.bool ?_), mm, HM.out⟩
        rw [← H.out, List.drop_eq_nil_of_le (by omega), List.drop_eq_nil_of_le (by rw [← HL.out]; omega)]
        rfl
  · have hne : ((a.length : Int) != (b.length : Int)) = true := by simp; omega
    go_enter Try.func24, Try.ntmps24
    go_wp2
    go_ret
    refine ⟨ret_val (congrArg Value.bool ?_), 0, rfl⟩
    symm
    unfold sameRow
    rw [beq_eq_false_iff_ne]
    exact fun e => hle (by rw [e])
end Go.Proofs.Ytpafgieijplehaa
