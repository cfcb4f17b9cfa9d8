/- Which registers instructions write: plain laws of LiftZero. -/
import Derived.Test.YtaiggfknighhgaaDoorIAgain
set_option linter.unusedVariables false
set_option linter.unusedSimpArgs false
namespace Go.Proofs.YtaiggfknighhgaaDoor

/-- The registers that are written, as bits. -/
def setB : Nat → List Ins → Nat
  | s, [] => s
  | s, i :: l => setB (s ||| 2 ^ i.rd.toNat) l
theorem setB_snoc : ∀ (l : List Ins) (s : Nat) (i : Ins), setB s (l ++ [i]) = setB s l ||| 2 ^ i.rd.toNat
  | [], s, i => rfl
  | j :: l, s, i => setB_snoc l (s ||| 2 ^ j.rd.toNat) i
theorem setB_of : ∀ (l : List Ins) (s r : Nat), (setB s l).testBit r = false → s.testBit r = false
  | [], s, r, h => h
  | i :: l, s, r, h => by
    have := setB_of l _ r h
    rw [Nat.testBit_or, Bool.or_eq_false_iff] at this
    exact this.1
theorem setB_lt : ∀ (l : List Ins) (s : Nat), s < 4294967296 → (∀ i, i ∈ l → plainI i = true) → setB s l < 4294967296
  | [], s, h, _ => h
  | i :: l, s, h, hl => by
    have hi := hl i List.mem_cons_self
    have hr : rightI i = true := by unfold plainI at hi; rw [Bool.and_eq_true] at hi; exact hi.1
    obtain ⟨h1, _, _⟩ := rightI_regs hr
    have h2 : 2 ^ i.rd.toNat < 2 ^ 32 := Nat.pow_lt_pow_right (by omega) (by omega)
    exact setB_lt l _ (Nat.or_lt_two_pow (n := 32) h h2) fun j hj => hl j (List.mem_cons_of_mem _ hj)
theorem setB_stays : ∀ (l : List Ins) (ts : List Term) (x : Nat → Nat) (pc s r : Nat), (∀ i, i ∈ l → plainI i = true) → (setB s l).testBit r = false → (fromT ts x l pc).2 r = x r
  | [], ts, x, pc, s, r, _, h => rfl
  | i :: l, ts, x, pc, s, r, hl, h => by
    have ih := setB_stays l (oneT ts x i pc).1 (setR x i.rd (oneT ts x i pc).2) ((pc + 4) % 4294967296) (s ||| 2 ^ i.rd.toNat) r (fun j hj => hl j (List.mem_cons_of_mem _ hj)) h
    have hb := setB_of l _ r h
    rw [Nat.testBit_or, Bool.or_eq_false_iff] at hb
    show (fromT _ _ l _).2 r = _
    rw [ih]
    unfold setR
    split
    · rfl
    · refine if_neg fun e => ?_
      have := hb.2
      rw [e, Nat.testBit_two_pow_self] at this
      cases this
theorem from_zero : ∀ (l : List Ins) (ts : List Term) (x : Nat → Nat) (pc : Nat), (∀ i, i ∈ l → plainI i = true) → (fromT ts x l pc).2 0 = x 0
  | [], ts, x, pc, _ => rfl
  | i :: l, ts, x, pc, hl => by
    have ih := from_zero l (oneT ts x i pc).1 (setR x i.rd (oneT ts x i pc).2) ((pc + 4) % 4294967296) (fun j hj => hl j (List.mem_cons_of_mem _ hj))
    have hi := hl i List.mem_cons_self
    have hr : rightI i = true := by unfold plainI at hi; rw [Bool.and_eq_true] at hi; exact hi.1
    obtain ⟨h1, _, _⟩ := rightI_regs hr
    show (fromT _ _ l _).2 0 = _
    rw [ih]
    unfold setR
    split
    · rfl
    · exact if_neg (by omega)
theorem blk_zero {ts : List Term} {l : List Ins} {pc : Nat} {e : Nat → Nat} (hG : Good ts) (hl : ∀ i, i ∈ l → plainI i = true) : ev (blkT ts l pc).1 e ((blkT ts l pc).2 0) = 0 := by
  obtain ⟨_, _, h3⟩ := blkT_ok (pc := pc) hG hl
  have h0 : (blkT ts l pc).2 0 = (startT ts 32).2 0 := from_zero l _ _ _ hl
  rw [h0, ev_ext h3 (startT_in ts 0 (by omega)), startT_mean ts e (by omega)]
  rfl
theorem bit_and (m r : Nat) (hm : m < 4294967296) : ((m / 2 ^ r) % 2 = 0) → m.testBit r = false := fun h => by
  rw [Nat.testBit_eq_decide_div_mod_eq, h]
  rfl
end Go.Proofs.YtaiggfknighhgaaDoor
