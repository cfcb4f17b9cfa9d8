/- How many terms instructions make. -/
import Derived.Test.YtaiggfknighhgaaGreatDoorIMean
import Derived.Test.YtaiggfknighhgaaGreatDoorTDepth
set_option linter.unusedVariables false
set_option linter.unusedSimpArgs false
namespace Go.Proofs.YtaiggfknighhgaaGreatDoor

theorem oneT_len {ts : List Term} {x : Nat → Nat} {i : Ins} {pc D : Nat} (hG : Good ts) (hx : InT ts x) (hi : plainI i = true) (hD : ∀ r, r < 32 → dp ts (x r) ≤ D) : (oneT ts x i pc).1.length ≤ ts.length + 8 * D + 11 ∧ dp (oneT ts x i pc).1 (oneT ts x i pc).2 ≤ D + 1 := by
  have hr : rightI i = true := by unfold plainI at hi; rw [Bool.and_eq_true] at hi; exact hi.1
  obtain ⟨_, h1, h2⟩ := rightI_regs hr
  unfold oneT
  rcases plainI_kind hi with h | h | ⟨o, ho, hd, h0, h1'⟩ | ⟨o, ho, hn, hd, h0, h1'⟩
  · rw [if_pos h]
    have := (ins_len ts (constT (up i.imm))).2
    exact ⟨by dsimp only; omega, by rw [dp_const]; omega⟩
  · rw [if_neg (by omega), if_pos h]
    generalize (up i.imm + pc) % 4294967296 = v
    have := (ins_len ts (constT v)).2
    exact ⟨by dsimp only; omega, by rw [dp_const]; omega⟩
  · rw [if_neg h0, if_neg h1', ho]
    have hE := ext_ins ts (constT (us i.imm))
    have ha : x i.rs1.toNat < ts.length := hx _ (by omega)
    have hl := (ins_len ts (constT (us i.imm))).2
    have hm := made_dp (hG.const (us_lt i.imm)) hd (Nat.lt_of_lt_of_le ha hE.len) (pos_lt ts (constT (us i.imm)))
    rw [dp_ext hE hG ha, dp_const] at hm
    have := hD i.rs1.toNat (by omega)
    dsimp only
    omega
  · rw [if_neg h0, if_neg h1', hn, show i.op.toNat = o by omega]
    have hm := made_dp hG hd (hx i.rs1.toNat (by omega)) (hx i.rs2.toNat (by omega))
    have := hD i.rs1.toNat (by omega)
    have := hD i.rs2.toNat (by omega)
    dsimp only
    omega
theorem fromT_len : ∀ (l : List Ins) (ts : List Term) (x : Nat → Nat) (pc D : Nat), Good ts → InT ts x → (∀ i, i ∈ l → plainI i = true) → (∀ r, r < 32 → dp ts (x r) ≤ D) → (fromT ts x l pc).1.length ≤ ts.length + l.length * (8 * (D + l.length) + 11)
  | [], ts, x, pc, D, hG, hx, hl, hD => by show ts.length ≤ _; omega
  | i :: l, ts, x, pc, D, hG, hx, hl, hD => by
    have hi := hl i List.mem_cons_self
    obtain ⟨h1, h2, h3⟩ := oneT_ok (pc := pc) hG hx hi
    obtain ⟨l1, l2⟩ := oneT_len (pc := pc) hG hx hi hD
    have := fromT_len l (oneT ts x i pc).1 (setR x i.rd (oneT ts x i pc).2) ((pc + 4) % 4294967296) (D + 1) h1 ((hx.ext h3).set h2 i.rd) (fun j hj => hl j (List.mem_cons_of_mem _ hj)) (fun r hr => by
      unfold setR
      split
      · rw [dp_ext h3 hG (hx r hr)]
        have := hD r hr
        omega
      · show dp _ (if r = _ then _ else _) ≤ _
        split
        · exact l2
        · rw [dp_ext h3 hG (hx r hr)]
          have := hD r hr
          omega)
    show (fromT _ _ l _).1.length ≤ _
    simp only [List.length_cons]
    rw [Nat.succ_mul, show D + (l.length + 1) = D + 1 + l.length by omega]
    generalize hc : 8 * (D + 1 + l.length) + 11 = c at this ⊢
    generalize l.length * c = q at this ⊢
    omega
theorem startT_dp (ts : List Term) {r : Nat} (hr : r < 32) : dp (startT ts 32).1 ((startT ts 32).2 r) = 0 := by
  obtain ⟨h1, h2⟩ := startT_at ts 32 r hr
  apply dp_leaf
  rw [h2]
  unfold varTm'
  split <;> simp [constT, varT]
theorem fromT_small {ts : List Term} {x : Nat → Nat} {pc : Nat} {l : List Ins} {D : Nat} (hG : Good ts) (hx : InT ts x) (hl : ∀ i, i ∈ l → plainI i = true) (hD : ∀ r, r < 32 → dp ts (x r) ≤ D) (h1 : D ≤ 10000) (h2 : l.length ≤ 100) (h3 : ts.length ≤ 100000) :
    ∀ j, j ≤ l.length → (fromT ts x (l.take j) pc).1.length < 100000000 := fun j hj => by
  have h := fromT_len (l.take j) ts x pc D hG hx (fun i hi => hl i (List.mem_of_mem_take hi)) hD
  have hjl : (l.take j).length = j := by rw [List.length_take, Nat.min_eq_left hj]
  rw [hjl] at h
  have : j * (8 * (D + j) + 11) ≤ 100 * (8 * (10000 + 100) + 11) := Nat.mul_le_mul (by omega) (by omega)
  omega
end Go.Proofs.YtaiggfknighhgaaGreatDoor
