/- Instructions, made terms again. -/
import Derived.Test.YtaiggfknighhgaaDoorSAgain
import Derived.Test.YtaiggfknighhgaaDoorILen
set_option linter.unusedVariables false
set_option linter.unusedSimpArgs false
namespace Go.Proofs.YtaiggfknighhgaaDoor

theorem ins_again {ts ts' : List Term} {t : Term} (h : Ext (ins ts t) ts') : ins ts' t = ts' ∧ pos ts' t = pos ts t := by
  have hm : t ∈ ins ts t := mem_ins _ _
  exact ⟨ins_of_mem (h.mem hm), by rw [h.pos hm, pos_ins]⟩
theorem startT_again {ts us : List Term} : ∀ n, Ext (startT ts n).1 us → startT us n = (us, (startT ts n).2)
  | 0, h => rfl
  | n + 1, h => by
    have h' : Ext (ins (startT ts n).1 (varTm' n)) us := h
    obtain ⟨e1, e2⟩ := ins_again h'
    have ih := startT_again n ((ext_ins _ _).trans h')
    show (ins (startT us n).1 (varTm' n), fun r => if r = n then pos (startT us n).1 (varTm' n) else (startT us n).2 r) = _
    rw [ih]
    dsimp only
    rw [e1, e2]
    rfl
theorem oneT_again {ts ts' : List Term} {x : Nat → Nat} {i : Ins} {pc pc' : Nat} (hG : Good ts) (hG' : Good ts') (hx : InT ts x) (hi : plainI i = true) (hpc : pc' = pc ∨ i.op ≠ 1) (hE : Ext (oneT ts x i pc).1 ts') : oneT ts' x i pc' = (ts', (oneT ts x i pc).2) := by
  have hr : rightI i = true := by unfold plainI at hi; rw [Bool.and_eq_true] at hi; exact hi.1
  obtain ⟨_, h1, h2⟩ := rightI_regs hr
  unfold oneT at hE ⊢
  rcases plainI_kind hi with h | h | ⟨o, ho, hd, h0, h1'⟩ | ⟨o, ho, hn, hd, h0, h1'⟩
  · rw [if_pos h] at hE ⊢
    rw [if_pos h]
    obtain ⟨e1, e2⟩ := ins_again hE
    rw [e1, e2]
  · rw [if_neg (by omega), if_pos h] at hE ⊢
    rw [if_neg (by omega), if_pos h]
    have hp : pc' = pc := by rcases hpc with hp | hp; exact hp; exact absurd h hp
    rw [hp]
    obtain ⟨e1, e2⟩ := ins_again hE
    rw [e1, e2]
  · rw [if_neg h0, if_neg h1', ho] at hE ⊢
    rw [if_neg h0, if_neg h1']
    dsimp only at hE ⊢
    have hc := hG.const (us_lt i.imm)
    have ha : x i.rs1.toNat < (ins ts (constT (us i.imm))).length := Nat.lt_of_lt_of_le (hx _ (by omega)) (ext_ins ts _).len
    obtain ⟨_, _, m3⟩ := made_ok hc hd ha (pos_lt _ _)
    obtain ⟨e1, e2⟩ := ins_again (m3.trans hE)
    rw [e1, e2]
    exact made_again hc hG' hd ha (pos_lt _ _) hE
  · rw [if_neg h0, if_neg h1', hn] at hE ⊢
    rw [if_neg h0, if_neg h1']
    dsimp only at hE ⊢
    rw [show i.op.toNat = o by omega] at hE ⊢
    exact made_again hG hG' hd (hx _ (by omega)) (hx _ (by omega)) hE
theorem fromT_again {ts' : List Term} (hG' : Good ts') : ∀ (l : List Ins) (ts : List Term) (x : Nat → Nat) (pc pc' : Nat), Good ts → InT ts x → (∀ i, i ∈ l → plainI i = true) → (pc' = pc ∨ ∀ i, i ∈ l → i.op ≠ 1) → Ext (fromT ts x l pc).1 ts' → fromT ts' x l pc' = (ts', (fromT ts x l pc).2)
  | [], ts, x, pc, pc', hG, hx, hl, hp, hE => rfl
  | i :: l, ts, x, pc, pc', hG, hx, hl, hp, hE => by
    have hi := hl i List.mem_cons_self
    have hl' := fun j hj => hl j (List.mem_cons_of_mem i hj)
    obtain ⟨h1, h2, h3⟩ := oneT_ok (pc := pc) hG hx hi
    have hx1 := (hx.ext h3).set h2 i.rd
    have hE' : Ext (fromT (oneT ts x i pc).1 (setR x i.rd (oneT ts x i pc).2) l ((pc + 4) % 4294967296)).1 ts' := hE
    obtain ⟨_, _, g3⟩ := fromT_ok l _ _ ((pc + 4) % 4294967296) h1 hx1 hl'
    have e := oneT_again (pc' := pc') hG hG' hx hi (by rcases hp with h | h; exact Or.inl h; exact Or.inr (h i List.mem_cons_self)) (g3.trans hE')
    show fromT (oneT ts' x i pc').1 (setR x i.rd (oneT ts' x i pc').2) l ((pc' + 4) % 4294967296) = _
    rw [e]
    exact fromT_again hG' l _ _ _ _ h1 hx1 hl' (by rcases hp with h | h; exact Or.inl (by rw [h]); exact Or.inr fun j hj => h j (List.mem_cons_of_mem i hj)) hE'
theorem startT_le (ts : List Term) : ∀ n, (startT ts n).1.length ≤ ts.length + n
  | 0 => Nat.le_refl _
  | n + 1 => Nat.le_trans (ins_len _ _).2 (by have := startT_le ts n; omega)
def blkT (ts : List Term) (xs : List Ins) (pc : Nat) : List Term × (Nat → Nat) := fromT (startT ts 32).1 (startT ts 32).2 xs pc
theorem blkT_ok {ts : List Term} {l : List Ins} {pc : Nat} (hG : Good ts) (hl : ∀ i, i ∈ l → plainI i = true) : Good (blkT ts l pc).1 ∧ InT (blkT ts l pc).1 (blkT ts l pc).2 ∧ Ext (startT ts 32).1 (blkT ts l pc).1 := fromT_ok l _ _ pc (startT_good hG 32 (Nat.le_refl _)) (startT_in ts) hl
theorem blkT_again {ts ts' : List Term} {l : List Ins} {pc pc' : Nat} (hG : Good ts) (hG' : Good ts') (hl : ∀ i, i ∈ l → plainI i = true) (hp : pc' = pc ∨ ∀ i, i ∈ l → i.op ≠ 1) (hE : Ext (blkT ts l pc).1 ts') : blkT ts' l pc' = (ts', (blkT ts l pc).2) := by
  obtain ⟨_, _, h3⟩ := blkT_ok (pc := pc) hG hl
  show fromT (startT ts' 32).1 (startT ts' 32).2 l pc' = _
  rw [startT_again 32 (h3.trans hE)]
  exact fromT_again hG' l _ _ _ _ (startT_good hG 32 (Nat.le_refl _)) (startT_in ts) hl hp hE
theorem blkT_len {ts : List Term} {l : List Ins} {pc : Nat} (hG : Good ts) (hl : ∀ i, i ∈ l → plainI i = true) (h2 : l.length ≤ 100) (h3 : ts.length ≤ 10000) : (blkT ts l pc).1.length ≤ ts.length + 32 + 100 * (8 * 100 + 11) := by
  have hs := startT_ext ts 32
  have := fromT_len l (startT ts 32).1 (startT ts 32).2 pc 0 (startT_good hG 32 (Nat.le_refl _)) (startT_in ts) hl (fun r hr => by rw [startT_dp ts hr]; omega)
  have hq : (startT ts 32).1.length ≤ ts.length + 32 := startT_le ts 32
  have : l.length * (8 * (0 + l.length) + 11) ≤ 100 * (8 * 100 + 11) := Nat.mul_le_mul h2 (by omega)
  show (fromT _ _ l pc).1.length ≤ _
  omega
end Go.Proofs.YtaiggfknighhgaaDoor
