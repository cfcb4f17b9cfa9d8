/- What instructions' terms come to. -/
import Derived.Test.YtaiggfknighhgaaGreatDoorIPure
import Derived.Test.YtaiggfknighhgaaGreatDoorSMean
set_option linter.unusedVariables false
set_option linter.unusedSimpArgs false
namespace Go.Proofs.YtaiggfknighhgaaGreatDoor

def varTm' (r : Nat) : Term := if r = 0 then constT 0 else varT r
/-- The registers' terms, the first n ones. -/
def startT (ts : List Term) : Nat → List Term × (Nat → Nat)
  | 0 => (ts, fun _ => 0)
  | n + 1 => (ins (startT ts n).1 (varTm' n), fun r => if r = n then pos (startT ts n).1 (varTm' n) else (startT ts n).2 r)
theorem Good.varTm {ts : List Term} (h : Good ts) {r : Nat} (hr : r < 32) : Good (Go.Proofs.YtaiggfknighhgaaGreatDoor.ins ts (varTm' r)) := by
  unfold varTm'
  split
  · exact h.const (by omega)
  · exact h.var (by omega) hr
theorem startT_ext (ts : List Term) : ∀ n, Ext ts (startT ts n).1
  | 0 => Ext.refl _
  | n + 1 => (startT_ext ts n).trans (ext_ins _ _)
theorem startT_good {ts : List Term} (h : Good ts) : ∀ n, n ≤ 32 → Good (startT ts n).1
  | 0, _ => h
  | n + 1, hn => (startT_good h n (by omega)).varTm (r := n) (by omega)
theorem startT_at (ts : List Term) : ∀ n r, r < n → (startT ts n).2 r < (startT ts n).1.length ∧ (startT ts n).1.getD ((startT ts n).2 r) default = varTm' r
  | 0, r, h => by omega
  | n + 1, r, h => by
    show (if r = n then _ else _) < _ ∧ _
    by_cases hr : r = n
    · subst hr
      have e : (startT ts (r + 1)).2 r = pos (startT ts r).1 (varTm' r) := if_pos rfl
      rw [if_pos rfl, e]
      exact ⟨pos_lt _ _, ins_getD _ _ _⟩
    · have e : (startT ts (n + 1)).2 r = (startT ts n).2 r := if_neg hr
      obtain ⟨h1, h2⟩ := startT_at ts n r (by omega)
      have he := ext_ins (startT ts n).1 (varTm' n)
      rw [if_neg hr, e]
      exact ⟨Nat.lt_of_lt_of_le h1 he.len, (he.getD h1 _).trans h2⟩
theorem startT_in (ts : List Term) : InT (startT ts 32).1 (startT ts 32).2 := fun r hr => (startT_at ts 32 r hr).1
def zero1 (g : Nat → Nat) : Nat → Nat := fun r => if r = 0 then 0 else g r
theorem startT_mean (ts : List Term) (g : Nat → Nat) {r : Nat} (hr : r < 32) : ev (startT ts 32).1 g ((startT ts 32).2 r) = zero1 g r := by
  obtain ⟨h1, h2⟩ := startT_at ts 32 r hr
  unfold varTm' at h2
  unfold zero1
  by_cases h0 : r = 0
  · rw [if_pos h0] at h2 ⊢
    exact ev_const h1 h2
  · rw [if_neg h0] at h2 ⊢
    exact ev_var h1 h2
/-- What an instruction reckons. -/
def valI (g : Nat → Nat) (i : Ins) (pc : Nat) : Nat :=
  if i.op = 0 then up i.imm else if i.op = 1 then (up i.imm + pc) % 4294967296
  else match immOp i.op with
    | some o => (doW o (g i.rs1.toNat) (us i.imm)).getD 0
    | none => (doW i.op.toNat (g i.rs1.toNat) (g i.rs2.toNat)).getD 0
/-- The registers behind instructions. -/
def runI : (Nat → Nat) → List Ins → Nat → (Nat → Nat)
  | g, [], _ => g
  | g, i :: l, pc => runI (setR g i.rd (valI g i pc)) l ((pc + 4) % 4294967296)
theorem oneT_mean {ts : List Term} {x g e : Nat → Nat} {i : Ins} {pc : Nat} (he : ∀ r, e r < 4294967296) (hG : Good ts) (hx : InT ts x) (hi : plainI i = true) (hg : ∀ r, r < 32 → ev ts e (x r) = g r) :
    ev (oneT ts x i pc).1 e (oneT ts x i pc).2 = valI g i pc := by
  have hr : rightI i = true := by unfold plainI at hi; rw [Bool.and_eq_true] at hi; exact hi.1
  obtain ⟨_, h1, h2⟩ := rightI_regs hr
  unfold oneT valI
  rcases plainI_kind hi with h | h | ⟨o, ho, hd, h0, h1'⟩ | ⟨o, ho, hn, hd, h0, h1'⟩
  · rw [if_pos h, if_pos h]
    exact ev_const (pos_lt _ _) (ins_getD _ _ _)
  · rw [if_neg (by omega), if_pos h, if_neg (by omega), if_pos h]
    exact ev_const (pos_lt _ _) (ins_getD _ _ _)
  · rw [if_neg h0, if_neg h1', ho, if_neg h0, if_neg h1']
    have hE := ext_ins ts (constT (us i.imm))
    have ha : x i.rs1.toNat < ts.length := hx _ (by omega)
    have := (made_mean he (hG.const (us_lt i.imm)) hd (Nat.lt_of_lt_of_le ha hE.len) (pos_lt ts (constT (us i.imm)))).ev_
    rw [ev_ins_const, ev_ext hE ha, hg _ (by omega)] at this
    exact this
  · rw [if_neg h0, if_neg h1', hn, if_neg h0, if_neg h1', show i.op.toNat = o by omega]
    have := (made_mean he hG hd (hx i.rs1.toNat (by omega)) (hx i.rs2.toNat (by omega))).ev_
    rw [hg _ (by omega), hg _ (by omega)] at this
    exact this
theorem fromT_mean {e : Nat → Nat} (he : ∀ r, e r < 4294967296) : ∀ (l : List Ins) (ts : List Term) (x g : Nat → Nat) (pc : Nat), Good ts → InT ts x → (∀ i, i ∈ l → plainI i = true) → (∀ r, r < 32 → ev ts e (x r) = g r) →
    ∀ r, r < 32 → ev (fromT ts x l pc).1 e ((fromT ts x l pc).2 r) = runI g l pc r
  | [], ts, x, g, pc, hG, hx, _, hg, r, hr => hg r hr
  | i :: l, ts, x, g, pc, hG, hx, hl, hg, r, hr => by
    have hi := hl i List.mem_cons_self
    obtain ⟨h1, h2, h3⟩ := oneT_ok (pc := pc) hG hx hi
    have hm := oneT_mean (pc := pc) he hG hx hi hg
    refine fromT_mean he l _ _ _ _ h1 ((hx.ext h3).set h2 i.rd) (fun j hj => hl j (List.mem_cons_of_mem _ hj)) (fun q hq => ?_) r hr
    unfold setR
    split
    · rw [ev_ext h3 (hx q hq)]
      exact hg q hq
    · show ev _ _ (if q = _ then _ else _) = if q = _ then _ else _
      split
      · exact hm
      · rw [ev_ext h3 (hx q hq)]
        exact hg q hq
end Go.Proofs.YtaiggfknighhgaaGreatDoor
