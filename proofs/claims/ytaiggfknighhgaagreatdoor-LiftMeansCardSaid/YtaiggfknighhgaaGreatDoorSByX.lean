/- simp: a reckoning of a term and a word, all cases joined (written by genBX.py). -/
import Derived.Test.YtaiggfknighhgaaGreatDoorSByD
import Derived.Test.YtaiggfknighhgaaGreatDoorSByE
import Derived.Test.YtaiggfknighhgaaGreatDoorSByF
set_option linter.unusedVariables false
set_option linter.unusedSimpArgs false
namespace Go.Proofs.YtaiggfknighhgaaGreatDoor
open Go.RowKit Go.Maps Go.MapKept

def ByPost (f : Nat) (K : Nat → Prop) (b : Nat) (w : World) (ts : List Term) : Option Nx → Ending → World → Prop
  | none => NonePost K b w ts
  | some nx => IsPost K b w (nx.fin (madeF f))
set_option maxHeartbeats 4000000 in
theorem byWord_any (f : Nat) (hM : MadeSpec f) (K : Nat → Prop) (b : Nat) (ts : List Term) (op x y v : Nat) (hv : v < 4294967296) (w : World) (h : DagAt K w b ts) (hG : Good ts) (hg : K 0) (hT : Tab w) (ho : (doW op 0 0).isSome = true)
    (hx : x < ts.length) (hl : ts.length + (f + 1) < 1000000000000) (hm : mz ts op x y < f + 1) (hok : ∀ nx, byN ts op x y v = some nx → nx.ok ts op x y) :
    Calls Tryz.prog 99 #[.pointer (some ⟨b, 0, none⟩), .int .i64 op, .int .i64 x, .int .i64 y, .int .u32 v] w (ByPost f K b w ts (byN ts op x y v)) := by
  have hoc := op_cases ho
  have hvc : v = 0 ∨ v = 1 ∨ v = 4294967295 ∨ (1 < v ∧ v ≠ 4294967295) := by omega
  have hsh : isShift op = true ↔ (op = 29 ∨ op = 33 ∨ op = 34) := by simp [isShift]
  by_cases c1 : (v = 0 ∧ (op = 27 ∨ op = 35 ∨ op = 32)) ∨ (v = 1 ∧ (op = 37 ∨ op = 41 ∨ op = 42)) ∨ (v = 4294967295 ∧ op = 36)
  · have e : byN ts op x y v = some (.done ts x) := by unfold byN; rw [if_pos c1]
    rw [e]; clear e
    unfold ByPost
    rcases c1 with ⟨rfl, hop⟩ | ⟨rfl, hop⟩ | ⟨rfl, hop⟩
    · exact by_r1z f hM K b ts op x y w h hG hg hT ho hx hl hop
    · exact by_r1o f hM K b ts op x y w h hG hg hT ho hx hl hop
    · exact by_r1m f hM K b ts op x y w h hG hg hT ho hx hl hop
  by_cases c2 : (v = 0 ∧ (op = 36 ∨ op = 37 ∨ op = 31)) ∨ (v = 1 ∧ (op = 43 ∨ op = 44))
  · have e : byN ts op x y v = some (cst ts 0) := by unfold byN; rw [if_neg c1, if_pos c2]
    rw [e]; clear e
    unfold ByPost
    rcases c2 with ⟨rfl, hop⟩ | ⟨rfl, hop⟩
    · exact by_r2z f hM K b ts op x y w h hG hg hT ho hx hl hop
    · exact by_r2o f hM K b ts op x y w h hG hg hT ho hx hl hop
  by_cases c3 : v = 4294967295 ∧ op = 35
  · have e : byN ts op x y v = some (.done ts y) := by unfold byN; rw [if_neg c1, if_neg c2, if_pos c3]
    rw [e]; clear e
    unfold ByPost
    obtain ⟨rfl, hop⟩ := c3
    exact by_r3m f hM K b ts op x y w h hG hg hT ho hx hl hop
  by_cases c4 : isShift op = true ∧ v % 32 = 0
  · have e : byN ts op x y v = some (.done ts x) := by unfold byN; rw [if_neg c1, if_neg c2, if_neg c3, if_pos c4]
    rw [e]; clear e
    unfold ByPost
    obtain ⟨hs, h32⟩ := c4
    have hop := hsh.1 hs
    rcases hvc with rfl | rfl | rfl | ⟨hv1, hvm⟩
    · exact by_r4z f hM K b ts op x y w h hG hg hT ho hx hl hop
    · omega
    · omega
    cases hp : isPow v
    · exact by_r4g f hM K b ts op x y v w h hG hg hT ho hx hl hv hv1 hvm hp hop h32
    · exact by_r4p f hM K b ts op x y v w h hG hg hT ho hx hl hv hv1 hvm hp hop h32
  by_cases c5 : isShift op = true ∧ 32 ≤ v
  · have e : byN ts op x y v = some (goesN ts op x (v % 32)) := by unfold byN; rw [if_neg c1, if_neg c2, if_neg c3, if_neg c4, if_pos c5]
    have hW : Went ts op x y (ins ts (constT (v % 32))) op x (pos ts (constT (v % 32))) := hok _ e
    rw [e]; clear e
    unfold ByPost
    obtain ⟨hs, h33⟩ := c5
    have hop := hsh.1 hs
    have h32 : v % 32 ≠ 0 := fun hh => c4 ⟨hs, hh⟩
    rcases hvc with rfl | rfl | rfl | ⟨hv1, hvm⟩
    · omega
    · omega
    · exact by_r5m f hM K b ts op x y w h hG hg hT ho hx hl hop hW hm
    cases hp : isPow v
    · exact by_r5g f hM K b ts op x y v w h hG hg hT ho hx hl hv hv1 hvm hp hop h32 h33 hW hm
    · exact by_r5p f hM K b ts op x y v w h hG hg hT ho hx hl hv hv1 hvm hp hop h32 h33 hW hm
  by_cases c6 : isPow v = true ∧ op = 37
  · have e : byN ts op x y v = some (goesN ts 29 x (lg v)) := by unfold byN; rw [if_neg c1, if_neg c2, if_neg c3, if_neg c4, if_neg c5, if_pos c6]
    have hW : Went ts op x y (ins ts (constT (lg v))) 29 x (pos ts (constT (lg v))) := hok _ e
    rw [e]; clear e
    unfold ByPost
    obtain ⟨hp, hop⟩ := c6
    have hv1 : 1 < v := by simp only [isPow, decide_eq_true_eq] at hp; exact hp.2
    have hvm : v ≠ 4294967295 := by rintro rfl; exact absurd hp (by decide)
    exact by_r6 f hM K b ts op x y v w h hG hg hT ho hx hl hv hv1 hvm hp hop hW hm
  by_cases c7 : isPow v = true ∧ op = 42
  · have e : byN ts op x y v = some (goesN ts 33 x (lg v)) := by unfold byN; rw [if_neg c1, if_neg c2, if_neg c3, if_neg c4, if_neg c5, if_neg c6, if_pos c7]
    have hW : Went ts op x y (ins ts (constT (lg v))) 33 x (pos ts (constT (lg v))) := hok _ e
    rw [e]; clear e
    unfold ByPost
    obtain ⟨hp, hop⟩ := c7
    have hv1 : 1 < v := by simp only [isPow, decide_eq_true_eq] at hp; exact hp.2
    have hvm : v ≠ 4294967295 := by rintro rfl; exact absurd hp (by decide)
    exact by_r7 f hM K b ts op x y v w h hG hg hT ho hx hl hv hv1 hvm hp hop hW hm
  by_cases c8 : isPow v = true ∧ op = 44
  · have e : byN ts op x y v = some (goesN ts 36 x (v - 1)) := by unfold byN; rw [if_neg c1, if_neg c2, if_neg c3, if_neg c4, if_neg c5, if_neg c6, if_neg c7, if_pos c8]
    have hW : Went ts op x y (ins ts (constT (v - 1))) 36 x (pos ts (constT (v - 1))) := hok _ e
    rw [e]; clear e
    unfold ByPost
    obtain ⟨hp, hop⟩ := c8
    have hv1 : 1 < v := by simp only [isPow, decide_eq_true_eq] at hp; exact hp.2
    have hvm : v ≠ 4294967295 := by rintro rfl; exact absurd hp (by decide)
    exact by_r8 f hM K b ts op x y v w h hG hg hT ho hx hl hv hv1 hvm hp hop hW hm
  have hns : ∀ k, isShift op = true → k = 0 → v % 32 ≠ 0 ∧ v < 32 := fun k hs _ => ⟨fun hh => c4 ⟨hs, hh⟩, by
    refine Nat.lt_of_not_le fun hh => c5 ⟨hs, hh⟩⟩
  have hmem := h.wf
  generalize ht : ts.getD x default = t
  have hgt := hG.at_ hx default
  rw [ht] at hgt
  have hunf : ∀ q : Prop, byN ts op x y v = if (t.k ≠ 2 ∨ t.op ≠ op) then none else if isC ts t.b = false then none
      else if op = 27 ∨ op = 36 ∨ op = 35 ∨ op = 32 then some (goesN ts op t.a ((doW op (wd ts t.b) v).getD 0))
      else if isShift op = false ∨ wd ts t.b < 1 ∨ 32 ≤ wd ts t.b then none
      else if wd ts t.b + v < 32 then some (goesN ts op t.a (wd ts t.b + v))
      else if op = 34 then some (goesN ts op t.a 31)
      else some (cst ts 0) := fun _ => by unfold byN; rw [if_neg c1, if_neg c2, if_neg c3, if_neg c4, if_neg c5, if_neg c6, if_neg c7, if_neg c8, ht]
  replace hunf := hunf True
  have hclass : (op = 27 ∨ op = 36 ∨ op = 35 ∨ op = 32) ∨ (op = 29 ∨ op = 33 ∨ op = 34) ∨ (op = 28 ∨ op = 30 ∨ op = 31 ∨ op = 37 ∨ op = 38 ∨ op = 39 ∨ op = 40 ∨ op = 41 ∨ op = 42 ∨ op = 43 ∨ op = 44) := by omega
  have hshn : ∀ {q : Prop}, (op = 28 ∨ op = 30 ∨ op = 31 ∨ op = 37 ∨ op = 38 ∨ op = 39 ∨ op = 40 ∨ op = 41 ∨ op = 42 ∨ op = 43 ∨ op = 44) → isShift op = false := fun hh => by rw [Bool.eq_false_iff]; intro hq; have := hsh.1 hq; omega
  by_cases hk : t.k ≠ 2
  · rw [hunf, if_pos (Or.inl hk)]
    unfold ByPost
    rcases hclass with hcl | hcl | hcl
    · rcases hvc with rfl | rfl | rfl | ⟨hv1, hvm⟩
      · omega
      · exact by_d1ao f hM K b ts op x y w h hG hg hT ho hx hl (by omega) t ht hk
      · exact by_d1am f hM K b ts op x y w h hG hg hT ho hx hl (by omega) t ht hk
      · cases hp : isPow v
        · exact by_d1ag f hM K b ts op x y v w h hG hg hT ho hx hl hv hv1 hvm hp (by omega) t ht hk
        · exact by_d1ap f hM K b ts op x y v w h hG hg hT ho hx hl hv hv1 hvm hp (by omega) t ht hk
    · rcases hvc with rfl | rfl | rfl | ⟨hv1, hvm⟩
      · exact absurd rfl (hns 0 (hsh.2 hcl) rfl).1
      · exact by_d1so f hM K b ts op x y w h hG hg hT ho hx hl (by omega) t ht hk
      · exact absurd (hns 0 (hsh.2 hcl) rfl).2 (by omega)
      · have h32 := (hns 0 (hsh.2 hcl) rfl).2
        cases hp : isPow v
        · exact by_d1sg f hM K b ts op x y v w h hG hg hT ho hx hl hv hv1 hvm hp hcl h32 t ht hk
        · exact by_d1sp f hM K b ts op x y v w h hG hg hT ho hx hl hv hv1 hvm hp hcl h32 t ht hk
    · rcases hvc with rfl | rfl | rfl | ⟨hv1, hvm⟩
      · exact by_d1nz f hM K b ts op x y w h hG hg hT ho hx hl (by omega) t ht hk
      · exact by_d1no f hM K b ts op x y w h hG hg hT ho hx hl (by omega) t ht hk
      · exact by_d1nm f hM K b ts op x y w h hG hg hT ho hx hl (by omega) t ht hk
      · cases hp : isPow v
        · exact by_d1ng f hM K b ts op x y v w h hG hg hT ho hx hl hv hv1 hvm hp (by omega) t ht hk
        · exact by_d1np f hM K b ts op x y v w h hG hg hT ho hx hl hv hv1 hvm hp (by have q6 : op ≠ 37 := (fun hh => c6 ⟨hp, hh⟩); have q7 : op ≠ 42 := (fun hh => c7 ⟨hp, hh⟩); have q8 : op ≠ 44 := (fun hh => c8 ⟨hp, hh⟩); omega) t ht hk
  have hk2 : t.k = 2 := Classical.byContradiction hk
  clear hk
  obtain ⟨g1, g2, g3, g4⟩ : (doW t.op 0 0).isSome = true ∧ t.a < x ∧ t.b < x ∧ t = opT t.op t.a t.b := by
    have := hG.op_at hx (by rw [ht]; exact hk2)
    rw [ht] at this
    exact this
  obtain ⟨tk, tv, q, ta, tb⟩ := t
  dsimp only [opT] at g1 g2 g3 g4 hk2 hunf
  injection g4 with e1 e2 _ _ _
  subst e1 e2
  clear hk2 hgt g1
  by_cases hko : q ≠ op
  · rw [hunf, if_pos (Or.inr hko)]
    unfold ByPost
    rcases hclass with hcl | hcl | hcl
    · rcases hvc with rfl | rfl | rfl | ⟨hv1, hvm⟩
      · omega
      · exact by_d2ao f hM K b ts op x y w h hG hg hT ho hx hl (by omega) 0 q ta tb ht hko
      · exact by_d2am f hM K b ts op x y w h hG hg hT ho hx hl (by omega) 0 q ta tb ht hko
      · cases hp : isPow v
        · exact by_d2ag f hM K b ts op x y v w h hG hg hT ho hx hl hv hv1 hvm hp (by omega) 0 q ta tb ht hko
        · exact by_d2ap f hM K b ts op x y v w h hG hg hT ho hx hl hv hv1 hvm hp (by omega) 0 q ta tb ht hko
    · rcases hvc with rfl | rfl | rfl | ⟨hv1, hvm⟩
      · exact absurd rfl (hns 0 (hsh.2 hcl) rfl).1
      · exact by_d2so f hM K b ts op x y w h hG hg hT ho hx hl (by omega) 0 q ta tb ht hko
      · exact absurd (hns 0 (hsh.2 hcl) rfl).2 (by omega)
      · have h32 := (hns 0 (hsh.2 hcl) rfl).2
        cases hp : isPow v
        · exact by_d2sg f hM K b ts op x y v w h hG hg hT ho hx hl hv hv1 hvm hp hcl h32 0 q ta tb ht hko
        · exact by_d2sp f hM K b ts op x y v w h hG hg hT ho hx hl hv hv1 hvm hp hcl h32 0 q ta tb ht hko
    · rcases hvc with rfl | rfl | rfl | ⟨hv1, hvm⟩
      · exact by_d2nz f hM K b ts op x y w h hG hg hT ho hx hl (by omega) 0 q ta tb ht hko
      · exact by_d2no f hM K b ts op x y w h hG hg hT ho hx hl (by omega) 0 q ta tb ht hko
      · exact by_d2nm f hM K b ts op x y w h hG hg hT ho hx hl (by omega) 0 q ta tb ht hko
      · cases hp : isPow v
        · exact by_d2ng f hM K b ts op x y v w h hG hg hT ho hx hl hv hv1 hvm hp (by omega) 0 q ta tb ht hko
        · exact by_d2np f hM K b ts op x y v w h hG hg hT ho hx hl hv hv1 hvm hp (by have q6 : op ≠ 37 := (fun hh => c6 ⟨hp, hh⟩); have q7 : op ≠ 42 := (fun hh => c7 ⟨hp, hh⟩); have q8 : op ≠ 44 := (fun hh => c8 ⟨hp, hh⟩); omega) 0 q ta tb ht hko
  have hq2 : q = op := Classical.byContradiction hko
  subst hq2
  clear hko
  have hta : ta < ts.length := by omega
  have htb : tb < ts.length := by omega
  have hwl := hG.wd_lt htb
  rw [if_neg (by simp)] at hunf
  cases hcb : isC ts tb
  · rw [hunf, if_pos hcb]
    unfold ByPost
    rcases hclass with hcl | hcl | hcl
    · rcases hvc with rfl | rfl | rfl | ⟨hv1, hvm⟩
      · omega
      · exact by_d3ao f hM K b ts q x y w h hG hg hT ho hx hl (by omega) ta tb ht htb hcb
      · exact by_d3am f hM K b ts q x y w h hG hg hT ho hx hl (by omega) ta tb ht htb hcb
      · cases hp : isPow v
        · exact by_d3ag f hM K b ts q x y v w h hG hg hT ho hx hl hv hv1 hvm hp (by omega) ta tb ht htb hcb
        · exact by_d3ap f hM K b ts q x y v w h hG hg hT ho hx hl hv hv1 hvm hp (by omega) ta tb ht htb hcb
    · rcases hvc with rfl | rfl | rfl | ⟨hv1, hvm⟩
      · exact absurd rfl (hns 0 (hsh.2 hcl) rfl).1
      · exact by_d3so f hM K b ts q x y w h hG hg hT ho hx hl (by omega) ta tb ht htb hcb
      · exact absurd (hns 0 (hsh.2 hcl) rfl).2 (by omega)
      · have h32 := (hns 0 (hsh.2 hcl) rfl).2
        cases hp : isPow v
        · exact by_d3sg f hM K b ts q x y v w h hG hg hT ho hx hl hv hv1 hvm hp hcl h32 ta tb ht htb hcb
        · exact by_d3sp f hM K b ts q x y v w h hG hg hT ho hx hl hv hv1 hvm hp hcl h32 ta tb ht htb hcb
    · rcases hvc with rfl | rfl | rfl | ⟨hv1, hvm⟩
      · exact by_d3nz f hM K b ts q x y w h hG hg hT ho hx hl (by omega) ta tb ht htb hcb
      · exact by_d3no f hM K b ts q x y w h hG hg hT ho hx hl (by omega) ta tb ht htb hcb
      · exact by_d3nm f hM K b ts q x y w h hG hg hT ho hx hl (by omega) ta tb ht htb hcb
      · cases hp : isPow v
        · exact by_d3ng f hM K b ts q x y v w h hG hg hT ho hx hl hv hv1 hvm hp (by omega) ta tb ht htb hcb
        · exact by_d3np f hM K b ts q x y v w h hG hg hT ho hx hl hv hv1 hvm hp (by have q6 : q ≠ 37 := (fun hh => c6 ⟨hp, hh⟩); have q7 : q ≠ 42 := (fun hh => c7 ⟨hp, hh⟩); have q8 : q ≠ 44 := (fun hh => c8 ⟨hp, hh⟩); omega) ta tb ht htb hcb
  rw [if_neg (by rw [hcb]; decide)] at hunf
  rcases hclass with hcl | hcl | hcl
  · rw [if_pos hcl] at hunf
    have hW : Went ts q x y (ins ts (constT ((doW q (wd ts tb) v).getD 0))) q ta (pos ts (constT ((doW q (wd ts tb) v).getD 0))) := hok _ hunf
    rw [hunf]
    unfold ByPost
    rcases hvc with rfl | rfl | rfl | ⟨hv1, hvm⟩
    · omega
    · exact by_daao f hM K b ts q x y w h hG hg hT ho hx hl (by omega) ta tb ht htb hcb hta hwl hW hm
    · exact by_daam f hM K b ts q x y w h hG hg hT ho hx hl (by omega) ta tb ht htb hcb hta hwl hW hm
    · cases hp : isPow v
      · exact by_daag f hM K b ts q x y v w h hG hg hT ho hx hl hv hv1 hvm hp (by omega) ta tb ht htb hcb hta hwl hW hm
      · exact by_daap f hM K b ts q x y v w h hG hg hT ho hx hl hv hv1 hvm hp (by omega) ta tb ht htb hcb hta hwl hW hm
  · rw [if_neg (by omega)] at hunf
    have hs1 := hsh.2 hcl
    by_cases hq1 : wd ts tb < 1
    · rw [hunf, if_pos (Or.inr (Or.inl hq1))]
      unfold ByPost
      rcases hvc with rfl | rfl | rfl | ⟨hv1, hvm⟩
      · exact absurd rfl (hns 0 (hsh.2 hcl) rfl).1
      · exact by_s1so f hM K b ts q x y w h hG hg hT ho hx hl (by omega) ta tb ht htb hcb hq1
      · exact absurd (hns 0 (hsh.2 hcl) rfl).2 (by omega)
      · have h32 := (hns 0 (hsh.2 hcl) rfl).2
        cases hp : isPow v
        · exact by_s1sg f hM K b ts q x y v w h hG hg hT ho hx hl hv hv1 hvm hp hcl h32 ta tb ht htb hcb hq1
        · exact by_s1sp f hM K b ts q x y v w h hG hg hT ho hx hl hv hv1 hvm hp hcl h32 ta tb ht htb hcb hq1
    by_cases hq2 : 32 ≤ wd ts tb
    · rw [hunf, if_pos (Or.inr (Or.inr hq2))]
      unfold ByPost
      rcases hvc with rfl | rfl | rfl | ⟨hv1, hvm⟩
      · exact absurd rfl (hns 0 (hsh.2 hcl) rfl).1
      · exact by_s2so f hM K b ts q x y w h hG hg hT ho hx hl (by omega) ta tb ht htb hcb hq2 hwl
      · exact absurd (hns 0 (hsh.2 hcl) rfl).2 (by omega)
      · have h32 := (hns 0 (hsh.2 hcl) rfl).2
        cases hp : isPow v
        · exact by_s2sg f hM K b ts q x y v w h hG hg hT ho hx hl hv hv1 hvm hp hcl h32 ta tb ht htb hcb hq2 hwl
        · exact by_s2sp f hM K b ts q x y v w h hG hg hT ho hx hl hv hv1 hvm hp hcl h32 ta tb ht htb hcb hq2 hwl
    rw [if_neg (by rw [hs1]; simp; omega)] at hunf
    by_cases hsum : wd ts tb + v < 32
    · rw [if_pos hsum] at hunf
      have hW : Went ts q x y (ins ts (constT (wd ts tb + v))) q ta (pos ts (constT (wd ts tb + v))) := hok _ hunf
      rw [hunf]
      unfold ByPost
      rcases hvc with rfl | rfl | rfl | ⟨hv1, hvm⟩
      · exact absurd rfl (hns 0 (hsh.2 hcl) rfl).1
      · exact by_s3so f hM K b ts q x y w h hG hg hT ho hx hl (by omega) ta tb ht htb hcb hta (by omega) hsum hW hm
      · exact absurd (hns 0 (hsh.2 hcl) rfl).2 (by omega)
      · have h32 := (hns 0 (hsh.2 hcl) rfl).2
        cases hp : isPow v
        · exact by_s3sg f hM K b ts q x y v w h hG hg hT ho hx hl hv hv1 hvm hp hcl h32 ta tb ht htb hcb hta (by omega) hsum hW hm
        · exact by_s3sp f hM K b ts q x y v w h hG hg hT ho hx hl hv hv1 hvm hp hcl h32 ta tb ht htb hcb hta (by omega) hsum hW hm
    rw [if_neg hsum] at hunf
    by_cases h34 : q = 34
    · rw [if_pos h34] at hunf
      have hW : Went ts q x y (ins ts (constT 31)) q ta (pos ts (constT 31)) := hok _ hunf
      rw [hunf]
      unfold ByPost
      rcases hvc with rfl | rfl | rfl | ⟨hv1, hvm⟩
      · exact absurd rfl (hns 0 (hsh.2 hcl) rfl).1
      · exact by_s4so f hM K b ts q x y w h hG hg hT ho hx hl (by omega) ta tb ht htb hcb hta (by omega) (by omega) (by omega) h34 hW hm
      · exact absurd (hns 0 (hsh.2 hcl) rfl).2 (by omega)
      · have h32 := (hns 0 (hsh.2 hcl) rfl).2
        cases hp : isPow v
        · exact by_s4sg f hM K b ts q x y v w h hG hg hT ho hx hl hv hv1 hvm hp hcl h32 ta tb ht htb hcb hta (by omega) (by omega) (by omega) h34 hW hm
        · exact by_s4sp f hM K b ts q x y v w h hG hg hT ho hx hl hv hv1 hvm hp hcl h32 ta tb ht htb hcb hta (by omega) (by omega) (by omega) h34 hW hm
    · rw [if_neg h34] at hunf
      rw [hunf]
      unfold ByPost
      rcases hvc with rfl | rfl | rfl | ⟨hv1, hvm⟩
      · exact absurd rfl (hns 0 (hsh.2 hcl) rfl).1
      · exact by_s5so f hM K b ts q x y w h hG hg hT ho hx hl (by omega) ta tb ht htb hcb (by omega) (by omega) (by omega) h34
      · exact absurd (hns 0 (hsh.2 hcl) rfl).2 (by omega)
      · have h32 := (hns 0 (hsh.2 hcl) rfl).2
        cases hp : isPow v
        · exact by_s5sg f hM K b ts q x y v w h hG hg hT ho hx hl hv hv1 hvm hp hcl h32 ta tb ht htb hcb (by omega) (by omega) (by omega) h34
        · exact by_s5sp f hM K b ts q x y v w h hG hg hT ho hx hl hv hv1 hvm hp hcl h32 ta tb ht htb hcb (by omega) (by omega) (by omega) h34
  · rw [if_neg (by omega), if_pos (Or.inl (hshn (q := True) hcl))] at hunf
    rw [hunf]
    unfold ByPost
    rcases hvc with rfl | rfl | rfl | ⟨hv1, hvm⟩
    · exact by_dnnz f hM K b ts q x y w h hG hg hT ho hx hl (by omega) ta tb ht htb hcb
    · exact by_dnno f hM K b ts q x y w h hG hg hT ho hx hl (by omega) ta tb ht htb hcb
    · exact by_dnnm f hM K b ts q x y w h hG hg hT ho hx hl (by omega) ta tb ht htb hcb
    · cases hp : isPow v
      · exact by_dnng f hM K b ts q x y v w h hG hg hT ho hx hl hv hv1 hvm hp (by omega) ta tb ht htb hcb
      · exact by_dnnp f hM K b ts q x y v w h hG hg hT ho hx hl hv hv1 hvm hp (by have q6 : q ≠ 37 := (fun hh => c6 ⟨hp, hh⟩); have q7 : q ≠ 42 := (fun hh => c7 ⟨hp, hh⟩); have q8 : q ≠ 44 := (fun hh => c8 ⟨hp, hh⟩); omega) ta tb ht htb hcb
end Go.Proofs.YtaiggfknighhgaaGreatDoor
