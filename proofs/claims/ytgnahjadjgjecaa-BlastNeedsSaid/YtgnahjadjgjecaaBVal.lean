/- Literals of both, of one or both, of just one; words: plain laws (blast). -/
/- Words of literals: sums, comparisons, shifts: plain laws (blast). -/
/- Reckonings of literals: plain laws (blast). -/
/- Shifts of literals: plain laws (blast). -/
/- A reckoning's literals: plain laws (blast). -/
/- Literals of a word come to some word: what is known of a reckoning of any literals. -/
import Derived.Test.YtgnahjadjgjecaaBClause
set_option linter.unusedVariables false
set_option linter.unusedSimpArgs false
namespace Go.Proofs.Ytgnahjadjgjecaa

abbrev GL := List Gate × Int
def mkG (gs : List Gate) (g : Gate) : GL := (gins gs g, gvar gs g)
def andG (gs : List Gate) (a b : Int) : GL :=
  if a = -1 ∨ b = -1 ∨ a = -b then (gs, -1) else if a = 1 ∨ a = b then (gs, b) else if b = 1 then (gs, a) else mkG gs ⟨1, min a b, max a b⟩
def orG (gs : List Gate) (a b : Int) : GL := ((andG gs (-a) (-b)).1, -(andG gs (-a) (-b)).2)
def xorG (gs : List Gate) (a b : Int) : GL :=
  if a = 1 then (gs, -b) else if a = -1 then (gs, b) else if b = 1 then (gs, -a) else if b = -1 then (gs, a) else if a = b then (gs, -1) else if a = -b then (gs, 1)
  else (gins gs ⟨2, min (a.natAbs : Int) b.natAbs, max (a.natAbs : Int) b.natAbs⟩, (if (a < 0) = (b < 0) then 1 else -1) * gvar gs ⟨2, min (a.natAbs : Int) b.natAbs, max (a.natAbs : Int) b.natAbs⟩)
/-- What is known of a literal that was made: it is v, of any registers. -/
structure Made1 (gs : List Gate) (r : GL) (n : Nat) (v : (Nat → Nat) → Bool) : Prop where mk_ ::
  ext : GExt gs r.1
  good : GGood r.1
  lit : Lit (r.1.length + 1) r.2
  len : r.1.length ≤ gs.length + n
  val : ∀ x, lv x r.1 r.2 = v x
  inp : ∀ g, g ∈ r.1 → g.kd = 0 → g ∈ gs
theorem Made1.same {gs : List Gate} (h : GGood gs) {l : Int} (hl : Lit (gs.length + 1) l) {n : Nat} {v : (Nat → Nat) → Bool} (hv : ∀ x, lv x gs l = v x) : Made1 gs (gs, l) n v := ⟨GExt.refl _, h, hl, Nat.le_add_right _ _, hv, fun g hg _ => hg⟩
theorem Made1.neg {gs : List Gate} {r : GL} {n : Nat} {v : (Nat → Nat) → Bool} (h : Made1 gs r n v) : Made1 gs (r.1, -r.2) n (fun x => !v x) := ⟨h.ext, h.good, h.lit.neg, h.len, fun x => by rw [← h.val x]; exact lv_neg h.lit, h.inp⟩
theorem made_gate {gs : List Gate} (h : GGood gs) {g : Gate} (hk : g.kd = 1 ∨ g.kd = 2) (ha : Lit (gs.length + 1) g.a) (hb : Lit (gs.length + 1) g.b) : Made1 gs (mkG gs g) 1 (fun x => if g.kd = 1 then lv x gs g.a && lv x gs g.b else lv x gs g.a != lv x gs g.b) := by
  have hok : GateOk gs.length g := Or.inr ⟨hk, ha, hb⟩
  refine ⟨gext_ins _ _, h.ins hok, gvar_lit _ _, (gins_len _ _).2, fun x => ?_, fun q hq h0 => ?_⟩
  · have hv := lv_gate (x := x) h hok
    unfold gv at hv
    rw [if_neg (by omega)] at hv
    have e1 : so (vals x (gins gs g)) g.a = lv x gs g.a := lv_ext (gext_ins gs g) ha
    have e2 : so (vals x (gins gs g)) g.b = lv x gs g.b := lv_ext (gext_ins gs g) hb
    rw [e1, e2] at hv
    exact hv
  · unfold mkG gins at hq
    dsimp only at hq
    split at hq
    · exact hq
    · rcases List.mem_append.1 hq with hq | hq
      · exact hq
      · rw [List.mem_singleton.1 hq] at h0
        omega
theorem lit_min {n : Nat} {a b : Int} (ha : Lit n a) (hb : Lit n b) : Lit n (min a b) := by rcases Int.min_def a b ▸ (by split <;> simp : (if a ≤ b then a else b) = a ∨ (if a ≤ b then a else b) = b) with h | h <;> · rw [h]; assumption
theorem lit_max {n : Nat} {a b : Int} (ha : Lit n a) (hb : Lit n b) : Lit n (max a b) := by rcases Int.max_def a b ▸ (by split <;> simp : (if a ≤ b then b else a) = a ∨ (if a ≤ b then b else a) = b) with h | h <;> · rw [h]; assumption
theorem made_and {gs : List Gate} (h : GGood gs) {a b : Int} (ha : Lit (gs.length + 1) a) (hb : Lit (gs.length + 1) b) : Made1 gs (andG gs a b) 1 (fun x => lv x gs a && lv x gs b) := by
  unfold andG
  split
  · rename_i hc
    refine Made1.same h (lit_mone _) fun x => ?_
    rw [lv_mone]
    rcases hc with rfl | rfl | rfl
    · rw [lv_mone]; rfl
    · rw [lv_mone, Bool.and_false]
    · rw [lv_neg hb]; simp
  split
  · rename_i hc
    refine Made1.same h hb fun x => ?_
    rcases hc with rfl | rfl
    · rw [lv_one]; rfl
    · rw [Bool.and_self]
  split
  · rename_i hc
    refine Made1.same h ha fun x => ?_
    subst hc
    rw [lv_one, Bool.and_true]
  · have := made_gate h (g := ⟨1, min a b, max a b⟩) (Or.inl rfl) (lit_min ha hb) (lit_max ha hb)
    refine ⟨this.ext, this.good, this.lit, this.len, fun x => ?_, this.inp⟩
    rw [this.val x]
    dsimp only
    rw [if_pos rfl]
    by_cases hab : a ≤ b
    · rw [Int.min_eq_left hab, Int.max_eq_right hab]
    · rw [Int.min_eq_right (by omega), Int.max_eq_left (by omega), Bool.and_comm]
theorem made_or {gs : List Gate} (h : GGood gs) {a b : Int} (ha : Lit (gs.length + 1) a) (hb : Lit (gs.length + 1) b) : Made1 gs (orG gs a b) 1 (fun x => lv x gs a || lv x gs b) := by
  have := (made_and h ha.neg hb.neg).neg
  refine ⟨this.ext, this.good, this.lit, this.len, fun x => ?_, this.inp⟩
  have hv := this.val x
  rw [lv_neg ha, lv_neg hb] at hv
  show lv x (andG gs (-a) (-b)).1 (-(andG gs (-a) (-b)).2) = _
  rw [hv]
  cases lv x gs a <;> cases lv x gs b <;> rfl
theorem lit_abs {n : Nat} {a : Int} (ha : Lit n a) : Lit n (a.natAbs : Int) := by unfold Lit at *; simpa using ha
theorem lv_abs {x : Nat → Nat} {gs : List Gate} {a : Int} (ha : Lit (gs.length + 1) a) : lv x gs (a.natAbs : Int) = (if a < 0 then !lv x gs a else lv x gs a) := by
  split
  · rename_i h
    rw [← lv_neg ha]
    congr 1
    omega
  · congr 1
    omega
theorem made_xor {gs : List Gate} (h : GGood gs) {a b : Int} (ha : Lit (gs.length + 1) a) (hb : Lit (gs.length + 1) b) : Made1 gs (xorG gs a b) 1 (fun x => lv x gs a != lv x gs b) := by
  unfold xorG
  split
  · rename_i hc
    refine Made1.same h hb.neg fun x => ?_
    rw [hc, lv_one, lv_neg hb]
    cases lv x gs b <;> rfl
  split
  · rename_i hc
    refine Made1.same h hb fun x => ?_
    rw [hc, lv_mone]
    cases lv x gs b <;> rfl
  split
  · rename_i hc
    refine Made1.same h ha.neg fun x => ?_
    rw [hc, lv_one, lv_neg ha]
    cases lv x gs a <;> rfl
  split
  · rename_i hc
    refine Made1.same h ha fun x => ?_
    rw [hc, lv_mone]
    cases lv x gs a <;> rfl
  split
  · rename_i hc
    refine Made1.same h (lit_mone _) fun x => ?_
    rw [hc, lv_mone]
    simp
  split
  · rename_i hc
    refine Made1.same h (lit_one _) fun x => ?_
    rw [hc, lv_one, lv_neg hb]
    cases lv x gs b <;> rfl
  · have hm := made_gate h (g := ⟨2, min (a.natAbs : Int) b.natAbs, max (a.natAbs : Int) b.natAbs⟩) (Or.inr rfl) (lit_min (lit_abs ha) (lit_abs hb)) (lit_max (lit_abs ha) (lit_abs hb))
    have hv : ∀ x, lv x (gins gs ⟨2, min (a.natAbs : Int) b.natAbs, max (a.natAbs : Int) b.natAbs⟩) (gvar gs ⟨2, min (a.natAbs : Int) b.natAbs, max (a.natAbs : Int) b.natAbs⟩) = (lv x gs (a.natAbs : Int) != lv x gs (b.natAbs : Int)) := fun x => by
      have := hm.val x
      dsimp only at this
      rw [if_neg (by omega)] at this
      refine this.trans ?_
      by_cases hab : (a.natAbs : Int) ≤ b.natAbs
      · rw [Int.min_eq_left hab, Int.max_eq_right hab]
      · rw [Int.min_eq_right (by omega), Int.max_eq_left (by omega)]
        cases lv x gs (a.natAbs : Int) <;> cases lv x gs (b.natAbs : Int) <;> rfl
    generalize hgg : (⟨2, min (a.natAbs : Int) b.natAbs, max (a.natAbs : Int) b.natAbs⟩ : Gate) = g at *
    have hlit := hm.lit
    split
    · rename_i hs
      refine ⟨hm.ext, hm.good, by rw [Int.one_mul]; exact hlit, hm.len, fun x => ?_, hm.inp⟩
      rw [Int.one_mul, hv x, lv_abs ha, lv_abs hb]
      by_cases h0 : a < 0
      · have h1 : b < 0 := by rw [← hs]; exact h0
        rw [if_pos h0, if_pos h1]
        cases lv x gs a <;> cases lv x gs b <;> rfl
      · have h1 : ¬ b < 0 := by rw [← hs]; exact h0
        rw [if_neg h0, if_neg h1]
    · rename_i hs
      refine ⟨hm.ext, hm.good, by rw [Int.neg_one_mul]; exact hlit.neg, hm.len, fun x => ?_, hm.inp⟩
      rw [Int.neg_one_mul]
      have hn : lv x (gins gs g) (-gvar gs g) = !lv x (gins gs g) (gvar gs g) := lv_neg hlit
      show lv x (gins gs g) (-gvar gs g) = _
      rw [hn, hv x, lv_abs ha, lv_abs hb]
      by_cases h0 : a < 0
      · have h1 : ¬ b < 0 := fun h1 => hs (by simp [h0, h1])
        rw [if_pos h0, if_neg h1]
        cases lv x gs a <;> cases lv x gs b <;> rfl
      · have h1 : b < 0 := by
          by_cases h1 : b < 0
          · exact h1
          · exact absurd (by simp [h0, h1]) hs
        rw [if_neg h0, if_pos h1]
        cases lv x gs a <;> cases lv x gs b <;> rfl
theorem Made1.andThen {gs : List Gate} {r s : GL} {n m : Nat} {v u : (Nat → Nat) → Bool} (h : Made1 gs r n v) (k : Made1 r.1 s m u) : Made1 gs s (n + m) u :=
  ⟨h.ext.trans k.ext, k.good, k.lit, by have := h.len; have := k.len; omega, k.val, fun g hg h0 => h.inp g (k.inp g hg h0) h0⟩
/-- The literal of a, if s is so, else of b. -/
def pickG (gs : List Gate) (s a b : Int) : GL :=
  if a = b then (gs, a) else orG (andG (andG gs s a).1 (-s) b).1 (andG gs s a).2 (andG (andG gs s a).1 (-s) b).2
theorem made_pick {gs : List Gate} (h : GGood gs) {s a b : Int} (hs : Lit (gs.length + 1) s) (ha : Lit (gs.length + 1) a) (hb : Lit (gs.length + 1) b) : Made1 gs (pickG gs s a b) 3 (fun x => if lv x gs s = true then lv x gs a else lv x gs b) := by
  unfold pickG
  split
  · rename_i hc
    refine Made1.same h ha fun x => ?_
    rw [hc]
    split <;> rfl
  · have m1 := made_and h hs ha
    have e1 := m1.ext.len
    have m2 := made_and m1.good (hs.mono (m := (andG gs s a).1.length + 1) (by omega)).neg (hb.mono (m := (andG gs s a).1.length + 1) (by omega))
    have e2 := m2.ext.len
    have m3 := made_or m2.good (m1.lit.mono (m := (andG (andG gs s a).1 (-s) b).1.length + 1) (by omega)) m2.lit
    have := (m1.andThen m2).andThen m3
    refine ⟨this.ext, this.good, this.lit, this.len, fun x => ?_, this.inp⟩
    rw [this.val x]
    rw [lv_ext m2.ext m1.lit, m1.val x, m2.val x, lv_neg (hs.mono (by omega)), lv_ext m1.ext hs, lv_ext m1.ext hb]
    cases lv x gs s <;> cases lv x gs a <;> cases lv x gs b <;> rfl
end Go.Proofs.Ytgnahjadjgjecaa
set_option linter.unusedVariables false
set_option linter.unusedSimpArgs false
namespace Go.Proofs.Ytgnahjadjgjecaa

/-- All literals of a word are of the variables. -/
def Lits (gs : List Gate) (a : Nat → Int) : Prop := ∀ i, i < 32 → Lit (gs.length + 1) (a i)
theorem Lits.ext {gs hs : List Gate} {a : Nat → Int} (h : Lits gs a) (he : GExt gs hs) : Lits hs a := fun i hi => (h i hi).mono (by have := he.len; omega)
/-- A word's literals are v, of any registers. -/
def Is (gs : List Gate) (a : Nat → Int) (v : (Nat → Nat) → Nat) : Prop := ∀ x i, i < 32 → lv x gs (a i) = (v x).testBit i
theorem Is.ext {gs hs : List Gate} {a : Nat → Int} {v : (Nat → Nat) → Nat} (h : Is gs a v) (hl : Lits gs a) (he : GExt gs hs) : Is hs a v := fun x i hi => by rw [lv_ext he (hl i hi)]; exact h x i hi
/-- What is known of a word that was made. -/
structure MadeW (gs : List Gate) (hs : List Gate) (a : Nat → Int) (n : Nat) (v : (Nat → Nat) → Nat) : Prop where mk_ ::
  ext : GExt gs hs
  good : GGood hs
  lits : Lits hs a
  len : hs.length ≤ gs.length + n
  is_ : Is hs a v
  inp : ∀ g, g ∈ hs → g.kd = 0 → g ∈ gs
abbrev SumS := List Gate × (Nat → Int) × Int
/-- One place of a sum. -/
def sum1 (s : SumS) (n : Nat) (a b : Int) : SumS :=
  let x := xorG s.1 a b
  let o := xorG x.1 x.2 s.2.2
  let p := andG o.1 a b
  let q := andG p.1 s.2.2 x.2
  let r := orG q.1 p.2 q.2
  (r.1, fun i => if i = n then o.2 else s.2.1 i, r.2)
def sumF (a b : Nat → Int) (gs : List Gate) (c : Int) : Nat → SumS
  | 0 => (gs, fun _ => 0, c)
  | n + 1 => sum1 (sumF a b gs c n) n (a n) (b n)
structure SumOk (gs : List Gate) (s : SumS) (n : Nat) (A B : (Nat → Nat) → BitVec 32) (c : Bool) : Prop where mk_ ::
  ext : GExt gs s.1
  good : GGood s.1
  lits : ∀ i, i < n → Lit (s.1.length + 1) (s.2.1 i)
  clit : Lit (s.1.length + 1) s.2.2
  len : s.1.length ≤ gs.length + 5 * n
  bits : ∀ x i, i < n → lv x s.1 (s.2.1 i) = ((A x).getLsbD i ^^ ((B x).getLsbD i ^^ BitVec.carry i (A x) (B x) c))
  carry : ∀ x, lv x s.1 s.2.2 = BitVec.carry n (A x) (B x) c
  inp : ∀ g, g ∈ s.1 → g.kd = 0 → g ∈ gs
theorem sum_ok {gs : List Gate} (hg : GGood gs) {a b : Nat → Int} (ha : Lits gs a) (hb : Lits gs b) {A B : (Nat → Nat) → BitVec 32} (hA : ∀ x i, i < 32 → lv x gs (a i) = (A x).getLsbD i) (hB : ∀ x i, i < 32 → lv x gs (b i) = (B x).getLsbD i)
    {c : Int} {cv : Bool} (hc : Lit (gs.length + 1) c) (hcv : ∀ x, lv x gs c = cv) : ∀ n, n ≤ 32 → SumOk gs (sumF a b gs c n) n A B cv
  | 0, _ => ⟨GExt.refl _, hg, fun i hi => by omega, hc, Nat.le_refl _, fun x i hi => by omega, fun x => by rw [BitVec.carry_zero]; exact hcv x, fun g hg _ => hg⟩
  | n + 1, hn => by
    have ih := sum_ok hg ha hb hA hB hc hcv n (by omega)
    show SumOk gs (sum1 (sumF a b gs c n) n (a n) (b n)) (n + 1) A B cv
    generalize sumF a b gs c n = s at ih
    obtain ⟨hs, out, cc⟩ := s
    obtain ⟨e0, g0, l0, c0, n0, v0, w0, i0⟩ := ih
    dsimp only at e0 g0 l0 c0 n0 v0 w0 i0
    have la := (ha n (by omega)).mono (m := hs.length + 1) (by have := e0.len; omega)
    have lb := (hb n (by omega)).mono (m := hs.length + 1) (by have := e0.len; omega)
    have va : ∀ x, lv x hs (a n) = (A x).getLsbD n := fun x => by rw [lv_ext e0 (ha n (by omega))]; exact hA x n (by omega)
    have vb : ∀ x, lv x hs (b n) = (B x).getLsbD n := fun x => by rw [lv_ext e0 (hb n (by omega))]; exact hB x n (by omega)
    unfold sum1
    dsimp only
    have mx := made_xor g0 la lb
    generalize xorG hs (a n) (b n) = rx at mx
    have lx := mx.ext.len
    have mo := made_xor mx.good mx.lit (c0.mono (by omega))
    generalize xorG rx.1 rx.2 cc = ro at mo
    have lo := mo.ext.len
    have mp := made_and mo.good (la.mono (m := ro.1.length + 1) (by omega)) (lb.mono (m := ro.1.length + 1) (by omega))
    generalize andG ro.1 (a n) (b n) = rp at mp
    have lp := mp.ext.len
    have mq := made_and mp.good (c0.mono (m := rp.1.length + 1) (by omega)) (mx.lit.mono (m := rp.1.length + 1) (by omega))
    generalize andG rp.1 cc rx.2 = rq at mq
    have lq := mq.ext.len
    have mr := made_or mq.good (mp.lit.mono (m := rq.1.length + 1) (by omega)) mq.lit
    generalize orG rq.1 rp.2 rq.2 = rr at mr
    have lr := mr.ext.len
    have E1 := (mx.ext.trans mo.ext)
    have E2 := E1.trans mp.ext
    have E3 := E2.trans mq.ext
    have E4 := E3.trans mr.ext
    have vx : ∀ x, lv x rx.1 rx.2 = ((A x).getLsbD n ^^ (B x).getLsbD n) := fun x => by rw [mx.val x, va x, vb x]
    refine ⟨e0.trans E4, mr.good, fun i hi => ?_, mr.lit, ?_, fun x i hi => ?_, fun x => ?_, fun g hg h0 => i0 g (mx.inp g (mo.inp g (mp.inp g (mq.inp g (mr.inp g hg h0) h0) h0) h0) h0) h0⟩
    · show Lit _ (if i = n then ro.2 else out i)
      split
      · exact mo.lit.mono (by show _ ≤ rr.1.length + 1; omega)
      · exact (l0 i (by omega)).mono (by show _ ≤ rr.1.length + 1; omega)
    · have := mx.len; have := mo.len; have := mp.len; have := mq.len; have := mr.len
      show rr.1.length ≤ _
      omega
    · show lv x rr.1 (if i = n then ro.2 else out i) = _
      split
      · rename_i hi'
        subst hi'
        rw [lv_ext (mp.ext.trans (mq.ext.trans mr.ext)) mo.lit, mo.val x, vx x, lv_ext mx.ext c0, w0 x]
        cases (A x).getLsbD i <;> cases (B x).getLsbD i <;> cases BitVec.carry i (A x) (B x) cv <;> rfl
      · rw [lv_ext E4 (l0 i (by omega))]
        exact v0 x i (by omega)
    · show lv x rr.1 rr.2 = _
      rw [mr.val x, lv_ext mq.ext mp.lit, mp.val x, mq.val x, lv_ext E1 la, lv_ext E1 lb, va x, vb x, lv_ext E2 c0, w0 x, lv_ext (mo.ext.trans mp.ext) mx.lit, vx x, BitVec.carry_succ]
      unfold Bool.atLeastTwo
      cases (A x).getLsbD n <;> cases (B x).getLsbD n <;> cases BitVec.carry n (A x) (B x) cv <;> rfl
end Go.Proofs.Ytgnahjadjgjecaa
set_option linter.unusedVariables false
set_option linter.unusedSimpArgs false
namespace Go.Proofs.Ytgnahjadjgjecaa

def bv (v : Nat) : BitVec 32 := BitVec.ofNat 32 v
theorem bv_bit (v i : Nat) (hi : i < 32) : (bv v).getLsbD i = v.testBit i := by
  unfold bv
  rw [BitVec.getLsbD_ofNat]
  simp [hi]
theorem bv_nat {v : Nat} (h : v < 4294967296) : (bv v).toNat = v := by unfold bv; rw [BitVec.toNat_ofNat]; exact Nat.mod_eq_of_lt h
/-- Literals the other way round. -/
def notW (a : Nat → Int) : Nat → Int := fun i => -(a i)
theorem notW_lits {gs : List Gate} {a : Nat → Int} (h : Lits gs a) : Lits gs (notW a) := fun i hi => (h i hi).neg
/-- A word's literals. -/
def wordW (v : Nat) : Nat → Int := fun i => if v.testBit i = true then 1 else -1
theorem wordW_lits (gs : List Gate) (v : Nat) : Lits gs (wordW v) := fun i hi => by unfold wordW; split; exact lit_one _; exact lit_mone _
theorem wordW_is (gs : List Gate) (v : Nat) : Is gs (wordW v) (fun _ => v) := fun x i hi => by
  unfold wordW
  split
  · rename_i h; rw [lv_one, h]
  · rename_i h
    rw [lv_mone]
    cases e : v.testBit i
    · rfl
    · exact absurd e h
theorem made_word {gs : List Gate} (h : GGood gs) (v : Nat) : MadeW gs gs (wordW v) 0 (fun _ => v) := ⟨GExt.refl _, h, wordW_lits _ _, Nat.le_refl _, wordW_is _ _, fun g hg _ => hg⟩
/-- Literals bit by bit. -/
def eachF (f : List Gate → Int → Int → GL) (a b : Nat → Int) (gs : List Gate) : Nat → List Gate × (Nat → Int)
  | 0 => (gs, fun _ => 0)
  | n + 1 => let s := eachF f a b gs n; ((f s.1 (a n) (b n)).1, fun i => if i = n then (f s.1 (a n) (b n)).2 else s.2 i)
structure EachOk (gs : List Gate) (s : List Gate × (Nat → Int)) (n m : Nat) (v : (Nat → Nat) → Nat → Bool) : Prop where mk_ ::
  ext : GExt gs s.1
  good : GGood s.1
  lits : ∀ i, i < n → Lit (s.1.length + 1) (s.2 i)
  len : s.1.length ≤ gs.length + m * n
  bits : ∀ x i, i < n → lv x s.1 (s.2 i) = v x i
  inp : ∀ g, g ∈ s.1 → g.kd = 0 → g ∈ gs
theorem each_ok {gs : List Gate} (hg : GGood gs) {f : Nat → List Gate → GL} {m : Nat} {v : (Nat → Nat) → Nat → Bool} (F : Nat → List Gate × (Nat → Int)) (h0 : (F 0).1 = gs) (hs : ∀ n, F (n + 1) = ((f n (F n).1).1, fun i => if i = n then (f n (F n).1).2 else (F n).2 i))
    (hf : ∀ n, n < 32 → ∀ hs, GExt gs hs → GGood hs → Made1 hs (f n hs) m (fun x => v x n)) : ∀ n, n ≤ 32 → EachOk gs (F n) n m v
  | 0, _ => ⟨by rw [h0]; exact GExt.refl _, by rw [h0]; exact hg, fun i hi => by omega, by rw [h0]; omega, fun x i hi => by omega, fun g hq _ => by rw [h0] at hq; exact hq⟩
  | n + 1, hn => by
    obtain ⟨e0, g0, l0, n0, v0, i0⟩ := each_ok hg F h0 hs hf n (by omega)
    have mf := hf n (by omega) _ e0 g0
    rw [hs n]
    generalize f n (F n).1 = r at mf
    have lr := mf.ext.len
    refine ⟨e0.trans mf.ext, mf.good, fun i hi => ?_, ?_, fun x i hi => ?_, fun g hg h0 => i0 g (mf.inp g hg h0) h0⟩
    · show Lit (r.1.length + 1) (if i = n then r.2 else (F n).2 i)
      split
      · exact mf.lit
      · exact (l0 i (by omega)).mono (by omega)
    · have := mf.len
      show r.1.length ≤ _
      rw [Nat.mul_add, Nat.mul_one]
      omega
    · show lv x r.1 (if i = n then r.2 else (F n).2 i) = _
      split
      · rename_i hi'; rw [hi']; exact mf.val x
      · rw [lv_ext mf.ext (l0 i (by omega))]
        exact v0 x i (by omega)
theorem EachOk.made {gs : List Gate} {s : List Gate × (Nat → Int)} {m : Nat} {v : (Nat → Nat) → Nat → Bool} (h : EachOk gs s 32 m v) {u : (Nat → Nat) → Nat} (hu : ∀ x i, i < 32 → v x i = (u x).testBit i) : MadeW gs s.1 s.2 (m * 32) u :=
  ⟨h.ext, h.good, h.lits, h.len, fun x i hi => (h.bits x i hi).trans (hu x i hi), h.inp⟩
section
variable {gs : List Gate} (hg : GGood gs) {a b : Nat → Int} (ha : Lits gs a) (hb : Lits gs b) {A B : (Nat → Nat) → Nat} (hA : Is gs a A) (hB : Is gs b B)
include hg ha hb hA hB
theorem made_each (f : List Gate → Int → Int → GL) (o : Bool → Bool → Bool) (hf : ∀ hs (p q : Int), GGood hs → Lit (hs.length + 1) p → Lit (hs.length + 1) q → Made1 hs (f hs p q) 1 (fun x => o (lv x hs p) (lv x hs q)))
    {u : (Nat → Nat) → Nat} (hu : ∀ x i, i < 32 → o ((A x).testBit i) ((B x).testBit i) = (u x).testBit i) : MadeW gs (eachF f a b gs 32).1 (eachF f a b gs 32).2 32 u := by
  have := (each_ok hg (f := fun n hs => f hs (a n) (b n)) (m := 1) (v := fun x i => o ((A x).testBit i) ((B x).testBit i)) (eachF f a b gs) rfl (fun n => rfl) (fun n hn hs he hgs => by
    have h := hf hs (a n) (b n) hgs ((ha.ext he) n hn) ((hb.ext he) n hn)
    refine ⟨h.ext, h.good, h.lit, h.len, fun x => ?_, h.inp⟩
    rw [h.val x, lv_ext he (ha n hn), lv_ext he (hb n hn), hA x n hn, hB x n hn]) 32 (Nat.le_refl _)).made hu
  exact this
theorem made_sum {c : Int} {cv : Bool} (hc : Lit (gs.length + 1) c) (hcv : ∀ x, lv x gs c = cv) {u : (Nat → Nat) → Nat} (hu : ∀ x, bv (u x) = bv (A x) + bv (B x) + (BitVec.ofBool cv).setWidth 32) :
    MadeW gs (sumF a b gs c 32).1 (sumF a b gs c 32).2.1 160 u ∧ Lit ((sumF a b gs c 32).1.length + 1) (sumF a b gs c 32).2.2 ∧ ∀ x, lv x (sumF a b gs c 32).1 (sumF a b gs c 32).2.2 = BitVec.carry 32 (bv (A x)) (bv (B x)) cv := by
  have h := sum_ok hg ha hb (A := fun x => bv (A x)) (B := fun x => bv (B x)) (fun x i hi => by rw [bv_bit _ _ hi]; exact hA x i hi) (fun x i hi => by rw [bv_bit _ _ hi]; exact hB x i hi) hc hcv 32 (Nat.le_refl _)
  refine ⟨⟨h.ext, h.good, h.lits, h.len, fun x i hi => ?_, h.inp⟩, h.clit, h.carry⟩
  rw [h.bits x i hi, ← bv_bit _ _ hi, hu x, BitVec.getLsbD_add_add_bool hi]
end
end Go.Proofs.Ytgnahjadjgjecaa
set_option linter.unusedVariables false
set_option linter.unusedSimpArgs false
namespace Go.Proofs.Ytgnahjadjgjecaa

/-- A bit of a shifted word. -/
def sh (op A s i : Nat) : Bool := if op = 29 then decide (s ≤ i) && A.testBit (i - s) else if i + s < 32 then A.testBit (i + s) else decide (op = 34) && A.testBit 31
def srcW (op : Nat) (a : Nat → Int) (fill : Int) (by_ n : Nat) : Int := if op = 29 then (if by_ ≤ n then a (n - by_) else fill) else (if n + by_ < 32 then a (n + by_) else fill)
def shift1 (op : Nat) (a : Nat → Int) (fill bk : Int) (by_ : Nat) (gs : List Gate) : Nat → List Gate × (Nat → Int)
  | 0 => (gs, fun _ => 0)
  | n + 1 => let s := shift1 op a fill bk by_ gs n; ((pickG s.1 bk (srcW op a fill by_ n) (a n)).1, fun i => if i = n then (pickG s.1 bk (srcW op a fill by_ n) (a n)).2 else s.2 i)
def fillW (op : Nat) (a : Nat → Int) : Int := if op = 34 then a 31 else -1
def shiftF (op : Nat) (a b : Nat → Int) (fill : Int) (gs : List Gate) : Nat → List Gate × (Nat → Int)
  | 0 => (gs, a)
  | k + 1 => let s := shiftF op a b fill gs k; shift1 op s.2 fill (b k) (2 ^ k) s.1 32
theorem mod_pow_succ (B k : Nat) : B % 2 ^ (k + 1) = B % 2 ^ k + (if B.testBit k = true then 2 ^ k else 0) := by
  rw [Nat.mod_pow_succ]
  congr 1
  rw [Nat.testBit_eq_decide_div_mod_eq]
  have := Nat.mod_two_eq_zero_or_one (B / 2 ^ k)
  rcases this with h | h
  · rw [h]; simp
  · rw [h]; simp
theorem sh_step (op A s p n : Nat) : sh op A (s + p) n = (if op = 29 then (if p ≤ n then sh op A s (n - p) else false) else if n + p < 32 then sh op A s (n + p) else decide (op = 34) && A.testBit 31) := by
  unfold sh
  by_cases h : op = 29
  · rw [if_pos h, if_pos h]
    by_cases hp : p ≤ n
    · rw [if_pos hp, if_pos h, show n - p - s = n - (s + p) by omega]
      congr 1
      rw [decide_eq_decide]
      omega
    · rw [if_neg hp, decide_eq_false (by omega)]
      rfl
  · rw [if_neg h, if_neg h]
    by_cases hp : n + p < 32
    · rw [if_pos hp, if_neg h, show n + p + s = n + (s + p) by omega]
    · rw [if_neg hp, if_neg (by omega)]
structure ShOk (gs : List Gate) (s : List Gate × (Nat → Int)) (k : Nat) (v : (Nat → Nat) → Nat → Bool) : Prop where mk_ ::
  ext : GExt gs s.1
  good : GGood s.1
  lits : ∀ i, i < 32 → Lit (s.1.length + 1) (s.2 i)
  len : s.1.length ≤ gs.length + 96 * k
  bits : ∀ x i, i < 32 → lv x s.1 (s.2 i) = v x i
  inp : ∀ g, g ∈ s.1 → g.kd = 0 → g ∈ gs
theorem shift_ok {gs : List Gate} (hg : GGood gs) {a b : Nat → Int} (ha : Lits gs a) (hb : Lits gs b) {A B : (Nat → Nat) → Nat} (hA : Is gs a A) (hB : Is gs b B) (op : Nat) : ∀ k, k ≤ 5 → ShOk gs (shiftF op a b (fillW op a) gs k) k (fun x i => if i < 32 then sh op (A x) (B x % 2 ^ k) i else false)
  | 0, _ => ⟨GExt.refl _, hg, ha, Nat.le_refl _, fun x i hi => by
      show lv x gs (a i) = _
      rw [hA x i hi, if_pos hi]
      unfold sh
      rw [Nat.pow_zero, Nat.mod_one]
      by_cases h : op = 29
      · rw [if_pos h]; simp
      · rw [if_neg h, if_pos (by omega)]; rfl, fun g hg _ => hg⟩
  | k + 1, hk => by
    obtain ⟨e0, g0, l0, n0, v0, i0⟩ := shift_ok hg ha hb hA hB op k (by omega)
    show ShOk gs (shift1 op (shiftF op a b (fillW op a) gs k).2 (fillW op a) (b k) (2 ^ k) (shiftF op a b (fillW op a) gs k).1 32) (k + 1) _
    generalize shiftF op a b (fillW op a) gs k = s at *
    have hfl : Lit (gs.length + 1) (fillW op a) := by unfold fillW; split; exact ha 31 (by omega); exact lit_mone _
    have hfv : ∀ x, lv x gs (fillW op a) = (decide (op = 34) && (A x).testBit 31) := fun x => by
      unfold fillW
      split
      · rename_i h; rw [hA x 31 (by omega), h]; rfl
      · rename_i h; rw [lv_mone, decide_eq_false h]; rfl
    have h := each_ok g0 (f := fun n hs => pickG hs (b k) (srcW op s.2 (fillW op a) (2 ^ k) n) (s.2 n)) (m := 3) (v := fun x n => if n < 32 then sh op (A x) (B x % 2 ^ (k + 1)) n else false) (shift1 op s.2 (fillW op a) (b k) (2 ^ k) s.1) rfl (fun n => rfl) (fun n hn hs he hgs => by
      have lb := ((hb.ext (e0.trans he)) k (by omega))
      have la := (l0 n hn).mono (m := hs.length + 1) (by have := he.len; omega)
      have lf := hfl.mono (m := hs.length + 1) (by have := (e0.trans he).len; omega)
      have ls : Lit (hs.length + 1) (srcW op s.2 (fillW op a) (2 ^ k) n) := by
        unfold srcW
        split <;> split
        · exact (l0 _ (Nat.lt_of_le_of_lt (Nat.sub_le _ _) hn)).mono (by have := he.len; omega)
        · exact lf
        · exact (l0 _ (by assumption)).mono (by have := he.len; omega)
        · exact lf
      have m := made_pick hgs lb ls la
      refine ⟨m.ext, m.good, m.lit, m.len, fun x => ?_, m.inp⟩
      rw [m.val x, lv_ext (e0.trans he) (hb k (by omega)), hB x k (by omega), lv_ext he (l0 n hn), v0 x n hn, if_pos hn, mod_pow_succ]
      split
      · rename_i hbk
        rw [sh_step]
        unfold srcW
        split
        · rename_i h29
          split
          · rename_i hp
            have hlt : n - 2 ^ k < 32 := Nat.lt_of_le_of_lt (Nat.sub_le _ _) hn
            rw [lv_ext he (l0 _ hlt), v0 x _ hlt, if_pos hlt]
          · rw [lv_ext (e0.trans he) hfl, hfv x, decide_eq_false (by omega)]
            rfl
        · split
          · rename_i hp
            rw [lv_ext he (l0 _ hp), v0 x _ hp, if_pos hp]
          · rw [lv_ext (e0.trans he) hfl, hfv x]
      · rename_i hbk
        rw [Nat.add_zero]) 32 (Nat.le_refl _)
    exact ⟨e0.trans h.ext, h.good, h.lits, by have := h.len; omega, h.bits, fun g hg hk => i0 g (h.inp g hg hk) hk⟩
theorem sh_doW {op A B i : Nat} (ho : op = 29 ∨ op = 33 ∨ op = 34) (hA : A < 4294967296) (hi : i < 32) : sh op A (B % 32) i = ((doW op A B).getD 0).testBit i := by
  have hs : B % 32 < 32 := Nat.mod_lt _ (by omega)
  unfold doW
  generalize B % 32 = s at *
  have hout : ∀ j, 32 ≤ j → A.testBit j = false := fun j hj => Nat.testBit_lt_two_pow (Nat.lt_of_lt_of_le hA (Nat.pow_le_pow_right (n := 2) (by omega) hj : 2 ^ 32 ≤ 2 ^ j))
  have hdiv : ∀ j, (A / 2 ^ s).testBit j = A.testBit (j + s) := fun j => by rw [← Nat.shiftRight_eq_div_pow, Nat.testBit_shiftRight, Nat.add_comm]
  unfold sh
  rcases ho with rfl | rfl | rfl
  · rw [if_pos rfl]
    show _ = (A * 2 ^ s % 2 ^ 32).testBit i
    rw [Nat.testBit_mod_two_pow, decide_eq_true hi, ← Nat.shiftLeft_eq, Nat.testBit_shiftLeft, Bool.true_and]
  · rw [if_neg (by omega)]
    show _ = (A / 2 ^ s).testBit i
    rw [hdiv]
    split
    · rfl
    · rw [hout (i + s) (by omega)]; rfl
  · rw [if_neg (by omega)]
    show _ = (us (sg A / 2 ^ s)).testBit i
    have hp : 0 < 2 ^ s := Nat.two_pow_pos s
    have hcast : ((2 : Int) ^ s) = ((2 ^ s : Nat) : Int) := by simp
    unfold sg us
    by_cases hm : A < 2147483648
    · have h31 : A.testBit 31 = false := Nat.testBit_lt_two_pow hm
      rw [if_pos hm, hcast, ← Int.natCast_ediv, h31]
      have hle : A / 2 ^ s ≤ A := Nat.div_le_self _ _
      have e : (((A / 2 ^ s : Nat) : Int) % 4294967296).toNat = A / 2 ^ s := by
        generalize A / 2 ^ s = q at *
        omega
      rw [e, hdiv]
      split
      · rfl
      · rw [hout (i + s) (by omega)]; rfl
    · have h31 : A.testBit 31 = true := by
        rw [Nat.testBit_eq_decide_div_mod_eq]
        have : A / 2 ^ 31 = 1 := by omega
        rw [this]; rfl
      rw [if_neg hm, hcast]
      have hpow : (4294967296 : Nat) = 2 ^ (32 - s) * 2 ^ s := by rw [← Nat.pow_add, show 32 - s + s = 32 by omega]
      have hpI : (4294967296 : Int) = ((2 ^ (32 - s) : Nat) : Int) * ((2 ^ s : Nat) : Int) := by rw [← Int.natCast_mul, ← hpow]; rfl
      have e1 : ((A : Int) - 4294967296) / ((2 ^ s : Nat) : Int) = ((A / 2 ^ s : Nat) : Int) - ((2 ^ (32 - s) : Nat) : Int) := by
        rw [hpI, Int.sub_eq_add_neg, ← Int.neg_mul, Int.add_mul_ediv_right _ _ (by omega), Int.natCast_ediv]
        rfl
      rw [e1]
      have hlt : A / 2 ^ s < 2 ^ (32 - s) := by rw [Nat.div_lt_iff_lt_mul hp, ← hpow]; exact hA
      have hle32 : 2 ^ (32 - s) ≤ 4294967296 := by rw [show (4294967296 : Nat) = 2 ^ 32 from rfl]; exact Nat.pow_le_pow_right (by omega) (by omega)
      have e2 : ((((A / 2 ^ s : Nat) : Int) - ((2 ^ (32 - s) : Nat) : Int)) % 4294967296).toNat = 2 ^ (32 - s) * (2 ^ s - 1) + A / 2 ^ s := by
        rw [Nat.mul_sub, Nat.mul_one, ← hpow]
        generalize A / 2 ^ s = q at *
        generalize 2 ^ (32 - s) = r at *
        omega
      rw [e2, Nat.testBit_two_pow_mul_add _ hlt, h31]
      by_cases hc : i + s < 32
      · rw [if_pos hc, if_pos (by omega), hdiv]
      · rw [if_neg hc, if_neg (by omega), Nat.testBit_two_pow_sub_one]
        simp
        omega
theorem made_shift {gs : List Gate} (hg : GGood gs) {a b : Nat → Int} (ha : Lits gs a) (hb : Lits gs b) {A B : (Nat → Nat) → Nat} (hA : Is gs a A) (hB : Is gs b B) {op : Nat} (ho : op = 29 ∨ op = 33 ∨ op = 34) (hlt : ∀ x, A x < 4294967296) :
    MadeW gs (shiftF op a b (fillW op a) gs 5).1 (shiftF op a b (fillW op a) gs 5).2 480 (fun x => (doW op (A x) (B x)).getD 0) := by
  have h := shift_ok hg ha hb hA hB op 5 (Nat.le_refl _)
  refine ⟨h.ext, h.good, h.lits, h.len, fun x i hi => ?_, h.inp⟩
  rw [h.bits x i hi, if_pos hi]
  exact sh_doW ho (hlt x) hi
end Go.Proofs.Ytgnahjadjgjecaa
set_option linter.unusedVariables false
set_option linter.unusedSimpArgs false
namespace Go.Proofs.Ytgnahjadjgjecaa

def flipW (a : Nat → Int) : Nat → Int := fun i => if i = 31 then -(a 31) else a i
/-- The word that is 1, if a carry is not. -/
def lessW (c : Int) : Nat → Int := fun i => if i = 0 then -c else -1
def doesG (op : Nat) (a b : Nat → Int) (gs : List Gate) : List Gate × (Nat → Int) :=
  if op = 27 then ((sumF a b gs (-1) 32).1, (sumF a b gs (-1) 32).2.1)
  else if op = 28 then ((sumF a (notW b) gs 1 32).1, (sumF a (notW b) gs 1 32).2.1)
  else if op = 36 then eachF andG a b gs 32
  else if op = 35 then eachF orG a b gs 32
  else if op = 32 then eachF xorG a b gs 32
  else if op = 30 then ((sumF (flipW a) (notW (flipW b)) gs 1 32).1, lessW (sumF (flipW a) (notW (flipW b)) gs 1 32).2.2)
  else if op = 31 then ((sumF a (notW b) gs 1 32).1, lessW (sumF a (notW b) gs 1 32).2.2)
  else shiftF op a b (fillW op a) gs 5
def compW (v : Nat) : Nat := 4294967295 - v
theorem notW_is {gs : List Gate} {b : Nat → Int} {B : (Nat → Nat) → Nat} (hl : Lits gs b) (h : Is gs b B) (hB : ∀ x, B x < 4294967296) : Is gs (notW b) (fun x => compW (B x)) := fun x i hi => by
  show lv x gs (-(b i)) = _
  rw [lv_neg (hl i hi), h x i hi]
  have := Nat.testBit_two_pow_sub_succ (x := B x) (n := 32) (hB x) i
  show _ = (4294967295 - B x).testBit i
  rw [show 4294967295 - B x = 2 ^ 32 - (B x + 1) by omega, this, decide_eq_true hi, Bool.true_and]
theorem compW_lt (v : Nat) : compW v < 4294967296 := by unfold compW; omega
theorem bv_comp {v : Nat} (h : v < 4294967296) : bv (compW v) = ~~~ (bv v) := by
  apply BitVec.eq_of_toNat_eq
  rw [BitVec.toNat_not, bv_nat h, bv_nat (compW_lt v)]
  rfl
theorem flipW_lits {gs : List Gate} {a : Nat → Int} (h : Lits gs a) : Lits gs (flipW a) := fun i hi => by
  unfold flipW
  split
  · exact (h 31 (by omega)).neg
  · exact h i hi
def flipN (v : Nat) : Nat := if v < 2147483648 then v + 2147483648 else v - 2147483648
theorem flipN_lt {v : Nat} (h : v < 4294967296) : flipN v < 4294967296 := by unfold flipN; split <;> omega
theorem flipN_bit {v : Nat} (h : v < 4294967296) {i : Nat} (hi : i < 32) : (flipN v).testBit i = (if i = 31 then !v.testBit 31 else v.testBit i) := by
  unfold flipN
  by_cases hv : v < 2147483648
  · rw [if_pos hv, show v + 2147483648 = 2 ^ 31 * 1 + v by omega, Nat.testBit_two_pow_mul_add _ (by omega)]
    by_cases h31 : i = 31
    · rw [if_pos h31, if_neg (by omega), h31, Nat.testBit_lt_two_pow (x := v) (i := 31) hv]
      rfl
    · rw [if_neg h31, if_pos (by omega)]
  · rw [if_neg hv]
    obtain ⟨u, hu⟩ : ∃ u, v = 2 ^ 31 * 1 + u := ⟨v - 2147483648, by omega⟩
    have hul : u < 2 ^ 31 := by omega
    rw [show v - 2147483648 = u by omega, hu]
    by_cases h31 : i = 31
    · rw [if_pos h31, h31, Nat.testBit_two_pow_mul_add _ hul, if_neg (by omega), Nat.testBit_lt_two_pow hul]
      rfl
    · rw [if_neg h31, Nat.testBit_two_pow_mul_add _ hul, if_pos (by omega)]
theorem flipW_is {gs : List Gate} {a : Nat → Int} {A : (Nat → Nat) → Nat} (hl : Lits gs a) (h : Is gs a A) (hA : ∀ x, A x < 4294967296) : Is gs (flipW a) (fun x => flipN (A x)) := fun x i hi => by
  rw [flipN_bit (hA x) hi]
  unfold flipW
  split
  · rw [lv_neg (hl 31 (by omega)), h x 31 (by omega)]
  · exact h x i hi
theorem made_less {gs : List Gate} (hg : GGood gs) {a b : Nat → Int} (ha : Lits gs a) (hb : Lits gs b) {A B : (Nat → Nat) → Nat} (hA : Is gs a A) (hB : Is gs b B) (hAl : ∀ x, A x < 4294967296) (hBl : ∀ x, B x < 4294967296) {u : (Nat → Nat) → Nat} (hu : ∀ x, u x = if A x < B x then 1 else 0) :
    MadeW gs (sumF a (notW b) gs 1 32).1 (lessW (sumF a (notW b) gs 1 32).2.2) 160 u := by
  obtain ⟨m, cl, cv⟩ := made_sum hg ha (notW_lits hb) hA (notW_is hb hB hBl) (lit_one _) (fun x => lv_one x gs) (u := fun x => (bv (A x) + bv (compW (B x)) + (BitVec.ofBool true).setWidth 32).toNat) (fun x => by
    apply BitVec.eq_of_toNat_eq
    rw [bv_nat (BitVec.isLt _)])
  refine ⟨m.ext, m.good, fun i hi => ?_, m.len, fun x i hi => ?_, m.inp⟩
  · unfold lessW
    split
    · exact cl.neg
    · exact lit_mone _
  · rw [hu x]
    unfold lessW
    by_cases h0 : i = 0
    · subst h0
      rw [if_pos rfl, lv_neg cl, cv x, bv_comp (hBl x), ← BitVec.ult_eq_not_carry]
      unfold BitVec.ult
      rw [bv_nat (hAl x), bv_nat (hBl x)]
      by_cases hc : A x < B x
      · rw [if_pos hc, decide_eq_true hc]; rfl
      · rw [if_neg hc, decide_eq_false hc]; rfl
    · rw [if_neg h0, lv_mone]
      split
      · rw [show (1 : Nat) = 2 ^ 0 from rfl, Nat.testBit_two_pow_of_ne (Ne.symm h0)]
      · rw [Nat.zero_testBit]
/-- A reckoning that clauses tell. -/
def soft (op : Nat) : Bool := decide (op = 27 ∨ op = 28 ∨ op = 36 ∨ op = 35 ∨ op = 32 ∨ op = 30 ∨ op = 31 ∨ op = 29 ∨ op = 33 ∨ op = 34)
theorem made_does {gs : List Gate} (hg : GGood gs) {a b : Nat → Int} (ha : Lits gs a) (hb : Lits gs b) {A B : (Nat → Nat) → Nat} (hA : Is gs a A) (hB : Is gs b B) (hAl : ∀ x, A x < 4294967296) (hBl : ∀ x, B x < 4294967296) {op : Nat} (ho : soft op = true) :
    MadeW gs (doesG op a b gs).1 (doesG op a b gs).2 480 (fun x => (doW op (A x) (B x)).getD 0) := by
  have more : ∀ {hs c n v}, MadeW gs hs c n v → n ≤ 480 → MadeW gs hs c 480 v := fun m hn => ⟨m.ext, m.good, m.lits, by have := m.len; omega, m.is_, m.inp⟩
  unfold soft at ho
  rw [decide_eq_true_eq] at ho
  rcases ho with rfl | rfl | rfl | rfl | rfl | rfl | rfl | h
  · exact more (made_sum hg ha hb hA hB (lit_mone _) (fun x => lv_mone x gs) (u := fun x => (A x + B x) % 4294967296) (fun x => by
      apply BitVec.eq_of_toNat_eq
      rw [bv_nat (Nat.mod_lt _ (by decide)), BitVec.toNat_add, BitVec.toNat_add, bv_nat (hAl x), bv_nat (hBl x)]
      simp)).1 (by decide)
  · exact more (made_sum hg ha (notW_lits hb) hA (notW_is hb hB hBl) (lit_one _) (fun x => lv_one x gs) (u := fun x => us ((A x : Int) - B x)) (fun x => by
      apply BitVec.eq_of_toNat_eq
      rw [bv_nat (us_lt _), BitVec.toNat_add, BitVec.toNat_add, bv_nat (hAl x), bv_nat (compW_lt _)]
      have := hAl x
      have := hBl x
      have e : ((BitVec.ofBool true).setWidth 32).toNat = 1 := by decide
      rw [e]
      unfold us compW
      omega)).1 (by decide)
  · exact more (made_each hg ha hb hA hB andG (fun p q => p && q) (fun hs p q h1 h2 h3 => made_and h1 h2 h3) (u := fun x => A x &&& B x) (fun x i hi => (Nat.testBit_and _ _ _).symm)) (by decide)
  · exact more (made_each hg ha hb hA hB orG (fun p q => p || q) (fun hs p q h1 h2 h3 => made_or h1 h2 h3) (u := fun x => A x ||| B x) (fun x i hi => (Nat.testBit_or _ _ _).symm)) (by decide)
  · exact more (made_each hg ha hb hA hB xorG (fun p q => p != q) (fun hs p q h1 h2 h3 => made_xor h1 h2 h3) (u := fun x => A x ^^^ B x) (fun x i hi => (Nat.testBit_xor _ _ _).symm)) (by decide)
  · exact more (made_less hg (flipW_lits ha) (flipW_lits hb) (flipW_is ha hA hAl) (flipW_is hb hB hBl) (fun x => flipN_lt (hAl x)) (fun x => flipN_lt (hBl x)) (u := fun x => if sg (A x) < sg (B x) then 1 else 0) (fun x => by
      have := hAl x
      have := hBl x
      have e : (sg (A x) < sg (B x)) ↔ (flipN (A x) < flipN (B x)) := by
        unfold sg flipN
        split <;> split <;> omega
      simp only [e])) (by decide)
  · exact more (made_less hg ha hb hA hB hAl hBl (u := fun x => if A x < B x then 1 else 0) (fun x => rfl)) (by decide)
  · have hn : op ≠ 27 ∧ op ≠ 28 ∧ op ≠ 36 ∧ op ≠ 35 ∧ op ≠ 32 ∧ op ≠ 30 ∧ op ≠ 31 := by omega
    obtain ⟨n1, n2, n3, n4, n5, n6, n7⟩ := hn
    unfold doesG
    rw [if_neg n1, if_neg n2, if_neg n3, if_neg n4, if_neg n5, if_neg n6, if_neg n7]
    exact made_shift hg ha hb hA hB h hAl
end Go.Proofs.Ytgnahjadjgjecaa
set_option linter.unusedVariables false
set_option linter.unusedSimpArgs false
namespace Go.Proofs.Ytgnahjadjgjecaa

def valN (f : Nat → Bool) : Nat → Nat
  | 0 => 0
  | n + 1 => (if f n = true then 2 ^ n else 0) + valN f n
theorem valN_lt (f : Nat → Bool) : ∀ n, valN f n < 2 ^ n
  | 0 => by show 0 < 1; omega
  | n + 1 => by
    have := valN_lt f n
    show (if f n = true then 2 ^ n else 0) + valN f n < 2 ^ (n + 1)
    rw [Nat.pow_succ]
    split <;> omega
theorem valN_bit (f : Nat → Bool) : ∀ n i, i < n → (valN f n).testBit i = f i
  | 0, i, h => by omega
  | n + 1, i, h => by
    have hl := valN_lt f n
    show ((if f n = true then 2 ^ n else 0) + valN f n).testBit i = f i
    by_cases hi : i < n
    · cases hf : f n
      · simpa using valN_bit f n i hi
      · rw [if_pos rfl, Nat.testBit_two_pow_add_gt hi]
        exact valN_bit f n i hi
    · obtain rfl : i = n := by omega
      cases hf : f i
      · simpa using Nat.testBit_lt_two_pow hl
      · rw [if_pos rfl, Nat.testBit_two_pow_add_eq, Nat.testBit_lt_two_pow hl]
        rfl
theorem is_some (gs : List Gate) (a : Nat → Int) : ∃ A : (Nat → Nat) → Nat, Is gs a A ∧ ∀ x, A x < 4294967296 :=
  ⟨fun x => valN (fun i => lv x gs (a i)) 32, fun x i hi => (valN_bit (fun i => lv x gs (a i)) 32 i hi).symm, fun x => valN_lt _ 32⟩
/-- What is known of gates to which a word came. -/
structure Grew (gs hs : List Gate) (n : Nat) : Prop where mk_ ::
  ext : GExt gs hs
  good : GGood hs
  len : hs.length ≤ gs.length + n
theorem sum_some {gs : List Gate} (hg : GGood gs) {a b : Nat → Int} (ha : Lits gs a) (hb : Lits gs b) {c : Int} (hc : c = 1 ∨ c = -1) : ∃ (A B : (Nat → Nat) → BitVec 32) (cv : Bool), ∀ n, n ≤ 32 → SumOk gs (sumF a b gs c n) n A B cv := by
  obtain ⟨A, hA, _⟩ := is_some gs a
  obtain ⟨B, hB, _⟩ := is_some gs b
  have hA' : ∀ x i, i < 32 → lv x gs (a i) = (bv (A x)).getLsbD i := fun x i hi => by rw [bv_bit _ _ hi]; exact hA x i hi
  have hB' : ∀ x i, i < 32 → lv x gs (b i) = (bv (B x)).getLsbD i := fun x i hi => by rw [bv_bit _ _ hi]; exact hB x i hi
  rcases hc with rfl | rfl
  · exact ⟨_, _, true, fun n hn => sum_ok hg ha hb hA' hB' (lit_one _) (fun x => lv_one x gs) n hn⟩
  · exact ⟨_, _, false, fun n hn => sum_ok hg ha hb hA' hB' (lit_mone _) (fun x => lv_mone x gs) n hn⟩
theorem does_some {gs : List Gate} (hg : GGood gs) {a b : Nat → Int} (ha : Lits gs a) (hb : Lits gs b) {op : Nat} (ho : soft op = true) : Grew gs (doesG op a b gs).1 480 ∧ Lits (doesG op a b gs).1 (doesG op a b gs).2 := by
  obtain ⟨A, hA, lA⟩ := is_some gs a
  obtain ⟨B, hB, lB⟩ := is_some gs b
  have m := made_does hg ha hb hA hB lA lB ho
  exact ⟨⟨m.ext, m.good, m.len⟩, m.lits⟩
theorem each_some {gs : List Gate} (hg : GGood gs) {a b : Nat → Int} (ha : Lits gs a) (hb : Lits gs b) (f : List Gate → Int → Int → GL) (o : Bool → Bool → Bool) (hf : ∀ hs (p q : Int), GGood hs → Lit (hs.length + 1) p → Lit (hs.length + 1) q → Made1 hs (f hs p q) 1 (fun x => o (lv x hs p) (lv x hs q))) :
    ∀ n, n ≤ 32 → ∃ v, EachOk gs (eachF f a b gs n) n 1 v := fun n hn =>
  ⟨_, each_ok hg (f := fun n hs => f hs (a n) (b n)) (m := 1) (v := fun x i => o (lv x gs (a i)) (lv x gs (b i))) (eachF f a b gs) rfl (fun n => rfl) (fun n hn hs he hgs => by
    have h := hf hs (a n) (b n) hgs ((ha.ext he) n hn) ((hb.ext he) n hn)
    refine ⟨h.ext, h.good, h.lit, h.len, fun x => ?_, h.inp⟩
    rw [h.val x, lv_ext he (ha n hn), lv_ext he (hb n hn)]) n hn⟩
theorem shift_some {gs : List Gate} (hg : GGood gs) {a b : Nat → Int} (ha : Lits gs a) (hb : Lits gs b) (op : Nat) : ∀ k, k ≤ 5 → ∃ v, ShOk gs (shiftF op a b (fillW op a) gs k) k v := fun k hk => by
  obtain ⟨A, hA, _⟩ := is_some gs a
  obtain ⟨B, hB, _⟩ := is_some gs b
  exact ⟨_, shift_ok hg ha hb hA hB op k hk⟩
theorem srcW_lit {hs : List Gate} {a : Nat → Int} (ha : Lits hs a) {op : Nat} {fill : Int} (hf : Lit (hs.length + 1) fill) (p n : Nat) (hn : n < 32) : Lit (hs.length + 1) (srcW op a fill p n) := by
  unfold srcW
  split <;> split
  · exact ha _ (Nat.lt_of_le_of_lt (Nat.sub_le _ _) hn)
  · exact hf
  · exact ha _ (by assumption)
  · exact hf
theorem shift1_some {gs : List Gate} (hg : GGood gs) {a : Nat → Int} (ha : Lits gs a) (op : Nat) {fill bk : Int} (hf : Lit (gs.length + 1) fill) (hb : Lit (gs.length + 1) bk) (p : Nat) : ∀ n, n ≤ 32 → ∃ v, EachOk gs (shift1 op a fill bk p gs n) n 3 v := fun n hn =>
  ⟨_, each_ok hg (f := fun n hs => pickG hs bk (srcW op a fill p n) (a n)) (m := 3) (v := fun x n => if lv x gs bk = true then lv x gs (srcW op a fill p n) else lv x gs (a n)) (shift1 op a fill bk p gs) rfl (fun n => rfl) (fun n hn hs he hgs => by
    have lb := hb.mono (m := hs.length + 1) (by have := he.len; omega)
    have lf := hf.mono (m := hs.length + 1) (by have := he.len; omega)
    have ls := srcW_lit (op := op) ha hf p n hn
    have m := made_pick hgs lb (srcW_lit (op := op) (ha.ext he) lf p n hn) ((ha.ext he) n hn)
    refine ⟨m.ext, m.good, m.lit, m.len, fun x => ?_, m.inp⟩
    rw [m.val x, lv_ext he hb, lv_ext he (ha n hn), lv_ext he ls]) n hn⟩
theorem fillW_lit {gs : List Gate} {a : Nat → Int} (ha : Lits gs a) (op : Nat) : Lit (gs.length + 1) (fillW op a) := by unfold fillW; split; exact ha 31 (by omega); exact lit_mone _
end Go.Proofs.Ytgnahjadjgjecaa
