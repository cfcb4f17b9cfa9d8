/- Terms as literals: plain laws (blast). -/
/- Pairs of terms, told by clauses: plain laws (blast). -/
/- Whether a term has a reckoning that clauses do not tell: a set of those that were looked at. -/
import Derived.Test.YtgnahjadjgjecaaBVal
import Derived.Test.YtgnahjadjgjecaaTVal
import Derived.Test.YtgnahjadjgjecaaBClause
set_option linter.unusedVariables false
set_option linter.unusedSimpArgs false
namespace Go.Proofs.Ytgnahjadjgjecaa

/-- Registers, cut to words. -/
def cl (x : Nat → Nat) : Nat → Nat := fun r => x r % 4294967296
theorem cl_lt (x : Nat → Nat) (r : Nat) : cl x r < 4294967296 := Nat.mod_lt _ (by decide)
theorem cl_of {x : Nat → Nat} (h : ∀ r, x r < 4294967296) : cl x = x := by funext r; exact Nat.mod_eq_of_lt (h r)
theorem cl_bit (x : Nat → Nat) (r i : Nat) (hi : i < 32) : (cl x r).testBit i = (x r).testBit i := by
  unfold cl
  rw [show (4294967296 : Nat) = 2 ^ 32 from rfl, Nat.testBit_mod_two_pow, decide_eq_true hi, Bool.true_and]
/-- A register's literals. -/
def inF (v : Nat) (gs : List Gate) : Nat → List Gate × (Nat → Int)
  | 0 => (gs, fun _ => 0)
  | n + 1 => let s := inF v gs n; (gins s.1 ⟨0, v, n⟩, fun i => if i = n then gvar s.1 ⟨0, v, n⟩ else s.2 i)
structure InOk (gs : List Gate) (s : List Gate × (Nat → Int)) (v n : Nat) : Prop where mk_ ::
  ext : GExt gs s.1
  good : GGood s.1
  lits : ∀ i, i < n → Lit (s.1.length + 1) (s.2 i)
  len : s.1.length ≤ gs.length + n
  bits : ∀ x i, i < n → lv x s.1 (s.2 i) = (x v).testBit i
  inp : ∀ g, g ∈ s.1 → g.kd = 0 → g ∈ gs ∨ g.a = v
  all : ∀ i, i < n → (⟨0, v, i⟩ : Gate) ∈ s.1
theorem in_ok {gs : List Gate} (hg : GGood gs) {v : Nat} (hv : v < 32) : ∀ n, n ≤ 32 → InOk gs (inF v gs n) v n
  | 0, _ => ⟨GExt.refl _, hg, fun i hi => by omega, Nat.le_refl _, fun x i hi => by omega, fun g h _ => Or.inl h, fun i hi => by omega⟩
  | n + 1, hn => by
    obtain ⟨e0, g0, l0, n0, v0, i0, a0⟩ := in_ok hg hv n (by omega)
    show InOk gs (gins (inF v gs n).1 ⟨0, v, n⟩, fun i => if i = n then gvar (inF v gs n).1 ⟨0, v, n⟩ else (inF v gs n).2 i) v (n + 1)
    generalize inF v gs n = s at *
    have hok : GateOk s.1.length ⟨0, v, n⟩ := Or.inl ⟨rfl, by simp, by show (v : Int) < 32; omega, by simp, by show (n : Int) < 32; omega⟩
    have he := gext_ins s.1 ⟨0, v, n⟩
    have hl := (gins_len s.1 ⟨0, v, n⟩).2
    have hlit := gvar_lit s.1 ⟨0, v, n⟩
    refine ⟨e0.trans he, g0.ins hok, fun i hi => ?_, by show (gins s.1 ⟨0, v, n⟩).length ≤ _; omega, fun x i hi => ?_, fun g hgm h0 => ?_, fun i hi => ?_⟩
    · show Lit _ (if i = n then _ else s.2 i)
      split
      · exact hlit
      · exact (l0 i (by omega)).mono (by have := he.len; show _ ≤ (gins s.1 ⟨0, v, n⟩).length + 1; omega)
    · show lv x (gins s.1 ⟨0, v, n⟩) (if i = n then _ else s.2 i) = _
      split
      · rename_i hi'
        subst hi'
        rw [lv_gate g0 hok]
        unfold gv
        rw [if_pos rfl]
        rfl
      · rw [lv_ext he (l0 i (by omega))]
        exact v0 x i (by omega)
    · have hgm' : g ∈ gins s.1 ⟨0, v, n⟩ := hgm
      unfold gins at hgm'
      split at hgm'
      · exact i0 g hgm' h0
      · rcases List.mem_append.1 hgm' with h | h
        · exact i0 g h h0
        · rw [List.mem_singleton.1 h]
          exact Or.inr rfl
    · rcases Nat.lt_succ_iff_lt_or_eq.1 hi with h | h
      · exact he.mem (a0 i h)
      · subst h; exact gins_mem _ _
abbrev Dn := Nat → Option (Nat → Int)
def putD (d : Dn) (n : Nat) (l : Nat → Int) : Dn := fun m => if m = n then some l else d m
/-- A term's literals; what was made. -/
def termF : Nat → List Term → List Gate → Dn → Nat → (List Gate × Dn) × (Nat → Int)
  | 0, ts, gs, d, n => ((gs, d), fun _ => 0)
  | f + 1, ts, gs, d, n => match d n with
    | some l => ((gs, d), l)
    | none =>
      if (ts.getD n default).k = 0 then ((gs, putD d n (wordW (ts.getD n default).v)), wordW (ts.getD n default).v)
      else if (ts.getD n default).k = 1 then (((inF (ts.getD n default).v gs 32).1, putD d n (inF (ts.getD n default).v gs 32).2), (inF (ts.getD n default).v gs 32).2)
      else
        let r1 := termF f ts gs d (ts.getD n default).a
        let r2 := termF f ts r1.1.1 r1.1.2 (ts.getD n default).b
        let w := doesG (ts.getD n default).op r1.2 r2.2 r2.1.1
        ((w.1, putD r2.1.2 n w.2), w.2)
/-- Has a term a reckoning that clauses do not tell? -/
def hardF : Nat → List Term → Nat → Bool
  | 0, _, _ => false
  | f + 1, ts, n => decide ((ts.getD n default).k = 2) && (decide (37 ≤ (ts.getD n default).op) || hardF f ts (ts.getD n default).a || hardF f ts (ts.getD n default).b)
theorem hardF_fuel : ∀ (f f' : Nat) (ts : List Term) (n : Nat), Good ts → n < ts.length → n < f → n < f' → hardF f ts n = hardF f' ts n
  | 0, _, _, _, _, _, h, _ => by omega
  | _, 0, _, _, _, _, _, h => by omega
  | f + 1, f' + 1, ts, n, hG, hn, h1, h2 => by
    show (decide _ && (decide _ || hardF f ts _ || hardF f ts _)) = (decide _ && (decide _ || hardF f' ts _ || hardF f' ts _))
    by_cases hk : (ts.getD n default).k = 2
    · obtain ⟨_, ha, hb, _⟩ := hG.op_at hn hk
      rw [hardF_fuel f f' ts _ hG (by omega) (by omega) (by omega), hardF_fuel f f' ts (ts.getD n default).b hG (by omega) (by omega) (by omega)]
    · rw [decide_eq_false hk]; rfl
def hardB (ts : List Term) (n : Nat) : Bool := hardF (n + 1) ts n
theorem hardB_op {ts : List Term} {n : Nat} (hG : Good ts) (hn : n < ts.length) (hk : (ts.getD n default).k = 2) : hardB ts n = (decide (37 ≤ (ts.getD n default).op) || hardB ts (ts.getD n default).a || hardB ts (ts.getD n default).b) := by
  obtain ⟨_, ha, hb, _⟩ := hG.op_at hn hk
  unfold hardB
  show (decide _ && (decide _ || hardF n ts _ || hardF n ts _)) = _
  rw [decide_eq_true hk, Bool.true_and, hardF_fuel n _ ts _ hG (by omega) ha (by omega : (ts.getD n default).a < (ts.getD n default).a + 1), hardF_fuel n _ ts (ts.getD n default).b hG (by omega) hb (by omega : (ts.getD n default).b < (ts.getD n default).b + 1)]
theorem hardB_leaf {ts : List Term} {n : Nat} (hk : (ts.getD n default).k ≠ 2) : hardB ts n = false := by
  unfold hardB hardF
  rw [decide_eq_false hk]; rfl
def cntD (ts : List Term) (d : Dn) : Nat := (List.range ts.length).countP fun n => (d n).isSome
structure DnOk (ts : List Term) (gs : List Gate) (d : Dn) : Prop where mk_ ::
  lt : ∀ n l, d n = some l → n < ts.length
  lits : ∀ n l, d n = some l → Lits gs l
  is_ : ∀ n l, d n = some l → Is gs l (fun x => ev ts (cl x) n)
  all : ∀ n l, d n = some l → ∀ r, (vr ts n).testBit r = true → ∀ i, i < 32 → (⟨0, (r : Nat), (i : Nat)⟩ : Gate) ∈ gs
theorem DnOk.ext {ts : List Term} {gs hs : List Gate} {d : Dn} (h : DnOk ts gs d) (he : GExt gs hs) : DnOk ts hs d :=
  ⟨h.lt, fun n l e => (h.lits n l e).ext he, fun n l e => (h.is_ n l e).ext (h.lits n l e) he, fun n l e r hr i hi => he.mem (h.all n l e r hr i hi)⟩
theorem DnOk.put {ts : List Term} {gs : List Gate} {d : Dn} (h : DnOk ts gs d) {n : Nat} (hn : n < ts.length) {l : Nat → Int} (h1 : Lits gs l) (h2 : Is gs l (fun x => ev ts (cl x) n)) (h3 : ∀ r, (vr ts n).testBit r = true → ∀ i, i < 32 → (⟨0, (r : Nat), (i : Nat)⟩ : Gate) ∈ gs) : DnOk ts gs (putD d n l) := by
  have key : ∀ m k, putD d n l m = some k → (m = n ∧ k = l) ∨ d m = some k := fun m k e => by
    unfold putD at e
    split at e
    · rename_i hm; exact Or.inl ⟨hm, by injection e with e; exact e.symm⟩
    · exact Or.inr e
  refine ⟨fun m k e => ?_, fun m k e => ?_, fun m k e => ?_, fun m k e => ?_⟩ <;> rcases key m k e with ⟨rfl, rfl⟩ | e
  · exact hn
  · exact h.lt m k e
  · exact h1
  · exact h.lits m k e
  · exact h2
  · exact h.is_ m k e
  · exact h3
  · exact h.all m k e
theorem cntD_put {ts : List Term} {d : Dn} {n : Nat} (hn : n < ts.length) (hd : d n = none) (l : Nat → Int) : cntD ts (putD d n l) = cntD ts d + 1 := by
  unfold cntD
  have : ∀ N, (List.range N).countP (fun m => (putD d n l m).isSome) = (List.range N).countP (fun m => (d m).isSome) + (if n < N then 1 else 0) := by
    intro N
    induction N with
    | zero => simp
    | succ N ih =>
      rw [List.range_succ, List.countP_append, List.countP_append, ih, List.countP_singleton, List.countP_singleton]
      have hp : (putD d n l N).isSome = if N = n then true else (d N).isSome := by unfold putD; split <;> rfl
      rw [hp]
      by_cases h : N = n
      · subst h
        rw [if_pos rfl, hd]
        simp
      · rw [if_neg h]
        by_cases h2 : n < N
        · rw [if_pos h2, if_pos (show n < N + 1 by omega)]; omega
        · rw [if_neg h2, if_neg (show ¬ n < N + 1 by omega)]; omega
  rw [this, if_pos hn]
theorem cntD_le (ts : List Term) (d : Dn) : cntD ts d ≤ ts.length := by
  unfold cntD
  have := List.countP_le_length (p := fun n => (d n).isSome) (l := List.range ts.length)
  simpa using this
structure TermOk (ts : List Term) (M : Nat) (gs : List Gate) (d : Dn) (n : Nat) (r : (List Gate × Dn) × (Nat → Int)) : Prop where mk_ ::
  ext : GExt gs r.1.1
  good : GGood r.1.1
  dn : DnOk ts r.1.1 r.1.2
  here : r.1.2 n = some r.2
  mono : ∀ m l, d m = some l → r.1.2 m = some l
  len : r.1.1.length + 480 * cntD ts d ≤ gs.length + 480 * cntD ts r.1.2
  inp : ∀ g, g ∈ r.1.1 → g.kd = 0 → g ∈ gs ∨ M.testBit g.a.toNat = true
  keys : ∀ m l, r.1.2 m = some l → d m = some l ∨ m ≤ n
theorem soft_of {op : Nat} (h : (doW op 0 0).isSome = true) (h2 : ¬ 37 ≤ op) : soft op = true := by
  have := op_cases h
  unfold soft
  rw [decide_eq_true_eq]
  omega
theorem term_ok {ts : List Term} (hG : Good ts) {M : Nat} : ∀ (f : Nat) (gs : List Gate) (d : Dn) (n : Nat), n < f → n < ts.length → hardB ts n = false → (∀ r, (vr ts n).testBit r = true → M.testBit r = true) → GGood gs → DnOk ts gs d → TermOk ts M gs d n (termF f ts gs d n)
  | 0, _, _, _, h, _, _, _, _, _ => by omega
  | f + 1, gs, d, n, hf, hn, hh, hM, hg, hd => by
    unfold termF
    cases hdn : d n with
    | some l => exact ⟨GExt.refl _, hg, hd, hdn, fun m l h => h, Nat.le_refl _, fun g hg _ => Or.inl hg, fun m l h => Or.inl h⟩
    | none =>
      have hmono : ∀ (e : Dn) l, (∀ m k, d m = some k → e m = some k) → ∀ m k, d m = some k → putD e n l m = some k := fun e l h m k hk => by
        unfold putD
        split
        · rename_i hm; rw [hm, hdn] at hk; cases hk
        · exact h m k hk
      have hkeys : ∀ (e : Dn) l, (∀ m k, e m = some k → d m = some k ∨ m ≤ n) → ∀ m k, putD e n l m = some k → d m = some k ∨ m ≤ n := fun e l h m k hk => by
        unfold putD at hk
        split at hk
        · rename_i hm; exact Or.inr (by omega)
        · exact h m k hk
      dsimp only
      split
      · rename_i hk
        have ht : ts.getD n default = constT (ts.getD n default).v := by
          rcases hG.at_ hn default with ⟨v, _, e⟩ | ⟨r, _, _, e⟩ | ⟨op, a, b, _, _, _, e⟩ <;> rw [e] at hk ⊢
          · rfl
          · cases hk
          · cases hk
        generalize (ts.getD n default).v = v at *
        refine ⟨GExt.refl _, hg, hd.put hn (wordW_lits _ _) (fun x i hi => ?_) (fun r hr => ?_), by unfold putD; exact if_pos rfl, hmono d _ (fun m k h => h), ?_, fun g hg _ => Or.inl hg, hkeys d _ (fun m k h => Or.inl h)⟩
        · dsimp only
          rw [wordW_is gs v x i hi, ev_const hn ht]
        · rw [vr_const hn ht, Nat.zero_testBit] at hr; cases hr
        · have := cntD_put (ts := ts) hn hdn (wordW v)
          show gs.length + _ ≤ gs.length + 480 * cntD ts (putD d n (wordW v))
          omega
      split
      · rename_i hk
        obtain ⟨r, hr1, hr2, ht⟩ : ∃ r, 1 ≤ r ∧ r < 32 ∧ ts.getD n default = varT r := by
          rcases hG.at_ hn default with ⟨v, _, e⟩ | ⟨r, h1, h2, e⟩ | ⟨op, a, b, _, _, _, e⟩
          · rw [e] at hk; cases hk
          · exact ⟨r, h1, h2, e⟩
          · rw [e] at hk; cases hk
        have hv : (ts.getD n default).v = r := by rw [ht]; rfl
        rw [hv]
        have hi := in_ok hg hr2 32 (Nat.le_refl _)
        generalize inF r gs 32 = s at *
        have hvr := vr_var hn ht
        refine ⟨hi.ext, hi.good, (hd.ext hi.ext).put hn hi.lits (fun x i h => ?_) (fun q hq i h => ?_), by unfold putD; exact if_pos rfl, hmono d _ (fun m k h => h), ?_, fun g hgm h0 => ?_, hkeys d _ (fun m k h => Or.inl h)⟩
        · dsimp only
          rw [hi.bits x i h, ev_var hn ht, cl_bit x r i h]
        · rw [hvr] at hq
          have : r = q := by
            by_cases e : r = q
            · exact e
            · rw [Nat.testBit_two_pow_of_ne e] at hq; cases hq
          rw [← this]
          exact hi.all i h
        · have := cntD_put (ts := ts) hn hdn s.2
          have := hi.len
          show s.1.length + _ ≤ gs.length + 480 * cntD ts (putD d n s.2)
          omega
        · rcases hi.inp g hgm h0 with h | h
          · exact Or.inl h
          · refine Or.inr (hM _ ?_)
            rw [hvr, h]
            exact Nat.testBit_two_pow_self
      · rename_i hk0 hk1
        have hk : (ts.getD n default).k = 2 := by
          rcases hG.at_ hn default with ⟨v, _, e⟩ | ⟨r, _, _, e⟩ | ⟨op, a, b, _, _, _, e⟩ <;> rw [e] at hk0 hk1 ⊢
          · exact absurd rfl hk0
          · exact absurd rfl hk1
          · rfl
        obtain ⟨ho, ha, hb, ht⟩ := hG.op_at hn hk
        have hhs := hardB_op hG hn hk
        rw [hh] at hhs
        have hvr := vr_op hn ht ha hb
        have hev := fun x => ev_op (x := cl x) hn ht ha hb
        generalize (ts.getD n default).op = op at *
        generalize (ts.getD n default).a = a at *
        generalize (ts.getD n default).b = b at *
        have hhs' := hhs.symm
        rw [Bool.or_eq_false_iff, Bool.or_eq_false_iff] at hhs'
        obtain ⟨⟨hop, hha⟩, hhb⟩ := hhs'
        have hsoft := soft_of ho (by simpa using hop)
        have o1 := term_ok hG (M := M) f gs d a (by omega) (by omega) hha (fun r hr => hM r (by rw [hvr, Nat.testBit_or, hr, Bool.true_or])) hg hd
        generalize termF f ts gs d a = r1 at *
        have o2 := term_ok hG (M := M) f r1.1.1 r1.1.2 b (by omega) (by omega) hhb (fun r hr => hM r (by rw [hvr, Nat.testBit_or, hr, Bool.or_true])) o1.good o1.dn
        generalize termF f ts r1.1.1 r1.1.2 b = r2 at *
        have h1 := o2.mono _ _ o1.here
        have hw := made_does o2.good (o2.dn.lits _ _ h1) (o2.dn.lits _ _ o2.here) (o2.dn.is_ _ _ h1) (o2.dn.is_ _ _ o2.here) (fun x => ev_lt hG (cl_lt x) a (by omega)) (fun x => ev_lt hG (cl_lt x) b (by omega)) hsoft
        generalize doesG op r1.2 r2.2 r2.1.1 = w at *
        have E := o1.ext.trans (o2.ext.trans hw.ext)
        by_cases hd2 : r2.1.2 n = none
        · have D2 := o2.dn.ext hw.ext
          refine ⟨E, hw.good, D2.put hn hw.lits (fun x i hi => ?_) (fun r hr i hi => ?_), by unfold putD; exact if_pos rfl, hmono _ _ (fun m k h => o2.mono m k (o1.mono m k h)), ?_, fun g hgm h0 => ?_, hkeys _ _ (fun m k h => by
            rcases o2.keys m k h with h | h
            · rcases o1.keys m k h with h | h
              · exact Or.inl h
              · exact Or.inr (by omega)
            · exact Or.inr (by omega))⟩
          · rw [hw.is_ x i hi]
            dsimp only
            rw [hev x]
          · rw [hvr, Nat.testBit_or, Bool.or_eq_true] at hr
            rcases hr with hr | hr
            · exact D2.all _ _ h1 r hr i hi
            · exact D2.all _ _ o2.here r hr i hi
          · have := cntD_put (ts := ts) hn hd2 w.2
            have := hw.len
            have := o1.len
            have := o2.len
            show w.1.length + _ ≤ gs.length + 480 * cntD ts (putD r2.1.2 n w.2)
            omega
          · rcases o2.inp g (hw.inp g hgm h0) h0 with h | h
            · exact o1.inp g h h0
            · exact Or.inr h
        · exfalso
          cases e : r2.1.2 n with
          | none => exact hd2 e
          | some l =>
            rcases o2.keys n l e with h | h
            · rcases o1.keys n l h with h | h
              · rw [hdn] at h; cases h
              · omega
            · omega
end Go.Proofs.Ytgnahjadjgjecaa
set_option linter.unusedVariables false
set_option linter.unusedSimpArgs false
namespace Go.Proofs.Ytgnahjadjgjecaa

/-- The literals at which two words differ. -/
def diff1 (x y : Nat → Int) (gs : List Gate) (s : List Int) : Nat → List Gate × List Int
  | 0 => (gs, s)
  | k + 1 => let r := diff1 x y gs s k; let l := xorG r.1 (x k) (y k); (l.1, if l.2 = -1 then r.2 else r.2 ++ [l.2])
def anyL (x : Nat → Nat) (gs : List Gate) (s : List Int) : Bool := s.any (lv x gs)
def difB (A B : Nat) (k : Nat) : Bool := (List.range k).any fun i => A.testBit i != B.testBit i
theorem difB_succ (A B k : Nat) : difB A B (k + 1) = (difB A B k || (A.testBit k != B.testBit k)) := by
  unfold difB
  rw [List.range_succ, List.any_append]
  simp
theorem difB_all {A B : Nat} (hA : A < 4294967296) (hB : B < 4294967296) : difB A B 32 = (A != B) := by
  rw [Bool.eq_iff_iff]
  unfold difB
  rw [List.any_eq_true]
  constructor
  · rintro ⟨i, _, h⟩
    rw [bne_iff_ne] at h ⊢
    rintro rfl
    exact h rfl
  · intro h
    rw [bne_iff_ne] at h
    obtain ⟨i, hi⟩ := Nat.exists_testBit_ne_of_ne h
    refine ⟨i, ?_, by rw [bne_iff_ne]; exact hi⟩
    rw [List.mem_range]
    by_cases h32 : i < 32
    · exact h32
    · have hp : 2 ^ 32 ≤ 2 ^ i := Nat.pow_le_pow_right (by omega) (by omega)
      rw [Nat.testBit_lt_two_pow (Nat.lt_of_lt_of_le hA hp), Nat.testBit_lt_two_pow (Nat.lt_of_lt_of_le hB hp)] at hi
      exact absurd rfl hi
theorem anyL_ext {x : Nat → Nat} {gs hs : List Gate} (h : GExt gs hs) {s : List Int} (hl : ∀ l, l ∈ s → Lit (gs.length + 1) l) : anyL x hs s = anyL x gs s := by
  unfold anyL
  rw [Bool.eq_iff_iff, List.any_eq_true, List.any_eq_true]
  constructor
  · rintro ⟨l, h1, h2⟩; exact ⟨l, h1, by rw [← lv_ext h (hl l h1)]; exact h2⟩
  · rintro ⟨l, h1, h2⟩; exact ⟨l, h1, by rw [lv_ext h (hl l h1)]; exact h2⟩
structure DifOk (gs : List Gate) (s : List Int) (r : List Gate × List Int) (k : Nat) (A B : (Nat → Nat) → Nat) : Prop where mk_ ::
  ext : GExt gs r.1
  good : GGood r.1
  lits : ∀ l, l ∈ r.2 → Lit (r.1.length + 1) l
  len : r.1.length ≤ gs.length + k
  slen : r.2.length ≤ s.length + k
  val : ∀ x, anyL x r.1 r.2 = (anyL x gs s || difB (A x) (B x) k)
  inp : ∀ g, g ∈ r.1 → g.kd = 0 → g ∈ gs
theorem dif_ok {gs : List Gate} (hg : GGood gs) {a b : Nat → Int} (ha : Lits gs a) (hb : Lits gs b) {A B : (Nat → Nat) → Nat} (hA : Is gs a A) (hB : Is gs b B) {s : List Int} (hs : ∀ l, l ∈ s → Lit (gs.length + 1) l) : ∀ k, k ≤ 32 → DifOk gs s (diff1 a b gs s k) k A B
  | 0, _ => ⟨GExt.refl _, hg, hs, Nat.le_refl _, Nat.le_refl _, fun x => by show anyL x gs s = _; simp [difB], fun g h _ => h⟩
  | k + 1, hk => by
    obtain ⟨e0, g0, l0, n0, s0, v0, i0⟩ := dif_ok hg ha hb hA hB hs k (by omega)
    show DifOk gs s ((xorG (diff1 a b gs s k).1 (a k) (b k)).1, if (xorG (diff1 a b gs s k).1 (a k) (b k)).2 = -1 then (diff1 a b gs s k).2 else (diff1 a b gs s k).2 ++ [(xorG (diff1 a b gs s k).1 (a k) (b k)).2]) (k + 1) A B
    generalize diff1 a b gs s k = r at *
    have m := made_xor g0 ((ha.ext e0) k (by omega)) ((hb.ext e0) k (by omega))
    have hv : ∀ x, lv x (xorG r.1 (a k) (b k)).1 (xorG r.1 (a k) (b k)).2 = ((A x).testBit k != (B x).testBit k) := fun x => by
      rw [m.val x, lv_ext e0 (ha k (by omega)), lv_ext e0 (hb k (by omega)), hA x k (by omega), hB x k (by omega)]
    generalize xorG r.1 (a k) (b k) = q at *
    have hq := m.len
    refine ⟨e0.trans m.ext, m.good, fun l hl => ?_, by show q.1.length ≤ _; omega, ?_, fun x => ?_, fun g hgm h0 => i0 g (m.inp g hgm h0) h0⟩
    · show Lit (q.1.length + 1) l
      have hm : l ∈ (if q.2 = -1 then r.2 else r.2 ++ [q.2]) := hl
      have hle := m.ext.len
      split at hm
      · exact (l0 l hm).mono (by omega)
      · rcases List.mem_append.1 hm with h | h
        · exact (l0 l h).mono (by omega)
        · rw [List.mem_singleton.1 h]; exact m.lit
    · show (if q.2 = -1 then r.2 else r.2 ++ [q.2]).length ≤ _
      split
      · omega
      · rw [List.length_append, List.length_singleton]; omega
    · show anyL x q.1 (if q.2 = -1 then r.2 else r.2 ++ [q.2]) = _
      rw [difB_succ, ← Bool.or_assoc, ← v0 x, ← hv x, ← anyL_ext m.ext l0]
      split
      · rename_i h
        rw [h, lv_mone, Bool.or_false]
      · unfold anyL
        rw [List.any_append]
        simp
/-- The pairs' literals. -/
def pairsF (f : Nat) (ts : List Term) : List (Nat × Nat) → List Gate → Dn → List Int → (List Gate × Dn) × List Int
  | [], gs, d, s => ((gs, d), s)
  | p :: ps, gs, d, s =>
    let x := termF f ts gs d p.1
    let y := termF f ts x.1.1 x.1.2 p.2
    let w := diff1 x.2 y.2 y.1.1 s 32
    pairsF f ts ps w.1 y.1.2 w.2
def difP (ts : List Term) (x : Nat → Nat) (ps : List (Nat × Nat)) : Bool := ps.any fun p => ev ts x p.1 != ev ts x p.2
structure PairsOk (ts : List Term) (M : Nat) (ps : List (Nat × Nat)) (gs : List Gate) (d : Dn) (s : List Int) (r : (List Gate × Dn) × List Int) : Prop where mk_ ::
  ext : GExt gs r.1.1
  good : GGood r.1.1
  dn : DnOk ts r.1.1 r.1.2
  lits : ∀ l, l ∈ r.2 → Lit (r.1.1.length + 1) l
  len : r.1.1.length + 480 * cntD ts d ≤ gs.length + 480 * cntD ts r.1.2 + 32 * ps.length
  slen : r.2.length ≤ s.length + 32 * ps.length
  val : ∀ x, anyL x r.1.1 r.2 = (anyL x gs s || difP ts (cl x) ps)
  inp : ∀ g, g ∈ r.1.1 → g.kd = 0 → g ∈ gs ∨ M.testBit g.a.toNat = true
  mono : ∀ m l, d m = some l → r.1.2 m = some l
  all : ∀ p, p ∈ ps → (r.1.2 p.1).isSome = true ∧ (r.1.2 p.2).isSome = true
theorem pairs_ok {ts : List Term} (hG : Good ts) {M f : Nat} (hf : ts.length ≤ f) : ∀ (ps : List (Nat × Nat)) (gs : List Gate) (d : Dn) (s : List Int), (∀ p, p ∈ ps → p.1 < ts.length ∧ p.2 < ts.length ∧ hardB ts p.1 = false ∧ hardB ts p.2 = false) →
    (∀ p, p ∈ ps → ∀ r, ((vr ts p.1).testBit r = true → M.testBit r = true) ∧ ((vr ts p.2).testBit r = true → M.testBit r = true)) → GGood gs → DnOk ts gs d → (∀ l, l ∈ s → Lit (gs.length + 1) l) → PairsOk ts M ps gs d s (pairsF f ts ps gs d s)
  | [], gs, d, s, _, _, hg, hd, hs => ⟨GExt.refl _, hg, hd, hs, by simp [pairsF], by simp [pairsF], fun x => by show anyL x gs s = _; simp [difP], fun g h _ => Or.inl h, fun m l h => h, fun p hp => by cases hp⟩
  | p :: ps, gs, d, s, hp, hM, hg, hd, hs => by
    obtain ⟨p1, p2, p3, p4⟩ := hp p List.mem_cons_self
    have m1 := fun r => (hM p List.mem_cons_self r).1
    have m2 := fun r => (hM p List.mem_cons_self r).2
    have o1 := term_ok hG (M := M) f gs d p.1 (by omega) p1 p3 m1 hg hd
    show PairsOk ts M (p :: ps) gs d s (pairsF f ts ps (diff1 (termF f ts gs d p.1).2 (termF f ts (termF f ts gs d p.1).1.1 (termF f ts gs d p.1).1.2 p.2).2 (termF f ts (termF f ts gs d p.1).1.1 (termF f ts gs d p.1).1.2 p.2).1.1 s 32).1 (termF f ts (termF f ts gs d p.1).1.1 (termF f ts gs d p.1).1.2 p.2).1.2 (diff1 (termF f ts gs d p.1).2 (termF f ts (termF f ts gs d p.1).1.1 (termF f ts gs d p.1).1.2 p.2).2 (termF f ts (termF f ts gs d p.1).1.1 (termF f ts gs d p.1).1.2 p.2).1.1 s 32).2)
    generalize termF f ts gs d p.1 = x at *
    have o2 := term_ok hG (M := M) f x.1.1 x.1.2 p.2 (by omega) p2 p4 m2 o1.good o1.dn
    generalize termF f ts x.1.1 x.1.2 p.2 = y at *
    have h1 := o2.mono _ _ o1.here
    have E12 := o1.ext.trans o2.ext
    have hs2 : ∀ l, l ∈ s → Lit (y.1.1.length + 1) l := fun l h => (hs l h).mono (by have := E12.len; omega)
    have w := dif_ok o2.good (o2.dn.lits _ _ h1) (o2.dn.lits _ _ o2.here) (o2.dn.is_ _ _ h1) (o2.dn.is_ _ _ o2.here) hs2 32 (Nat.le_refl _)
    generalize diff1 x.2 y.2 y.1.1 s 32 = q at *
    have ih := pairs_ok hG hf ps q.1 y.1.2 q.2 (fun p hq => hp p (List.mem_cons_of_mem _ hq)) (fun p hq => hM p (List.mem_cons_of_mem _ hq)) w.good (o2.dn.ext w.ext) w.lits
    generalize pairsF f ts ps q.1 y.1.2 q.2 = r at *
    refine ⟨E12.trans (w.ext.trans ih.ext), ih.good, ih.dn, ih.lits, ?_, ?_, fun z => ?_, fun g hgm h0 => ?_, fun m l h => ih.mono m l (o2.mono m l (o1.mono m l h)), fun t ht => ?_⟩
    · have := o1.len; have := o2.len; have := w.len; have := ih.len
      rw [List.length_cons]
      omega
    · have := w.slen; have := ih.slen
      rw [List.length_cons]
      omega
    · rw [ih.val z, w.val z, difB_all (ev_lt hG (cl_lt z) _ p1) (ev_lt hG (cl_lt z) _ p2), anyL_ext E12 hs, Bool.or_assoc]
      rfl
    · rcases ih.inp g hgm h0 with h | h
      · rcases o2.inp g (w.inp g h h0) h0 with h | h
        · exact o1.inp g h h0
        · exact Or.inr h
      · exact Or.inr h
    · rcases List.mem_cons.1 ht with rfl | h
      · exact ⟨by rw [ih.mono _ _ h1]; rfl, by rw [ih.mono _ _ o2.here]; rfl⟩
      · exact ih.all t h
/-- The registers that pairs need. -/
def maskP (ts : List Term) : List (Nat × Nat) → Nat
  | [] => 0
  | p :: ps => (vr ts p.1 ||| vr ts p.2) ||| maskP ts ps
theorem maskP_bit (ts : List Term) (r : Nat) : ∀ ps : List (Nat × Nat), (maskP ts ps).testBit r = true ↔ ∃ p, p ∈ ps ∧ ((vr ts p.1).testBit r = true ∨ (vr ts p.2).testBit r = true)
  | [] => by simp [maskP]
  | p :: ps => by
    show ((vr ts p.1 ||| vr ts p.2) ||| maskP ts ps).testBit r = true ↔ _
    rw [Nat.testBit_or, Nat.testBit_or, Bool.or_eq_true, Bool.or_eq_true, maskP_bit ts r ps]
    constructor
    · rintro (h | ⟨q, h1, h2⟩)
      · exact ⟨p, List.mem_cons_self, h⟩
      · exact ⟨q, List.mem_cons_of_mem _ h1, h2⟩
    · rintro ⟨q, h1, h2⟩
      rcases List.mem_cons.1 h1 with rfl | h1
      · exact Or.inl h2
      · exact Or.inr ⟨q, h1, h2⟩
/-- A query: its gates, and the literals of which one is. -/
def queryF (ts : List Term) (ps : List (Nat × Nat)) : (List Gate × Dn) × List Int := pairsF (ts.length + 1) ts ps [] (fun _ => none) []
def queryC (gs : List Gate) (s : List Int) : List (List Int) := [1] :: (gclauses gs 2 ++ [s])
structure QueryOk (ts : List Term) (ps : List (Nat × Nat)) (gs : List Gate) (s : List Int) : Prop where mk_ ::
  good : GGood gs
  lits : ∀ l, l ∈ s → Lit (gs.length + 1) l
  len : gs.length ≤ 480 * ts.length + 32 * ps.length
  slen : s.length ≤ 32 * ps.length
  val : ∀ x, anyL x gs s = difP ts (cl x) ps
  inp : ∀ g, g ∈ gs → g.kd = 0 → (maskP ts ps).testBit g.a.toNat = true
  all : ∀ r, (maskP ts ps).testBit r = true → ∀ i, i < 32 → (⟨0, (r : Nat), (i : Nat)⟩ : Gate) ∈ gs
theorem query_ok {ts : List Term} (hG : Good ts) {ps : List (Nat × Nat)} (hp : ∀ p, p ∈ ps → p.1 < ts.length ∧ p.2 < ts.length ∧ hardB ts p.1 = false ∧ hardB ts p.2 = false) : QueryOk ts ps (queryF ts ps).1.1 (queryF ts ps).2 := by
  have h := pairs_ok hG (M := maskP ts ps) (f := ts.length + 1) (by omega) ps [] (fun _ => none) [] hp (fun p hp r => ⟨fun h => (maskP_bit ts r ps).2 ⟨p, hp, Or.inl h⟩, fun h => (maskP_bit ts r ps).2 ⟨p, hp, Or.inr h⟩⟩) GGood.nil ⟨fun n l h => (by cases h), fun n l h => (by cases h), fun n l h => (by cases h), fun n l h => (by cases h)⟩ (fun l h => (by cases h))
  unfold queryF
  generalize pairsF (ts.length + 1) ts ps [] (fun _ => none) [] = r at *
  refine ⟨h.good, h.lits, ?_, by have := h.slen; simpa using this, fun x => by rw [h.val x]; rfl, fun g h1 h2 => ?_, fun q hq i hi => ?_⟩
  · have := h.len
    have := cntD_le ts r.1.2
    have h0 : cntD ts (fun _ => none) = 0 := by unfold cntD; simp
    simp only [List.length_nil] at *
    omega
  · rcases h.inp g h1 h2 with h | h
    · cases h
    · exact h
  · obtain ⟨p, hpm, hr⟩ := (maskP_bit ts q ps).1 hq
    obtain ⟨a1, a2⟩ := h.all p hpm
    rcases hr with hr | hr
    · obtain ⟨l, hl⟩ := Option.isSome_iff_exists.1 a1
      exact h.dn.all _ _ hl q hr i hi
    · obtain ⟨l, hl⟩ := Option.isSome_iff_exists.1 a2
      exact h.dn.all _ _ hl q hr i hi
section
variable {ts : List Term} {ps : List (Nat × Nat)} {gs : List Gate} {s : List Int} (h : QueryOk ts ps gs s)
include h
/-- With registers' values the clauses hold just where a pair differs. -/
theorem QueryOk.vals (x : Nat → Nat) : allT (Go.Proofs.Ytgnahjadjgjecaa.vals x gs) (queryC gs s) = difP ts (cl x) ps := by
  unfold queryC allT
  rw [List.all_cons, List.all_append]
  have h1 : clauseT (Go.Proofs.Ytgnahjadjgjecaa.vals x gs) [1] = true := by
    have := lv_one x gs
    unfold lv at this
    unfold clauseT
    simp [this]
  have h2 := vals_holds h.good x
  unfold allT at h2
  rw [h1, h2, Bool.true_and, Bool.true_and]
  have := h.val x
  unfold anyL at this
  rw [← this]
  simp [clauseT]
  rfl
theorem QueryOk.regs_lt (vs : List Bool) (r : Nat) : regsOf vs gs r < 4294967296 := by
  show _ < 2 ^ 32
  apply Nat.lt_pow_two_of_testBit
  intro b hb
  cases e : (regsOf vs gs r).testBit b
  · rfl
  · exfalso
    unfold regsOf at e
    obtain ⟨i, g, h1, h2, h3, h4, h5⟩ := (regsF_bit vs gs 2 r b).1 e
    rcases h.good.all i g h1 with ⟨_, _, _, _, h6⟩ | ⟨h6, _⟩
    · omega
    · omega
/-- Whatever values hold the clauses: of their registers a pair differs. -/
theorem QueryOk.holds {vs : List Bool} (hl : vs.length = gs.length + 1) (hc : allT vs (queryC gs s) = true) : difP ts (regsOf vs gs) ps = true := by
  have hc0 := hc
  unfold queryC allT at hc
  rw [List.all_cons, List.all_append, Bool.and_eq_true, Bool.and_eq_true] at hc
  obtain ⟨c1, c2, _⟩ := hc
  have h1 : so vs 1 = true := by simpa [clauseT] using c1
  have hv := holds_vals h.good hl h1 c2
  have := h.vals (regsOf vs gs)
  rw [← hv, hc0, cl_of (h.regs_lt vs)] at this
  exact this.symm
/-- The registers that the values of registers tell: those that the terms need. -/
theorem QueryOk.only {x : Nat → Nat} (hx : ∀ r, x r < 4294967296) (r : Nat) : regsOf (Go.Proofs.Ytgnahjadjgjecaa.vals x gs) gs r = if (maskP ts ps).testBit r = true then x r else 0 := by
  apply Nat.eq_of_testBit_eq
  intro b
  rw [Bool.eq_iff_iff]
  have hgv : ∀ (i : Nat) (g : Gate), gs[i]? = some g → g.kd = 0 → so (Go.Proofs.Ytgnahjadjgjecaa.vals x gs) ((2 + i : Nat) : Int) = (x g.a.toNat).testBit g.b.toNat := fun i g h1 h2 => by
    have := lv_at (x := x) h1
    unfold lv gv at this
    rw [if_pos h2] at this
    rw [show ((2 + i : Nat) : Int) = (i : Int) + 2 by omega]
    exact this
  unfold regsOf
  rw [regsF_bit]
  constructor
  · rintro ⟨i, g, h1, h2, h3, h4, h5⟩
    rw [hgv i g h1 h2, h3, h4, Int.toNat_natCast] at h5
    have := h.inp g (List.mem_of_getElem? h1) h2
    rw [h3, Int.toNat_natCast] at this
    rw [if_pos this]
    exact h5
  · intro hb
    by_cases hm : (maskP ts ps).testBit r = true
    · rw [if_pos hm] at hb
      have hb32 : b < 32 := by
        by_cases hb32 : b < 32
        · exact hb32
        · rw [Nat.testBit_lt_two_pow (Nat.lt_of_lt_of_le (hx r) (Nat.pow_le_pow_right (n := 2) (by omega) (by omega) : 2 ^ 32 ≤ 2 ^ b))] at hb
          cases hb
      obtain ⟨i, hi, e⟩ := List.mem_iff_getElem.1 (h.all r hm b hb32)
      have hg : gs[i]? = some ⟨0, (r : Nat), (b : Nat)⟩ := by rw [List.getElem?_eq_getElem hi, e]
      refine ⟨i, _, hg, rfl, rfl, by simp, ?_⟩
      rw [hgv i _ hg rfl]
      simpa using hb
    · rw [if_neg hm, Nat.zero_testBit] at hb
      cases hb
/-- Registers that the terms do not need make no difference to the values. -/
theorem QueryOk.same {x y : Nat → Nat} (hxy : ∀ r, (maskP ts ps).testBit r = true → x r = y r) : Go.Proofs.Ytgnahjadjgjecaa.vals x gs = Go.Proofs.Ytgnahjadjgjecaa.vals y gs := by
  have key : ∀ i, i ≤ gs.length → Go.Proofs.Ytgnahjadjgjecaa.vals x (gs.take i) = Go.Proofs.Ytgnahjadjgjecaa.vals y (gs.take i) := by
    intro i
    induction i with
    | zero => intro _; rfl
    | succ i ih =>
      intro hi
      have hi' : i < gs.length := by omega
      rw [List.take_succ_eq_append_getElem hi', vals_snoc, vals_snoc, ih (by omega)]
      congr 2
      unfold gv
      by_cases h0 : gs[i].kd = 0
      · rw [if_pos h0, if_pos h0, hxy _ (h.inp _ (List.getElem_mem hi') h0)]
      · rw [if_neg h0, if_neg h0]
  have := key gs.length (Nat.le_refl _)
  rwa [List.take_length] at this
end
end Go.Proofs.Ytgnahjadjgjecaa
set_option linter.unusedVariables false
set_option linter.unusedSimpArgs false
namespace Go.Proofs.Ytgnahjadjgjecaa

/-- The set behind a call; whether it found one. -/
def needF : Nat → List Term → Nat → (Nat → Bool) → (Nat → Bool) × Bool
  | 0, _, _, S => (S, false)
  | f + 1, ts, n, S =>
    if ((ts.getD n default).k = 2 ∧ S n = false) then
      if 37 ≤ (ts.getD n default).op then (putS S n, true)
      else if (needF f ts (ts.getD n default).a (putS S n)).2 = true then ((needF f ts (ts.getD n default).a (putS S n)).1, true)
      else needF f ts (ts.getD n default).b (needF f ts (ts.getD n default).a (putS S n)).1
    else (S, false)
structure NeedOk (ts : List Term) (n : Nat) (S : Nat → Bool) (r : (Nat → Bool) × Bool) : Prop where mk_ ::
  hard : r.2 = hardB ts n
  soft : r.2 = false → ∀ m, m ≤ n → r.1 m = true → hardB ts m = false
  sub : ∀ m, S m = true → r.1 m = true
  new : ∀ m, r.1 m = true → m ≤ n ∨ S m = true
theorem need_ok {ts : List Term} (hG : Good ts) : ∀ (f n : Nat) (S : Nat → Bool), n < f → n < ts.length → (∀ m, m ≤ n → S m = true → hardB ts m = false) → NeedOk ts n S (needF f ts n S)
  | 0, _, _, h, _, _ => by omega
  | f + 1, n, S, hf, hn, hS => by
    unfold needF
    by_cases hk : (ts.getD n default).k = 2 ∧ S n = false
    · rw [if_pos hk]
      obtain ⟨hk, hs⟩ := hk
      obtain ⟨_, ha, hb, _⟩ := hG.op_at hn hk
      have hh := hardB_op hG hn hk
      generalize (ts.getD n default).a = a at *
      generalize (ts.getD n default).b = b at *
      by_cases h37 : 37 ≤ (ts.getD n default).op
      · rw [if_pos h37]
        rw [decide_eq_true h37, Bool.true_or, Bool.true_or] at hh
        exact ⟨hh.symm, fun h => (by cases h), fun m hm => putS_of hm, fun m hm => by
          have hm : putS S n m = true := hm
          unfold putS at hm
          split at hm
          · left; omega
          · exact Or.inr hm⟩
      · rw [if_neg h37]
        rw [decide_eq_false h37, Bool.false_or] at hh
        have h1 := need_ok hG f a (putS S n) (by omega) (by omega) (fun m hm hs => by unfold putS at hs; rw [if_neg (by omega)] at hs; exact hS m (by omega) hs)
        generalize needF f ts a (putS S n) = r1 at h1
        obtain ⟨h1a, h1b, h1c, h1d⟩ := h1
        have hsub : ∀ m, S m = true → r1.1 m = true := fun m hm => h1c m (putS_of hm)
        have hnew : ∀ m, r1.1 m = true → m ≤ n ∨ S m = true := fun m hm => by
          rcases h1d m hm with h | h
          · left; omega
          · unfold putS at h
            split at h
            · left; omega
            · exact Or.inr h
        by_cases hr : r1.2 = true
        · rw [if_pos hr]
          exact ⟨by rw [hh, ← h1a, hr]; rfl, fun h => (by cases h), hsub, hnew⟩
        · rw [if_neg hr]
          rw [Bool.not_eq_true] at hr
          have hb1 : ∀ m, m < n → r1.1 m = true → hardB ts m = false := fun m hm hs => by
            by_cases hma : m ≤ a
            · exact h1b hr m hma hs
            · rcases h1d m hs with h | h
              · omega
              · unfold putS at h
                rw [if_neg (by omega)] at h
                exact hS m (by omega) h
          have h2 := need_ok hG f b r1.1 (by omega) (by omega) (fun m hm hs => hb1 m (by omega) hs)
          generalize needF f ts b r1.1 = r2 at h2
          obtain ⟨h2a, h2b, h2c, h2d⟩ := h2
          have hh2 : r2.2 = hardB ts n := by rw [hh, ← h1a, hr, Bool.false_or]; exact h2a
          refine ⟨hh2, fun h m hm hs => ?_, fun m hm => h2c m (hsub m hm), fun m hm => ?_⟩
          · by_cases hmn : m = n
            · rw [hmn, ← hh2, h]
            · by_cases hmb : m ≤ b
              · exact h2b h m hmb hs
              · rcases h2d m hs with h' | h'
                · omega
                · exact hb1 m (by omega) h'
          · rcases h2d m hm with h' | h'
            · left; omega
            · exact hnew m h'
    · rw [if_neg hk]
      have hh : hardB ts n = false := by
        by_cases hk2 : (ts.getD n default).k = 2
        · cases hs : S n
          · exact absurd ⟨hk2, hs⟩ hk
          · exact hS n (Nat.le_refl _) hs
        · exact hardB_leaf hk2
      exact ⟨hh.symm, fun _ m hm hs => hS m hm hs, fun m hm => hm, fun m hm => Or.inr hm⟩
/-- All of some numbers' terms, one behind the other. -/
def needsF (ts : List Term) : List Nat → (Nat → Bool) → (Nat → Bool) × Bool
  | [], S => (S, false)
  | n :: l, S => if (needF (n + 1) ts n S).2 = true then needF (n + 1) ts n S else needsF ts l (needF (n + 1) ts n S).1
/-- All of some numbers' terms are looked at: none is hard just if none was found. -/
theorem needs_ok {ts : List Term} (hG : Good ts) : ∀ (l : List Nat) (S : Nat → Bool), (∀ n, n ∈ l → n < ts.length) → (∀ m, S m = true → hardB ts m = false) → (needsF ts l S).2 = l.any (hardB ts) ∧ ((needsF ts l S).2 = false → ∀ m, (needsF ts l S).1 m = true → hardB ts m = false)
  | [], S, _, hS => ⟨rfl, fun _ => hS⟩
  | n :: l, S, hl, hS => by
    have h := need_ok hG (n + 1) n S (by omega) (hl n List.mem_cons_self) (fun m _ hs => hS m hs)
    unfold needsF
    rw [List.any_cons]
    generalize needF (n + 1) ts n S = r at h
    obtain ⟨h1, h2, h3, h4⟩ := h
    by_cases hr : r.2 = true
    · rw [if_pos hr, ← h1, hr]
      exact ⟨rfl, fun h => (by cases h)⟩
    · rw [if_neg hr]
      rw [Bool.not_eq_true] at hr
      rw [← h1, hr, Bool.false_or]
      refine needs_ok hG l r.1 (fun m hm => hl m (List.mem_cons_of_mem _ hm)) fun m hm => ?_
      rcases h4 m hm with h | h
      · exact h2 hr m h hm
      · exact hS m h
end Go.Proofs.Ytgnahjadjgjecaa
