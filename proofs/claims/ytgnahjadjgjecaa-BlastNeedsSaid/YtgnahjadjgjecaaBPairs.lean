/- blast: a term's literals. -/
/- blast: a query's pairs, one behind the other. -/
import Derived.Test.YtgnahjadjgjecaaBTermB
import Derived.Test.YtgnahjadjgjecaaBTermC
import Derived.Test.YtgnahjadjgjecaaBCheckW
import Derived.Test.YtgnahjadjgjecaaBHard
set_option linter.unusedVariables false
set_option linter.unusedSimpArgs false
namespace Go.Proofs.Ytgnahjadjgjecaa
open Go.RowKit Go.Maps Go.MapKept

theorem term_any : ∀ f, TermSpec f
  | 0 => fun K Kd m b q bl ts gs d n L w hnf hn hh hT hI => absurd hnf (Nat.not_lt_zero _)
  | f + 1 => fun K Kd m b q bl ts gs d n L w hnf hn hh hT hI => by
    cases hd : d n with
    | some l => exact term_hit f K Kd m b q bl ts gs d n L w hnf hn hh hT hI l hd
    | none =>
      rcases hT.good.at_ hn default with ⟨v, hv, e⟩ | ⟨r, _, hr, e⟩ | ⟨op, p, s, h1, h2, h3, e⟩
      · exact term_const f K Kd m b q bl ts gs d n L w hnf hn hh hT hI v hv hd e
      · exact term_var f K Kd m b q bl ts gs d n L w hnf hn hh hT hI r hr hd e
      · exact term_op f (term_any f) K Kd m b q bl ts gs d n L w hnf hn hh hT hI op p s h1 h2 h3 hd e
end Go.Proofs.Ytgnahjadjgjecaa
set_option linter.unusedVariables false
set_option linter.unusedSimpArgs false
namespace Go.Proofs.Ytgnahjadjgjecaa
open Go.RowKit Go.Maps Go.MapKept

def stepP (f : Nat) (ts : List Term) (p : Nat × Nat) (r : (List Gate × Dn) × List Int) : (List Gate × Dn) × List Int :=
  ((((diff1 (termF f ts r.1.1 r.1.2 p.1).2 (termF f ts (termF f ts r.1.1 r.1.2 p.1).1.1 (termF f ts r.1.1 r.1.2 p.1).1.2 p.2).2 (termF f ts (termF f ts r.1.1 r.1.2 p.1).1.1 (termF f ts r.1.1 r.1.2 p.1).1.2 p.2).1.1 r.2 32).1, (termF f ts (termF f ts r.1.1 r.1.2 p.1).1.1 (termF f ts r.1.1 r.1.2 p.1).1.2 p.2).1.2)),
    (diff1 (termF f ts r.1.1 r.1.2 p.1).2 (termF f ts (termF f ts r.1.1 r.1.2 p.1).1.1 (termF f ts r.1.1 r.1.2 p.1).1.2 p.2).2 (termF f ts (termF f ts r.1.1 r.1.2 p.1).1.1 (termF f ts r.1.1 r.1.2 p.1).1.2 p.2).1.1 r.2 32).2)
theorem stepP_eq {f : Nat} {ts : List Term} {p : Nat × Nat} {r : (List Gate × Dn) × List Int} {x y : (List Gate × Dn) × (Nat → Int)} {z : List Gate × List Int} (h1 : termF f ts r.1.1 r.1.2 p.1 = x) (h2 : termF f ts x.1.1 x.1.2 p.2 = y) (h3 : diff1 x.2 y.2 y.1.1 r.2 32 = z) : stepP f ts p r = ((z.1, y.1.2), z.2) := by
  subst h1 h2 h3
  rfl
theorem pairsF_append (f : Nat) (ts : List Term) (p : Nat × Nat) : ∀ (l : List (Nat × Nat)) (gs : List Gate) (d : Dn) (s : List Int), pairsF f ts (l ++ [p]) gs d s = stepP f ts p (pairsF f ts l gs d s)
  | [], gs, d, s => rfl
  | q :: l, gs, d, s => pairsF_append f ts p l _ _ _
def stJ (ts : List Term) (ps : List (Nat × Nat)) (j : Nat) : (List Gate × Dn) × List Int := pairsF (ts.length + 1) ts (ps.take j) [] (fun _ => none) []
theorem stJ_succ {ts : List Term} {ps : List (Nat × Nat)} {j : Nat} (hj : j < ps.length) : stJ ts ps (j + 1) = stepP (ts.length + 1) ts ps[j] (stJ ts ps j) := by
  unfold stJ
  rw [List.take_succ_eq_append_getElem hj]
  exact pairsF_append _ _ _ _ _ _ _
theorem stJ_all (ts : List Term) (ps : List (Nat × Nat)) : stJ ts ps ps.length = queryF ts ps := by unfold stJ queryF; rw [List.take_length]
def prs (ax bx : List Int) : List (Nat × Nat) := (List.range ax.length).map fun j => ((ax.getD j 0).toNat, (bx.getD j 0).toNat)
theorem prs_len (ax bx : List Int) : (prs ax bx).length = ax.length := by simp [prs]
theorem prs_at {ax bx : List Int} {j : Nat} (hj : j < (prs ax bx).length) : (prs ax bx)[j] = ((ax.getD j 0).toNat, (bx.getD j 0).toNat) := by simp [prs]
theorem chk_ok {ts : List Term} {ax bx : List Int} (h : chkO ts ax bx = 0) : ax.length = bx.length ∧ (∀ n, n ∈ ax ++ bx → inR n ts.length = true) ∧ ∀ n, n ∈ ax ++ bx → hardB ts n.toNat = false := by
  unfold chkO at h
  split at h
  · rename_i hl
    unfold chkL at h
    split at h
    · omega
    · rename_i h1
      split at h
      · omega
      · rename_i h2
        rw [List.any_eq_true] at h1 h2
        refine ⟨hl, fun n hn => ?_, fun n hn => ?_⟩
        · cases e : inR n ts.length
          · exact absurd ⟨n, hn, by rw [e]; rfl⟩ h1
          · rfl
        · cases e : hardB ts n.toNat
          · rfl
          · exact absurd ⟨n, hn, e⟩ h2
  · omega
theorem inR_toNat {n : Int} {len : Nat} (h : inR n len = true) : n.toNat < len ∧ n = (n.toNat : Int) := by
  obtain ⟨k, rfl, hk⟩ := inR_nat h
  exact ⟨by simpa using hk, by simp⟩
theorem prs_mem {ax bx : List Int} (hl : ax.length = bx.length) {p : Nat × Nat} (hp : p ∈ prs ax bx) : ∃ x y, x ∈ ax ++ bx ∧ y ∈ ax ++ bx ∧ p = (x.toNat, y.toNat) := by
  unfold prs at hp
  obtain ⟨j, hj, rfl⟩ := List.mem_map.1 hp
  have hj := List.mem_range.1 hj
  exact ⟨_, _, List.mem_append_left _ (getD_mem hj 0), List.mem_append_right _ (getD_mem (by omega) 0), rfl⟩
theorem prs_good {ts : List Term} {ax bx : List Int} (h : chkO ts ax bx = 0) : ∀ p, p ∈ prs ax bx → p.1 < ts.length ∧ p.2 < ts.length ∧ hardB ts p.1 = false ∧ hardB ts p.2 = false := by
  obtain ⟨h1, h2, h3⟩ := chk_ok h
  intro p hp
  obtain ⟨x, y, hx, hy, rfl⟩ := prs_mem h1 hp
  exact ⟨(inR_toNat (h2 x hx)).1, (inR_toNat (h2 y hy)).1, h3 x hx, h3 y hy⟩
section
variable {ts : List Term} {ax bx : List Int} (hG : Good ts) (h : chkO ts ax bx = 0)
include hG h
theorem stJ_ok (j : Nat) : PairsOk ts (maskP ts (prs ax bx)) ((prs ax bx).take j) [] (fun _ => none) [] (stJ ts (prs ax bx) j) := by
  have hg := prs_good h
  have hm : ∀ p, p ∈ (prs ax bx).take j → p ∈ prs ax bx := fun p hp => List.mem_of_mem_take hp
  exact pairs_ok hG (by omega) _ _ _ _ (fun p hp => hg p (hm p hp)) (fun p hp r => ⟨fun hr => (maskP_bit ts r _).2 ⟨p, hm p hp, Or.inl hr⟩, fun hr => (maskP_bit ts r _).2 ⟨p, hm p hp, Or.inr hr⟩⟩) GGood.nil
    ⟨fun n l h => (by cases h), fun n l h => (by cases h), fun n l h => (by cases h), fun n l h => (by cases h)⟩ (fun l hl => by cases hl)
theorem stJ_at (hts : ts.length ≤ 300) (hps : ax.length ≤ 100) (j : Nat) : TermAt ts (stJ ts (prs ax bx) j).1.1 (stJ ts (prs ax bx) j).1.2 (480 * ts.length + 32 * ax.length) ∧ (∀ l, l ∈ (stJ ts (prs ax bx) j).2 → Lit ((stJ ts (prs ax bx) j).1.1.length + 1) l) ∧ (stJ ts (prs ax bx) j).2.length ≤ 32 * ax.length := by
  have o := stJ_ok hG h j
  have hl := prs_len ax bx
  have h0 : cntD ts (fun _ => none) = 0 := by unfold cntD; simp
  have ht : ((prs ax bx).take j).length ≤ ax.length := by rw [List.length_take]; omega
  refine ⟨⟨hG, by omega, o.good, o.dn, ?_, by omega⟩, o.lits, ?_⟩
  · have := o.len
    rw [h0] at this
    simp only [List.length_nil] at this
    omega
  · have := o.slen
    simp only [List.length_nil] at this
    omega
end
theorem dif_some {gs : List Gate} (hg : GGood gs) {a b : Nat → Int} (ha : Lits gs a) (hb : Lits gs b) {s : List Int} (hs : ∀ l, l ∈ s → Lit (gs.length + 1) l) : ∃ A B : (Nat → Nat) → Nat, ∀ k, k ≤ 32 → DifOk gs s (diff1 a b gs s k) k A B := by
  obtain ⟨A, hA, _⟩ := is_some gs a
  obtain ⟨B, hB, _⟩ := is_some gs b
  exact ⟨A, B, dif_ok hg ha hb hA hB hs⟩
theorem wpList_pushB {α : Type} {P : Program} {ops : Array Oper} {rest : List Oper} {o : Oper} {a : Act} {Q : Exit → Act → World → Prop} {w0 W : World} (B : Nat) (hgd : o.guard = none) (s x : Operand) (t e : TypeId) (z : Value) (bytes : Nat)
    (ho : o.op = .call { callee := .builtin .append, args := #[s, x], argTypes := #[t, t] })
    (ht : P.underlying t = some (.slice e)) (hinfo : (P.info? e).map (fun i => (i.zero, i.size, i.bytes)) = some (some z, 1, bytes)) (hz : z.cells.size = 1) (hb0 : 0 < bytes)
    {R : Rep α} (T : List TypeId) {v : Value} {xs : List α} {y : Value} {y0 : α}
    (HO : Own B e R W v xs) (HR : Stable B T R) (he : e ∉ T) (hy : R W y y0) (hs : a.eval s = v) (hx : a.eval x = .slice (some ⟨W.heap.size, 0, none⟩) 1 1) (h1 : y.oneCell' = true) (HB : Below B w0 W) (hbase : B ≤ W.heap.size) (hl : (xs.length + 1) * bytes ≤ 140737488355328)
    (h : ∀ v1 w1, Own B e R w1 v1 (xs ++ [y0]) → Below B w0 w1 → W.grownBy w1 v.ownBlock → (v1.ownBlock = v.ownBlock ∨ ∃ g, v1.ownBlock = some g ∧ W.heap.size ≤ g) → wpList P ops Q rest (a.put o.dst v1) w1) :
    wpList P ops Q (o :: rest) a (W.alloc (.cells #[y] e)) :=
  wpList_plain hgd fun K hK => wp_pushB B s x t e z bytes ho ht hinfo hz hb0 T HO HR he hy hs hx h1 HB hbase hl fun v1 w1 h2 h3 h4 h5 => hK _ _ (h v1 w1 h2 h3 h4 h5)
/-- A query behind an append to a row that is none of its own. -/
theorem QAt.row {K : Nat → Prop} {w w' : World} {q : Nat} {gs : List Gate} {cs : List (List Int)} {v v' : Value} (h : QAt K w q gs cs) (hg : w.grownBy w' v.ownBlock) (hv : ∀ g, v.ownBlock = some g → K g) (hn : v'.ownBlock = v.ownBlock ∨ ∃ g, v'.ownBlock = some g ∧ w.heap.size ≤ g) (hin : ∀ g, v'.ownBlock = some g → g < w'.heap.size) :
    ∃ K' : Nat → Prop, QAt K' w' q gs cs ∧ (∀ i, K i → K' i) ∧ (∀ g, v'.ownBlock = some g → K' g) := by
  have hi := QAt.in_ h
  have hs := hg.size
  refine ⟨fun i => K i ∨ (w.heap.size ≤ i ∧ i < w'.heap.size), QAt.change h (S := fun i => ¬ v.ownBlock = some i) (Kept.grownO hg fun g e h => h e) (fun i _ hn e => hn (hv i e)) (fun i hi' => ?_) (fun i hlt hn hi' => ?_), fun i => Or.inl, fun g e => ?_⟩
  · rcases hi' with h | h
    · have := hi i h; omega
    · exact h.2
  · rcases hi' with h | h
    · exact hn h
    · omega
  · rcases hn with hn | ⟨g', hn, hle⟩
    · exact Or.inl (hv g (by rw [← hn]; exact e))
    · rw [e] at hn
      injection hn with hn
      exact Or.inr ⟨by omega, hin g e⟩
end Go.Proofs.Ytgnahjadjgjecaa
