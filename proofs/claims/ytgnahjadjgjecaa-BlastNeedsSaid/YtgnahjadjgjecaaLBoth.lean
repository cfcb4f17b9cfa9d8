/- A Dag and the reference's, side by side. -/
import Derived.Test.YtgnahjadjgjecaaRDag2
set_option linter.unusedVariables false
set_option linter.unusedSimpArgs false
namespace Go.Proofs.Ytgnahjadjgjecaa
open Go.RowKit Go.Maps Go.MapKept

theorem own_kept {α : Type} {B e n : Nat} {enc : α → List Value} {w w' : World} {v : Value} {xs : List α} (h : OwnN B e n enc w v xs) (hk : ∀ g, v.ownBlock = some g → w'.heap[g]? = w.heap[g]?) : OwnN B e n enc w' v xs := by
  refine ⟨h.1, ?_⟩
  rcases h.2 with hl | ⟨g, cap, cur, rfl, hg, hh, r⟩
  · exact Or.inl hl
  · exact Or.inr ⟨g, cap, cur, rfl, hg, (hk g rfl).trans hh, r⟩
/-- A Dag stays where none of its blocks turns. -/
theorem DagAt.move {K S : Nat → Prop} {w w' : World} {b : Nat} {ts : List Term} (h : DagAt K w b ts) (hk : Kept S w w') (hS : ∀ i, i < w.heap.size → ¬ K i → S i) : DagAt (More K w w') w' b ts := by
  obtain ⟨vl, u, vm, h1, h2, h3, h4, h5, h6, h7, h8⟩ := h.out
  have hnot : ∀ i, i < w.heap.size → ¬ K i → ¬ More K w w' i := fun i hi hk => by rintro (h | h); exact hk h; omega
  have hlt := h.lt
  refine ⟨vl, u, vm, (hk.block b hlt (hS b hlt h4)).trans h1, own_kept h2 fun g hg => ?_, fun g hg => ?_, hnot b hlt h4, ?_, ?_, h7, h8⟩
  · obtain ⟨_, cur, hc⟩ := h2.typed hg
    have hgl := (Array.getElem?_eq_some_iff.1 hc).1
    exact hk.block g hgl (hS g hgl (h3 g hg))
  · obtain ⟨_, cur, hc⟩ := h2.typed hg
    exact hnot g (Array.getElem?_eq_some_iff.1 hc).1 (h3 g hg)
  · rcases h5 with h5 | ⟨hu, m, hm, hma, hkm⟩
    · exact Or.inl h5
    · exact Or.inr ⟨hu, m, hm, hma.block (hk.block m hma.lt (hS m hma.lt hkm)), hnot m hma.lt hkm⟩
  · rintro i (h | h)
    · exact Nat.lt_of_lt_of_le (h6 i h) hk.size
    · exact h.2
structure BothX (K0 K : Nat → Prop) (vl : Value) (w : World) (d k : Nat) (ts us : List Term) : Prop where
  dag : DagAt K w d ts
  ref : RefAt w k vl us
  kk : K k
  kv : ∀ g, vl.ownBlock = some g → K g
  sub : ∀ i, K0 i → K i
  nk : ¬ K0 k
  nv : ∀ g, vl.ownBlock = some g → ¬ K0 g
/-- A Dag at d with the terms ts, a reference's at k with us; none of their blocks is in K0. -/
def BothM (K0 : Nat → Prop) (w : World) (d k : Nat) (ts us : List Term) : Prop := ∃ K vl, BothX K0 K vl w d k ts us
theorem BothM.in_ {K0 : Nat → Prop} {w : World} {d k : Nat} {ts us : List Term} (h : BothM K0 w d k ts us) : ∀ i, K0 i → i < w.heap.size := by
  obtain ⟨K, vl, h⟩ := h
  exact fun i hi => h.dag.in_ i (h.sub i hi)
theorem BothM.mono {K0 K1 : Nat → Prop} {w : World} {d k : Nat} {ts us : List Term} (h : BothM K0 w d k ts us) (hk : ∀ i, K1 i → K0 i) : BothM K1 w d k ts us := by
  obtain ⟨K, vl, h⟩ := h
  exact ⟨K, vl, h.dag, h.ref, h.kk, h.kv, fun i hi => h.sub i (hk i hi), fun hi => h.nk (hk k hi), fun g hg hi => h.nv g hg (hk g hi)⟩
theorem RefAt.klt {w : World} {k : Nat} {vl : Value} {ts : List Term} (h : RefAt w k vl ts) : k < w.heap.size := (Array.getElem?_eq_some_iff.1 h.hb).1
theorem RefAt.vlt {w : World} {k : Nat} {vl : Value} {ts : List Term} (h : RefAt w k vl ts) {g : Nat} (hg : vl.ownBlock = some g) : g < w.heap.size := by
  obtain ⟨_, cur, hc⟩ := h.l.typed hg
  exact (Array.getElem?_eq_some_iff.1 hc).1
theorem BothM.more {K0 : Nat → Prop} {w w' : World} {d k : Nat} {ts us : List Term} (h : BothM K0 w d k ts us) (hb : Below w.heap.size w w') : BothM (More K0 w w') w' d k ts us := by
  obtain ⟨K, vl, h⟩ := h
  refine ⟨More K w w', vl, h.dag.more hb, h.ref.below hb, Or.inl h.kk, fun g hg => Or.inl (h.kv g hg), ?_, ?_, fun g hg => ?_⟩
  · rintro i (hi | hi)
    · exact Or.inl (h.sub i hi)
    · exact Or.inr hi
  · rintro (hi | hi)
    · exact h.nk hi
    · have := h.ref.klt; omega
  · rintro (hi | hi)
    · exact h.nv g hg hi
    · have := h.ref.vlt hg; omega
theorem BothM.below {K0 : Nat → Prop} {w w' : World} {d k : Nat} {ts us : List Term} (h : BothM K0 w d k ts us) (hb : Below w.heap.size w w') : BothM K0 w' d k ts us := (h.more hb).mono fun i hi => Or.inl hi
/-- A call on the Dag. -/
theorem BothM.dag_step {K0 : Nat → Prop} {w w' : World} {d k : Nat} {ts us ts' : List Term} {K : Nat → Prop} {vl : Value} (h : BothX K0 K vl w d k ts us) (hd : DagAt K w' d ts') (hk : Kept K w w') : BothM K0 w' d k ts' us ∧ Kept K0 w w' :=
  ⟨⟨K, vl, hd, h.ref.kept hk h.kk h.kv, h.kk, h.kv, h.sub, h.nk, h.nv⟩, hk.mono h.sub⟩
/-- A call on the reference's. -/
theorem BothM.ref_step {K0 : Nat → Prop} {w w' : World} {d k : Nat} {ts us us' : List Term} {K : Nat → Prop} {vl : Value} (h : BothX K0 K vl w d k ts us) (hr : RAdd w k vl us' w') : BothM K0 w' d k ts us' ∧ Kept K0 w w' := by
  obtain ⟨vl', h1, h2⟩ := hr.out
  have hk0 : ∀ i, K0 i → i ≠ k ∧ vl.ownBlock ≠ some i := fun i hi => ⟨by rintro rfl; exact h.nk hi, fun e => h.nv i e hi⟩
  refine ⟨⟨More K w w', vl', h.dag.move hr.kept fun i _ hn => ⟨by rintro rfl; exact hn h.kk, fun e => hn (h.kv i e)⟩, h1, Or.inl h.kk, fun g hg => ?_, fun i hi => Or.inl (h.sub i hi), h.nk, fun g hg => ?_⟩, hr.kept.mono hk0⟩
  · rcases h2 with h2 | ⟨g', h2, h3⟩
    · exact Or.inl (h.kv g (by rw [← h2]; exact hg))
    · rw [hg] at h2
      injection h2 with h2
      subst h2
      exact Or.inr ⟨h3, h1.vlt hg⟩
  · rcases h2 with h2 | ⟨g', h2, h3⟩
    · exact h.nv g (by rw [← h2]; exact hg)
    · rw [hg] at h2
      injection h2 with h2
      subst h2
      intro hi
      have := h.dag.in_ _ (h.sub _ hi)
      omega
section
variable {K0 : Nat → Prop} {w : World} {d k : Nat} {ts us : List Term} (h : BothM K0 w d k ts us)
include h
theorem both_const (v : Nat) (hv : v < 4294967296) (hl : ts.length < 1000000000000) : Calls Try.prog 26 #[.pointer (some ⟨d, 0, none⟩), .int .u32 v] w fun r w' => r = .returned (.int .i64 (pos ts (constT v) : Nat)) ∧ BothM K0 w' d k (ins ts (constT v)) us ∧ Kept K0 w w' := by
  obtain ⟨K, vl, h⟩ := h
  exact (const_any K d v ts hv hl w h.dag).mono fun r w' ⟨e, h1, h2⟩ => ⟨e, BothM.dag_step h h1 h2⟩
theorem both_var (r : Nat) (hr : r < 32) (hl : ts.length < 1000000000000) : Calls Try.prog 16 #[.pointer (some ⟨d, 0, none⟩), .int .i64 r] w fun e w' => e = .returned (.tuple #[.int .i64 (pos ts (varTm r) : Nat), .int .i64 0]) ∧ BothM K0 w' d k (ins ts (varTm r)) us ∧ Kept K0 w w' := by
  obtain ⟨K, vl, h⟩ := h
  exact (var_any K d r ts hr hl w h.dag).mono fun r w' ⟨e, h1, h2⟩ => ⟨e, BothM.dag_step h h1 h2⟩
theorem both_op (op x y : Nat) (hx : x < ts.length) (hy : y < ts.length) (ho : (doW op 0 0).isSome = true) (hl : ts.length < 1000000000000) : Calls Try.prog 17 #[.pointer (some ⟨d, 0, none⟩), .int .i64 op, .int .i64 x, .int .i64 y] w fun e w' =>
    e = .returned (.tuple #[.int .i64 (pos ts (opT op x y) : Nat), .int .i64 0]) ∧ BothM K0 w' d k (ins ts (opT op x y)) us ∧ Kept K0 w w' := by
  obtain ⟨K, vl, h⟩ := h
  exact (op_any K d op x y ts hl hx hy ho w h.dag).mono fun r w' ⟨e, h1, h2⟩ => ⟨e, BothM.dag_step h h1 h2⟩
theorem both_op_no (op x y : Int) (hn : (inR x ts.length && inR y ts.length) = false) (hl : ts.length < 1000000000000) : Calls Try.prog 17 #[.pointer (some ⟨d, 0, none⟩), .int .i64 op, .int .i64 x, .int .i64 y] w fun e w' => e = .returned (.tuple #[.int .i64 0, .int .i64 100]) ∧ w = w' := by
  obtain ⟨K, vl, h⟩ := h
  exact op_no K d op x y ts hl hn w h.dag
theorem both_op_bad (op x y : Int) (hx : inR x ts.length = true) (hy : inR y ts.length = true) (ho : opOk op = false) (hl : ts.length < 1000000000000) : Calls Try.prog 17 #[.pointer (some ⟨d, 0, none⟩), .int .i64 op, .int .i64 x, .int .i64 y] w fun e w' => e = .returned (.tuple #[.int .i64 0, .int .i64 1]) ∧ w = w' := by
  obtain ⟨K, vl, h⟩ := h
  exact op_bad K d op x y ts hl hx hy ho w h.dag
theorem both_rconst (v : Nat) (hv : v < 4294967296) (hl : us.length < 1000000000000) : Calls Try.prog 43 #[.pointer (some ⟨k, 0, none⟩), .int .u32 v] w fun r w' => r = .returned (.int .i64 (pos us (constT v) : Nat)) ∧ BothM K0 w' d k ts (ins us (constT v)) ∧ Kept K0 w w' := by
  obtain ⟨K, vl, h⟩ := h
  exact (rconst_any k vl us w h.ref hl v hv).mono fun r w' ⟨e, h1⟩ => ⟨e, BothM.ref_step h h1⟩
theorem both_rvar (r : Nat) (hr : r < 32) (hl : us.length < 1000000000000) : Calls Try.prog 44 #[.pointer (some ⟨k, 0, none⟩), .int .i64 r] w fun e w' => e = .returned (.tuple #[.int .i64 (pos us (varTm r) : Nat), .int .i64 0]) ∧ BothM K0 w' d k ts (ins us (varTm r)) ∧ Kept K0 w w' := by
  obtain ⟨K, vl, h⟩ := h
  exact (rvar_any k vl us w h.ref hl r hr).mono fun r w' ⟨e, h1⟩ => ⟨e, BothM.ref_step h h1⟩
theorem both_rop (op x y : Nat) (hx : x < us.length) (hy : y < us.length) (ho : (doW op 0 0).isSome = true) (hl : us.length < 1000000000000) : Calls Try.prog 45 #[.pointer (some ⟨k, 0, none⟩), .int .i64 op, .int .i64 x, .int .i64 y] w fun e w' =>
    e = .returned (.tuple #[.int .i64 (pos us (opT op x y) : Nat), .int .i64 0]) ∧ BothM K0 w' d k ts (ins us (opT op x y)) ∧ Kept K0 w w' := by
  obtain ⟨K, vl, h⟩ := h
  exact (rop_any k vl us w h.ref hl op x y hx hy ho).mono fun r w' ⟨e, h1⟩ => ⟨e, BothM.ref_step h h1⟩
theorem both_rop_no (op x y : Int) (hn : (inR x us.length && inR y us.length) = false) : Calls Try.prog 45 #[.pointer (some ⟨k, 0, none⟩), .int .i64 op, .int .i64 x, .int .i64 y] w fun e w' => e = .returned (.tuple #[.int .i64 0, .int .i64 100]) ∧ w = w' := by
  obtain ⟨K, vl, h⟩ := h
  exact rop_no k vl us w h.ref op x y hn
theorem both_rop_bad (op : Int) (x y : Nat) (hx : x < us.length) (hy : y < us.length) (ho : opOk op = false) : Calls Try.prog 45 #[.pointer (some ⟨k, 0, none⟩), .int .i64 op, .int .i64 x, .int .i64 y] w fun e w' => e = .returned (.tuple #[.int .i64 0, .int .i64 1]) ∧ w = w' := by
  obtain ⟨K, vl, h⟩ := h
  exact rop_bad k vl us w h.ref op x y hx hy ho
end
end Go.Proofs.Ytgnahjadjgjecaa
