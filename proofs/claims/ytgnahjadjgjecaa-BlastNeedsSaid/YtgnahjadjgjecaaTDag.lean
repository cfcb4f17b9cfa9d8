/- A Dag in memory, and a term's number. -/
import Derived.Test.YtgnahjadjgjecaaTBegun
set_option linter.unusedVariables false
set_option linter.unusedSimpArgs false
namespace Go.Proofs.Ytgnahjadjgjecaa
open Go.RowKit Go.Maps Go.MapKept

/-- What of K is there stays. -/
structure Kept (K : Nat → Prop) (w w' : World) : Prop where
  os : w'.os = w.os
  tape : w'.tape = w.tape
  output : w'.output = w.output
  size : w.heap.size ≤ w'.heap.size
  block : ∀ i, i < w.heap.size → K i → w'.heap[i]? = w.heap[i]?
theorem Kept.refl (K : Nat → Prop) (w : World) : Kept K w w := ⟨rfl, rfl, rfl, Nat.le_refl _, fun _ _ _ => rfl⟩
theorem Kept.trans {K : Nat → Prop} {w w1 w2 : World} (h : Kept K w w1) (k : Kept K w1 w2) : Kept K w w2 :=
  ⟨k.os.trans h.os, k.tape.trans h.tape, k.output.trans h.output, Nat.le_trans h.size k.size, fun i hi hk => (k.block i (Nat.lt_of_lt_of_le hi h.size) hk).trans (h.block i hi hk)⟩
theorem Kept.mono {K K' : Nat → Prop} {w w' : World} (h : Kept K w w') (hk : ∀ i, K' i → K i) : Kept K' w w' := ⟨h.os, h.tape, h.output, h.size, fun i hi hx => h.block i hi (hk i hx)⟩
theorem Kept.below {K : Nat → Prop} {w w' : World} (h : Below w.heap.size w w') : Kept K w w' := ⟨h.os, h.tape, h.output, h.size, fun i hi _ => h.block i hi⟩
theorem Kept.grown {K : Nat → Prop} {w w' : World} {b : Nat} (h : w.grownBy w' (some b)) (hb : ¬ K b) : Kept K w w' :=
  ⟨h.os, h.tape, h.output, h.size, fun i hi hk => h.block i hi (fun e => by injection e with e; exact hb (e ▸ hk))⟩
theorem Kept.grownO {K : Nat → Prop} {w w' : World} {row : Option Nat} (h : w.grownBy w' row) (hb : ∀ b, row = some b → ¬ K b) : Kept K w w' :=
  ⟨h.os, h.tape, h.output, h.size, fun i hi hk => h.block i hi (fun e => hb i e.symm hk)⟩
/-- The blocks of K, and all that came since. -/
def More (K : Nat → Prop) (w w' : World) : Nat → Prop := fun i => K i ∨ (w.heap.size ≤ i ∧ i < w'.heap.size)

def posOf (ts : List Term) : WTerm → Option Value := fun x => if x.t ∈ ts then some (.int .i64 (pos ts x.t : Nat)) else none
/-- A Dag at block b has the terms; none of its blocks is in K. -/
structure DagAt (K : Nat → Prop) (w : World) (b : Nat) (ts : List Term) : Prop where mk_ ::
  out : ∃ vl u vm, w.heap[b]? = some (.cells #[vl, .int .u32 u, .int .i32 0, .int .u32 0, vm, .int .i64 (ts.length : Int)] 108 (0, 0)) ∧
    OwnN 0 82 5 Term.five w vl ts ∧ (∀ g, vl.ownBlock = some g → ¬ K g) ∧ ¬ K b ∧
    ((u = 0 ∧ ts = []) ∨ (u = 1 ∧ ∃ m, vm = .map (some m) ∧ MapAt WTerm.val w m (posOf ts) ∧ ¬ K m)) ∧
    (∀ i, K i → i < w.heap.size) ∧ (∀ t ∈ ts, t.WF) ∧ ts.Nodup
theorem DagAt.lt {K : Nat → Prop} {w : World} {b : Nat} {ts : List Term} (h : DagAt K w b ts) : b < w.heap.size := by
  obtain ⟨vl, u, vm, hb, _⟩ := h.out
  exact (Array.getElem?_eq_some_iff.1 hb).1
theorem DagAt.wf {K : Nat → Prop} {w : World} {b : Nat} {ts : List Term} (h : DagAt K w b ts) : ∀ t ∈ ts, t.WF := by
  obtain ⟨vl, u, vm, hb, _, _, _, _, _, h, _⟩ := h.out
  exact h
theorem DagAt.nodup {K : Nat → Prop} {w : World} {b : Nat} {ts : List Term} (h : DagAt K w b ts) : ts.Nodup := by
  obtain ⟨vl, u, vm, hb, _, _, _, _, _, _, h⟩ := h.out
  exact h
theorem DagAt.in_ {K : Nat → Prop} {w : World} {b : Nat} {ts : List Term} (h : DagAt K w b ts) : ∀ i, K i → i < w.heap.size := by
  obtain ⟨vl, u, vm, hb, _, _, _, _, h, _⟩ := h.out
  exact h
theorem DagAt.notK {K : Nat → Prop} {w : World} {b : Nat} {ts : List Term} (h : DagAt K w b ts) : ¬ K b := by
  obtain ⟨vl, u, vm, hb, _, _, h, _⟩ := h.out
  exact h
/-- It stays where no block of its own turns; what was made meanwhile is none of its blocks. -/
theorem DagAt.more {K : Nat → Prop} {w w' : World} {b : Nat} {ts : List Term} (h : DagAt K w b ts) (hb : Below w.heap.size w w') : DagAt (More K w w') w' b ts := by
  obtain ⟨vl, u, vm, h1, h2, h3, h4, h5, h6, h7, h8⟩ := h.out
  have hnot : ∀ i, i < w.heap.size → ¬ K i → ¬ More K w w' i := fun i hi hk => by rintro (h | h); exact hk h; omega
  refine ⟨vl, u, vm, blk_below h1 hb, h2.move (T := [82]) (Quiet.below hb) (by simp), fun g hg => ?_, hnot b h.lt h4, ?_, ?_, h7, h8⟩
  · obtain ⟨_, cur, hc⟩ := h2.typed hg
    exact hnot g (Array.getElem?_eq_some_iff.1 hc).1 (h3 g hg)
  · rcases h5 with h5 | ⟨hu, m, hm, hma, hk⟩
    · exact Or.inl h5
    · exact Or.inr ⟨hu, m, hm, hma.below hb hma.lt, hnot m hma.lt hk⟩
  · rintro i (h | h)
    · exact Nat.lt_of_lt_of_le (h6 i h) hb.size
    · exact h.2
theorem DagAt.mono {K K' : Nat → Prop} {w : World} {b : Nat} {ts : List Term} (h : DagAt K w b ts) (hk : ∀ i, K' i → K i) : DagAt K' w b ts := by
  obtain ⟨vl, u, vm, h1, h2, h3, h4, h5, h6, h7, h8⟩ := h.out
  refine ⟨vl, u, vm, h1, h2, fun g hg hx => h3 g hg (hk g hx), fun hx => h4 (hk b hx), ?_, fun i hi => h6 i (hk i hi), h7, h8⟩
  rcases h5 with h5 | ⟨hu, m, hm, hma, hn⟩
  · exact Or.inl h5
  · exact Or.inr ⟨hu, m, hm, hma, fun hx => hn (hk m hx)⟩
theorem DagAt.below {K : Nat → Prop} {w w' : World} {b : Nat} {ts : List Term} (h : DagAt K w b ts) (hb : Below w.heap.size w w') : DagAt K w' b ts := (h.more hb).mono fun _ hi => Or.inl hi
theorem Kept.cell {K : Nat → Prop} {w w' : World} (h : Kept K w w') {b i : Nat} {v : Value} (hk : K b) (hc : w.cell? ⟨b, i, none⟩ = some v) : w'.cell? ⟨b, i, none⟩ = some v :=
  (World.cell?_of_block (a := ⟨b, i, none⟩) (h.block b (World.block_lt_of_cell? w _ hc) hk)).trans hc
theorem Kept.blk {K : Nat → Prop} {w w' : World} (h : Kept K w w') {b : Nat} {o : Obj} (hk : K b) (hc : w.heap[b]? = some o) : w'.heap[b]? = some o :=
  (h.block b (Array.getElem?_eq_some_iff.1 hc).1 hk).trans hc
/-- The list of what is there, to be read. -/
theorem DagAt.list {K : Nat → Prop} {w : World} {b : Nat} {ts : List Term} (h : DagAt K w b ts) : ∃ vl, w.cell? ⟨b, 0, none⟩ = some vl ∧ SlN 0 82 5 Term.five w vl ts := by
  obtain ⟨vl, u, vm, h1, h2, _⟩ := h.out
  exact ⟨vl, (six_cells h1).1, h2.toSl encT 0⟩

theorem add_next (a : Addr) (n : Int) (w : World) (hc : w.cell? a = some (.int .i64 n)) (hz : w.frozen? a = false) (h0 : 0 ≤ n) (h1 : n < 1000000000000000) :
    Calls Try.prog 53 #[.pointer (some a), .int .i64 1] w fun r w' => r = .returned (.int .i64 (n + 1)) ∧ w' = w.setCell a (.int .i64 (n + 1)) := by
  have hs : IntKind.i64.wrap (n + 1) = n + 1 := IntWalk.i64_in _ (by omega)
  have hadd := run_call_add (P := Try.prog) Try.func66 (by kernel_rfl) (by kernel_rfl) (by kernel_rfl) .i64 (by kernel_rfl) (y := 1) (s := n + 1) hc hz (by simp [go_sem, hs])
  go_enter Try.func53, Try.ntmps53
  go_wp2
  go_ret
  exact ⟨rfl, rfl⟩
end Go.Proofs.Ytgnahjadjgjecaa
