/- A term's number. -/
import Derived.Test.YtgnahjadjgjecaaTDag
import Derived.Deep.RegionHeld3
import Derived.Deep.AppendLies
import Derived.Deep.RegionLaw
import Derived.BigQuiet
set_option linter.unusedVariables false
set_option linter.unusedSimpArgs false
namespace Go.Proofs.Ytgnahjadjgjecaa
open Go.RowKit Go.Maps Go.MapKept

section
variable {P : Program} {ops : Array Oper} {rest : List Oper} {o : Oper} {a : Act} {Q : Exit → Act → World → Prop}
theorem wp_store_at {κ : Type} {ek : κ → Value} {K : Act → World → Prop} (w : World) (m x v : Operand) (t : TypeId) (hop : o.op = Op.mapUpdate t m x v) (kt e : TypeId) (O : KeyOps P kt ek) (ht : P.underlying t = some (.map kt e)) (b : Nat) (f : κ → Option Value)
    (hm : a.eval m = .map (some b)) (h : MapAt ek w b f) (x0 : κ) (val : Value) (hx : a.eval x = ek x0) (hv : a.eval v = val)
    (hK : ∀ w', (∀ g : κ → Option Value, g x0 = some val → (∀ y, y ≠ x0 → g y = f y) → MapAt ek w' b g) → w.grownBy w' (some b) → K (a.put o.dst undef) w') :
    o.wp P a w K Q := by
  obtain ⟨w', hrun, r1, r2⟩ := h.store O ht x0 val
  unfold Oper.wp
  simp [execOp, hop, hm, hx, hv, hrun, Result.andThen]
  exact hK w' r1 r2
theorem step_store_at {κ : Type} {ek : κ → Value} {K : Act → World → Prop} {X : Prop} (w : World) (hgd : o.guard = none) (m x v : Operand) (t : TypeId) (hop : o.op = Op.mapUpdate t m x v) (kt e : TypeId) (O : KeyOps P kt ek) (ht : P.underlying t = some (.map kt e)) (b : Nat) (f : κ → Option Value)
    (hm : a.eval m = .map (some b)) (h : MapAt ek w b f) (x0 : κ) (val : Value) (hx : a.eval x = ek x0) (hv : a.eval v = val)
    (hK : ∀ w', (∀ g : κ → Option Value, g x0 = some val → (∀ y, y ≠ x0 → g y = f y) → MapAt ek w' b g) → w.grownBy w' (some b) → K (a.put o.dst undef) w') :
    if Region.wanted o (yielded ops a.tmps) = true then o.wp P a w K Q else X := by
  rw [if_pos (by simp [Region.wanted, hgd])]
  exact wp_store_at w m x v t hop kt e O ht b f hm h x0 val hx hv hK
end

/-- A Dag whose map is there. -/
structure DagIn (K : Nat → Prop) (w : World) (b m : Nat) (vl : Value) (ts : List Term) : Prop where
  hb : w.heap[b]? = some (.cells #[vl, .int .u32 1, .int .i32 0, .int .u32 0, .map (some m), .int .i64 (ts.length : Int)] 108 (0, 0))
  l : OwnN 0 82 5 Term.five w vl ts
  kl : ∀ g, vl.ownBlock = some g → ¬ K g
  kb : ¬ K b
  hm : MapAt WTerm.val w m (posOf ts)
  km : ¬ K m
  k : ∀ i, K i → i < w.heap.size
  wf : ∀ t ∈ ts, t.WF
  nd : ts.Nodup
theorem DagIn.at_ {K : Nat → Prop} {w : World} {b m : Nat} {vl : Value} {ts : List Term} (h : DagIn K w b m vl ts) : DagAt K w b ts :=
  ⟨⟨vl, 1, .map (some m), h.hb, h.l, h.kl, h.kb, Or.inr ⟨rfl, m, rfl, h.hm, h.km⟩, h.k, h.wf, h.nd⟩⟩
theorem Kept.drewN {K : Nat → Prop} {w w' : World} (h : Kept K w w') (n : Nat) : Kept K w (w'.drewN n) := ⟨h.os, h.tape, h.output, h.size, h.block⟩
theorem OwnN.drewN {α : Type} {B e k : Nat} {enc : α → List Value} {w : World} {v : Value} {xs : List α} (h : OwnN B e k enc w v xs) (n : Nat) : OwnN B e k enc (w.drewN n) v xs :=
  h.move (T := [e]) (Quiet.below (below_drewN (Below.refl _ w) n)) (by simp)
theorem DagIn.drewN {K : Nat → Prop} {w : World} {b m : Nat} {vl : Value} {ts : List Term} (h : DagIn K w b m vl ts) (n : Nat) : DagIn K (w.drewN n) b m vl ts :=
  ⟨h.hb, h.l.drewN n, h.kl, h.kb, h.hm.block rfl, h.km, h.k, h.wf, h.nd⟩
theorem Kept.drew {K : Nat → Prop} {w w' : World} (h : Kept K w w') : Kept K w w'.drew := ⟨h.os, h.tape, h.output, h.size, h.block⟩
theorem OwnN.drew {α : Type} {B e k : Nat} {enc : α → List Value} {w : World} {v : Value} {xs : List α} (h : OwnN B e k enc w v xs) : OwnN B e k enc w.drew v xs :=
  h.move (T := [e]) (Quiet.below ((Below.refl _ w).drew)) (by simp)
theorem DagIn.drew {K : Nat → Prop} {w : World} {b m : Nat} {vl : Value} {ts : List Term} (h : DagIn K w b m vl ts) : DagIn K w.drew b m vl ts :=
  ⟨h.hb, h.l.move (T := [82]) (Quiet.below ((Below.refl _ w).drew)) (by simp), h.kl, h.kb, h.hm.block rfl, h.km, h.k, h.wf, h.nd⟩
theorem begun_any (K : Nat → Prop) (b m : Nat) (ts : List Term) (w : World) (h : DagAt K w b ts) (hm : MapAt WTerm.val w m (fun _ => none)) (hk : ¬ K m) :
    Calls Try.prog 38 #[.pointer (some ⟨b, 0, none⟩), .map (some m)] w fun r w' => r = .returned (.tuple #[]) ∧ (∃ m' vl, DagIn K w' b m' vl ts) ∧ Kept K w w' := by
  obtain ⟨vl, u, vm, h1, h2, h3, h4, h5, h6, h7, h8⟩ := h.out
  rcases h5 with ⟨rfl, rfl⟩ | ⟨rfl, m', rfl, hm', hk'⟩
  · refine (begun_first b m vl vm _ w h1).mono ?_
    rintro r w1 ⟨rfl, hb1, hg⟩
    have hne : ∀ g, vl.ownBlock = some g → some g ≠ some b := fun g hg2 e => by
      injection e with e
      obtain ⟨_, cur, hc⟩ := h2.typed hg2
      rw [e, h1] at hc
      injection hc with hc
      injection hc with _ hc _
      exact absurd hc (by decide)
    have hmb : some m ≠ some b := fun e => by
      injection e with e
      obtain ⟨es, cl, hc, _⟩ := hm
      rw [e, h1] at hc
      injection hc with hc
      cases hc
    refine ⟨rfl, ⟨m, vl, hb1, ?_, h3, h4, ?_, hk, fun i hi => Nat.lt_of_lt_of_le (h6 i hi) hg.size, by simp, by simp⟩, Kept.grown hg h4⟩
    · refine World.ownsRow.kept h2 hg ?_
      cases hv : vl.ownBlock with
      | none => exact Or.inl rfl
      | some g => exact Or.inr (hne g hv)
    · exact hm.grown hg hmb
  · refine (begun_again b m vl (.map (some m')) _ w h1).mono ?_
    rintro r w1 ⟨rfl, hb⟩
    refine ⟨rfl, ⟨m', vl, blk_below h1 hb, h2.move (T := [82]) (Quiet.below hb) (by simp), h3, h4, hm'.below hb hm'.lt, hk', fun i hi => Nat.lt_of_lt_of_le (h6 i hi) hb.size, h7, h8⟩, Kept.below hb⟩
theorem zint (w : World) : (zeroValue 3).run Try.prog w = .ok (.int .i64 0) w := by kernel_rfl
theorem five_cells {w : World} {b : Nat} {u0 u1 u2 u3 u4 : Value} {t : TypeId} {fz : Nat × Nat} (h : w.heap[b]? = some (.cells #[u0, u1, u2, u3, u4] t fz)) :
    w.cell? ⟨b, 0, none⟩ = some u0 ∧ w.cell? ⟨b, 1, none⟩ = some u1 ∧ w.cell? ⟨b, 2, none⟩ = some u2 ∧ w.cell? ⟨b, 3, none⟩ = some u3 ∧ w.cell? ⟨b, 4, none⟩ = some u4 :=
  ⟨(cell_of h 0).trans rfl, (cell_of h 1).trans rfl, (cell_of h 2).trans rfl, (cell_of h 3).trans rfl, (cell_of h 4).trans rfl⟩
theorem DagIn.ne {K : Nat → Prop} {w : World} {b m c : Nat} {vl : Value} {ts : List Term} (h : DagIn K w b m vl ts) {cs : Array Value} {fz : Nat × Nat} (hc : w.heap[c]? = some (.cells cs 82 fz)) : c ≠ b := by
  rintro rfl
  have := h.hb
  rw [hc] at this
  injection this with this
  injection this with _ e _
  exact absurd e (by decide)
theorem DagIn.nem {K : Nat → Prop} {w : World} {b m : Nat} {vl : Value} {ts : List Term} (h : DagIn K w b m vl ts) : m ≠ b := by
  rintro rfl
  obtain ⟨es, cl, hc, _⟩ := h.hm
  have := h.hb
  rw [hc] at this
  injection this with this
  cases this
/-- Behind d.next.Add. -/
theorem DagIn.added {K : Nat → Prop} {w : World} {b m : Nat} {vl : Value} {ts : List Term} (h : DagIn K w b m vl ts) :
    (w.setCell ⟨b, 5, none⟩ (.int .i64 ((ts.length : Int) + 1))).heap[b]? = some (.cells #[vl, .int .u32 1, .int .i32 0, .int .u32 0, .map (some m), .int .i64 ((ts.length : Int) + 1)] 108 (0, 0)) ∧
    OwnN 0 82 5 Term.five (w.setCell ⟨b, 5, none⟩ (.int .i64 ((ts.length : Int) + 1))) vl ts ∧ MapAt WTerm.val (w.setCell ⟨b, 5, none⟩ (.int .i64 ((ts.length : Int) + 1))) m (posOf ts) ∧
    Kept K w (w.setCell ⟨b, 5, none⟩ (.int .i64 ((ts.length : Int) + 1))) :=
  ⟨by have := blk_set h.hb 5 (.int .i64 ((ts.length : Int) + 1)); simpa using this, h.l.move (T := [82]) (Quiet.set h.hb (Nat.zero_le _) (by decide) _ _) (by simp), h.hm.grown (grown_set _ _ _ _) (fun e => h.nem (by injection e)), Kept.grown (grown_set _ _ _ _) h.kb⟩
/-- Behind the append, and the store of its slice. -/
theorem pushed {K : Nat → Prop} {w4 w5 : World} {b m c : Nat} {vl v5 : Value} {ts : List Term} {t : Term} {f : WTerm → Option Value} {u1 u2 u3 u4 u5 : Value} {o : Obj}
    (hb4 : w4.heap[b]? = some (.cells #[vl, u1, u2, u3, u4, u5] 108 (0, 0))) (ho4 : OwnN 0 82 5 Term.five w4 vl ts) (hm4 : MapAt WTerm.val w4 m f) (hx4 : w4.heap[c]? = some o) (hkc : K c)
    (hb5 : w5.heap[b]? = some (.cells #[vl, u1, u2, u3, u4, u5] 108 (0, 0))) (ho5 : OwnN 0 82 5 Term.five w5 v5 (ts ++ [t])) (hg5 : w4.drew.grownBy w5 vl.ownBlock) (hn5 : v5.ownBlock = vl.ownBlock ∨ ∃ g, v5.ownBlock = some g ∧ w4.drew.heap.size ≤ g)
    (hkl : ∀ g, vl.ownBlock = some g → ¬ K g) (hkb : ¬ K b) (hK : ∀ i, K i → i < w4.heap.size) (hmb : m ≠ b) :
    (w5.setCell ⟨b, 0, none⟩ v5).heap[b]? = some (.cells #[v5, u1, u2, u3, u4, u5] 108 (0, 0)) ∧ OwnN 0 82 5 Term.five (w5.setCell ⟨b, 0, none⟩ v5) v5 (ts ++ [t]) ∧
      MapAt WTerm.val (w5.setCell ⟨b, 0, none⟩ v5) m f ∧ (w5.setCell ⟨b, 0, none⟩ v5).heap[c]? = some o ∧ Kept K w4 (w5.setCell ⟨b, 0, none⟩ v5) ∧ (∀ g, v5.ownBlock = some g → ¬ K g) := by
  have hk1 : Kept K w4 w5 := Kept.grownO (w := w4.drew) hg5 hkl |> fun h => ⟨h.os, h.tape, h.output, h.size, h.block⟩
  have hk2 : Kept K w5 (w5.setCell ⟨b, 0, none⟩ v5) := Kept.grown (grown_set _ _ _ _) hkb
  have hk3 := hk1.trans hk2
  refine ⟨by have := blk_set hb5 0 v5; simpa using this, ho5.move (T := [82]) (Quiet.set hb5 (Nat.zero_le _) (by decide) _ _) (by simp), ?_, hk3.blk hkc hx4, hk3, fun g hg => ?_⟩
  · refine MapAt.grown (w := w5) ?_ (grown_set _ _ _ _) (fun e => hmb (by injection e))
    refine MapAt.grown (w := w4.drew) (hm4.block rfl) hg5 fun e => ?_
    obtain ⟨_, cur, hc⟩ := ho4.typed e.symm
    obtain ⟨es, cl, hc2, _⟩ := hm4
    rw [hc] at hc2
    injection hc2 with hc2
    cases hc2
  · rcases hn5 with e | ⟨g', e, hle⟩
    · exact hkl g (by rw [← e, hg])
    · rw [hg] at e
      injection e with e
      subst e
      intro hk
      have := hK g hk
      have h2 : w4.heap.size ≤ g := hle
      omega
theorem pos_old {ts : List Term} {t x : Term} (h : x ∈ ts) : pos (ts ++ [t]) x = pos ts x := by
  have hlt : pos ts x < ts.length := List.findIdx_lt_length_of_exists ⟨x, h, by simp⟩
  unfold pos at hlt ⊢
  rw [List.findIdx_append, if_pos hlt]
theorem posOf_push {ts : List Term} {t : Term} (ht : t.WF) (hn : t ∉ ts) : posOf (ts ++ [t]) ⟨t, ht⟩ = some (.int .i64 (ts.length : Int)) ∧ ∀ y : WTerm, y ≠ ⟨t, ht⟩ → posOf (ts ++ [t]) y = posOf ts y := by
  constructor
  · unfold posOf
    rw [if_pos (by simp)]
    have : pos (ts ++ [t]) t = ts.length := by
      unfold pos
      rw [List.findIdx_append]
      have h := pos_new hn
      unfold pos at h
      rw [h, if_neg (by omega)]
      simp
    rw [this]
  · rintro ⟨y, hy⟩ hne
    have hyt : y ≠ t := by rintro rfl; exact hne rfl
    unfold posOf
    by_cases hm : y ∈ ts
    · rw [if_pos (by simp [hm]), if_pos hm, pos_old hm]
    · rw [if_neg (by simp [hm, hyt]), if_neg hm]
/-- Behind the store into the map. -/
theorem stored {K : Nat → Prop} {w6 w7 : World} {b m : Nat} {vl : Value} {ts : List Term} {t : Term} (ht : t.WF) (hn : t ∉ ts)
    (hb6 : w6.heap[b]? = some (.cells #[vl, .int .u32 1, .int .i32 0, .int .u32 0, .map (some m), .int .i64 ((ts.length : Int) + 1)] 108 (0, 0))) (ho6 : OwnN 0 82 5 Term.five w6 vl (ts ++ [t]))
    (hgen : ∀ g : WTerm → Option Value, g ⟨t, ht⟩ = some (.int .i64 (ts.length : Int)) → (∀ y, y ≠ ⟨t, ht⟩ → g y = posOf ts y) → MapAt WTerm.val w7 m g) (hgr : w6.drew.grownBy w7 (some m))
    (hkl : ∀ g, vl.ownBlock = some g → ¬ K g) (hkb : ¬ K b) (hkm : ¬ K m) (hK : ∀ i, K i → i < w6.heap.size) (hwf : ∀ x ∈ ts, x.WF) (hnd : ts.Nodup) (hmb : m ≠ b) (hm6 : MapAt WTerm.val w6 m (posOf ts)) :
    DagAt K w7 b (ts ++ [t]) ∧ Kept K w6 w7 := by
  have hk : Kept K w6 w7 := Kept.grown (w := w6.drew) hgr hkm |> fun h => ⟨h.os, h.tape, h.output, h.size, h.block⟩
  have hm7 := hgen (posOf (ts ++ [t])) (posOf_push ht hn).1 (posOf_push ht hn).2
  have hlm : m < w6.heap.size ∨ w6.heap.size ≤ m := Nat.lt_or_ge _ _
  refine ⟨⟨⟨vl, 1, .map (some m), ?_, ?_, hkl, hkb, Or.inr ⟨rfl, m, rfl, hm7, hkm⟩, fun i hi => Nat.lt_of_lt_of_le (hK i hi) hk.size, ?_, ?_⟩⟩, hk⟩
  · rw [show (((ts ++ [t]).length : Nat) : Int) = (ts.length : Int) + 1 by simp]
    exact (hgr.block b (Array.getElem?_eq_some_iff.1 hb6).1 (fun e => hmb (by injection e with e; exact e.symm))).trans hb6
  · refine World.ownsRow.kept (w := w6.drew) ho6.drew hgr ?_
    cases hv : vl.ownBlock with
    | none => exact Or.inl rfl
    | some g =>
      refine Or.inr fun e => ?_
      injection e with e
      obtain ⟨_, cur, hc⟩ := ho6.typed hv
      obtain ⟨es, cl, hc2, _⟩ := hm6
      rw [← e, hc] at hc2
      injection hc2 with hc2
      cases hc2
  · intro x hx
    rcases List.mem_append.1 hx with hx | hx
    · exact hwf x hx
    · rw [List.mem_singleton.1 hx]; exact ht
  · have := ins_nodup (t := t) hnd
    rwa [ins, if_neg hn] at this
set_option maxRecDepth 100000 in
set_option maxHeartbeats 1600000 in
theorem number_any (K : Nat → Prop) (b k v op x y : Nat) (ts : List Term) (ht : (⟨k, v, op, x, y⟩ : Term).WF) (hl : ts.length < 1000000000000) (w : World) (h : DagAt K w b ts) :
    Calls Try.prog 34 #[.pointer (some ⟨b, 0, none⟩), .agg #[.int .i64 k, .int .u32 v, .int .i64 op, .int .i64 x, .int .i64 y]] w fun r w' =>
      r = .returned (.int .i64 (pos ts ⟨k, v, op, x, y⟩ : Nat)) ∧ DagAt K w' b (ins ts ⟨k, v, op, x, y⟩) ∧ Kept K w w' := by
  have hb1 : Below w.heap.size w (w.alloc (.cells #[.int .i64 k, .int .u32 v, .int .i64 op, .int .i64 x, .int .i64 y] 82)) := (Below.refl w.heap.size w).alloc (Nat.le_refl _) _
  have hs1 : (w.alloc (.cells #[.int .i64 k, .int .u32 v, .int .i64 op, .int .i64 x, .int .i64 y] 82)).heap.size = w.heap.size + 1 := by simp
  have hd1 := h.more hb1
  have hx1 := blk_new w (.cells #[.int .i64 k, .int .u32 v, .int .i64 op, .int .i64 x, .int .i64 y] 82)
  have hm := MapAt.made (ek := WTerm.val) (w.alloc (.cells #[.int .i64 k, .int .u32 v, .int .i64 op, .int .i64 x, .int .i64 y] 82))
  rw [hs1] at hm
  have hmk : ¬ More K w (w.alloc (.cells #[.int .i64 k, .int .u32 v, .int .i64 op, .int .i64 x, .int .i64 y] 82)) (w.heap.size + 1) := by
    rintro (h2 | h2)
    · have := h.in_ _ h2; omega
    · rw [hs1] at h2; omega
  have hkx : More K w (w.alloc (.cells #[.int .i64 k, .int .u32 v, .int .i64 op, .int .i64 x, .int .i64 y] 82)) w.heap.size := Or.inr ⟨Nat.le_refl _, by rw [hs1]; omega⟩
  generalize hK1 : More K w (w.alloc (.cells #[.int .i64 k, .int .u32 v, .int .i64 op, .int .i64 x, .int .i64 y] 82)) = K1 at hd1 hmk hkx
  have hKK : ∀ i, K i → K1 i := fun i hi => by rw [← hK1]; exact Or.inl hi
  clear hK1
  have hd2 := hd1.below ((Below.refl _ _).alloc (Nat.le_refl _) (.map #[] 0))
  have hx2 := blk_alloc hx1 (.map #[] 0)
  have hk2 : Kept K w ((w.alloc (.cells #[.int .i64 k, .int .u32 v, .int .i64 op, .int .i64 x, .int .i64 y] 82)).alloc (.map #[] 0)) := Kept.below (hb1.alloc (by simp) _)
  have hmm := @run_makeMap Try.prog
  go_enter Try.func34, Try.ntmps34
  go_wp2_with fail
  refine (begun_any K1 b _ ts _ hd2 hm hmk).mono ?_
  rintro r w3 ⟨rfl, ⟨m, vl, D⟩, hk3⟩
  have hx3 := hk3.blk hkx hx2
  have hk4 := hk2.trans (hk3.mono hKK)
  clear hk3 hx2 hd2 hm hd1 hx1 hb1 hk2
  obtain ⟨z0, z1, z2, z3, z4⟩ := five_cells hx3
  obtain ⟨c0, c1, c2, c3, c4, c5⟩ := six_cells D.hb
  have f0 := frozen_of D.hb 0
  have f5 := frozen_of D.hb 5
  have hlook := fun n : Nat => (D.hm.block (w' := w3.drewN n) rfl).look term_ops Try.underlying103 (zint (w3.drewN n)) ⟨⟨k, v, op, x, y⟩, ht⟩ true
  simp only [if_pos, posOf, WTerm.val] at hlook
  by_cases hmem : (⟨k, v, op, x, y⟩ : Term) ∈ ts
  · simp only [if_pos hmem, Option.getD_some, Option.isSome_some] at hlook
    go_wp2_with fail
    go_quiet (fail)
    go_wp2_with fail
    go_ret
    refine ⟨rfl, ?_, hk4.drewN nq⟩
    rw [ins, if_pos hmem]
    exact (D.drewN nq).at_.mono hKK
  · simp only [if_neg hmem, Option.getD_none, Option.isSome_none] at hlook
    go_wp2_with fail
    go_quiet (fail)
    have D' := D.drewN nq
    have hx3' : (w3.drewN nq).heap[w.heap.size]? = _ := hx3
    have hk4' := hk4.drewN nq
    generalize w3.drewN nq = w3n at D' hx3' hk4' ⊢
    clear hlook hx3 z0 z1 z2 z3 z4 c0 c1 c2 c3 c4 c5 f0 f5 hk4 D
    obtain ⟨c0, c1, c2, c3, c4, c5⟩ := six_cells D'.hb
    have f5 := frozen_of D'.hb 5
    obtain ⟨hb4, ho4, hm4, hk5⟩ := D'.added
    have hxb := D'.ne hx3'
    have hx4 := hk5.blk hkx hx3'
    have hk6 := hk4'.trans (hk5.mono hKK)
    have hK4 := fun i hi => Nat.lt_of_lt_of_le (D'.k i hi) hk5.size
    go_wp2_with (first | (go_at_call 53; refine (add_next ⟨b, 5, none⟩ ts.length _ c5 f5 (by omega) (by omega)).mono ?_; rintro r w4 ⟨rfl, hw4⟩; rw [← hw4] at hb4 ho4 hm4 hx4 hk6 hK4; clear hk4' hk5 c0 c1 c2 c3 c4 c5 f5 hw4; obtain ⟨z0, z1, z2, z3, z4⟩ := five_cells hx4; obtain ⟨c0, c1, c2, c3, c4, c5⟩ := six_cells hb4; have f0 := frozen_of hb4 0; have hbs := (Array.getElem?_eq_some_iff.1 hb4).1; have hbn : b ≠ w4.heap.size := Nat.ne_of_lt hbs; have hs4 : IntKind.i64.wrap ((ts.length : Int) + 1 - 1) = (ts.length : Int) := by rw [Int.add_sub_cancel]; exact IntWalk.i64_in _ (by omega)) | fail)
    go_region_law (refine step_pushN encT (w0 := w4.drew) (W := w4.drew) 0 (by rfl) (.tmp 31) (.tmp 33) 91 82 (.agg #[.int .i64 0, .int .u32 0, .int .i64 0, .int .i64 0, .int .i64 0]) 40 (by rfl) Try.underlying91 (by kernel_rfl) (by rfl) (by omega) (ho4.drew) ⟨k, v, op, x, y⟩ (by rfl) (by rfl) (Below.refl _ _) (Nat.zero_le _) (by omega) (by rfl) ?_; intro v5 w5 ho5 hB5 hg5 hn5; have hb5 := ho4.drew.other hg5 (show w4.drew.heap[b]? = _ from hb4) (by simp); have d0 := cell_of hb5 0; simp only [List.getElem?_toArray, List.getElem?_cons_zero, List.getElem?_cons_succ] at d0; have g0 := frozen_of hb5 0; obtain ⟨A5, q5, rfl, _, _, _⟩ := (ho5.toSl encT 0).open_)
    all_goals (
      obtain ⟨hb6, ho6, hm6, hx6, hk7, hkv⟩ := pushed hb4 ho4 hm4 hx4 hkx hb5 ho5 hg5 hn5 D'.kl D'.kb hK4 D'.nem
      have hlen : (ts ++ [(⟨k, v, op, x, y⟩ : Term)]).length = ts.length + 1 := by simp
      rw [hlen] at hb6 ho6 hm6 hx6 hk7 hkv
      clear z0 z1 z2 z3 z4 c0 c1 c2 c3 c4 c5 f0 d0 g0 hb5 hg5 ho5 hn5 hlen hB5 hbn hm4 ho4 hx4 hb4
      generalize w5.setCell ⟨b, 0, none⟩ (.slice A5 (ts.length + 1) q5) = w6 at hb6 ho6 hm6 hx6 hk7 ⊢
      obtain ⟨w7, hrun, hgen, hgr⟩ := (hm6.block (w' := w6.drew) rfl).store term_ops Try.underlying103 ⟨⟨k, v, op, x, y⟩, ht⟩ (.int .i64 (ts.length : Int))
      simp only [WTerm.val] at hrun
      obtain ⟨z0, z1, z2, z3, z4⟩ := five_cells hx6
      obtain ⟨c0, c1, c2, c3, c4, c5⟩ := six_cells hb6
      go_wp2_with fail
      go_region_law (fail)
      all_goals (
        go_wp2_with fail
        go_ret
        obtain ⟨r1, r2⟩ := stored ht hmem hb6 ho6 hgen hgr hkv D'.kb D'.km (fun i hi => Nat.lt_of_lt_of_le (hK4 i hi) hk7.size) D'.wf D'.nd D'.nem hm6
        rw [pos_new hmem, ins, if_neg hmem]
        exact ⟨rfl, r1.mono hKK, hk6.trans ((hk7.trans r2).mono hKK)⟩))
end Go.Proofs.Ytgnahjadjgjecaa
