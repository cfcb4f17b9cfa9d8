/- A map whose keys are gates. -/
/- A query in memory: its gates and clauses. -/
/- slices.Clone of numbers; blast: clause. -/
/- A query while a gate comes into it. -/
/- blast: variable. -/
import Derived.Test.YtgnahjadjgjecaaChecked
import Derived.Test.YtgnahjadjgjecaaTMap
import Derived.Test.YtgnahjadjgjecaaBClause
import Derived.Test.YtgnahjadjgjecaaTDag
import Derived.Test.YtgnahjadjgjecaaLCopy
import Derived.Deep.RegionLaw
import Derived.Test.YtgnahjadjgjecaaTNumber
set_option linter.unusedVariables false
set_option linter.unusedSimpArgs false
namespace Go.Proofs.Ytgnahjadjgjecaa
open Go.RowKit Go.Maps Go.MapKept Go.WideMaps

structure Gate.WF (g : Gate) : Prop where
  kd : g.kd < 100
  a1 : -1000000000000 < g.a
  a2 : g.a < 1000000000000
  b1 : -1000000000000 < g.b
  b2 : g.b < 1000000000000
def Gate.three (g : Gate) : List Value := [.int .i64 (g.kd : Nat), .int .i64 g.a, .int .i64 g.b]
theorem encG : EncN 3 Gate.three := ⟨fun _ => rfl, fun x u hu => by simp [Gate.three] at hu; rcases hu with rfl | rfl | rfl <;> rfl, by omega⟩
structure WGate where
  g : Gate
  h : g.WF
def WGate.val (t : WGate) : Value := .agg #[.int .i64 (t.g.kd : Nat), .int .i64 t.g.a, .int .i64 t.g.b]
theorem wide_gate : (match Try.prog.underlying 74 with | some (.array _ _) | some (.struct _) => true | _ => false) = true := by rw [Try.underlying74]
theorem row_gate : (74 : TypeId) < Try.prog.types.size := of_decide_eq_true (by kernel_rfl)
theorem at_gate : Try.prog.keyTypeAt 2 74 = true := by kernel_rfl
set_option maxRecDepth 100000 in
theorem law_gate : KeyLaw Try.prog 74 := deep_law_laid laidOutT (m := 2) (by omega) row_gate at_gate wide_gate
theorem cells_gate : Try.prog.cellsOf 74 = 3 := by kernel_rfl
theorem keyType_gate : Try.prog.keyType 74 = true := by kernel_rfl
theorem lits_intI (d : Nat) (n : Int) (h1 : -1000000000000 < n) (h2 : n < 1000000000000) : Try.prog.keyLits (d + 1) 3 [.int .i64 n] = some [.int .i64 n] := by
  have hw : (Lit.int .i64 n).wf = true := by
    show (decide (IntKind.i64.min ≤ n) && decide (n ≤ IntKind.i64.max)) = true
    have h1 : IntKind.i64.min = -9223372036854775808 := rfl
    have h2 : IntKind.i64.max = 9223372036854775807 := rfl
    rw [h1, h2]
    simp only [Bool.and_eq_true, decide_eq_true_eq]
    omega
  simp [Program.keyLits, Try.underlying3, hw]
theorem gate_key (t : WGate) : ∃ l, keyOf Try.prog 74 t.val = some l := by
  obtain ⟨d, hd⟩ : ∃ d, Try.prog.types.size = d + 1 := ⟨Try.prog.types.size - 1, by have : 0 < Try.prog.types.size := of_decide_eq_true (by kernel_rfl); omega⟩
  obtain ⟨⟨k, a, b⟩, ⟨h1, h2, h3, h4, h5⟩⟩ := t
  dsimp only at h1 h2 h3 h4 h5
  refine Option.isSome_iff_exists.1 ?_
  show (keyOf Try.prog 74 (.agg #[.int .i64 (k : Nat), .int .i64 a, .int .i64 b])).isSome = true
  rw [keyOf, Try.underlying74]
  simp only []
  rw [if_pos (by rw [keyType_gate]; simp [Value.formed, Try.underlying74, cells_gate]), hd]
  unfold Program.keyLits
  simp [Try.underlying74, Value.cells, cells_gate, cells_int, lits_intI d (k : Int) (by omega) (by omega), lits_intI d a h2 h3, lits_intI d b h4 h5]
theorem gate_ops : KeyOps Try.prog 74 WGate.val where
  inj := by
    rintro ⟨⟨k, a, b⟩, hx⟩ ⟨⟨k', a', b'⟩, hy⟩ h
    simp only [WGate.val, Value.agg.injEq] at h
    simp at h
    obtain ⟨e1, e2, e3⟩ := h
    have e : (⟨k, a, b⟩ : Gate) = ⟨k', a', b'⟩ := by simp only [Gate.mk.injEq]; omega
    injection e with e1 e2 e3
    subst e1 e2 e3
    rfl
  check w em x := by obtain ⟨l, h⟩ := gate_key x; exact law_gate.check w em h
  find w x es hes := by
    obtain ⟨l, h⟩ := gate_key x
    exact law_gate.find w h es fun e he => by obtain ⟨y, hy⟩ := hes e he; rw [hy]; exact gate_key y
  stays w x := by obtain ⟨l, h⟩ := gate_key x; exact law_gate.stays w h
/-- What is known of gates. -/
def gposOf (gs : List Gate) : WGate → Option Value := fun x => if x.g ∈ gs then some (.int .i64 (gvar gs x.g)) else none
end Go.Proofs.Ytgnahjadjgjecaa
set_option linter.unusedVariables false
set_option linter.unusedSimpArgs false
namespace Go.Proofs.Ytgnahjadjgjecaa
open Go.RowKit Go.Maps Go.MapKept

theorem Own.blocks {α : Type} {B e : Nat} {R R' : Rep α} {w w' : World} {v : Value} {xs : List α} (h : Own B e R w v xs) (hk : ∀ g, v.ownBlock = some g → w'.heap[g]? = w.heap[g]?) (hR : ∀ u x, R w u x → R' w' u x) : Own B e R' w' v xs := by
  obtain ⟨vs, h1, h2, h3⟩ := h
  refine ⟨vs, h1, ?_, fun k u hu => ?_⟩
  · refine ⟨h2.1, ?_⟩
    rcases h2.2 with hl | ⟨g, cap, cur, rfl, hg, hh, r⟩
    · exact Or.inl hl
    · exact Or.inr ⟨g, cap, cur, rfl, hg, (hk g rfl).trans hh, r⟩
  · obtain ⟨u', e1, e2⟩ := h3 k u hu
    exact ⟨u', e1, hR _ _ e2⟩
theorem OwnN.blocks {α : Type} {B e n : Nat} {enc : α → List Value} {w w' : World} {v : Value} {xs : List α} (h : OwnN B e n enc w v xs) (hk : ∀ g, v.ownBlock = some g → w'.heap[g]? = w.heap[g]?) : OwnN B e n enc w' v xs := by
  refine ⟨h.1, ?_⟩
  rcases h.2 with hl | ⟨g, cap, cur, rfl, hg, hh, r⟩
  · exact Or.inl hl
  · exact Or.inr ⟨g, cap, cur, rfl, hg, (hk g rfl).trans hh, r⟩
/-- A clause's row, of the query's own. -/
def ClR (K : Nat → Prop) : Rep (List Int) := fun w v c => Own 0 3 I64 w v c ∧ ∀ g, v.ownBlock = some g → ¬ K g ∧ g < w.heap.size
/-- A query's cells, and what lies behind them. -/
def QIn (K : Nat → Prop) (w : World) (q : Nat) (gs : List Gate) (cs : List (List Int)) (vL vG : Value) (m : Nat) : Prop :=
  w.heap[q]? = some (.cells #[.int .i64 ((gs.length : Int) + 1), vL, vG, .map (some m)] 50 (0, 0)) ∧
    Own 0 23 (ClR K) w vL cs ∧ (∀ g, vL.ownBlock = some g → ¬ K g) ∧ OwnN 0 74 3 Gate.three w vG gs ∧ (∀ g, vG.ownBlock = some g → ¬ K g) ∧
    MapAt WGate.val w m (gposOf gs) ∧ ¬ K m ∧ ¬ K q ∧ (∀ i, K i → i < w.heap.size) ∧ (∀ g ∈ gs, g.WF) ∧ gs.Nodup
/-- It stays where none of its blocks turns. -/
theorem QIn.change {K K' S : Nat → Prop} {w w' : World} {q : Nat} {gs : List Gate} {cs : List (List Int)} {vL vG : Value} {m : Nat} (h : QIn K w q gs cs vL vG m) (hk : Kept S w w') (hS : ∀ i, i < w.heap.size → ¬ K i → S i) (hin : ∀ i, K' i → i < w'.heap.size) (hsub : ∀ i, i < w.heap.size → ¬ K i → ¬ K' i) : QIn K' w' q gs cs vL vG m := by
  obtain ⟨h1, h2, h3, h4, h5, h6, h7, h8, h9, h10, h11⟩ := h
  have hlt := (Array.getElem?_eq_some_iff.1 h1).1
  have hb : ∀ i, i < w.heap.size → ¬ K i → w'.heap[i]? = w.heap[i]? := fun i hi hn => hk.block i hi (hS i hi hn)
  have lL : ∀ g, vL.ownBlock = some g → g < w.heap.size := fun g hg => by obtain ⟨_, cur, hc⟩ := h2.typed hg; exact (Array.getElem?_eq_some_iff.1 hc).1
  have lG : ∀ g, vG.ownBlock = some g → g < w.heap.size := fun g hg => by obtain ⟨_, cur, hc⟩ := h4.typed hg; exact (Array.getElem?_eq_some_iff.1 hc).1
  refine ⟨(hb q hlt h8).trans h1, h2.blocks (fun g hg => hb g (lL g hg) (h3 g hg)) (fun u x hx => ?_), fun g hg => hsub g (lL g hg) (h3 g hg), h4.blocks (fun g hg => hb g (lG g hg) (h5 g hg)), fun g hg => hsub g (lG g hg) (h5 g hg),
    h6.block (hb m h6.lt h7), hsub m h6.lt h7, hsub q hlt h8, hin, h10, h11⟩
  exact ⟨hx.1.blocks (fun g hg => hb g (hx.2 g hg).2 (hx.2 g hg).1) (fun _ _ hi => hi), fun g hg => ⟨hsub g (hx.2 g hg).2 (hx.2 g hg).1, Nat.lt_of_lt_of_le (hx.2 g hg).2 hk.size⟩⟩
theorem QIn.below {K : Nat → Prop} {w w' : World} {q : Nat} {gs : List Gate} {cs : List (List Int)} {vL vG : Value} {m : Nat} (h : QIn K w q gs cs vL vG m) (hb : Below w.heap.size w w') : QIn K w' q gs cs vL vG m :=
  QIn.change h (Kept.below (K := fun _ => True) hb) (fun _ _ _ => trivial) (fun i hi => Nat.lt_of_lt_of_le (h.2.2.2.2.2.2.2.2.1 i hi) hb.size) (fun _ _ hn => hn)
/-- A query at block q has the gates gs and the clauses cs; none of its blocks is in K. -/
structure QAt (K : Nat → Prop) (w : World) (q : Nat) (gs : List Gate) (cs : List (List Int)) : Prop where mk_ ::
  out : ∃ vL vG m, QIn K w q gs cs vL vG m
section
variable {K : Nat → Prop} {w w' : World} {q : Nat} {gs : List Gate} {cs : List (List Int)} (h : QAt K w q gs cs)
include h
theorem QAt.lt : q < w.heap.size := by
  obtain ⟨vL, vG, m, hb, _⟩ := h.out
  exact (Array.getElem?_eq_some_iff.1 hb).1
theorem QAt.in_ : ∀ i, K i → i < w.heap.size := by
  obtain ⟨vL, vG, m, _, _, _, _, _, _, _, _, h, _⟩ := h.out
  exact h
theorem QAt.notK : ¬ K q := by
  obtain ⟨vL, vG, m, _, _, _, _, _, _, _, h, _⟩ := h.out
  exact h
theorem QAt.wf : ∀ g ∈ gs, g.WF := by
  obtain ⟨vL, vG, m, _, _, _, _, _, _, _, _, _, h, _⟩ := h.out
  exact h
theorem QAt.nodup : gs.Nodup := by
  obtain ⟨vL, vG, m, _, _, _, _, _, _, _, _, _, _, h⟩ := h.out
  exact h
theorem QAt.change {K' S : Nat → Prop} (hk : Kept S w w') (hS : ∀ i, i < w.heap.size → ¬ K i → S i) (hin : ∀ i, K' i → i < w'.heap.size) (hsub : ∀ i, i < w.heap.size → ¬ K i → ¬ K' i) : QAt K' w' q gs cs := by
  obtain ⟨vL, vG, m, h⟩ := h.out
  exact ⟨vL, vG, m, h.change hk hS hin hsub⟩
theorem QAt.mono {K' : Nat → Prop} (hk : ∀ i, K' i → K i) : QAt K' w q gs cs :=
  QAt.change h (Kept.refl (fun _ => True) w) (fun _ _ _ => trivial) (fun i hi => QAt.in_ h i (hk i hi)) (fun i _ hn hi => hn (hk i hi))
theorem QAt.more (hb : Below w.heap.size w w') : QAt (More K w w') w' q gs cs :=
  QAt.change h (Kept.below (K := fun _ => True) hb) (fun _ _ _ => trivial) (fun i hi => by
    rcases hi with hi | hi
    · exact Nat.lt_of_lt_of_le (QAt.in_ h i hi) hb.size
    · exact hi.2) (fun i hi hn hm => by
    rcases hm with hm | hm
    · exact hn hm
    · omega)
theorem QAt.below (hb : Below w.heap.size w w') : QAt K w' q gs cs := QAt.mono (QAt.more h hb) fun i hi => Or.inl hi
theorem QAt.grow (hb : Below w.heap.size w w') : ∃ K', QAt K' w' q gs cs ∧ (∀ i, K i → K' i) ∧ (∀ i, w.heap.size ≤ i → i < w'.heap.size → K' i) := ⟨More K w w', QAt.more h hb, fun _ => Or.inl, fun i h1 h2 => Or.inr ⟨h1, h2⟩⟩
theorem QAt.moved {g : Nat} (hk : Kept (fun i => i ≠ g) w w') (hg : K g) : QAt K w' q gs cs :=
  QAt.change h hk (fun i _ hn e => hn (by rw [e]; exact hg)) (fun i hi => Nat.lt_of_lt_of_le (QAt.in_ h i hi) hk.size) (fun _ _ hn => hn)
end
end Go.Proofs.Ytgnahjadjgjecaa
set_option linter.unusedVariables false
set_option linter.unusedSimpArgs false
namespace Go.Proofs.Ytgnahjadjgjecaa
open Go.RowKit Go.Maps Go.MapKept

section
variable {P : Program} {ops : Array Oper} {rest : List Oper} {o : Oper} {a : Act} {Q : Exit → Act → World → Prop}
theorem wp_pushB {α : Type} {K : Act → World → Prop} {w0 W : World} (B : Nat) (s x : Operand) (t e : TypeId) (z : Value) (bytes : Nat)
    (ho : o.op = .call { callee := .builtin .append, args := #[s, x], argTypes := #[t, t] })
    (ht : P.underlying t = some (.slice e)) (hinfo : (P.info? e).map (fun i => (i.zero, i.size, i.bytes)) = some (some z, 1, bytes)) (hz : z.cells.size = 1) (hb0 : 0 < bytes)
    {R : Rep α} (T : List TypeId) {v : Value} {xs : List α} {y : Value} {y0 : α}
    (HO : Own B e R W v xs) (HR : Stable B T R) (he : e ∉ T) (hy : R W y y0) (hs : a.eval s = v) (hx : a.eval x = .slice (some ⟨W.heap.size, 0, none⟩) 1 1) (h1 : y.oneCell' = true) (HB : Below B w0 W) (hbase : B ≤ W.heap.size) (hl : (xs.length + 1) * bytes ≤ 140737488355328)
    (h : ∀ v1 w1, Own B e R w1 v1 (xs ++ [y0]) → Below B w0 w1 → W.grownBy w1 v.ownBlock → (v1.ownBlock = v.ownBlock ∨ ∃ g, v1.ownBlock = some g ∧ W.heap.size ≤ g) → K (a.put o.dst v1) w1) :
    o.wp P a (W.alloc (.cells #[y] e)) K Q := by
  obtain ⟨i0, hi, hzz⟩ := Option.map_eq_some_iff.1 hinfo
  simp only [Prod.mk.injEq] at hzz
  obtain ⟨hz0, hz1, hz2⟩ := hzz
  have HO' := HO
  obtain ⟨vs, hv1, hv2, hv3⟩ := HO'
  have hlen : xs.length + 1 ≤ 140737488355328 := Nat.le_trans (Nat.le_mul_of_pos_right _ hb0) hl
  obtain ⟨v1, w1, hr, hown, hg, h4, h5⟩ := run_append_own_at (P := P) (W.alloc (.cells #[y] e)) B t o.type e i0 z 1 bytes ht hi hz0 hz1 hz2 hz (by omega) v xs.length vs (hv2.alloc _) ⟨W.heap.size, 0, none⟩ 1 1 [y] rfl (cell_one_new W y e) (by simpa using h1) (by simp only [maxLen]; omega) hl (by simp; omega)
  unfold Oper.wp execOp
  simp only [ho, resolve, invoke, builtin, Sem.run_bind, Sem.run_pure, Result.andThen_ok, List.map_toArray, List.map_cons, List.map_nil, hs, hx, hr]
  have hg2 : W.grownBy w1 v.ownBlock := World.grownBy.trans (World.grownBy_alloc W _ _) hg
  have hq : Quiet B T W w1 := HO.quiet hg2 (Nat.le_refl _) he
  refine h v1 w1 ⟨vs ++ [y], by simp [hv1], by simpa using hown, ?_⟩ (HO.below HB hg2 hbase) hg2 (h5.imp id fun e => ⟨_, e, by simp⟩)
  intro k u hk
  rw [List.getElem?_append] at hk
  split at hk
  · rename_i hlt
    obtain ⟨u', hu, hxu⟩ := hv3 k u hk
    exact ⟨u', by rw [List.getElem?_append, if_pos (by omega)]; exact hu, HR _ _ _ _ hq hxu⟩
  · rename_i hlt
    have hk0 : k - xs.length = 0 := by
      rcases Nat.eq_zero_or_pos (k - xs.length) with h0 | h0
      · exact h0
      · rw [List.getElem?_eq_none (by simp; omega)] at hk; cases hk
    rw [hk0] at hk
    simp only [List.getElem?_cons_zero, Option.some.injEq] at hk
    subst hk
    exact ⟨y, by rw [List.getElem?_append, if_neg (by omega), show k - vs.length = 0 by omega]; rfl, HR _ _ _ _ hq hy⟩
theorem step_pushB {α : Type} {K : Act → World → Prop} {E : Prop} {w0 W : World} (B : Nat) (hgd : o.guard = none) (s x : Operand) (t e : TypeId) (z : Value) (bytes : Nat)
    (ho : o.op = .call { callee := .builtin .append, args := #[s, x], argTypes := #[t, t] })
    (ht : P.underlying t = some (.slice e)) (hinfo : (P.info? e).map (fun i => (i.zero, i.size, i.bytes)) = some (some z, 1, bytes)) (hz : z.cells.size = 1) (hb0 : 0 < bytes)
    {R : Rep α} (T : List TypeId) {v : Value} {xs : List α} {y : Value} {y0 : α}
    (HO : Own B e R W v xs) (HR : Stable B T R) (he : e ∉ T) (hy : R W y y0) (hs : a.eval s = v) (hx : a.eval x = .slice (some ⟨W.heap.size, 0, none⟩) 1 1) (h1 : y.oneCell' = true) (HB : Below B w0 W) (hbase : B ≤ W.heap.size) (hl : (xs.length + 1) * bytes ≤ 140737488355328)
    (h : ∀ v1 w1, Own B e R w1 v1 (xs ++ [y0]) → Below B w0 w1 → W.grownBy w1 v.ownBlock → (v1.ownBlock = v.ownBlock ∨ ∃ g, v1.ownBlock = some g ∧ W.heap.size ≤ g) → K (a.put o.dst v1) w1) :
    if Region.wanted o (yielded ops a.tmps) = true then o.wp P a (W.alloc (.cells #[y] e)) K Q else E := by
  rw [if_pos (by simp [Region.wanted, hgd])]
  exact wp_pushB B s x t e z bytes ho ht hinfo hz hb0 T HO HR he hy hs hx h1 HB hbase hl h
end
theorem infoB_int : (Try.prog.info? 3).map (fun i => (i.zero, i.size, i.bytes)) = some (some (.int .i64 0), 1, 8) := by kernel_rfl
theorem infoB_row : (Try.prog.info? 23).map (fun i => (i.zero, i.size, i.bytes)) = some (some (.slice none 0 0), 1, 24) := by kernel_rfl
set_option maxRecDepth 100000 in
theorem iclone_any (B : Nat) (e : TypeId) (v : Value) (c : List Int) (hl : c.length < 1000000) (w : World) (h : Sl B e I64 w v c) :
    Calls Try.prog 28 #[v] w fun r w' => ∃ u, r = .returned u ∧ Own w.heap.size 3 I64 w' u c ∧ Below w.heap.size w w' := by
  have h1 : Sl B e I64 (w.alloc (.cells #[] 3)) v c := Sl.stable (stable_i64 _ _) (T := [e]) (by simp) _ _ _ _ (Quiet.below ((Below.refl _ _).alloc (Nat.le_refl _) _)) h
  obtain ⟨A, cp, rfl, q1, q2, q3⟩ := h.open_
  cases A with
  | none =>
    obtain rfl : cp = 0 := q3 rfl
    obtain rfl : c = [] := List.eq_nil_of_length_eq_zero (by omega)
    have hq : ∀ w1 : World, (binOp .eql 23 (.slice none 0 0) (.slice none 0 0)).run Try.prog w1 = .ok (.bool true) w1 := fun w1 => Lib.run_eql_slice_nil w1 23 _ none 0 0 0 0 Try.underlying23
    go_enter Try.func28, Try.ntmps28
    go_wp2_with fail
    go_ret
    exact ⟨_, rfl, Own.nil _ _ _ _, Below.refl _ _⟩
  | some A =>
    have hq : ∀ w1 : World, (binOp .eql 23 (.slice (some A) c.length cp) (.slice none 0 0)).run Try.prog w1 = .ok (.bool false) w1 := fun w1 => Lib.run_eql_slice_nil w1 23 _ (some A) c.length cp 0 0 Try.underlying23
    go_enter Try.func28, Try.ntmps28
    go_wp2_with (first | (at_builtin; refine wpList_app (w0 := w) w.heap.size rfl _ _ 23 3 _ 8 rfl Try.underlying23 infoB_int rfl (by decide) [] (Own.empty' (w := w) (R := I64) (Nat.le_refl _) rfl) (stable_i64 _ _) (by decide) h1 rfl rfl (fun _ _ h => by rw [h.1]; rfl) ((Below.refl _ _).alloc (Nat.le_refl _) _) (by simp) (by simp only [List.length_nil]; omega) ?_; intro v1 w1 ho1 hB1 hg1; rw [List.nil_append] at ho1; obtain ⟨A1, c1, rfl, _, _, _⟩ := (ho1.toSl 0).open_) | fail)
    go_ret
    exact ⟨_, rfl, ho1, hB1⟩
theorem stable_clR (K : Nat → Prop) : Stable 0 [3] (ClR K) := fun w w' v c hq h => ⟨h.1.move (stable_i64 _ _) hq (by simp), fun g hg => ⟨(h.2 g hg).1, by
  obtain ⟨row, hgr, _⟩ := hq.out
  exact Nat.lt_of_lt_of_le (h.2 g hg).2 hgr.size⟩⟩
theorem Own.own_lt {α : Type} {B e : Nat} {R : Rep α} {w : World} {v : Value} {xs : List α} (h : Own B e R w v xs) {g : Nat} (hg : v.ownBlock = some g) : B ≤ g ∧ g < w.heap.size := by
  obtain ⟨hB, cur, hc⟩ := h.typed hg
  exact ⟨hB, (Array.getElem?_eq_some_iff.1 hc).1⟩
theorem qset (w : World) (g i : Nat) (v : Value) : Kept (fun i => i ≠ g) w (w.setCell ⟨g, i, none⟩ v) := Kept.grown (grown_set w g i v) fun h => h rfl
theorem type_ne {w : World} {a b : Nat} {x y : Array Value} {s t : TypeId} {f h : Nat × Nat} (ha : w.heap[a]? = some (.cells x s f)) (hb : w.heap[b]? = some (.cells y t h)) (hst : s ≠ t) : a ≠ b := by
  rintro rfl
  rw [ha] at hb
  injection hb with hb
  injection hb with _ hb _
  exact hst hb
/-- A query behind the append of a clause. -/
theorem QIn.pushed {K : Nat → Prop} {w1 w5 : World} {q m : Nat} {gs : List Gate} {cs : List (List Int)} {c : List Int} {vL vG v5 : Value} (hQ : QIn K w1 q gs cs vL vG m) (ho : Own 0 23 (ClR K) w5 v5 (cs ++ [c])) (hg : w1.grownBy w5 vL.ownBlock)
    (hn : v5.ownBlock = vL.ownBlock ∨ ∃ g, v5.ownBlock = some g ∧ w1.heap.size ≤ g) : QAt K (w5.setCell ⟨q, 1, none⟩ v5) q gs (cs ++ [c]) ∧ Kept K w1 (w5.setCell ⟨q, 1, none⟩ v5) := by
  have hb5 := hQ.2.1.other hg hQ.1 (by simp)
  have hset := blk_set hb5 1 v5
  have ks := qset w5 q 1 v5
  obtain ⟨h1, h2, h3, h4, h5, h6, h7, h8, h9, h10, h11⟩ := hQ
  have hsz := hg.size
  have k5 : Kept K w1 (w5.setCell ⟨q, 1, none⟩ v5) := (Kept.grownO hg h3).trans (ks.mono fun i hi e => h8 (by rw [← e]; exact hi))
  have hG : ∀ g, vG.ownBlock = some g → (w5.setCell ⟨q, 1, none⟩ v5).heap[g]? = w1.heap[g]? := fun g hgg => by
    obtain ⟨_, cur, hc⟩ := h4.typed hgg
    have hlt := (Array.getElem?_eq_some_iff.1 hc).1
    refine (ks.block g (by omega) (type_ne hc h1 (by decide))).trans (hg.block g hlt fun e => ?_)
    obtain ⟨_, cur2, hc2⟩ := h2.typed e.symm
    exact type_ne hc hc2 (by decide) rfl
  have hM : (w5.setCell ⟨q, 1, none⟩ v5).heap[m]? = w1.heap[m]? := by
    obtain ⟨es, clock, hm, _⟩ := id h6
    have hlt := h6.lt
    refine (ks.block m (by omega) (fun e => ?_)).trans (hg.block m hlt fun e => ?_)
    · rw [e, h1] at hm; cases hm
    · obtain ⟨_, cur2, hc2⟩ := h2.typed e.symm
      rw [hm] at hc2; cases hc2
  refine ⟨⟨v5, vG, m, ?_, ho.blocks (fun g hgg => ?_) (fun u x hx => ⟨hx.1.blocks (fun g hgg => ?_) (fun _ _ hi => hi), fun g hgg => ⟨(hx.2 g hgg).1, by have := (hx.2 g hgg).2; have := ks.size; omega⟩⟩), fun g hgg => ?_, h4.blocks hG, h5, h6.block hM, h7, h8, fun i hi => by have := h9 i hi; have := ks.size; omega, h10, h11⟩, k5⟩
  · rw [hset]
    rfl
  · obtain ⟨_, cur, hc⟩ := ho.typed hgg
    exact ks.block g (Array.getElem?_eq_some_iff.1 hc).1 (type_ne hc hb5 (by decide))
  · obtain ⟨_, cur, hc⟩ := hx.1.typed hgg
    exact ks.block g (Array.getElem?_eq_some_iff.1 hc).1 (type_ne hc hb5 (by decide))
  · rcases hn with e | ⟨g', e, hge⟩
    · exact h3 g (by rw [← e]; exact hgg)
    · rw [hgg] at e
      injection e with e
      intro hk
      have := h9 g hk
      omega
set_option maxRecDepth 100000 in
set_option maxHeartbeats 2000000 in
theorem clause_any (K : Nat → Prop) (q : Nat) (gs : List Gate) (cs : List (List Int)) (hcs : cs.length < 1000000) (B : Nat) (e : TypeId) (v : Value) (c : List Int) (hl : c.length < 1000000) (w : World) (hv : Sl B e I64 w v c) (h : QAt K w q gs cs) :
    Calls Try.prog 12 #[.pointer (some ⟨q, 0, none⟩), v] w fun r w' => r = .returned (.tuple #[]) ∧ QAt K w' q gs (cs ++ [c]) ∧ Kept K w w' := by
  obtain ⟨vL, vG, m, hI⟩ := h.out
  have hin := hI.2.2.2.2.2.2.2.2.1
  obtain ⟨A, cap, rfl, q1, q2, q3⟩ := (hI.2.1.toSl 0).open_
  have hlt : (decide ((1048576 : Int) ≤ (cs.length : Int))) = false := by simp; omega
  have d1 : w.cell? ⟨q, 1, none⟩ = some (.slice A cs.length cap) := cell_of hI.1 1
  have bD : Below w.heap.size w w.drew := below_drewN (Below.refl _ w) 1
  have hD := hI.below bD
  have e1 : w.drew.cell? ⟨q, 1, none⟩ = some (.slice A cs.length cap) := cell_of hD.1 1
  have hv1 : Sl B e I64 w.drew v c := Sl.stable (stable_i64 _ _) (T := [e]) (by simp) _ _ _ _ (Quiet.below bD) hv
  have hC := iclone_any B e v c hl w.drew hv1
  go_enter Try.func12, Try.ntmps12
  go_wp2_with fail
  go_region_law (first
    | (refine step_pushB (w0 := w1) (W := w1) 0 (by rfl) (.tmp 18) (.tmp 21) 44 23 _ 24 (by rfl) Try.underlying44 infoB_row (by rfl) (by decide) [3] hQ1.2.1 (stable_clR K) (by decide) hRow (by rfl) (by rfl) (by rfl) (Below.refl _ _) (Nat.zero_le _) (by omega) ?_; intro v5 w5 ho5 hB5 hg5 hn5; have hb5 := hQ1.2.1.other hg5 hQ1.1 (by simp); have f1 := cell_of hb5 1; simp only [List.getElem?_toArray, List.getElem?_cons_zero, List.getElem?_cons_succ] at f1; have f2 := frozen_of hb5 1; obtain ⟨A5, c5, rfl, _, _, _⟩ := (ho5.toSl 0).open_)
    | (go_simp; go_at_call 28; refine hC.mono ?_; rintro r w1 ⟨u, rfl, hu, b1⟩; have hQ1 := hD.below b1; have x1 : w1.cell? ⟨q, 1, none⟩ = some (.slice A cs.length cap) := cell_of hQ1.1 1; have hRow : ClR K w1 u c := ⟨hu.lower (Nat.zero_le _), fun g hg => ⟨fun hk => (by have := (hu.own_lt hg).1; have := hin g hk; have := bD.size; omega), (hu.own_lt hg).2⟩⟩; obtain ⟨Au, cu, rfl, _, _, _⟩ := (hu.toSl 0).open_; have x2 := cell_alloc0 x1 (.cells #[.slice Au c.length cu] 23)))
  all_goals go_wp2_with fail
  all_goals first | go_end0 | (simp only [Exit.inBlock, Exit.then]; refine bodyPost_ret (results_none rfl _ _ _) rfl ?_) | refine bodyPost_ret (results_none rfl _ _ _) rfl ?_
  all_goals (
    obtain ⟨g1, g2⟩ := hQ1.pushed ho5 hg5 hn5
    rw [show (cs ++ [c]).length = cs.length + 1 by simp] at g1 g2
    exact ⟨rfl, g1, (Kept.below (bD.trans (b1.mono bD.size))).trans g2⟩)
end Go.Proofs.Ytgnahjadjgjecaa
set_option linter.unusedVariables false
set_option linter.unusedSimpArgs false
namespace Go.Proofs.Ytgnahjadjgjecaa
open Go.RowKit Go.Maps Go.MapKept

/-- A query's cells, its count n and its map f on their own. -/
def QM (K : Nat → Prop) (w : World) (q : Nat) (n : Int) (f : WGate → Option Value) (gs : List Gate) (cs : List (List Int)) (vL vG : Value) (m : Nat) : Prop :=
  w.heap[q]? = some (.cells #[.int .i64 n, vL, vG, .map (some m)] 50 (0, 0)) ∧
    Own 0 23 (ClR K) w vL cs ∧ (∀ g, vL.ownBlock = some g → ¬ K g) ∧ OwnN 0 74 3 Gate.three w vG gs ∧ (∀ g, vG.ownBlock = some g → ¬ K g) ∧
    MapAt WGate.val w m f ∧ ¬ K m ∧ ¬ K q ∧ (∀ i, K i → i < w.heap.size)
theorem QIn.qm {K : Nat → Prop} {w : World} {q : Nat} {gs : List Gate} {cs : List (List Int)} {vL vG : Value} {m : Nat} (h : QIn K w q gs cs vL vG m) : QM K w q ((gs.length : Int) + 1) (gposOf gs) gs cs vL vG m := by
  obtain ⟨h1, h2, h3, h4, h5, h6, h7, h8, h9, h10, h11⟩ := h
  exact ⟨h1, h2, h3, h4, h5, h6, h7, h8, h9⟩
theorem ClR.blocks {K : Nat → Prop} {w w' : World} {v : Value} {c : List Int} (h : ClR K w v c) (hk : ∀ g, v.ownBlock = some g → w'.heap[g]? = w.heap[g]?) (hs : w.heap.size ≤ w'.heap.size) : ClR K w' v c :=
  ⟨h.1.blocks hk (fun _ _ hi => hi), fun g hg => ⟨(h.2 g hg).1, Nat.lt_of_lt_of_le (h.2 g hg).2 hs⟩⟩
section
variable {K : Nat → Prop} {w w' : World} {q : Nat} {n : Int} {f : WGate → Option Value} {gs : List Gate} {cs : List (List Int)} {vL vG : Value} {m : Nat} (h : QM K w q n f gs cs vL vG m)
include h
/-- None of its blocks turned. -/
theorem QM.same (hk : Kept (fun i => ¬ K i) w w') : QM K w' q n f gs cs vL vG m := by
  obtain ⟨h1, h2, h3, h4, h5, h6, h7, h8, h9⟩ := h
  have lt : ∀ {g : Nat} {o : Obj}, w.heap[g]? = some o → g < w.heap.size := fun e => (Array.getElem?_eq_some_iff.1 e).1
  refine ⟨(hk.block q (lt h1) h8).trans h1, h2.blocks (fun g hg => ?_) (fun u x hx => hx.blocks (fun g hg => hk.block g (hx.2 g hg).2 (hx.2 g hg).1) hk.size), h3, h4.blocks (fun g hg => ?_), h5, h6.block (hk.block m h6.lt h7), h7, h8, fun i hi => Nat.lt_of_lt_of_le (h9 i hi) hk.size⟩
  · obtain ⟨_, cur, hc⟩ := h2.typed hg
    exact hk.block g (lt hc) (h3 g hg)
  · obtain ⟨_, cur, hc⟩ := h4.typed hg
    exact hk.block g (lt hc) (h5 g hg)
theorem QM.drewN (k : Nat) : QM K (w.drewN k) q n f gs cs vL vG m := by
  obtain ⟨h1, h2, h3, h4, h5, h6, h7, h8, h9⟩ := h
  exact ⟨h1, h2.blocks (fun _ _ => rfl) (fun u x hx => hx.blocks (fun _ _ => rfl) (Nat.le_refl _)), h3, h4.blocks (fun _ _ => rfl), h5, h6.block rfl, h7, h8, h9⟩
theorem QM.drew : QM K w.drew q n f gs cs vL vG m := by
  obtain ⟨h1, h2, h3, h4, h5, h6, h7, h8, h9⟩ := h
  exact ⟨h1, h2.blocks (fun _ _ => rfl) (fun u x hx => hx.blocks (fun _ _ => rfl) (Nat.le_refl _)), h3, h4.blocks (fun _ _ => rfl), h5, h6.block rfl, h7, h8, h9⟩
theorem QM.nem : m ≠ q := by
  rintro rfl
  obtain ⟨h1, _, _, _, _, ⟨es, cl, hc, _⟩, _⟩ := h
  rw [h1] at hc
  cases hc
/-- Behind the store of the count. -/
theorem QM.count (n' : Int) : QM K (w.setCell ⟨q, 0, none⟩ (.int .i64 n')) q n' f gs cs vL vG m ∧ Kept K w (w.setCell ⟨q, 0, none⟩ (.int .i64 n')) := by
  have hne := h.nem
  obtain ⟨h1, h2, h3, h4, h5, h6, h7, h8, h9⟩ := h
  have ks := qset w q 0 (.int .i64 n')
  have lt : ∀ {g : Nat} {o : Obj}, w.heap[g]? = some o → g < w.heap.size := fun e => (Array.getElem?_eq_some_iff.1 e).1
  have hset := blk_set h1 0 (.int .i64 n')
  refine ⟨⟨hset, h2.blocks (fun g hg => ?_) (fun u x hx => hx.blocks (fun g hg => ?_) ks.size), h3, h4.blocks (fun g hg => ?_), h5, h6.block (ks.block m h6.lt hne), h7, h8, fun i hi => Nat.lt_of_lt_of_le (h9 i hi) ks.size⟩, ks.mono fun i hi e => h8 (by rw [← e]; exact hi)⟩
  · obtain ⟨_, cur, hc⟩ := h2.typed hg
    exact ks.block g (lt hc) (type_ne hc h1 (by decide))
  · obtain ⟨_, cur, hc⟩ := hx.1.typed hg
    exact ks.block g (lt hc) (type_ne hc h1 (by decide))
  · obtain ⟨_, cur, hc⟩ := h4.typed hg
    exact ks.block g (lt hc) (type_ne hc h1 (by decide))
/-- Behind the store into the map. -/
theorem QM.store {f' : WGate → Option Value} (hm : MapAt WGate.val w' m f') (hg : w.grownBy w' (some m)) : QM K w' q n f' gs cs vL vG m ∧ Kept K w w' := by
  have hne := h.nem
  obtain ⟨h1, h2, h3, h4, h5, h6, h7, h8, h9⟩ := h
  have ks : Kept (fun i => i ≠ m) w w' := Kept.grown hg fun h => h rfl
  have lt : ∀ {g : Nat} {o : Obj}, w.heap[g]? = some o → g < w.heap.size := fun e => (Array.getElem?_eq_some_iff.1 e).1
  have nm : ∀ {g : Nat} {a : Array Value} {t : TypeId} {fz : Nat × Nat}, w.heap[g]? = some (.cells a t fz) → g ≠ m := by
    rintro g a t fz hc rfl
    obtain ⟨es, cl, hc2, _⟩ := h6
    rw [hc] at hc2
    cases hc2
  refine ⟨⟨(ks.block q (lt h1) (nm h1)).trans h1, h2.blocks (fun g hg => ?_) (fun u x hx => hx.blocks (fun g hg => ?_) ks.size), h3, h4.blocks (fun g hg => ?_), h5, hm, h7, h8, fun i hi => Nat.lt_of_lt_of_le (h9 i hi) ks.size⟩, ks.mono fun i hi e => h7 (by rw [← e]; exact hi)⟩
  · obtain ⟨_, cur, hc⟩ := h2.typed hg
    exact ks.block g (lt hc) (nm hc)
  · obtain ⟨_, cur, hc⟩ := hx.1.typed hg
    exact ks.block g (lt hc) (nm hc)
  · obtain ⟨_, cur, hc⟩ := h4.typed hg
    exact ks.block g (lt hc) (nm hc)
/-- Behind the append of a gate, ahead of the store of its slice. -/
theorem QM.kept_push (hg : w.grownBy w' vG.ownBlock) : w'.heap[q]? = some (.cells #[.int .i64 n, vL, vG, .map (some m)] 50 (0, 0)) ∧ Kept K w w' := by
  obtain ⟨h1, h2, h3, h4, h5, h6, h7, h8, h9⟩ := h
  refine ⟨(hg.block q (Array.getElem?_eq_some_iff.1 h1).1 fun e => ?_).trans h1, Kept.grownO hg h5⟩
  obtain ⟨_, cur, hc⟩ := h4.typed e.symm
  exact type_ne hc h1 (by decide) rfl
theorem QM.push {g : Gate} {v5 : Value} (ho : OwnN 0 74 3 Gate.three w' v5 (gs ++ [g])) (hg : w.grownBy w' vG.ownBlock) (hn : v5.ownBlock = vG.ownBlock ∨ ∃ b, v5.ownBlock = some b ∧ w.heap.size ≤ b) :
    QM K (w'.setCell ⟨q, 2, none⟩ v5) q n f (gs ++ [g]) cs vL v5 m ∧ Kept K w (w'.setCell ⟨q, 2, none⟩ v5) := by
  have hne := h.nem
  obtain ⟨hq', hk'⟩ := h.kept_push hg
  obtain ⟨h1, h2, h3, h4, h5, h6, h7, h8, h9⟩ := h
  have ks := qset w' q 2 v5
  have lt : ∀ {g : Nat} {o : Obj}, w.heap[g]? = some o → g < w.heap.size := fun e => (Array.getElem?_eq_some_iff.1 e).1
  have hsz := hg.size
  have other : ∀ {b : Nat} {a : Array Value} {t : TypeId} {fz : Nat × Nat}, w.heap[b]? = some (.cells a t fz) → t ≠ 74 → t ≠ 50 → (w'.setCell ⟨q, 2, none⟩ v5).heap[b]? = w.heap[b]? := by
    intro b a t fz hc t1 t2
    refine (ks.block b (by have := lt hc; omega) (type_ne hc h1 t2)).trans (hg.block b (lt hc) fun e => ?_)
    obtain ⟨_, cur, hc2⟩ := h4.typed e.symm
    exact type_ne hc hc2 t1 rfl
  have km : (w'.setCell ⟨q, 2, none⟩ v5).heap[m]? = w.heap[m]? := by
    have hlt := h6.lt
    refine (ks.block m (by omega) hne).trans (hg.block m hlt fun e => ?_)
    obtain ⟨_, cur, hc2⟩ := h4.typed e.symm
    obtain ⟨es, cl, hc, _⟩ := h6
    rw [hc] at hc2
    cases hc2
  refine ⟨⟨blk_set hq' 2 v5, h2.blocks (fun g hg => ?_) (fun u x hx => hx.blocks (fun g hg => ?_) (by have := ks.size; omega)), h3, ho.blocks (fun g hg => ?_), fun b hb => ?_, h6.block km, h7, h8, fun i hi => by have := h9 i hi; have := ks.size; omega⟩, hk'.trans (ks.mono fun i hi e => h8 (by rw [← e]; exact hi))⟩
  · obtain ⟨_, cur, hc⟩ := h2.typed hg
    exact other hc (by decide) (by decide)
  · obtain ⟨_, cur, hc⟩ := hx.1.typed hg
    exact other hc (by decide) (by decide)
  · obtain ⟨_, cur, hc⟩ := ho.typed hg
    exact ks.block g (Array.getElem?_eq_some_iff.1 hc).1 (type_ne hc hq' (by decide))
  · rcases hn with e | ⟨b', e, hle⟩
    · exact h5 b (by rw [← e]; exact hb)
    · rw [hb] at e
      injection e with e
      intro hk
      have := h9 b hk
      omega
/-- A gate has come in. -/
theorem QM.qat (hn : n = (gs.length : Int) + 1) (hf : f = gposOf gs) (hwf : ∀ x ∈ gs, x.WF) (hnd : gs.Nodup) : QAt K w q gs cs := by
  obtain ⟨h1, h2, h3, h4, h5, h6, h7, h8, h9⟩ := h
  subst hn hf
  exact ⟨vL, vG, m, h1, h2, h3, h4, h5, h6, h7, h8, h9, hwf, hnd⟩
end
theorem gpos_old {gs : List Gate} {t x : Gate} (h : x ∈ gs) : gpos (gs ++ [t]) x = gpos gs x := by
  have hlt : gpos gs x < gs.length := List.findIdx_lt_length_of_exists ⟨x, h, by simp⟩
  unfold gpos at hlt ⊢
  rw [List.findIdx_append, if_pos hlt]
theorem gposOf_push {gs : List Gate} {t : Gate} (ht : t.WF) (hn : t ∉ gs) : gposOf (gs ++ [t]) ⟨t, ht⟩ = some (.int .i64 ((gs.length : Int) + 2)) ∧ ∀ y : WGate, y ≠ ⟨t, ht⟩ → gposOf (gs ++ [t]) y = gposOf gs y := by
  constructor
  · unfold gposOf gvar
    rw [if_pos (by simp)]
    have : gpos (gs ++ [t]) t = gs.length := by
      unfold gpos
      rw [List.findIdx_append]
      have h := gpos_new hn
      unfold gpos at h
      rw [h, if_neg (by omega)]
      simp
    rw [this]
  · rintro ⟨y, hy⟩ hne
    have hyt : y ≠ t := by rintro rfl; exact hne rfl
    unfold gposOf gvar
    by_cases hm : y ∈ gs
    · rw [if_pos (by simp [hm]), if_pos hm, gpos_old hm]
    · rw [if_neg (by simp [hm, hyt]), if_neg hm]
end Go.Proofs.Ytgnahjadjgjecaa
set_option linter.unusedVariables false
set_option linter.unusedSimpArgs false
namespace Go.Proofs.Ytgnahjadjgjecaa
open Go.RowKit Go.Maps Go.MapKept

/-- A query whose clauses are those of its gates. -/
def QS (K : Nat → Prop) (w : World) (q : Nat) (gs : List Gate) : Prop := QAt K w q gs ([1] :: gclauses gs 2)
theorem three_cells {w : World} {b : Nat} {u0 u1 u2 : Value} {t : TypeId} {fz : Nat × Nat} (h : w.heap[b]? = some (.cells #[u0, u1, u2] t fz)) :
    w.cell? ⟨b, 0, none⟩ = some u0 ∧ w.cell? ⟨b, 1, none⟩ = some u1 ∧ w.cell? ⟨b, 2, none⟩ = some u2 :=
  ⟨(cell_of h 0).trans rfl, (cell_of h 1).trans rfl, (cell_of h 2).trans rfl⟩
theorem four_cells {w : World} {b : Nat} {u0 u1 u2 u3 : Value} {t : TypeId} {fz : Nat × Nat} (h : w.heap[b]? = some (.cells #[u0, u1, u2, u3] t fz)) :
    w.cell? ⟨b, 0, none⟩ = some u0 ∧ w.cell? ⟨b, 1, none⟩ = some u1 ∧ w.cell? ⟨b, 2, none⟩ = some u2 ∧ w.cell? ⟨b, 3, none⟩ = some u3 :=
  ⟨(cell_of h 0).trans rfl, (cell_of h 1).trans rfl, (cell_of h 2).trans rfl, (cell_of h 3).trans rfl⟩
def In64 (x : Int) : Prop := -9223372036854775808 ≤ x ∧ x ≤ 9223372036854775807
theorem all2_i64 (w : World) : ∀ c : List Int, (∀ x ∈ c, In64 x) → All2 I64 w (c.map (Value.int .i64)) c
  | [], _ => trivial
  | x :: c, h => ⟨⟨rfl, h x (by simp)⟩, all2_i64 w c fun y hy => h y (by simp [hy])⟩
theorem clause_lit (c : List Int) (hc : c.length ≤ 3) (hx : ∀ x ∈ c, In64 x) (K : Nat → Prop) (q : Nat) (gs : List Gate) (cs : List (List Int)) (hcs : cs.length < 1000000) (w : World) (h : QAt K w q gs cs) :
    Calls Try.prog 12 #[.pointer (some ⟨q, 0, none⟩), .slice (some ⟨w.heap.size, 0, none⟩) c.length c.length] (w.alloc (.cells (c.map (Value.int .i64)).toArray 3)) fun r w' => r = .returned (.tuple #[]) ∧ QAt K w' q gs (cs ++ [c]) ∧ Kept K w w' := by
  have hb : Below w.heap.size w (w.alloc (.cells (c.map (Value.int .i64)).toArray 3)) := (Below.refl _ w).alloc (Nat.le_refl _) _
  have hv : Sl 0 3 I64 (w.alloc (.cells (c.map (Value.int .i64)).toArray 3)) (.slice (some ⟨w.heap.size, 0, none⟩) c.length c.length) c := Sl.lit (blk_new w _) rfl (by simp only [maxLen]; omega) (all2_i64 _ c hx)
  exact (clause_any K q gs cs hcs 0 3 _ c (by omega) _ hv (h.below hb)).mono fun r w' ⟨e1, e2, e3⟩ => ⟨e1, e2, (Kept.below hb).trans e3⟩
theorem clause_two (x y : Int) (hx : In64 x) (hy : In64 y) (K : Nat → Prop) (q : Nat) (gs : List Gate) (cs : List (List Int)) (hcs : cs.length < 1000000) (w : World) (h : QAt K w q gs cs) :
    Calls Try.prog 12 #[.pointer (some ⟨q, 0, none⟩), .slice (some ⟨w.heap.size, 0, none⟩) 2 2] (w.alloc (.cells #[.int .i64 x, .int .i64 y] 3)) fun r w' => r = .returned (.tuple #[]) ∧ QAt K w' q gs (cs ++ [[x, y]]) ∧ Kept K w w' :=
  clause_lit [x, y] (by simp) (by simp [hx, hy]) K q gs cs hcs w h
theorem clause_three (x y z : Int) (hx : In64 x) (hy : In64 y) (hz : In64 z) (K : Nat → Prop) (q : Nat) (gs : List Gate) (cs : List (List Int)) (hcs : cs.length < 1000000) (w : World) (h : QAt K w q gs cs) :
    Calls Try.prog 12 #[.pointer (some ⟨q, 0, none⟩), .slice (some ⟨w.heap.size, 0, none⟩) 3 3] (w.alloc (.cells #[.int .i64 x, .int .i64 y, .int .i64 z] 3)) fun r w' => r = .returned (.tuple #[]) ∧ QAt K w' q gs (cs ++ [[x, y, z]]) ∧ Kept K w w' :=
  clause_lit [x, y, z] (by simp) (by simp [hx, hy, hz]) K q gs cs hcs w h
theorem gvar_new {gs : List Gate} {g : Gate} (h : g ∉ gs) : gvar gs g = (gs.length : Int) + 1 + 1 := by unfold gvar; rw [gpos_new h]; omega
theorem QAt.done {K K' : Nat → Prop} {w : World} {q : Nat} {gs : List Gate} {g : Gate} {cs : List (List Int)} (h : QAt K' w q (gs ++ [g]) cs) (hK : ∀ i, K i → K' i) (hn : g ∉ gs) (hc : cs = ([1] :: gclauses gs 2) ++ gcl ((gs.length : Int) + 1 + 1) g) : QS K w q (gins gs g) := by
  subst hc
  unfold QS
  rw [gins, if_neg hn, gclauses_snoc, show (2 : Int) + gs.length = (gs.length : Int) + 1 + 1 by omega]
  exact h.mono hK
set_option maxRecDepth 100000 in
set_option maxHeartbeats 1600000 in
theorem variable_any (K : Nat → Prop) (q : Nat) (gs : List Gate) (k : Nat) (a b : Int) (ht : (⟨k, a, b⟩ : Gate).WF) (hk : k < 3) (hl : gs.length < 200000) (w : World) (h : QS K w q gs) :
    Calls Try.prog 32 #[.pointer (some ⟨q, 0, none⟩), .agg #[.int .i64 k, .int .i64 a, .int .i64 b]] w fun r w' =>
      r = .returned (.int .i64 (gvar gs ⟨k, a, b⟩)) ∧ QS K w' q (gins gs ⟨k, a, b⟩) ∧ Kept K w w' := by
  have hb1 : Below w.heap.size w (w.alloc (.cells #[.int .i64 k, .int .i64 a, .int .i64 b] 74)) := (Below.refl w.heap.size w).alloc (Nat.le_refl _) _
  have hs1 : (w.alloc (.cells #[.int .i64 k, .int .i64 a, .int .i64 b] 74)).heap.size = w.heap.size + 1 := by simp
  have hd1 := QAt.more h hb1
  have hx1 := blk_new w (.cells #[.int .i64 k, .int .i64 a, .int .i64 b] 74)
  have hkx : More K w (w.alloc (.cells #[.int .i64 k, .int .i64 a, .int .i64 b] 74)) w.heap.size := Or.inr ⟨Nat.le_refl _, by rw [hs1]; omega⟩
  have hkk : Kept K w (w.alloc (.cells #[.int .i64 k, .int .i64 a, .int .i64 b] 74)) := Kept.below hb1
  generalize hK1 : More K w (w.alloc (.cells #[.int .i64 k, .int .i64 a, .int .i64 b] 74)) = K1 at hd1 hkx
  have hKK : ∀ i, K i → K1 i := fun i hi => by rw [← hK1]; exact Or.inl hi
  clear hK1
  obtain ⟨vL, vG, m, hI⟩ := hd1.out
  have D := hI.qm
  have hwf : ∀ x ∈ gs, x.WF := hI.2.2.2.2.2.2.2.2.2.1
  have hnd : gs.Nodup := hI.2.2.2.2.2.2.2.2.2.2
  have hlook := fun n : Nat => (D.2.2.2.2.2.1.block (w' := (w.alloc (.cells #[.int .i64 k, .int .i64 a, .int .i64 b] 74)).drewN n) rfl).look gate_ops Try.underlying47 (zint ((w.alloc (.cells #[.int .i64 k, .int .i64 a, .int .i64 b] 74)).drewN n)) ⟨⟨k, a, b⟩, ht⟩ true
  simp only [if_pos, gposOf, WGate.val] at hlook
  obtain ⟨c0, c1, c2, c3⟩ := four_cells D.1
  obtain ⟨z0, z1, z2⟩ := three_cells hx1
  have f0 := frozen_of D.1 0
  have hcl := gclauses_len gs 2
  have ha1 := ht.a1
  have ha2 := ht.a2
  have hb1' := ht.b1
  have hb2 := ht.b2
  dsimp only at ha1 ha2 hb1' hb2
  have wa : wrap64 (-a) = -a := by unfold wrap64; omega
  have wb : wrap64 (-b) = -b := by unfold wrap64; omega
  have hlim : (decide ((1048576 : Int) ≤ (gs.length : Int) + 1)) = false := by simp; omega
  by_cases hmem : (⟨k, a, b⟩ : Gate) ∈ gs
  · simp only [if_pos hmem, Option.getD_some, Option.isSome_some] at hlook
    go_enter Try.func32, Try.ntmps32
    go_wp2_with fail
    go_quiet (fail)
    go_wp2_with fail
    go_ret
    refine ⟨rfl, ?_, hkk.drewN nq⟩
    unfold QS
    rw [gins, if_pos hmem]
    exact (hd1.below (below_drewN (Below.refl _ _) nq)).mono hKK
  · simp only [if_neg hmem, Option.getD_none, Option.isSome_none] at hlook
    go_enter Try.func32, Try.ntmps32
    go_wp2_with fail
    go_quiet (fail)
    have D' := D.drewN nq
    have hx' : ((w.alloc (.cells #[.int .i64 k, .int .i64 a, .int .i64 b] 74)).drewN nq).heap[w.heap.size]? = _ := hx1
    have hkk' := hkk.drewN nq
    go_wp2_with fail
    generalize (w.alloc (.cells #[.int .i64 k, .int .i64 a, .int .i64 b] 74)).drewN nq = wn at D' hx' hkk' ⊢
    clear hlook hx1 z0 z1 z2 c0 c1 c2 c3 f0 D hlim hkk
    obtain ⟨D2, k2⟩ := D'.count ((gs.length : Int) + 1 + 1)
    have hx2 := k2.blk hkx hx'
    have hk2 := hkk'.trans (k2.mono hKK)
    clear hkk' hx' k2 D'
    generalize wn.setCell ⟨q, 0, none⟩ (.int .i64 ((gs.length : Int) + 1 + 1)) = w2 at D2 hx2 hk2 ⊢
    obtain ⟨w3, hrun, hgen, hgr⟩ := (D2.2.2.2.2.2.1.block (w' := w2.drew) rfl).store gate_ops Try.underlying47 ⟨⟨k, a, b⟩, ht⟩ (.int .i64 ((gs.length : Int) + 1 + 1))
    simp only [WGate.val] at hrun
    obtain ⟨z0, z1, z2⟩ := three_cells hx2
    obtain ⟨c0, c1, c2, c3⟩ := four_cells D2.1
    go_region_law (fail)
    all_goals (
      obtain ⟨D3, k3⟩ := D2.drew.store (hgen (gposOf (gs ++ [⟨k, a, b⟩])) (by rw [(gposOf_push ht hmem).1]; congr 2) (gposOf_push ht hmem).2) hgr
      have hx3 := k3.blk hkx (show w2.drew.heap[w.heap.size]? = _ from hx2)
      have hk3 := hk2.trans ((show Kept K1 w2 w3 from ⟨k3.os, k3.tape, k3.output, k3.size, k3.block⟩).mono hKK)
      clear z0 z1 z2 c0 c1 c2 c3 hrun hgen hgr D2 hx2 hk2 k3
      obtain ⟨z0, z1, z2⟩ := three_cells hx3
      obtain ⟨c0, c1, c2, c3⟩ := four_cells D3.1
      have c2a := cell_alloc0 c2 (.cells #[.int .i64 k, .int .i64 a, .int .i64 b] 74)
      have hqn : q ≠ w3.heap.size := Nat.ne_of_lt (Array.getElem?_eq_some_iff.1 D3.1).1
      go_wp2_with fail
      go_region_law (refine step_pushN encG (w0 := w3.drew) (W := w3.drew) 0 (by rfl) (.tmp 51) (.tmp 53) 48 74 (.agg #[.int .i64 0, .int .i64 0, .int .i64 0]) 24 (by rfl) Try.underlying48 (by kernel_rfl) (by rfl) (by omega) (D3.drew.2.2.2.1) ⟨k, a, b⟩ (by rfl) (by rfl) (Below.refl _ _) (Nat.zero_le _) (by omega) (by rfl) ?_; intro v5 w5 ho5 hB5 hg5 hn5; have hb5 := (D3.drew.kept_push hg5).1; have d0 := cell_of hb5 2; simp only [List.getElem?_toArray, List.getElem?_cons_zero, List.getElem?_cons_succ] at d0; have g0 := frozen_of hb5 2; obtain ⟨A5, q5, rfl, _, _, _⟩ := (ho5.toSl encG 0).open_)
      all_goals (
        obtain ⟨D4, k4⟩ := D3.drew.push ho5 hg5 hn5
        have hlen : (gs ++ [(⟨k, a, b⟩ : Gate)]).length = gs.length + 1 := by simp
        rw [hlen] at D4 k4
        have hx4 := k4.blk hkx (show w3.drew.heap[w.heap.size]? = _ from hx3)
        have hk4 := hk3.trans ((show Kept K1 w3 _ from ⟨k4.os, k4.tape, k4.output, k4.size, k4.block⟩).mono hKK)
        have Q4 := D4.qat (by rw [hlen]; push_cast; rfl) rfl (by
          intro x hx
          rcases List.mem_append.1 hx with hx | hx
          · exact hwf x hx
          · rw [List.mem_singleton.1 hx]; exact ht) (by
          refine List.nodup_append.2 ⟨hnd, by simp, fun x hx y hy e => ?_⟩
          rw [List.mem_singleton.1 hy] at e
          exact hmem (e ▸ hx))
        clear z0 z1 z2 c0 c1 c2 c3 c2a hqn d0 g0 hb5 hg5 ho5 hn5 hlen hB5 D3 D4 k4 hk3 hx3
        generalize w5.setCell ⟨q, 2, none⟩ (.slice A5 (gs.length + 1) q5) = w6 at hx4 hk4 Q4 ⊢
        obtain ⟨z0, z1, z2⟩ := three_cells hx4
        rcases (show k = 0 ∨ k = 1 ∨ k = 2 by omega) with rfl | rfl | rfl
        · go_wp2_with fail
          go_ret
          exact ⟨(congrArg (fun x => Ending.returned (.int .i64 x)) (gvar_new hmem)).symm, Q4.done hKK hmem (by simp [gcl, wa, wb]), hk4⟩
        · go_wp2_with fail
          (go_at_call 12; refine (clause_two _ _ (by unfold In64; omega) (by unfold In64; omega) K1 q _ _ (by simp only [List.length_append, List.length_cons, List.length_nil]; omega) _ Q4).mono ?_; clear Q4; rintro r wn ⟨rfl, Q4, kn⟩; have hxn := kn.blk hkx hx4; clear hx4; have hx4 := hxn; clear hxn; have hkn := hk4.trans (kn.mono hKK); clear hk4 kn; have hk4 := hkn; clear hkn; obtain ⟨z0, z1, z2⟩ := three_cells hx4)
          go_wp2_with fail
          (go_at_call 12; refine (clause_two _ _ (by unfold In64; omega) (by unfold In64; omega) K1 q _ _ (by simp only [List.length_append, List.length_cons, List.length_nil]; omega) _ Q4).mono ?_; clear Q4; rintro r wn ⟨rfl, Q4, kn⟩; have hxn := kn.blk hkx hx4; clear hx4; have hx4 := hxn; clear hxn; have hkn := hk4.trans (kn.mono hKK); clear hk4 kn; have hk4 := hkn; clear hkn; obtain ⟨z0, z1, z2⟩ := three_cells hx4)
          go_wp2_with fail
          (go_at_call 12; refine (clause_three _ _ _ (by unfold In64; omega) (by unfold In64; omega) (by unfold In64; omega) K1 q _ _ (by simp only [List.length_append, List.length_cons, List.length_nil]; omega) _ Q4).mono ?_; clear Q4; rintro r wn ⟨rfl, Q4, kn⟩; have hxn := kn.blk hkx hx4; clear hx4; have hx4 := hxn; clear hxn; have hkn := hk4.trans (kn.mono hKK); clear hk4 kn; have hk4 := hkn; clear hkn; obtain ⟨z0, z1, z2⟩ := three_cells hx4)
          go_wp2_with fail
          go_ret
          exact ⟨(congrArg (fun x => Ending.returned (.int .i64 x)) (gvar_new hmem)).symm, Q4.done hKK hmem (by simp [gcl, wa, wb]), hk4⟩
        · go_wp2_with fail
          (go_at_call 12; refine (clause_three _ _ _ (by unfold In64; omega) (by unfold In64; omega) (by unfold In64; omega) K1 q _ _ (by simp only [List.length_append, List.length_cons, List.length_nil]; omega) _ Q4).mono ?_; clear Q4; rintro r wn ⟨rfl, Q4, kn⟩; have hxn := kn.blk hkx hx4; clear hx4; have hx4 := hxn; clear hxn; have hkn := hk4.trans (kn.mono hKK); clear hk4 kn; have hk4 := hkn; clear hkn; obtain ⟨z0, z1, z2⟩ := three_cells hx4)
          go_wp2_with fail
          (go_at_call 12; refine (clause_three _ _ _ (by unfold In64; omega) (by unfold In64; omega) (by unfold In64; omega) K1 q _ _ (by simp only [List.length_append, List.length_cons, List.length_nil]; omega) _ Q4).mono ?_; clear Q4; rintro r wn ⟨rfl, Q4, kn⟩; have hxn := kn.blk hkx hx4; clear hx4; have hx4 := hxn; clear hxn; have hkn := hk4.trans (kn.mono hKK); clear hk4 kn; have hk4 := hkn; clear hkn; obtain ⟨z0, z1, z2⟩ := three_cells hx4)
          go_wp2_with fail
          (go_at_call 12; refine (clause_three _ _ _ (by unfold In64; omega) (by unfold In64; omega) (by unfold In64; omega) K1 q _ _ (by simp only [List.length_append, List.length_cons, List.length_nil]; omega) _ Q4).mono ?_; clear Q4; rintro r wn ⟨rfl, Q4, kn⟩; have hxn := kn.blk hkx hx4; clear hx4; have hx4 := hxn; clear hxn; have hkn := hk4.trans (kn.mono hKK); clear hk4 kn; have hk4 := hkn; clear hkn; obtain ⟨z0, z1, z2⟩ := three_cells hx4)
          go_wp2_with fail
          (go_at_call 12; refine (clause_three _ _ _ (by unfold In64; omega) (by unfold In64; omega) (by unfold In64; omega) K1 q _ _ (by simp only [List.length_append, List.length_cons, List.length_nil]; omega) _ Q4).mono ?_; clear Q4; rintro r wn ⟨rfl, Q4, kn⟩; have hxn := kn.blk hkx hx4; clear hx4; have hx4 := hxn; clear hxn; have hkn := hk4.trans (kn.mono hKK); clear hk4 kn; have hk4 := hkn; clear hkn; obtain ⟨z0, z1, z2⟩ := three_cells hx4)
          go_wp2_with fail
          go_ret
          exact ⟨(congrArg (fun x => Ending.returned (.int .i64 x)) (gvar_new hmem)).symm, Q4.done hKK hmem (by simp [gcl, wa, wb]), hk4⟩))
end Go.Proofs.Ytgnahjadjgjecaa
