/- The reference's Dag: its terms in a list. -/
/- The reference's Dag: Const, Var, Op. -/
import Derived.Test.YtgnahjadjgjecaaTTerm
import Derived.Test.YtgnahjadjgjecaaRDo
import Derived.Deep.RegionHeld3
import Derived.Laws.StructEq
import Derived.Deep.AppendLies
import Derived.Deep.RegionLaw
import Derived.BigQuiet
set_option linter.unusedVariables false
set_option linter.unusedSimpArgs false
namespace Go.Proofs.Ytgnahjadjgjecaa
open Go.RowKit Go.Maps Go.MapKept

/-- A reference's Dag at block k: its list is vl. -/
structure RefAt (w : World) (k : Nat) (vl : Value) (ts : List Term) : Prop where
  hb : w.heap[k]? = some (.cells #[vl] 114 (0, 0))
  l : OwnN 0 82 5 Term.five w vl ts
  wf : ∀ t ∈ ts, t.WF
/-- None but its blocks turn. -/
def RefKept (w w' : World) (k : Nat) (vl : Value) : Prop := Kept (fun i => i ≠ k ∧ vl.ownBlock ≠ some i) w w'
theorem RefAt.kept {K : Nat → Prop} {w w' : World} {k : Nat} {vl : Value} {ts : List Term} (h : RefAt w k vl ts) (hk : Kept K w w') (h1 : K k) (h2 : ∀ g, vl.ownBlock = some g → K g) : RefAt w' k vl ts := by
  refine ⟨hk.blk h1 h.hb, ?_, h.wf⟩
  have hl := h.l
  refine ⟨hl.1, ?_⟩
  rcases hl.2 with hl | ⟨g, cap, cur, rfl, hg, hh, r⟩
  · exact Or.inl hl
  · exact Or.inr ⟨g, cap, cur, rfl, hg, hk.blk (h2 g rfl) hh, r⟩
theorem RefAt.below {w w' : World} {k : Nat} {vl : Value} {ts : List Term} (h : RefAt w k vl ts) (hb : Below w.heap.size w w') : RefAt w' k vl ts :=
  h.kept (K := fun _ => True) (Kept.below hb) trivial fun _ _ => trivial
theorem one_cell {w : World} {b : Nat} {v : Value} {t : TypeId} {fz : Nat × Nat} (h : w.heap[b]? = some (.cells #[v] t fz)) : w.cell? ⟨b, 0, none⟩ = some v := (cell_of h 0).trans rfl
set_option maxRecDepth 100000 in
theorem rnew_any (w : World) : Calls Try.prog 24 #[] w fun r w' => r = .returned (.pointer (some ⟨w.heap.size, 0, none⟩)) ∧ RefAt w' w.heap.size (.slice none 0 0) [] ∧ Below w.heap.size w w' := by
  go_enter Try.func24, Try.ntmps24
  go_wp2_with fail
  go_ret
  exact ⟨rfl, ⟨blk_new w _, OwnN.nil _ _ _, by simp⟩, (Below.refl _ _).alloc (Nat.le_refl _) _⟩
theorem pos_take {ts : List Term} {t : Term} {k : Nat} (hk : k < ts.length) (hno : t ∉ ts.take k) (he : ts.getD k default = t) : pos ts t = k := by
  have h1 := pos_new hno
  have hl : (ts.take k).length = k := by simp; omega
  unfold pos at h1 ⊢
  rw [← List.take_append_drop k ts, List.findIdx_append, h1, if_neg (by omega), drop_cons hk default, he, hl]
  simp [List.findIdx_cons]
theorem eql_term (w : World) (t u : Term) : (binOp .eql 82 (tv t) (tv u)).run Try.prog w = .ok (.bool (decide (t = u))) w := by
  unfold tv
  rw [run_eql_struct]
  simp [go_sem, Try.underlying82]
  by_cases h : t = u
  · subst h
    simp
  · rw [decide_eq_false h]
    by_cases e1 : (t.k : Int) = u.k
    · by_cases e2 : (t.v : Int) = u.v
      · by_cases e3 : (t.op : Int) = u.op
        · by_cases e4 : (t.a : Int) = u.a
          · by_cases e5 : (t.b : Int) = u.b
            · refine absurd ?_ h
              obtain ⟨a1, a2, a3, a4, a5⟩ := t
              obtain ⟨b1, b2, b3, b4, b5⟩ := u
              simp only [Term.mk.injEq]
              dsimp only at *
              omega
            · simp [e5]
          · simp [e4]
        · simp [e3]
      · simp [e2]
    · simp [e1]
set_option maxRecDepth 100000 in
theorem radd_any (k : Nat) (t : Term) (ht : t.WF) (vl : Value) (ts : List Term) (hl : ts.length < 1000000000000) (w : World) (h : RefAt w k vl ts) :
    Calls Try.prog 63 #[.pointer (some ⟨k, 0, none⟩), tv t] w fun r w' => r = .returned (.int .i64 (pos ts t : Nat)) ∧ RefKept w w' k vl ∧
      ∃ vl', RefAt w' k vl' (ins ts t) ∧ (vl'.ownBlock = vl.ownBlock ∨ ∃ g, vl'.ownBlock = some g ∧ w.heap.size ≤ g) := by
  have h1 := h.below ((Below.refl w.heap.size w).alloc (Nat.le_refl _) (.cells #[.int .i64 t.k, .int .u32 t.v, .int .i64 t.op, .int .i64 t.a, .int .i64 t.b] 82))
  have hx1 := blk_new w (.cells #[.int .i64 t.k, .int .u32 t.v, .int .i64 t.op, .int .i64 t.a, .int .i64 t.b] 82)
  unfold tv
  go_enter Try.func63, Try.ntmps63
  go_wp2_with fail
  go_loopw [5] (fun i wr => ∃ j : Nat, j ≤ ts.length ∧ i = .int .i64 j ∧ t ∉ ts.take j ∧ RefAt wr k vl ts ∧ wr.heap[w.heap.size]? = some (.cells #[.int .i64 t.k, .int .u32 t.v, .int .i64 t.op, .int .i64 t.a, .int .i64 t.b] 82 (0, 0)) ∧ Below w.heap.size w wr) (fun i _ => ts.length - (intOf i).toNat)
  case atStart => exact ⟨0, Nat.zero_le _, rfl, by simp, h1, hx1, (Below.refl _ _).alloc (Nat.le_refl _) _⟩
  case round =>
    obtain ⟨j, hj, rfl, hno, hR, hx, hb⟩ := hrel
    obtain ⟨A, c, rfl, q1, q2, q3⟩ := (hR.l.toSl encT 0).open_
    have c0 := one_cell hR.hb
    obtain ⟨z0, z1, z2, z3, z4⟩ := five_cells hx
    by_cases hlt : j < ts.length
    · obtain ⟨bb, off, rfl, hat, hbl⟩ := (hR.l.toSl encT 0).at_ hlt
      rw [show ts[j] = ts.getD j default by simp [List.getD, hlt]] at hat
      have d0 := hat 0 _ rfl
      have d1 := hat 1 _ rfl
      have d2 := hat 2 _ rfl
      have d3 := hat 3 _ rfl
      have d4 := hat 4 _ rfl
      simp only [Nat.add_zero] at d0
      have HR := Lib.hid hR
      have HX := Lib.hid hx
      have HN := Lib.hid hno
      clear hat hR hx hno
      have heql := fun W => eql_term W (ts.getD j default) t
      unfold tv at heql
      by_cases he : ts.getD j default = t
      · have hp := pos_take hlt HN.out he
        have hmem : t ∈ ts := by rw [← he]; exact getD_mem hlt default
        have HP := Lib.hid hp
        rw [decide_eq_true he] at heql
        clear hp he
        generalize ts.getD j default = x at *
        go_wp2_with fail
        go_quiet (fail)
        go_wp2_with fail
        go_ret
        refine ⟨ret_val (by rw [HP.out]; rfl), (Kept.below hb).drewN nq, _, ?_, Or.inl rfl⟩
        rw [ins, if_pos hmem]
        exact HR.out.below (below_drewN (Below.refl _ _) nq)
      · have hno2 : t ∉ ts.take (j + 1) := by
          rw [take_snoc hlt default]
          intro hm
          rcases List.mem_append.1 hm with hm | hm
          · exact HN.out hm
          · exact he (List.mem_singleton.1 hm).symm
        have HN2 := Lib.hid hno2
        rw [decide_eq_false he] at heql
        clear hno2 he
        generalize ts.getD j default = x at *
        go_wp2_with fail
        go_quiet (fail)
        go_wp2_with fail
        go_roundw
        case rel => exact ⟨j + 1, by omega, by go_num, HN2.out, HR.out.below (below_drewN (Below.refl _ _) nq), HX.out, below_drewN hb nq⟩
        case measure => simp [intOf]; omega
    · have hjl : ts.take j = ts := List.take_of_length_le (by omega)
      rw [hjl] at hno
      have hj2 : j = ts.length := by omega
      subst hj2
      have HN := Lib.hid hno
      have HX := Lib.hid hx
      clear hno hx hjl
      have f0 := frozen_of hR.hb 0
      have hbs := (Array.getElem?_eq_some_iff.1 hR.hb).1
      have hbn : k ≠ wr.heap.size := Nat.ne_of_lt hbs
      clear h1 hx1
      go_wp2_with fail
      go_region_law (refine step_pushN encT (w0 := wr.drew) (W := wr.drew) 0 (by rfl) (.tmp 29) (.tmp 31) 91 82 (.agg #[.int .i64 0, .int .u32 0, .int .i64 0, .int .i64 0, .int .i64 0]) 40 (by rfl) Try.underlying91 (by kernel_rfl) (by rfl) (by omega) (hR.l.drew) t (by rfl) (by rfl) (Below.refl _ _) (Nat.zero_le _) (by omega) (by rfl) ?_; intro v5 w5 ho5 hB5 hg5 hn5; have hb5 := hR.l.drew.other hg5 (show wr.drew.heap[k]? = _ from hR.hb) (by simp); have d0 := cell_of hb5 0; simp only [List.getElem?_toArray, List.getElem?_cons_zero, List.getElem?_cons_succ] at d0; have g0 := frozen_of hb5 0; obtain ⟨A5, q5, rfl, _, _, _⟩ := (ho5.toSl encT 0).open_)
      all_goals (
        have hb6 := blk_set hb5 0 (.slice A5 (ts ++ [t]).length q5)
        have ho6 := ho5.move (T := [82]) (Quiet.set hb5 (Nat.zero_le _) (by decide) 0 (.slice A5 (ts ++ [t]).length q5)) (by simp)
        have hk5 : Kept (fun i => i ≠ k ∧ (Value.slice A ts.length c).ownBlock ≠ some i) wr w5 := Kept.grownO (w := wr.drew) hg5 (fun g e hg => hg.2 e) |> fun h => ⟨h.os, h.tape, h.output, h.size, h.block⟩
        have hk6 := hk5.trans (Kept.grown (grown_set w5 k 0 (.slice A5 (ts ++ [t]).length q5)) (fun hx => hx.1 rfl))
        have hlen : (ts ++ [t]).length = ts.length + 1 := by simp
        rw [hlen] at hb6 ho6 hk6 hn5
        simp only [Array.setIfInBounds, List.size_toArray, List.length_cons, List.length_nil, Nat.zero_add, Nat.zero_lt_one, dite_true] at hb6
        clear z0 z1 z2 z3 z4 c0 f0 d0 g0 hb5 hg5 ho5 hlen hB5 hbn hk5
        generalize w5.setCell ⟨k, 0, none⟩ (.slice A5 (ts.length + 1) q5) = w6 at hb6 ho6 hk6 ⊢
        have c6 := one_cell hb6
        have hs6 : IntKind.i64.wrap ((ts.length : Int) + 1 - 1) = (ts.length : Int) := by rw [Int.add_sub_cancel]; exact IntWalk.i64_in _ (by omega)
        go_wp2_with fail
        go_ret
        refine ⟨ret_val (by rw [pos_new HN.out]; first | rfl | (simp; done)), (Kept.below hb).trans hk6, _, ⟨hb6, by rw [ins, if_neg HN.out]; exact ho6, ?_⟩, ?_⟩
        · intro x hx
          rw [ins, if_neg HN.out] at hx
          rcases List.mem_append.1 hx with hx | hx
          · exact hR.wf x hx
          · rw [List.mem_singleton.1 hx]; exact ht
        · rcases hn5 with h5 | ⟨g, e5, hg⟩
          · exact Or.inl h5
          · exact Or.inr ⟨g, e5, Nat.le_trans hb.size hg⟩)
end Go.Proofs.Ytgnahjadjgjecaa
set_option linter.unusedVariables false
set_option linter.unusedSimpArgs false
namespace Go.Proofs.Ytgnahjadjgjecaa
open Go.RowKit Go.Maps Go.MapKept

/-- Behind a term's making: the terms are ts', only its own blocks turned. -/
structure RAdd (w : World) (k : Nat) (vl : Value) (ts' : List Term) (w' : World) : Prop where mk_ ::
  kept : RefKept w w' k vl
  out : ∃ vl', RefAt w' k vl' ts' ∧ (vl'.ownBlock = vl.ownBlock ∨ ∃ g, vl'.ownBlock = some g ∧ w.heap.size ≤ g)
theorem RAdd.pre {w w1 w' : World} {k : Nat} {vl : Value} {ts' : List Term} (hb : Below w.heap.size w w1) (h : RAdd w1 k vl ts' w') : RAdd w k vl ts' w' := by
  obtain ⟨vl', h1, h2⟩ := h.out
  refine ⟨(Kept.below hb).trans h.kept, vl', h1, ?_⟩
  rcases h2 with h2 | ⟨g, h2, h3⟩
  · exact Or.inl h2
  · exact Or.inr ⟨g, h2, Nat.le_trans hb.size h3⟩
theorem RAdd.same {w w' : World} {k : Nat} {vl : Value} {ts : List Term} (h : RefAt w k vl ts) (hb : Below w.heap.size w w') : RAdd w k vl ts w' := ⟨Kept.below hb, vl, h.below hb, Or.inl rfl⟩
theorem constT_wf {v : Nat} (hv : v < 4294967296) : (constT v).WF := ⟨by show (0:Nat) < _; omega, hv, by show (0:Nat) < _; omega, by show (0:Nat) < _; omega, by show (0:Nat) < _; omega⟩
theorem varT_wf {r : Nat} (hr : r < 32) : (varT r).WF := ⟨by show (1:Nat) < _; omega, by show r < _; omega, by show (0:Nat) < _; omega, by show (0:Nat) < _; omega, by show (0:Nat) < _; omega⟩
theorem opT_wf {op a b : Nat} (ho : op < 45) (ha : a < 1000000000000) (hb : b < 1000000000000) : (opT op a b).WF := ⟨by show (2:Nat) < _; omega, by show (0:Nat) < _; omega, by show op < _; omega, by show a < _; omega, by show b < _; omega⟩
section
variable (k : Nat) (vl : Value) (ts : List Term) (w : World) (h : RefAt w k vl ts)
include h
theorem rconst_any (hl : ts.length < 1000000000000) (v : Nat) (hv : v < 4294967296) : Calls Try.prog 43 #[.pointer (some ⟨k, 0, none⟩), .int .u32 v] w fun r w' =>
      r = .returned (.int .i64 (pos ts (constT v) : Nat)) ∧ RAdd w k vl (ins ts (constT v)) w' := by
  have hA : Calls Try.prog 63 #[.pointer (some ⟨k, 0, none⟩), .agg #[.int .i64 0, .int .u32 v, .int .i64 0, .int .i64 0, .int .i64 0]] w fun r w' => r = .returned (.int .i64 (pos ts (constT v) : Nat)) ∧ RefKept w w' k vl ∧
      ∃ vl', RefAt w' k vl' (ins ts (constT v)) ∧ (vl'.ownBlock = vl.ownBlock ∨ ∃ g, vl'.ownBlock = some g ∧ w.heap.size ≤ g) := radd_any k (constT v) (constT_wf hv) vl ts hl w h
  go_enter Try.func43, Try.ntmps43
  go_wp2_with fail
  refine hA.mono ?_
  rintro r w1 ⟨rfl, h1, h2⟩
  go_wp2_with fail
  go_ret
  exact ⟨rfl, h1, h2⟩
set_option maxRecDepth 100000 in
theorem rvar_any (hl : ts.length < 1000000000000) (r : Nat) (hr : r < 32) : Calls Try.prog 44 #[.pointer (some ⟨k, 0, none⟩), .int .i64 r] w fun e w' =>
      e = .returned (.tuple #[.int .i64 (pos ts (varTm r) : Nat), .int .i64 0]) ∧ RAdd w k vl (ins ts (varTm r)) w' := by
  by_cases h0 : r = 0
  · subst h0
    have hC : Calls Try.prog 43 #[.pointer (some ⟨k, 0, none⟩), .int .u32 0] w fun r w' =>
      r = .returned (.int .i64 (pos ts (constT 0) : Nat)) ∧ RAdd w k vl (ins ts (constT 0)) w' := rconst_any k vl ts w h hl 0 (by omega)
    go_enter Try.func44, Try.ntmps44
    go_wp2_with fail
    refine hC.mono ?_
    rintro e w1 ⟨rfl, h1⟩
    go_wp2_with fail
    go_ret2
    exact ⟨rfl, h1⟩
  · have hA : Calls Try.prog 63 #[.pointer (some ⟨k, 0, none⟩), .agg #[.int .i64 1, .int .u32 r, .int .i64 0, .int .i64 0, .int .i64 0]] w fun e w' => e = .returned (.int .i64 (pos ts (varTm r) : Nat)) ∧ RefKept w w' k vl ∧
        ∃ vl', RefAt w' k vl' (ins ts (varTm r)) ∧ (vl'.ownBlock = vl.ownBlock ∨ ∃ g, vl'.ownBlock = some g ∧ w.heap.size ≤ g) := by
      rw [varTm, if_neg h0]
      exact radd_any k (varT r) (varT_wf hr) vl ts hl w h
    have hne : ((r : Int) == 0) = false := by simp; omega
    have hlt : (r : Int) ≤ 31 := by omega
    clear h0
    go_enter Try.func44, Try.ntmps44
    go_wp2_with fail
    refine hA.mono ?_
    rintro e w1 ⟨rfl, h1, h2⟩
    go_wp2_with fail
    go_ret2
    exact ⟨rfl, h1, h2⟩
set_option maxRecDepth 100000 in
theorem rop_no (op x y : Int) (hn : (inR x ts.length && inR y ts.length) = false) : Calls Try.prog 45 #[.pointer (some ⟨k, 0, none⟩), .int .i64 op, .int .i64 x, .int .i64 y] w fun e w' =>
      e = .returned (.tuple #[.int .i64 0, .int .i64 100]) ∧ w = w' := by
  obtain ⟨A, c, rfl, q1, q2, q3⟩ := (h.l.toSl encT 0).open_
  have c0 := one_cell h.hb
  have hcase : x < 0 ∨ (¬ x < 0 ∧ (ts.length : Int) ≤ x) ∨ (¬ x < 0 ∧ ¬ (ts.length : Int) ≤ x ∧ y < 0) ∨ (¬ x < 0 ∧ ¬ (ts.length : Int) ≤ x ∧ ¬ y < 0 ∧ (ts.length : Int) ≤ y) := by
    cases hx : inR x ts.length
    · have := inR_not hx; omega
    · rw [hx, Bool.true_and] at hn
      obtain ⟨m, rfl, hm⟩ := inR_nat hx
      have := inR_not hn
      omega
  clear hn h
  rcases hcase with h1 | ⟨h1, h2⟩ | ⟨h1, h2, h3⟩ | ⟨h1, h2, h3, h4⟩
  all_goals
    go_enter Try.func45, Try.ntmps45
    go_wp2_with fail
    go_ret2
    exact ⟨rfl, rfl⟩
set_option maxRecDepth 100000 in
theorem rop_bad (op : Int) (x y : Nat) (hx : x < ts.length) (hy : y < ts.length) (ho : opOk op = false) : Calls Try.prog 45 #[.pointer (some ⟨k, 0, none⟩), .int .i64 op, .int .i64 x, .int .i64 y] w fun e w' =>
      e = .returned (.tuple #[.int .i64 0, .int .i64 1]) ∧ w = w' := by
  obtain ⟨A, c, rfl, q1, q2, q3⟩ := (h.l.toSl encT 0).open_
  have c0 := one_cell h.hb
  have hD : Calls Try.prog 64 #[.int .i64 op, .int .u32 0, .int .u32 0] w fun r w' => r = .returned (.tuple #[.int .u32 0, .int .i64 1]) ∧ w = w' := rdo_no op ho 0 0 (by omega) (by omega) w
  have g1 : (x : Int) < ts.length := by omega
  have g2 : (y : Int) < ts.length := by omega
  clear ho h
  go_enter Try.func45, Try.ntmps45
  go_wp2_with fail
  refine hD.mono ?_
  rintro e w1 ⟨rfl, rfl⟩
  go_wp2_with fail
  go_ret2
  exact ⟨rfl, rfl⟩
set_option maxRecDepth 100000 in
theorem rop_any (hl : ts.length < 1000000000000) (op x y : Nat) (hx : x < ts.length) (hy : y < ts.length) (ho : (doW op 0 0).isSome = true) : Calls Try.prog 45 #[.pointer (some ⟨k, 0, none⟩), .int .i64 op, .int .i64 x, .int .i64 y] w fun e w' =>
      e = .returned (.tuple #[.int .i64 (pos ts (opT op x y) : Nat), .int .i64 0]) ∧ RAdd w k vl (ins ts (opT op x y)) w' := by
  have hD : Calls Try.prog 64 #[.int .i64 op, .int .u32 0, .int .u32 0] w fun r w' => r = .returned (.tuple #[.int .u32 (((doW op 0 0).getD 0 : Nat) : Int), .int .i64 0]) ∧ Below w.heap.size w w' := rdo_any op ho 0 0 (by omega) (by omega) w
  have hol := op_lt ho
  have hA : ∀ w1, RefAt w1 k vl ts → Calls Try.prog 63 #[.pointer (some ⟨k, 0, none⟩), .agg #[.int .i64 2, .int .u32 0, .int .i64 op, .int .i64 x, .int .i64 y]] w1 fun e w' => e = .returned (.int .i64 (pos ts (opT op x y) : Nat)) ∧ RefKept w1 w' k vl ∧
      ∃ vl', RefAt w' k vl' (ins ts (opT op x y)) ∧ (vl'.ownBlock = vl.ownBlock ∨ ∃ g, vl'.ownBlock = some g ∧ w1.heap.size ≤ g) := fun w1 h1 => radd_any k (opT op x y) (opT_wf hol (by omega) (by omega)) vl ts hl w1 h1
  obtain ⟨A, c, rfl, q1, q2, q3⟩ := (h.l.toSl encT 0).open_
  have c0 := one_cell h.hb
  have g1 : (x : Int) < ts.length := by omega
  have g2 : (y : Int) < ts.length := by omega
  clear ho hol
  go_enter Try.func45, Try.ntmps45
  go_wp2_with fail
  refine hD.mono ?_
  rintro e w1 ⟨rfl, b1⟩
  go_wp2_with fail
  refine (hA w1 (h.below b1)).mono ?_
  rintro e w2 ⟨rfl, h1, h2⟩
  go_wp2_with fail
  go_ret2
  exact ⟨rfl, RAdd.pre b1 ⟨h1, h2⟩⟩
end
theorem rvar_no (k : Nat) (r : Int) (hr : inR r 32 = false) (w : World) :
    Calls Try.prog 44 #[.pointer (some ⟨k, 0, none⟩), .int .i64 r] w fun e w' => e = .returned (.tuple #[.int .i64 0, .int .i64 1]) ∧ w = w' := by
  rcases inR_not hr with h | h
  · clear hr
    go_enter Try.func44, Try.ntmps44
    go_wp2_with fail
    go_ret2
    exact ⟨rfl, rfl⟩
  · have h0 : ¬ r < 0 := by omega
    have h1 : 31 < r := by omega
    clear hr h
    go_enter Try.func44, Try.ntmps44
    go_wp2_with fail
    go_ret2
    exact ⟨rfl, rfl⟩
end Go.Proofs.Ytgnahjadjgjecaa
