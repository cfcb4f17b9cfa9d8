/- The reference's Dag: its terms in a list. -/
import Derived.Test.YtekleoccdockhaaDoorTTerm
import Derived.Test.YtekleoccdockhaaDoorRDo
import Derived.Deep.RegionHeld3
import Derived.Laws.StructEq
import Derived.Deep.AppendLies
import Derived.Deep.RegionLaw
import Derived.BigQuiet
set_option linter.unusedVariables false
set_option linter.unusedSimpArgs false
namespace Go.Proofs.YtekleoccdockhaaDoor
open Go.RowKit Go.Maps Go.MapKept

/-- A reference's Dag at block k: its list is vl. -/
structure RefAt (w : World) (k : Nat) (vl : Value) (ts : List Term) : Prop where
  hb : w.heap[k]? = some (.cells #[vl] 80 (0, 0))
  l : OwnN 0 33 5 Term.five w vl ts
  wf : ∀ t ∈ ts, t.WF
/-- None but its blocks turn. -/
def RefKept (w w' : World) (k : Nat) (vl : Value) : Prop := Kept (fun i => i ≠ k ∧ vl.ownBlock ≠ some i) w w'
theorem RefAt.kept {K : Nat → Prop} {w w' : World} {k : Nat} {vl : Value} {ts : List Term} (h : RefAt w k vl ts) (hk : Kept K w w') (h1 : K k) (h2 : ∀ g, vl.ownBlock = some g → K g) : RefAt w' k vl ts := by
  refine ⟨hk.blk h1 h.hb, ?_, h.wf⟩
  have hl := h.l
  refine ⟨hl.1, ?_⟩
  rcases hl.2 with hl | ⟨g, cap, cur, rfl, hg, hh, r⟩
  · exact Or.inl hl
  · exact Or.inr ⟨g, cap, cur, rfl, hg, hk.blk (h2 g rfl) hh, r⟩
theorem RefAt.below {w w' : World} {k : Nat} {vl : Value} {ts : List Term} (h : RefAt w k vl ts) (hb : Below w.heap.size w w') : RefAt w' k vl ts :=
  h.kept (K := fun _ => True) (Kept.below hb) trivial fun _ _ => trivial
theorem one_cell {w : World} {b : Nat} {v : Value} {t : TypeId} {fz : Nat × Nat} (h : w.heap[b]? = some (.cells #[v] t fz)) : w.cell? ⟨b, 0, none⟩ = some v := (cell_of h 0).trans rfl
set_option maxRecDepth 100000 in
theorem rnew_any (w : World) : Calls Tryd.prog 26 #[] w fun r w' => r = .returned (.pointer (some ⟨w.heap.size, 0, none⟩)) ∧ RefAt w' w.heap.size (.slice none 0 0) [] ∧ Below w.heap.size w w' := by
  go_enter Tryd.func26, Tryd.ntmps26
  go_wp2_with fail
  go_ret
  exact ⟨rfl, ⟨blk_new w _, OwnN.nil _ _ _, by simp⟩, (Below.refl _ _).alloc (Nat.le_refl _) _⟩
theorem pos_take {ts : List Term} {t : Term} {k : Nat} (hk : k < ts.length) (hno : t ∉ ts.take k) (he : ts.getD k default = t) : pos ts t = k := by
  have h1 := pos_new hno
  have hl : (ts.take k).length = k := by simp; omega
  unfold pos at h1 ⊢
  rw [← List.take_append_drop k ts, List.findIdx_append, h1, if_neg (by omega), drop_cons hk default, he, hl]
  simp [List.findIdx_cons]
theorem eql_term (w : World) (t u : Term) : (binOp .eql 33 (tv t) (tv u)).run Tryd.prog w = .ok (.bool (decide (t = u))) w := by
  unfold tv
  rw [run_eql_struct]
  simp [go_sem, Tryd.underlying33]
  by_cases h : t = u
  · subst h
    simp
  · rw [decide_eq_false h]
    by_cases e1 : (t.k : Int) = u.k
    · by_cases e2 : (t.v : Int) = u.v
      · by_cases e3 : (t.op : Int) = u.op
        · by_cases e4 : (t.a : Int) = u.a
          · by_cases e5 : (t.b : Int) = u.b
            · refine absurd ?_ h
              obtain ⟨a1, a2, a3, a4, a5⟩ := t
              obtain ⟨b1, b2, b3, b4, b5⟩ := u
              simp only [Term.mk.injEq]
              dsimp only at *
              omega
            · simp [e5]
          · simp [e4]
        · simp [e3]
      · simp [e2]
    · simp [e1]
set_option maxRecDepth 100000 in
theorem radd_any (k : Nat) (t : Term) (ht : t.WF) (vl : Value) (ts : List Term) (hl : ts.length < 1000000000000) (w : World) (h : RefAt w k vl ts) :
    Calls Tryd.prog 58 #[.pointer (some ⟨k, 0, none⟩), tv t] w fun r w' => r = .returned (.int .i64 (pos ts t : Nat)) ∧ RefKept w w' k vl ∧
      ∃ vl', RefAt w' k vl' (ins ts t) ∧ (vl'.ownBlock = vl.ownBlock ∨ ∃ g, vl'.ownBlock = some g ∧ w.heap.size ≤ g) := by
  have h1 := h.below ((Below.refl w.heap.size w).alloc (Nat.le_refl _) (.cells #[.int .i64 t.k, .int .u32 t.v, .int .i64 t.op, .int .i64 t.a, .int .i64 t.b] 33))
  have hx1 := blk_new w (.cells #[.int .i64 t.k, .int .u32 t.v, .int .i64 t.op, .int .i64 t.a, .int .i64 t.b] 33)
  unfold tv
  go_enter Tryd.func58, Tryd.ntmps58
  go_wp2_with fail
  go_loopw [5] (fun i wr => ∃ j : Nat, j ≤ ts.length ∧ i = .int .i64 j ∧ t ∉ ts.take j ∧ RefAt wr k vl ts ∧ wr.heap[w.heap.size]? = some (.cells #[.int .i64 t.k, .int .u32 t.v, .int .i64 t.op, .int .i64 t.a, .int .i64 t.b] 33 (0, 0)) ∧ Below w.heap.size w wr) (fun i _ => ts.length - (intOf i).toNat)
  case atStart => exact ⟨0, Nat.zero_le _, rfl, by simp, h1, hx1, (Below.refl _ _).alloc (Nat.le_refl _) _⟩
  case round =>
    obtain ⟨j, hj, rfl, hno, hR, hx, hb⟩ := hrel
    obtain ⟨A, c, rfl, q1, q2, q3⟩ := (hR.l.toSl encT 0).open_
    have c0 := one_cell hR.hb
    obtain ⟨z0, z1, z2, z3, z4⟩ := five_cells hx
    by_cases hlt : j < ts.length
    · obtain ⟨bb, off, rfl, hat, hbl⟩ := (hR.l.toSl encT 0).at_ hlt
      rw [show ts[j] = ts.getD j default by simp [List.getD, hlt]] at hat
      have d0 := hat 0 _ rfl
      have d1 := hat 1 _ rfl
      have d2 := hat 2 _ rfl
      have d3 := hat 3 _ rfl
      have d4 := hat 4 _ rfl
      simp only [Nat.add_zero] at d0
      have HR := Lib.hid hR
      have HX := Lib.hid hx
      have HN := Lib.hid hno
      clear hat hR hx hno
      have heql := fun W => eql_term W (ts.getD j default) t
      unfold tv at heql
      by_cases he : ts.getD j default = t
      · have hp := pos_take hlt HN.out he
        have hmem : t ∈ ts := by rw [← he]; exact getD_mem hlt default
        have HP := Lib.hid hp
        rw [decide_eq_true he] at heql
        clear hp he
        generalize ts.getD j default = x at *
        go_wp2_with fail
        go_quiet (fail)
        go_wp2_with fail
        go_ret
        refine ⟨ret_val (by rw [HP.out]; rfl), (Kept.below hb).drewN nq, _, ?_, Or.inl rfl⟩
        rw [ins, if_pos hmem]
        exact HR.out.below (below_drewN (Below.refl _ _) nq)
      · have hno2 : t ∉ ts.take (j + 1) := by
          rw [take_snoc hlt default]
          intro hm
          rcases List.mem_append.1 hm with hm | hm
          · exact HN.out hm
          · exact he (List.mem_singleton.1 hm).symm
        have HN2 := Lib.hid hno2
        rw [decide_eq_false he] at heql
        clear hno2 he
        generalize ts.getD j default = x at *
        go_wp2_with fail
        go_quiet (fail)
        go_wp2_with fail
        go_roundw
        case rel => exact ⟨j + 1, by omega, by go_num, HN2.out, HR.out.below (below_drewN (Below.refl _ _) nq), HX.out, below_drewN hb nq⟩
        case measure => simp [intOf]; omega
    · have hjl : ts.take j = ts := List.take_of_length_le (by omega)
      rw [hjl] at hno
      have hj2 : j = ts.length := by omega
      subst hj2
      have HN := Lib.hid hno
      have HX := Lib.hid hx
      clear hno hx hjl
      have f0 := frozen_of hR.hb 0
      have hbs := (Array.getElem?_eq_some_iff.1 hR.hb).1
      have hbn : k ≠ wr.heap.size := Nat.ne_of_lt hbs
      clear h1 hx1
      go_wp2_with fail
      go_region_law (refine step_pushN encT (w0 := wr.drew) (W := wr.drew) 0 (by rfl) (.tmp 29) (.tmp 31) 51 33 (.agg #[.int .i64 0, .int .u32 0, .int .i64 0, .int .i64 0, .int .i64 0]) 40 (by rfl) Tryd.underlying51 (by kernel_rfl) (by rfl) (by omega) (hR.l.drew) t (by rfl) (by rfl) (Below.refl _ _) (Nat.zero_le _) (by omega) (by rfl) ?_; intro v5 w5 ho5 hB5 hg5 hn5; have hb5 := hR.l.drew.other hg5 (show wr.drew.heap[k]? = _ from hR.hb) (by simp); have d0 := cell_of hb5 0; simp only [List.getElem?_toArray, List.getElem?_cons_zero, List.getElem?_cons_succ] at d0; have g0 := frozen_of hb5 0; obtain ⟨A5, q5, rfl, _, _, _⟩ := (ho5.toSl encT 0).open_)
      all_goals (
        have hb6 := blk_set hb5 0 (.slice A5 (ts ++ [t]).length q5)
        have ho6 := ho5.move (T := [33]) (Quiet.set hb5 (Nat.zero_le _) (by decide) 0 (.slice A5 (ts ++ [t]).length q5)) (by simp)
        have hk5 : Kept (fun i => i ≠ k ∧ (Value.slice A ts.length c).ownBlock ≠ some i) wr w5 := Kept.grownO (w := wr.drew) hg5 (fun g e hg => hg.2 e) |> fun h => ⟨h.os, h.tape, h.output, h.size, h.block⟩
        have hk6 := hk5.trans (Kept.grown (grown_set w5 k 0 (.slice A5 (ts ++ [t]).length q5)) (fun hx => hx.1 rfl))
        have hlen : (ts ++ [t]).length = ts.length + 1 := by simp
        rw [hlen] at hb6 ho6 hk6 hn5
        simp only [Array.setIfInBounds, List.size_toArray, List.length_cons, List.length_nil, Nat.zero_add, Nat.zero_lt_one, dite_true] at hb6
        clear z0 z1 z2 z3 z4 c0 f0 d0 g0 hb5 hg5 ho5 hlen hB5 hbn hk5
        generalize w5.setCell ⟨k, 0, none⟩ (.slice A5 (ts.length + 1) q5) = w6 at hb6 ho6 hk6 ⊢
        have c6 := one_cell hb6
        have hs6 : IntKind.i64.wrap ((ts.length : Int) + 1 - 1) = (ts.length : Int) := by rw [Int.add_sub_cancel]; exact IntWalk.i64_in _ (by omega)
        go_wp2_with fail
        go_ret
        refine ⟨ret_val (by rw [pos_new HN.out]; first | rfl | (simp; done)), (Kept.below hb).trans hk6, _, ⟨hb6, by rw [ins, if_neg HN.out]; exact ho6, ?_⟩, ?_⟩
        · intro x hx
          rw [ins, if_neg HN.out] at hx
          rcases List.mem_append.1 hx with hx | hx
          · exact hR.wf x hx
          · rw [List.mem_singleton.1 hx]; exact ht
        · rcases hn5 with h5 | ⟨g, e5, hg⟩
          · exact Or.inl h5
          · exact Or.inr ⟨g, e5, Nat.le_trans hb.size hg⟩)
end Go.Proofs.YtekleoccdockhaaDoor
