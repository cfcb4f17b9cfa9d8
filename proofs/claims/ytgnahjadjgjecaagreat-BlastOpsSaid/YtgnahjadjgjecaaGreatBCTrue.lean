/- cnf: variable, is, Clause, True: whether clauses hold. -/
/- cnf.True: whether all clauses hold. -/
import Derived.Test.YtgnahjadjgjecaaGreatBVals
import Derived.Test.YtgnahjadjgjecaaGreatBTrue
set_option linter.unusedVariables false
set_option linter.unusedSimpArgs false
namespace Go.Proofs.YtgnahjadjgjecaaGreat
open Go.RowKit Go.Maps Go.MapKept

theorem variable_pos (n : Nat) (w : World) :
    Calls Tryz.prog 83 #[.int .i64 ((n : Int) + 1)] w fun r w' => r = .returned (.int .i64 ((n : Int) + 1)) ∧ w = w' := by
  have h0 : ¬ ((n : Int) + 1 < 0) := by omega
  have h1 : max (0 : Int) ((n : Int) + 1) = (n : Int) + 1 := by omega
  go_enter Tryz.func83, Tryz.ntmps83
  go_wp2_with fail
  go_ret
  exact ⟨rfl, rfl⟩
theorem variable_neg (n : Nat) (hn : n < 1000000000) (m : Int) (hm : m = -((n : Int) + 1)) (w : World) :
    Calls Tryz.prog 83 #[.int .i64 m] w fun r w' => r = .returned (.int .i64 ((n : Int) + 1)) ∧ w = w' := by
  have h0 : m < 0 := by omega
  have h3 : -m = (n : Int) + 1 := by omega
  have h1 : max (0 : Int) ((n : Int) + 1) = (n : Int) + 1 := by omega
  have hw : wrap64 ((n : Int) + 1) = (n : Int) + 1 := by unfold wrap64; omega
  clear hm
  go_enter Tryz.func83, Tryz.ntmps83
  go_wp2_with fail
  go_ret
  exact ⟨rfl, rfl⟩
set_option maxRecDepth 100000 in
theorem is_abs (B : Nat) (vs : List Bool) (n : Nat) (hn : n < 1000000000) (hl : vs.length < 1000000000) (v : Value) (w : World) (h : BitsB B w v vs) (l : Int) (p : Bool) (hp : (decide (0 < l)) = p)
    (hV : Calls Tryz.prog 83 #[.int .i64 l] w fun r w' => r = .returned (.int .i64 ((n : Int) + 1)) ∧ w = w') :
    Calls Tryz.prog 59 #[.int .i64 l, v] w fun r w' => r = .returned (.bool (vs.getD n false == p)) ∧ w = w' := by
  obtain ⟨A, c, rfl, p1, p2, p3⟩ := h.open_
  have h0 : (0 : Int) < (n : Int) + 1 := by omega
  have hw : wrap64 ((n : Int) + 1 - 1) = (n : Int) := by unfold wrap64; omega
  have HP := Lib.hid hp
  by_cases hlt : n < vs.length
  · obtain ⟨bb, of, u, rfl, hc, rfl⟩ := h.at_ hlt false
    have h1 : (n : Int) + 1 ≤ vs.length := by omega
    have h2 : (n : Int) < vs.length := by omega
    generalize vs.getD n false = x at *
    go_enter Tryz.func59, Tryz.ntmps59
    go_wp2_with fail
    refine hV.mono ?_
    rintro r w1 ⟨rfl, rfl⟩
    clear hp
    cases p
    · have hp' : (decide (0 < l)) = false := HP.out
      go_wp2_with fail
      go_ret
      exact ⟨by cases x <;> rfl, rfl⟩
    · have hp' : 0 < l := of_decide_eq_true HP.out
      go_wp2_with fail
      go_ret
      exact ⟨by cases x <;> rfl, rfl⟩
  · have h1 : (decide ((n : Int) + 1 ≤ vs.length)) = false := by simp; omega
    have hx : vs.getD n false = false := by simp [List.getD, List.getElem?_eq_none (by omega : vs.length ≤ n)]
    rw [hx]
    clear hx
    go_enter Tryz.func59, Tryz.ntmps59
    go_wp2_with fail
    refine hV.mono ?_
    rintro r w1 ⟨rfl, rfl⟩
    clear hp
    cases p
    · have hp' : (decide (0 < l)) = false := HP.out
      go_wp2_with fail
      go_ret
      exact ⟨rfl, rfl⟩
    · have hp' : 0 < l := of_decide_eq_true HP.out
      go_wp2_with fail
      go_ret
      exact ⟨rfl, rfl⟩
theorem cis_any (B : Nat) (vs : List Bool) (l : Int) (hl0 : l ≠ 0) (hl1 : l.natAbs < 1000000000) (hl : vs.length < 1000000000) (v : Value) (w : World) (h : BitsB B w v vs) :
    Calls Tryz.prog 59 #[.int .i64 l, v] w fun r w' => r = .returned (.bool (so vs l)) ∧ w = w' := by
  by_cases hneg : l < 0
  · obtain ⟨n, rfl⟩ : ∃ n : Nat, l = -((n : Int) + 1) := ⟨(-l - 1).toNat, by omega⟩
    have := is_abs B vs n (by omega) hl v w h (-((n : Int) + 1)) false (by rw [decide_eq_false_iff_not]; omega) (variable_neg n (by omega) _ rfl w)
    rw [so_minus]
    rw [show (vs.getD n false == false) = !vs.getD n false by cases vs.getD n false <;> rfl] at this
    exact this
  · obtain ⟨n, rfl⟩ : ∃ n : Nat, l = (n : Int) + 1 := ⟨(l - 1).toNat, by omega⟩
    have := is_abs B vs n (by omega) hl v w h ((n : Int) + 1) true (by rw [decide_eq_true_eq]; omega) (variable_pos n w)
    rw [so_pos]
    rw [show (vs.getD n false == true) = vs.getD n false by cases vs.getD n false <;> rfl] at this
    exact this
theorem clause1_any (B : Nat) (vs : List Bool) (l : Int) (hl0 : l ≠ 0) (hl1 : l.natAbs < 1000000000) (hl : vs.length < 1000000000) (v : Value) (g : Nat) (w : World) (hg : w.heap[g]? = some (.cells #[v] 42 (0, 0))) (h : BitsB B w v vs) :
    Calls Tryz.prog 58 #[.int .i64 l, .pointer (some ⟨g, 0, none⟩)] w fun r w' => r = .returned (.bool (so vs l)) ∧ w = w' := by
  have hC := cis_any B vs l hl0 hl1 hl v w h
  have d0 : w.cell? ⟨g, 0, none⟩ = some v := (cell_of hg 0).trans rfl
  clear h
  go_enter Tryz.func58, Tryz.ntmps58
  go_wp2_with fail
  refine hC.mono ?_
  rintro r w1 ⟨rfl, rfl⟩
  go_wp2_with fail
  go_ret
  exact ⟨rfl, rfl⟩
set_option maxRecDepth 100000 in
theorem indexIs_any (B b1 : Nat) (e : TypeId) (vs : List Bool) (hvl : vs.length < 1000000000) (va v : Value) (g : Nat) (xs : List Int) (hx : ∀ x, x ∈ xs → x ≠ 0 ∧ x.natAbs < 1000000000) (w : World) (hs : Sl b1 e I64 w v xs)
    (hg : w.heap[g]? = some (.cells #[va] 42 (0, 0))) (h : BitsB B w va vs) :
    Calls Tryz.prog 82 #[v, .func (.func 58) #[] #[.pointer (some ⟨g, 0, none⟩)]] w fun r w' => (∃ n : Int, r = .returned (.int .i64 n) ∧ decide (0 ≤ n) = clauseT vs xs) ∧ w = w' := by
  obtain ⟨A, c, rfl, q1, q2, q3⟩ := hs.open_
  have q4 : xs.length ≤ 9223372036854775807 := by unfold maxLen at q2; omega
  go_enter Tryz.func82, Tryz.ntmps82
  go_wp2_with fail
  go_loopw [5, 8] (fun _ i wr => ∃ j : Nat, j ≤ xs.length ∧ i = .int .i64 j ∧ clauseT vs (xs.take j) = false ∧ w = wr) (fun _ i _ => xs.length - (intOf i).toNat)
  case atStart => exact ⟨0, Nat.zero_le _, rfl, rfl, by first | rfl | trivial⟩
  case round =>
    obtain ⟨j, hj, rfl, hno0, rfl⟩ := hrel
    have HNO := Lib.hid hno0
    clear hno0
    by_cases hlt : j < xs.length
    · have hlt' : (j : Int) < xs.length := by omega
      obtain ⟨bb, off, u, rfl, hc, rfl, _, _⟩ := hs.at_ hlt 0
      have hO := clause1_any B vs (xs.getD j 0) (hx _ (getD_mem hlt 0)).1 (hx _ (getD_mem hlt 0)).2 hvl va g w hg h
      have hno := HNO.out
      have hsn : clauseT vs (xs.take (j + 1)) = so vs (xs.getD j 0) := by
        rw [List.take_succ_eq_append_getElem hlt]
        unfold clauseT at hno ⊢
        rw [List.any_append, hno]
        simp [List.getD, hlt]
      have hall : so vs (xs.getD j 0) = true → clauseT vs xs = true := fun h => by
        unfold clauseT
        rw [List.any_eq_true]
        exact ⟨xs.getD j 0, getD_mem hlt 0, h⟩
      clear hg h
      generalize xs.getD j 0 = t at hc hO hsn hall
      generalize so vs t = g at hO hsn hall
      have HS := Lib.hid hsn
      clear hsn hno
      cases g
      · clear hall
        go_wp2_with fail
        refine hO.mono ?_
        rintro r w1 ⟨rfl, rfl⟩
        go_wp2_with fail
        go_roundw
        case rel => exact ⟨j + 1, by omega, by go_num, HS.out, by first | rfl | trivial⟩
        case measure => simp [intOf]; omega
      · have ha := hall rfl
        have HA := Lib.hid ha
        clear ha hall
        go_wp2_with fail
        refine hO.mono ?_
        rintro r w1 ⟨rfl, rfl⟩
        go_wp2_with fail
        go_ret
        exact ⟨⟨j, rfl, by rw [HA.out]; simp⟩, rfl⟩
    · have hlt' : ¬ (j : Int) < xs.length := by omega
      have hno := HNO.out
      have he : clauseT vs xs = false := by rw [List.take_of_length_le (by omega)] at hno; exact hno
      have HE := Lib.hid he
      clear he hno hg h
      go_wp2_with fail
      go_ret
      exact ⟨⟨-1, rfl, by rw [HE.out]; rfl⟩, rfl⟩
set_option maxRecDepth 100000 in
theorem cclause_any (B b1 : Nat) (vs : List Bool) (hvl : vs.length < 1000000000) (va v : Value) (e : TypeId) (xs : List Int) (hx : ∀ x, x ∈ xs → x ≠ 0 ∧ x.natAbs < 1000000000) (w : World) (hs : Sl b1 e I64 w v xs) (h : BitsB B w va vs) :
    Calls Tryz.prog 40 #[v, va] w fun r w' => r = .returned (.bool (clauseT vs xs)) ∧ Below w.heap.size w w' := by
  obtain ⟨A2, c2, rfl, _, _, _⟩ := h.open_
  have b1 := (Below.refl w.heap.size w).alloc (Nat.le_refl _) (.cells #[.slice A2 vs.length c2] 42)
  have hg := blk_new w (.cells #[.slice A2 vs.length c2] 42)
  have hs1 := Sl.stable (stable_i64 _ _) (T := [e]) (by simp) _ _ _ _ (Quiet.below b1) hs
  have hI := indexIs_any B _ e vs hvl _ v w.heap.size xs hx _ hs1 hg (BitsB.below h b1)
  clear hs hs1 hg h
  have hC : Calls Tryz.prog 57 #[v, .func (.func 58) #[] #[.pointer (some ⟨w.heap.size, 0, none⟩)]] (w.alloc (.cells #[.slice A2 vs.length c2] 42)) fun r w' => r = .returned (.bool (clauseT vs xs)) ∧ (w.alloc (.cells #[.slice A2 vs.length c2] 42)) = w' := by
    clear b1
    generalize w.alloc (.cells #[.slice A2 vs.length c2] 42) = w1 at *
    generalize w.heap.size = g at *
    go_enter Tryz.func57, Tryz.ntmps57
    go_wp2_with fail
    refine hI.mono ?_
    rintro r w2 ⟨⟨n, rfl, hn⟩, rfl⟩
    have HN := Lib.hid hn
    clear hn
    go_wp2_with fail
    go_ret
    exact ⟨by rw [← HN.out]; rfl, rfl⟩
  clear hI
  go_enter Tryz.func40, Tryz.ntmps40
  go_wp2_with fail
  refine hC.mono ?_
  rintro r w2 ⟨rfl, rfl⟩
  go_wp2_with fail
  go_ret
  exact ⟨rfl, b1⟩
end Go.Proofs.YtgnahjadjgjecaaGreat
set_option linter.unusedVariables false
set_option linter.unusedSimpArgs false
namespace Go.Proofs.YtgnahjadjgjecaaGreat
open Go.RowKit Go.Maps Go.MapKept

/-- Literals that a clause may have. -/
def LitsOk (cs : List (List Int)) : Prop := ∀ c, c ∈ cs → ∀ x, x ∈ c → x ≠ 0 ∧ x.natAbs < 1000000000
theorem true1_any (B b1 : Nat) (vs : List Bool) (hvl : vs.length < 1000000000) (va v : Value) (g : Nat) (e : TypeId) (xs : List Int) (hx : ∀ x, x ∈ xs → x ≠ 0 ∧ x.natAbs < 1000000000) (w : World) (hs : Sl b1 e I64 w v xs)
    (hg : w.heap[g]? = some (.cells #[va] 42 (0, 0))) (h : BitsB B w va vs) :
    Calls Tryz.prog 39 #[v, .pointer (some ⟨g, 0, none⟩)] w fun r w' => r = .returned (.bool (!clauseT vs xs)) ∧ Below w.heap.size w w' := by
  have hC := cclause_any B b1 vs hvl va v e xs hx w hs h
  have d0 : w.cell? ⟨g, 0, none⟩ = some va := (cell_of hg 0).trans rfl
  clear h hs
  go_enter Tryz.func39, Tryz.ntmps39
  go_wp2_with fail
  refine hC.mono ?_
  rintro r w1 ⟨rfl, bb⟩
  go_wp2_with fail
  go_ret
  exact ⟨rfl, bb⟩
set_option maxRecDepth 100000 in
theorem indexCl_any (B B1 : Nat) (vs : List Bool) (hvl : vs.length < 1000000000) (va v : Value) (g : Nat) (cs : List (List Int)) (hx : LitsOk cs) (w : World) (hs : Rows B1 w v cs)
    (hg : w.heap[g]? = some (.cells #[va] 42 (0, 0))) (h : BitsB B w va vs) :
    Calls Tryz.prog 56 #[v, .func (.func 39) #[] #[.pointer (some ⟨g, 0, none⟩)]] w fun r w' => (∃ n : Int, r = .returned (.int .i64 n) ∧ decide (0 ≤ n) = !allT vs cs) ∧ Below w.heap.size w w' := by
  obtain ⟨A, c, rfl, q1, q2, q3⟩ := (Own.toSl hs 0).open_
  have q4 : cs.length ≤ 9223372036854775807 := by unfold maxLen at q2; omega
  have HH := Lib.hid hg
  clear hg
  go_enter Tryz.func56, Tryz.ntmps56
  go_wp2_with fail
  go_loopw [5, 8] (fun _ i wr => ∃ j : Nat, j ≤ cs.length ∧ i = .int .i64 j ∧ allT vs (cs.take j) = true ∧ Below w.heap.size w wr) (fun _ i _ => cs.length - (intOf i).toNat)
  case atStart => exact ⟨0, Nat.zero_le _, rfl, rfl, Below.refl _ _⟩
  case round =>
    obtain ⟨j, hj, rfl, hno0, hb⟩ := hrel
    have HNO := Lib.hid hno0
    clear hno0
    by_cases hlt : j < cs.length
    · have hlt' : (j : Int) < cs.length := by omega
      obtain ⟨bb, off, u, rfl, hc, hu⟩ := (Own.toSl (Rows.later hs hb) 0).at_ hlt []
      have hO := true1_any B 0 vs hvl va u g _ (cs.getD j []) (hx _ (getD_mem hlt [])) wr (Own.toSl hu 0) (blk_below HH.out hb) (BitsB.below h hb)
      have hno := HNO.out
      have hsn : allT vs (cs.take (j + 1)) = clauseT vs (cs.getD j []) := by
        rw [List.take_succ_eq_append_getElem hlt]
        unfold allT at hno ⊢
        rw [List.all_append, hno]
        simp [List.getD, hlt]
      have hall : clauseT vs (cs.getD j []) = false → allT vs cs = false := fun h => by
        unfold allT
        rw [List.all_eq_false]
        exact ⟨cs.getD j [], getD_mem hlt [], by rw [h]; decide⟩
      clear h hu
      generalize cs.getD j [] = t at hO hsn hall
      generalize clauseT vs t = g at hO hsn hall
      have HS := Lib.hid hsn
      clear hsn hno
      cases g
      · have ha := hall rfl
        have HA := Lib.hid ha
        clear ha hall
        go_wp2_with fail
        refine hO.mono ?_
        rintro r w1 ⟨rfl, bb⟩
        go_wp2_with fail
        go_ret
        exact ⟨⟨j, rfl, by rw [HA.out]; simp⟩, below_then hb bb⟩
      · clear hall
        go_wp2_with fail
        refine hO.mono ?_
        rintro r w1 ⟨rfl, bb⟩
        go_wp2_with fail
        go_roundw
        case rel => exact ⟨j + 1, by omega, by go_num, HS.out, below_then hb bb⟩
        case measure => simp [intOf]; omega
    · have hlt' : ¬ (j : Int) < cs.length := by omega
      have hno := HNO.out
      have he : allT vs cs = true := by rw [List.take_of_length_le (by omega)] at hno; exact hno
      have HE := Lib.hid he
      clear he hno h
      go_wp2_with fail
      go_ret
      exact ⟨⟨-1, rfl, by rw [HE.out]; rfl⟩, hb⟩
set_option maxRecDepth 100000 in
theorem ctrue_any (B B1 : Nat) (n : Int) (vs : List Bool) (hvl : vs.length < 1000000000) (va v : Value) (cs : List (List Int)) (hx : LitsOk cs) (w : World) (hs : Rows B1 w v cs) (h : BitsB B w va vs) :
    Calls Tryz.prog 20 #[.agg #[.int .i64 n, v], va] w fun r w' => r = .returned (.bool (allT vs cs)) ∧ Below w.heap.size w w' := by
  obtain ⟨A2, c2, rfl, _, _, _⟩ := h.open_
  obtain ⟨A1, c1, rfl, _, _, _⟩ := (Own.toSl hs 0).open_
  have b1 := (Below.refl w.heap.size w).alloc (Nat.le_refl _) (.cells #[.int .i64 n, .slice A1 cs.length c1] 40)
  have b2 := b1.alloc (by simp) (.cells #[.slice A2 vs.length c2] 42)
  have hA := blk_new w (.cells #[.int .i64 n, .slice A1 cs.length c1] 40)
  have hX := blk_new (w.alloc (.cells #[.int .i64 n, .slice A1 cs.length c1] 40)) (.cells #[.slice A2 vs.length c2] 42)
  rw [show (w.alloc (.cells #[.int .i64 n, .slice A1 cs.length c1] 40)).heap.size = w.heap.size + 1 by simp] at hX
  have hA := blk_alloc hA (.cells #[.slice A2 vs.length c2] 42)
  have d1 : ((w.alloc (.cells #[.int .i64 n, .slice A1 cs.length c1] 40)).alloc (.cells #[.slice A2 vs.length c2] 42)).cell? ⟨w.heap.size, 1, none⟩ = some (.slice A1 cs.length c1) := (cell_of hA 1).trans rfl
  have hI := indexCl_any B B1 vs hvl _ _ (w.heap.size + 1) cs hx _ (Rows.later hs b2) hX (BitsB.below h b2)
  clear h hs hX hA b1
  have hC : Calls Tryz.prog 38 #[.slice A1 cs.length c1, .func (.func 39) #[] #[.pointer (some ⟨w.heap.size + 1, 0, none⟩)]] ((w.alloc (.cells #[.int .i64 n, .slice A1 cs.length c1] 40)).alloc (.cells #[.slice A2 vs.length c2] 42)) fun r w' => r = .returned (.bool (!allT vs cs)) ∧ Below ((w.alloc (.cells #[.int .i64 n, .slice A1 cs.length c1] 40)).alloc (.cells #[.slice A2 vs.length c2] 42)).heap.size ((w.alloc (.cells #[.int .i64 n, .slice A1 cs.length c1] 40)).alloc (.cells #[.slice A2 vs.length c2] 42)) w' := by
    clear b2 d1
    generalize (w.alloc (.cells #[.int .i64 n, .slice A1 cs.length c1] 40)).alloc (.cells #[.slice A2 vs.length c2] 42) = w1 at *
    generalize w.heap.size + 1 = g at *
    go_enter Tryz.func38, Tryz.ntmps38
    go_wp2_with fail
    refine hI.mono ?_
    rintro r w2 ⟨⟨n, rfl, hn⟩, bb⟩
    have HN := Lib.hid hn
    clear hn
    go_wp2_with fail
    go_ret
    exact ⟨by rw [← HN.out]; rfl, bb⟩
  clear hI
  go_enter Tryz.func20, Tryz.ntmps20
  go_wp2_with fail
  refine hC.mono ?_
  rintro r w2 ⟨rfl, bb⟩
  have hb := below_then b2 bb
  clear hC d1 b2 bb
  go_wp2_with fail
  go_ret
  refine ⟨ret_val (congrArg Value.bool ?_), hb⟩
  simp
end Go.Proofs.YtgnahjadjgjecaaGreat
