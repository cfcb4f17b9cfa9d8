/- A query's clauses: their literals are its variables'; whether they hold is as the document says. -/
/- whetstonelaw14: fixed: Differ at known terms. -/
/- Arrays of 32 words, equal. -/
/- whetstonelaw14: fixed. -/
import Derived.Test.YtgnahjadjgjecaaBRNeed
import Derived.Test.YtgnahjadjgjecaaTLit
import Derived.Test.YtgnahjadjgjecaaBVals
import Derived.ChangeKeysEq
import Derived.Test.YtgnahjadjgjecaaBReg
set_option linter.unusedVariables false
set_option linter.unusedSimpArgs false
namespace Go.Proofs.Ytgnahjadjgjecaa

theorem queryC_lits {gs : List Gate} (hG : GGood gs) {s : List Int} (hs : ∀ l, l ∈ s → Lit (gs.length + 1) l) : ∀ c, c ∈ queryC gs s → ∀ x, x ∈ c → Lit (gs.length + 1) x := by
  intro c hc x hx
  unfold queryC at hc
  rcases List.mem_cons.1 hc with rfl | hc
  · rw [List.mem_singleton.1 hx]
    exact lit_one _
  · rcases List.mem_append.1 hc with hc | hc
    · obtain ⟨i, g, hi, hcg⟩ := (gclauses_mem _ _ _).1 hc
      have hlt := (List.getElem?_eq_some_iff.1 hi).1
      unfold gcl at hcg
      rcases hG.all i g hi with ⟨h0, _⟩ | ⟨hk, ha, hb⟩
      · rw [if_pos h0] at hcg
        cases hcg
      · have la := ha.mono (m := gs.length + 1) (by omega)
        have lb := hb.mono (m := gs.length + 1) (by omega)
        have lv : Lit (gs.length + 1) (2 + (i : Int)) := by unfold Lit; omega
        have key : x = 2 + (i : Int) ∨ x = -(2 + (i : Int)) ∨ x = g.a ∨ x = -g.a ∨ x = g.b ∨ x = -g.b := by
          rw [if_neg (by omega)] at hcg
          split at hcg
          · simp only [List.mem_cons, List.not_mem_nil, or_false] at hcg
            rcases hcg with rfl | rfl | rfl <;> simp only [List.mem_cons, List.not_mem_nil, or_false] at hx <;> omega
          · simp only [List.mem_cons, List.not_mem_nil, or_false] at hcg
            rcases hcg with rfl | rfl | rfl | rfl <;> simp only [List.mem_cons, List.not_mem_nil, or_false] at hx <;> omega
        rcases key with rfl | rfl | rfl | rfl | rfl | rfl
        · exact lv
        · exact lv.neg
        · exact la
        · exact la.neg
        · exact lb
        · exact lb.neg
    · rw [List.mem_singleton.1 hc] at hx
      exact hs x hx
theorem queryC_len (gs : List Gate) (s : List Int) : (queryC gs s).length ≤ 4 * gs.length + 2 := by
  have := gclauses_len gs 2
  unfold queryC
  rw [List.length_cons, List.length_append, List.length_singleton]
  omega
theorem queryC_rows (gs : List Gate) (s : List Int) (hs : s.length < 1000000) : ∀ c, c ∈ queryC gs s → c.length < 1000000 := by
  intro c hc
  unfold queryC at hc
  rcases List.mem_cons.1 hc with rfl | hc
  · simp
  · rcases List.mem_append.1 hc with hc | hc
    · obtain ⟨i, g, hi, hcg⟩ := (gclauses_mem _ _ _).1 hc
      unfold gcl at hcg
      split at hcg
      · cases hcg
      · split at hcg
        · simp only [List.mem_cons, List.not_mem_nil, or_false] at hcg
          rcases hcg with rfl | rfl | rfl <;> simp
        · simp only [List.mem_cons, List.not_mem_nil, or_false] at hcg
          rcases hcg with rfl | rfl | rfl | rfl <;> simp
    · rw [List.mem_singleton.1 hc]
      exact hs
theorem allB_allT {n : Nat} {a : List Bool} (ha : a.length = n) {cs : List (List Int)} (h : ∀ c, c ∈ cs → ∀ x, x ∈ c → Lit n x) : cs.all (clauseB a) = allT a cs := by
  subst ha
  unfold allT
  rw [Bool.eq_iff_iff, List.all_eq_true, List.all_eq_true]
  constructor
  · intro k c hc; rw [← clauseB_so (h c hc)]; exact k c hc
  · intro k c hc; rw [clauseB_so (h c hc)]; exact k c hc
/-- What is known of a query that Differ answers. -/
structure QOk (ts : List Term) (ax bx : List Int) (gs : List Gate) (s : List Int) : Prop where mk_ ::
  q : QueryOk ts (prs ax bx) gs s
  glen : gs.length ≤ 160000
  clen : (queryC gs s).length ≤ 1000000
  rows : ∀ c, c ∈ queryC gs s → c.length < 1000000
  lits : ∀ c, c ∈ queryC gs s → ∀ x, x ∈ c → Lit (gs.length + 1) x
theorem qok {ts : List Term} (hG : Good ts) (hfew : ts.length ≤ 300) {ax bx : List Int} (ha : ax.length ≤ 100) (h : chkO ts ax bx = 0) : QOk ts ax bx (queryF ts (prs ax bx)).1.1 (queryF ts (prs ax bx)).2 := by
  have o := query_ok hG (prs_good h)
  have h1 := o.len
  have h2 := o.slen
  rw [prs_len] at h1 h2
  have h3 := queryC_len (queryF ts (prs ax bx)).1.1 (queryF ts (prs ax bx)).2
  exact ⟨o, by omega, by omega, queryC_rows _ _ (by omega), queryC_lits o.good o.lits⟩
/-- The clauses hold, of registers' values, just where some terms differ. -/
theorem QOk.holds {ts : List Term} {ax bx : List Int} {gs : List Gate} {s : List Int} (h : QOk ts ax bx gs s) {x : Nat → Nat} (hx : ∀ r, x r < 4294967296) : (queryC gs s).all (clauseB (vals x gs)) = difP ts x (prs ax bx) := by
  rw [allB_allT (vals_len x gs) h.lits, h.q.vals x, cl_of hx]
end Go.Proofs.Ytgnahjadjgjecaa
set_option linter.unusedVariables false
set_option linter.unusedSimpArgs false
namespace Go.Proofs.Ytgnahjadjgjecaa
open Go.RowKit Go.Maps Go.MapKept

def bx1 : List Term := [varT 1]
def bx2 : List Term := [varT 1, varT 2]
def bx3 : List Term := [varT 1, varT 2, opT 27 0 1]
def bx4 : List Term := [varT 1, varT 2, opT 27 0 1, opT 28 2 1]
def bx5 : List Term := [varT 1, varT 2, opT 27 0 1, opT 28 2 1, opT 37 0 1]
theorem bx5_good : Good bx5 := good_of (by decide +kernel)
theorem sl_one (w : World) (n : Int) (h1 : -9223372036854775808 ≤ n) (h2 : n ≤ 9223372036854775807) : Sl 0 3 I64 (w.alloc (.cells #[.int .i64 n] 3)) (.slice (some ⟨w.heap.size, 0, none⟩) 1 1) [n] :=
  Sl.lit (us := [.int .i64 n]) (blk_new w (.cells #[.int .i64 n] 3)) rfl (by unfold maxLen; omega) ⟨⟨rfl, h1, h2⟩, trivial⟩
structure DifQ (K : Nat → Prop) (w w' : World) (q : Nat) (ts : List Term) (ax bx : List Int) (gs : List Gate) (s : List Int) : Prop where mk_ ::
  q : QAt K w' q gs (queryC gs s)
  ok : QOk ts ax bx gs s
  below : Below w.heap.size w w'
def DifY (K : Nat → Prop) (w : World) (ts : List Term) (ax bx : List Int) (r : Ending) (w' : World) : Prop := ∃ q gs s, r = .returned (.tuple #[.pointer (some ⟨q, 0, none⟩), .int .i64 0]) ∧ DifQ K w w' q ts ax bx gs s
theorem dif_any (Kd K : Nat → Prop) (b : Nat) (ts : List Term) (hG : Good ts) (hfew : ts.length ≤ 300) (ax bx : List Int) (ha : ax.length ≤ 100) (hb : bx.length ≤ 100) (va vb : Value) (e1 e2 : TypeId) (w : World) (hK : ∀ i, K i → i < w.heap.size)
    (hva : Sl 0 e1 I64 w va ax) (hvb : Sl 0 e2 I64 w vb bx) (hD : DagAt Kd w b ts) (hyes : chkO ts ax bx = 0) :
    Calls Try.prog 5 #[.pointer (some ⟨b, 0, none⟩), va, vb] w (DifY K w ts ax bx) :=
  (differ_yes Kd b ts hG hfew ax bx ha hb va vb e1 e2 w hva hvb hD hyes).mono fun r w' ⟨h1, h2, h3⟩ => ⟨_, _, _, h1, h2.mono hK, qok hG hfew ha hyes, h3⟩
theorem dif_one (Kd K : Nat → Prop) (b : Nat) (ts : List Term) (hG : Good ts) (hfew : ts.length ≤ 300) (n m : Int) (n' m' : Nat) (hn : n = n') (hm : m = m') (hn2 : n' < 1000) (hm2 : m' < 1000) (w : World) (hK : ∀ i, K i → i < w.heap.size) (hD : DagAt Kd w b ts) (hyes : chkO ts [n] [m] = 0) :
    Calls Try.prog 5 #[.pointer (some ⟨b, 0, none⟩), .slice (some ⟨w.heap.size, 0, none⟩) 1 1, .slice (some ⟨w.heap.size + 1, 0, none⟩) 1 1] ((w.alloc (.cells #[.int .i64 n] 3)).alloc (.cells #[.int .i64 m] 3)) (DifY K w ts [n] [m]) := by
  have b1 := (Below.refl w.heap.size w).alloc (Nat.le_refl _) (.cells #[.int .i64 n] 3)
  have b2 := b1.alloc (by simp) (.cells #[.int .i64 m] 3)
  have h1 := (sl_one w n (by omega) (by omega)).later ((Below.refl (w.alloc (.cells #[.int .i64 n] 3)).heap.size (w.alloc (.cells #[.int .i64 n] 3))).alloc (Nat.le_refl _) (.cells #[.int .i64 m] 3))
  have h2 := sl_one (w.alloc (.cells #[.int .i64 n] 3)) m (by omega) (by omega)
  rw [show (w.alloc (.cells #[.int .i64 n] 3)).heap.size = w.heap.size + 1 by simp] at h2
  refine (dif_any Kd K b ts hG hfew [n] [m] (by simp) (by simp) _ _ _ _ _ (fun i hi => Nat.lt_of_lt_of_le (hK i hi) b2.size) h1 h2 (hD.below b2) hyes).mono ?_
  rintro r w' ⟨q, gs, s, h1, h2⟩
  exact ⟨q, gs, s, h1, h2.q, h2.ok, below_then b2 h2.below⟩
theorem dif_not (Kd : Nat → Prop) (b : Nat) (ts : List Term) (hG : Good ts) (hfew : ts.length ≤ 300) (n m c : Int) (n' m' : Nat) (hn : n = n') (hm : m = m') (hn2 : n' < 1000) (hm2 : m' < 1000) (w : World) (hD : DagAt Kd w b ts) (hc : chkO ts [n] [m] = c) (hc0 : c ≠ 0) :
    Calls Try.prog 5 #[.pointer (some ⟨b, 0, none⟩), .slice (some ⟨w.heap.size, 0, none⟩) 1 1, .slice (some ⟨w.heap.size + 1, 0, none⟩) 1 1] ((w.alloc (.cells #[.int .i64 n] 3)).alloc (.cells #[.int .i64 m] 3)) fun r w' => r = .returned (.tuple #[.pointer none, .int .i64 c]) ∧ Below w.heap.size w w' := by
  subst hc
  have b1 := (Below.refl w.heap.size w).alloc (Nat.le_refl _) (.cells #[.int .i64 n] 3)
  have b2 := b1.alloc (by simp) (.cells #[.int .i64 m] 3)
  have h1 := (sl_one w n (by omega) (by omega)).later ((Below.refl (w.alloc (.cells #[.int .i64 n] 3)).heap.size (w.alloc (.cells #[.int .i64 n] 3))).alloc (Nat.le_refl _) (.cells #[.int .i64 m] 3))
  have h2 := sl_one (w.alloc (.cells #[.int .i64 n] 3)) m (by omega) (by omega)
  rw [show (w.alloc (.cells #[.int .i64 n] 3)).heap.size = w.heap.size + 1 by simp] at h2
  refine (differ_no Kd b ts hG hfew [n] [m] (by simp) (by simp) _ _ _ _ _ h1 h2 (hD.below b2) hc0).mono ?_
  rintro r w' ⟨h1, h2⟩
  exact ⟨h1, below_then b2 h2⟩
theorem dif_nil (Kd : Nat → Prop) (b : Nat) (ts : List Term) (hG : Good ts) (hfew : ts.length ≤ 300) (n : Int) (n' : Nat) (hn : n = n') (hn2 : n' < 1000) (w : World) (hD : DagAt Kd w b ts) :
    Calls Try.prog 5 #[.pointer (some ⟨b, 0, none⟩), .slice (some ⟨w.heap.size, 0, none⟩) 1 1, .slice none 0 0] (w.alloc (.cells #[.int .i64 n] 3)) fun r w' => r = .returned (.tuple #[.pointer none, .int .i64 1]) ∧ Below w.heap.size w w' := by
  have b1 := (Below.refl w.heap.size w).alloc (Nat.le_refl _) (.cells #[.int .i64 n] 3)
  refine (differ_no Kd b ts hG hfew [n] [] (by simp) (by simp) _ _ _ 3 _ (sl_one w n (by omega) (by omega)) Sl.nil_ (hD.below b1) (by unfold chkO; simp)).mono ?_
  rintro r w' ⟨h1, h2⟩
  exact ⟨h1, below_then b1 h2⟩
end Go.Proofs.Ytgnahjadjgjecaa
set_option linter.unusedVariables false
set_option linter.unusedSimpArgs false
namespace Go.Proofs.Ytgnahjadjgjecaa
open Go.RowKit

theorem info_u321 : ∃ i, Try.prog.info? 26 = some i := by
  have h : (Try.prog.info? 26).isSome = true := by kernel_rfl
  exact Option.isSome_iff_exists.1 h
theorem cells_u321 : Try.prog.cellsOf 26 = 1 := by kernel_rfl
theorem eq_itemsB (d : Nat) (z : Nat → Nat) (w : World) : ∀ is : List Nat, (∀ i, i ∈ is → i < 32) → (Op.eqItems (d + 1) 26 1 (regB z) (regB z) is).run Try.prog w = .ok true w
  | [], _ => by simp [Op.eqItems]
  | i :: is, h => by
    have hi := h i List.mem_cons_self
    have h1 : (isAgg 26).run Try.prog w = .ok false w := by kernel_rfl
    have hp : (part 26 (regB z) (i * 1)).run Try.prog w = .ok (.int .u32 (z i : Int)) w := by
      rw [Nat.mul_one]
      simp [part, Sem.run_bind, h1, regB_get z hi]
    have he : (Op.equalIn (d + 1) 26 (.int .u32 (z i : Int)) (.int .u32 (z i : Int))).run Try.prog w = .ok true w := by
      simp [Op.equalIn, Sem.run_bind, run_underlying Try.underlying26]
    have ih := eq_itemsB d z w is fun j hj => h j (List.mem_cons_of_mem i hj)
    simp only [Op.eqItems, Sem.run_bind, hp, he, Result.andThen_ok]
    simpa using ih
theorem eq_regB (z : Nat → Nat) (w : World) : (binOp .eql 27 (.agg (regB z)) (.agg (regB z))).run Try.prog w = .ok (.bool true) w := by
  obtain ⟨i, hi⟩ := info_u321
  have h := run_equalIn_array (P := Try.prog) (w := w) 9999 (regB z) (regB z) Try.underlying27 hi
  rw [cells_u321, eq_itemsB 9998 z w _ (fun i hi => by simpa using hi)] at h
  have h2 : (Op.equalIn 10000 27 (.agg (regB z)) (.agg (regB z))).run Try.prog w = .ok true w := h
  rw [run_eql_struct, h2]
  rfl
end Go.Proofs.Ytgnahjadjgjecaa
set_option linter.unusedVariables false
set_option linter.unusedSimpArgs false
namespace Go.Proofs.Ytgnahjadjgjecaa
open Go.RowKit Go.Maps Go.MapKept


theorem eqR_exec {oi : Oper} {a : Act} {z : Nat → Nat} (x y : Operand) (t : TypeId) (ho : oi.op = .binOp .eql 27 x y t) (hx : a.eval x = .agg (regB z)) (hy : a.eval y = .agg (regB z)) (w : World) : (execOp a.eval oi).run Try.prog w = .ok (.value (.bool true)) w := by
  have h := eq_regB z w
  have hg : (eqGuard .eql 27 x y (.agg (regB z)) (.agg (regB z))).run Try.prog w = .ok () w := run_eqGuard_agg _ _ _ _ _ _ _ Try.eqGuardType27
  unfold execOp
  simp only [ho, hx, hy, Sem.run_bind, hg, h, Result.andThen_ok, Sem.run_pure]

def rx12 : Nat → Nat := fun r => if r = 1 then 1 else if r = 2 then 2 else 0
theorem rx12_lt (r : Nat) : rx12 r < 4294967296 := by unfold rx12; split <;> (try split) <;> omega
theorem rx12_arr : (#[.int .u32 0, .int .u32 1, .int .u32 2, .int .u32 0, .int .u32 0, .int .u32 0, .int .u32 0, .int .u32 0, .int .u32 0, .int .u32 0, .int .u32 0, .int .u32 0, .int .u32 0, .int .u32 0, .int .u32 0, .int .u32 0, .int .u32 0, .int .u32 0, .int .u32 0, .int .u32 0, .int .u32 0, .int .u32 0, .int .u32 0, .int .u32 0, .int .u32 0, .int .u32 0, .int .u32 0, .int .u32 0, .int .u32 0, .int .u32 0, .int .u32 0, .int .u32 0] : Array Value) = regB rx12 := by rfl
set_option maxRecDepth 100000 in
set_option maxHeartbeats 40000000 in
theorem bfixed_any (w : World) : Calls Try.prog 6 #[] w fun e w' => e = .returned (.bool true) ∧ Below w.heap.size w w' := by
  obtain ⟨K, hK⟩ : ∃ K : Nat → Prop, (fun i => i < w.heap.size) = K := ⟨_, rfl⟩
  have hN := new_any (fun i => i < w.heap.size) w (fun i hi => hi)
  have hend : ∀ w', Kept K w w' → Below w.heap.size w w' := fun w' h => by rw [← hK] at h; exact below_kept h
  have hKi : ∀ i, K i → i < w.heap.size := fun i h => by rw [← hK] at h; exact h
  rw [hK] at hN
  clear hK
  generalize hb : w.heap.size = b at hN
  have HB := Lib.hid hb
  clear hb
  go_enter Try.func6, Try.ntmps6
  go_wp2_with fail
  refine hN.mono ?_
  rintro r w0 ⟨rfl, h0, b0⟩
  have k0 : Kept K w w0 := Kept.below (by rw [HB.out]; exact b0)
  clear hN b0
  go_wp2_with fail
  refine (var_lit K b [] bx1 1 0 1 0 rfl rfl (by omega) (by decide) (by decide +kernel) (by decide +kernel) w0 h0).mono ?_
  rintro r w1 ⟨rfl, h1, q1⟩
  have k1 := k0.trans q1
  clear h0 k0 q1
  go_wp2_with fail
  refine (var_lit K b bx1 bx2 2 1 2 1 rfl rfl (by omega) (by decide) (by decide +kernel) (by decide +kernel) w1 h1).mono ?_
  rintro r w2 ⟨rfl, h2, q2⟩
  have k2 := k1.trans q2
  clear h1 k1 q2
  go_wp2_with fail
  refine (op_lit K b bx2 bx3 27 0 1 2 27 0 1 2 rfl rfl rfl rfl (by decide) (by decide) (by decide) rfl (by decide +kernel) (by decide +kernel) w2 h2).mono ?_
  rintro r w3 ⟨rfl, h3, q3⟩
  have k3 := k2.trans q3
  clear h2 k2 q3
  go_wp2_with fail
  refine (op_lit K b bx3 bx4 28 2 1 3 28 2 1 3 rfl rfl rfl rfl (by decide) (by decide) (by decide) rfl (by decide +kernel) (by decide +kernel) w3 h3).mono ?_
  rintro r w4 ⟨rfl, h4, q4⟩
  have k4 := k3.trans q4
  clear h3 k3 q4
  go_wp2_with fail
  refine (op_lit K b bx4 bx5 37 0 1 4 37 0 1 4 rfl rfl rfl rfl (by decide) (by decide) (by decide) rfl (by decide +kernel) (by decide +kernel) w4 h4).mono ?_
  rintro r w5 ⟨rfl, h5, q5⟩
  have k5 := k4.trans q5
  clear h4 k4 q5
  have hs5 : ∀ i, K i → i < w5.heap.size := fun i hi => Nat.lt_of_lt_of_le (hKi i hi) k5.size
  go_wp2_with fail
  refine (dif_one K K b bx5 bx5_good (by decide) 0 1 0 1 rfl rfl (by omega) (by omega) w5 hs5 h5 (by decide +kernel)).mono ?_
  rintro r w6 ⟨qa, ga, sa, rfl, ⟨qA, okA, b6⟩⟩
  have h6 := h5.below b6
  have k6 := k5.trans (Kept.below b6)
  have hs6 : ∀ i, K i → i < w6.heap.size := fun i hi => Nat.lt_of_lt_of_le (hKi i hi) k6.size
  clear h5 k5 hs5 b6
  go_wp2_with fail
  refine (dif_not K b bx5 bx5_good (by decide) 4 0 140 4 0 rfl rfl (by omega) (by omega) w6 h6 (by decide +kernel) (by decide)).mono ?_
  rintro r w7 ⟨rfl, bb⟩
  have h7 := h6.below bb
  have k7 := k6.trans (Kept.below bb)
  have qA := QAt.below qA bb
  have hs7 : ∀ i, K i → i < w7.heap.size := fun i hi => Nat.lt_of_lt_of_le (hKi i hi) k7.size
  clear h6 k6 hs6 bb
  go_wp2_with fail
  refine (dif_nil K b bx5 bx5_good (by decide) 0 0 rfl (by omega) w7 h7).mono ?_
  rintro r w8 ⟨rfl, bb⟩
  have h8 := h7.below bb
  have k8 := k7.trans (Kept.below bb)
  have qA := QAt.below qA bb
  have hs8 : ∀ i, K i → i < w8.heap.size := fun i hi => Nat.lt_of_lt_of_le (hKi i hi) k8.size
  clear h7 k7 hs7 bb
  go_wp2_with fail
  refine (dif_not K b bx5 bx5_good (by decide) 99 0 100 99 0 rfl rfl (by omega) (by omega) w8 h8 (by decide +kernel) (by decide)).mono ?_
  rintro r w9 ⟨rfl, bb⟩
  have h9 := h8.below bb
  have k9 := k8.trans (Kept.below bb)
  have qA := QAt.below qA bb
  have hs9 : ∀ i, K i → i < w9.heap.size := fun i hi => Nat.lt_of_lt_of_le (hKi i hi) k9.size
  clear h8 k8 hs8 bb
  go_wp2_with fail
  refine (dif_one K K b bx5 bx5_good (by decide) 3 0 3 0 rfl rfl (by omega) (by omega) w9 hs9 h9 (by decide +kernel)).mono ?_
  rintro r w10 ⟨qb, gb, sb, rfl, ⟨qB, okB, bb⟩⟩
  have k10 := k9.trans (Kept.below bb)
  have qA := QAt.below qA bb
  clear h9 k9 hs9 bb
  have cA := cnf_any K qa ga _ okA.clen okA.rows w10 qA
  go_wp2_with fail
  refine cA.mono ?_
  rintro r w11 ⟨vA, rfl, rA, bb⟩
  have k11 := k10.trans (Kept.below bb)
  have qA := QAt.below qA bb
  have qB := QAt.below qB bb
  clear cA k10 bb
  have cB := cnf_any K qb gb _ okB.clen okB.rows w11 qB
  go_wp2_with fail
  refine cB.mono ?_
  rintro r w12 ⟨vB, rfl, rB, bb⟩
  have k12 := k11.trans (Kept.below bb)
  have qA := QAt.below qA bb
  have qB := QAt.below qB bb
  have rA := Rows.later rA bb
  clear cB k11 bb
  obtain ⟨A1, c1, rfl, _, _, _⟩ := (Own.toSl rA 0).open_
  obtain ⟨A2, c2, rfl, _, _, _⟩ := (Own.toSl rB 0).open_
  have zz := blk_new ((w12.alloc (.cells #[.int .i64 ((ga.length : Int) + 1), .slice A1 (queryC ga sa).length c1] 46)).alloc (.cells #[.int .i64 ((gb.length : Int) + 1), .slice A2 (queryC gb sb).length c2] 46)) (.cells #[.int .u32 0, .int .u32 0, .int .u32 0, .int .u32 0, .int .u32 0, .int .u32 0, .int .u32 0, .int .u32 0, .int .u32 0, .int .u32 0, .int .u32 0, .int .u32 0, .int .u32 0, .int .u32 0, .int .u32 0, .int .u32 0, .int .u32 0, .int .u32 0, .int .u32 0, .int .u32 0, .int .u32 0, .int .u32 0, .int .u32 0, .int .u32 0, .int .u32 0, .int .u32 0, .int .u32 0, .int .u32 0, .int .u32 0, .int .u32 0, .int .u32 0, .int .u32 0] 27)
  rw [show ((w12.alloc (.cells #[.int .i64 ((ga.length : Int) + 1), .slice A1 (queryC ga sa).length c1] 46)).alloc (.cells #[.int .i64 ((gb.length : Int) + 1), .slice A2 (queryC gb sb).length c2] 46)).heap.size = w12.heap.size + 2 by simp] at zz
  go_upto_region 18 with (first | (refine wpList_store_row rfl 27 (.tmp 24) (.tmp 119) rfl (w12.heap.size + 2) (regB rx12) rfl (by rw [← rx12_arr]; rfl) 27 _ zz (by rw [regB_size]; exact info_regs) (by rw [regB_size]; rfl) (regB_one _) ?_) | fail)
  have bx1 := (Below.refl w12.heap.size w12).alloc (Nat.le_refl _) (.cells #[.int .i64 ((ga.length : Int) + 1), .slice A1 (queryC ga sa).length c1] 46)
  have bx2 := bx1.alloc (by simp) (.cells #[.int .i64 ((gb.length : Int) + 1), .slice A2 (queryC gb sb).length c2] 46)
  have bx3 := bx2.alloc (by simp; omega) (.cells #[.int .u32 0, .int .u32 0, .int .u32 0, .int .u32 0, .int .u32 0, .int .u32 0, .int .u32 0, .int .u32 0, .int .u32 0, .int .u32 0, .int .u32 0, .int .u32 0, .int .u32 0, .int .u32 0, .int .u32 0, .int .u32 0, .int .u32 0, .int .u32 0, .int .u32 0, .int .u32 0, .int .u32 0, .int .u32 0, .int .u32 0, .int .u32 0, .int .u32 0, .int .u32 0, .int .u32 0, .int .u32 0, .int .u32 0, .int .u32 0, .int .u32 0, .int .u32 0] 27)
  have ya := blk_new w12 (.cells #[.int .i64 ((ga.length : Int) + 1), .slice A1 (queryC ga sa).length c1] 46)
  have yb := blk_new (w12.alloc (.cells #[.int .i64 ((ga.length : Int) + 1), .slice A1 (queryC ga sa).length c1] 46)) (.cells #[.int .i64 ((gb.length : Int) + 1), .slice A2 (queryC gb sb).length c2] 46)
  rw [show (w12.alloc (.cells #[.int .i64 ((ga.length : Int) + 1), .slice A1 (queryC ga sa).length c1] 46)).heap.size = w12.heap.size + 1 by simp] at yb
  have ks := row_kept (((w12.alloc (.cells #[.int .i64 ((ga.length : Int) + 1), .slice A1 (queryC ga sa).length c1] 46)).alloc (.cells #[.int .i64 ((gb.length : Int) + 1), .slice A2 (queryC gb sb).length c2] 46)).alloc (.cells #[.int .u32 0, .int .u32 0, .int .u32 0, .int .u32 0, .int .u32 0, .int .u32 0, .int .u32 0, .int .u32 0, .int .u32 0, .int .u32 0, .int .u32 0, .int .u32 0, .int .u32 0, .int .u32 0, .int .u32 0, .int .u32 0, .int .u32 0, .int .u32 0, .int .u32 0, .int .u32 0, .int .u32 0, .int .u32 0, .int .u32 0, .int .u32 0, .int .u32 0, .int .u32 0, .int .u32 0, .int .u32 0, .int .u32 0, .int .u32 0, .int .u32 0, .int .u32 0] 27)) (w12.heap.size + 2) (regB rx12)
  have ya := ks.blk (show w12.heap.size ≠ w12.heap.size + 2 by omega) (blk_alloc (blk_alloc ya (.cells #[.int .i64 ((gb.length : Int) + 1), .slice A2 (queryC gb sb).length c2] 46)) (.cells #[.int .u32 0, .int .u32 0, .int .u32 0, .int .u32 0, .int .u32 0, .int .u32 0, .int .u32 0, .int .u32 0, .int .u32 0, .int .u32 0, .int .u32 0, .int .u32 0, .int .u32 0, .int .u32 0, .int .u32 0, .int .u32 0, .int .u32 0, .int .u32 0, .int .u32 0, .int .u32 0, .int .u32 0, .int .u32 0, .int .u32 0, .int .u32 0, .int .u32 0, .int .u32 0, .int .u32 0, .int .u32 0, .int .u32 0, .int .u32 0, .int .u32 0, .int .u32 0] 27))
  have yb := ks.blk (show w12.heap.size + 1 ≠ w12.heap.size + 2 by omega) (blk_alloc yb (.cells #[.int .u32 0, .int .u32 0, .int .u32 0, .int .u32 0, .int .u32 0, .int .u32 0, .int .u32 0, .int .u32 0, .int .u32 0, .int .u32 0, .int .u32 0, .int .u32 0, .int .u32 0, .int .u32 0, .int .u32 0, .int .u32 0, .int .u32 0, .int .u32 0, .int .u32 0, .int .u32 0, .int .u32 0, .int .u32 0, .int .u32 0, .int .u32 0, .int .u32 0, .int .u32 0, .int .u32 0, .int .u32 0, .int .u32 0, .int .u32 0, .int .u32 0, .int .u32 0] 27))
  have yr : ((((w12.alloc (.cells #[.int .i64 ((ga.length : Int) + 1), .slice A1 (queryC ga sa).length c1] 46)).alloc (.cells #[.int .i64 ((gb.length : Int) + 1), .slice A2 (queryC gb sb).length c2] 46)).alloc (.cells #[.int .u32 0, .int .u32 0, .int .u32 0, .int .u32 0, .int .u32 0, .int .u32 0, .int .u32 0, .int .u32 0, .int .u32 0, .int .u32 0, .int .u32 0, .int .u32 0, .int .u32 0, .int .u32 0, .int .u32 0, .int .u32 0, .int .u32 0, .int .u32 0, .int .u32 0, .int .u32 0, .int .u32 0, .int .u32 0, .int .u32 0, .int .u32 0, .int .u32 0, .int .u32 0, .int .u32 0, .int .u32 0, .int .u32 0, .int .u32 0, .int .u32 0, .int .u32 0] 27)).setRow (w12.heap.size + 2) (regB rx12)).heap[w12.heap.size + 2]? = some (.cells (regB rx12) 27 (0, 0)) := setRow_heap _ _ _ _ _ _ zz
  have bx4 : Below w12.heap.size w12 ((((w12.alloc (.cells #[.int .i64 ((ga.length : Int) + 1), .slice A1 (queryC ga sa).length c1] 46)).alloc (.cells #[.int .i64 ((gb.length : Int) + 1), .slice A2 (queryC gb sb).length c2] 46)).alloc (.cells #[.int .u32 0, .int .u32 0, .int .u32 0, .int .u32 0, .int .u32 0, .int .u32 0, .int .u32 0, .int .u32 0, .int .u32 0, .int .u32 0, .int .u32 0, .int .u32 0, .int .u32 0, .int .u32 0, .int .u32 0, .int .u32 0, .int .u32 0, .int .u32 0, .int .u32 0, .int .u32 0, .int .u32 0, .int .u32 0, .int .u32 0, .int .u32 0, .int .u32 0, .int .u32 0, .int .u32 0, .int .u32 0, .int .u32 0, .int .u32 0, .int .u32 0, .int .u32 0] 27)).setRow (w12.heap.size + 2) (regB rx12)) := below_row bx3 (by omega) _
  have qA := QAt.below qA bx4
  have qB := QAt.below qB bx4
  have rA := Rows.later rA bx4
  have rB := Rows.later rB bx4
  have k13 := k12.trans (Kept.below bx4)
  clear zz bx1 bx2 bx3 ks bx4 k12
  generalize ((((w12.alloc (.cells #[.int .i64 ((ga.length : Int) + 1), .slice A1 (queryC ga sa).length c1] 46)).alloc (.cells #[.int .i64 ((gb.length : Int) + 1), .slice A2 (queryC gb sb).length c2] 46)).alloc (.cells #[.int .u32 0, .int .u32 0, .int .u32 0, .int .u32 0, .int .u32 0, .int .u32 0, .int .u32 0, .int .u32 0, .int .u32 0, .int .u32 0, .int .u32 0, .int .u32 0, .int .u32 0, .int .u32 0, .int .u32 0, .int .u32 0, .int .u32 0, .int .u32 0, .int .u32 0, .int .u32 0, .int .u32 0, .int .u32 0, .int .u32 0, .int .u32 0, .int .u32 0, .int .u32 0, .int .u32 0, .int .u32 0, .int .u32 0, .int .u32 0, .int .u32 0, .int .u32 0] 27)).setRow (w12.heap.size + 2) (regB rx12)) = wz at *
  generalize w12.heap.size = g12 at *
  dsimp only [Act.put]
  go_cut [0] from 120 to 158 (fun p wx => p = .bool true ∧ Kept K w wx)
  case first =>
    have hA1 : difP bx5 rx12 (prs [0] [1]) = true := by decide +kernel
    have hB1 : difP bx5 rx12 (prs [3] [0]) = false := by decide +kernel
    have tA := okA.holds rx12_lt
    rw [hA1] at tA
    have tB := okB.holds rx12_lt
    rw [hB1] at tB
    have hm1 : maskP bx5 (prs [0] [1]) = 6 := by decide +kernel
    have eR : regB (regsOf (vals rx12 ga) ga) = regB rx12 := regB_ext fun r hr => by rw [okA.q.only rx12_lt r, hm1]; revert r; decide +kernel
    have hq := fun w => eq_regB rx12 w
    have bd : Below wz.heap.size wz wz.drew := below_drewN (Below.refl _ _) 1
    have ya := blk_below ya bd
    have yb := blk_below yb bd
    have yr := blk_below yr bd
    have qA := QAt.below qA bd
    have qB := QAt.below qB bd
    have rA := Rows.later rA bd
    have rB := Rows.later rB bd
    have kz := k13.trans (Kept.below bd)
    clear bd k13 hA1 hB1 hm1
    have hSd : wz.drew.rangeAt g12 0 [.int .i64 ((ga.length : Int) + 1), .slice A1 (queryC ga sa).length c1] ∧ wz.drew.rangeAt (g12 + 1) 0 [.int .i64 ((gb.length : Int) + 1), .slice A2 (queryC gb sb).length c2] ∧ wz.drew.rangeAt (g12 + 2) 0 (regB rx12).toList := ⟨range_row ya, range_row yb, range_row yr⟩
    refine wp_region_any (by kernel_rfl) (wpAny_of_held (S := fun w' => w'.rangeAt g12 0 [.int .i64 ((ga.length : Int) + 1), .slice A1 (queryC ga sa).length c1] ∧ w'.rangeAt (g12 + 1) 0 [.int .i64 ((gb.length : Int) + 1), .slice A2 (queryC gb sb).length c2] ∧ w'.rangeAt (g12 + 2) 0 (regB rx12).toList) _ _ _ _ ?_)
    change wpAnyH _ _ _ _ _ 40 _ _ wz.drew
    generalize wz.drew = v0 at *
    refine wpAnyH_val (i := 0) (v := (.agg #[.int .i64 ((ga.length : Int) + 1), .slice A1 (queryC ga sa).length c1])) (some 120) rfl rfl (by kernel_rfl) (by kernel_rfl) (by kernel_rfl) (fun _ _ _ h => h) (yieldsIf_load_mid (by kernel_rfl) 46 (.tmp 22) rfl g12 0 (by kernel_rfl) [.int .i64 ((ga.length : Int) + 1), .slice A1 (queryC ga sa).length c1] _ (fun w hw => hw.1) Try.underlying46 rfl (by kernel_rfl)) hSd ?_
    have hT := rcheck_ok _ (ga.length + 1) (by have := okA.glen; omega) _ okA.clen okA.lits _ v0 rA
    refine wpAnyH_call (i := 1) (f := 19) (some 121) rfl rfl (by kernel_rfl) (by kernel_rfl) (by kernel_rfl) (Calls.mono (hT) ?_)
    rintro rr v1 ⟨rfl, bb⟩
    clear hT
    have ya := blk_below ya bb
    have yb := blk_below yb bb
    have yr := blk_below yr bb
    have qA := QAt.below qA bb
    have qB := QAt.below qB bb
    have rA := Rows.later rA bb
    have rB := Rows.later rB bb
    have kz := kz.trans (Kept.below bb)
    have hSd : v1.rangeAt g12 0 [.int .i64 ((ga.length : Int) + 1), .slice A1 (queryC ga sa).length c1] ∧ v1.rangeAt (g12 + 1) 0 [.int .i64 ((gb.length : Int) + 1), .slice A2 (queryC gb sb).length c2] ∧ v1.rangeAt (g12 + 2) 0 (regB rx12).toList := ⟨range_row ya, range_row yb, range_row yr⟩
    refine ⟨_, rfl, hSd, ?_⟩
    clear bb
    refine wpAnyH_val (i := 2) (v := (.bool true)) (some 122) rfl rfl (by kernel_rfl) (by kernel_rfl) (by kernel_rfl) (fun _ _ _ h => h) (Or.inl ⟨by kernel_rfl, fun w9 hw9 => by kernel_rfl⟩) hSd ?_
    refine wpAnyH_val (i := 3) (v := (.bool true)) (some 123) rfl rfl (by kernel_rfl) (by kernel_rfl) (by kernel_rfl) (fun _ _ _ h => h) (Or.inl ⟨by kernel_rfl, fun w9 hw9 => by kernel_rfl⟩) hSd ?_
    refine wpAnyH_val (i := 4) (v := (.agg #[.int .i64 ((ga.length : Int) + 1), .slice A1 (queryC ga sa).length c1])) (some 124) rfl rfl (by kernel_rfl) (by kernel_rfl) (by kernel_rfl) (fun _ _ _ h => h) (yieldsIf_load_mid (by kernel_rfl) 46 (.tmp 22) rfl g12 0 (by kernel_rfl) [.int .i64 ((ga.length : Int) + 1), .slice A1 (queryC ga sa).length c1] _ (fun w hw => hw.1) Try.underlying46 rfl (by kernel_rfl)) hSd ?_
    refine wpAnyH_val (i := 5) (v := (.pointer (some ⟨qa, 0, none⟩))) (some 125) rfl rfl (by kernel_rfl) (by kernel_rfl) (by kernel_rfl) (fun _ _ _ h => h) (Or.inl ⟨by kernel_rfl, fun w9 hw9 => by kernel_rfl⟩) hSd ?_
    refine wpAnyH_val (i := 6) (v := (.agg (regB rx12))) (some 126) rfl rfl (by kernel_rfl) (by kernel_rfl) (by kernel_rfl) (fun _ _ _ h => h) (yieldsIf_load_mid (by kernel_rfl) 27 (.tmp 24) rfl (g12 + 2) 0 (by kernel_rfl) (regB rx12).toList _ (fun w hw => hw.2.2) Try.underlying27 rfl (by rw [Array.length_toList, regB_size]; exact info_regs)) hSd ?_
    have hT := values_any K qa ga _ okA.q.good (by have := okA.glen; omega) rx12 rx12_lt v1 qA
    refine wpAnyH_call (i := 7) (f := 8) (some 127) rfl rfl (by kernel_rfl) (by kernel_rfl) (by kernel_rfl) (Calls.mono (hT) ?_)
    rintro rr v2 ⟨va, rfl, oa, bb⟩
    clear hT
    have ya := blk_below ya bb
    have yb := blk_below yb bb
    have yr := blk_below yr bb
    have qA := QAt.below qA bb
    have qB := QAt.below qB bb
    have rA := Rows.later rA bb
    have rB := Rows.later rB bb
    have kz := kz.trans (Kept.below bb)
    have la := oa.toSl 0
    have hSd : v2.rangeAt g12 0 [.int .i64 ((ga.length : Int) + 1), .slice A1 (queryC ga sa).length c1] ∧ v2.rangeAt (g12 + 1) 0 [.int .i64 ((gb.length : Int) + 1), .slice A2 (queryC gb sb).length c2] ∧ v2.rangeAt (g12 + 2) 0 (regB rx12).toList := ⟨range_row ya, range_row yb, range_row yr⟩
    refine ⟨_, rfl, hSd, ?_⟩
    clear bb
    have hT := rtrue_any _ 0 ((ga.length : Int) + 1) _ (vals rx12 ga) _ va (by rw [vals_len]; have := okA.glen; omega) v2 rA la
    rw [tA] at hT
    refine wpAnyH_call (i := 8) (f := 20) (some 128) rfl rfl (by kernel_rfl) (by kernel_rfl) (by kernel_rfl) (Calls.mono (hT) ?_)
    rintro rr v3 ⟨rfl, bb⟩
    clear hT
    have ya := blk_below ya bb
    have yb := blk_below yb bb
    have yr := blk_below yr bb
    have qA := QAt.below qA bb
    have qB := QAt.below qB bb
    have rA := Rows.later rA bb
    have rB := Rows.later rB bb
    have kz := kz.trans (Kept.below bb)
    have hSd : v3.rangeAt g12 0 [.int .i64 ((ga.length : Int) + 1), .slice A1 (queryC ga sa).length c1] ∧ v3.rangeAt (g12 + 1) 0 [.int .i64 ((gb.length : Int) + 1), .slice A2 (queryC gb sb).length c2] ∧ v3.rangeAt (g12 + 2) 0 (regB rx12).toList := ⟨range_row ya, range_row yb, range_row yr⟩
    refine ⟨_, rfl, hSd, ?_⟩
    clear bb
    refine wpAnyH_val (i := 9) (v := (.bool true)) (some 129) rfl rfl (by kernel_rfl) (by kernel_rfl) (by kernel_rfl) (fun _ _ _ h => h) (Or.inl ⟨by kernel_rfl, fun w9 hw9 => by kernel_rfl⟩) hSd ?_
    refine wpAnyH_val (i := 10) (v := (.bool true)) (some 130) rfl rfl (by kernel_rfl) (by kernel_rfl) (by kernel_rfl) (fun _ _ _ h => h) (Or.inl ⟨by kernel_rfl, fun w9 hw9 => by kernel_rfl⟩) hSd ?_
    refine wpAnyH_val (i := 11) (v := (.pointer (some ⟨qa, 0, none⟩))) (some 131) rfl rfl (by kernel_rfl) (by kernel_rfl) (by kernel_rfl) (fun _ _ _ h => h) (Or.inl ⟨by kernel_rfl, fun w9 hw9 => by kernel_rfl⟩) hSd ?_
    refine wpAnyH_val (i := 12) (v := (.pointer (some ⟨qa, 0, none⟩))) (some 132) rfl rfl (by kernel_rfl) (by kernel_rfl) (by kernel_rfl) (fun _ _ _ h => h) (Or.inl ⟨by kernel_rfl, fun w9 hw9 => by kernel_rfl⟩) hSd ?_
    refine wpAnyH_val (i := 13) (v := (.agg (regB rx12))) (some 133) rfl rfl (by kernel_rfl) (by kernel_rfl) (by kernel_rfl) (fun _ _ _ h => h) (yieldsIf_load_mid (by kernel_rfl) 27 (.tmp 24) rfl (g12 + 2) 0 (by kernel_rfl) (regB rx12).toList _ (fun w hw => hw.2.2) Try.underlying27 rfl (by rw [Array.length_toList, regB_size]; exact info_regs)) hSd ?_
    refine wpAnyH_val (i := 16) (v := (.agg (regB rx12))) (some 136) rfl rfl (by kernel_rfl) (by kernel_rfl) (by kernel_rfl) (fun _ _ _ h => h) (yieldsIf_load_mid (by kernel_rfl) 27 (.tmp 24) rfl (g12 + 2) 0 (by kernel_rfl) (regB rx12).toList _ (fun w hw => hw.2.2) Try.underlying27 rfl (by rw [Array.length_toList, regB_size]; exact info_regs)) hSd ?_
    have hT := values_any K qa ga _ okA.q.good (by have := okA.glen; omega) rx12 rx12_lt v3 qA
    refine wpAnyH_call (i := 14) (f := 8) (some 134) rfl rfl (by kernel_rfl) (by kernel_rfl) (by kernel_rfl) (Calls.mono (hT) ?_)
    rintro rr v4 ⟨va, rfl, oa, bb⟩
    clear hT
    have ya := blk_below ya bb
    have yb := blk_below yb bb
    have yr := blk_below yr bb
    have qA := QAt.below qA bb
    have qB := QAt.below qB bb
    have rA := Rows.later rA bb
    have rB := Rows.later rB bb
    have kz := kz.trans (Kept.below bb)
    have la := oa.toSl 0
    have hSd : v4.rangeAt g12 0 [.int .i64 ((ga.length : Int) + 1), .slice A1 (queryC ga sa).length c1] ∧ v4.rangeAt (g12 + 1) 0 [.int .i64 ((gb.length : Int) + 1), .slice A2 (queryC gb sb).length c2] ∧ v4.rangeAt (g12 + 2) 0 (regB rx12).toList := ⟨range_row ya, range_row yb, range_row yr⟩
    refine ⟨_, rfl, hSd, ?_⟩
    clear bb
    have hT := regs_any K qa ga _ okA.q.good (by have := okA.glen; omega) 0 va (vals rx12 ga) (by rw [vals_len]; have := okA.glen; omega) v4 la qA
    rw [eR] at hT
    refine wpAnyH_call (i := 15) (f := 21) (some 135) rfl rfl (by kernel_rfl) (by kernel_rfl) (by kernel_rfl) (Calls.mono (hT) ?_)
    rintro rr v5 ⟨rfl, bb⟩
    clear hT
    have ya := blk_below ya bb
    have yb := blk_below yb bb
    have yr := blk_below yr bb
    have qA := QAt.below qA bb
    have qB := QAt.below qB bb
    have rA := Rows.later rA bb
    have rB := Rows.later rB bb
    have kz := kz.trans (Kept.below bb)
    have hSd : v5.rangeAt g12 0 [.int .i64 ((ga.length : Int) + 1), .slice A1 (queryC ga sa).length c1] ∧ v5.rangeAt (g12 + 1) 0 [.int .i64 ((gb.length : Int) + 1), .slice A2 (queryC gb sb).length c2] ∧ v5.rangeAt (g12 + 2) 0 (regB rx12).toList := ⟨range_row ya, range_row yb, range_row yr⟩
    refine ⟨_, rfl, hSd, ?_⟩
    clear bb
    refine wpAnyH_val (i := 17) (v := (.bool true)) (some 137) rfl rfl (by kernel_rfl) (by kernel_rfl) (by kernel_rfl) (fun _ _ _ h => h) (Or.inl ⟨by kernel_rfl, fun w9 hw9 => eqR_exec (z := rx12) (.tmp 135) (.tmp 136) 27 rfl (by kernel_rfl) (by kernel_rfl) w9⟩) hSd ?_
    refine wpAnyH_val (i := 18) (v := (.bool true)) (some 138) rfl rfl (by kernel_rfl) (by kernel_rfl) (by kernel_rfl) (fun _ _ _ h => h) (Or.inl ⟨by kernel_rfl, fun w9 hw9 => by kernel_rfl⟩) hSd ?_
    refine wpAnyH_val (i := 19) (v := (.bool true)) (some 139) rfl rfl (by kernel_rfl) (by kernel_rfl) (by kernel_rfl) (fun _ _ _ h => h) (Or.inl ⟨by kernel_rfl, fun w9 hw9 => by kernel_rfl⟩) hSd ?_
    refine wpAnyH_val (i := 20) (v := (.agg #[.int .i64 ((gb.length : Int) + 1), .slice A2 (queryC gb sb).length c2])) (some 140) rfl rfl (by kernel_rfl) (by kernel_rfl) (by kernel_rfl) (fun _ _ _ h => h) (yieldsIf_load_mid (by kernel_rfl) 46 (.tmp 23) rfl (g12 + 1) 0 (by kernel_rfl) [.int .i64 ((gb.length : Int) + 1), .slice A2 (queryC gb sb).length c2] _ (fun w hw => hw.2.1) Try.underlying46 rfl (by kernel_rfl)) hSd ?_
    refine wpAnyH_val (i := 21) (v := (.pointer (some ⟨qb, 0, none⟩))) (some 141) rfl rfl (by kernel_rfl) (by kernel_rfl) (by kernel_rfl) (fun _ _ _ h => h) (Or.inl ⟨by kernel_rfl, fun w9 hw9 => by kernel_rfl⟩) hSd ?_
    refine wpAnyH_val (i := 22) (v := (.agg (regB rx12))) (some 142) rfl rfl (by kernel_rfl) (by kernel_rfl) (by kernel_rfl) (fun _ _ _ h => h) (yieldsIf_load_mid (by kernel_rfl) 27 (.tmp 24) rfl (g12 + 2) 0 (by kernel_rfl) (regB rx12).toList _ (fun w hw => hw.2.2) Try.underlying27 rfl (by rw [Array.length_toList, regB_size]; exact info_regs)) hSd ?_
    have hT := values_any K qb gb _ okB.q.good (by have := okB.glen; omega) rx12 rx12_lt v5 qB
    refine wpAnyH_call (i := 23) (f := 8) (some 143) rfl rfl (by kernel_rfl) (by kernel_rfl) (by kernel_rfl) (Calls.mono (hT) ?_)
    rintro rr v6 ⟨va, rfl, oa, bb⟩
    clear hT
    have ya := blk_below ya bb
    have yb := blk_below yb bb
    have yr := blk_below yr bb
    have qA := QAt.below qA bb
    have qB := QAt.below qB bb
    have rA := Rows.later rA bb
    have rB := Rows.later rB bb
    have kz := kz.trans (Kept.below bb)
    have la := oa.toSl 0
    have hSd : v6.rangeAt g12 0 [.int .i64 ((ga.length : Int) + 1), .slice A1 (queryC ga sa).length c1] ∧ v6.rangeAt (g12 + 1) 0 [.int .i64 ((gb.length : Int) + 1), .slice A2 (queryC gb sb).length c2] ∧ v6.rangeAt (g12 + 2) 0 (regB rx12).toList := ⟨range_row ya, range_row yb, range_row yr⟩
    refine ⟨_, rfl, hSd, ?_⟩
    clear bb
    have hT := rtrue_any _ 0 ((gb.length : Int) + 1) _ (vals rx12 gb) _ va (by rw [vals_len]; have := okB.glen; omega) v6 rB la
    rw [tB] at hT
    refine wpAnyH_call (i := 24) (f := 20) (some 144) rfl rfl (by kernel_rfl) (by kernel_rfl) (by kernel_rfl) (Calls.mono (hT) ?_)
    rintro rr v7 ⟨rfl, bb⟩
    clear hT
    have ya := blk_below ya bb
    have yb := blk_below yb bb
    have yr := blk_below yr bb
    have qA := QAt.below qA bb
    have qB := QAt.below qB bb
    have rA := Rows.later rA bb
    have rB := Rows.later rB bb
    have kz := kz.trans (Kept.below bb)
    have hSd : v7.rangeAt g12 0 [.int .i64 ((ga.length : Int) + 1), .slice A1 (queryC ga sa).length c1] ∧ v7.rangeAt (g12 + 1) 0 [.int .i64 ((gb.length : Int) + 1), .slice A2 (queryC gb sb).length c2] ∧ v7.rangeAt (g12 + 2) 0 (regB rx12).toList := ⟨range_row ya, range_row yb, range_row yr⟩
    refine ⟨_, rfl, hSd, ?_⟩
    clear bb
    refine wpAnyH_val (i := 25) (v := (.bool true)) (some 145) rfl rfl (by kernel_rfl) (by kernel_rfl) (by kernel_rfl) (fun _ _ _ h => h) (Or.inl ⟨by kernel_rfl, fun w9 hw9 => by kernel_rfl⟩) hSd ?_
    refine wpAnyH_val (i := 26) (v := (.bool true)) (some 146) rfl rfl (by kernel_rfl) (by kernel_rfl) (by kernel_rfl) (fun _ _ _ h => h) (Or.inl ⟨by kernel_rfl, fun w9 hw9 => by kernel_rfl⟩) hSd ?_
    refine wpAnyH_val (i := 27) (v := (.bool true)) (some 147) rfl rfl (by kernel_rfl) (by kernel_rfl) (by kernel_rfl) (fun _ _ _ h => h) (Or.inl ⟨by kernel_rfl, fun w9 hw9 => by kernel_rfl⟩) hSd ?_
    refine wpAnyH_val (i := 28) (v := (.int .i64 140)) (some 148) rfl rfl (by kernel_rfl) (by kernel_rfl) (by kernel_rfl) (fun _ _ _ h => h) (Or.inl ⟨by kernel_rfl, fun w9 hw9 => by kernel_rfl⟩) hSd ?_
    refine wpAnyH_val (i := 29) (v := (.bool true)) (some 149) rfl rfl (by kernel_rfl) (by kernel_rfl) (by kernel_rfl) (fun _ _ _ h => h) (Or.inl ⟨by kernel_rfl, fun w9 hw9 => by kernel_rfl⟩) hSd ?_
    refine wpAnyH_val (i := 30) (v := (.bool true)) (some 150) rfl rfl (by kernel_rfl) (by kernel_rfl) (by kernel_rfl) (fun _ _ _ h => h) (Or.inl ⟨by kernel_rfl, fun w9 hw9 => by kernel_rfl⟩) hSd ?_
    refine wpAnyH_val (i := 31) (v := (.bool true)) (some 151) rfl rfl (by kernel_rfl) (by kernel_rfl) (by kernel_rfl) (fun _ _ _ h => h) (Or.inl ⟨by kernel_rfl, fun w9 hw9 => by kernel_rfl⟩) hSd ?_
    refine wpAnyH_val (i := 32) (v := (.int .i64 1)) (some 152) rfl rfl (by kernel_rfl) (by kernel_rfl) (by kernel_rfl) (fun _ _ _ h => h) (Or.inl ⟨by kernel_rfl, fun w9 hw9 => by kernel_rfl⟩) hSd ?_
    refine wpAnyH_val (i := 33) (v := (.bool true)) (some 153) rfl rfl (by kernel_rfl) (by kernel_rfl) (by kernel_rfl) (fun _ _ _ h => h) (Or.inl ⟨by kernel_rfl, fun w9 hw9 => by kernel_rfl⟩) hSd ?_
    refine wpAnyH_val (i := 34) (v := (.bool true)) (some 154) rfl rfl (by kernel_rfl) (by kernel_rfl) (by kernel_rfl) (fun _ _ _ h => h) (Or.inl ⟨by kernel_rfl, fun w9 hw9 => by kernel_rfl⟩) hSd ?_
    refine wpAnyH_val (i := 35) (v := (.bool true)) (some 155) rfl rfl (by kernel_rfl) (by kernel_rfl) (by kernel_rfl) (fun _ _ _ h => h) (Or.inl ⟨by kernel_rfl, fun w9 hw9 => by kernel_rfl⟩) hSd ?_
    refine wpAnyH_val (i := 36) (v := (.int .i64 100)) (some 156) rfl rfl (by kernel_rfl) (by kernel_rfl) (by kernel_rfl) (fun _ _ _ h => h) (Or.inl ⟨by kernel_rfl, fun w9 hw9 => by kernel_rfl⟩) hSd ?_
    refine wpAnyH_val (i := 37) (v := (.bool true)) (some 157) rfl rfl (by kernel_rfl) (by kernel_rfl) (by kernel_rfl) (fun _ _ _ h => h) (Or.inl ⟨by kernel_rfl, fun w9 hw9 => by kernel_rfl⟩) hSd ?_
    refine wpAnyH_val (i := 38) (v := (.bool true)) (some 158) rfl rfl (by kernel_rfl) (by kernel_rfl) (by kernel_rfl) (fun _ _ _ h => h) (Or.inl ⟨by kernel_rfl, fun w9 hw9 => by kernel_rfl⟩) hSd ?_
    refine wpAnyH_val (i := 39) (v := (.bool true)) (some 0) rfl rfl (by kernel_rfl) (by kernel_rfl) (by kernel_rfl) (fun _ _ _ h => h) (Or.inl ⟨by kernel_rfl, fun w9 hw9 => by kernel_rfl⟩) hSd ?_
    refine wpAnyH_done (by kernel_rfl) ?_ _
    simp only [Act.put, List.setIfInBounds_toArray, List.set_cons_succ, List.set_cons_zero]
    go_wp2_with fail
    go_meet
    exact ⟨rfl, kz⟩
  case rest =>
    obtain ⟨rfl, kz⟩ := hcut
    go_wp2_with fail
    go_ret
    exact ⟨rfl, by have := hend _ kz; rw [HB.out] at this; exact this⟩
end Go.Proofs.Ytgnahjadjgjecaa
