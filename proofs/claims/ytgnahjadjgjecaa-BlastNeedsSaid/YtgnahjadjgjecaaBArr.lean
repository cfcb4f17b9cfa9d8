/- blast: and, or, xor, pick. -/
/- Arrays of literals; blast: turned, word. -/
import Derived.Test.YtgnahjadjgjecaaBVarW
import Derived.Test.YtgnahjadjgjecaaBVal
import Derived.Test.YtgnahjadjgjecaaIArr
import Derived.Test.YtgnahjadjgjecaaTWord
import Derived.Laws.Rows
import Derived.Laws.Tables
set_option linter.unusedVariables false
set_option linter.unusedSimpArgs false
namespace Go.Proofs.Ytgnahjadjgjecaa
open Go.RowKit Go.Maps Go.MapKept

/-- What a call of the circuit answers: a literal, and the query behind it. -/
def LitPost (K : Nat → Prop) (w : World) (q : Nat) (g : List Gate × Int) (r : Ending) (w' : World) : Prop :=
  r = .returned (.int .i64 g.2) ∧ QS K w' q g.1 ∧ Kept K w w'
theorem variable_both (K : Nat → Prop) (q : Nat) (gs : List Gate) (a b : Int) (ha : Lit (gs.length + 1) a) (hb : Lit (gs.length + 1) b) (hl : gs.length < 200000) (w : World) (h : QS K w q gs) :
    Calls Try.prog 32 #[.pointer (some ⟨q, 0, none⟩), .agg #[.int .i64 1, .int .i64 a, .int .i64 b]] w (LitPost K w q (mkG gs ⟨1, a, b⟩)) := by
  obtain ⟨a1, a2⟩ := ha
  obtain ⟨b1, b2⟩ := hb
  exact variable_any K q gs 1 a b ⟨by show 1 < 100; decide, by show _ < a; omega, by show a < _; omega, by show _ < b; omega, by show b < _; omega⟩ (by decide) hl w h
theorem variable_either (K : Nat → Prop) (q : Nat) (gs : List Gate) (a b : Int) (ha : Lit (gs.length + 1) a) (hb : Lit (gs.length + 1) b) (hl : gs.length < 200000) (w : World) (h : QS K w q gs) :
    Calls Try.prog 32 #[.pointer (some ⟨q, 0, none⟩), .agg #[.int .i64 2, .int .i64 a, .int .i64 b]] w (LitPost K w q (mkG gs ⟨2, a, b⟩)) := by
  obtain ⟨a1, a2⟩ := ha
  obtain ⟨b1, b2⟩ := hb
  exact variable_any K q gs 2 a b ⟨by show 2 < 100; decide, by show _ < a; omega, by show a < _; omega, by show _ < b; omega, by show b < _; omega⟩ (by decide) hl w h
theorem LitPost.same {K : Nat → Prop} {w : World} {q : Nat} {gs : List Gate} {c : Int} {r : Ending} {p : List Gate × Int} (hr : r = .returned (.int .i64 c)) (h : QS K w q gs) (e : p = (gs, c)) : LitPost K w q p r w := by
  subst e
  exact ⟨hr, h, Kept.refl _ _⟩
theorem lit_wrap {n : Nat} {a : Int} (h : Lit (n + 1) a) (hn : n < 200000) : wrap64 (-a) = -a := by
  obtain ⟨h1, h2⟩ := h
  unfold wrap64
  omega
theorem Lit.min_ {n : Nat} {a b : Int} (ha : Lit n a) (hb : Lit n b) : Lit n (min a b) := by
  rw [Int.min_def]
  split <;> assumption
theorem Lit.max_ {n : Nat} {a b : Int} (ha : Lit n a) (hb : Lit n b) : Lit n (max a b) := by
  rw [Int.max_def]
  split <;> assumption
theorem LitPost.made {K : Nat → Prop} {w w' : World} {q : Nat} {g : List Gate × Int} {r : Ending} {p : List Gate × Int} (hr : r = .returned (.int .i64 g.2)) (h : QS K w' q g.1) (hk : Kept K w w') (e : p = g) : LitPost K w q p r w' := by
  subst e
  exact ⟨hr, h, hk⟩
theorem variable_and (K : Nat → Prop) (q : Nat) (gs : List Gate) (a b x y : Int) (hx : x = min a b) (hy : y = max a b) (ha : Lit (gs.length + 1) a) (hb : Lit (gs.length + 1) b) (hl : gs.length < 200000) (w : World) (h : QS K w q gs) :
    Calls Try.prog 32 #[.pointer (some ⟨q, 0, none⟩), .agg #[.int .i64 1, .int .i64 x, .int .i64 y]] w (LitPost K w q (mkG gs ⟨1, min a b, max a b⟩)) := by
  subst hx hy
  exact variable_both K q gs _ _ (ha.min_ hb) (ha.max_ hb) hl w h
set_option maxRecDepth 100000 in
set_option maxHeartbeats 1600000 in
theorem and_any (K : Nat → Prop) (q : Nat) (gs : List Gate) (a b : Int) (ha : Lit (gs.length + 1) a) (hb : Lit (gs.length + 1) b) (hl : gs.length < 200000) (w : World) (h : QS K w q gs) :
    Calls Try.prog 49 #[.pointer (some ⟨q, 0, none⟩), .int .i64 a, .int .i64 b] w (LitPost K w q (andG gs a b)) := by
  have wb := lit_wrap hb hl
  go_enter Try.func49, Try.ntmps49
  go_wp2_with fail
  all_goals try simp only [beq_iff_eq, beq_eq_false_iff_ne, ne_eq] at *
  all_goals first
    | (go_ret; exact LitPost.same rfl ‹QS K w q gs› (by unfold andG; (repeat' split) <;> first | rfl | omega))
    | (go_at_call 32
       refine (variable_and K q gs a b _ _ (by omega) (by omega) ha hb hl w ‹QS K w q gs›).mono ?_
       rintro r w1 ⟨rfl, h1, k1⟩
       go_wp2_with fail
       go_ret
       exact LitPost.made (g := mkG gs ⟨1, min a b, max a b⟩) rfl h1 k1 (by unfold andG; (repeat' split) <;> first | rfl | omega))
theorem gvar_bound (gs : List Gate) (g : Gate) : 2 ≤ gvar gs g ∧ gvar gs g ≤ (gs.length : Int) + 2 := by
  have := (List.getElem?_eq_some_iff.1 (gins_pos gs g)).1
  have := (gins_len gs g).2
  unfold gvar
  omega
theorem andG_bound (gs : List Gate) {a b : Int} (ha : Lit (gs.length + 1) a) (hb : Lit (gs.length + 1) b) : (andG gs a b).2.natAbs ≤ gs.length + 2 := by
  obtain ⟨a1, a2⟩ := ha
  obtain ⟨b1, b2⟩ := hb
  unfold andG
  (repeat' split)
  · show (-1 : Int).natAbs ≤ _; omega
  · show b.natAbs ≤ _; omega
  · show a.natAbs ≤ _; omega
  · have := gvar_bound gs ⟨1, min a b, max a b⟩
    show (gvar gs ⟨1, min a b, max a b⟩).natAbs ≤ _
    omega
theorem wrap_neg {a : Int} {n : Nat} (h : a.natAbs ≤ n + 2) (hn : n < 200000) : wrap64 (-a) = -a := by
  unfold wrap64
  omega
set_option maxRecDepth 100000 in
set_option maxHeartbeats 1600000 in
theorem or_any (K : Nat → Prop) (q : Nat) (gs : List Gate) (a b : Int) (ha : Lit (gs.length + 1) a) (hb : Lit (gs.length + 1) b) (hl : gs.length < 200000) (w : World) (h : QS K w q gs) :
    Calls Try.prog 50 #[.pointer (some ⟨q, 0, none⟩), .int .i64 a, .int .i64 b] w (LitPost K w q (orG gs a b)) := by
  have wa := lit_wrap ha hl
  have wb := lit_wrap hb hl
  have wc := wrap_neg (andG_bound gs ha.neg hb.neg) hl
  have hc := and_any K q gs (-a) (-b) ha.neg hb.neg hl w h
  go_enter Try.func50, Try.ntmps50
  go_wp2_with (first | (go_at_call 49; refine hc.mono ?_; rintro r w1 ⟨rfl, h1, k1⟩; have he : orG gs a b = ((andG gs (-a) (-b)).1, -(andG gs (-a) (-b)).2) := rfl; generalize (andG gs (-a) (-b)).2 = v at wc he ⊢) | fail)
  go_ret
  exact LitPost.made (g := (_, _)) rfl h1 k1 (he.trans (by rw [wc]))
theorem variable_xor (K : Nat → Prop) (q : Nat) (gs : List Gate) (a b x y : Int) (hx : x = min (a.natAbs : Int) b.natAbs) (hy : y = max (a.natAbs : Int) b.natAbs) (ha : Lit (gs.length + 1) a) (hb : Lit (gs.length + 1) b) (hl : gs.length < 200000) (w : World) (h : QS K w q gs) :
    Calls Try.prog 32 #[.pointer (some ⟨q, 0, none⟩), .agg #[.int .i64 2, .int .i64 x, .int .i64 y]] w (LitPost K w q (mkG gs ⟨2, min (a.natAbs : Int) b.natAbs, max (a.natAbs : Int) b.natAbs⟩)) := by
  subst hx hy
  have ha' : Lit (gs.length + 1) (a.natAbs : Int) := by unfold Lit at *; omega
  have hb' : Lit (gs.length + 1) (b.natAbs : Int) := by unfold Lit at *; omega
  exact variable_either K q gs _ _ (ha'.min_ hb') (ha'.max_ hb') hl w h
set_option maxRecDepth 100000 in
set_option maxHeartbeats 1600000 in
theorem xor_any (K : Nat → Prop) (q : Nat) (gs : List Gate) (a b : Int) (ha : Lit (gs.length + 1) a) (hb : Lit (gs.length + 1) b) (hl : gs.length < 200000) (w : World) (h : QS K w q gs) :
    Calls Try.prog 14 #[.pointer (some ⟨q, 0, none⟩), .int .i64 a, .int .i64 b] w (LitPost K w q (xorG gs a b)) := by
  have wa := lit_wrap ha hl
  have wb := lit_wrap hb hl
  go_enter Try.func14, Try.ntmps14
  go_wp2_with fail
  all_goals try simp only [beq_iff_eq, beq_eq_false_iff_ne, ne_eq] at *
  all_goals first
    | (go_ret; exact LitPost.same rfl ‹QS K w q gs› (by unfold xorG; (repeat' split) <;> first | rfl | omega | (simp only [wa, wb]; done)))
    | (go_at_call 32
       refine (variable_xor K q gs a b _ _ (by omega) (by omega) ha hb hl w ‹QS K w q gs›).mono ?_
       rintro r w1 ⟨rfl, h1, k1⟩
       have hv := gvar_bound gs ⟨2, min (a.natAbs : Int) b.natAbs, max (a.natAbs : Int) b.natAbs⟩
       have hx : xorG gs a b = (gins gs ⟨2, min (a.natAbs : Int) b.natAbs, max (a.natAbs : Int) b.natAbs⟩, (if (a < 0) = (b < 0) then 1 else -1) * gvar gs ⟨2, min (a.natAbs : Int) b.natAbs, max (a.natAbs : Int) b.natAbs⟩) := by unfold xorG; (repeat' split) <;> first | rfl | omega
       dsimp only [mkG] at h1 ⊢
       generalize gvar gs ⟨2, min (a.natAbs : Int) b.natAbs, max (a.natAbs : Int) b.natAbs⟩ = v at hv hx ⊢
       have w1' : wrap64 v = v := by unfold wrap64; omega
       have w2' : wrap64 (-v) = -v := by unfold wrap64; omega
       go_wp2_with fail
       go_ret
       refine LitPost.made (g := (_, _)) rfl h1 k1 (hx.trans ?_)
       congr 1
       (repeat' split) <;> first | rfl | omega | (rename_i hc; rw [eq_iff_iff] at hc; omega) | (simp only [w1', w2']; omega))
set_option maxRecDepth 100000 in
set_option maxHeartbeats 1600000 in
theorem pick_any (K : Nat → Prop) (q : Nat) (gs : List Gate) (hG : GGood gs) (s a b : Int) (hs : Lit (gs.length + 1) s) (ha : Lit (gs.length + 1) a) (hb : Lit (gs.length + 1) b) (hl : gs.length < 199990) (w : World) (h : QS K w q gs) :
    Calls Try.prog 65 #[.pointer (some ⟨q, 0, none⟩), .int .i64 s, .int .i64 a, .int .i64 b] w (LitPost K w q (pickG gs s a b)) := by
  have ws := lit_wrap hs (by omega)
  have e1 : a = b → pickG gs s a b = (gs, a) := fun e => by unfold pickG; rw [if_pos e]
  have e2 : a ≠ b → pickG gs s a b = orG (andG (andG gs s a).1 (-s) b).1 (andG gs s a).2 (andG (andG gs s a).1 (-s) b).2 := fun e => by unfold pickG; rw [if_neg e]
  have m1 := made_and hG hs ha
  have hc1 := and_any K q gs s a hs ha (by omega) w h
  have hx := m1.ext.len
  have hy := m1.len
  have m2 := made_and m1.good (hs.neg.mono (by omega)) (hb.mono (by omega) : Lit ((andG gs s a).1.length + 1) b)
  have hc2 := and_any K q (andG gs s a).1 (-s) b (hs.neg.mono (by omega)) (hb.mono (by omega)) (by omega)
  have hx2 := m2.ext.len
  have hy2 := m2.len
  have hc3 := or_any K q (andG (andG gs s a).1 (-s) b).1 (andG gs s a).2 (andG (andG gs s a).1 (-s) b).2 (m1.lit.mono (by omega)) m2.lit (by omega)
  by_cases hab : a = b
  · have e := e1 hab
    go_enter Try.func65, Try.ntmps65
    go_wp2_with fail
    go_ret
    exact LitPost.same rfl h e
  · rw [e2 hab]
    clear e1 e2 m1 m2 hx hy hx2 hy2
    go_enter Try.func65, Try.ntmps65
    go_wp2_with fail
    refine hc1.mono ?_
    rintro r w1 ⟨rfl, h1, k1⟩
    have hc2 := hc2 w1 h1
    go_wp2_with fail
    refine hc2.mono ?_
    rintro r w2 ⟨rfl, h2, k2⟩
    have hc3 := hc3 w2 h2
    go_wp2_with fail
    refine hc3.mono ?_
    rintro r w3 ⟨rfl, h3, k3⟩
    go_wp2_with fail
    go_ret
    exact ⟨rfl, h3, (k1.trans k2).trans k3⟩
end Go.Proofs.Ytgnahjadjgjecaa
set_option linter.unusedVariables false
set_option linter.unusedSimpArgs false
namespace Go.Proofs.Ytgnahjadjgjecaa
open Go.RowKit Go.Maps Go.MapKept

theorem zero_zV : (#[.int .i64 0, .int .i64 0, .int .i64 0, .int .i64 0, .int .i64 0, .int .i64 0, .int .i64 0, .int .i64 0, .int .i64 0, .int .i64 0, .int .i64 0, .int .i64 0, .int .i64 0, .int .i64 0, .int .i64 0, .int .i64 0, .int .i64 0, .int .i64 0, .int .i64 0, .int .i64 0, .int .i64 0, .int .i64 0, .int .i64 0, .int .i64 0, .int .i64 0, .int .i64 0, .int .i64 0, .int .i64 0, .int .i64 0, .int .i64 0, .int .i64 0, .int .i64 0] : Array Value) = zV fun _ => 0 := by kernel_rfl
theorem one_zV (z : Nat → Int) : (zV z).all (·.oneCell') = true := by
  rw [Array.all_eq_true]
  intro i hi
  simp [zV]
  rfl
theorem row_kept (w : World) (g : Nat) (cs : Array Value) : Kept (fun i => i ≠ g) w (w.setRow g cs) := ⟨rfl, rfl, rfl, by rw [setRow_size]; exact Nat.le_refl _, fun i _ hi => setRow_other w g i cs hi⟩
theorem info_bits : (Try.prog.info? 60).map (·.size) = some 32 := by kernel_rfl
theorem ZAt.row {t : TypeId} {w : World} {g : Nat} {z : Nat → Int} (h : ZAt t w g z) (y : Nat → Int) : ZAt t (w.setRow g (zV y)) g y := setRow_heap _ _ _ _ _ _ h
theorem below_row {B : Nat} {w0 w : World} (h : Below B w0 w) {g : Nat} (hg : B ≤ g) (cs : Array Value) : Below B w0 (w.setRow g cs) := h.trans ⟨rfl, rfl, rfl, by rw [setRow_size]; exact Nat.le_refl _, fun i hi => setRow_other w g i cs (by omega)⟩
theorem ZAt.set_other {t : TypeId} {w : World} {g h n : Nat} {z : Nat → Int} {v : Value} (hz : ZAt t w g z) (hne : g ≠ h) : ZAt t (w.setCell ⟨h, n, none⟩ v) g z := (qset w h n v).blk (K := fun i => i ≠ h) hne hz
theorem ZAt.row_other {t : TypeId} {w : World} {g h : Nat} {z : Nat → Int} {cs : Array Value} (hz : ZAt t w g z) (hne : g ≠ h) : ZAt t (w.setRow h cs) g z := (row_kept w h cs).blk (K := fun i => i ≠ h) hne hz
theorem setZ_step (f g : Nat → Int) (j r : Nat) : setZ (fun r => if r < j then f r else g r) j (f j) r = if r < j + 1 then f r else g r := by
  unfold setZ
  by_cases h1 : r = j
  · subst h1; simp
  · by_cases h2 : r < j
    · simp [h1, h2]; omega
    · simp [h1, h2]; omega
theorem bit_low {m r : Nat} (hm : m < 4294967296) : bits BinOp.and IntKind.u32 ((m : Int) / 2 ^ r) 1 = (if m.testBit r = true then 1 else 0) := by
  have h1 : (m : Int) / 2 ^ r = ((m / 2 ^ r : Nat) : Int) := by simp
  have h2 := u32_and (m / 2 ^ r) 1 (div_lt32 hm _) (by omega)
  rw [h1]
  refine h2.trans ?_
  rw [Nat.and_one_is_mod, Nat.testBit_eq_decide_div_mod_eq]
  have : m / 2 ^ r % 2 = 0 ∨ m / 2 ^ r % 2 = 1 := by omega
  rcases this with h | h <;> rw [h] <;> rfl
theorem setZ_step0 (f g : Nat → Int) (j : Nat) (m : Int) (hm : m = f j) (r : Nat) : setZ (fun r => if r < j then f r else g r) j m r = if r < j + 1 then f r else g r := by
  subst hm
  exact setZ_step f g j r
theorem setZ_twice (z : Nat → Int) (j : Nat) (a b : Int) : setZ (setZ z j a) j b = setZ z j b := by
  funext r
  unfold setZ
  split <;> rfl
/-- Literals within bounds. -/
def SmallW (a : Nat → Int) : Prop := ∀ i, i < 32 → (a i).natAbs < 300000
theorem Lits.small {gs : List Gate} {a : Nat → Int} (h : Lits gs a) (hl : gs.length < 200000) : SmallW a := fun i hi => by have := (h i hi).2; omega
set_option maxRecDepth 100000 in
theorem turned_any (a : Nat → Int) (ha : SmallW a) (w : World) :
    Calls Try.prog 47 #[.agg (zV a)] w fun r w' => r = .returned (.agg (zV (notW a))) ∧ Below w.heap.size w w' := by
  have b1 := (Below.refl w.heap.size w).alloc (Nat.le_refl _) (.cells (zV a) 60)
  have b2 := b1.alloc (by simp) (.cells #[.int .i64 0, .int .i64 0, .int .i64 0, .int .i64 0, .int .i64 0, .int .i64 0, .int .i64 0, .int .i64 0, .int .i64 0, .int .i64 0, .int .i64 0, .int .i64 0, .int .i64 0, .int .i64 0, .int .i64 0, .int .i64 0, .int .i64 0, .int .i64 0, .int .i64 0, .int .i64 0, .int .i64 0, .int .i64 0, .int .i64 0, .int .i64 0, .int .i64 0, .int .i64 0, .int .i64 0, .int .i64 0, .int .i64 0, .int .i64 0, .int .i64 0, .int .i64 0] 60)
  have hz0 := blk_alloc (blk_new w (.cells (zV a) 60)) (.cells #[.int .i64 0, .int .i64 0, .int .i64 0, .int .i64 0, .int .i64 0, .int .i64 0, .int .i64 0, .int .i64 0, .int .i64 0, .int .i64 0, .int .i64 0, .int .i64 0, .int .i64 0, .int .i64 0, .int .i64 0, .int .i64 0, .int .i64 0, .int .i64 0, .int .i64 0, .int .i64 0, .int .i64 0, .int .i64 0, .int .i64 0, .int .i64 0, .int .i64 0, .int .i64 0, .int .i64 0, .int .i64 0, .int .i64 0, .int .i64 0, .int .i64 0, .int .i64 0] 60)
  have hz1 := blk_new (w.alloc (.cells (zV a) 60)) (.cells #[.int .i64 0, .int .i64 0, .int .i64 0, .int .i64 0, .int .i64 0, .int .i64 0, .int .i64 0, .int .i64 0, .int .i64 0, .int .i64 0, .int .i64 0, .int .i64 0, .int .i64 0, .int .i64 0, .int .i64 0, .int .i64 0, .int .i64 0, .int .i64 0, .int .i64 0, .int .i64 0, .int .i64 0, .int .i64 0, .int .i64 0, .int .i64 0, .int .i64 0, .int .i64 0, .int .i64 0, .int .i64 0, .int .i64 0, .int .i64 0, .int .i64 0, .int .i64 0] 60)
  have hsz : (w.alloc (.cells (zV a) 60)).heap.size = w.heap.size + 1 := by simp
  rw [hsz, zero_zV] at hz1
  rw [zero_zV] at hz0 b2
  clear b1 hsz
  go_enter Try.func47, Try.ntmps47
  go_wp2_with fail
  rw [zero_zV] at *
  go_loopw [3, 4] (fun _ i wr => ∃ j : Nat, j ≤ 32 ∧ i = .int .i64 j ∧ ZAt 60 wr w.heap.size (fun r => if r < j then -(a r) else a r) ∧ ZAt 60 wr (w.heap.size + 1) (fun _ => 0) ∧ Below w.heap.size w wr) (fun _ i _ => 32 - (intOf i).toNat)
  case atStart => exact ⟨0, by omega, rfl, hz0, hz1, b2⟩
  case round =>
    clear hz0 hz1 b2
    obtain ⟨j, hj, rfl, hZ, h0, hB⟩ := hrel
    by_cases hlt : j < 32
    · have hlt' : (j : Int) < 32 := by omega
      have hc := hZ.cell (i := j) hlt
      rw [if_neg (Nat.lt_irrefl j)] at hc
      have hf := hZ.fro j
      have hw := ha j hlt
      have wn : wrap64 (-(a j)) = -(a j) := by unfold wrap64; omega
      go_wp2_with fail
      go_roundw
      case rel => exact ⟨j + 1, by omega, by go_num, (hZ.set j (-(a j))).ext (fun r _ => setZ_step (fun r => -(a r)) a j r), h0.set_other (by omega), hB.setCell (Nat.le_refl _) _⟩
      case measure => simp [intOf]; omega
    · have hlt' : ¬ (j : Int) < 32 := by omega
      obtain rfl : j = 32 := by omega
      have hZ := hZ.ext (z := notW a) fun r hr => if_pos hr
      go_wp2_with (first | (refine wpList_load_row rfl 60 (.tmp 1) rfl w.heap.size rfl 60 (zV (notW a)) (0, 0) _ hZ Try.underlying60 rfl (by rw [zV_size]; exact info_bits) ?_) | (refine wpList_store_row rfl 60 (.tmp 2) (.tmp 14) rfl (w.heap.size + 1) (zV (notW a)) rfl rfl 60 _ h0 (by rw [zV_size]; exact info_bits) (by rw [zV_size, zV_size]) (one_zV _) ?_) | fail)
      exact bodyPost_ret (v := .agg (zV (notW a))) (results_cell_row rfl _ _ (w.heap.size + 1) 60 (zV (notW a)) (0, 0) _ rfl (setRow_heap _ _ _ _ _ _ h0) Try.underlying60 rfl (by rw [zV_size]; exact info_bits)) rfl ⟨rfl, below_row hB (by omega) _⟩
set_option maxRecDepth 100000 in
theorem word_any (v : Nat) (hv : v < 4294967296) (w : World) :
    Calls Try.prog 31 #[.int .u32 v] w fun r w' => r = .returned (.agg (zV (wordW v))) ∧ Below w.heap.size w w' := by
  have b1 := (Below.refl w.heap.size w).alloc (Nat.le_refl _) (.cells #[.int .i64 0, .int .i64 0, .int .i64 0, .int .i64 0, .int .i64 0, .int .i64 0, .int .i64 0, .int .i64 0, .int .i64 0, .int .i64 0, .int .i64 0, .int .i64 0, .int .i64 0, .int .i64 0, .int .i64 0, .int .i64 0, .int .i64 0, .int .i64 0, .int .i64 0, .int .i64 0, .int .i64 0, .int .i64 0, .int .i64 0, .int .i64 0, .int .i64 0, .int .i64 0, .int .i64 0, .int .i64 0, .int .i64 0, .int .i64 0, .int .i64 0, .int .i64 0] 60)
  have b2 := b1.alloc (by simp) (.cells #[.int .i64 0, .int .i64 0, .int .i64 0, .int .i64 0, .int .i64 0, .int .i64 0, .int .i64 0, .int .i64 0, .int .i64 0, .int .i64 0, .int .i64 0, .int .i64 0, .int .i64 0, .int .i64 0, .int .i64 0, .int .i64 0, .int .i64 0, .int .i64 0, .int .i64 0, .int .i64 0, .int .i64 0, .int .i64 0, .int .i64 0, .int .i64 0, .int .i64 0, .int .i64 0, .int .i64 0, .int .i64 0, .int .i64 0, .int .i64 0, .int .i64 0, .int .i64 0] 60)
  have hz0 := blk_alloc (blk_new w (.cells #[.int .i64 0, .int .i64 0, .int .i64 0, .int .i64 0, .int .i64 0, .int .i64 0, .int .i64 0, .int .i64 0, .int .i64 0, .int .i64 0, .int .i64 0, .int .i64 0, .int .i64 0, .int .i64 0, .int .i64 0, .int .i64 0, .int .i64 0, .int .i64 0, .int .i64 0, .int .i64 0, .int .i64 0, .int .i64 0, .int .i64 0, .int .i64 0, .int .i64 0, .int .i64 0, .int .i64 0, .int .i64 0, .int .i64 0, .int .i64 0, .int .i64 0, .int .i64 0] 60)) (.cells #[.int .i64 0, .int .i64 0, .int .i64 0, .int .i64 0, .int .i64 0, .int .i64 0, .int .i64 0, .int .i64 0, .int .i64 0, .int .i64 0, .int .i64 0, .int .i64 0, .int .i64 0, .int .i64 0, .int .i64 0, .int .i64 0, .int .i64 0, .int .i64 0, .int .i64 0, .int .i64 0, .int .i64 0, .int .i64 0, .int .i64 0, .int .i64 0, .int .i64 0, .int .i64 0, .int .i64 0, .int .i64 0, .int .i64 0, .int .i64 0, .int .i64 0, .int .i64 0] 60)
  have hz1 := blk_new (w.alloc (.cells #[.int .i64 0, .int .i64 0, .int .i64 0, .int .i64 0, .int .i64 0, .int .i64 0, .int .i64 0, .int .i64 0, .int .i64 0, .int .i64 0, .int .i64 0, .int .i64 0, .int .i64 0, .int .i64 0, .int .i64 0, .int .i64 0, .int .i64 0, .int .i64 0, .int .i64 0, .int .i64 0, .int .i64 0, .int .i64 0, .int .i64 0, .int .i64 0, .int .i64 0, .int .i64 0, .int .i64 0, .int .i64 0, .int .i64 0, .int .i64 0, .int .i64 0, .int .i64 0] 60)) (.cells #[.int .i64 0, .int .i64 0, .int .i64 0, .int .i64 0, .int .i64 0, .int .i64 0, .int .i64 0, .int .i64 0, .int .i64 0, .int .i64 0, .int .i64 0, .int .i64 0, .int .i64 0, .int .i64 0, .int .i64 0, .int .i64 0, .int .i64 0, .int .i64 0, .int .i64 0, .int .i64 0, .int .i64 0, .int .i64 0, .int .i64 0, .int .i64 0, .int .i64 0, .int .i64 0, .int .i64 0, .int .i64 0, .int .i64 0, .int .i64 0, .int .i64 0, .int .i64 0] 60)
  have hsz : (w.alloc (.cells #[.int .i64 0, .int .i64 0, .int .i64 0, .int .i64 0, .int .i64 0, .int .i64 0, .int .i64 0, .int .i64 0, .int .i64 0, .int .i64 0, .int .i64 0, .int .i64 0, .int .i64 0, .int .i64 0, .int .i64 0, .int .i64 0, .int .i64 0, .int .i64 0, .int .i64 0, .int .i64 0, .int .i64 0, .int .i64 0, .int .i64 0, .int .i64 0, .int .i64 0, .int .i64 0, .int .i64 0, .int .i64 0, .int .i64 0, .int .i64 0, .int .i64 0, .int .i64 0] 60)).heap.size = w.heap.size + 1 := by simp
  rw [hsz, zero_zV] at hz1
  rw [zero_zV] at hz0 b2
  clear b1 hsz
  go_enter Try.func31, Try.ntmps31
  go_wp2_with fail
  rw [zero_zV] at *
  go_loopw [4, 5] (fun _ i wr => ∃ j : Nat, j ≤ 32 ∧ i = .int .i64 j ∧ ZAt 60 wr (w.heap.size + 1) (fun r => if r < j then wordW v r else 0) ∧ ZAt 60 wr w.heap.size (fun _ => 0) ∧ Below w.heap.size w wr) (fun _ i _ => 32 - (intOf i).toNat)
  case atStart => exact ⟨0, by omega, rfl, hz1, hz0, b2⟩
  case round =>
    clear hz0 hz1 b2
    obtain ⟨j, hj, rfl, hZ, h0, hB⟩ := hrel
    by_cases hlt : j < 32
    · have hlt' : (j : Int) < 32 := by omega
      have hc := hZ.cell (i := j) hlt
      rw [if_neg (Nat.lt_irrefl j)] at hc
      have hf := hZ.fro j
      have hZ1 := hZ.set j (-1)
      have hc1 := hZ1.cell (i := j) hlt
      have hf1 := hZ1.fro j
      have hbit := bit_low (m := v) (r := j) hv
      cases hb : v.testBit j with
      | false =>
        have hw : wordW v j = -1 := by unfold wordW; rw [if_neg (by rw [hb]; decide)]
        rw [if_neg (by rw [hb]; decide)] at hbit
        go_wp2_with fail
        go_roundw
        case rel => exact ⟨j + 1, by omega, by go_num, hZ1.ext (fun r _ => setZ_step0 (wordW v) (fun _ => 0) j _ hw.symm r), h0.set_other (by omega), hB.setCell (by show _ ≤ w.heap.size + 1; omega) _⟩
        case measure => simp [intOf]; omega
      | true =>
        have hw : wordW v j = 1 := by unfold wordW; rw [if_pos hb]
        rw [if_pos hb] at hbit
        have hZ2 := hZ1.set j 1
        rw [setZ_twice] at hZ2
        go_wp2_with fail
        go_roundw
        case rel => exact ⟨j + 1, by omega, by go_num, hZ2.ext (fun r _ => setZ_step0 (wordW v) (fun _ => 0) j _ hw.symm r), (h0.set_other (by omega)).set_other (by omega), (hB.setCell (by show _ ≤ w.heap.size + 1; omega) _).setCell (by show _ ≤ w.heap.size + 1; omega) _⟩
        case measure => simp [intOf]; omega
    · have hlt' : ¬ (j : Int) < 32 := by omega
      obtain rfl : j = 32 := by omega
      have hZ := hZ.ext (z := wordW v) fun r hr => if_pos hr
      go_wp2_with (first | (refine wpList_load_row rfl 60 (.tmp 3) rfl (w.heap.size + 1) rfl 60 (zV (wordW v)) (0, 0) _ hZ Try.underlying60 rfl (by rw [zV_size]; exact info_bits) ?_) | (refine wpList_store_row rfl 60 (.tmp 2) (.tmp 18) rfl w.heap.size (zV (wordW v)) rfl rfl 60 _ h0 (by rw [zV_size]; exact info_bits) (by rw [zV_size, zV_size]) (one_zV _) ?_) | fail)
      exact bodyPost_ret (v := .agg (zV (wordW v))) (results_cell_row rfl _ _ w.heap.size 60 (zV (wordW v)) (0, 0) _ rfl (setRow_heap _ _ _ _ _ _ h0) Try.underlying60 rfl (by rw [zV_size]; exact info_bits)) rfl ⟨rfl, below_row hB (Nat.le_refl _) _⟩
end Go.Proofs.Ytgnahjadjgjecaa
