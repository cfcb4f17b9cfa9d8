/- The reference of simp: Op, its cases joined. -/
/- The reference of simp: all, All. -/
import Derived.Test.YtekleoccdockhaaDoorGOpA
import Derived.Test.YtekleoccdockhaaDoorGOpB
import Derived.Test.YtekleoccdockhaaDoorGOpC
import Derived.Test.YtekleoccdockhaaDoorGOpD
import Derived.Test.YtekleoccdockhaaDoorGOpE
import Derived.Test.YtekleoccdockhaaDoorGOpF
import Derived.Test.YtekleoccdockhaaDoorGOpG
import Derived.Test.YtekleoccdockhaaDoorTDepth
set_option linter.unusedVariables false
set_option linter.unusedSimpArgs false
namespace Go.Proofs.YtekleoccdockhaaDoor
open Go.RowKit Go.Maps Go.MapKept

theorem isC_k {ts : List Term} {x : Nat} {b : Bool} (h : isC ts x = b) : ((((ts.getD x default).k : Nat) : Int) == 0) = b := by
  unfold isC at h
  rw [← h]
  generalize (ts.getD x default).k = q
  rw [Bool.eq_iff_iff, decide_eq_true_eq, beq_iff_eq]
  omega
theorem isC_kn {ts : List Term} {x : Nat} {b : Bool} (h : isC ts x = b) : ((((ts.getD x default).k : Nat) : Int) != 0) = !b := by
  rw [bne, isC_k h]
theorem op28 (op : Nat) : ((op : Int) == 28) = decide (op = 28) := by
  rw [Bool.eq_iff_iff, decide_eq_true_eq, beq_iff_eq]
  omega
set_option maxHeartbeats 1000000 in
theorem rmade_step (f : Nat) (hM : RMadeSpec f) : RMadeSpec (f + 1) := by
  intro k vl ts op x y w h hG ho hx hy hm hl
  have hnx := next_ok hG ho hx hy
  have e1 : madeF (f + 1) ts op x y = (next ts op x y).fin (madeF f) := rfl
  rw [e1]
  clear e1
  have t28 : turns 28 = false := by decide
  revert hnx
  unfold next
  by_cases c1 : isC ts x = true ∧ isC ts y = true
  · rw [if_pos c1]
    intro hnx
    exact rop_A f hM k vl ts op x y w h hG ho hx hy hl _ _ rfl rfl (isC_k c1.1) (isC_k c1.2) (hG.wd_lt hx) (hG.wd_lt hy)
  rw [if_neg c1]
  by_cases c2 : turns op = true ∧ ((isC ts x = true ∧ isC ts y = false) ∨ (isC ts x = false ∧ isC ts y = false ∧ y < x))
  · rw [if_pos c2]
    intro hnx
    have hW : Went ts op x y ts op y x := hnx
    have hl2 := hW.less
    obtain ⟨ht, ⟨hc1, hc2⟩ | ⟨hc1, hc2, hlt⟩⟩ := c2
    · exact rop_B1 f hM k vl ts op x y w h hG ho hx hy hl _ _ rfl rfl (isC_k hc1) (isC_kn hc2) (isC_k hc2) ht (by omega)
    · exact rop_B2 f hM k vl ts op x y w h hG ho hx hy hl _ _ rfl rfl (isC_k hc1) (by omega) (isC_kn hc2) (isC_k hc2) ht (by omega)
  rw [if_neg c2]
  by_cases c3 : op = 28 ∧ isC ts y = true
  · rw [if_pos c3]
    intro hnx
    have hcx : isC ts x = false := by
      cases e : isC ts x with
      | false => rfl
      | true => exact absurd ⟨e, c3.2⟩ c1
    exact rop_C f hM k vl ts op x y w h hG ho hx hy hl _ _ rfl rfl (isC_k hcx) (isC_k c3.2) (isC_kn c3.2) (by rw [c3.1]; exact t28) (by rw [op28, c3.1]; rfl) hnx hm
  rw [if_neg c3]
  cases hcy : isC ts y with
  | true =>
    have hcx : isC ts x = false := by
      cases e : isC ts x with
      | false => rfl
      | true => exact absurd ⟨e, hcy⟩ c1
    have hop : op ≠ 28 := fun e => c3 ⟨e, hcy⟩
    have n28 : ((op : Int) == 28) = false := by rw [op28]; simpa using hop
    have hxy : x ≠ y := by rintro rfl; rw [hcx] at hcy; cases hcy
    have hne : ((x : Int) == y) = false := by simp; omega
    have hok := byN_ok hG ho hx hy hcx hcy
    have hokP : ∀ nx, plainN ts op x y (wd ts y) = some nx → nx.ok ts op x y := fun nx hn => hok nx (byN_plain hn)
    rw [if_pos rfl]
    cases hn : plainN ts op x y (wd ts y) with
    | some nx =>
      rw [byN_plain hn]
      intro _
      cases ht : turns op with
      | true => exact rop_D1t f hM k vl ts op x y w h hG ho hx hy hl _ _ rfl rfl (isC_k hcx) (isC_k hcy) (isC_kn hcy) ht n28 (hG.wd_lt hy) hm hokP nx hn
      | false => exact rop_D1f f hM k vl ts op x y w h hG ho hx hy hl _ _ rfl rfl (isC_k hcx) (isC_k hcy) (isC_kn hcy) ht n28 (hG.wd_lt hy) hm hokP nx hn
    | none =>
      have eD := byN_deep hn
      rw [eD]
      have hokD : ∀ nx, deepN ts op x (wd ts y) = some nx → nx.ok ts op x y := fun nx hn2 => hok nx (by rw [eD]; exact hn2)
      cases hn2 : deepN ts op x (wd ts y) with
      | some nx =>
        intro _
        cases ht : turns op with
        | true => exact rop_D2t f hM k vl ts op x y w h hG ho hx hy hl _ _ rfl rfl (isC_k hcx) (isC_k hcy) (isC_kn hcy) ht n28 (hG.wd_lt hy) hm hokP hokD hn nx hn2
        | false => exact rop_D2f f hM k vl ts op x y w h hG ho hx hy hl _ _ rfl rfl (isC_k hcx) (isC_k hcy) (isC_kn hcy) ht n28 (hG.wd_lt hy) hm hokP hokD hn nx hn2
      | none =>
        simp only [if_neg hxy]
        intro _
        cases ht : turns op with
        | true => exact rop_Et f hM k vl ts op x y w h hG ho hx hy hl _ _ rfl rfl (isC_k hcx) (isC_k hcy) (isC_kn hcy) ht n28 (hG.wd_lt hy) hm hokP hokD hn hn2 hne
        | false => exact rop_Ef f hM k vl ts op x y w h hG ho hx hy hl _ _ rfl rfl (isC_k hcx) (isC_k hcy) (isC_kn hcy) ht n28 (hG.wd_lt hy) hm hokP hokD hn hn2 hne
  | false =>
    rw [if_neg (by decide)]
    by_cases hxy : x = y
    · simp only [if_pos hxy]
      have hcx : isC ts x = false := by rw [hxy]; exact hcy
      have hs28 : op = 28 → turns op = false := by rintro rfl; exact t28
      by_cases g1 : op = 28 ∨ op = 32 ∨ op = 30 ∨ op = 31
      · have et : twiceN ts op x = some (cst ts 0) := by unfold twiceN; rw [if_pos g1]
        rw [et]
        intro _
        have q4 : hasI (op : Int) [28, 32, 30, 31] = true := by rcases g1 with rfl | rfl | rfl | rfl <;> rfl
        by_cases hop : op = 28
        · exact rop_G1fs f hM k vl ts op x y w h hG ho hx hy hl _ _ rfl rfl (isC_k hcx) (isC_k hcy) (isC_kn hcy) (hs28 hop) (by rw [op28, hop]; rfl) q4 hxy
        · have n28 : ((op : Int) == 28) = false := by rw [op28]; simpa using hop
          cases ht : turns op with
          | true => exact rop_G1tn f hM k vl ts op x y w h hG ho hx hy hl _ _ rfl rfl (isC_k hcx) (isC_k hcy) (isC_kn hcy) ht n28 q4 hxy
          | false => exact rop_G1fn f hM k vl ts op x y w h hG ho hx hy hl _ _ rfl rfl (isC_k hcx) (isC_k hcy) (isC_kn hcy) ht n28 q4 hxy
      have q4 : hasI (op : Int) [28, 32, 30, 31] = false := by simp [hasI]; omega
      have hop : op ≠ 28 := fun e => g1 (Or.inl e)
      have n28 : ((op : Int) == 28) = false := by rw [op28]; simpa using hop
      by_cases g2 : op = 36 ∨ op = 35
      · have et : twiceN ts op x = some (.done ts x) := by unfold twiceN; rw [if_neg g1, if_pos g2]
        rw [et]
        intro _
        have q2 : hasI (op : Int) [36, 35] = true := by rcases g2 with rfl | rfl <;> rfl
        exact rop_G2tn f hM k vl ts op x y w h hG ho hx hy hl _ _ rfl rfl (isC_k hcx) (isC_k hcy) (isC_kn hcy) (by rcases g2 with rfl | rfl <;> rfl) n28 q4 q2 hxy
      have q2 : hasI (op : Int) [36, 35] = false := by simp [hasI]; omega
      by_cases g3 : op = 27
      · have et : twiceN ts op x = some (goesN ts 29 x 1) := by unfold twiceN; rw [if_neg g1, if_neg g2, if_pos g3]
        rw [et]
        intro hnx
        exact rop_G3tn f hM k vl ts op x y w h hG ho hx hy hl _ _ rfl rfl (isC_k hcx) (isC_k hcy) (isC_kn hcy) (by rw [g3]; rfl) n28 q4 q2 (by rw [g3]; rfl) hxy hnx hm
      have et : twiceN ts op x = none := by unfold twiceN; rw [if_neg g1, if_neg g2, if_neg g3]
      rw [et]
      intro _
      have q27 : ((op : Int) == 27) = false := by simp; omega
      rw [← hxy]
      cases ht : turns op with
      | true => exact rop_G4tn f hM k vl ts op x x w h hG ho hx hx hl _ _ rfl rfl (isC_k hcx) (isC_k hcx) (isC_kn hcx) ht n28 q4 q2 q27 rfl
      | false => exact rop_G4fn f hM k vl ts op x x w h hG ho hx hx hl _ _ rfl rfl (isC_k hcx) (isC_k hcx) (isC_kn hcx) ht n28 q4 q2 q27 rfl
    · simp only [if_neg hxy]
      intro _
      have hne : ((x : Int) == y) = false := by simp; omega
      cases hcx : isC ts x with
      | true =>
        have ht : turns op = false := by
          cases e : turns op with
          | false => rfl
          | true => exact absurd ⟨e, Or.inl ⟨hcx, hcy⟩⟩ c2
        by_cases hop : op = 28
        · exact rop_F1s f hM k vl ts op x y w h hG ho hx hy hl _ _ rfl rfl (isC_k hcx) (isC_k hcy) (isC_kn hcy) ht (by rw [op28, hop]; rfl) hne
        · exact rop_F1n f hM k vl ts op x y w h hG ho hx hy hl _ _ rfl rfl (isC_k hcx) (isC_k hcy) (isC_kn hcy) ht (by rw [op28]; simpa using hop) hne
      | false =>
        by_cases hop : op = 28
        · exact rop_F2s f hM k vl ts op x y w h hG ho hx hy hl _ _ rfl rfl (isC_k hcx) (isC_k hcy) (isC_kn hcy) (by rw [hop]; exact t28) (by rw [op28, hop]; rfl) hne
        · have n28 : ((op : Int) == 28) = false := by rw [op28]; simpa using hop
          cases ht : turns op with
          | false => exact rop_F2n f hM k vl ts op x y w h hG ho hx hy hl _ _ rfl rfl (isC_k hcx) (isC_k hcy) (isC_kn hcy) ht n28 hne
          | true => exact rop_F3n f hM k vl ts op x y w h hG ho hx hy hl _ _ rfl rfl (isC_k hcx) (isC_k hcy) (isC_kn hcy) ht n28 (by have : ¬ y < x := fun hlt => c2 ⟨ht, Or.inr ⟨hcx, hcy, hlt⟩⟩; simp; omega) hne
theorem rmade_any : ∀ f, RMadeSpec f
  | 0 => fun k vl ts op x y w h hG ho hx hy hm hl => by omega
  | f + 1 => rmade_step f (rmade_any f)
/-- A reckoning's term, made simple, of terms that there are. -/
theorem rmade_call (k : Nat) (vl : Value) (op x y : Nat) (ts : List Term) (hl : ts.length < 100000000000) (hx : x < ts.length) (hy : y < ts.length) (ho : (doW op 0 0).isSome = true) (hG : Good ts) (w : World) (h : RefAt w k vl ts) :
    Calls Tryd.prog 17 #[.pointer (some ⟨k, 0, none⟩), .int .i64 op, .int .i64 x, .int .i64 y] w (RPost k vl w (made ts op x y)) := by
  have hm := mz_le (op := op) (b := y) hx
  exact rmade_any (8 * ts.length + 10) k vl ts op x y w h hG ho hx hy (by omega) (by omega)
end Go.Proofs.YtekleoccdockhaaDoor
set_option linter.unusedVariables false
set_option linter.unusedSimpArgs false
namespace Go.Proofs.YtekleoccdockhaaDoor
open Go.RowKit Go.Maps Go.MapKept

theorem gall_info : (Tryd.prog.info? 3).map (fun i => (i.zero, i.size, i.bytes)) = some (some (.int .i64 0), 1, 8) := by kernel_rfl
/-- The list of what was made simple already. -/
def dnZ (dn : Dn) (i : Nat) : Int := match dn i with | some m => (m : Int) | none => -1
theorem dnZ_upd_same (dn : Dn) (n m : Nat) : dnZ (updD dn n m) n = (m : Int) := by unfold dnZ; rw [updD_same]
theorem dnZ_upd_ne {dn : Dn} {n m i : Nat} (h : i ≠ n) : dnZ (updD dn n m) i = dnZ dn i := by unfold dnZ; rw [updD_ne h]
structure LAt (w : World) (g N : Nat) (dn : Dn) : Prop where mk_ ::
  cells : ∃ cs : Array Value, w.heap[g]? = some (.cells cs 3 (0, 0)) ∧ ∀ i, i < N → cs[i]? = some (.int .i64 (dnZ dn i))
theorem LAt.lt {w : World} {g N : Nat} {dn : Dn} (h : LAt w g N dn) : g < w.heap.size := by
  obtain ⟨cs, hb, _⟩ := h.cells
  exact (Array.getElem?_eq_some_iff.1 hb).1
theorem LAt.cell {w : World} {g N : Nat} {dn : Dn} (h : LAt w g N dn) {i : Nat} (hi : i < N) : w.cell? ⟨g, i, none⟩ = some (.int .i64 (dnZ dn i)) := by
  obtain ⟨cs, hb, hc⟩ := h.cells
  simp [World.cell?, hb, hc i hi]
theorem LAt.fro {w : World} {g N : Nat} {dn : Dn} (h : LAt w g N dn) (i : Nat) : w.frozen? ⟨g, i, none⟩ = false := by
  obtain ⟨cs, hb, hc⟩ := h.cells
  exact frozen_of hb i
theorem LAt.kept {K : Nat → Prop} {w w' : World} {g N : Nat} {dn : Dn} (h : LAt w g N dn) (hk : Kept K w w') (hg : K g) : LAt w' g N dn := by
  obtain ⟨cs, hb, hc⟩ := h.cells
  exact ⟨cs, hk.blk hg hb, hc⟩
theorem LAt.below {w w' : World} {g N : Nat} {dn : Dn} (h : LAt w g N dn) (hb : Below w.heap.size w w') : LAt w' g N dn := h.kept (Kept.below (K := fun _ => True) hb) trivial
theorem LAt.set {w : World} {g N : Nat} {dn : Dn} (h : LAt w g N dn) (n m : Nat) : LAt (w.setCell ⟨g, n, none⟩ (.int .i64 (m : Int))) g N (updD dn n m) := by
  obtain ⟨cs, hb, hc⟩ := h.cells
  refine ⟨_, blk_set hb n _, fun i hi => ?_⟩
  have hci := hc i hi
  have hs := (Array.getElem?_eq_some_iff.1 hci).1
  by_cases e : i = n
  · subst e
    rw [dnZ_upd_same, Array.getElem?_setIfInBounds, if_pos rfl, if_pos hs]
  · rw [dnZ_upd_ne e, Array.getElem?_setIfInBounds, if_neg (fun h => e h.symm), hci]
/-- Behind calls on the reference's Dag and its list. -/
structure RGo (w : World) (k : Nat) (vl : Value) (g N : Nat) (ts' : List Term) (dn' : Dn) (w' : World) : Prop where mk_ ::
  kept : Kept (fun i => i ≠ k ∧ vl.ownBlock ≠ some i ∧ i ≠ g) w w'
  out : ∃ vl', RefAt w' k vl' ts' ∧ (vl'.ownBlock = vl.ownBlock ∨ ∃ q, vl'.ownBlock = some q ∧ w.heap.size ≤ q)
  lat : LAt w' g N dn'
theorem RGo.trans {w w1 w2 : World} {k g N : Nat} {vl vl' : Value} {ts us : List Term} {dn dn' : Dn} (h : RGo w k vl g N ts dn w1) (ho : vl'.ownBlock = vl.ownBlock ∨ ∃ q, vl'.ownBlock = some q ∧ w.heap.size ≤ q) (hq : RGo w1 k vl' g N us dn' w2) : RGo w k vl g N us dn' w2 := by
  obtain ⟨vl2, hr2, ho2⟩ := hq.out
  have hk := hq.kept
  refine ⟨⟨hk.os.trans h.kept.os, hk.tape.trans h.kept.tape, hk.output.trans h.kept.output, Nat.le_trans h.kept.size hk.size, fun i hi hn => ?_⟩, ⟨vl2, hr2, ?_⟩, hq.lat⟩
  · refine (hk.block i (Nat.lt_of_lt_of_le hi h.kept.size) ⟨hn.1, fun e => ?_, hn.2.2⟩).trans (h.kept.block i hi hn)
    rcases ho with ho | ⟨q, ho, hg⟩
    · exact hn.2.1 (by rw [← ho]; exact e)
    · rw [ho] at e; injection e with e; omega
  · rcases ho2 with ho2 | ⟨q, ho2, hg⟩
    · rcases ho with ho | ⟨q, ho, hg⟩
      · exact Or.inl (ho2.trans ho)
      · exact Or.inr ⟨q, ho2.trans ho, hg⟩
    · exact Or.inr ⟨q, ho2, Nat.le_trans h.kept.size hg⟩
theorem RGo.pre {w w1 w' : World} {k g N : Nat} {vl : Value} {ts' : List Term} {dn' : Dn} (hb : Below w.heap.size w w1) (h : RGo w1 k vl g N ts' dn' w') : RGo w k vl g N ts' dn' w' := by
  obtain ⟨vl', h1, h2⟩ := h.out
  refine ⟨(Kept.below hb).trans h.kept, ⟨vl', h1, ?_⟩, h.lat⟩
  rcases h2 with h2 | ⟨q, h2, h3⟩
  · exact Or.inl h2
  · exact Or.inr ⟨q, h2, Nat.le_trans hb.size h3⟩
theorem RGo.of_add {w w' : World} {k g N : Nat} {vl : Value} {ts' : List Term} {dn : Dn} (h : RAdd w k vl ts' w') (hl : LAt w g N dn) (h1 : g ≠ k) (h2 : vl.ownBlock ≠ some g) : RGo w k vl g N ts' dn w' :=
  ⟨h.kept.mono fun i hi => ⟨hi.1, hi.2.1⟩, h.out, hl.kept h.kept ⟨h1, h2⟩⟩
theorem RGo.same {w w' : World} {k g N : Nat} {vl : Value} {ts : List Term} {dn : Dn} (h : RefAt w k vl ts) (hl : LAt w g N dn) (hb : Below w.heap.size w w') : RGo w k vl g N ts dn w' :=
  ⟨Kept.below hb, ⟨vl, h.below hb, Or.inl rfl⟩, hl.below hb⟩
theorem RGo.put {w w' : World} {k g N : Nat} {vl : Value} {ts' : List Term} {dn : Dn} (h : RGo w k vl g N ts' dn w') (hg : g < w.heap.size) (h1 : g ≠ k) (h2 : vl.ownBlock ≠ some g) (n m : Nat) : RGo w k vl g N ts' (updD dn n m) (w'.setCell ⟨g, n, none⟩ (.int .i64 (m : Int))) := by
  obtain ⟨vl', hr, ho⟩ := h.out
  have hgr := grown_set w' g n (.int .i64 (m : Int))
  refine ⟨h.kept.trans (Kept.grown hgr fun hx => hx.2.2 rfl), ⟨vl', hr.kept (K := fun i => i ≠ g) (Kept.grown hgr fun hx => hx rfl) (fun e => h1 e.symm) (fun q hq e => ?_), ho⟩, h.lat.set n m⟩
  subst e
  rcases ho with ho | ⟨q', ho, hg'⟩
  · exact h2 (by rw [← ho]; exact hq)
  · rw [hq] at ho; injection ho with ho; omega
theorem RGo.then_below {w w1 w2 : World} {k g N : Nat} {vl : Value} {ts : List Term} {dn : Dn} (h : RGo w k vl g N ts dn w1) (hb : Below w1.heap.size w1 w2) : RGo w k vl g N ts dn w2 := by
  obtain ⟨vl', hr, ho⟩ := h.out
  exact ⟨h.kept.trans (Kept.below hb), ⟨vl', hr.below hb, ho⟩, h.lat.below hb⟩
/-- What the inner function is called in. -/
structure RAllIn (w : World) (k : Nat) (vl : Value) (g N : Nat) (ts0 ts : List Term) (dn : Dn) : Prop where
  ref : RefAt w k vl ts
  good0 : Good ts0
  good : Good ts
  ext : Ext ts0 ts
  ok : DnOk ts0 ts dn
  lat : LAt w g N dn
  gk : g ≠ k
  gv : vl.ownBlock ≠ some g
theorem RAllIn.below {w w' : World} {k g N : Nat} {vl : Value} {ts0 ts : List Term} {dn : Dn} (h : RAllIn w k vl g N ts0 ts dn) (hb : Below w.heap.size w w') : RAllIn w' k vl g N ts0 ts dn :=
  ⟨h.ref.below hb, h.good0, h.good, h.ext, h.ok, h.lat.below hb, h.gk, h.gv⟩
theorem RAllIn.after {w w' : World} {k g N n : Nat} {vl : Value} {ts0 ts : List Term} {dn : Dn} {R : List Term × Dn × Nat} (h : RAllIn w k vl g N ts0 ts dn) (hR : AllOk ts0 ts n R) (hq : RGo w k vl g N R.1 R.2.1 w') :
    ∃ vl', RAllIn w' k vl' g N ts0 R.1 R.2.1 ∧ (vl'.ownBlock = vl.ownBlock ∨ ∃ q, vl'.ownBlock = some q ∧ w.heap.size ≤ q) := by
  obtain ⟨vl', hr, ho⟩ := hq.out
  refine ⟨vl', ⟨hr, h.good0, hR.good, h.ext.trans hR.ext, hR.dn, hq.lat, h.gk, fun e => ?_⟩, ho⟩
  rcases ho with ho | ⟨q, ho, hg⟩
  · exact h.gv (by rw [← ho]; exact e)
  · rw [e] at ho; injection ho with ho
    have := h.lat.lt
    omega
def RAllPost (k : Nat) (vl : Value) (g N : Nat) (w : World) (R : List Term × Dn × Nat) (e : Ending) (w' : World) : Prop := e = .returned (.int .i64 (R.2.2 : Nat)) ∧ RGo w k vl g N R.1 R.2.1 w'
def RAllSpec (f : Nat) : Prop := ∀ (k : Nat) (vl : Value) (g N c : Nat) (ts0 ts : List Term) (dn : Dn) (n : Nat) (w : World), RAllIn w k vl g N ts0 ts dn → n < N → N < 1000000000000 → n < ts0.length → n < f → (allF f ts dn n).1.length < 100000000000 →
  Calls Tryd.prog 35 #[.pointer (some ⟨k, 0, none⟩), .int .i64 n, .slice (some ⟨g, 0, none⟩) N c] w (RAllPost k vl g N w (allF f ts dn n))
section
variable (k : Nat) (vl : Value) (g N c : Nat) (ts0 ts : List Term) (dn : Dn) (n : Nat) (w : World) (h : RAllIn w k vl g N ts0 ts dn) (hN : n < N)
include h hN
set_option maxRecDepth 100000 in
theorem rall_done (q : Nat) (hd : dn n = some q) : Calls Tryd.prog 35 #[.pointer (some ⟨k, 0, none⟩), .int .i64 n, .slice (some ⟨g, 0, none⟩) N c] w (RAllPost k vl g N w (ts, dn, q)) := by
  have cl : w.cell? ⟨g, n, none⟩ = some (.int .i64 (q : Int)) := by
    have := h.lat.cell hN
    rw [this]; unfold dnZ; rw [hd]
  have gN : (n : Int) < N := by omega
  clear hd
  go_enter Tryd.func35, Tryd.ntmps35
  go_wp2_with fail
  go_ret
  exact ⟨rfl, RGo.same h.ref h.lat (Below.refl _ _)⟩
set_option maxRecDepth 100000 in
theorem rall_leaf (hn : n < ts.length) (hd : dn n = none) (tk tv tt ta tb : Nat) (ht : ts.getD n default = ⟨tk, tv, tt, ta, tb⟩) (hk : ((tk : Int) == 2) = false) : Calls Tryd.prog 35 #[.pointer (some ⟨k, 0, none⟩), .int .i64 n, .slice (some ⟨g, 0, none⟩) N c] w (RAllPost k vl g N w (ts, updD dn n n, n)) := by
  have hr := h.ref
  obtain ⟨A, c', rfl, q1, q2, q3⟩ := (hr.l.toSl encT 0).open_
  obtain ⟨bb, off, rfl, hat, hbl⟩ := (hr.l.toSl encT 0).at_ hn
  rw [show ts[n] = ts.getD n default by simp [List.getD, hn], ht] at hat
  have d0 : w.cell? ⟨bb, off + n * 5, none⟩ = some (.int .i64 tk) := hat 0 _ rfl
  have d1 : w.cell? ⟨bb, off + n * 5 + 1, none⟩ = some (.int .u32 tv) := hat 1 _ rfl
  have d2 : w.cell? ⟨bb, off + n * 5 + 2, none⟩ = some (.int .i64 tt) := hat 2 _ rfl
  have d3 : w.cell? ⟨bb, off + n * 5 + 3, none⟩ = some (.int .i64 ta) := hat 3 _ rfl
  have d4 : w.cell? ⟨bb, off + n * 5 + 4, none⟩ = some (.int .i64 tb) := hat 4 _ rfl
  have c0 := one_cell hr.hb
  have gx : (n : Int) < ts.length := by omega
  have gN : (n : Int) < N := by omega
  have cl : w.cell? ⟨g, n, none⟩ = some (.int .i64 (-1)) := by
    have := h.lat.cell hN
    rw [this]; unfold dnZ; rw [hd]
  obtain ⟨z0, z1, z2, z3, z4⟩ := five_cells (blk_new w (.cells #[.int .i64 tk, .int .u32 tv, .int .i64 tt, .int .i64 ta, .int .i64 tb] 33))
  have b1 := below_al (Below.refl w.heap.size w) (.cells #[.int .i64 tk, .int .u32 tv, .int .i64 tt, .int .i64 ta, .int .i64 tb] 33)
  have cl2 := cell_alloc0 cl (.cells #[.int .i64 tk, .int .u32 tv, .int .i64 tt, .int .i64 ta, .int .i64 tb] 33)
  have fl2 := (h.lat.below b1).fro n
  have hI := RGo.same h.ref h.lat (Below.refl _ _)
  have hlt := h.lat.lt
  have g1 := h.gk
  have g2 := h.gv
  clear hat ht hd h hr
  go_enter Tryd.func35, Tryd.ntmps35
  go_wp2_with fail
  go_ret
  exact ⟨rfl, (hI.put hlt g1 g2 n n).then_below (below_al (Below.refl _ _) _)⟩
set_option maxRecDepth 100000 in
theorem rall_op (hNl : N < 1000000000000) (hn : n < ts0.length) (f : Nat) (hS : RAllSpec f) (hnf : n < f + 1) (hd : dn n = none) (op ta tb : Nat) (ht : ts.getD n default = ⟨2, 0, op, ta, tb⟩) (hta : ta < n) (htb : tb < n) (ho : (doW op 0 0).isSome = true)
    (R1 R2 : List Term × Dn × Nat) (R3 : Made) (e1 : allF f ts dn ta = R1) (e2 : allF f R1.1 R1.2.1 tb = R2) (e3 : made R2.1 op R1.2.2 R2.2.2 = R3) (hl : R3.1.length < 100000000000) :
    Calls Tryd.prog 35 #[.pointer (some ⟨k, 0, none⟩), .int .i64 n, .slice (some ⟨g, 0, none⟩) N c] w (RAllPost k vl g N w (R3.1, updD R2.2.1 n R3.2, R3.2)) := by
  have hnl := Nat.lt_of_lt_of_le hn h.ext.len
  have ok1 := allF_ok ts0 h.good0 f ts dn ta h.good h.ext h.ok (by omega) (by omega)
  rw [e1] at ok1
  have ok2 := allF_ok ts0 h.good0 f R1.1 R1.2.1 tb ok1.good (h.ext.trans ok1.ext) ok1.dn (by omega) (by omega)
  rw [e2] at ok2
  have hx := Nat.lt_of_lt_of_le ok1.num ok2.ext.len
  obtain ⟨mo1, mo2, mo3⟩ := made_ok ok2.good ho hx ok2.num
  rw [e3] at mo3
  have l3 := mo3.len
  have l2 := ok2.ext.len
  have l1 := ok1.ext.len
  have hS1 := fun vl w h => hS k vl g N c ts0 ts dn ta w h (by omega) hNl (by omega) (by omega) (by rw [e1]; omega)
  have hS2 := fun vl w h => hS k vl g N c ts0 R1.1 R1.2.1 tb w h (by omega) hNl (by omega) (by omega) (by rw [e2]; omega)
  have hM := fun vl w h => rmade_call k vl op R1.2.2 R2.2.2 R2.1 (by omega) hx ok2.num ho ok2.good w h
  rw [e1] at hS1
  rw [e2] at hS2
  rw [e3] at hM
  clear e1 e2 e3 mo1 mo2 mo3
  have hr := h.ref
  obtain ⟨A, c', rfl, q1, q2, q3⟩ := (hr.l.toSl encT 0).open_
  obtain ⟨bb, off, rfl, hat, hbl⟩ := (hr.l.toSl encT 0).at_ hnl
  rw [show ts[n] = ts.getD n default by simp [List.getD, hnl], ht] at hat
  have d0 : w.cell? ⟨bb, off + n * 5, none⟩ = some (.int .i64 2) := hat 0 _ rfl
  have d1 : w.cell? ⟨bb, off + n * 5 + 1, none⟩ = some (.int .u32 0) := hat 1 _ rfl
  have d2 : w.cell? ⟨bb, off + n * 5 + 2, none⟩ = some (.int .i64 op) := hat 2 _ rfl
  have d3 : w.cell? ⟨bb, off + n * 5 + 3, none⟩ = some (.int .i64 ta) := hat 3 _ rfl
  have d4 : w.cell? ⟨bb, off + n * 5 + 4, none⟩ = some (.int .i64 tb) := hat 4 _ rfl
  have c0 := one_cell hr.hb
  have gx : (n : Int) < ts.length := by omega
  have gN : (n : Int) < N := by omega
  have cl : w.cell? ⟨g, n, none⟩ = some (.int .i64 (-1)) := by
    have := h.lat.cell hN
    rw [this]; unfold dnZ; rw [hd]
  obtain ⟨z0, z1, z2, z3, z4⟩ := five_cells (blk_new w (.cells #[.int .i64 2, .int .u32 0, .int .i64 op, .int .i64 ta, .int .i64 tb] 33))
  have b1 := below_al (Below.refl w.heap.size w) (.cells #[.int .i64 2, .int .u32 0, .int .i64 op, .int .i64 ta, .int .i64 tb] 33)
  have hI := h.below b1
  have hlt := h.lat.lt
  have hkl := hr.at_lt
  have hvl := fun q hq => hr.own_lt (g := q) hq
  have g1 := h.gk
  have g2 := h.gv
  have hnk : ∀ vl' : Value, (vl'.ownBlock = (Value.slice (some ⟨bb, off, none⟩) ts.length c').ownBlock ∨ ∃ q, vl'.ownBlock = some q ∧ (w.alloc (.cells #[.int .i64 2, .int .u32 0, .int .i64 op, .int .i64 ta, .int .i64 tb] 33)).heap.size ≤ q) → w.heap.size ≠ k ∧ vl'.ownBlock ≠ some w.heap.size ∧ w.heap.size ≠ g := fun vl' ho => ⟨by omega, fun e => by
    rcases ho with ho | ⟨q, ho, hq⟩
    · have := hvl w.heap.size (by rw [← ho]; exact e)
      omega
    · rw [e] at ho; injection ho with ho
      rw [World.size_alloc] at hq
      omega, by omega⟩
  clear hat ht hd hr
  go_enter Tryd.func35, Tryd.ntmps35
  go_wp2_with fail
  refine (hS1 _ _ hI).mono ?_
  rintro r w3 ⟨rfl, h3⟩
  obtain ⟨vl3, hI3, ho3⟩ := hI.after ok1 h3
  have n0 := hnk _ (Or.inl rfl)
  have x2 := h3.kept.cell n0 z2
  have x4 := h3.kept.cell n0 z4
  clear z0 z1 z2 z3 z4 hI hS1 d0 d1 d2 d3 d4 c0 cl
  go_wp2_with fail
  refine (hS2 _ _ hI3).mono ?_
  rintro r w4 ⟨rfl, h4⟩
  obtain ⟨vl4, hI4, ho4⟩ := hI3.after ok2 h4
  have n3 := hnk _ ho3
  have y2 := h4.kept.cell n3 x2
  have t4 := h3.trans ho3 h4
  have ho4' : vl4.ownBlock = (Value.slice (some ⟨bb, off, none⟩) ts.length c').ownBlock ∨ ∃ q, vl4.ownBlock = some q ∧ (w.alloc (.cells #[.int .i64 2, .int .u32 0, .int .i64 op, .int .i64 ta, .int .i64 tb] 33)).heap.size ≤ q := by
    rcases ho4 with ho4 | ⟨q, ho4, hq⟩
    · rcases ho3 with ho3 | ⟨q, ho3, hq⟩
      · exact Or.inl (ho4.trans ho3)
      · exact Or.inr ⟨q, ho4.trans ho3, hq⟩
    · exact Or.inr ⟨q, ho4, Nat.le_trans h3.kept.size hq⟩
  clear x2 x4 hI3 hS2 h3 h4
  go_wp2_with fail
  refine (hM _ _ hI4.ref).mono ?_
  rintro r w5 ⟨rfl, h5⟩
  have t5 := (t4.trans ho4' (RGo.of_add h5 hI4.lat hI4.gk hI4.gv)).pre b1
  have cl5 := t5.lat.cell hN
  have fl5 := t5.lat.fro n
  clear hI4 hM h5 t4
  go_wp2_with fail
  go_ret
  exact ⟨rfl, t5.put hlt g1 g2 n R3.2⟩
end
theorem rall_step (f : Nat) (hS : RAllSpec f) : RAllSpec (f + 1) := by
  intro k vl g N c ts0 ts dn n w h hN hNl hn hf hl
  have hnl := Nat.lt_of_lt_of_le hn h.ext.len
  revert hl
  unfold allF
  cases hd : dn n with
  | some q => exact fun _ => rall_done k vl g N c ts0 ts dn n w h hN q hd
  | none =>
    dsimp only
    by_cases hk : (ts.getD n default).k = 2
    · rw [if_pos hk]
      intro hl
      obtain ⟨ho, ha, hb, he⟩ := h.good.op_at hnl hk
      exact rall_op k vl g N c ts0 ts dn n w h hN hNl hn f hS hf hd _ _ _ he ha hb ho _ _ _ rfl rfl rfl hl
    · rw [if_neg hk]
      have hk2 : ((((ts.getD n default).k : Nat) : Int) == 2) = false := by rw [beq_eq_false_iff_ne]; omega
      exact fun hl => rall_leaf k vl g N c ts0 ts dn n w h hN hnl hd _ _ _ _ _ rfl hk2
theorem rall_any : ∀ f, RAllSpec f
  | 0 => fun k vl g N c ts0 ts dn n w h hN hNl hn hf hl => by omega
  | f + 1 => rall_step f (rall_any f)
/-- The list as it is laid. -/
theorem Own.lat {B : Nat} {w : World} {v : Value} {N : Nat} (h : Own B 3 I64 w v (List.replicate N (-1))) (hN : 0 < N) : ∃ g c, v = .slice (some ⟨g, 0, none⟩) N c ∧ B ≤ g ∧ LAt w g N dn0 := by
  obtain ⟨vs, h1, h2, h3⟩ := h
  rw [List.length_replicate] at h1 h2
  rcases h2.2 with ⟨rfl, hn⟩ | ⟨g, cap, cur, rfl, hb, hh, hc1, hc2, hc3, htake⟩
  · omega
  · refine ⟨g, cap, rfl, hb, ⟨cur, hh, fun i hi => ?_⟩⟩
    obtain ⟨u, hu, hx⟩ := h3 i (-1) (by rw [List.getElem?_replicate, if_pos hi])
    obtain ⟨rfl, _⟩ := hx
    rw [Nat.mul_one] at htake
    rw [← htake, List.getElem?_take, if_pos hi] at hu
    simpa [dnZ, dn0] using hu
set_option maxRecDepth 100000 in
theorem rAll_no (k : Nat) (vl : Value) (n : Int) (ts : List Term) (hn : inR n ts.length = false) (w : World) (h : RefAt w k vl ts) :
    Calls Tryd.prog 20 #[.pointer (some ⟨k, 0, none⟩), .int .i64 n] w fun e w' => e = .returned (.tuple #[.int .i64 0, .int .i64 100]) ∧ w = w' := by
  obtain ⟨A, c, rfl, q1, q2, q3⟩ := (h.l.toSl encT 0).open_
  have c0 := one_cell h.hb
  have hcase := inR_not hn
  clear hn h
  rcases hcase with h1 | h1
  · go_enter Tryd.func20, Tryd.ntmps20
    go_wp2_with fail
    go_ret2
    exact ⟨rfl, rfl⟩
  · have h0 : ¬ n < 0 := by omega
    go_enter Tryd.func20, Tryd.ntmps20
    go_wp2_with fail
    go_ret2
    exact ⟨rfl, rfl⟩
set_option maxRecDepth 100000 in
theorem rAll_any (k : Nat) (vl : Value) (n : Nat) (ts : List Term) (hl : (allT ts n).1.length < 100000000000) (hn : n < ts.length) (hG : Good ts) (w : World) (h : RefAt w k vl ts) :
    Calls Tryd.prog 20 #[.pointer (some ⟨k, 0, none⟩), .int .i64 n] w (RPost k vl w (allT ts n)) := by
  have hlt := (allT_ok hG hn).2.1.len
  have hkl := h.at_lt
  have hvl := fun q hq => h.own_lt (g := q) hq
  have hF := rall_any (n + 1)
  unfold RAllSpec at hF
  obtain ⟨A, c, rfl, q1, q2, q3⟩ := (h.l.toSl encT 0).open_
  have c0 := one_cell h.hb
  have gx : (n : Int) < ts.length := by omega
  have gx2 : ¬ ts.length ≤ n := by omega
  go_enter Tryd.func20, Tryd.ntmps20
  go_wp2_with fail
  have o0 : Own w.heap.size 3 I64 (w.alloc (.cells #[] 3)) (.slice (some ⟨w.heap.size, 0, none⟩) 0 0) (List.replicate 0 (-1)) := Own.empty' (Nat.le_refl _) rfl
  have b0 := below_al (Below.refl w.heap.size w) (.cells #[] 3)
  go_loopw [6, 7] (fun v i wr => ∃ j : Nat, j ≤ n + 1 ∧ i = .int .i64 j ∧ Own w.heap.size 3 I64 wr v (List.replicate j (-1)) ∧ Below w.heap.size w wr) (fun _ i _ => n + 1 - (intOf i).toNat)
  case atStart => exact ⟨0, by omega, rfl, o0, b0⟩
  case round =>
    clear o0 b0
    obtain ⟨j, hj, rfl, o1, b1⟩ := hrel
    have o1s := o1.toSl 0
    obtain ⟨Av, cv, rfl, _, hcv, _⟩ := o1s.open_
    rw [List.length_replicate] at *
    have hm1 : -9223372036854775808 ≤ (-1 : Int) ∧ (-1 : Int) ≤ 9223372036854775807 := by decide
    by_cases hlt2 : j ≤ n
    · have jl : (j : Int) ≤ n := by omega
      go_wp2_with (first | (at_builtin; go_loud (refine wpList_push (w0 := w) w.heap.size rfl _ _ 47 3 _ 8 rfl Tryd.underlying47 gall_info rfl (by decide) [] o1 (stable_i64 _ _) (by decide) ⟨rfl, hm1⟩ rfl rfl rfl b1 b1.size (by rw [List.length_replicate]; omega) ?_); intro v1 w1 ho1 hb1 hg1) | fail)
      go_roundw
      case rel => exact ⟨j + 1, by omega, by go_num, by rw [List.replicate_succ']; exact ho1, hb1⟩
      case measure => simp [intOf]; omega
    · have jl : ¬ (j : Int) ≤ n := by omega
      have ej : j = n + 1 := by omega
      subst ej
      obtain ⟨g, c2, ev, hg, hL⟩ := o1.lat (by omega)
      simp only [Value.slice.injEq, true_and] at ev
      obtain ⟨rfl, rfl⟩ := ev
      have hI : RAllIn wr k _ g (n + 1) ts ts dn0 := ⟨h.below b1, hG, hG, Ext.refl _, dn0_ok ts ts, hL, by omega, fun e => by have := hvl g e; omega⟩
      have hc := hF k _ g (n + 1) cv ts ts dn0 n wr hI (by omega) (by omega) hn (by omega) hl
      clear hF
      go_wp2_with fail
      refine hc.mono ?_
      rintro r w3 ⟨rfl, h3⟩
      go_wp2_with fail
      go_ret2
      refine ⟨rfl, ⟨h3.kept.os.trans b1.os, h3.kept.tape.trans b1.tape, h3.kept.output.trans b1.output, Nat.le_trans b1.size h3.kept.size, fun i hi hn => (h3.kept.block i (Nat.lt_of_lt_of_le hi b1.size) ⟨hn.1, hn.2, by omega⟩).trans (b1.block i hi)⟩, ?_⟩
      · obtain ⟨vl', hr', ho'⟩ := h3.out
        refine ⟨vl', hr', ?_⟩
        rcases ho' with ho' | ⟨q, ho', hq⟩
        · exact Or.inl ho'
        · exact Or.inr ⟨q, ho', Nat.le_trans b1.size hq⟩
end Go.Proofs.YtekleoccdockhaaDoor
