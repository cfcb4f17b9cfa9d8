/- blast: sum. -/
import Derived.Test.YtgnahjadjgjecaaBArr
import Derived.Test.YtgnahjadjgjecaaBVal
set_option linter.unusedVariables false
set_option linter.unusedSimpArgs false
namespace Go.Proofs.Ytgnahjadjgjecaa
open Go.RowKit Go.Maps Go.MapKept

theorem results_pair {P : Program} {fn : Func} {p q : Tmp} {ty : TypeId} (h : fn.results = #[.cell p ty, .tmp q]) (tmps : Array Value) (w : World) (g : Nat) (t : TypeId) (cs : Array Value) (fr : Nat × Nat) (d : TypeDesc) (v : Value)
    (hp : tmps.getD p undef = .pointer (some ⟨g, 0, none⟩)) (hq : tmps.getD q undef = v) (hg : w.heap[g]? = some (.cells cs t fr))
    (hu : P.underlying ty = some d) (hd : (match d with | .struct _ | .array _ _ => true | _ => false) = true) (hi : (P.info? ty).map (·.size) = some cs.size) :
    (results fn tmps).run P w = .ok (.tuple #[.agg cs, v]) w := by
  have hp' : tmps[p]?.getD undef = .pointer (some ⟨g, 0, none⟩) := by simpa using hp
  have hq' : tmps[q]?.getD undef = v := by simpa using hq
  simp [results, h, hp', hq', asAddr, run_loadVar_row w g t ty cs fr d hg hu hd hi]
theorem sumO_step (f : Nat → Int) (j : Nat) (m : Int) (r : Nat) : setZ (fun r => if r < j then f r else 0) j m r = if r < j + 1 then (if r = j then m else f r) else 0 := by
  unfold setZ
  by_cases h1 : r = j
  · subst h1; simp
  · by_cases h2 : r < j
    · simp [h1, h2]; omega
    · simp [h1, h2]; omega
/-- What a sum answers. -/
def SumPost (K : Nat → Prop) (w : World) (q : Nat) (s : SumS) (r : Ending) (w' : World) : Prop :=
  r = .returned (.tuple #[.agg (zV s.2.1), .int .i64 s.2.2]) ∧ QS K w' q s.1 ∧ Kept K w w'
set_option maxRecDepth 100000 in
set_option maxHeartbeats 4000000 in
theorem sum_any (K : Nat → Prop) (q : Nat) (gs : List Gate) (hG : GGood gs) (a b : Nat → Int) (c : Int) (hc : c = 1 ∨ c = -1) (ha : Lits gs a) (hb : Lits gs b) (hl : gs.length < 199000) (w : World) (h : QS K w q gs) :
    Calls Try.prog 46 #[.pointer (some ⟨q, 0, none⟩), .agg (zV a), .agg (zV b), .int .i64 c] w (SumPost K w q (sumF a b gs c 32)) := by
  obtain ⟨A, B, cv, hok⟩ := sum_some hG ha hb hc
  have b1 := (Below.refl w.heap.size w).alloc (Nat.le_refl _) (.cells (zV a) 60)
  have b2 := b1.alloc (by simp) (.cells (zV b) 60)
  have b3 := b2.alloc (by simp; omega) (.cells #[.int .i64 0, .int .i64 0, .int .i64 0, .int .i64 0, .int .i64 0, .int .i64 0, .int .i64 0, .int .i64 0, .int .i64 0, .int .i64 0, .int .i64 0, .int .i64 0, .int .i64 0, .int .i64 0, .int .i64 0, .int .i64 0, .int .i64 0, .int .i64 0, .int .i64 0, .int .i64 0, .int .i64 0, .int .i64 0, .int .i64 0, .int .i64 0, .int .i64 0, .int .i64 0, .int .i64 0, .int .i64 0, .int .i64 0, .int .i64 0, .int .i64 0, .int .i64 0] 60)
  have b4 := b3.alloc (by simp; omega) (.cells #[.int .i64 0, .int .i64 0, .int .i64 0, .int .i64 0, .int .i64 0, .int .i64 0, .int .i64 0, .int .i64 0, .int .i64 0, .int .i64 0, .int .i64 0, .int .i64 0, .int .i64 0, .int .i64 0, .int .i64 0, .int .i64 0, .int .i64 0, .int .i64 0, .int .i64 0, .int .i64 0, .int .i64 0, .int .i64 0, .int .i64 0, .int .i64 0, .int .i64 0, .int .i64 0, .int .i64 0, .int .i64 0, .int .i64 0, .int .i64 0, .int .i64 0, .int .i64 0] 60)
  have hz0 := blk_new w (.cells (zV a) 60)
  have hz1 := blk_new (w.alloc (.cells (zV a) 60)) (.cells (zV b) 60)
  have hz2 := blk_new ((w.alloc (.cells (zV a) 60)).alloc (.cells (zV b) 60)) (.cells #[.int .i64 0, .int .i64 0, .int .i64 0, .int .i64 0, .int .i64 0, .int .i64 0, .int .i64 0, .int .i64 0, .int .i64 0, .int .i64 0, .int .i64 0, .int .i64 0, .int .i64 0, .int .i64 0, .int .i64 0, .int .i64 0, .int .i64 0, .int .i64 0, .int .i64 0, .int .i64 0, .int .i64 0, .int .i64 0, .int .i64 0, .int .i64 0, .int .i64 0, .int .i64 0, .int .i64 0, .int .i64 0, .int .i64 0, .int .i64 0, .int .i64 0, .int .i64 0] 60)
  have hz3 := blk_new (((w.alloc (.cells (zV a) 60)).alloc (.cells (zV b) 60)).alloc (.cells #[.int .i64 0, .int .i64 0, .int .i64 0, .int .i64 0, .int .i64 0, .int .i64 0, .int .i64 0, .int .i64 0, .int .i64 0, .int .i64 0, .int .i64 0, .int .i64 0, .int .i64 0, .int .i64 0, .int .i64 0, .int .i64 0, .int .i64 0, .int .i64 0, .int .i64 0, .int .i64 0, .int .i64 0, .int .i64 0, .int .i64 0, .int .i64 0, .int .i64 0, .int .i64 0, .int .i64 0, .int .i64 0, .int .i64 0, .int .i64 0, .int .i64 0, .int .i64 0] 60)) (.cells #[.int .i64 0, .int .i64 0, .int .i64 0, .int .i64 0, .int .i64 0, .int .i64 0, .int .i64 0, .int .i64 0, .int .i64 0, .int .i64 0, .int .i64 0, .int .i64 0, .int .i64 0, .int .i64 0, .int .i64 0, .int .i64 0, .int .i64 0, .int .i64 0, .int .i64 0, .int .i64 0, .int .i64 0, .int .i64 0, .int .i64 0, .int .i64 0, .int .i64 0, .int .i64 0, .int .i64 0, .int .i64 0, .int .i64 0, .int .i64 0, .int .i64 0, .int .i64 0] 60)
  have hsz1 : (w.alloc (.cells (zV a) 60)).heap.size = w.heap.size + 1 := by simp
  have hsz2 : ((w.alloc (.cells (zV a) 60)).alloc (.cells (zV b) 60)).heap.size = w.heap.size + 2 := by simp
  have hsz3 : (((w.alloc (.cells (zV a) 60)).alloc (.cells (zV b) 60)).alloc (.cells #[.int .i64 0, .int .i64 0, .int .i64 0, .int .i64 0, .int .i64 0, .int .i64 0, .int .i64 0, .int .i64 0, .int .i64 0, .int .i64 0, .int .i64 0, .int .i64 0, .int .i64 0, .int .i64 0, .int .i64 0, .int .i64 0, .int .i64 0, .int .i64 0, .int .i64 0, .int .i64 0, .int .i64 0, .int .i64 0, .int .i64 0, .int .i64 0, .int .i64 0, .int .i64 0, .int .i64 0, .int .i64 0, .int .i64 0, .int .i64 0, .int .i64 0, .int .i64 0] 60)).heap.size = w.heap.size + 3 := by simp
  have hsz4 : ((((w.alloc (.cells (zV a) 60)).alloc (.cells (zV b) 60)).alloc (.cells #[.int .i64 0, .int .i64 0, .int .i64 0, .int .i64 0, .int .i64 0, .int .i64 0, .int .i64 0, .int .i64 0, .int .i64 0, .int .i64 0, .int .i64 0, .int .i64 0, .int .i64 0, .int .i64 0, .int .i64 0, .int .i64 0, .int .i64 0, .int .i64 0, .int .i64 0, .int .i64 0, .int .i64 0, .int .i64 0, .int .i64 0, .int .i64 0, .int .i64 0, .int .i64 0, .int .i64 0, .int .i64 0, .int .i64 0, .int .i64 0, .int .i64 0, .int .i64 0] 60)).alloc (.cells #[.int .i64 0, .int .i64 0, .int .i64 0, .int .i64 0, .int .i64 0, .int .i64 0, .int .i64 0, .int .i64 0, .int .i64 0, .int .i64 0, .int .i64 0, .int .i64 0, .int .i64 0, .int .i64 0, .int .i64 0, .int .i64 0, .int .i64 0, .int .i64 0, .int .i64 0, .int .i64 0, .int .i64 0, .int .i64 0, .int .i64 0, .int .i64 0, .int .i64 0, .int .i64 0, .int .i64 0, .int .i64 0, .int .i64 0, .int .i64 0, .int .i64 0, .int .i64 0] 60)).heap.size = w.heap.size + 4 := by simp
  have hz0 := blk_alloc (blk_alloc (blk_alloc hz0 (.cells (zV b) 60)) (.cells #[.int .i64 0, .int .i64 0, .int .i64 0, .int .i64 0, .int .i64 0, .int .i64 0, .int .i64 0, .int .i64 0, .int .i64 0, .int .i64 0, .int .i64 0, .int .i64 0, .int .i64 0, .int .i64 0, .int .i64 0, .int .i64 0, .int .i64 0, .int .i64 0, .int .i64 0, .int .i64 0, .int .i64 0, .int .i64 0, .int .i64 0, .int .i64 0, .int .i64 0, .int .i64 0, .int .i64 0, .int .i64 0, .int .i64 0, .int .i64 0, .int .i64 0, .int .i64 0] 60)) (.cells #[.int .i64 0, .int .i64 0, .int .i64 0, .int .i64 0, .int .i64 0, .int .i64 0, .int .i64 0, .int .i64 0, .int .i64 0, .int .i64 0, .int .i64 0, .int .i64 0, .int .i64 0, .int .i64 0, .int .i64 0, .int .i64 0, .int .i64 0, .int .i64 0, .int .i64 0, .int .i64 0, .int .i64 0, .int .i64 0, .int .i64 0, .int .i64 0, .int .i64 0, .int .i64 0, .int .i64 0, .int .i64 0, .int .i64 0, .int .i64 0, .int .i64 0, .int .i64 0] 60)
  have hz1 := blk_alloc (blk_alloc hz1 (.cells #[.int .i64 0, .int .i64 0, .int .i64 0, .int .i64 0, .int .i64 0, .int .i64 0, .int .i64 0, .int .i64 0, .int .i64 0, .int .i64 0, .int .i64 0, .int .i64 0, .int .i64 0, .int .i64 0, .int .i64 0, .int .i64 0, .int .i64 0, .int .i64 0, .int .i64 0, .int .i64 0, .int .i64 0, .int .i64 0, .int .i64 0, .int .i64 0, .int .i64 0, .int .i64 0, .int .i64 0, .int .i64 0, .int .i64 0, .int .i64 0, .int .i64 0, .int .i64 0] 60)) (.cells #[.int .i64 0, .int .i64 0, .int .i64 0, .int .i64 0, .int .i64 0, .int .i64 0, .int .i64 0, .int .i64 0, .int .i64 0, .int .i64 0, .int .i64 0, .int .i64 0, .int .i64 0, .int .i64 0, .int .i64 0, .int .i64 0, .int .i64 0, .int .i64 0, .int .i64 0, .int .i64 0, .int .i64 0, .int .i64 0, .int .i64 0, .int .i64 0, .int .i64 0, .int .i64 0, .int .i64 0, .int .i64 0, .int .i64 0, .int .i64 0, .int .i64 0, .int .i64 0] 60)
  have hz2 := blk_alloc hz2 (.cells #[.int .i64 0, .int .i64 0, .int .i64 0, .int .i64 0, .int .i64 0, .int .i64 0, .int .i64 0, .int .i64 0, .int .i64 0, .int .i64 0, .int .i64 0, .int .i64 0, .int .i64 0, .int .i64 0, .int .i64 0, .int .i64 0, .int .i64 0, .int .i64 0, .int .i64 0, .int .i64 0, .int .i64 0, .int .i64 0, .int .i64 0, .int .i64 0, .int .i64 0, .int .i64 0, .int .i64 0, .int .i64 0, .int .i64 0, .int .i64 0, .int .i64 0, .int .i64 0] 60)
  rw [hsz1] at hz1
  rw [hsz2] at hz2
  rw [hsz3] at hz3
  have hQ : QS (More K w ((((w.alloc (.cells (zV a) 60)).alloc (.cells (zV b) 60)).alloc (.cells #[.int .i64 0, .int .i64 0, .int .i64 0, .int .i64 0, .int .i64 0, .int .i64 0, .int .i64 0, .int .i64 0, .int .i64 0, .int .i64 0, .int .i64 0, .int .i64 0, .int .i64 0, .int .i64 0, .int .i64 0, .int .i64 0, .int .i64 0, .int .i64 0, .int .i64 0, .int .i64 0, .int .i64 0, .int .i64 0, .int .i64 0, .int .i64 0, .int .i64 0, .int .i64 0, .int .i64 0, .int .i64 0, .int .i64 0, .int .i64 0, .int .i64 0, .int .i64 0] 60)).alloc (.cells #[.int .i64 0, .int .i64 0, .int .i64 0, .int .i64 0, .int .i64 0, .int .i64 0, .int .i64 0, .int .i64 0, .int .i64 0, .int .i64 0, .int .i64 0, .int .i64 0, .int .i64 0, .int .i64 0, .int .i64 0, .int .i64 0, .int .i64 0, .int .i64 0, .int .i64 0, .int .i64 0, .int .i64 0, .int .i64 0, .int .i64 0, .int .i64 0, .int .i64 0, .int .i64 0, .int .i64 0, .int .i64 0, .int .i64 0, .int .i64 0, .int .i64 0, .int .i64 0] 60))) _ q gs := QAt.more h b4
  rw [zero_zV] at *
  generalize hw4 : ((((w.alloc (.cells (zV a) 60)).alloc (.cells (zV b) 60)).alloc (.cells (zV fun _ => 0) 60)).alloc (.cells (zV fun _ => 0) 60)) = w4 at *
  have hk0 : ∀ j, j < 4 → More K w w4 (w.heap.size + j) := fun j hj => Or.inr ⟨Nat.le_add_right _ _, by omega⟩
  have kk : ∀ i, K i → More K w w4 i := fun i hi => Or.inl hi
  have hk4 : Kept K w w4 := Kept.below b4
  generalize More K w w4 = K1 at *
  have k0 := hk0 0 (by omega)
  have k1 := hk0 1 (by omega)
  have k2 := hk0 2 (by omega)
  have k3 := hk0 3 (by omega)
  rw [Nat.add_zero] at k0
  have hKin : ∀ i, K i → i < w.heap.size := QAt.in_ h
  clear hk0 b1 b2 b3 b4 hsz1 hsz2 hsz3 h
  subst hw4
  go_enter Try.func46, Try.ntmps46
  go_wp2_with fail
  rw [zero_zV] at *
  generalize hw4 : ((((w.alloc (.cells (zV a) 60)).alloc (.cells (zV b) 60)).alloc (.cells (zV fun _ => 0) 60)).alloc (.cells (zV fun _ => 0) 60)) = w4 at *
  clear hw4
  go_loopw [3, 11, 12, 13] (fun cc _ _ i wr => ∃ j : Nat, j ≤ 32 ∧ i = .int .i64 j ∧ cc = .int .i64 (sumF a b gs c j).2.2 ∧ ZAt 60 wr (w.heap.size + 3) (fun r => if r < j then (sumF a b gs c j).2.1 r else 0) ∧ ZAt 60 wr w.heap.size a ∧ ZAt 60 wr (w.heap.size + 1) b ∧ ZAt 60 wr (w.heap.size + 2) (fun _ => 0) ∧ QS K1 wr q (sumF a b gs c j).1 ∧ Kept K w wr) (fun _ _ _ i _ => 32 - (intOf i).toNat)
  case atStart => exact ⟨0, by omega, rfl, rfl, hz3, hz0, hz1, hz2, hQ, hk4⟩
  case round =>
    clear hz0 hz1 hz2 hz3 hQ hk4
    obtain ⟨j, hj, rfl, rfl, hO, hA, hB, hR, hQ, hk⟩ := hrel
    by_cases hlt : j < 32
    · have hlt' : (j : Int) < 32 := by omega
      have o1 := hok j hj
      have hstep : sumF a b gs c (j + 1) = sum1 (sumF a b gs c j) j (a j) (b j) := rfl
      generalize sumF a b gs c j = F at o1 hstep hO hQ ⊢
      obtain ⟨e1, g1, l1, lc, n1, _, _, _⟩ := o1
      have la := (ha j hlt).mono (m := F.1.length + 1) (by have := e1.len; omega)
      have lb := (hb j hlt).mono (m := F.1.length + 1) (by have := e1.len; omega)
      clear l1
      unfold sum1 at hstep
      dsimp only at hstep
      have mx := made_xor g1 la lb
      have cx := fun w h => xor_any K1 q F.1 (a j) (b j) la lb (by omega) w h
      generalize xorG F.1 (a j) (b j) = x at mx cx hstep
      have nx := mx.ext.len
      have nx' := mx.len
      have mo := made_xor mx.good mx.lit (lc.mono (m := x.1.length + 1) (by omega))
      have co := fun w h => xor_any K1 q x.1 x.2 F.2.2 mx.lit (lc.mono (by omega)) (by omega) w h
      generalize xorG x.1 x.2 F.2.2 = o at mo co hstep
      have no := mo.ext.len
      have no' := mo.len
      have mp := made_and mo.good (la.mono (m := o.1.length + 1) (by omega)) (lb.mono (m := o.1.length + 1) (by omega))
      have cp := fun w h => and_any K1 q o.1 (a j) (b j) (la.mono (by omega)) (lb.mono (by omega)) (by omega) w h
      generalize andG o.1 (a j) (b j) = p at mp cp hstep
      have np := mp.ext.len
      have np' := mp.len
      have mq := made_and mp.good (lc.mono (m := p.1.length + 1) (by omega)) (mx.lit.mono (m := p.1.length + 1) (by omega))
      have cq := fun w h => and_any K1 q p.1 F.2.2 x.2 (lc.mono (by omega)) (mx.lit.mono (by omega)) (by omega) w h
      generalize andG p.1 F.2.2 x.2 = u at mq cq hstep
      have nq := mq.ext.len
      have nq' := mq.len
      have cr := fun w h => or_any K1 q u.1 p.2 u.2 (mp.lit.mono (by omega)) mq.lit (by omega) w h
      generalize orG u.1 p.2 u.2 = v at cr hstep
      clear mx mo mp mq nx nx' no no' np np' nq nq' la lb lc g1 e1 n1
      have HS := Lib.hid hstep
      clear hstep
      have da := hA.cell (i := j) hlt
      have db := hB.cell (i := j) hlt
      have bd : Below wr.heap.size wr wr.drew := below_drewN (Below.refl _ _) 1
      have hQd := QAt.below hQ bd
      have hAd := hA.below bd
      have hBd := hB.below bd
      have hOd := hO.below bd
      have hRd := hR.below bd
      have hkd := hk.trans (Kept.below bd)
      have cx' := cx wr.drew hQd
      go_wp2_with fail
      go_region_law (go_simp; go_at_call 14; refine cx'.mono ?_; rintro r w1 ⟨rfl, hQ1, kx⟩)
      all_goals (
        have hA1 := hAd.kept kx k0
        have hB1 := hBd.kept kx k1
        have hO1 := hOd.kept kx k3
        have hR1 := hRd.kept kx k2
        have hk1 := hkd.trans (kx.mono kk)
        have co' := co w1 hQ1
        clear hQd hAd hBd hOd hRd hkd bd cx cx' kx hQ hA hB hO hR hk da db co
        go_wp2_with fail
        refine co'.mono ?_
        rintro r w2 ⟨rfl, hQ2, kx⟩
        have hA2 := hA1.kept kx k0
        have hB2 := hB1.kept kx k1
        have hO2 := hO1.kept kx k3
        have hR2 := hR1.kept kx k2
        have hk2 := hk1.trans (kx.mono kk)
        have hf := hO2.fro j
        have ho := hO2.cell (i := j) hlt
        clear hQ1 hA1 hB1 hO1 hR1 hk1 kx co'
        have ks := qset w2 (w.heap.size + 3) j (.int .i64 o.2)
        have hA3 := hA2.set_other (n := j) (v := .int .i64 o.2) (show w.heap.size ≠ w.heap.size + 3 by omega)
        have hB3 := hB2.set_other (n := j) (v := .int .i64 o.2) (show w.heap.size + 1 ≠ w.heap.size + 3 by omega)
        have hR3 := hR2.set_other (n := j) (v := .int .i64 o.2) (show w.heap.size + 2 ≠ w.heap.size + 3 by omega)
        have hO3 := hO2.set j o.2
        have hQ3 := QAt.moved hQ2 ks k3
        have hk3 : Kept K w (w2.setCell ⟨w.heap.size + 3, j, none⟩ (.int .i64 o.2)) := hk2.trans (ks.mono fun i hi => by have := hKin i hi; show i ≠ w.heap.size + 3; omega)
        clear hA2 hB2 hR2 hO2 hQ2 hk2 ks
        go_wp2_with fail
        generalize w2.setCell ⟨w.heap.size + 3, j, none⟩ (.int .i64 o.2) = w3 at *
        have bd : Below w3.heap.size w3 w3.drew := below_drewN (Below.refl _ _) 1
        have hQd := QAt.below hQ3 bd
        have hAd := hA3.below bd
        have hBd := hB3.below bd
        have hOd := hO3.below bd
        have hRd := hR3.below bd
        have hkd := hk3.trans (Kept.below bd)
        have da := hA3.cell (i := j) hlt
        have db := hB3.cell (i := j) hlt
        have cp' := cp w3.drew hQd
        clear hf ho hA3 hB3 hO3 hR3 hk3 hQ3 cp
        go_region_law (first
          | (go_simp; go_at_call_of 49 (Value.int .i64 (a j)); refine cp'.mono ?_; rintro r w4 ⟨rfl, hQ4, k4⟩; have cq' := cq _ hQ4)
          | (go_simp; go_at_call_of 49 (Value.int .i64 x.2); refine cq'.mono ?_; rintro r w5 ⟨rfl, hQ5, k5⟩; have cr' := cr _ hQ5)
          | (go_simp; go_at_call 50; refine cr'.mono ?_; rintro r w6 ⟨rfl, hQ6, k6⟩))
        all_goals (
          have kt := (k4.trans k5).trans k6
          have hA4 := hAd.kept kt k0
          have hB4 := hBd.kept kt k1
          have hO4 := hOd.kept kt k3
          have hR4 := hRd.kept kt k2
          have hk4 := hkd.trans (kt.mono kk)
          clear hAd hBd hOd hRd hkd bd hQd da db cp' cq cq' cr cr' k4 k5 k6 kt hQ4 hQ5
          go_wp2_with fail
          go_roundw
          case rel => exact ⟨j + 1, by omega, by go_num, by rw [HS.out], hO4.ext fun r _ => by rw [HS.out]; exact sumO_step _ _ _ _, hA4, hB4, hR4, by rw [HS.out]; exact hQ6, hk4⟩
          case measure => simp [intOf]; omega))
    · have hlt' : ¬ (j : Int) < 32 := by omega
      obtain rfl : j = 32 := by omega
      clear hok
      have hO := hO.ext (z := (sumF a b gs c 32).2.1) fun r hr => if_pos hr
      generalize sumF a b gs c 32 = F at *
      go_wp2_with (first | (refine wpList_load_row rfl 60 (.tmp 10) rfl (w.heap.size + 3) rfl 60 (zV F.2.1) (0, 0) _ hO Try.underlying60 rfl (by rw [zV_size]; exact info_bits) ?_) | (refine wpList_store_row rfl 60 (.tmp 8) (.tmp 45) rfl (w.heap.size + 2) (zV F.2.1) rfl rfl 60 _ hR (by rw [zV_size]; exact info_bits) (by rw [zV_size, zV_size]) (one_zV _) ?_) | fail)
      exact bodyPost_ret (results_pair rfl _ _ (w.heap.size + 2) 60 (zV F.2.1) (0, 0) _ _ rfl rfl (setRow_heap _ _ _ _ _ _ hR) Try.underlying60 rfl (by rw [zV_size]; exact info_bits)) rfl ⟨rfl, QAt.mono (QAt.moved hQ (row_kept _ _ _) k2) kk, hk.trans ((row_kept _ _ _).mono fun i hi => by have := hKin i hi; show i ≠ w.heap.size + 2; omega)⟩
end Go.Proofs.Ytgnahjadjgjecaa
