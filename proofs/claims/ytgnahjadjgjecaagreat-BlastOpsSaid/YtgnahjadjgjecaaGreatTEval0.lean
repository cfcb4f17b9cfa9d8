/- term: Eval, Vars, walked. -/
import Derived.Test.YtgnahjadjgjecaaGreatTNeed
set_option linter.unusedVariables false
set_option linter.unusedSimpArgs false
namespace Go.Proofs.YtgnahjadjgjecaaGreat
open Go.RowKit Go.Maps Go.MapKept

/-- What is known of the terms of a list. -/
def vf (ts : List Term) (x : Nat → Nat) (l : List Nat) : Nat → Option Value := fun i => if i ∈ l then some (.int .u32 (ev ts x i : Nat)) else none
theorem vf_mem {ts : List Term} {x : Nat → Nat} {l : List Nat} {i : Nat} (h : i ∈ l) : vf ts x l i = some (.int .u32 (ev ts x i : Nat)) := if_pos h
theorem vf_put (ts : List Term) (x : Nat → Nat) (l : List Nat) (k : Nat) : vf ts x (l ++ [k]) k = some (.int .u32 (ev ts x k : Nat)) ∧ ∀ y, y ≠ k → vf ts x (l ++ [k]) y = vf ts x l y :=
  ⟨vf_mem (by simp), fun y hy => by unfold vf; simp [hy]⟩
abbrev natE : Nat → Value := fun x => Value.int .i64 (x : Int)
theorem natE_ops {P : Program} {kt : TypeId} (hk : P.underlying kt = some (.int .i64)) : KeyOps P kt natE where
  inj h := by injection h with _ h; omega
  check w em x := (int_ops hk).check w em x
  stays w x := (int_ops hk).stays w x
  find w x es hes := (int_ops hk).find w x es fun e he => by obtain ⟨y, hy⟩ := hes e he; exact ⟨(y : Int), hy⟩
theorem zu32 (w : World) : (zeroValue 26).run Tryz.prog w = .ok (.int .u32 0) w := Tryz.zeroValue26 w
theorem quiet_map {w w' : World} {g : Nat} {f : Nat → Option Value} (h : MapAt natE w g f) (hg : w.grownBy w' (some g)) (T : List TypeId) : Quiet 0 T w w' := by
  obtain ⟨es, clock, hb, _⟩ := h
  exact Quiet.grown hg (Nat.zero_le _) hb (fun cur e fz h => by cases h)
theorem map_ne {w : World} {g k : Nat} {f : Nat → Option Value} {cs : Array Value} {t : TypeId} {fz : Nat × Nat} (h : MapAt natE w g f) (hk : w.heap[k]? = some (.cells cs t fz)) : k ≠ g := by
  obtain ⟨es, clock, hb, _⟩ := h
  rintro rfl
  rw [hb] at hk
  cases hk
set_option maxRecDepth 100000 in
theorem eval_no (K : Nat → Prop) (b : Nat) (n : Int) (ts : List Term) (x : Nat → Nat) (hl : ts.length < 1000000000000) (hn : inR n ts.length = false) (w : World) (h : DagAt K w b ts) :
    Calls Tryz.prog 25 #[.pointer (some ⟨b, 0, none⟩), .int .i64 n, .agg (regsV x)] w fun e w' => e = .returned (.tuple #[.int .u32 0, .int .i64 100]) ∧ Below w.heap.size w w' := by
  have b0 := (Below.refl w.heap.size w).alloc (Nat.le_refl _) (.cells (regsV x) 27)
  have hI := is_any K b n ts hl _ (h.below b0)
  rw [hn] at hI
  generalize regsV x = R at b0 hI ⊢
  go_enter Tryz.func25, Tryz.ntmps25
  go_wp2_with fail
  refine hI.mono ?_
  rintro r w1 ⟨rfl, rfl⟩
  go_wp2_with fail
  go_ret2
  exact ⟨rfl, b0⟩
set_option maxRecDepth 100000 in
set_option maxHeartbeats 4000000 in
theorem eval_any (K : Nat → Prop) (b n : Nat) (ts : List Term) (x : Nat → Nat) (hx : ∀ r, x r < 4294967296) (hl : ts.length < 100000000000) (hn : n < ts.length) (hG : Good ts) (w : World) (h : DagAt K w b ts) :
    Calls Tryz.prog 25 #[.pointer (some ⟨b, 0, none⟩), .int .i64 n, .agg (regsV x)] w fun e w' => e = .returned (.tuple #[.int .u32 (ev ts x n : Nat), .int .i64 0]) ∧ Below w.heap.size w w' := by
  have hmm := @run_makeMap Tryz.prog
  have b0 := (Below.refl w.heap.size w).alloc (Nat.le_refl _) (.cells (regsV x) 27)
  have hx0 := blk_new w (.cells (regsV x) 27)
  have hI := is_any K b n ts (by omega) _ (h.below b0)
  rw [inR_cast hn] at hI
  have hm0 := MapAt.made (ek := natE) (w.alloc (.cells (regsV x) 27))
  have b1 := below_alloc1 b0 (.map #[] 0)
  have hx1 := blk_alloc hx0 (.map #[] 0)
  have hNd := needed_any K b n ts hl hn hG _ (h.below b1)
  have hRg := fun (w : World) (g : Nat) (h : w.heap[g]? = some (.cells (regsV x) 27 (0, 0))) (r : Nat) (hr : r < 32) => regs_cell h hr
  generalize regsV x = R at b0 b1 hx0 hx1 hI hm0 hNd hRg ⊢
  go_enter Tryz.func25, Tryz.ntmps25
  go_wp2_with fail
  refine hI.mono ?_
  rintro r w1 ⟨rfl, rfl⟩
  go_wp2_with fail
  refine hNd.mono ?_
  rintro r w2 ⟨v, l, rfl, hL, ho, b2⟩
  have bw := below_then b1 b2
  have hx2 := blk_below hx1 b2
  have hm2 := hm0.below b2 (by simp)
  rw [show (w.alloc (.cells R 27)).heap.size = w.heap.size + 1 by simp] at hm2
  have hsz2 : w.heap.size + 2 ≤ w2.heap.size := by have := b2.size; simpa using this
  have ho2 := ho.lower (Nat.zero_le _)
  have hll := hL.len hG hn
  have hls := ho2.toSl 0
  obtain ⟨A, c, rfl, q1, q2, q3⟩ := hls.open_
  rw [List.length_map] at q1
  have hlen : (l.map fun (i : Nat) => (i : Int)).length = l.length := by simp
  rw [hlen] at ho2 ⊢
  have hm2' : MapAt natE w2 (w.heap.size + 1) (vf ts x (l.take 0)) := hm2
  clear hmm hI hm0 hNd b0 b1 hx0 hx1 hm2 ho b2 hls hlen
  go_wp2_with fail
  go_loopw [21] (fun i wr => ∃ j : Nat, j ≤ l.length ∧ i = .int .i64 j ∧ wr.heap[w.heap.size]? = some (.cells R 27 (0, 0)) ∧ MapAt natE wr (w.heap.size + 1) (vf ts x (l.take j)) ∧ Own 0 3 I64 wr (.slice A l.length c) (l.map fun (i : Nat) => (i : Int)) ∧ Below w.heap.size w wr) (fun i _ => l.length - (Go.RowKit.intOf i).toNat)
  case atStart => exact ⟨0, Nat.zero_le _, rfl, hx2, hm2', ho2, bw⟩
  case round =>
    clear bw hx2 hm2' ho2 hsz2
    obtain ⟨j, hj, rfl, hxr, hm, ho, hb⟩ := hrel
    by_cases hlt : j < l.length
    · have hlt' : (j : Int) < l.length := by omega
      have hk : l.getD j 0 ∈ l := getD_mem hlt 0
      have hkt := hL.lt hG hn hk
      have hah := hL.ahead hG hn hlt
      have hsn := take_snoc hlt 0
      obtain ⟨sb, so, u, rfl, hsc, hu⟩ := (ho.toSl 0).at_ (k := j) (by simpa using hlt) 0
      obtain ⟨rfl, _⟩ := hu
      rw [show (l.map fun (i : Nat) => (i : Int)).getD j 0 = ((l.getD j 0 : Nat) : Int) by simp [List.getD, hlt]] at hsc
      obtain ⟨k, hkk⟩ : ∃ k, l.getD j 0 = k := ⟨_, rfl⟩
      rw [hkk] at hk hkt hah hsn hsc
      obtain ⟨vl, hvc, hvl⟩ := (h.below hb).list
      obtain ⟨A2, c2, rfl, p1, p2, p3⟩ := hvl.open_
      obtain ⟨bb, off, rfl, hat, hbl⟩ := hvl.at_ hkt
      rw [show ts[k] = ts.getD k default by simp [List.getD, hkt]] at hat
      have hgk := hG.at_ hkt default
      have hpa : (ts.getD k default).k = 2 → (ts.getD k default).a < k ∧ (ts.getD k default).b < k ∧ (doW (ts.getD k default).op 0 0).isSome = true ∧ ts.getD k default = opT (ts.getD k default).op (ts.getD k default).a (ts.getD k default).b := fun h2 => ⟨(hG.op_at hkt h2).2.1, (hG.op_at hkt h2).2.2.1, (hG.op_at hkt h2).1, (hG.op_at hkt h2).2.2.2⟩
      obtain ⟨t, ht⟩ : ∃ t, ts.getD k default = t := ⟨_, rfl⟩
      rw [ht] at hat hgk hah hpa
      have d0 : wr.cell? ⟨bb, off + k * 5, none⟩ = some (.int .i64 t.k) := hat 0 _ rfl
      have d1 := hat 1 _ rfl
      have d2 := hat 2 _ rfl
      have d3 := hat 3 _ rfl
      have d4 := hat 4 _ rfl
      have gx : (k : Int) < ts.length := by omega
      have hmA := hm.alloc (.cells #[.int .i64 t.k, .int .u32 t.v, .int .i64 t.op, .int .i64 t.a, .int .i64 t.b] 112)
      have hxA := blk_alloc hxr (.cells #[.int .i64 t.k, .int .u32 t.v, .int .i64 t.op, .int .i64 t.a, .int .i64 t.b] 112)
      have hoA := ho.move (stable_i64 _ [3]) (Quiet.below ((Below.refl wr.heap.size wr).alloc (Nat.le_refl _) (.cells #[.int .i64 t.k, .int .u32 t.v, .int .i64 t.op, .int .i64 t.a, .int .i64 t.b] 112))) (by simp)
      have bA := hb.alloc hb.size (.cells #[.int .i64 t.k, .int .u32 t.v, .int .i64 t.op, .int .i64 t.a, .int .i64 t.b] 112)
      obtain ⟨z0, z1, z2, z3, z4⟩ := five_cells (blk_new wr (.cells #[.int .i64 t.k, .int .u32 t.v, .int .i64 t.op, .int .i64 t.a, .int .i64 t.b] 112))
      have HT := Lib.hid ht
      have HL := Lib.hid hsn
      clear hat ht hsn hm hxr ho hb hvl
      have fin : ∀ w9, (∀ g : Nat → Option Value, g k = some (.int .u32 (ev ts x k : Nat)) → (∀ y, y ≠ k → g y = vf ts x (l.take j) y) → MapAt natE w9 (w.heap.size + 1) g) → (wr.alloc (.cells #[.int .i64 t.k, .int .u32 t.v, .int .i64 t.op, .int .i64 t.a, .int .i64 t.b] 112)).grownBy w9 (some (w.heap.size + 1)) →
          w9.heap[w.heap.size]? = some (.cells R 27 (0, 0)) ∧ MapAt natE w9 (w.heap.size + 1) (vf ts x (l.take (j + 1))) ∧ Own 0 3 I64 w9 (.slice (some ⟨sb, so, none⟩) l.length c) (l.map fun (i : Nat) => (i : Int)) ∧ Below w.heap.size w w9 := fun w9 hgen hgr => by
        refine ⟨(hgr.block _ (Array.getElem?_eq_some_iff.1 hxA).1 (by intro e; injection e with e; omega)).trans hxA, ?_, hoA.move (stable_i64 _ [3]) (quiet_map hmA hgr _) (by simp), bA.grown hgr bA.size (fun k e => by cases e; omega)⟩
        rw [HL.out]
        exact hgen _ (vf_put ts x (l.take j) k).1 (vf_put ts x (l.take j) k).2
      by_cases hk0 : t.k = 0
      · have hk0' : ((t.k : Int) == 0) = true := by rw [hk0]; rfl
        have hev : ev ts x k = t.v := by
          rw [ev_step hkt, HT.out]; unfold evT; rw [if_pos hk0]
        rw [hev] at fin
        obtain ⟨w9, hrun, hgen, hgr⟩ := hmA.store (natE_ops Tryz.underlying3) Tryz.underlying115 k (.int .u32 (t.v : Nat))
        simp only [natE] at hrun
        have hf := fin w9 hgen hgr
        clear fin hgen hk0 hev hgk hah hpa
        go_wp2_with fail
        go_roundw
        case rel => exact ⟨j + 1, by omega, by go_num, hf⟩
        case measure => simp [Go.RowKit.intOf]; omega
      have hk0' : ((t.k : Int) == 0) = false := by rw [beq_eq_false_iff_ne]; omega
      by_cases hk1 : t.k = 1
      · have hk1' : ((t.k : Int) == 1) = true := by rw [hk1]; rfl
        have hr32 : t.v < 32 := by
          rcases hgk with ⟨v, hv, e⟩ | ⟨r, _, hr, e⟩ | ⟨op, a, b, _, _, _, e⟩ <;> rw [e] at hk1 ⊢
          · cases hk1
          · exact hr
          · cases hk1
        have hr32' : (t.v : Int) < 32 := by omega
        have hrc := hRg _ _ hxA t.v hr32
        have hev : ev ts x k = x t.v := by
          rw [ev_step hkt, HT.out]; unfold evT; rw [if_neg hk0, if_pos hk1]
        rw [hev] at fin
        obtain ⟨w9, hrun, hgen, hgr⟩ := hmA.store (natE_ops Tryz.underlying3) Tryz.underlying115 k (.int .u32 (x t.v : Nat))
        simp only [natE] at hrun
        have hf := fin w9 hgen hgr
        clear fin hgen hk1 hev hgk hah hpa
        go_wp2_with fail
        go_roundw
        case rel => exact ⟨j + 1, by omega, by go_num, hf⟩
        case measure => simp [Go.RowKit.intOf]; omega
      have hk1' : ((t.k : Int) == 1) = false := by rw [beq_eq_false_iff_ne]; omega
      have hk2 : t.k = 2 := by
        rcases hgk with ⟨v, hv, e⟩ | ⟨r, _, hr, e⟩ | ⟨op, a, b, _, _, _, e⟩ <;> rw [e] at hk0 hk1 ⊢
        · exact absurd rfl hk0
        · exact absurd rfl hk1
        · rfl
      obtain ⟨la, lb, hop, hto⟩ := hpa hk2
      obtain ⟨ma, mb⟩ := hah hk2
      have hev : ev ts x k = (doW t.op (ev ts x t.a) (ev ts x t.b)).getD 0 := ev_op hkt (by rw [HT.out]; exact hto) la lb
      rw [hev] at fin
      have lka := hmA.look (natE_ops Tryz.underlying3) Tryz.underlying115 (zu32 _) t.a false
      have lkb := hmA.look (natE_ops Tryz.underlying3) Tryz.underlying115 (zu32 _) t.b false
      rw [vf_mem ma] at lka
      rw [vf_mem mb] at lkb
      simp only [natE, Bool.false_eq_true, if_false, Option.getD_some] at lka lkb
      have hDo := do_any t.op hop (ev ts x t.a) (ev ts x t.b) (ev_lt hG hx _ (by omega)) (ev_lt hG hx _ (by omega)) (wr.alloc (.cells #[.int .i64 t.k, .int .u32 t.v, .int .i64 t.op, .int .i64 t.a, .int .i64 t.b] 112))
      generalize (doW t.op (ev ts x t.a) (ev ts x t.b)).getD 0 = u at hDo fin
      generalize ev ts x t.a = ua at hDo lka
      generalize ev ts x t.b = ub at hDo lkb
      obtain ⟨w9, hrun, hgen, hgr⟩ := hmA.store (natE_ops Tryz.underlying3) Tryz.underlying115 k (.int .u32 (u : Nat))
      simp only [natE] at hrun
      have hf := fin w9 hgen hgr
      clear fin hgen hev hk2 hgk hah hpa hto la lb ma mb
      go_wp2_with fail
      refine hDo.mono ?_
      rintro r w8 ⟨rfl, rfl⟩
      go_wp2_with fail
      go_roundw
      case rel => exact ⟨j + 1, by omega, by go_num, hf⟩
      case measure => simp [Go.RowKit.intOf]; omega
    · have hlt' : ¬ (j : Int) < l.length := by omega
      have hjl : l.take j = l := List.take_of_length_le (by omega)
      rw [hjl] at hm
      have hlook := hm.look (natE_ops Tryz.underlying3) Tryz.underlying115 (zu32 wr) n false
      rw [vf_mem hL.self] at hlook
      simp only [natE, Bool.false_eq_true, if_false, Option.getD_some] at hlook
      go_wp2_with fail
      go_ret2
      exact ⟨rfl, hb⟩
end Go.Proofs.YtgnahjadjgjecaaGreat
