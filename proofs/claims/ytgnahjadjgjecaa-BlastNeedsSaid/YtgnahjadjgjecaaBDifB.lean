/- blast: Differ: the closure that waits, and what is refused. -/
/- blast: Differ: the query. -/
import Derived.Test.YtgnahjadjgjecaaBPairs
import Derived.Laws.Pointers
import Derived.Defers
import Derived.Deep.MidRow
import Derived.Deep.CutRange
import Derived.Deep.RegionHeld3
set_option linter.unusedVariables false
set_option linter.unusedSimpArgs false
namespace Go.Proofs.Ytgnahjadjgjecaa
open Go.RowKit Go.Maps Go.MapKept

theorem closure_idle (p q : Addr) (w : World) :
    CallsD Try.prog 11 #[.pointer (some p), .pointer (some q)] .returning w fun r u' w' => r = .returned (.tuple #[]) ∧ u' = .returning ∧ w' = w := by
  refine callsD_of_wpS Try.func11 rfl fun c₀ cs hu => ?_
  rw [show (#[Value.pointer (some p), Value.pointer (some q)] ++ Array.replicate (Try.f11.ntmps - #[Value.pointer (some p), Value.pointer (some q)].size) undef) = #[.pointer (some p), .pointer (some q), undef, undef, undef, undef, undef, undef, undef, undef, undef, undef, undef, undef, undef, undef, undef, undef] by rw [Try.ntmps11]; rfl]
  apply wpS_seq
  apply wpS_region
  simp [wpOpsS, go_sem, recoverD, hu, Try.ntmps11, Exit.thenS]
  refine wpS_of_wp ?_
  go_wp2
  cases c₀
  simp_all [bodyPostS, results, Try.results11]
/-- The world in which the query lies, new. -/
def differW (w : World) (b : Nat) : World :=
  (((((w.alloc (.cells #[.pointer none] 32)).alloc (.cells #[.int .i64 0] 33)).alloc (.map #[] 0)).alloc (.cells #[.int .i64 1, .slice none 0 0, .slice none 0 0, .map (some (w.heap.size + 1 + 1))] 50)).alloc (.map #[] 0)).alloc
    (.cells #[.pointer (some ⟨b, 0, none⟩), .pointer (some ⟨w.heap.size + 1 + 1 + 1, 0, none⟩), .map (some (w.heap.size + 1 + 1 + 1 + 1))] 53)
structure DifW (w : World) (b : Nat) (W : World) : Prop where mk_ ::
  below : Below w.heap.size w W
  size : W.heap.size = w.heap.size + 6
  res : W.heap[w.heap.size]? = some (.cells #[.pointer none] 32 (0, 0))
  err : W.heap[w.heap.size + 1]? = some (.cells #[.int .i64 0] 33 (0, 0))
  bl : W.heap[w.heap.size + 5]? = some (.cells #[.pointer (some ⟨b, 0, none⟩), .pointer (some ⟨w.heap.size + 3, 0, none⟩), .map (some (w.heap.size + 4))] 53 (0, 0))
  map : MapAt natB W (w.heap.size + 4) (dnV fun _ => none)
  q : QAt (fun i => i < w.heap.size + 6 ∧ i ≠ w.heap.size + 2 ∧ i ≠ w.heap.size + 3) W (w.heap.size + 3) [] []
theorem difW (w : World) (b : Nat) : DifW w b (differW w b) := by
  have s1 : (w.alloc (.cells #[.pointer none] 32)).heap.size = w.heap.size + 1 := by simp
  have s2 : ((w.alloc (.cells #[.pointer none] 32)).alloc (.cells #[.int .i64 0] 33)).heap.size = w.heap.size + 2 := by simp
  have h1 := blk_new w (.cells #[.pointer none] 32)
  have h2 := blk_new (w.alloc (.cells #[.pointer none] 32)) (.cells #[.int .i64 0] 33)
  have h3 := MapAt.made (ek := WGate.val) ((w.alloc (.cells #[.pointer none] 32)).alloc (.cells #[.int .i64 0] 33))
  rw [s1] at h2
  rw [s2] at h3
  have h1 := blk_alloc h1 (.cells #[.int .i64 0] 33)
  have b2 := ((Below.refl w.heap.size w).alloc (Nat.le_refl _) (.cells #[.pointer none] 32)).alloc (by simp) (.cells #[.int .i64 0] 33)
  unfold differW
  generalize (w.alloc (.cells #[.pointer none] 32)).alloc (.cells #[.int .i64 0] 33) = w2 at *
  clear s1
  have s3 : (w2.alloc (.map #[] 0)).heap.size = w.heap.size + 3 := by simp [s2]
  have h1 := blk_alloc h1 (.map #[] 0)
  have h2 := blk_alloc h2 (.map #[] 0)
  have b3 := b2.alloc (by omega) (.map #[] 0)
  generalize w2.alloc (.map #[] 0) = w3 at *
  have h4 := blk_new w3 (.cells #[.int .i64 1, .slice none 0 0, .slice none 0 0, .map (some (w.heap.size + 1 + 1))] 50)
  have h5 := MapAt.made (ek := natB) (w3.alloc (.cells #[.int .i64 1, .slice none 0 0, .slice none 0 0, .map (some (w.heap.size + 1 + 1))] 50))
  have s4 : (w3.alloc (.cells #[.int .i64 1, .slice none 0 0, .slice none 0 0, .map (some (w.heap.size + 1 + 1))] 50)).heap.size = w.heap.size + 4 := by simp [s3]
  rw [s4] at h5
  rw [s3] at h4
  have h1 := blk_alloc (blk_alloc h1 (.cells #[.int .i64 1, .slice none 0 0, .slice none 0 0, .map (some (w.heap.size + 1 + 1))] 50)) (.map #[] 0)
  have h2 := blk_alloc (blk_alloc h2 (.cells #[.int .i64 1, .slice none 0 0, .slice none 0 0, .map (some (w.heap.size + 1 + 1))] 50)) (.map #[] 0)
  have h3 := (h3.alloc (.cells #[.int .i64 1, .slice none 0 0, .slice none 0 0, .map (some (w.heap.size + 1 + 1))] 50)).alloc (.map #[] 0)
  have h4 := blk_alloc h4 (.map #[] 0)
  have b5 := (b3.alloc (by omega) (.cells #[.int .i64 1, .slice none 0 0, .slice none 0 0, .map (some (w.heap.size + 1 + 1))] 50)).alloc (by rw [s4]; omega) (.map #[] 0)
  have s5 : ((w3.alloc (.cells #[.int .i64 1, .slice none 0 0, .slice none 0 0, .map (some (w.heap.size + 1 + 1))] 50)).alloc (.map #[] 0)).heap.size = w.heap.size + 5 := by simp [s3]
  generalize (w3.alloc (.cells #[.int .i64 1, .slice none 0 0, .slice none 0 0, .map (some (w.heap.size + 1 + 1))] 50)).alloc (.map #[] 0) = w5 at *
  clear s2 s3 s4 b2 b3
  have h6 := blk_new w5 (.cells #[.pointer (some ⟨b, 0, none⟩), .pointer (some ⟨w.heap.size + 1 + 1 + 1, 0, none⟩), .map (some (w.heap.size + 1 + 1 + 1 + 1))] 53)
  have s6 : (w5.alloc (.cells #[.pointer (some ⟨b, 0, none⟩), .pointer (some ⟨w.heap.size + 1 + 1 + 1, 0, none⟩), .map (some (w.heap.size + 1 + 1 + 1 + 1))] 53)).heap.size = w.heap.size + 6 := by simp [s5]
  rw [s5] at h6
  refine ⟨b5.alloc (by omega) _, s6, blk_alloc h1 _, blk_alloc h2 _, h6, h5.alloc _, ⟨.slice none 0 0, .slice none 0 0, w.heap.size + 2, blk_alloc h4 _, Own.nil _ _ _ _, fun g h => (by simp [Value.ownBlock] at h), OwnN.nil _ _ _, fun g h => (by simp [Value.ownBlock] at h), ?_, fun h => h.2.1 rfl, fun h => h.2.2 rfl, fun i hi => by rw [s6]; exact hi.1, fun g h => (by cases h), List.nodup_nil⟩⟩
  have h7 := h3.alloc (.cells #[.pointer (some ⟨b, 0, none⟩), .pointer (some ⟨w.heap.size + 1 + 1 + 1, 0, none⟩), .map (some (w.heap.size + 1 + 1 + 1 + 1))] 53)
  rw [show gposOf [] = fun _ => none from funext fun x => by unfold gposOf; simp]
  exact h7
theorem Sl.later {e : TypeId} {w w' : World} {v : Value} {xs : List Int} (h : Sl 0 e I64 w v xs) (hb : Below w.heap.size w w') : Sl 0 e I64 w' v xs := Sl.stable (stable_i64 _ _) (T := [e]) (by simp) _ _ _ _ (Quiet.below hb) h
set_option maxRecDepth 100000 in
set_option maxHeartbeats 4000000 in
theorem differ_no (Kd : Nat → Prop) (b : Nat) (ts : List Term) (hG : Good ts) (hfew : ts.length ≤ 300) (ax bx : List Int) (ha : ax.length ≤ 100) (hb : bx.length ≤ 100) (va vb : Value) (e1 e2 : TypeId) (w : World)
    (hva : Sl 0 e1 I64 w va ax) (hvb : Sl 0 e2 I64 w vb bx) (hD : DagAt Kd w b ts) (hno : chkO ts ax bx ≠ 0) :
    Calls Try.prog 5 #[.pointer (some ⟨b, 0, none⟩), va, vb] w fun r w' => r = .returned (.tuple #[.pointer none, .int .i64 (chkO ts ax bx)]) ∧ Below w.heap.size w w' := by
  have hmm := @run_makeMap Try.prog
  have D := difW w b
  have hC : Calls Try.prog 10 #[.pointer (some ⟨w.heap.size + 1 + 1 + 1 + 1 + 1, 0, none⟩), va, vb] (differW w b) fun r w' => r = .returned (.int .i64 (chkO ts ax bx)) ∧ Below (differW w b).heap.size (differW w b) w' :=
    check_any Kd b (w.heap.size + 5) _ _ ts hG (by omega) ax bx (by omega) (by omega) va vb e1 e2 (differW w b) (hva.later D.below) (hvb.later D.below) D.bl (hD.below D.below)
  have hne : (chkO ts ax bx != 0) = true := by simpa using hno
  generalize chkO ts ax bx = c at *
  go_enter_defers Try.func5, Try.ntmps5
  go_wp2_with fail
  refine hC.mono ?_
  rintro r w1 ⟨rfl, b1⟩
  have hr := blk_below D.res b1
  have he := blk_below D.err b1
  have bw := below_then D.below b1
  have r0 := cell_of hr 0
  have r1 := cell_of he 0
  simp only [List.getElem?_toArray, List.getElem?_cons_zero] at r0 r1
  have f0 := frozen_of hr 0
  have f1 := frozen_of he 0
  have hr2 := (qset (w1.setCell ⟨w.heap.size, 0, none⟩ (.pointer none)) (w.heap.size + 1) 0 (.int .i64 c)).blk (show w.heap.size ≠ w.heap.size + 1 by omega) (blk_set hr 0 (.pointer none))
  have he2 := blk_set ((qset w1 w.heap.size 0 (.pointer none)).blk (show w.heap.size + 1 ≠ w.heap.size by omega) he) 0 (.int .i64 c)
  have q0 := cell_of hr2 0
  have q1 := cell_of he2 0
  have bz : Below w.heap.size w ((w1.setCell ⟨w.heap.size, 0, none⟩ (.pointer none)).setCell ⟨w.heap.size + 1, 0, none⟩ (.int .i64 c)) := (bw.setCell (Nat.le_refl _) _).setCell (by show _ ≤ w.heap.size + 1; omega) _
  clear D hC b1 hr he hmm hr2 he2
  go_wp2_with fail
  generalize (w1.setCell ⟨w.heap.size, 0, none⟩ (.pointer none)).setCell ⟨w.heap.size + 1, 0, none⟩ (.int .i64 c) = wz at *
  simp [bodyPostD, Leaves, settle, results, Try.results5, go_sem, q0, q1]
  exact bz
end Go.Proofs.Ytgnahjadjgjecaa
set_option linter.unusedVariables false
set_option linter.unusedSimpArgs false
namespace Go.Proofs.Ytgnahjadjgjecaa
open Go.RowKit Go.Maps Go.MapKept

def DifPost (w : World) (R : (List Gate × Dn) × List Int) (r : Ending) (w' : World) : Prop :=
  r = .returned (.tuple #[.pointer (some ⟨w.heap.size + 3, 0, none⟩), .int .i64 0]) ∧ QAt (fun i => i < w.heap.size) w' (w.heap.size + 3) R.1.1 (queryC R.1.1 R.2) ∧ Below w.heap.size w w'
/-- What a round of the pairs finds. -/
structure DifAt (w : World) (b : Nat) (K : Nat → Prop) (wr : World) (v : Value) (F : (List Gate × Dn) × List Int) : Prop where mk_ ::
  old : ∀ x, x < w.heap.size + 6 → x ≠ w.heap.size + 2 → x ≠ w.heap.size + 3 → K x
  kv : ∀ g, v.ownBlock = some g → K g
  own : Own w.heap.size 3 I64 wr v F.2
  res : wr.heap[w.heap.size]? = some (.cells #[.pointer none] 32 (0, 0))
  err : wr.heap[w.heap.size + 1]? = some (.cells #[.int .i64 0] 33 (0, 0))
  bl : wr.heap[w.heap.size + 5]? = some (.cells #[.pointer (some ⟨b, 0, none⟩), .pointer (some ⟨w.heap.size + 3, 0, none⟩), .map (some (w.heap.size + 4))] 53 (0, 0))
  map : MapAt natB wr (w.heap.size + 4) (dnV F.1.2)
  q : QS K wr (w.heap.size + 3) F.1.1
  below : Below w.heap.size w wr
theorem DifAt.alloc {w : World} {b : Nat} {K : Nat → Prop} {wr w' : World} {v : Value} {F : (List Gate × Dn) × List Int} (h : DifAt w b K wr v F) (hb : Below wr.heap.size wr w') : DifAt w b (More K wr w') w' v F :=
  ⟨fun x h1 h2 h3 => Or.inl (h.old x h1 h2 h3), fun g e => Or.inl (h.kv g e), h.own.blocks (fun g e => hb.block g (h.own.own_lt e).2) (fun _ _ h => h), blk_below h.res hb, blk_below h.err hb, blk_below h.bl hb, h.map.below hb h.map.lt, QAt.more h.q hb, below_then h.below hb⟩
theorem DifAt.termIn {w : World} {b : Nat} {K : Nat → Prop} {wr : World} {v : Value} {F : (List Gate × Dn) × List Int} (h : DifAt w b K wr v F) {Kd : Nat → Prop} {ts : List Term} (hD : DagAt Kd w b ts) : TermIn K Kd wr (w.heap.size + 4) b (w.heap.size + 3) (w.heap.size + 5) ts F.1.1 F.1.2 :=
  ⟨h.old _ (by omega) (by omega) (by omega), h.old _ (by omega) (by omega) (by omega), by omega, h.bl, h.map, h.q, fun w' hk => hD.below (h.below.trans ⟨hk.os, hk.tape, hk.output, hk.size, fun i hi => hk.block i (Nat.lt_of_lt_of_le hi h.below.size) ⟨h.old i (by omega) (by omega) (by omega), by omega⟩⟩)⟩
theorem DifAt.term {w : World} {b : Nat} {K : Nat → Prop} {wr w' : World} {v : Value} {F : (List Gate × Dn) × List Int} (h : DifAt w b K wr v F) {g' : List Gate} {d' : Dn} (hq : QS K w' (w.heap.size + 3) g') (hm : MapAt natB w' (w.heap.size + 4) (dnV d')) (hk : Kept (Km K (w.heap.size + 4)) wr w') (hv : ∀ g, v.ownBlock = some g → g ≠ w.heap.size + 4) : DifAt w b K w' v ((g', d'), F.2) :=
  ⟨h.old, h.kv, h.own.blocks (fun g e => hk.block g (h.own.own_lt e).2 ⟨h.kv g e, hv g e⟩) (fun _ _ h => h), hk.blk ⟨h.old _ (by omega) (by omega) (by omega), by omega⟩ h.res, hk.blk ⟨h.old _ (by omega) (by omega) (by omega), by omega⟩ h.err, hk.blk ⟨h.old _ (by omega) (by omega) (by omega), by omega⟩ h.bl, hm, hq,
    h.below.trans ⟨hk.os, hk.tape, hk.output, hk.size, fun i hi => hk.block i (Nat.lt_of_lt_of_le hi h.below.size) ⟨h.old i (by omega) (by omega) (by omega), by omega⟩⟩⟩
theorem DifAt.lit {w : World} {b : Nat} {K : Nat → Prop} {wr w' : World} {v : Value} {F : (List Gate × Dn) × List Int} (h : DifAt w b K wr v F) {g' : List Gate} (hq : QS K w' (w.heap.size + 3) g') (hk : Kept K wr w') : DifAt w b K w' v ((g', F.1.2), F.2) :=
  ⟨h.old, h.kv, h.own.blocks (fun g e => hk.block g (h.own.own_lt e).2 (h.kv g e)) (fun _ _ h => h), hk.blk (h.old _ (by omega) (by omega) (by omega)) h.res, hk.blk (h.old _ (by omega) (by omega) (by omega)) h.err, hk.blk (h.old _ (by omega) (by omega) (by omega)) h.bl, h.map.block (hk.block _ h.map.lt (h.old _ (by omega) (by omega) (by omega))), hq,
    h.below.trans ⟨hk.os, hk.tape, hk.output, hk.size, fun i hi => hk.block i (Nat.lt_of_lt_of_le hi h.below.size) (h.old i (by omega) (by omega) (by omega))⟩⟩
/-- A block of the call's own turns. -/
theorem DifAt.row {w : World} {b : Nat} {K : Nat → Prop} {wr : World} {v : Value} {F : (List Gate × Dn) × List Int} (h : DifAt w b K wr v F) {g : Nat} (hg : K g) (h6 : w.heap.size + 6 ≤ g) (hv : v.ownBlock ≠ some g) (cs : Array Value) : DifAt w b K (wr.setRow g cs) v F := by
  have hk := row_kept wr g cs
  exact ⟨h.old, h.kv, h.own.blocks (fun x e => hk.block x (h.own.own_lt e).2 (by rintro rfl; exact hv e)) (fun _ _ h => h), hk.blk (by omega) h.res, hk.blk (by omega) h.err, hk.blk (by omega) h.bl, h.map.block (hk.block _ h.map.lt (by omega)), QAt.moved h.q hk hg, h.below.trans ⟨hk.os, hk.tape, hk.output, hk.size, fun i hi => hk.block i (Nat.lt_of_lt_of_le hi h.below.size) (by show i ≠ g; omega)⟩⟩
theorem DifAt.v_ne {w : World} {b : Nat} {K : Nat → Prop} {wr : World} {v : Value} {F : (List Gate × Dn) × List Int} (h : DifAt w b K wr v F) : ∀ g, v.ownBlock = some g → g ≠ w.heap.size + 4 := by
  rintro g hg rfl
  obtain ⟨_, cur, hc⟩ := h.own.typed hg
  obtain ⟨es, cl, hm, _⟩ := h.map
  rw [hc] at hm
  cases hm
theorem DifAt.push {w : World} {b : Nat} {K : Nat → Prop} {wr w' : World} {v v' : Value} {F : (List Gate × Dn) × List Int} {l : Int} (h : DifAt w b K wr v F) (ho : Own w.heap.size 3 I64 w' v' (F.2 ++ [l])) (hB : Below w.heap.size w w') (hg : wr.grownBy w' v.ownBlock) (hn : v'.ownBlock = v.ownBlock ∨ ∃ g, v'.ownBlock = some g ∧ wr.heap.size ≤ g) :
    ∃ K', (∀ i, K i → K' i) ∧ DifAt w b K' w' v' (F.1, F.2 ++ [l]) := by
  obtain ⟨K', hq, hk, hv⟩ := QAt.row h.q hg h.kv hn (fun g e => (ho.own_lt e).2)
  exact ⟨K', hk, fun x h1 h2 h3 => hk x (h.old x h1 h2 h3), hv, ho, h.own.other hg h.res (by simp), h.own.other hg h.err (by simp), h.own.other hg h.bl (by simp), h.map.grown hg (fun e => h.v_ne _ e.symm rfl), hq, hB⟩
set_option maxRecDepth 100000 in
set_option maxHeartbeats 8000000 in
theorem differ_yes (Kd : Nat → Prop) (b : Nat) (ts : List Term) (hG : Good ts) (hfew : ts.length ≤ 300) (ax bx : List Int) (ha : ax.length ≤ 100) (hb : bx.length ≤ 100) (va vb : Value) (e1 e2 : TypeId) (w : World)
    (hva : Sl 0 e1 I64 w va ax) (hvb : Sl 0 e2 I64 w vb bx) (hD : DagAt Kd w b ts) (hyes : chkO ts ax bx = 0) :
    Calls Try.prog 5 #[.pointer (some ⟨b, 0, none⟩), va, vb] w (DifPost w (queryF ts (prs ax bx))) := by
  obtain ⟨hlen, hin, hsoft⟩ := chk_ok hyes
  have hJ := stJ_at hG hyes hfew ha
  have hFs : ∀ j, j < ax.length → stJ ts (prs ax bx) (j + 1) = stepP (ts.length + 1) ts ((ax.getD j 0).toNat, (bx.getD j 0).toNat) (stJ ts (prs ax bx) j) := fun j hj => by rw [stJ_succ (by rw [prs_len]; exact hj), prs_at]
  have hFa := stJ_all ts (prs ax bx)
  rw [prs_len] at hFa
  have hF0 : stJ ts (prs ax bx) 0 = (([], fun _ => none), []) := rfl
  generalize queryF ts (prs ax bx) = R at *
  generalize stJ ts (prs ax bx) = F at *
  have hmm := @run_makeMap Try.prog
  have hmf : ∀ (fn : Fn) (first cap : Array Value) (w : World), (Instr.makeFunc fn first cap).run Try.prog w = .ok (.func fn first cap) w := fun _ _ _ _ => rfl
  have D := difW w b
  have hC : Calls Try.prog 10 #[.pointer (some ⟨w.heap.size + 1 + 1 + 1 + 1 + 1, 0, none⟩), va, vb] (differW w b) fun r w' => r = .returned (.int .i64 0) ∧ Below (differW w b).heap.size (differW w b) w' := by
    have := check_any Kd b (w.heap.size + 5) _ _ ts hG (by omega) ax bx (by omega) (by omega) va vb e1 e2 (differW w b) (hva.later D.below) (hvb.later D.below) D.bl (hD.below D.below)
    rw [hyes] at this
    exact this
  have HIN := Lib.hid hin
  have HSOFT := Lib.hid hsoft
  have HLEN := Lib.hid hlen
  have HF0 := Lib.hid hF0
  have HFA := Lib.hid hFa
  have HFS := Lib.hid hFs
  have HJ := Lib.hid hJ
  obtain ⟨A1, c1, rfl, p1, p2, p3⟩ := hva.open_
  obtain ⟨A2, c2, hvb2, q1, q2, q3⟩ := hvb.open_
  rw [← hlen] at hvb2
  subst hvb2
  have HVA := Lib.hid hva
  have HVB := Lib.hid hvb
  clear hin hsoft hyes hlen hF0 hFa hFs hJ hva hvb
  go_enter_defers Try.func5, Try.ntmps5
  go_wp2_with fail
  refine hC.mono ?_
  rintro r w1 ⟨rfl, b1⟩
  have hQ1 := QAt.below D.q b1
  have hr1 := blk_below D.res b1
  have he1 := blk_below D.err b1
  have hbl1 := blk_below D.bl b1
  have hm1 := D.map.below b1 D.map.lt
  have bw1 := below_then D.below b1
  have hs1 : w.heap.size + 6 ≤ w1.heap.size := by have := b1.size; have := D.size; omega
  clear D hC b1 hmm
  have bc := (Below.refl w1.heap.size w1).alloc (Nat.le_refl _) (.cells #[.int .i64 1] 3)
  have hone : Sl 0 3 I64 (w1.alloc (.cells #[.int .i64 1] 3)) (.slice (some ⟨w1.heap.size, 0, none⟩) 1 1) [1] := Sl.lit (us := [.int .i64 1]) (blk_new w1 (.cells #[.int .i64 1] 3)) rfl (by unfold maxLen; omega) ⟨⟨rfl, by decide, by decide⟩, trivial⟩
  have hCl := clause_any _ (w.heap.size + 3) [] [] (by simp) 0 3 _ [1] (by simp) _ hone (QAt.below hQ1 bc)
  obtain ⟨d0, d1, d2⟩ := three_cells hbl1
  go_wp2_with fail
  refine hCl.mono ?_
  rintro r w2 ⟨rfl, hQ2, k2⟩
  have hA2 : ∀ K, (∀ x, K x ↔ (x < w.heap.size + 6 ∧ x ≠ w.heap.size + 2 ∧ x ≠ w.heap.size + 3)) → DifAt w b K w2 (.slice none 0 0) (F 0) := fun K hK => by
    have hKf : (fun i => i < w.heap.size + 6 ∧ i ≠ w.heap.size + 2 ∧ i ≠ w.heap.size + 3) = K := funext fun x => propext (hK x).symm
    rw [hKf] at hQ2 k2
    have hk : ∀ x, x < w.heap.size + 6 → x ≠ w.heap.size + 2 → x ≠ w.heap.size + 3 → K x := fun x h1 h2 h3 => (hK x).2 ⟨h1, h2, h3⟩
    rw [HF0.out]
    exact ⟨hk, fun g h => (by simp [Value.ownBlock] at h), Own.nil _ _ _ _, k2.blk (hk _ (by omega) (by omega) (by omega)) (blk_below hr1 bc), k2.blk (hk _ (by omega) (by omega) (by omega)) (blk_below he1 bc), k2.blk (hk _ (by omega) (by omega) (by omega)) (blk_below hbl1 bc),
      (hm1.below bc hm1.lt).block (k2.block _ (hm1.below bc hm1.lt).lt (hk _ (by omega) (by omega) (by omega))), hQ2, (below_then bw1 bc).trans ⟨k2.os, k2.tape, k2.output, k2.size, fun i hi => k2.block i (by have := bc.size; omega) (hk _ (by omega) (by omega) (by omega))⟩⟩
  have hA2 := hA2 _ (fun x => Iff.rfl)
  clear hQ1 hr1 he1 hbl1 hm1 bw1 bc hone hCl hQ2 k2 d0 d1 d2
  go_wp2_with fail
  go_loopw [10, 11, 12, 13, 14, 15, 40, 55] (fun v10 _ _ _ _ _ i _ wr => ∃ (j : Nat) (K : Nat → Prop), j ≤ ax.length ∧ i = .int .i64 j ∧ DifAt w b K wr v10 (F j)) (fun _ _ _ _ _ _ i _ _ => ax.length - (intOf i).toNat)
  case atStart => exact ⟨0, _, Nat.zero_le _, rfl, hA2⟩
  case round =>
    clear hA2
    obtain ⟨j, K, hj, rfl, hA⟩ := hrel
    by_cases hlt : j < ax.length
    · have hlt' : (j : Int) < ax.length := by omega
      obtain ⟨hT, hlit, hsl⟩ := HJ.out j
      have hFj := HFS.out j hlt
      have hxa := HIN.out _ (List.mem_append_left bx (getD_mem hlt 0))
      have hya := HIN.out _ (List.mem_append_right ax (getD_mem (show j < bx.length by have := HLEN.out; omega) 0))
      have hxs := HSOFT.out _ (List.mem_append_left bx (getD_mem hlt 0))
      have hys := HSOFT.out _ (List.mem_append_right ax (getD_mem (show j < bx.length by have := HLEN.out; omega) 0))
      obtain ⟨hx1, hx2⟩ := inR_toNat hxa
      obtain ⟨hy1, hy2⟩ := inR_toNat hya
      obtain ⟨bb1, of1, u1, rfl, hc1, hu1⟩ := HVA.out.at_ hlt 0
      obtain ⟨rfl, _⟩ := hu1
      obtain ⟨bb2, of2, u2, rfl, hc2, hu2⟩ := (show Sl 0 e2 I64 w (.slice A2 ax.length c2) bx from HVB.out).at_ (show j < bx.length by have := HLEN.out; omega) 0
      obtain ⟨rfl, _⟩ := hu2
      generalize F j = Fj at *
      obtain ⟨⟨gs, d⟩, s⟩ := Fj
      dsimp only at hT hlit hsl hFj
      obtain ⟨x, hx⟩ : ∃ x, termF (ts.length + 1) ts gs d (ax.getD j 0).toNat = x := ⟨_, rfl⟩
      obtain ⟨y, hy⟩ : ∃ y, termF (ts.length + 1) ts x.1.1 x.1.2 (bx.getD j 0).toNat = y := ⟨_, rfl⟩
      have hFz : F (j + 1) = (((diff1 x.2 y.2 y.1.1 s 32).1, y.1.2), (diff1 x.2 y.2 y.1.1 s 32).2) := by rw [hFj]; exact stepP_eq hx hy rfl
      have o1 := term_ok hG (M := vr ts (ax.getD j 0).toNat) (ts.length + 1) gs d _ (by omega) hx1 hxs (fun r h => h) hT.gg hT.dn
      rw [hx] at o1
      have T1 : TermAt ts x.1.1 x.1.2 (480 * ts.length + 32 * ax.length) := ⟨hG, by omega, o1.good, o1.dn, by have := o1.len; have := hT.cnt; omega, by omega⟩
      have o2 := term_ok hG (M := vr ts (bx.getD j 0).toNat) (ts.length + 1) x.1.1 x.1.2 _ (by omega) hy1 hys (fun r h => h) T1.gg T1.dn
      rw [hy] at o2
      have T2 : TermAt ts y.1.1 y.1.2 (480 * ts.length + 32 * ax.length) := ⟨hG, by omega, o2.good, o2.dn, by have := o2.len; have := T1.cnt; omega, by omega⟩
      have lx : Lits y.1.1 x.2 := (o1.dn.lits _ x.2 o1.here).ext o2.ext
      have ly : Lits y.1.1 y.2 := o2.dn.lits _ y.2 o2.here
      have hl2 : y.1.1.length ≤ 160000 := by have := T2.cnt; have := cntD_le ts y.1.2; omega
      obtain ⟨PA, PB, hdif⟩ := dif_some o2.good lx ly (s := s) (fun l hl => (hlit l hl).mono (by have := (o1.ext.trans o2.ext).len; omega))
      have c1 : ∀ K w', TermIn K Kd w' (w.heap.size + 4) b (w.heap.size + 3) (w.heap.size + 5) ts gs d → Calls Try.prog 13 #[.pointer (some ⟨w.heap.size + 1 + 1 + 1 + 1 + 1, 0, none⟩), .int .i64 (ax.getD j 0)] w' (TermPost K w' (w.heap.size + 3) (w.heap.size + 4) x) := fun K w' h => by
        have := term_any (ts.length + 1) K Kd _ b _ _ ts gs d (ax.getD j 0).toNat _ w' (by omega) hx1 hxs hT h
        rw [hx, ← hx2] at this
        exact this
      have c2 : ∀ K w', TermIn K Kd w' (w.heap.size + 4) b (w.heap.size + 3) (w.heap.size + 5) ts x.1.1 x.1.2 → Calls Try.prog 13 #[.pointer (some ⟨w.heap.size + 1 + 1 + 1 + 1 + 1, 0, none⟩), .int .i64 (bx.getD j 0)] w' (TermPost K w' (w.heap.size + 3) (w.heap.size + 4) y) := fun K w' h => by
        have := term_any (ts.length + 1) K Kd _ b _ _ ts x.1.1 x.1.2 (bx.getD j 0).toNat _ w' (by omega) hy1 hys T1 h
        rw [hy, ← hy2] at this
        exact this
      have C1 := Lib.hid c1
      have C2 := Lib.hid c2
      have HFZ := Lib.hid hFz
      have LX := Lib.hid lx
      have LY := Lib.hid ly
      have HDIF := Lib.hid hdif
      clear c1 c2 hFz lx ly hdif hxa hya hxs hys hx1 hx2 hy1 hy2 o1 o2 T1 T2 hT hlit hFj hx hy
      generalize ax.getD j 0 = n1 at *
      generalize bx.getD j 0 = n2 at *
      go_upto_region 11 with fail
      go_cut [12, 13] from 43 to 54 (fun p q wx => ∃ (gx gy : Nat) (K' : Nat → Prop), p = .pointer (some ⟨gx, 0, none⟩) ∧ q = .pointer (some ⟨gy, 0, none⟩) ∧ K' gx ∧ K' gy ∧ w.heap.size + 6 ≤ gx ∧ w.heap.size + 6 ≤ gy ∧ u10.ownBlock ≠ some gx ∧ u10.ownBlock ≠ some gy ∧ ZAt 60 wx gx x.2 ∧ ZAt 60 wx gy y.2 ∧ DifAt w b K' wx u10 (y.1, s))
      case first =>
        refine wp_region_noPanic ?_
        have bd : Below wr.heap.size wr wr.drew := below_drewN (Below.refl _ _) 1
        have hA0 := hA.alloc bd
        have hs0 : w.heap.size + 6 ≤ wr.drew.heap.size := by have h1 := (Array.getElem?_eq_some_iff.1 hA.bl).1; show _ ≤ wr.heap.size; omega
        generalize More K wr wr.drew = KT0 at *
        have hSd : wr.drew.cell? ⟨bb1, of1 + j, none⟩ = some (.int .i64 n1) ∧ wr.drew.cell? ⟨bb2, of2 + j, none⟩ = some (.int .i64 n2) := ⟨cell_below hA0.below hc1, cell_below hA0.below hc2⟩
        refine wp_region_any (by kernel_rfl) (wpAny_of_held (S := fun w' => w'.cell? ⟨bb1, of1 + j, none⟩ = some (.int .i64 n1) ∧ w'.cell? ⟨bb2, of2 + j, none⟩ = some (.int .i64 n2)) _ _ _ _ ?_)
        change wpAnyH _ _ _ _ _ 16 _ _ wr.drew
        refine wpAnyH_take (i := 0) (v := ?_) rfl (by kernel_rfl) (by kernel_rfl) (by kernel_rfl) (fun _ _ _ h => h) (Or.inl ⟨by rfl, ?_⟩) hSd ?_
        rotate_left
        · intro w9 hw9
          go_simp
          try with_reducible rfl
        refine wpAnyH_take (i := 1) (v := ?_) rfl (by kernel_rfl) (by kernel_rfl) (by kernel_rfl) (fun _ _ _ h => h) (Or.inl ⟨by rfl, ?_⟩) hSd ?_
        rotate_left
        · intro w9 hw9
          go_simp
          try with_reducible rfl
        refine wpAnyH_take (i := 2) (v := ?_) rfl (by kernel_rfl) (by kernel_rfl) (by kernel_rfl) (fun _ _ _ h => h) (Or.inl ⟨by rfl, ?_⟩) hSd ?_
        rotate_left
        · intro w9 hw9
          go_simp
          try with_reducible rfl
        refine wpAnyH_take (i := 3) (v := ?_) rfl (by kernel_rfl) (by kernel_rfl) (by kernel_rfl) (fun _ _ _ h => h) (Or.inl ⟨by rfl, ?_⟩) hSd ?_
        rotate_left
        · intro w9 hw9
          go_simp
          try with_reducible rfl
        refine wpAnyH_take (i := 4) (v := ?_) rfl (by kernel_rfl) (by kernel_rfl) (by kernel_rfl) (fun _ _ _ h => h) (Or.inl ⟨by rfl, ?_⟩) hSd ?_
        rotate_left
        · intro w9 hw9
          obtain ⟨hw8, _⟩ := hw9
          go_simp
          try with_reducible rfl
        refine wpAnyH_take (i := 6) (v := ?_) rfl (by kernel_rfl) (by kernel_rfl) (by kernel_rfl) (fun _ _ _ h => h) (Or.inl ⟨by rfl, ?_⟩) hSd ?_
        rotate_left
        · intro w9 hw9
          go_simp
          try with_reducible rfl
        refine wpAnyH_take (i := 7) (v := ?_) rfl (by kernel_rfl) (by kernel_rfl) (by kernel_rfl) (fun _ _ _ h => h) (Or.inl ⟨by rfl, ?_⟩) hSd ?_
        rotate_left
        · intro w9 hw9
          go_simp
          try with_reducible rfl
        refine wpAnyH_take (i := 8) (v := ?_) rfl (by kernel_rfl) (by kernel_rfl) (by kernel_rfl) (fun _ _ _ h => h) (Or.inl ⟨by rfl, ?_⟩) hSd ?_
        rotate_left
        · intro w9 hw9
          go_simp
          try with_reducible rfl
        refine wpAnyH_take (i := 9) (v := ?_) rfl (by kernel_rfl) (by kernel_rfl) (by kernel_rfl) (fun _ _ _ h => h) (Or.inl ⟨by rfl, ?_⟩) hSd ?_
        rotate_left
        · intro w9 hw9
          go_simp
          try with_reducible rfl
        refine wpAnyH_take (i := 10) (v := ?_) rfl (by kernel_rfl) (by kernel_rfl) (by kernel_rfl) (fun _ _ _ h => h) (Or.inl ⟨by rfl, ?_⟩) hSd ?_
        rotate_left
        · intro w9 hw9
          obtain ⟨_, hw8⟩ := hw9
          go_simp
          try with_reducible rfl
        clear bd
        generalize wr.drew = wt0 at *
        refine wpAnyH_all (rs := [5, 12, 13]) (by kernel_rfl) (by simp) (fun i hi => ?_)
        rcases (by simpa using hi : i = 5 ∨ i = 12 ∨ i = 13) with rfl | rfl | rfl
        · refine wpOp_step rfl (fun K9 hK9 => ?_)
          rw [if_pos (by rfl)]
          go_simp
          go_at_call 13
          refine (C1.out _ _ (hA0.termIn hD)).mono ?_
          rintro r wt1 ⟨rfl, hq1, hm1, kt1⟩
          have hA1 := hA0.term hq1 hm1 kt1 hA0.v_ne
          have hs1 : w.heap.size + 6 ≤ wt1.heap.size := Nat.le_trans hs0 kt1.size
          refine hK9 _ _ ⟨⟨cell_below hA1.below hc1, cell_below hA1.below hc2⟩, ?_⟩
          clear hK9
          refine wpAnyH_all (rs := [11, 12, 13]) (by kernel_rfl) (by simp) (fun i hi => ?_)
          rcases (by simpa using hi : i = 11 ∨ i = 12 ∨ i = 13) with rfl | rfl | rfl
          · refine wpOp_step rfl (fun K9 hK9 => ?_)
            rw [if_pos (by rfl)]
            go_simp
            go_at_call 13
            refine (C2.out _ _ (hA1.termIn hD)).mono ?_
            rintro r wt2 ⟨rfl, hq2, hm2, kt2⟩
            have hA2 := hA1.term hq2 hm2 kt2 hA1.v_ne
            have hs2 : w.heap.size + 6 ≤ wt2.heap.size := Nat.le_trans hs1 kt2.size
            refine hK9 _ _ ⟨⟨cell_below hA2.below hc1, cell_below hA2.below hc2⟩, ?_⟩
            clear hK9
            refine wpAnyH_all (rs := [12, 13]) (by kernel_rfl) (by simp) (fun i hi => ?_)
            rcases (by simpa using hi : i = 12 ∨ i = 13) with rfl | rfl
            · refine wpOp_step rfl (fun K9 hK9 => ?_)
              rw [if_pos (by rfl)]
              go_simp
              rw [zero_zV]
              have bx3 := (Below.refl wt2.heap.size wt2).alloc (Nat.le_refl _) (.cells (zV fun _ => 0) 60)
              have hX3 := blk_new wt2 (.cells (zV fun _ => 0) 60)
              have hA3 := hA2.alloc bx3
              have kX3 : More KT0 wt2 (wt2.alloc (.cells (zV fun _ => 0) 60)) wt2.heap.size := Or.inr ⟨Nat.le_refl _, by simp⟩
              have h6X : w.heap.size + 6 ≤ wt2.heap.size := hs2
              have hs3 : w.heap.size + 6 ≤ (wt2.alloc (.cells (zV fun _ => 0) 60)).heap.size := Nat.le_trans hs2 bx3.size
              have nvX : u10.ownBlock ≠ some wt2.heap.size := fun e => by have := (hA2.own.own_lt e).2; omega
              obtain ⟨gX, hgX⟩ : ∃ g, g = wt2.heap.size := ⟨_, rfl⟩
              rw [← hgX] at hX3 kX3 h6X nvX
              generalize More KT0 wt2 (wt2.alloc (.cells (zV fun _ => 0) 60)) = KT3 at *
              refine hK9 _ _ ⟨⟨cell_below hA3.below hc1, cell_below hA3.below hc2⟩, ?_⟩
              clear hK9
              generalize (wt2.alloc (.cells (zV fun _ => 0) 60)) = wt3 at *
              refine wpAnyH_all (rs := [13]) (by kernel_rfl) (by simp) (fun i hi => ?_)
              obtain rfl : i = 13 := by simpa using hi
              refine wpOp_step rfl (fun K9 hK9 => ?_)
              rw [if_pos (by rfl)]
              go_simp
              rw [zero_zV]
              have bx4 := (Below.refl wt3.heap.size wt3).alloc (Nat.le_refl _) (.cells (zV fun _ => 0) 60)
              have hY4 := blk_new wt3 (.cells (zV fun _ => 0) 60)
              have hA4 := hA3.alloc bx4
              have kY4 : More KT3 wt3 (wt3.alloc (.cells (zV fun _ => 0) 60)) wt3.heap.size := Or.inr ⟨Nat.le_refl _, by simp⟩
              have h6Y : w.heap.size + 6 ≤ wt3.heap.size := hs3
              have hs4 : w.heap.size + 6 ≤ (wt3.alloc (.cells (zV fun _ => 0) 60)).heap.size := Nat.le_trans hs3 bx4.size
              have nvY : u10.ownBlock ≠ some wt3.heap.size := fun e => by have := (hA3.own.own_lt e).2; omega
              have hX4 := blk_below hX3 bx4
              have kX4 : More KT3 wt3 (wt3.alloc (.cells (zV fun _ => 0) 60)) gX := Or.inl kX3
              have hne : gX ≠ wt3.heap.size := by have := (Array.getElem?_eq_some_iff.1 hX3).1; omega
              obtain ⟨gY, hgY⟩ : ∃ g, g = wt3.heap.size := ⟨_, rfl⟩
              rw [← hgY] at hY4 kY4 h6Y nvY hne
              generalize More KT3 wt3 (wt3.alloc (.cells (zV fun _ => 0) 60)) = KT4 at *
              refine hK9 _ _ ⟨⟨cell_below hA4.below hc1, cell_below hA4.below hc2⟩, ?_⟩
              clear hK9
              generalize (wt3.alloc (.cells (zV fun _ => 0) 60)) = wt4 at *
              have hXY : gX ≠ gY := by first | exact hne | exact fun e => hne e.symm
              have hAx := hA4.row kX4 h6X nvX (zV x.2)
              have hXx := setRow_heap _ _ _ (zV x.2) _ _ hX4
              have hYx := (setRow_other wt4 gX gY (zV x.2) (fun e => hXY e.symm)).trans hY4
              have hAy := hAx.row kY4 h6Y nvY (zV y.2)
              have hYy := setRow_heap _ _ _ (zV y.2) _ _ hYx
              have hXy := (setRow_other (wt4.setRow gX (zV x.2)) gY gX (zV y.2) hXY).trans hXx
              refine wpAnyH_all (rs := [14]) (by kernel_rfl) (by simp) (fun i hi => ?_)
              obtain rfl : i = 14 := by simpa using hi
              refine wpOp_step rfl (fun K9 hK9 => ?_)
              rw [if_pos (by rfl)]
              refine wp_store_row 60 (.tmp 12) (.tmp 48) rfl gX (zV x.2) (by first | rfl | (rw [hgX]; rfl)) rfl 60 _ hX4 (by rw [zV_size]; exact info_bits) (by rw [zV_size, zV_size]) (one_zV _) ?_
              refine hK9 _ _ ⟨⟨cell_below hAx.below hc1, cell_below hAx.below hc2⟩, ?_⟩
              clear hK9
              refine wpAnyH_all (rs := [15]) (by kernel_rfl) (by simp) (fun i hi => ?_)
              obtain rfl : i = 15 := by simpa using hi
              refine wpOp_step rfl (fun K9 hK9 => ?_)
              rw [if_pos (by rfl)]
              refine wp_store_row 60 (.tmp 13) (.tmp 54) rfl gY (zV y.2) (by first | rfl | (rw [hgY]; rfl)) rfl 60 _ hYx (by rw [zV_size]; exact info_bits) (by rw [zV_size, zV_size]) (one_zV _) ?_
              refine hK9 _ _ ⟨⟨cell_below hAy.below hc1, cell_below hAy.below hc2⟩, ?_⟩
              clear hK9
              refine wpAnyH_done (by kernel_rfl) ?_ _
              refine NoPanic.normal ?_
              go_wp2_with fail
              go_meet
              subst hgX
              subst hgY
              exact ⟨_, _, KT4, rfl, rfl, kX4, kY4, h6X, h6Y, nvX, nvY, hXy, hYy, hAy⟩
            · refine wpOp_step rfl (fun K9 hK9 => ?_)
              rw [if_pos (by rfl)]
              go_simp
              rw [zero_zV]
              have bx3 := (Below.refl wt2.heap.size wt2).alloc (Nat.le_refl _) (.cells (zV fun _ => 0) 60)
              have hY3 := blk_new wt2 (.cells (zV fun _ => 0) 60)
              have hA3 := hA2.alloc bx3
              have kY3 : More KT0 wt2 (wt2.alloc (.cells (zV fun _ => 0) 60)) wt2.heap.size := Or.inr ⟨Nat.le_refl _, by simp⟩
              have h6Y : w.heap.size + 6 ≤ wt2.heap.size := hs2
              have hs3 : w.heap.size + 6 ≤ (wt2.alloc (.cells (zV fun _ => 0) 60)).heap.size := Nat.le_trans hs2 bx3.size
              have nvY : u10.ownBlock ≠ some wt2.heap.size := fun e => by have := (hA2.own.own_lt e).2; omega
              obtain ⟨gY, hgY⟩ : ∃ g, g = wt2.heap.size := ⟨_, rfl⟩
              rw [← hgY] at hY3 kY3 h6Y nvY
              generalize More KT0 wt2 (wt2.alloc (.cells (zV fun _ => 0) 60)) = KT3 at *
              refine hK9 _ _ ⟨⟨cell_below hA3.below hc1, cell_below hA3.below hc2⟩, ?_⟩
              clear hK9
              generalize (wt2.alloc (.cells (zV fun _ => 0) 60)) = wt3 at *
              refine wpAnyH_all (rs := [12]) (by kernel_rfl) (by simp) (fun i hi => ?_)
              obtain rfl : i = 12 := by simpa using hi
              refine wpOp_step rfl (fun K9 hK9 => ?_)
              rw [if_pos (by rfl)]
              go_simp
              rw [zero_zV]
              have bx4 := (Below.refl wt3.heap.size wt3).alloc (Nat.le_refl _) (.cells (zV fun _ => 0) 60)
              have hX4 := blk_new wt3 (.cells (zV fun _ => 0) 60)
              have hA4 := hA3.alloc bx4
              have kX4 : More KT3 wt3 (wt3.alloc (.cells (zV fun _ => 0) 60)) wt3.heap.size := Or.inr ⟨Nat.le_refl _, by simp⟩
              have h6X : w.heap.size + 6 ≤ wt3.heap.size := hs3
              have hs4 : w.heap.size + 6 ≤ (wt3.alloc (.cells (zV fun _ => 0) 60)).heap.size := Nat.le_trans hs3 bx4.size
              have nvX : u10.ownBlock ≠ some wt3.heap.size := fun e => by have := (hA3.own.own_lt e).2; omega
              have hY4 := blk_below hY3 bx4
              have kY4 : More KT3 wt3 (wt3.alloc (.cells (zV fun _ => 0) 60)) gY := Or.inl kY3
              have hne : gY ≠ wt3.heap.size := by have := (Array.getElem?_eq_some_iff.1 hY3).1; omega
              obtain ⟨gX, hgX⟩ : ∃ g, g = wt3.heap.size := ⟨_, rfl⟩
              rw [← hgX] at hX4 kX4 h6X nvX hne
              generalize More KT3 wt3 (wt3.alloc (.cells (zV fun _ => 0) 60)) = KT4 at *
              refine hK9 _ _ ⟨⟨cell_below hA4.below hc1, cell_below hA4.below hc2⟩, ?_⟩
              clear hK9
              generalize (wt3.alloc (.cells (zV fun _ => 0) 60)) = wt4 at *
              have hXY : gX ≠ gY := by first | exact hne | exact fun e => hne e.symm
              have hAx := hA4.row kX4 h6X nvX (zV x.2)
              have hXx := setRow_heap _ _ _ (zV x.2) _ _ hX4
              have hYx := (setRow_other wt4 gX gY (zV x.2) (fun e => hXY e.symm)).trans hY4
              have hAy := hAx.row kY4 h6Y nvY (zV y.2)
              have hYy := setRow_heap _ _ _ (zV y.2) _ _ hYx
              have hXy := (setRow_other (wt4.setRow gX (zV x.2)) gY gX (zV y.2) hXY).trans hXx
              refine wpAnyH_all (rs := [14]) (by kernel_rfl) (by simp) (fun i hi => ?_)
              obtain rfl : i = 14 := by simpa using hi
              refine wpOp_step rfl (fun K9 hK9 => ?_)
              rw [if_pos (by rfl)]
              refine wp_store_row 60 (.tmp 12) (.tmp 48) rfl gX (zV x.2) (by first | rfl | (rw [hgX]; rfl)) rfl 60 _ hX4 (by rw [zV_size]; exact info_bits) (by rw [zV_size, zV_size]) (one_zV _) ?_
              refine hK9 _ _ ⟨⟨cell_below hAx.below hc1, cell_below hAx.below hc2⟩, ?_⟩
              clear hK9
              refine wpAnyH_all (rs := [15]) (by kernel_rfl) (by simp) (fun i hi => ?_)
              obtain rfl : i = 15 := by simpa using hi
              refine wpOp_step rfl (fun K9 hK9 => ?_)
              rw [if_pos (by rfl)]
              refine wp_store_row 60 (.tmp 13) (.tmp 54) rfl gY (zV y.2) (by first | rfl | (rw [hgY]; rfl)) rfl 60 _ hYx (by rw [zV_size]; exact info_bits) (by rw [zV_size, zV_size]) (one_zV _) ?_
              refine hK9 _ _ ⟨⟨cell_below hAy.below hc1, cell_below hAy.below hc2⟩, ?_⟩
              clear hK9
              refine wpAnyH_done (by kernel_rfl) ?_ _
              refine NoPanic.normal ?_
              go_wp2_with fail
              go_meet
              subst hgX
              subst hgY
              exact ⟨_, _, KT4, rfl, rfl, kX4, kY4, h6X, h6Y, nvX, nvY, hXy, hYy, hAy⟩
          · refine wpOp_step rfl (fun K9 hK9 => ?_)
            rw [if_pos (by rfl)]
            go_simp
            rw [zero_zV]
            have bx2 := (Below.refl wt1.heap.size wt1).alloc (Nat.le_refl _) (.cells (zV fun _ => 0) 60)
            have hX2 := blk_new wt1 (.cells (zV fun _ => 0) 60)
            have hA2 := hA1.alloc bx2
            have kX2 : More KT0 wt1 (wt1.alloc (.cells (zV fun _ => 0) 60)) wt1.heap.size := Or.inr ⟨Nat.le_refl _, by simp⟩
            have h6X : w.heap.size + 6 ≤ wt1.heap.size := hs1
            have hs2 : w.heap.size + 6 ≤ (wt1.alloc (.cells (zV fun _ => 0) 60)).heap.size := Nat.le_trans hs1 bx2.size
            have nvX : u10.ownBlock ≠ some wt1.heap.size := fun e => by have := (hA1.own.own_lt e).2; omega
            obtain ⟨gX, hgX⟩ : ∃ g, g = wt1.heap.size := ⟨_, rfl⟩
            rw [← hgX] at hX2 kX2 h6X nvX
            generalize More KT0 wt1 (wt1.alloc (.cells (zV fun _ => 0) 60)) = KT2 at *
            refine hK9 _ _ ⟨⟨cell_below hA2.below hc1, cell_below hA2.below hc2⟩, ?_⟩
            clear hK9
            generalize (wt1.alloc (.cells (zV fun _ => 0) 60)) = wt2 at *
            refine wpAnyH_all (rs := [11, 13]) (by kernel_rfl) (by simp) (fun i hi => ?_)
            rcases (by simpa using hi : i = 11 ∨ i = 13) with rfl | rfl
            · refine wpOp_step rfl (fun K9 hK9 => ?_)
              rw [if_pos (by rfl)]
              go_simp
              go_at_call 13
              refine (C2.out _ _ (hA2.termIn hD)).mono ?_
              rintro r wt3 ⟨rfl, hq3, hm3, kt3⟩
              have hA3 := hA2.term hq3 hm3 kt3 hA2.v_ne
              have hX3 := kt3.blk ⟨kX2, by have := h6X; omega⟩ hX2
              have kX3 := kX2
              have hs3 : w.heap.size + 6 ≤ wt3.heap.size := Nat.le_trans hs2 kt3.size
              refine hK9 _ _ ⟨⟨cell_below hA3.below hc1, cell_below hA3.below hc2⟩, ?_⟩
              clear hK9
              refine wpAnyH_all (rs := [13]) (by kernel_rfl) (by simp) (fun i hi => ?_)
              obtain rfl : i = 13 := by simpa using hi
              refine wpOp_step rfl (fun K9 hK9 => ?_)
              rw [if_pos (by rfl)]
              go_simp
              rw [zero_zV]
              have bx4 := (Below.refl wt3.heap.size wt3).alloc (Nat.le_refl _) (.cells (zV fun _ => 0) 60)
              have hY4 := blk_new wt3 (.cells (zV fun _ => 0) 60)
              have hA4 := hA3.alloc bx4
              have kY4 : More KT2 wt3 (wt3.alloc (.cells (zV fun _ => 0) 60)) wt3.heap.size := Or.inr ⟨Nat.le_refl _, by simp⟩
              have h6Y : w.heap.size + 6 ≤ wt3.heap.size := hs3
              have hs4 : w.heap.size + 6 ≤ (wt3.alloc (.cells (zV fun _ => 0) 60)).heap.size := Nat.le_trans hs3 bx4.size
              have nvY : u10.ownBlock ≠ some wt3.heap.size := fun e => by have := (hA3.own.own_lt e).2; omega
              have hX4 := blk_below hX3 bx4
              have kX4 : More KT2 wt3 (wt3.alloc (.cells (zV fun _ => 0) 60)) gX := Or.inl kX3
              have hne : gX ≠ wt3.heap.size := by have := (Array.getElem?_eq_some_iff.1 hX3).1; omega
              obtain ⟨gY, hgY⟩ : ∃ g, g = wt3.heap.size := ⟨_, rfl⟩
              rw [← hgY] at hY4 kY4 h6Y nvY hne
              generalize More KT2 wt3 (wt3.alloc (.cells (zV fun _ => 0) 60)) = KT4 at *
              refine hK9 _ _ ⟨⟨cell_below hA4.below hc1, cell_below hA4.below hc2⟩, ?_⟩
              clear hK9
              generalize (wt3.alloc (.cells (zV fun _ => 0) 60)) = wt4 at *
              have hXY : gX ≠ gY := by first | exact hne | exact fun e => hne e.symm
              have hAx := hA4.row kX4 h6X nvX (zV x.2)
              have hXx := setRow_heap _ _ _ (zV x.2) _ _ hX4
              have hYx := (setRow_other wt4 gX gY (zV x.2) (fun e => hXY e.symm)).trans hY4
              have hAy := hAx.row kY4 h6Y nvY (zV y.2)
              have hYy := setRow_heap _ _ _ (zV y.2) _ _ hYx
              have hXy := (setRow_other (wt4.setRow gX (zV x.2)) gY gX (zV y.2) hXY).trans hXx
              refine wpAnyH_all (rs := [14]) (by kernel_rfl) (by simp) (fun i hi => ?_)
              obtain rfl : i = 14 := by simpa using hi
              refine wpOp_step rfl (fun K9 hK9 => ?_)
              rw [if_pos (by rfl)]
              refine wp_store_row 60 (.tmp 12) (.tmp 48) rfl gX (zV x.2) (by first | rfl | (rw [hgX]; rfl)) rfl 60 _ hX4 (by rw [zV_size]; exact info_bits) (by rw [zV_size, zV_size]) (one_zV _) ?_
              refine hK9 _ _ ⟨⟨cell_below hAx.below hc1, cell_below hAx.below hc2⟩, ?_⟩
              clear hK9
              refine wpAnyH_all (rs := [15]) (by kernel_rfl) (by simp) (fun i hi => ?_)
              obtain rfl : i = 15 := by simpa using hi
              refine wpOp_step rfl (fun K9 hK9 => ?_)
              rw [if_pos (by rfl)]
              refine wp_store_row 60 (.tmp 13) (.tmp 54) rfl gY (zV y.2) (by first | rfl | (rw [hgY]; rfl)) rfl 60 _ hYx (by rw [zV_size]; exact info_bits) (by rw [zV_size, zV_size]) (one_zV _) ?_
              refine hK9 _ _ ⟨⟨cell_below hAy.below hc1, cell_below hAy.below hc2⟩, ?_⟩
              clear hK9
              refine wpAnyH_done (by kernel_rfl) ?_ _
              refine NoPanic.normal ?_
              go_wp2_with fail
              go_meet
              subst hgX
              subst hgY
              exact ⟨_, _, KT4, rfl, rfl, kX4, kY4, h6X, h6Y, nvX, nvY, hXy, hYy, hAy⟩
            · refine wpOp_step rfl (fun K9 hK9 => ?_)
              rw [if_pos (by rfl)]
              go_simp
              rw [zero_zV]
              have bx3 := (Below.refl wt2.heap.size wt2).alloc (Nat.le_refl _) (.cells (zV fun _ => 0) 60)
              have hY3 := blk_new wt2 (.cells (zV fun _ => 0) 60)
              have hA3 := hA2.alloc bx3
              have kY3 : More KT2 wt2 (wt2.alloc (.cells (zV fun _ => 0) 60)) wt2.heap.size := Or.inr ⟨Nat.le_refl _, by simp⟩
              have h6Y : w.heap.size + 6 ≤ wt2.heap.size := hs2
              have hs3 : w.heap.size + 6 ≤ (wt2.alloc (.cells (zV fun _ => 0) 60)).heap.size := Nat.le_trans hs2 bx3.size
              have nvY : u10.ownBlock ≠ some wt2.heap.size := fun e => by have := (hA2.own.own_lt e).2; omega
              have hX3 := blk_below hX2 bx3
              have kX3 : More KT2 wt2 (wt2.alloc (.cells (zV fun _ => 0) 60)) gX := Or.inl kX2
              have hne : gX ≠ wt2.heap.size := by have := (Array.getElem?_eq_some_iff.1 hX2).1; omega
              obtain ⟨gY, hgY⟩ : ∃ g, g = wt2.heap.size := ⟨_, rfl⟩
              rw [← hgY] at hY3 kY3 h6Y nvY hne
              generalize More KT2 wt2 (wt2.alloc (.cells (zV fun _ => 0) 60)) = KT3 at *
              refine hK9 _ _ ⟨⟨cell_below hA3.below hc1, cell_below hA3.below hc2⟩, ?_⟩
              clear hK9
              generalize (wt2.alloc (.cells (zV fun _ => 0) 60)) = wt3 at *
              refine wpAnyH_all (rs := [11]) (by kernel_rfl) (by simp) (fun i hi => ?_)
              obtain rfl : i = 11 := by simpa using hi
              refine wpOp_step rfl (fun K9 hK9 => ?_)
              rw [if_pos (by rfl)]
              go_simp
              go_at_call 13
              refine (C2.out _ _ (hA3.termIn hD)).mono ?_
              rintro r wt4 ⟨rfl, hq4, hm4, kt4⟩
              have hA4 := hA3.term hq4 hm4 kt4 hA3.v_ne
              have hX4 := kt4.blk ⟨kX3, by have := h6X; omega⟩ hX3
              have kX4 := kX3
              have hY4 := kt4.blk ⟨kY3, by have := h6Y; omega⟩ hY3
              have kY4 := kY3
              have hs4 : w.heap.size + 6 ≤ wt4.heap.size := Nat.le_trans hs3 kt4.size
              refine hK9 _ _ ⟨⟨cell_below hA4.below hc1, cell_below hA4.below hc2⟩, ?_⟩
              clear hK9
              have hXY : gX ≠ gY := by first | exact hne | exact fun e => hne e.symm
              have hAx := hA4.row kX4 h6X nvX (zV x.2)
              have hXx := setRow_heap _ _ _ (zV x.2) _ _ hX4
              have hYx := (setRow_other wt4 gX gY (zV x.2) (fun e => hXY e.symm)).trans hY4
              have hAy := hAx.row kY4 h6Y nvY (zV y.2)
              have hYy := setRow_heap _ _ _ (zV y.2) _ _ hYx
              have hXy := (setRow_other (wt4.setRow gX (zV x.2)) gY gX (zV y.2) hXY).trans hXx
              refine wpAnyH_all (rs := [14]) (by kernel_rfl) (by simp) (fun i hi => ?_)
              obtain rfl : i = 14 := by simpa using hi
              refine wpOp_step rfl (fun K9 hK9 => ?_)
              rw [if_pos (by rfl)]
              refine wp_store_row 60 (.tmp 12) (.tmp 48) rfl gX (zV x.2) (by first | rfl | (rw [hgX]; rfl)) rfl 60 _ hX4 (by rw [zV_size]; exact info_bits) (by rw [zV_size, zV_size]) (one_zV _) ?_
              refine hK9 _ _ ⟨⟨cell_below hAx.below hc1, cell_below hAx.below hc2⟩, ?_⟩
              clear hK9
              refine wpAnyH_all (rs := [15]) (by kernel_rfl) (by simp) (fun i hi => ?_)
              obtain rfl : i = 15 := by simpa using hi
              refine wpOp_step rfl (fun K9 hK9 => ?_)
              rw [if_pos (by rfl)]
              refine wp_store_row 60 (.tmp 13) (.tmp 54) rfl gY (zV y.2) (by first | rfl | (rw [hgY]; rfl)) rfl 60 _ hYx (by rw [zV_size]; exact info_bits) (by rw [zV_size, zV_size]) (one_zV _) ?_
              refine hK9 _ _ ⟨⟨cell_below hAy.below hc1, cell_below hAy.below hc2⟩, ?_⟩
              clear hK9
              refine wpAnyH_done (by kernel_rfl) ?_ _
              refine NoPanic.normal ?_
              go_wp2_with fail
              go_meet
              subst hgX
              subst hgY
              exact ⟨_, _, KT3, rfl, rfl, kX4, kY4, h6X, h6Y, nvX, nvY, hXy, hYy, hAy⟩
          · refine wpOp_step rfl (fun K9 hK9 => ?_)
            rw [if_pos (by rfl)]
            go_simp
            rw [zero_zV]
            have bx2 := (Below.refl wt1.heap.size wt1).alloc (Nat.le_refl _) (.cells (zV fun _ => 0) 60)
            have hY2 := blk_new wt1 (.cells (zV fun _ => 0) 60)
            have hA2 := hA1.alloc bx2
            have kY2 : More KT0 wt1 (wt1.alloc (.cells (zV fun _ => 0) 60)) wt1.heap.size := Or.inr ⟨Nat.le_refl _, by simp⟩
            have h6Y : w.heap.size + 6 ≤ wt1.heap.size := hs1
            have hs2 : w.heap.size + 6 ≤ (wt1.alloc (.cells (zV fun _ => 0) 60)).heap.size := Nat.le_trans hs1 bx2.size
            have nvY : u10.ownBlock ≠ some wt1.heap.size := fun e => by have := (hA1.own.own_lt e).2; omega
            obtain ⟨gY, hgY⟩ : ∃ g, g = wt1.heap.size := ⟨_, rfl⟩
            rw [← hgY] at hY2 kY2 h6Y nvY
            generalize More KT0 wt1 (wt1.alloc (.cells (zV fun _ => 0) 60)) = KT2 at *
            refine hK9 _ _ ⟨⟨cell_below hA2.below hc1, cell_below hA2.below hc2⟩, ?_⟩
            clear hK9
            generalize (wt1.alloc (.cells (zV fun _ => 0) 60)) = wt2 at *
            refine wpAnyH_all (rs := [11, 12]) (by kernel_rfl) (by simp) (fun i hi => ?_)
            rcases (by simpa using hi : i = 11 ∨ i = 12) with rfl | rfl
            · refine wpOp_step rfl (fun K9 hK9 => ?_)
              rw [if_pos (by rfl)]
              go_simp
              go_at_call 13
              refine (C2.out _ _ (hA2.termIn hD)).mono ?_
              rintro r wt3 ⟨rfl, hq3, hm3, kt3⟩
              have hA3 := hA2.term hq3 hm3 kt3 hA2.v_ne
              have hY3 := kt3.blk ⟨kY2, by have := h6Y; omega⟩ hY2
              have kY3 := kY2
              have hs3 : w.heap.size + 6 ≤ wt3.heap.size := Nat.le_trans hs2 kt3.size
              refine hK9 _ _ ⟨⟨cell_below hA3.below hc1, cell_below hA3.below hc2⟩, ?_⟩
              clear hK9
              refine wpAnyH_all (rs := [12]) (by kernel_rfl) (by simp) (fun i hi => ?_)
              obtain rfl : i = 12 := by simpa using hi
              refine wpOp_step rfl (fun K9 hK9 => ?_)
              rw [if_pos (by rfl)]
              go_simp
              rw [zero_zV]
              have bx4 := (Below.refl wt3.heap.size wt3).alloc (Nat.le_refl _) (.cells (zV fun _ => 0) 60)
              have hX4 := blk_new wt3 (.cells (zV fun _ => 0) 60)
              have hA4 := hA3.alloc bx4
              have kX4 : More KT2 wt3 (wt3.alloc (.cells (zV fun _ => 0) 60)) wt3.heap.size := Or.inr ⟨Nat.le_refl _, by simp⟩
              have h6X : w.heap.size + 6 ≤ wt3.heap.size := hs3
              have hs4 : w.heap.size + 6 ≤ (wt3.alloc (.cells (zV fun _ => 0) 60)).heap.size := Nat.le_trans hs3 bx4.size
              have nvX : u10.ownBlock ≠ some wt3.heap.size := fun e => by have := (hA3.own.own_lt e).2; omega
              have hY4 := blk_below hY3 bx4
              have kY4 : More KT2 wt3 (wt3.alloc (.cells (zV fun _ => 0) 60)) gY := Or.inl kY3
              have hne : gY ≠ wt3.heap.size := by have := (Array.getElem?_eq_some_iff.1 hY3).1; omega
              obtain ⟨gX, hgX⟩ : ∃ g, g = wt3.heap.size := ⟨_, rfl⟩
              rw [← hgX] at hX4 kX4 h6X nvX hne
              generalize More KT2 wt3 (wt3.alloc (.cells (zV fun _ => 0) 60)) = KT4 at *
              refine hK9 _ _ ⟨⟨cell_below hA4.below hc1, cell_below hA4.below hc2⟩, ?_⟩
              clear hK9
              generalize (wt3.alloc (.cells (zV fun _ => 0) 60)) = wt4 at *
              have hXY : gX ≠ gY := by first | exact hne | exact fun e => hne e.symm
              have hAx := hA4.row kX4 h6X nvX (zV x.2)
              have hXx := setRow_heap _ _ _ (zV x.2) _ _ hX4
              have hYx := (setRow_other wt4 gX gY (zV x.2) (fun e => hXY e.symm)).trans hY4
              have hAy := hAx.row kY4 h6Y nvY (zV y.2)
              have hYy := setRow_heap _ _ _ (zV y.2) _ _ hYx
              have hXy := (setRow_other (wt4.setRow gX (zV x.2)) gY gX (zV y.2) hXY).trans hXx
              refine wpAnyH_all (rs := [14]) (by kernel_rfl) (by simp) (fun i hi => ?_)
              obtain rfl : i = 14 := by simpa using hi
              refine wpOp_step rfl (fun K9 hK9 => ?_)
              rw [if_pos (by rfl)]
              refine wp_store_row 60 (.tmp 12) (.tmp 48) rfl gX (zV x.2) (by first | rfl | (rw [hgX]; rfl)) rfl 60 _ hX4 (by rw [zV_size]; exact info_bits) (by rw [zV_size, zV_size]) (one_zV _) ?_
              refine hK9 _ _ ⟨⟨cell_below hAx.below hc1, cell_below hAx.below hc2⟩, ?_⟩
              clear hK9
              refine wpAnyH_all (rs := [15]) (by kernel_rfl) (by simp) (fun i hi => ?_)
              obtain rfl : i = 15 := by simpa using hi
              refine wpOp_step rfl (fun K9 hK9 => ?_)
              rw [if_pos (by rfl)]
              refine wp_store_row 60 (.tmp 13) (.tmp 54) rfl gY (zV y.2) (by first | rfl | (rw [hgY]; rfl)) rfl 60 _ hYx (by rw [zV_size]; exact info_bits) (by rw [zV_size, zV_size]) (one_zV _) ?_
              refine hK9 _ _ ⟨⟨cell_below hAy.below hc1, cell_below hAy.below hc2⟩, ?_⟩
              clear hK9
              refine wpAnyH_done (by kernel_rfl) ?_ _
              refine NoPanic.normal ?_
              go_wp2_with fail
              go_meet
              subst hgX
              subst hgY
              exact ⟨_, _, KT4, rfl, rfl, kX4, kY4, h6X, h6Y, nvX, nvY, hXy, hYy, hAy⟩
            · refine wpOp_step rfl (fun K9 hK9 => ?_)
              rw [if_pos (by rfl)]
              go_simp
              rw [zero_zV]
              have bx3 := (Below.refl wt2.heap.size wt2).alloc (Nat.le_refl _) (.cells (zV fun _ => 0) 60)
              have hX3 := blk_new wt2 (.cells (zV fun _ => 0) 60)
              have hA3 := hA2.alloc bx3
              have kX3 : More KT2 wt2 (wt2.alloc (.cells (zV fun _ => 0) 60)) wt2.heap.size := Or.inr ⟨Nat.le_refl _, by simp⟩
              have h6X : w.heap.size + 6 ≤ wt2.heap.size := hs2
              have hs3 : w.heap.size + 6 ≤ (wt2.alloc (.cells (zV fun _ => 0) 60)).heap.size := Nat.le_trans hs2 bx3.size
              have nvX : u10.ownBlock ≠ some wt2.heap.size := fun e => by have := (hA2.own.own_lt e).2; omega
              have hY3 := blk_below hY2 bx3
              have kY3 : More KT2 wt2 (wt2.alloc (.cells (zV fun _ => 0) 60)) gY := Or.inl kY2
              have hne : gY ≠ wt2.heap.size := by have := (Array.getElem?_eq_some_iff.1 hY2).1; omega
              obtain ⟨gX, hgX⟩ : ∃ g, g = wt2.heap.size := ⟨_, rfl⟩
              rw [← hgX] at hX3 kX3 h6X nvX hne
              generalize More KT2 wt2 (wt2.alloc (.cells (zV fun _ => 0) 60)) = KT3 at *
              refine hK9 _ _ ⟨⟨cell_below hA3.below hc1, cell_below hA3.below hc2⟩, ?_⟩
              clear hK9
              generalize (wt2.alloc (.cells (zV fun _ => 0) 60)) = wt3 at *
              refine wpAnyH_all (rs := [11]) (by kernel_rfl) (by simp) (fun i hi => ?_)
              obtain rfl : i = 11 := by simpa using hi
              refine wpOp_step rfl (fun K9 hK9 => ?_)
              rw [if_pos (by rfl)]
              go_simp
              go_at_call 13
              refine (C2.out _ _ (hA3.termIn hD)).mono ?_
              rintro r wt4 ⟨rfl, hq4, hm4, kt4⟩
              have hA4 := hA3.term hq4 hm4 kt4 hA3.v_ne
              have hX4 := kt4.blk ⟨kX3, by have := h6X; omega⟩ hX3
              have kX4 := kX3
              have hY4 := kt4.blk ⟨kY3, by have := h6Y; omega⟩ hY3
              have kY4 := kY3
              have hs4 : w.heap.size + 6 ≤ wt4.heap.size := Nat.le_trans hs3 kt4.size
              refine hK9 _ _ ⟨⟨cell_below hA4.below hc1, cell_below hA4.below hc2⟩, ?_⟩
              clear hK9
              have hXY : gX ≠ gY := by first | exact hne | exact fun e => hne e.symm
              have hAx := hA4.row kX4 h6X nvX (zV x.2)
              have hXx := setRow_heap _ _ _ (zV x.2) _ _ hX4
              have hYx := (setRow_other wt4 gX gY (zV x.2) (fun e => hXY e.symm)).trans hY4
              have hAy := hAx.row kY4 h6Y nvY (zV y.2)
              have hYy := setRow_heap _ _ _ (zV y.2) _ _ hYx
              have hXy := (setRow_other (wt4.setRow gX (zV x.2)) gY gX (zV y.2) hXY).trans hXx
              refine wpAnyH_all (rs := [14]) (by kernel_rfl) (by simp) (fun i hi => ?_)
              obtain rfl : i = 14 := by simpa using hi
              refine wpOp_step rfl (fun K9 hK9 => ?_)
              rw [if_pos (by rfl)]
              refine wp_store_row 60 (.tmp 12) (.tmp 48) rfl gX (zV x.2) (by first | rfl | (rw [hgX]; rfl)) rfl 60 _ hX4 (by rw [zV_size]; exact info_bits) (by rw [zV_size, zV_size]) (one_zV _) ?_
              refine hK9 _ _ ⟨⟨cell_below hAx.below hc1, cell_below hAx.below hc2⟩, ?_⟩
              clear hK9
              refine wpAnyH_all (rs := [15]) (by kernel_rfl) (by simp) (fun i hi => ?_)
              obtain rfl : i = 15 := by simpa using hi
              refine wpOp_step rfl (fun K9 hK9 => ?_)
              rw [if_pos (by rfl)]
              refine wp_store_row 60 (.tmp 13) (.tmp 54) rfl gY (zV y.2) (by first | rfl | (rw [hgY]; rfl)) rfl 60 _ hYx (by rw [zV_size]; exact info_bits) (by rw [zV_size, zV_size]) (one_zV _) ?_
              refine hK9 _ _ ⟨⟨cell_below hAy.below hc1, cell_below hAy.below hc2⟩, ?_⟩
              clear hK9
              refine wpAnyH_done (by kernel_rfl) ?_ _
              refine NoPanic.normal ?_
              go_wp2_with fail
              go_meet
              subst hgX
              subst hgY
              exact ⟨_, _, KT3, rfl, rfl, kX4, kY4, h6X, h6Y, nvX, nvY, hXy, hYy, hAy⟩
        · refine wpOp_step rfl (fun K9 hK9 => ?_)
          rw [if_pos (by rfl)]
          go_simp
          rw [zero_zV]
          have bx1 := (Below.refl wt0.heap.size wt0).alloc (Nat.le_refl _) (.cells (zV fun _ => 0) 60)
          have hX1 := blk_new wt0 (.cells (zV fun _ => 0) 60)
          have hA1 := hA0.alloc bx1
          have kX1 : More KT0 wt0 (wt0.alloc (.cells (zV fun _ => 0) 60)) wt0.heap.size := Or.inr ⟨Nat.le_refl _, by simp⟩
          have h6X : w.heap.size + 6 ≤ wt0.heap.size := hs0
          have hs1 : w.heap.size + 6 ≤ (wt0.alloc (.cells (zV fun _ => 0) 60)).heap.size := Nat.le_trans hs0 bx1.size
          have nvX : u10.ownBlock ≠ some wt0.heap.size := fun e => by have := (hA0.own.own_lt e).2; omega
          obtain ⟨gX, hgX⟩ : ∃ g, g = wt0.heap.size := ⟨_, rfl⟩
          rw [← hgX] at hX1 kX1 h6X nvX
          generalize More KT0 wt0 (wt0.alloc (.cells (zV fun _ => 0) 60)) = KT1 at *
          refine hK9 _ _ ⟨⟨cell_below hA1.below hc1, cell_below hA1.below hc2⟩, ?_⟩
          clear hK9
          generalize (wt0.alloc (.cells (zV fun _ => 0) 60)) = wt1 at *
          refine wpAnyH_all (rs := [5, 13]) (by kernel_rfl) (by simp) (fun i hi => ?_)
          rcases (by simpa using hi : i = 5 ∨ i = 13) with rfl | rfl
          · refine wpOp_step rfl (fun K9 hK9 => ?_)
            rw [if_pos (by rfl)]
            go_simp
            go_at_call 13
            refine (C1.out _ _ (hA1.termIn hD)).mono ?_
            rintro r wt2 ⟨rfl, hq2, hm2, kt2⟩
            have hA2 := hA1.term hq2 hm2 kt2 hA1.v_ne
            have hX2 := kt2.blk ⟨kX1, by have := h6X; omega⟩ hX1
            have kX2 := kX1
            have hs2 : w.heap.size + 6 ≤ wt2.heap.size := Nat.le_trans hs1 kt2.size
            refine hK9 _ _ ⟨⟨cell_below hA2.below hc1, cell_below hA2.below hc2⟩, ?_⟩
            clear hK9
            refine wpAnyH_all (rs := [11, 13]) (by kernel_rfl) (by simp) (fun i hi => ?_)
            rcases (by simpa using hi : i = 11 ∨ i = 13) with rfl | rfl
            · refine wpOp_step rfl (fun K9 hK9 => ?_)
              rw [if_pos (by rfl)]
              go_simp
              go_at_call 13
              refine (C2.out _ _ (hA2.termIn hD)).mono ?_
              rintro r wt3 ⟨rfl, hq3, hm3, kt3⟩
              have hA3 := hA2.term hq3 hm3 kt3 hA2.v_ne
              have hX3 := kt3.blk ⟨kX2, by have := h6X; omega⟩ hX2
              have kX3 := kX2
              have hs3 : w.heap.size + 6 ≤ wt3.heap.size := Nat.le_trans hs2 kt3.size
              refine hK9 _ _ ⟨⟨cell_below hA3.below hc1, cell_below hA3.below hc2⟩, ?_⟩
              clear hK9
              refine wpAnyH_all (rs := [13]) (by kernel_rfl) (by simp) (fun i hi => ?_)
              obtain rfl : i = 13 := by simpa using hi
              refine wpOp_step rfl (fun K9 hK9 => ?_)
              rw [if_pos (by rfl)]
              go_simp
              rw [zero_zV]
              have bx4 := (Below.refl wt3.heap.size wt3).alloc (Nat.le_refl _) (.cells (zV fun _ => 0) 60)
              have hY4 := blk_new wt3 (.cells (zV fun _ => 0) 60)
              have hA4 := hA3.alloc bx4
              have kY4 : More KT1 wt3 (wt3.alloc (.cells (zV fun _ => 0) 60)) wt3.heap.size := Or.inr ⟨Nat.le_refl _, by simp⟩
              have h6Y : w.heap.size + 6 ≤ wt3.heap.size := hs3
              have hs4 : w.heap.size + 6 ≤ (wt3.alloc (.cells (zV fun _ => 0) 60)).heap.size := Nat.le_trans hs3 bx4.size
              have nvY : u10.ownBlock ≠ some wt3.heap.size := fun e => by have := (hA3.own.own_lt e).2; omega
              have hX4 := blk_below hX3 bx4
              have kX4 : More KT1 wt3 (wt3.alloc (.cells (zV fun _ => 0) 60)) gX := Or.inl kX3
              have hne : gX ≠ wt3.heap.size := by have := (Array.getElem?_eq_some_iff.1 hX3).1; omega
              obtain ⟨gY, hgY⟩ : ∃ g, g = wt3.heap.size := ⟨_, rfl⟩
              rw [← hgY] at hY4 kY4 h6Y nvY hne
              generalize More KT1 wt3 (wt3.alloc (.cells (zV fun _ => 0) 60)) = KT4 at *
              refine hK9 _ _ ⟨⟨cell_below hA4.below hc1, cell_below hA4.below hc2⟩, ?_⟩
              clear hK9
              generalize (wt3.alloc (.cells (zV fun _ => 0) 60)) = wt4 at *
              have hXY : gX ≠ gY := by first | exact hne | exact fun e => hne e.symm
              have hAx := hA4.row kX4 h6X nvX (zV x.2)
              have hXx := setRow_heap _ _ _ (zV x.2) _ _ hX4
              have hYx := (setRow_other wt4 gX gY (zV x.2) (fun e => hXY e.symm)).trans hY4
              have hAy := hAx.row kY4 h6Y nvY (zV y.2)
              have hYy := setRow_heap _ _ _ (zV y.2) _ _ hYx
              have hXy := (setRow_other (wt4.setRow gX (zV x.2)) gY gX (zV y.2) hXY).trans hXx
              refine wpAnyH_all (rs := [14]) (by kernel_rfl) (by simp) (fun i hi => ?_)
              obtain rfl : i = 14 := by simpa using hi
              refine wpOp_step rfl (fun K9 hK9 => ?_)
              rw [if_pos (by rfl)]
              refine wp_store_row 60 (.tmp 12) (.tmp 48) rfl gX (zV x.2) (by first | rfl | (rw [hgX]; rfl)) rfl 60 _ hX4 (by rw [zV_size]; exact info_bits) (by rw [zV_size, zV_size]) (one_zV _) ?_
              refine hK9 _ _ ⟨⟨cell_below hAx.below hc1, cell_below hAx.below hc2⟩, ?_⟩
              clear hK9
              refine wpAnyH_all (rs := [15]) (by kernel_rfl) (by simp) (fun i hi => ?_)
              obtain rfl : i = 15 := by simpa using hi
              refine wpOp_step rfl (fun K9 hK9 => ?_)
              rw [if_pos (by rfl)]
              refine wp_store_row 60 (.tmp 13) (.tmp 54) rfl gY (zV y.2) (by first | rfl | (rw [hgY]; rfl)) rfl 60 _ hYx (by rw [zV_size]; exact info_bits) (by rw [zV_size, zV_size]) (one_zV _) ?_
              refine hK9 _ _ ⟨⟨cell_below hAy.below hc1, cell_below hAy.below hc2⟩, ?_⟩
              clear hK9
              refine wpAnyH_done (by kernel_rfl) ?_ _
              refine NoPanic.normal ?_
              go_wp2_with fail
              go_meet
              subst hgX
              subst hgY
              exact ⟨_, _, KT4, rfl, rfl, kX4, kY4, h6X, h6Y, nvX, nvY, hXy, hYy, hAy⟩
            · refine wpOp_step rfl (fun K9 hK9 => ?_)
              rw [if_pos (by rfl)]
              go_simp
              rw [zero_zV]
              have bx3 := (Below.refl wt2.heap.size wt2).alloc (Nat.le_refl _) (.cells (zV fun _ => 0) 60)
              have hY3 := blk_new wt2 (.cells (zV fun _ => 0) 60)
              have hA3 := hA2.alloc bx3
              have kY3 : More KT1 wt2 (wt2.alloc (.cells (zV fun _ => 0) 60)) wt2.heap.size := Or.inr ⟨Nat.le_refl _, by simp⟩
              have h6Y : w.heap.size + 6 ≤ wt2.heap.size := hs2
              have hs3 : w.heap.size + 6 ≤ (wt2.alloc (.cells (zV fun _ => 0) 60)).heap.size := Nat.le_trans hs2 bx3.size
              have nvY : u10.ownBlock ≠ some wt2.heap.size := fun e => by have := (hA2.own.own_lt e).2; omega
              have hX3 := blk_below hX2 bx3
              have kX3 : More KT1 wt2 (wt2.alloc (.cells (zV fun _ => 0) 60)) gX := Or.inl kX2
              have hne : gX ≠ wt2.heap.size := by have := (Array.getElem?_eq_some_iff.1 hX2).1; omega
              obtain ⟨gY, hgY⟩ : ∃ g, g = wt2.heap.size := ⟨_, rfl⟩
              rw [← hgY] at hY3 kY3 h6Y nvY hne
              generalize More KT1 wt2 (wt2.alloc (.cells (zV fun _ => 0) 60)) = KT3 at *
              refine hK9 _ _ ⟨⟨cell_below hA3.below hc1, cell_below hA3.below hc2⟩, ?_⟩
              clear hK9
              generalize (wt2.alloc (.cells (zV fun _ => 0) 60)) = wt3 at *
              refine wpAnyH_all (rs := [11]) (by kernel_rfl) (by simp) (fun i hi => ?_)
              obtain rfl : i = 11 := by simpa using hi
              refine wpOp_step rfl (fun K9 hK9 => ?_)
              rw [if_pos (by rfl)]
              go_simp
              go_at_call 13
              refine (C2.out _ _ (hA3.termIn hD)).mono ?_
              rintro r wt4 ⟨rfl, hq4, hm4, kt4⟩
              have hA4 := hA3.term hq4 hm4 kt4 hA3.v_ne
              have hX4 := kt4.blk ⟨kX3, by have := h6X; omega⟩ hX3
              have kX4 := kX3
              have hY4 := kt4.blk ⟨kY3, by have := h6Y; omega⟩ hY3
              have kY4 := kY3
              have hs4 : w.heap.size + 6 ≤ wt4.heap.size := Nat.le_trans hs3 kt4.size
              refine hK9 _ _ ⟨⟨cell_below hA4.below hc1, cell_below hA4.below hc2⟩, ?_⟩
              clear hK9
              have hXY : gX ≠ gY := by first | exact hne | exact fun e => hne e.symm
              have hAx := hA4.row kX4 h6X nvX (zV x.2)
              have hXx := setRow_heap _ _ _ (zV x.2) _ _ hX4
              have hYx := (setRow_other wt4 gX gY (zV x.2) (fun e => hXY e.symm)).trans hY4
              have hAy := hAx.row kY4 h6Y nvY (zV y.2)
              have hYy := setRow_heap _ _ _ (zV y.2) _ _ hYx
              have hXy := (setRow_other (wt4.setRow gX (zV x.2)) gY gX (zV y.2) hXY).trans hXx
              refine wpAnyH_all (rs := [14]) (by kernel_rfl) (by simp) (fun i hi => ?_)
              obtain rfl : i = 14 := by simpa using hi
              refine wpOp_step rfl (fun K9 hK9 => ?_)
              rw [if_pos (by rfl)]
              refine wp_store_row 60 (.tmp 12) (.tmp 48) rfl gX (zV x.2) (by first | rfl | (rw [hgX]; rfl)) rfl 60 _ hX4 (by rw [zV_size]; exact info_bits) (by rw [zV_size, zV_size]) (one_zV _) ?_
              refine hK9 _ _ ⟨⟨cell_below hAx.below hc1, cell_below hAx.below hc2⟩, ?_⟩
              clear hK9
              refine wpAnyH_all (rs := [15]) (by kernel_rfl) (by simp) (fun i hi => ?_)
              obtain rfl : i = 15 := by simpa using hi
              refine wpOp_step rfl (fun K9 hK9 => ?_)
              rw [if_pos (by rfl)]
              refine wp_store_row 60 (.tmp 13) (.tmp 54) rfl gY (zV y.2) (by first | rfl | (rw [hgY]; rfl)) rfl 60 _ hYx (by rw [zV_size]; exact info_bits) (by rw [zV_size, zV_size]) (one_zV _) ?_
              refine hK9 _ _ ⟨⟨cell_below hAy.below hc1, cell_below hAy.below hc2⟩, ?_⟩
              clear hK9
              refine wpAnyH_done (by kernel_rfl) ?_ _
              refine NoPanic.normal ?_
              go_wp2_with fail
              go_meet
              subst hgX
              subst hgY
              exact ⟨_, _, KT3, rfl, rfl, kX4, kY4, h6X, h6Y, nvX, nvY, hXy, hYy, hAy⟩
          · refine wpOp_step rfl (fun K9 hK9 => ?_)
            rw [if_pos (by rfl)]
            go_simp
            rw [zero_zV]
            have bx2 := (Below.refl wt1.heap.size wt1).alloc (Nat.le_refl _) (.cells (zV fun _ => 0) 60)
            have hY2 := blk_new wt1 (.cells (zV fun _ => 0) 60)
            have hA2 := hA1.alloc bx2
            have kY2 : More KT1 wt1 (wt1.alloc (.cells (zV fun _ => 0) 60)) wt1.heap.size := Or.inr ⟨Nat.le_refl _, by simp⟩
            have h6Y : w.heap.size + 6 ≤ wt1.heap.size := hs1
            have hs2 : w.heap.size + 6 ≤ (wt1.alloc (.cells (zV fun _ => 0) 60)).heap.size := Nat.le_trans hs1 bx2.size
            have nvY : u10.ownBlock ≠ some wt1.heap.size := fun e => by have := (hA1.own.own_lt e).2; omega
            have hX2 := blk_below hX1 bx2
            have kX2 : More KT1 wt1 (wt1.alloc (.cells (zV fun _ => 0) 60)) gX := Or.inl kX1
            have hne : gX ≠ wt1.heap.size := by have := (Array.getElem?_eq_some_iff.1 hX1).1; omega
            obtain ⟨gY, hgY⟩ : ∃ g, g = wt1.heap.size := ⟨_, rfl⟩
            rw [← hgY] at hY2 kY2 h6Y nvY hne
            generalize More KT1 wt1 (wt1.alloc (.cells (zV fun _ => 0) 60)) = KT2 at *
            refine hK9 _ _ ⟨⟨cell_below hA2.below hc1, cell_below hA2.below hc2⟩, ?_⟩
            clear hK9
            generalize (wt1.alloc (.cells (zV fun _ => 0) 60)) = wt2 at *
            refine wpAnyH_all (rs := [5]) (by kernel_rfl) (by simp) (fun i hi => ?_)
            obtain rfl : i = 5 := by simpa using hi
            refine wpOp_step rfl (fun K9 hK9 => ?_)
            rw [if_pos (by rfl)]
            go_simp
            go_at_call 13
            refine (C1.out _ _ (hA2.termIn hD)).mono ?_
            rintro r wt3 ⟨rfl, hq3, hm3, kt3⟩
            have hA3 := hA2.term hq3 hm3 kt3 hA2.v_ne
            have hX3 := kt3.blk ⟨kX2, by have := h6X; omega⟩ hX2
            have kX3 := kX2
            have hY3 := kt3.blk ⟨kY2, by have := h6Y; omega⟩ hY2
            have kY3 := kY2
            have hs3 : w.heap.size + 6 ≤ wt3.heap.size := Nat.le_trans hs2 kt3.size
            refine hK9 _ _ ⟨⟨cell_below hA3.below hc1, cell_below hA3.below hc2⟩, ?_⟩
            clear hK9
            refine wpAnyH_all (rs := [11]) (by kernel_rfl) (by simp) (fun i hi => ?_)
            obtain rfl : i = 11 := by simpa using hi
            refine wpOp_step rfl (fun K9 hK9 => ?_)
            rw [if_pos (by rfl)]
            go_simp
            go_at_call 13
            refine (C2.out _ _ (hA3.termIn hD)).mono ?_
            rintro r wt4 ⟨rfl, hq4, hm4, kt4⟩
            have hA4 := hA3.term hq4 hm4 kt4 hA3.v_ne
            have hX4 := kt4.blk ⟨kX3, by have := h6X; omega⟩ hX3
            have kX4 := kX3
            have hY4 := kt4.blk ⟨kY3, by have := h6Y; omega⟩ hY3
            have kY4 := kY3
            have hs4 : w.heap.size + 6 ≤ wt4.heap.size := Nat.le_trans hs3 kt4.size
            refine hK9 _ _ ⟨⟨cell_below hA4.below hc1, cell_below hA4.below hc2⟩, ?_⟩
            clear hK9
            have hXY : gX ≠ gY := by first | exact hne | exact fun e => hne e.symm
            have hAx := hA4.row kX4 h6X nvX (zV x.2)
            have hXx := setRow_heap _ _ _ (zV x.2) _ _ hX4
            have hYx := (setRow_other wt4 gX gY (zV x.2) (fun e => hXY e.symm)).trans hY4
            have hAy := hAx.row kY4 h6Y nvY (zV y.2)
            have hYy := setRow_heap _ _ _ (zV y.2) _ _ hYx
            have hXy := (setRow_other (wt4.setRow gX (zV x.2)) gY gX (zV y.2) hXY).trans hXx
            refine wpAnyH_all (rs := [14]) (by kernel_rfl) (by simp) (fun i hi => ?_)
            obtain rfl : i = 14 := by simpa using hi
            refine wpOp_step rfl (fun K9 hK9 => ?_)
            rw [if_pos (by rfl)]
            refine wp_store_row 60 (.tmp 12) (.tmp 48) rfl gX (zV x.2) (by first | rfl | (rw [hgX]; rfl)) rfl 60 _ hX4 (by rw [zV_size]; exact info_bits) (by rw [zV_size, zV_size]) (one_zV _) ?_
            refine hK9 _ _ ⟨⟨cell_below hAx.below hc1, cell_below hAx.below hc2⟩, ?_⟩
            clear hK9
            refine wpAnyH_all (rs := [15]) (by kernel_rfl) (by simp) (fun i hi => ?_)
            obtain rfl : i = 15 := by simpa using hi
            refine wpOp_step rfl (fun K9 hK9 => ?_)
            rw [if_pos (by rfl)]
            refine wp_store_row 60 (.tmp 13) (.tmp 54) rfl gY (zV y.2) (by first | rfl | (rw [hgY]; rfl)) rfl 60 _ hYx (by rw [zV_size]; exact info_bits) (by rw [zV_size, zV_size]) (one_zV _) ?_
            refine hK9 _ _ ⟨⟨cell_below hAy.below hc1, cell_below hAy.below hc2⟩, ?_⟩
            clear hK9
            refine wpAnyH_done (by kernel_rfl) ?_ _
            refine NoPanic.normal ?_
            go_wp2_with fail
            go_meet
            subst hgX
            subst hgY
            exact ⟨_, _, KT2, rfl, rfl, kX4, kY4, h6X, h6Y, nvX, nvY, hXy, hYy, hAy⟩
        · refine wpOp_step rfl (fun K9 hK9 => ?_)
          rw [if_pos (by rfl)]
          go_simp
          rw [zero_zV]
          have bx1 := (Below.refl wt0.heap.size wt0).alloc (Nat.le_refl _) (.cells (zV fun _ => 0) 60)
          have hY1 := blk_new wt0 (.cells (zV fun _ => 0) 60)
          have hA1 := hA0.alloc bx1
          have kY1 : More KT0 wt0 (wt0.alloc (.cells (zV fun _ => 0) 60)) wt0.heap.size := Or.inr ⟨Nat.le_refl _, by simp⟩
          have h6Y : w.heap.size + 6 ≤ wt0.heap.size := hs0
          have hs1 : w.heap.size + 6 ≤ (wt0.alloc (.cells (zV fun _ => 0) 60)).heap.size := Nat.le_trans hs0 bx1.size
          have nvY : u10.ownBlock ≠ some wt0.heap.size := fun e => by have := (hA0.own.own_lt e).2; omega
          obtain ⟨gY, hgY⟩ : ∃ g, g = wt0.heap.size := ⟨_, rfl⟩
          rw [← hgY] at hY1 kY1 h6Y nvY
          generalize More KT0 wt0 (wt0.alloc (.cells (zV fun _ => 0) 60)) = KT1 at *
          refine hK9 _ _ ⟨⟨cell_below hA1.below hc1, cell_below hA1.below hc2⟩, ?_⟩
          clear hK9
          generalize (wt0.alloc (.cells (zV fun _ => 0) 60)) = wt1 at *
          refine wpAnyH_all (rs := [5, 12]) (by kernel_rfl) (by simp) (fun i hi => ?_)
          rcases (by simpa using hi : i = 5 ∨ i = 12) with rfl | rfl
          · refine wpOp_step rfl (fun K9 hK9 => ?_)
            rw [if_pos (by rfl)]
            go_simp
            go_at_call 13
            refine (C1.out _ _ (hA1.termIn hD)).mono ?_
            rintro r wt2 ⟨rfl, hq2, hm2, kt2⟩
            have hA2 := hA1.term hq2 hm2 kt2 hA1.v_ne
            have hY2 := kt2.blk ⟨kY1, by have := h6Y; omega⟩ hY1
            have kY2 := kY1
            have hs2 : w.heap.size + 6 ≤ wt2.heap.size := Nat.le_trans hs1 kt2.size
            refine hK9 _ _ ⟨⟨cell_below hA2.below hc1, cell_below hA2.below hc2⟩, ?_⟩
            clear hK9
            refine wpAnyH_all (rs := [11, 12]) (by kernel_rfl) (by simp) (fun i hi => ?_)
            rcases (by simpa using hi : i = 11 ∨ i = 12) with rfl | rfl
            · refine wpOp_step rfl (fun K9 hK9 => ?_)
              rw [if_pos (by rfl)]
              go_simp
              go_at_call 13
              refine (C2.out _ _ (hA2.termIn hD)).mono ?_
              rintro r wt3 ⟨rfl, hq3, hm3, kt3⟩
              have hA3 := hA2.term hq3 hm3 kt3 hA2.v_ne
              have hY3 := kt3.blk ⟨kY2, by have := h6Y; omega⟩ hY2
              have kY3 := kY2
              have hs3 : w.heap.size + 6 ≤ wt3.heap.size := Nat.le_trans hs2 kt3.size
              refine hK9 _ _ ⟨⟨cell_below hA3.below hc1, cell_below hA3.below hc2⟩, ?_⟩
              clear hK9
              refine wpAnyH_all (rs := [12]) (by kernel_rfl) (by simp) (fun i hi => ?_)
              obtain rfl : i = 12 := by simpa using hi
              refine wpOp_step rfl (fun K9 hK9 => ?_)
              rw [if_pos (by rfl)]
              go_simp
              rw [zero_zV]
              have bx4 := (Below.refl wt3.heap.size wt3).alloc (Nat.le_refl _) (.cells (zV fun _ => 0) 60)
              have hX4 := blk_new wt3 (.cells (zV fun _ => 0) 60)
              have hA4 := hA3.alloc bx4
              have kX4 : More KT1 wt3 (wt3.alloc (.cells (zV fun _ => 0) 60)) wt3.heap.size := Or.inr ⟨Nat.le_refl _, by simp⟩
              have h6X : w.heap.size + 6 ≤ wt3.heap.size := hs3
              have hs4 : w.heap.size + 6 ≤ (wt3.alloc (.cells (zV fun _ => 0) 60)).heap.size := Nat.le_trans hs3 bx4.size
              have nvX : u10.ownBlock ≠ some wt3.heap.size := fun e => by have := (hA3.own.own_lt e).2; omega
              have hY4 := blk_below hY3 bx4
              have kY4 : More KT1 wt3 (wt3.alloc (.cells (zV fun _ => 0) 60)) gY := Or.inl kY3
              have hne : gY ≠ wt3.heap.size := by have := (Array.getElem?_eq_some_iff.1 hY3).1; omega
              obtain ⟨gX, hgX⟩ : ∃ g, g = wt3.heap.size := ⟨_, rfl⟩
              rw [← hgX] at hX4 kX4 h6X nvX hne
              generalize More KT1 wt3 (wt3.alloc (.cells (zV fun _ => 0) 60)) = KT4 at *
              refine hK9 _ _ ⟨⟨cell_below hA4.below hc1, cell_below hA4.below hc2⟩, ?_⟩
              clear hK9
              generalize (wt3.alloc (.cells (zV fun _ => 0) 60)) = wt4 at *
              have hXY : gX ≠ gY := by first | exact hne | exact fun e => hne e.symm
              have hAx := hA4.row kX4 h6X nvX (zV x.2)
              have hXx := setRow_heap _ _ _ (zV x.2) _ _ hX4
              have hYx := (setRow_other wt4 gX gY (zV x.2) (fun e => hXY e.symm)).trans hY4
              have hAy := hAx.row kY4 h6Y nvY (zV y.2)
              have hYy := setRow_heap _ _ _ (zV y.2) _ _ hYx
              have hXy := (setRow_other (wt4.setRow gX (zV x.2)) gY gX (zV y.2) hXY).trans hXx
              refine wpAnyH_all (rs := [14]) (by kernel_rfl) (by simp) (fun i hi => ?_)
              obtain rfl : i = 14 := by simpa using hi
              refine wpOp_step rfl (fun K9 hK9 => ?_)
              rw [if_pos (by rfl)]
              refine wp_store_row 60 (.tmp 12) (.tmp 48) rfl gX (zV x.2) (by first | rfl | (rw [hgX]; rfl)) rfl 60 _ hX4 (by rw [zV_size]; exact info_bits) (by rw [zV_size, zV_size]) (one_zV _) ?_
              refine hK9 _ _ ⟨⟨cell_below hAx.below hc1, cell_below hAx.below hc2⟩, ?_⟩
              clear hK9
              refine wpAnyH_all (rs := [15]) (by kernel_rfl) (by simp) (fun i hi => ?_)
              obtain rfl : i = 15 := by simpa using hi
              refine wpOp_step rfl (fun K9 hK9 => ?_)
              rw [if_pos (by rfl)]
              refine wp_store_row 60 (.tmp 13) (.tmp 54) rfl gY (zV y.2) (by first | rfl | (rw [hgY]; rfl)) rfl 60 _ hYx (by rw [zV_size]; exact info_bits) (by rw [zV_size, zV_size]) (one_zV _) ?_
              refine hK9 _ _ ⟨⟨cell_below hAy.below hc1, cell_below hAy.below hc2⟩, ?_⟩
              clear hK9
              refine wpAnyH_done (by kernel_rfl) ?_ _
              refine NoPanic.normal ?_
              go_wp2_with fail
              go_meet
              subst hgX
              subst hgY
              exact ⟨_, _, KT4, rfl, rfl, kX4, kY4, h6X, h6Y, nvX, nvY, hXy, hYy, hAy⟩
            · refine wpOp_step rfl (fun K9 hK9 => ?_)
              rw [if_pos (by rfl)]
              go_simp
              rw [zero_zV]
              have bx3 := (Below.refl wt2.heap.size wt2).alloc (Nat.le_refl _) (.cells (zV fun _ => 0) 60)
              have hX3 := blk_new wt2 (.cells (zV fun _ => 0) 60)
              have hA3 := hA2.alloc bx3
              have kX3 : More KT1 wt2 (wt2.alloc (.cells (zV fun _ => 0) 60)) wt2.heap.size := Or.inr ⟨Nat.le_refl _, by simp⟩
              have h6X : w.heap.size + 6 ≤ wt2.heap.size := hs2
              have hs3 : w.heap.size + 6 ≤ (wt2.alloc (.cells (zV fun _ => 0) 60)).heap.size := Nat.le_trans hs2 bx3.size
              have nvX : u10.ownBlock ≠ some wt2.heap.size := fun e => by have := (hA2.own.own_lt e).2; omega
              have hY3 := blk_below hY2 bx3
              have kY3 : More KT1 wt2 (wt2.alloc (.cells (zV fun _ => 0) 60)) gY := Or.inl kY2
              have hne : gY ≠ wt2.heap.size := by have := (Array.getElem?_eq_some_iff.1 hY2).1; omega
              obtain ⟨gX, hgX⟩ : ∃ g, g = wt2.heap.size := ⟨_, rfl⟩
              rw [← hgX] at hX3 kX3 h6X nvX hne
              generalize More KT1 wt2 (wt2.alloc (.cells (zV fun _ => 0) 60)) = KT3 at *
              refine hK9 _ _ ⟨⟨cell_below hA3.below hc1, cell_below hA3.below hc2⟩, ?_⟩
              clear hK9
              generalize (wt2.alloc (.cells (zV fun _ => 0) 60)) = wt3 at *
              refine wpAnyH_all (rs := [11]) (by kernel_rfl) (by simp) (fun i hi => ?_)
              obtain rfl : i = 11 := by simpa using hi
              refine wpOp_step rfl (fun K9 hK9 => ?_)
              rw [if_pos (by rfl)]
              go_simp
              go_at_call 13
              refine (C2.out _ _ (hA3.termIn hD)).mono ?_
              rintro r wt4 ⟨rfl, hq4, hm4, kt4⟩
              have hA4 := hA3.term hq4 hm4 kt4 hA3.v_ne
              have hX4 := kt4.blk ⟨kX3, by have := h6X; omega⟩ hX3
              have kX4 := kX3
              have hY4 := kt4.blk ⟨kY3, by have := h6Y; omega⟩ hY3
              have kY4 := kY3
              have hs4 : w.heap.size + 6 ≤ wt4.heap.size := Nat.le_trans hs3 kt4.size
              refine hK9 _ _ ⟨⟨cell_below hA4.below hc1, cell_below hA4.below hc2⟩, ?_⟩
              clear hK9
              have hXY : gX ≠ gY := by first | exact hne | exact fun e => hne e.symm
              have hAx := hA4.row kX4 h6X nvX (zV x.2)
              have hXx := setRow_heap _ _ _ (zV x.2) _ _ hX4
              have hYx := (setRow_other wt4 gX gY (zV x.2) (fun e => hXY e.symm)).trans hY4
              have hAy := hAx.row kY4 h6Y nvY (zV y.2)
              have hYy := setRow_heap _ _ _ (zV y.2) _ _ hYx
              have hXy := (setRow_other (wt4.setRow gX (zV x.2)) gY gX (zV y.2) hXY).trans hXx
              refine wpAnyH_all (rs := [14]) (by kernel_rfl) (by simp) (fun i hi => ?_)
              obtain rfl : i = 14 := by simpa using hi
              refine wpOp_step rfl (fun K9 hK9 => ?_)
              rw [if_pos (by rfl)]
              refine wp_store_row 60 (.tmp 12) (.tmp 48) rfl gX (zV x.2) (by first | rfl | (rw [hgX]; rfl)) rfl 60 _ hX4 (by rw [zV_size]; exact info_bits) (by rw [zV_size, zV_size]) (one_zV _) ?_
              refine hK9 _ _ ⟨⟨cell_below hAx.below hc1, cell_below hAx.below hc2⟩, ?_⟩
              clear hK9
              refine wpAnyH_all (rs := [15]) (by kernel_rfl) (by simp) (fun i hi => ?_)
              obtain rfl : i = 15 := by simpa using hi
              refine wpOp_step rfl (fun K9 hK9 => ?_)
              rw [if_pos (by rfl)]
              refine wp_store_row 60 (.tmp 13) (.tmp 54) rfl gY (zV y.2) (by first | rfl | (rw [hgY]; rfl)) rfl 60 _ hYx (by rw [zV_size]; exact info_bits) (by rw [zV_size, zV_size]) (one_zV _) ?_
              refine hK9 _ _ ⟨⟨cell_below hAy.below hc1, cell_below hAy.below hc2⟩, ?_⟩
              clear hK9
              refine wpAnyH_done (by kernel_rfl) ?_ _
              refine NoPanic.normal ?_
              go_wp2_with fail
              go_meet
              subst hgX
              subst hgY
              exact ⟨_, _, KT3, rfl, rfl, kX4, kY4, h6X, h6Y, nvX, nvY, hXy, hYy, hAy⟩
          · refine wpOp_step rfl (fun K9 hK9 => ?_)
            rw [if_pos (by rfl)]
            go_simp
            rw [zero_zV]
            have bx2 := (Below.refl wt1.heap.size wt1).alloc (Nat.le_refl _) (.cells (zV fun _ => 0) 60)
            have hX2 := blk_new wt1 (.cells (zV fun _ => 0) 60)
            have hA2 := hA1.alloc bx2
            have kX2 : More KT1 wt1 (wt1.alloc (.cells (zV fun _ => 0) 60)) wt1.heap.size := Or.inr ⟨Nat.le_refl _, by simp⟩
            have h6X : w.heap.size + 6 ≤ wt1.heap.size := hs1
            have hs2 : w.heap.size + 6 ≤ (wt1.alloc (.cells (zV fun _ => 0) 60)).heap.size := Nat.le_trans hs1 bx2.size
            have nvX : u10.ownBlock ≠ some wt1.heap.size := fun e => by have := (hA1.own.own_lt e).2; omega
            have hY2 := blk_below hY1 bx2
            have kY2 : More KT1 wt1 (wt1.alloc (.cells (zV fun _ => 0) 60)) gY := Or.inl kY1
            have hne : gY ≠ wt1.heap.size := by have := (Array.getElem?_eq_some_iff.1 hY1).1; omega
            obtain ⟨gX, hgX⟩ : ∃ g, g = wt1.heap.size := ⟨_, rfl⟩
            rw [← hgX] at hX2 kX2 h6X nvX hne
            generalize More KT1 wt1 (wt1.alloc (.cells (zV fun _ => 0) 60)) = KT2 at *
            refine hK9 _ _ ⟨⟨cell_below hA2.below hc1, cell_below hA2.below hc2⟩, ?_⟩
            clear hK9
            generalize (wt1.alloc (.cells (zV fun _ => 0) 60)) = wt2 at *
            refine wpAnyH_all (rs := [5]) (by kernel_rfl) (by simp) (fun i hi => ?_)
            obtain rfl : i = 5 := by simpa using hi
            refine wpOp_step rfl (fun K9 hK9 => ?_)
            rw [if_pos (by rfl)]
            go_simp
            go_at_call 13
            refine (C1.out _ _ (hA2.termIn hD)).mono ?_
            rintro r wt3 ⟨rfl, hq3, hm3, kt3⟩
            have hA3 := hA2.term hq3 hm3 kt3 hA2.v_ne
            have hX3 := kt3.blk ⟨kX2, by have := h6X; omega⟩ hX2
            have kX3 := kX2
            have hY3 := kt3.blk ⟨kY2, by have := h6Y; omega⟩ hY2
            have kY3 := kY2
            have hs3 : w.heap.size + 6 ≤ wt3.heap.size := Nat.le_trans hs2 kt3.size
            refine hK9 _ _ ⟨⟨cell_below hA3.below hc1, cell_below hA3.below hc2⟩, ?_⟩
            clear hK9
            refine wpAnyH_all (rs := [11]) (by kernel_rfl) (by simp) (fun i hi => ?_)
            obtain rfl : i = 11 := by simpa using hi
            refine wpOp_step rfl (fun K9 hK9 => ?_)
            rw [if_pos (by rfl)]
            go_simp
            go_at_call 13
            refine (C2.out _ _ (hA3.termIn hD)).mono ?_
            rintro r wt4 ⟨rfl, hq4, hm4, kt4⟩
            have hA4 := hA3.term hq4 hm4 kt4 hA3.v_ne
            have hX4 := kt4.blk ⟨kX3, by have := h6X; omega⟩ hX3
            have kX4 := kX3
            have hY4 := kt4.blk ⟨kY3, by have := h6Y; omega⟩ hY3
            have kY4 := kY3
            have hs4 : w.heap.size + 6 ≤ wt4.heap.size := Nat.le_trans hs3 kt4.size
            refine hK9 _ _ ⟨⟨cell_below hA4.below hc1, cell_below hA4.below hc2⟩, ?_⟩
            clear hK9
            have hXY : gX ≠ gY := by first | exact hne | exact fun e => hne e.symm
            have hAx := hA4.row kX4 h6X nvX (zV x.2)
            have hXx := setRow_heap _ _ _ (zV x.2) _ _ hX4
            have hYx := (setRow_other wt4 gX gY (zV x.2) (fun e => hXY e.symm)).trans hY4
            have hAy := hAx.row kY4 h6Y nvY (zV y.2)
            have hYy := setRow_heap _ _ _ (zV y.2) _ _ hYx
            have hXy := (setRow_other (wt4.setRow gX (zV x.2)) gY gX (zV y.2) hXY).trans hXx
            refine wpAnyH_all (rs := [14]) (by kernel_rfl) (by simp) (fun i hi => ?_)
            obtain rfl : i = 14 := by simpa using hi
            refine wpOp_step rfl (fun K9 hK9 => ?_)
            rw [if_pos (by rfl)]
            refine wp_store_row 60 (.tmp 12) (.tmp 48) rfl gX (zV x.2) (by first | rfl | (rw [hgX]; rfl)) rfl 60 _ hX4 (by rw [zV_size]; exact info_bits) (by rw [zV_size, zV_size]) (one_zV _) ?_
            refine hK9 _ _ ⟨⟨cell_below hAx.below hc1, cell_below hAx.below hc2⟩, ?_⟩
            clear hK9
            refine wpAnyH_all (rs := [15]) (by kernel_rfl) (by simp) (fun i hi => ?_)
            obtain rfl : i = 15 := by simpa using hi
            refine wpOp_step rfl (fun K9 hK9 => ?_)
            rw [if_pos (by rfl)]
            refine wp_store_row 60 (.tmp 13) (.tmp 54) rfl gY (zV y.2) (by first | rfl | (rw [hgY]; rfl)) rfl 60 _ hYx (by rw [zV_size]; exact info_bits) (by rw [zV_size, zV_size]) (one_zV _) ?_
            refine hK9 _ _ ⟨⟨cell_below hAy.below hc1, cell_below hAy.below hc2⟩, ?_⟩
            clear hK9
            refine wpAnyH_done (by kernel_rfl) ?_ _
            refine NoPanic.normal ?_
            go_wp2_with fail
            go_meet
            subst hgX
            subst hgY
            exact ⟨_, _, KT2, rfl, rfl, kX4, kY4, h6X, h6Y, nvX, nvY, hXy, hYy, hAy⟩
      case rest =>
        obtain ⟨gx, gy, K', rfl, rfl, kx, ky, hgx, hgy, nvx, nvy, hX, hY, hA1⟩ := hcut
        obtain ⟨wo, rfl⟩ : ∃ wo, wo = wr := ⟨_, rfl⟩
        clear hA hc1 hc2 C1 C2
        go_wp2_with fail
        go_loopw [10, 14, 15, 55] (fun v10 _ _ i wr => ∃ (k : Nat) (K : Nat → Prop), k ≤ 32 ∧ i = .int .i64 k ∧ K gx ∧ K gy ∧ v10.ownBlock ≠ some gx ∧ v10.ownBlock ≠ some gy ∧ ZAt 60 wr gx x.2 ∧ ZAt 60 wr gy y.2 ∧ DifAt w b K wr v10 (((diff1 x.2 y.2 y.1.1 s k).1, y.1.2), (diff1 x.2 y.2 y.1.1 s k).2)) (fun _ _ _ i _ => 32 - (intOf i).toNat)
        case atStart => exact ⟨0, K', by omega, rfl, kx, ky, nvx, nvy, hX, hY, hA1⟩
        case round =>
          clear hX hY hA1 kx ky nvx nvy K'
          obtain ⟨k, K, hk, rfl, kx, ky, nvx, nvy, hX, hY, hA⟩ := hrel
          by_cases hkl : k < 32
          · have hkl' : (k : Int) < 32 := by omega
            have dz := HDIF.out k hk
            have hstep : diff1 x.2 y.2 y.1.1 s (k + 1) = ((xorG (diff1 x.2 y.2 y.1.1 s k).1 (x.2 k) (y.2 k)).1, if (xorG (diff1 x.2 y.2 y.1.1 s k).1 (x.2 k) (y.2 k)).2 = -1 then (diff1 x.2 y.2 y.1.1 s k).2 else (diff1 x.2 y.2 y.1.1 s k).2 ++ [(xorG (diff1 x.2 y.2 y.1.1 s k).1 (x.2 k) (y.2 k)).2]) := rfl
            generalize diff1 x.2 y.2 y.1.1 s k = Z at dz hstep hA
            obtain ⟨e1, g1, _, n1', s1', _, _⟩ := dz
            have la := (LX.out k hkl).mono (m := Z.1.length + 1) (by have := e1.len; omega)
            have lb := (LY.out k hkl).mono (m := Z.1.length + 1) (by have := e1.len; omega)
            have mx := made_xor g1 la lb
            have cx := fun K w h => xor_any K (w.heap.size) Z.1 (x.2 k) (y.2 k) la lb (by omega) w h
            have cx' := xor_any K (w.heap.size + 3) Z.1 (x.2 k) (y.2 k) la lb (by omega) wr.drew (QAt.below hA.q (below_drewN (Below.refl _ _) 1))
            generalize xorG Z.1 (x.2 k) (y.2 k) = l at mx cx' hstep
            have hll : l.2.natAbs ≤ 200000 := by have := mx.lit.2; have := mx.len; omega
            have hZl : Z.2.length ≤ 5000 := by omega
            have HST := Lib.hid hstep
            have bd : Below wr.heap.size wr wr.drew := below_drewN (Below.refl _ _) 1
            have dx := hX.cell (i := k) hkl
            have dy := hY.cell (i := k) hkl
            obtain ⟨d0, d1, d2⟩ := three_cells hA.bl
            have hXd := hX.below bd
            have hYd := hY.below bd
            have hAd : DifAt w b K wr.drew u10 ((Z.1, y.1.2), Z.2) := hA.lit (QAt.below hA.q bd) (Kept.below bd)
            clear hstep cx e1 g1 n1' s1' la lb mx hX hY hA
            go_wp2_with fail
            refine wp_region_noPanic ?_
            go_region_law (go_simp; go_at_call 14; refine cx'.mono ?_; rintro r w3 ⟨rfl, hQ3, k3⟩)
            all_goals (
              refine NoPanic.normal ?_
              have hX3 := hXd.kept k3 kx
              have hY3 := hYd.kept k3 ky
              have hA3 := hAd.lit hQ3 k3
              clear hXd hYd hAd cx' bd dx dy d0 d1 d2 hQ3 k3
              by_cases hm1 : l.2 = -1
              · have hne : (l.2 != -1) = false := by rw [hm1]; rfl
                have HM1 := Lib.hid hm1
                clear hm1
                go_wp2_with fail
                go_roundw
                case rel => exact ⟨k + 1, K, by omega, by go_num, kx, ky, nvx, nvy, hX3, hY3, by rw [HST.out, if_pos HM1.out]; exact hA3⟩
                case measure => simp [intOf]; omega
              · have hne : (l.2 != -1) = true := by simpa using hm1
                have HM1 := Lib.hid hm1
                clear hm1
                go_wp2_with (first | (at_builtin; refine wpList_pushB (w0 := w) (W := w3) w.heap.size rfl (.tmp 71) (.tmp 73) 23 3 _ 8 rfl Try.underlying23 infoB_int rfl (by decide) [] hA3.own (stable_i64 _ _) (by decide) (y := .int .i64 l.2) (y0 := l.2) ⟨rfl, by omega, by omega⟩ rfl rfl rfl hA3.below hA3.below.size (by dsimp only; omega) ?_; intro v1 w4 ho1 hB1 hg1 hn1) | fail)
                obtain ⟨K2, hk2, hA4⟩ := hA3.push ho1 hB1 hg1 hn1
                have hX4 : ZAt 60 w4 gx x.2 := hA3.own.other hg1 hX3 (by simp)
                have hY4 : ZAt 60 w4 gy y.2 := hA3.own.other hg1 hY3 (by simp)
                have nv : ∀ g, g < w3.heap.size → u10.ownBlock ≠ some g → v1.ownBlock ≠ some g := fun g h1 h2 e => by
                  rcases hn1 with h | ⟨g', h, h'⟩
                  · exact h2 (by rw [← h]; exact e)
                  · rw [e] at h; injection h with h; omega
                have nvx4 := nv gx hX3.lt nvx
                have nvy4 := nv gy hY3.lt nvy
                clear hA3 hX3 hY3 ho1 hB1 hg1 hn1 nv
                go_wp2_with fail
                go_roundw
                case rel => exact ⟨k + 1, K2, by omega, by go_num, hk2 _ kx, hk2 _ ky, nvx4, nvy4, hX4, hY4, by rw [HST.out, if_neg HM1.out]; exact hA4⟩
                case measure => simp [intOf]; omega)
          · have hkl' : ¬ (k : Int) < 32 := by omega
            obtain rfl : k = 32 := by omega
            have hA5 : DifAt w b K wr u10 (F (j + 1)) := by rw [HFZ.out]; exact hA
            clear hA hX hY
            go_wp2_with fail
            go_roundw
            case rel => exact ⟨j + 1, K, by omega, by go_num, hA5⟩
            case measure => simp [intOf]; omega
    · have hlt' : ¬ (j : Int) < ax.length := by omega
      obtain rfl : j = ax.length := by omega
      have hsl := (HJ.out ax.length).2.2
      have hgl : (F ax.length).1.1.length ≤ 160000 := by
        obtain ⟨t1, _, _⟩ := HJ.out ax.length
        have := t1.cnt
        have := cntD_le ts (F ax.length).1.2
        omega
      rw [HFA.out] at hA hsl hgl
      obtain ⟨d0, d1, d2⟩ := three_cells hA.bl
      have hcl := gclauses_len R.1.1 2
      have hCl := clause_any K (w.heap.size + 3) R.1.1 ([1] :: gclauses R.1.1 2) (by simp only [List.length_cons]; omega) 0 3 u10 R.2 (by omega) wr (hA.own.toSl 0) hA.q
      go_wp2_with fail
      refine hCl.mono ?_
      rintro r w3 ⟨rfl, hQ3, k3⟩
      have hr3 := k3.blk (hA.old _ (by omega) (by omega) (by omega)) hA.res
      have he3 := k3.blk (hA.old _ (by omega) (by omega) (by omega)) hA.err
      have hb3 := k3.blk (hA.old _ (by omega) (by omega) (by omega)) hA.bl
      have bw3 : Below w.heap.size w w3 := hA.below.trans ⟨k3.os, k3.tape, k3.output, k3.size, fun i hi => k3.block i (Nat.lt_of_lt_of_le hi hA.below.size) (hA.old i (by omega) (by omega) (by omega))⟩
      have hold := hA.old
      have d1 := (three_cells hb3).2.1
      have r0 := cell_of hr3 0
      have r1 := cell_of he3 0
      simp only [List.getElem?_toArray, List.getElem?_cons_zero] at r0 r1
      have f0 := frozen_of hr3 0
      have f1 := frozen_of he3 0
      have ks1 := qset w3 w.heap.size 0 (.pointer (some ⟨w.heap.size + 3, 0, none⟩))
      have ks2 := qset (w3.setCell ⟨w.heap.size, 0, none⟩ (.pointer (some ⟨w.heap.size + 3, 0, none⟩))) (w.heap.size + 1) 0 (.int .i64 0)
      have hr4 := ks2.blk (show w.heap.size ≠ w.heap.size + 1 by omega) (blk_set hr3 0 (.pointer (some ⟨w.heap.size + 3, 0, none⟩)))
      have he4 := blk_set (ks1.blk (show w.heap.size + 1 ≠ w.heap.size by omega) he3) 0 (.int .i64 0)
      have hQ4 := QAt.mono (QAt.moved (QAt.moved hQ3 ks1 (hold _ (by omega) (by omega) (by omega))) ks2 (hold _ (by omega) (by omega) (by omega))) (K' := fun i => i < w.heap.size) (fun i hi => hold i (by omega) (by omega) (by omega))
      have bw4 : Below w.heap.size w ((w3.setCell ⟨w.heap.size, 0, none⟩ (.pointer (some ⟨w.heap.size + 3, 0, none⟩))).setCell ⟨w.heap.size + 1, 0, none⟩ (.int .i64 0)) := (bw3.setCell (Nat.le_refl _) _).setCell (by show _ ≤ w.heap.size + 1; omega) _
      have q0 := cell_of hr4 0
      have q1 := cell_of he4 0
      clear hr3 he3 hb3 bw3 ks1 ks2 hr4 he4 hQ3 k3 hCl hA d0 d2
      go_wp2_with fail
      generalize (w3.setCell ⟨w.heap.size, 0, none⟩ (.pointer (some ⟨w.heap.size + 3, 0, none⟩))).setCell ⟨w.heap.size + 1, 0, none⟩ (.int .i64 0) = wz at *
      refine leaves_cons (f := 11) (args := #[.pointer (some ⟨w.heap.size, 0, none⟩), .pointer (some ⟨w.heap.size + 1, 0, none⟩)]) (by simp) (by simp [go_sem]) ?_
      refine (closure_idle _ _ _).mono ?_
      rintro r u' w'' ⟨rfl, rfl, rfl⟩
      simp [Leaves, settle, results, Try.results5, go_sem, q0, q1]
      exact ⟨rfl, hQ4, bw4⟩
end Go.Proofs.Ytgnahjadjgjecaa
