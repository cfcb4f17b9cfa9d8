/- simp.All: a term, made simple from within. -/
/- simp.All, walked. -/
import Derived.Test.YtekleoccdockhaaGreatDoorSOp
import Derived.Test.YtekleoccdockhaaGreatDoorTDepth
import Derived.Laws.EntriesVeiled
set_option linter.unusedVariables false
set_option linter.unusedSimpArgs false
namespace Go.Proofs.YtekleoccdockhaaGreatDoor
open Go.RowKit Go.Maps Go.MapKept

theorem nat_ops {P : Program} {kt : TypeId} (hk : P.underlying kt = some (.int .i64)) : KeyOps P kt (fun x : Nat => Value.int .i64 (x : Int)) where
  inj h := by injection h with _ h; omega
  check w em x := (int_ops hk).check w em x
  stays w x := (int_ops hk).stays w x
  find w x es hes := (int_ops hk).find w x es fun e he => by obtain ⟨y, hy⟩ := hes e he; exact ⟨(y : Int), hy⟩
abbrev natK : Nat → Value := fun x => Value.int .i64 (x : Int)
theorem MapAt.no_cell {κ : Type} {ek : κ → Value} {w : World} {b : Nat} {f : κ → Option Value} (h : MapAt ek w b f) (i : Nat) : w.cell? ⟨b, i, none⟩ = none := by
  obtain ⟨es, clock, hb, _⟩ := h
  simp [World.cell?, hb]
theorem MapAt.ne_cell {κ : Type} {ek : κ → Value} {w : World} {b g i : Nat} {f : κ → Option Value} {v : Value} (h : MapAt ek w b f) (hc : w.cell? ⟨g, i, none⟩ = some v) : g ≠ b := by
  rintro rfl
  rw [h.no_cell i] at hc
  cases hc
theorem DagAt.put_map {K : Nat → Prop} {w w' : World} {b m : Nat} {ts : List Term} (h : DagAt K w b ts) (hg : w.grownBy w' (some m)) (hm : K m) : DagAt K w' b ts := by
  obtain ⟨vl, u, vm, h1, h2, h3, h4, h5, h6, h7, h8⟩ := h.out
  have hbm : some b ≠ some m := fun e => by injection e with e; exact h4 (e ▸ hm)
  refine ⟨⟨vl, u, vm, (hg.block b (Array.getElem?_eq_some_iff.1 h1).1 hbm).trans h1, ?_, h3, h4, ?_, fun i hi => Nat.lt_of_lt_of_le (h6 i hi) hg.size, h7, h8⟩⟩
  · refine World.ownsRow.kept h2 hg ?_
    cases hv : vl.ownBlock with
    | none => exact Or.inl rfl
    | some g => exact Or.inr fun e => by injection e with e; exact h3 g hv (e ▸ hm)
  · rcases h5 with h5 | ⟨hu, m', hm', hma, hk⟩
    · exact Or.inl h5
    · exact Or.inr ⟨hu, m', hm', hma.grown hg (fun e => by injection e with e; exact hk (e ▸ hm)), hk⟩
theorem made_call (K : Nat → Prop) (b op x y : Nat) (ts : List Term) (hl : ts.length < 100000000000) (hx : x < ts.length) (hy : y < ts.length) (ho : (doW op 0 0).isSome = true) (hG : Good ts) (hg : K 0) (w : World) (hT : Tab w) (h : DagAt K w b ts) :
    Calls Tryz.prog 20 #[.pointer (some ⟨b, 0, none⟩), .int .i64 op, .int .i64 x, .int .i64 y] w (MadePost K b w (made ts op x y)) := by
  have hm := mz_le (op := op) (b := y) hx
  exact made_any (8 * ts.length + 10) K b ts op x y w h hG hg hT ho hx hy (by omega) (by omega)
def dnV (dn : Dn) : Nat → Option Value := fun i => (dn i).map fun m => .int .i64 (m : Int)
theorem dnV_upd (dn : Dn) (n m : Nat) : dnV (updD dn n m) n = some (.int .i64 (m : Int)) ∧ ∀ y, y ≠ n → dnV (updD dn n m) y = dnV dn y :=
  ⟨by unfold dnV; rw [updD_same]; rfl, fun y hy => by unfold dnV; rw [updD_ne hy]⟩
def AllPost (K : Nat → Prop) (b m : Nat) (w : World) (R : List Term × Dn × Nat) (e : Ending) (w' : World) : Prop :=
  e = .returned (.int .i64 (R.2.2 : Nat)) ∧ DagAt K w' b R.1 ∧ MapAt natK w' m (dnV R.2.1) ∧ Kept (fun i => K i ∧ i ≠ m) w w'
/-- What All's inner function is called in. -/
structure AllIn (K : Nat → Prop) (w : World) (b g1 g2 g3 m : Nat) (ts0 ts : List Term) (dn : Dn) : Prop where
  dag : DagAt K w b ts
  good0 : Good ts0
  good : Good ts
  ext : Ext ts0 ts
  ok : DnOk ts0 ts dn
  kt : K 0
  tab : Tab w
  k1 : K g1
  k2 : K g2
  k3 : K g3
  km : K m
  c1 : w.cell? ⟨g1, 0, none⟩ = some (.map (some m))
  c2 : w.cell? ⟨g2, 0, none⟩ = some (.pointer (some ⟨b, 0, none⟩))
  c3 : w.cell? ⟨g3, 0, none⟩ = some (.func (.func 22) #[] #[.pointer (some ⟨g1, 0, none⟩), .pointer (some ⟨g2, 0, none⟩), .pointer (some ⟨g3, 0, none⟩)])
  map : MapAt natK w m (dnV dn)
theorem AllIn.below {K : Nat → Prop} {w w' : World} {b g1 g2 g3 m : Nat} {ts0 ts : List Term} {dn : Dn} (h : AllIn K w b g1 g2 g3 m ts0 ts dn) (hb : Below w.heap.size w w') : AllIn (More K w w') w' b g1 g2 g3 m ts0 ts dn :=
  ⟨h.dag.more hb, h.good0, h.good, h.ext, h.ok, Or.inl h.kt, h.tab.below hb, Or.inl h.k1, Or.inl h.k2, Or.inl h.k3, Or.inl h.km, cell_below hb h.c1, cell_below hb h.c2, cell_below hb h.c3, h.map.below hb h.map.lt⟩
theorem AllIn.cell {K : Nat → Prop} {w w' : World} {b g1 g2 g3 m : Nat} {ts0 ts : List Term} {dn : Dn} (h : AllIn K w b g1 g2 g3 m ts0 ts dn) (hk : Kept (fun i => K i ∧ i ≠ m) w w') {g i : Nat} {v : Value} (hg : K g) (hc : w.cell? ⟨g, i, none⟩ = some v) : w'.cell? ⟨g, i, none⟩ = some v :=
  hk.cell ⟨hg, h.map.ne_cell hc⟩ hc
/-- Behind a call that did other terms. -/
theorem AllIn.after {K : Nat → Prop} {w w' : World} {b g1 g2 g3 m n : Nat} {ts0 ts : List Term} {dn : Dn} {R : List Term × Dn × Nat} (h : AllIn K w b g1 g2 g3 m ts0 ts dn) (hR : AllOk ts0 ts n R)
    (hd : DagAt K w' b R.1) (hm : MapAt natK w' m (dnV R.2.1)) (hk : Kept (fun i => K i ∧ i ≠ m) w w') : AllIn K w' b g1 g2 g3 m ts0 R.1 R.2.1 :=
  ⟨hd, h.good0, hR.good, h.ext.trans hR.ext, hR.dn, h.kt, ⟨fun j hj => h.cell hk h.kt (h.tab.at_ j hj)⟩, h.k1, h.k2, h.k3, h.km, h.cell hk h.k1 h.c1, h.cell hk h.k2 h.c2, h.cell hk h.k3 h.c3, hm⟩
def AllSpec (f : Nat) : Prop := ∀ (K : Nat → Prop) (b g1 g2 g3 m : Nat) (ts0 ts : List Term) (dn : Dn) (n : Nat) (w : World), AllIn K w b g1 g2 g3 m ts0 ts dn → n < ts0.length → n < f → (allF f ts dn n).1.length < 100000000000 →
  Calls Tryz.prog 22 #[.int .i64 n, .pointer (some ⟨g1, 0, none⟩), .pointer (some ⟨g2, 0, none⟩), .pointer (some ⟨g3, 0, none⟩)] w (AllPost K b m w (allF f ts dn n))
section
variable (K : Nat → Prop) (b g1 g2 g3 m : Nat) (ts0 ts : List Term) (dn : Dn) (n : Nat) (w : World) (h : AllIn K w b g1 g2 g3 m ts0 ts dn)
include h
set_option maxRecDepth 100000 in
theorem all_done (q : Nat) (hd : dn n = some q) : Calls Tryz.prog 22 #[.int .i64 n, .pointer (some ⟨g1, 0, none⟩), .pointer (some ⟨g2, 0, none⟩), .pointer (some ⟨g3, 0, none⟩)] w (AllPost K b m w (ts, dn, q)) := by
  have hlook := h.map.look (nat_ops Tryz.underlying3) Tryz.underlying53 (zint w) n true
  have e : dnV dn n = some (.int .i64 (q : Int)) := by unfold dnV; rw [hd]; rfl
  rw [e] at hlook
  have c1 := h.c1
  simp only [natK, if_pos, Option.getD_some, Option.isSome_some] at hlook
  clear e hd
  go_enter Tryz.func22, Tryz.ntmps22
  go_wp2_with fail
  go_ret
  exact ⟨rfl, h.dag, h.map, Kept.refl _ _⟩
set_option maxRecDepth 100000 in
theorem all_leaf (hn : n < ts0.length) (hd : dn n = none) (t : Term) (ht : ts.getD n default = t) (hk : t.k ≠ 2) (hl : ts.length < 100000000000) : Calls Tryz.prog 22 #[.int .i64 n, .pointer (some ⟨g1, 0, none⟩), .pointer (some ⟨g2, 0, none⟩), .pointer (some ⟨g3, 0, none⟩)] w (AllPost K b m w (ts, updD dn n n, n)) := by
  have hnl := Nat.lt_of_lt_of_le hn h.ext.len
  have hlook := h.map.look (nat_ops Tryz.underlying3) Tryz.underlying53 (zint w) n true
  have e : dnV dn n = none := by unfold dnV; rw [hd]; rfl
  rw [e] at hlook
  simp only [natK, if_pos, Option.getD_none, Option.isSome_none] at hlook
  have c1 := h.c1
  have c2 := h.c2
  have hN : Calls Tryz.prog 19 #[.pointer (some ⟨b, 0, none⟩), .int .i64 n] w fun r w' => r = .returned (.tuple #[tv t, .int .i64 0]) ∧ Below w.heap.size w w' := by
    have hq := node_any K b n ts (by omega) hnl w h.dag
    rw [ht] at hq
    exact hq
  unfold tv at hN
  have hk0 : ((t.k : Int) == 2) = false := by simp; omega
  clear e hd ht hk
  go_enter Tryz.func22, Tryz.ntmps22
  go_wp2_with fail
  refine hN.mono ?_
  rintro r w1 ⟨rfl, b1⟩
  have b2 := below_alloc1 b1 (.cells #[.int .i64 t.k, .int .u32 t.v, .int .i64 t.op, .int .i64 t.a, .int .i64 t.b] 48)
  have hI := h.below b2
  obtain ⟨w3, hrun, hgen, hgr⟩ := hI.map.store (nat_ops Tryz.underlying3) Tryz.underlying53 n (.int .i64 n)
  simp only [natK] at hrun
  obtain ⟨z0, z1, z2, z3, z4⟩ := five_cells (blk_new w1 (.cells #[.int .i64 t.k, .int .u32 t.v, .int .i64 t.op, .int .i64 t.a, .int .i64 t.b] 48))
  have c1' := hI.c1
  clear hN hlook c2 c1
  go_wp2_with fail
  go_ret
  refine ⟨rfl, (hI.dag.put_map hgr hI.km).mono fun i hi => Or.inl hi, hgen _ (dnV_upd dn n n).1 (dnV_upd dn n n).2, ?_⟩
  exact (Kept.below b2).trans (Kept.grown hgr fun hx => hx.2 rfl)
set_option maxRecDepth 100000 in
set_option maxHeartbeats 2000000 in
theorem all_op (hn : n < ts0.length) (f : Nat) (hS : AllSpec f) (hnf : n < f + 1) (hd : dn n = none) (op ta tb : Nat) (ht : ts.getD n default = ⟨2, 0, op, ta, tb⟩) (hta : ta < n) (htb : tb < n) (ho : (doW op 0 0).isSome = true)
    (R1 R2 : List Term × Dn × Nat) (R3 : Made) (e1 : allF f ts dn ta = R1) (e2 : allF f R1.1 R1.2.1 tb = R2) (e3 : made R2.1 op R1.2.2 R2.2.2 = R3) (hl : R3.1.length < 100000000000) :
    Calls Tryz.prog 22 #[.int .i64 n, .pointer (some ⟨g1, 0, none⟩), .pointer (some ⟨g2, 0, none⟩), .pointer (some ⟨g3, 0, none⟩)] w (AllPost K b m w (R3.1, updD R2.2.1 n R3.2, R3.2)) := by
  have hnl := Nat.lt_of_lt_of_le hn h.ext.len
  have ok1 := allF_ok ts0 h.good0 f ts dn ta h.good h.ext h.ok (by omega) (by omega)
  rw [e1] at ok1
  have ok2 := allF_ok ts0 h.good0 f R1.1 R1.2.1 tb ok1.good (h.ext.trans ok1.ext) ok1.dn (by omega) (by omega)
  rw [e2] at ok2
  have hx := Nat.lt_of_lt_of_le ok1.num ok2.ext.len
  obtain ⟨mo1, mo2, mo3⟩ := made_ok ok2.good ho hx ok2.num
  rw [e3] at mo3
  have l3 := mo3.len
  have l2 := ok2.ext.len
  have l1 := ok1.ext.len
  have hS1 := fun K w h => hS K b g1 g2 g3 m ts0 ts dn ta w h (by omega) (by omega) (by rw [e1]; omega)
  have hS2 := fun K w h => hS K b g1 g2 g3 m ts0 R1.1 R1.2.1 tb w h (by omega) (by omega) (by rw [e2]; omega)
  have hM := fun K hg w hT h => made_call K b op R1.2.2 R2.2.2 R2.1 (by omega) hx ok2.num ho ok2.good hg w hT h
  rw [e1] at hS1
  rw [e2] at hS2
  rw [e3] at hM
  clear e1 e2 e3 mo1 mo2 mo3
  have hlook := h.map.look (nat_ops Tryz.underlying3) Tryz.underlying53 (zint w) n true
  have e : dnV dn n = none := by unfold dnV; rw [hd]; rfl
  rw [e] at hlook
  simp only [natK, if_pos, Option.getD_none, Option.isSome_none] at hlook
  have c1 := h.c1
  have c2 := h.c2
  have hN : Calls Tryz.prog 19 #[.pointer (some ⟨b, 0, none⟩), .int .i64 n] w fun r w' => r = .returned (.tuple #[.agg #[.int .i64 2, .int .u32 0, .int .i64 op, .int .i64 ta, .int .i64 tb], .int .i64 0]) ∧ Below w.heap.size w w' := by
    have hq := node_any K b n ts (by omega) hnl w h.dag
    rw [ht] at hq
    exact hq
  clear e hd ht
  go_enter Tryz.func22, Tryz.ntmps22
  go_wp2_with fail
  refine hN.mono ?_
  rintro r w1 ⟨rfl, b1⟩
  have b2 := below_alloc1 b1 (.cells #[.int .i64 2, .int .u32 0, .int .i64 op, .int .i64 ta, .int .i64 tb] 48)
  have hI := h.below b2
  have hkt : More K w (w1.alloc (.cells #[.int .i64 2, .int .u32 0, .int .i64 op, .int .i64 ta, .int .i64 tb] 48)) w1.heap.size := Or.inr ⟨b1.size, by simp⟩
  have hKK : ∀ i, K i → More K w (w1.alloc (.cells #[.int .i64 2, .int .u32 0, .int .i64 op, .int .i64 ta, .int .i64 tb] 48)) i := fun i hi => Or.inl hi
  have k0 : Kept (fun i => K i ∧ i ≠ m) w (w1.alloc (.cells #[.int .i64 2, .int .u32 0, .int .i64 op, .int .i64 ta, .int .i64 tb] 48)) := Kept.below b2
  generalize More K w (w1.alloc (.cells #[.int .i64 2, .int .u32 0, .int .i64 op, .int .i64 ta, .int .i64 tb] 48)) = K1 at hI hkt hKK
  obtain ⟨z0, z1, z2, z3, z4⟩ := five_cells (blk_new w1 (.cells #[.int .i64 2, .int .u32 0, .int .i64 op, .int .i64 ta, .int .i64 tb] 48))
  have c3' := hI.c3
  clear hN hlook c2 c1 b1 b2
  go_wp2_with fail
  refine (hS1 K1 _ hI).mono ?_
  rintro r w3 ⟨rfl, h3, m3, k3⟩
  have hI3 := hI.after ok1 h3 m3 k3
  have y2 := hI.cell k3 hkt z2
  have y4 := hI.cell k3 hkt z4
  have k03 := k0.trans (k3.mono fun i hi => ⟨hKK i hi.1, hi.2⟩)
  clear z0 z1 z2 z3 z4 c3' hI h3 m3 k3 hS1 k0
  go_wp2_with fail
  have hI4 : AllIn K1 w3.drew b g1 g2 g3 m ts0 R1.1 R1.2.1 := ⟨hI3.dag.below ((Below.refl _ _).drew), hI3.good0, hI3.good, hI3.ext, hI3.ok, hI3.kt, hI3.tab.below ((Below.refl _ _).drew), hI3.k1, hI3.k2, hI3.k3, hI3.km, hI3.c1, hI3.c2, hI3.c3, hI3.map.block rfl⟩
  have x2 : w3.drew.cell? ⟨w1.heap.size, 2, none⟩ = some (.int .i64 op) := y2
  have x4 : w3.drew.cell? ⟨w1.heap.size, 4, none⟩ = some (.int .i64 tb) := y4
  have k04 := k03.drew
  clear hI3 y2 y4 k03
  have d2 := hI4.c2
  have d3 := hI4.c3
  go_region_held3 (fun w' => w'.cell? ⟨g2, 0, none⟩ = some (.pointer (some ⟨b, 0, none⟩)) ∧ w'.cell? ⟨w1.heap.size, 2, none⟩ = some (.int .i64 op) ∧ w'.cell? ⟨g3, 0, none⟩ = some (.func (.func 22) #[] #[.pointer (some ⟨g1, 0, none⟩), .pointer (some ⟨g2, 0, none⟩), .pointer (some ⟨g3, 0, none⟩)]) ∧ w'.cell? ⟨w1.heap.size, 4, none⟩ = some (.int .i64 tb))
    (first | exact ⟨k6.cell hI5.k2 hI5.c2, k6.cell hkt x5, k6.cell hI5.k3 hI5.c3, k6.cell hkt x6⟩ | exact ⟨hI5.c2, x5, hI5.c3, x6⟩ | go_keep)
    (first
      | (go_at_call 22; (with_reducible refine (hS2 K1 _ hI4).mono ?_); rintro r w5 ⟨rfl, h5, m5, k5⟩; have hI5 := hI4.after ok2 h5 m5 k5; have x5 := hI4.cell k5 hkt x2; have x6 := hI4.cell k5 hkt x4; have k05 := k04.trans (k5.mono fun i hi => ⟨hKK i hi.1, hi.2⟩))
      | (go_at_call 20; (with_reducible refine (hM K1 hI5.kt _ hI5.tab hI5.dag).mono ?_); rintro r w6 ⟨rfl, h6, k6⟩; have k06 := k05.trans (k6.mono fun i hi => hKK i hi.1)))
  obtain ⟨w7, hrun, hgen, hgr⟩ := (hI5.map.block (k6.block m hI5.map.lt hI5.km)).store (nat_ops Tryz.underlying3) Tryz.underlying53 n (.int .i64 (R3.2 : Nat))
  simp only [natK] at hrun
  have c16 := k6.cell hI5.k1 hI5.c1
  clear hI4 x2 x4 d2 d3 x5 x6 k04 k05
  go_wp2_with fail
  go_ret
  refine ⟨rfl, (h6.put_map hgr hI5.km).mono hKK, hgen _ (dnV_upd R2.2.1 n R3.2).1 (dnV_upd R2.2.1 n R3.2).2, ?_⟩
  exact k06.trans (Kept.grown hgr fun hx => hx.2 rfl)
end
theorem all_step (f : Nat) (hS : AllSpec f) : AllSpec (f + 1) := by
  intro K b g1 g2 g3 m ts0 ts dn n w h hn hf hl
  have hnl := Nat.lt_of_lt_of_le hn h.ext.len
  revert hl
  unfold allF
  cases hd : dn n with
  | some q => exact fun _ => all_done K b g1 g2 g3 m ts0 ts dn n w h q hd
  | none =>
    dsimp only
    by_cases hk : (ts.getD n default).k = 2
    · rw [if_pos hk]
      intro hl
      obtain ⟨ho, ha, hb, he⟩ := h.good.op_at hnl hk
      exact all_op K b g1 g2 g3 m ts0 ts dn n w h hn f hS hf hd _ _ _ he ha hb ho _ _ _ rfl rfl rfl hl
    · rw [if_neg hk]
      exact fun hl => all_leaf K b g1 g2 g3 m ts0 ts dn n w h hn hd _ rfl hk hl
theorem all_any : ∀ f, AllSpec f
  | 0 => fun K b g1 g2 g3 m ts0 ts dn n w h hn hf hl => by omega
  | f + 1 => all_step f (all_any f)
end Go.Proofs.YtekleoccdockhaaGreatDoor
set_option linter.unusedVariables false
set_option linter.unusedSimpArgs false
namespace Go.Proofs.YtekleoccdockhaaGreatDoor
open Go.RowKit Go.Maps Go.MapKept

set_option maxRecDepth 100000 in
theorem simpAll_no (K : Nat → Prop) (b : Nat) (n : Int) (ts : List Term) (hl : ts.length < 1000000000000) (hn : inR n ts.length = false) (w : World) (h : DagAt K w b ts) :
    Calls Tryz.prog 8 #[.pointer (some ⟨b, 0, none⟩), .int .i64 n] w fun e w' => e = .returned (.tuple #[.int .i64 0, .int .i64 100]) ∧ Below w.heap.size w w' := by
  have b0 := (Below.refl w.heap.size w).alloc (Nat.le_refl _) (.cells #[.pointer (some ⟨b, 0, none⟩)] 27)
  have hX := node_no K b n ts hl hn _ (h.alloc (.cells #[.pointer (some ⟨b, 0, none⟩)] 27))
  unfold tv constT at hX
  have c2 : (w.alloc (.cells #[.pointer (some ⟨b, 0, none⟩)] 27)).cell? ⟨w.heap.size, 0, none⟩ = some (.pointer (some ⟨b, 0, none⟩)) := (cell_of (blk_new w _) 0).trans rfl
  clear hn
  go_enter Tryz.func8, Tryz.ntmps8
  go_wp2_with fail
  refine hX.mono ?_
  rintro r w1 ⟨rfl, b1⟩
  have b3 := below_then b0 b1
  clear hX b1
  go_wp2_with fail
  go_ret2
  exact ⟨rfl, b3.alloc b3.size _⟩
set_option maxRecDepth 100000 in
theorem simpAll_any (K : Nat → Prop) (b n : Nat) (ts : List Term) (hl : (allT ts n).1.length < 100000000000) (hn : n < ts.length) (hG : Good ts) (hg : K 0) (w : World) (hT : Tab w) (h : DagAt K w b ts) :
    Calls Tryz.prog 8 #[.pointer (some ⟨b, 0, none⟩), .int .i64 n] w (OpPost K b w (allT ts n)) := by
  have hlt := (allT_ok hG hn).2.1.len
  have b0 := (Below.refl w.heap.size w).alloc (Nat.le_refl _) (.cells #[.pointer (some ⟨b, 0, none⟩)] 27)
  have hX := node_any K b n ts (by omega) hn _ (h.alloc (.cells #[.pointer (some ⟨b, 0, none⟩)] 27))
  generalize ts.getD n default = t at hX
  unfold tv at hX
  have c2 : (w.alloc (.cells #[.pointer (some ⟨b, 0, none⟩)] 27)).cell? ⟨w.heap.size, 0, none⟩ = some (.pointer (some ⟨b, 0, none⟩)) := (cell_of (blk_new w _) 0).trans rfl
  have hmm := @run_makeMap Tryz.prog
  have hmf : ∀ (fn : Fn) (first cap : Array Value) (w : World), (Instr.makeFunc fn first cap).run Tryz.prog w = .ok (.func fn first cap) w := fun _ _ _ _ => rfl
  go_enter Tryz.func8, Tryz.ntmps8
  go_wp2_with fail
  refine hX.mono ?_
  rintro r w1 ⟨rfl, b1⟩
  have b3 := below_then b0 b1
  have c2' := cell_below b1 c2
  clear hX b1 b0
  go_wp2_with fail
  obtain ⟨W1, hW1⟩ : ∃ W1, w1.alloc (.cells #[.int .i64 t.k, .int .u32 t.v, .int .i64 t.op, .int .i64 t.a, .int .i64 t.b] 48) = W1 := ⟨_, rfl⟩
  have s1 : W1.heap.size = w1.heap.size + 1 := by rw [← hW1]; simp
  have b4 : Below w.heap.size w W1 := by rw [← hW1]; exact b3.alloc b3.size _
  have c24 : W1.cell? ⟨w.heap.size, 0, none⟩ = some (.pointer (some ⟨b, 0, none⟩)) := by rw [← hW1]; exact cell_alloc0 c2' _
  rw [hW1]
  clear hW1 c2' b3
  have hmap := MapAt.made (ek := natK) W1
  rw [s1] at hmap
  have hmap2 := (hmap.alloc (.cells #[.map (some (w1.heap.size + 1))] 53)).alloc (.cells #[.func (.func 22) #[] #[.pointer (some ⟨w1.heap.size + 1 + 1, 0, none⟩), .pointer (some ⟨w.heap.size, 0, none⟩), .pointer (some ⟨w1.heap.size + 1 + 1 + 1, 0, none⟩)]] 54)
  have b5 := below_alloc1 (below_alloc1 (below_alloc1 b4 (.map #[] 0)) (.cells #[.map (some (w1.heap.size + 1))] 53)) (.cells #[.func (.func 22) #[] #[.pointer (some ⟨w1.heap.size + 1 + 1, 0, none⟩), .pointer (some ⟨w.heap.size, 0, none⟩), .pointer (some ⟨w1.heap.size + 1 + 1 + 1, 0, none⟩)]] 54)
  have e2 : (W1.alloc (.map #[] 0)).heap.size = w1.heap.size + 1 + 1 := by simp [s1]
  have e3 : ((W1.alloc (.map #[] 0)).alloc (.cells #[.map (some (w1.heap.size + 1))] 53)).heap.size = w1.heap.size + 1 + 1 + 1 := by simp [s1]
  have c1 : (((W1.alloc (.map #[] 0)).alloc (.cells #[.map (some (w1.heap.size + 1))] 53)).alloc (.cells #[.func (.func 22) #[] #[.pointer (some ⟨w1.heap.size + 1 + 1, 0, none⟩), .pointer (some ⟨w.heap.size, 0, none⟩), .pointer (some ⟨w1.heap.size + 1 + 1 + 1, 0, none⟩)]] 54)).cell? ⟨w1.heap.size + 1 + 1, 0, none⟩ = some (.map (some (w1.heap.size + 1))) :=
    (cell_of (blk_alloc (blk_top e2) _) 0).trans rfl
  have c3 : (((W1.alloc (.map #[] 0)).alloc (.cells #[.map (some (w1.heap.size + 1))] 53)).alloc (.cells #[.func (.func 22) #[] #[.pointer (some ⟨w1.heap.size + 1 + 1, 0, none⟩), .pointer (some ⟨w.heap.size, 0, none⟩), .pointer (some ⟨w1.heap.size + 1 + 1 + 1, 0, none⟩)]] 54)).cell? ⟨w1.heap.size + 1 + 1 + 1, 0, none⟩ = some (.func (.func 22) #[] #[.pointer (some ⟨w1.heap.size + 1 + 1, 0, none⟩), .pointer (some ⟨w.heap.size, 0, none⟩), .pointer (some ⟨w1.heap.size + 1 + 1 + 1, 0, none⟩)]) :=
    (cell_of (blk_top e3) 0).trans rfl
  have c22 := cell_alloc0 (cell_alloc0 (cell_alloc0 c24 (.map #[] 0)) (.cells #[.map (some (w1.heap.size + 1))] 53)) (.cells #[.func (.func 22) #[] #[.pointer (some ⟨w1.heap.size + 1 + 1, 0, none⟩), .pointer (some ⟨w.heap.size, 0, none⟩), .pointer (some ⟨w1.heap.size + 1 + 1 + 1, 0, none⟩)]] 54)
  have hsz := b4.size
  have hs5 : (((W1.alloc (.map #[] 0)).alloc (.cells #[.map (some (w1.heap.size + 1))] 53)).alloc (.cells #[.func (.func 22) #[] #[.pointer (some ⟨w1.heap.size + 1 + 1, 0, none⟩), .pointer (some ⟨w.heap.size, 0, none⟩), .pointer (some ⟨w1.heap.size + 1 + 1 + 1, 0, none⟩)]] 54)).heap.size = w1.heap.size + 4 := by simp [s1]
  have hb1s : w.heap.size ≤ w1.heap.size := by
    have := World.block_lt_of_cell? W1 _ c24
    simp only [s1] at this
    omega
  generalize ((W1.alloc (.map #[] 0)).alloc (.cells #[.map (some (w1.heap.size + 1))] 53)).alloc (.cells #[.func (.func 22) #[] #[.pointer (some ⟨w1.heap.size + 1 + 1, 0, none⟩), .pointer (some ⟨w.heap.size, 0, none⟩), .pointer (some ⟨w1.heap.size + 1 + 1 + 1, 0, none⟩)]] 54) = W at *
  have hin : AllIn (More K w W) W b (w1.heap.size + 1 + 1) w.heap.size (w1.heap.size + 1 + 1 + 1) (w1.heap.size + 1) ts ts dn0 :=
    ⟨h.more b5, hG, hG, Ext.refl _, dn0_ok ts ts, Or.inl hg, hT.below b5, Or.inr ⟨by omega, by omega⟩, Or.inr ⟨Nat.le_refl _, by omega⟩, Or.inr ⟨by omega, by omega⟩, Or.inr ⟨by omega, by omega⟩, c1, c22, c3, hmap2⟩
  refine (all_any (n + 1) _ b _ _ _ _ ts ts dn0 n W hin hn (by omega) hl).mono ?_
  rintro r w2 ⟨rfl, h2, _, k2⟩
  have k3 : Kept K w w2 := (Kept.below (K := K) b5).trans (k2.mono fun i hi => ⟨Or.inl hi, by rintro rfl; have := h.in_ _ hi; omega⟩)
  go_wp2_with fail
  go_ret2
  exact ⟨rfl, h2.mono fun i hi => Or.inl hi, k3⟩
end Go.Proofs.YtekleoccdockhaaGreatDoor
