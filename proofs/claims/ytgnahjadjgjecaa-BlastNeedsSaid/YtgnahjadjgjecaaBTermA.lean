/- blast: a term's literals: what is laid, and the cases that go no deeper. -/
import Derived.Test.YtgnahjadjgjecaaBDoesW
import Derived.Test.YtgnahjadjgjecaaBHard
import Derived.Test.YtgnahjadjgjecaaTTerm
set_option linter.unusedVariables false
set_option linter.unusedSimpArgs false
namespace Go.Proofs.Ytgnahjadjgjecaa
open Go.RowKit Go.Maps Go.MapKept

abbrev natB : Nat → Value := fun x => Value.int .i64 (x : Int)
theorem natB_ops {P : Program} {kt : TypeId} (hk : P.underlying kt = some (.int .i64)) : KeyOps P kt natB where
  inj h := by injection h with _ h; omega
  check w em x := (int_ops hk).check w em x
  stays w x := (int_ops hk).stays w x
  find w x es hes := (int_ops hk).find w x es fun e he => by obtain ⟨y, hy⟩ := hes e he; exact ⟨(y : Int), hy⟩
theorem zbits (w : World) : (zeroValue 60).run Try.prog w = .ok (.agg (zV fun _ => 0)) w := by rw [← zero_zV]; exact Try.zeroValue60 w
/-- The terms' literals that are there. -/
def dnV (d : Dn) : Nat → Option Value := fun n => (d n).map fun l => .agg (zV l)
theorem dnV_put (d : Dn) (n : Nat) (l : Nat → Int) : dnV (putD d n l) n = some (.agg (zV l)) ∧ ∀ y, y ≠ n → dnV (putD d n l) y = dnV d y :=
  ⟨by unfold dnV putD; rw [if_pos rfl]; rfl, fun y hy => by unfold dnV putD; rw [if_neg hy]⟩
/-- All of K but one block. -/
def Km (K : Nat → Prop) (m : Nat) : Nat → Prop := fun i => K i ∧ i ≠ m
def TermPost (K : Nat → Prop) (w : World) (q m : Nat) (s : (List Gate × Dn) × (Nat → Int)) (r : Ending) (w' : World) : Prop :=
  r = .returned (.agg (zV s.2)) ∧ QS K w' q s.1.1 ∧ MapAt natB w' m (dnV s.1.2) ∧ Kept (Km K m) w w'
/-- What lies in memory ahead of a call. -/
structure TermIn (K : Nat → Prop) (Kd : Nat → Prop) (w : World) (m b q bl : Nat) (ts : List Term) (gs : List Gate) (d : Dn) : Prop where mk_ ::
  km : K m
  kb : K bl
  ne : bl ≠ m
  blk : w.heap[bl]? = some (.cells #[.pointer (some ⟨b, 0, none⟩), .pointer (some ⟨q, 0, none⟩), .map (some m)] 53 (0, 0))
  map : MapAt natB w m (dnV d)
  qs : QS K w q gs
  dag : ∀ w', Kept (Km K m) w w' → DagAt Kd w' b ts
/-- What is known of the terms, the gates and what is there. -/
structure TermAt (ts : List Term) (gs : List Gate) (d : Dn) (L : Nat) : Prop where mk_ ::
  good : Good ts
  few : ts.length ≤ 1000
  gg : GGood gs
  dn : DnOk ts gs d
  cnt : gs.length + 480 * ts.length ≤ 480 * cntD ts d + L
  small : L ≤ 190000
def TermSpec (f : Nat) : Prop := ∀ (K Kd : Nat → Prop) (m b q bl : Nat) (ts : List Term) (gs : List Gate) (d : Dn) (n L : Nat) (w : World), n < f → n < ts.length → hardB ts n = false → TermAt ts gs d L → TermIn K Kd w m b q bl ts gs d →
  Calls Try.prog 13 #[.pointer (some ⟨bl, 0, none⟩), .int .i64 n] w (TermPost K w q m (termF f ts gs d n))
theorem termF_hit {f : Nat} {ts : List Term} {gs : List Gate} {d : Dn} {n : Nat} {l : Nat → Int} (h : d n = some l) : termF (f + 1) ts gs d n = ((gs, d), l) := by unfold termF; rw [h]
theorem termF_const {f : Nat} {ts : List Term} {gs : List Gate} {d : Dn} {n v : Nat} (h : d n = none) (e : ts.getD n default = constT v) : termF (f + 1) ts gs d n = ((gs, putD d n (wordW v)), wordW v) := by unfold termF; rw [h, e]; rfl
theorem termF_var {f : Nat} {ts : List Term} {gs : List Gate} {d : Dn} {n r : Nat} (h : d n = none) (e : ts.getD n default = varT r) : termF (f + 1) ts gs d n = (((inF r gs 32).1, putD d n (inF r gs 32).2), (inF r gs 32).2) := by unfold termF; rw [h, e]; rfl
theorem termF_op {f : Nat} {ts : List Term} {gs : List Gate} {d : Dn} {n op a b : Nat} (h : d n = none) (e : ts.getD n default = opT op a b) {r1 r2 : (List Gate × Dn) × (Nat → Int)} {o : List Gate × (Nat → Int)} (h1 : termF f ts gs d a = r1) (h2 : termF f ts r1.1.1 r1.1.2 b = r2) (h3 : doesG op r1.2 r2.2 r2.1.1 = o) :
    termF (f + 1) ts gs d n = ((o.1, putD r2.1.2 n o.2), o.2) := by
  subst h1 h2 h3
  conv => lhs; unfold termF; rw [h, e]
  rfl
theorem bdoes_any (K : Nat → Prop) (q : Nat) (gs : List Gate) (hG : GGood gs) (a b : Nat → Int) (ha : Lits gs a) (hb : Lits gs b) (hl : gs.length < 199000) (op : Nat) (ho : soft op = true) (w : World) (h : QS K w q gs) :
    Calls Try.prog 33 #[.pointer (some ⟨q, 0, none⟩), .int .i64 op, .agg (zV a), .agg (zV b)] w (WordPost K w q (doesG op a b gs)) := by
  unfold soft at ho
  rw [decide_eq_true_eq] at ho
  rcases ho with rfl | rfl | rfl | rfl | rfl | rfl | rfl | rfl | rfl | rfl
  · exact does_27 K q gs hG a b ha hb hl w h
  · exact does_28 K q gs hG a b ha hb hl w h
  · exact does_36 K q gs hG a b ha hb hl w h
  · exact does_35 K q gs hG a b ha hb hl w h
  · exact does_32 K q gs hG a b ha hb hl w h
  · exact does_30 K q gs hG a b ha hb hl w h
  · exact does_31 K q gs hG a b ha hb hl w h
  · exact does_29 K q gs hG a b ha hb hl w h
  · exact does_33 K q gs hG a b ha hb hl w h
  · exact does_34 K q gs hG a b ha hb hl w h
theorem wraps_v {v : Nat} (hv : v < 32) : IntKind.i64.wrap (v : Int) = (v : Int) := by rw [IntKind.wrap_i64]; omega
theorem km_below {K : Nat → Prop} {w w' : World} (m : Nat) (h : Below w.heap.size w w') : Kept (Km K m) w w' := Kept.below h
set_option maxRecDepth 100000 in
set_option maxHeartbeats 8000000 in
theorem term_hit (f : Nat) (K Kd : Nat → Prop) (m b q bl : Nat) (ts : List Term) (gs : List Gate) (d : Dn) (n L : Nat) (w : World) (hnf : n < f + 1) (hn : n < ts.length) (hh : hardB ts n = false) (hT : TermAt ts gs d L) (hI : TermIn K Kd w m b q bl ts gs d) (l : Nat → Int) (hd : d n = some l) :
    Calls Try.prog 13 #[.pointer (some ⟨bl, 0, none⟩), .int .i64 n] w (TermPost K w q m (termF (f + 1) ts gs d n)) := by
  obtain ⟨km, kb, hne, hbl, hm, hQ, hD⟩ := hI
  have hKin : ∀ i, K i → i < w.heap.size := QAt.in_ hQ
  have bx1 := (Below.refl w.heap.size w).alloc (Nat.le_refl _) (.cells #[.int .i64 0, .int .i64 0, .int .i64 0, .int .i64 0, .int .i64 0, .int .i64 0, .int .i64 0, .int .i64 0, .int .i64 0, .int .i64 0, .int .i64 0, .int .i64 0, .int .i64 0, .int .i64 0, .int .i64 0, .int .i64 0, .int .i64 0, .int .i64 0, .int .i64 0, .int .i64 0, .int .i64 0, .int .i64 0, .int .i64 0, .int .i64 0, .int .i64 0, .int .i64 0, .int .i64 0, .int .i64 0, .int .i64 0, .int .i64 0, .int .i64 0, .int .i64 0] 60)
  have hR1 := blk_new w (.cells #[.int .i64 0, .int .i64 0, .int .i64 0, .int .i64 0, .int .i64 0, .int .i64 0, .int .i64 0, .int .i64 0, .int .i64 0, .int .i64 0, .int .i64 0, .int .i64 0, .int .i64 0, .int .i64 0, .int .i64 0, .int .i64 0, .int .i64 0, .int .i64 0, .int .i64 0, .int .i64 0, .int .i64 0, .int .i64 0, .int .i64 0, .int .i64 0, .int .i64 0, .int .i64 0, .int .i64 0, .int .i64 0, .int .i64 0, .int .i64 0, .int .i64 0, .int .i64 0] 60)
  have hbl1 := blk_alloc hbl (.cells #[.int .i64 0, .int .i64 0, .int .i64 0, .int .i64 0, .int .i64 0, .int .i64 0, .int .i64 0, .int .i64 0, .int .i64 0, .int .i64 0, .int .i64 0, .int .i64 0, .int .i64 0, .int .i64 0, .int .i64 0, .int .i64 0, .int .i64 0, .int .i64 0, .int .i64 0, .int .i64 0, .int .i64 0, .int .i64 0, .int .i64 0, .int .i64 0, .int .i64 0, .int .i64 0, .int .i64 0, .int .i64 0, .int .i64 0, .int .i64 0, .int .i64 0, .int .i64 0] 60)
  have hm1 := hm.alloc (.cells #[.int .i64 0, .int .i64 0, .int .i64 0, .int .i64 0, .int .i64 0, .int .i64 0, .int .i64 0, .int .i64 0, .int .i64 0, .int .i64 0, .int .i64 0, .int .i64 0, .int .i64 0, .int .i64 0, .int .i64 0, .int .i64 0, .int .i64 0, .int .i64 0, .int .i64 0, .int .i64 0, .int .i64 0, .int .i64 0, .int .i64 0, .int .i64 0, .int .i64 0, .int .i64 0, .int .i64 0, .int .i64 0, .int .i64 0, .int .i64 0, .int .i64 0, .int .i64 0] 60)
  have bx2 := bx1.alloc (by simp) (.cells #[.int .i64 0, .int .i64 0, .int .i64 0, .int .i64 0, .int .i64 0, .int .i64 0, .int .i64 0, .int .i64 0, .int .i64 0, .int .i64 0, .int .i64 0, .int .i64 0, .int .i64 0, .int .i64 0, .int .i64 0, .int .i64 0, .int .i64 0, .int .i64 0, .int .i64 0, .int .i64 0, .int .i64 0, .int .i64 0, .int .i64 0, .int .i64 0, .int .i64 0, .int .i64 0, .int .i64 0, .int .i64 0, .int .i64 0, .int .i64 0, .int .i64 0, .int .i64 0] 60)
  have hs1 : (w.alloc (.cells #[.int .i64 0, .int .i64 0, .int .i64 0, .int .i64 0, .int .i64 0, .int .i64 0, .int .i64 0, .int .i64 0, .int .i64 0, .int .i64 0, .int .i64 0, .int .i64 0, .int .i64 0, .int .i64 0, .int .i64 0, .int .i64 0, .int .i64 0, .int .i64 0, .int .i64 0, .int .i64 0, .int .i64 0, .int .i64 0, .int .i64 0, .int .i64 0, .int .i64 0, .int .i64 0, .int .i64 0, .int .i64 0, .int .i64 0, .int .i64 0, .int .i64 0, .int .i64 0] 60)).heap.size = w.heap.size + 1 := by simp
  have hL2 := blk_new (w.alloc (.cells #[.int .i64 0, .int .i64 0, .int .i64 0, .int .i64 0, .int .i64 0, .int .i64 0, .int .i64 0, .int .i64 0, .int .i64 0, .int .i64 0, .int .i64 0, .int .i64 0, .int .i64 0, .int .i64 0, .int .i64 0, .int .i64 0, .int .i64 0, .int .i64 0, .int .i64 0, .int .i64 0, .int .i64 0, .int .i64 0, .int .i64 0, .int .i64 0, .int .i64 0, .int .i64 0, .int .i64 0, .int .i64 0, .int .i64 0, .int .i64 0, .int .i64 0, .int .i64 0] 60)) (.cells #[.int .i64 0, .int .i64 0, .int .i64 0, .int .i64 0, .int .i64 0, .int .i64 0, .int .i64 0, .int .i64 0, .int .i64 0, .int .i64 0, .int .i64 0, .int .i64 0, .int .i64 0, .int .i64 0, .int .i64 0, .int .i64 0, .int .i64 0, .int .i64 0, .int .i64 0, .int .i64 0, .int .i64 0, .int .i64 0, .int .i64 0, .int .i64 0, .int .i64 0, .int .i64 0, .int .i64 0, .int .i64 0, .int .i64 0, .int .i64 0, .int .i64 0, .int .i64 0] 60)
  rw [hs1] at hL2
  have hR2 := blk_alloc hR1 (.cells #[.int .i64 0, .int .i64 0, .int .i64 0, .int .i64 0, .int .i64 0, .int .i64 0, .int .i64 0, .int .i64 0, .int .i64 0, .int .i64 0, .int .i64 0, .int .i64 0, .int .i64 0, .int .i64 0, .int .i64 0, .int .i64 0, .int .i64 0, .int .i64 0, .int .i64 0, .int .i64 0, .int .i64 0, .int .i64 0, .int .i64 0, .int .i64 0, .int .i64 0, .int .i64 0, .int .i64 0, .int .i64 0, .int .i64 0, .int .i64 0, .int .i64 0, .int .i64 0] 60)
  have hbl2 := blk_alloc hbl1 (.cells #[.int .i64 0, .int .i64 0, .int .i64 0, .int .i64 0, .int .i64 0, .int .i64 0, .int .i64 0, .int .i64 0, .int .i64 0, .int .i64 0, .int .i64 0, .int .i64 0, .int .i64 0, .int .i64 0, .int .i64 0, .int .i64 0, .int .i64 0, .int .i64 0, .int .i64 0, .int .i64 0, .int .i64 0, .int .i64 0, .int .i64 0, .int .i64 0, .int .i64 0, .int .i64 0, .int .i64 0, .int .i64 0, .int .i64 0, .int .i64 0, .int .i64 0, .int .i64 0] 60)
  have hm2 := hm1.alloc (.cells #[.int .i64 0, .int .i64 0, .int .i64 0, .int .i64 0, .int .i64 0, .int .i64 0, .int .i64 0, .int .i64 0, .int .i64 0, .int .i64 0, .int .i64 0, .int .i64 0, .int .i64 0, .int .i64 0, .int .i64 0, .int .i64 0, .int .i64 0, .int .i64 0, .int .i64 0, .int .i64 0, .int .i64 0, .int .i64 0, .int .i64 0, .int .i64 0, .int .i64 0, .int .i64 0, .int .i64 0, .int .i64 0, .int .i64 0, .int .i64 0, .int .i64 0, .int .i64 0] 60)
  have hs2 : ((w.alloc (.cells #[.int .i64 0, .int .i64 0, .int .i64 0, .int .i64 0, .int .i64 0, .int .i64 0, .int .i64 0, .int .i64 0, .int .i64 0, .int .i64 0, .int .i64 0, .int .i64 0, .int .i64 0, .int .i64 0, .int .i64 0, .int .i64 0, .int .i64 0, .int .i64 0, .int .i64 0, .int .i64 0, .int .i64 0, .int .i64 0, .int .i64 0, .int .i64 0, .int .i64 0, .int .i64 0, .int .i64 0, .int .i64 0, .int .i64 0, .int .i64 0, .int .i64 0, .int .i64 0] 60)).alloc (.cells #[.int .i64 0, .int .i64 0, .int .i64 0, .int .i64 0, .int .i64 0, .int .i64 0, .int .i64 0, .int .i64 0, .int .i64 0, .int .i64 0, .int .i64 0, .int .i64 0, .int .i64 0, .int .i64 0, .int .i64 0, .int .i64 0, .int .i64 0, .int .i64 0, .int .i64 0, .int .i64 0, .int .i64 0, .int .i64 0, .int .i64 0, .int .i64 0, .int .i64 0, .int .i64 0, .int .i64 0, .int .i64 0, .int .i64 0, .int .i64 0, .int .i64 0, .int .i64 0] 60)).heap.size = w.heap.size + 2 := by simp
  have hlook := hm1.look (natB_ops Try.underlying3) Try.underlying51 (zbits (w.alloc (.cells #[.int .i64 0, .int .i64 0, .int .i64 0, .int .i64 0, .int .i64 0, .int .i64 0, .int .i64 0, .int .i64 0, .int .i64 0, .int .i64 0, .int .i64 0, .int .i64 0, .int .i64 0, .int .i64 0, .int .i64 0, .int .i64 0, .int .i64 0, .int .i64 0, .int .i64 0, .int .i64 0, .int .i64 0, .int .i64 0, .int .i64 0, .int .i64 0, .int .i64 0, .int .i64 0, .int .i64 0, .int .i64 0, .int .i64 0, .int .i64 0, .int .i64 0, .int .i64 0] 60))) n true
  simp only [if_pos, natB] at hlook
  obtain ⟨c0, c1, c2⟩ := three_cells hbl1
  have lbl : bl < w.heap.size := hKin _ kb
  rw [show dnV d n = some (.agg (zV l)) by unfold dnV; rw [hd]; rfl] at hlook
  simp only [Option.getD_some, Option.isSome_some] at hlook
  rw [termF_hit hd]
  have hR3 := (setRow_other ((w.alloc (.cells #[.int .i64 0, .int .i64 0, .int .i64 0, .int .i64 0, .int .i64 0, .int .i64 0, .int .i64 0, .int .i64 0, .int .i64 0, .int .i64 0, .int .i64 0, .int .i64 0, .int .i64 0, .int .i64 0, .int .i64 0, .int .i64 0, .int .i64 0, .int .i64 0, .int .i64 0, .int .i64 0, .int .i64 0, .int .i64 0, .int .i64 0, .int .i64 0, .int .i64 0, .int .i64 0, .int .i64 0, .int .i64 0, .int .i64 0, .int .i64 0, .int .i64 0, .int .i64 0] 60)).alloc (.cells #[.int .i64 0, .int .i64 0, .int .i64 0, .int .i64 0, .int .i64 0, .int .i64 0, .int .i64 0, .int .i64 0, .int .i64 0, .int .i64 0, .int .i64 0, .int .i64 0, .int .i64 0, .int .i64 0, .int .i64 0, .int .i64 0, .int .i64 0, .int .i64 0, .int .i64 0, .int .i64 0, .int .i64 0, .int .i64 0, .int .i64 0, .int .i64 0, .int .i64 0, .int .i64 0, .int .i64 0, .int .i64 0, .int .i64 0, .int .i64 0, .int .i64 0, .int .i64 0] 60)) (w.heap.size + 1) w.heap.size (zV l) (by omega)).trans hR2
  go_enter Try.func13, Try.ntmps13
  go_wp2_with (first | (refine wpList_store_row rfl 60 (.tmp 5) (.tmp 19) rfl (w.heap.size + 1) (zV l) rfl rfl 60 _ hL2 (by rw [zV_size]; exact info_bits) (by rw [zV_size]; rfl) (one_zV _) ?_) | (refine wpList_load_row rfl 60 (.tmp 5) rfl (w.heap.size + 1) rfl 60 (zV l) (0, 0) _ (setRow_heap _ _ _ _ _ _ hL2) Try.underlying60 rfl (by rw [zV_size]; exact info_bits) ?_) | (refine wpList_store_row rfl 60 (.tmp 4) (.tmp 22) rfl w.heap.size (zV l) rfl rfl 60 _ hR3 (by rw [zV_size]; exact info_bits) (by rw [zV_size]; rfl) (one_zV _) ?_) | fail)
  exact bodyPost_ret (v := .agg (zV l)) (results_cell_row rfl _ _ w.heap.size 60 (zV l) (0, 0) _ rfl (setRow_heap _ _ _ _ _ _ hR3) Try.underlying60 rfl (by rw [zV_size]; exact info_bits)) rfl ⟨rfl, QAt.mono (QAt.moved (QAt.moved (QAt.more hQ bx2) (row_kept _ _ _) (Or.inr ⟨Nat.le_add_right _ _, by omega⟩)) (row_kept _ _ _) (Or.inr ⟨Nat.le_refl _, by omega⟩)) (fun i hi => Or.inl hi), ((hm2.block (setRow_other _ _ _ _ (by have := hKin _ km; omega))).block (setRow_other _ _ _ _ (by have := hKin _ km; omega))), ((Kept.below bx2).trans ((row_kept _ _ _).mono fun i hi => by have := hKin i hi.1; show i ≠ w.heap.size + 1; omega)).trans ((row_kept _ _ _).mono fun i hi => by have := hKin i hi.1; show i ≠ w.heap.size; omega)⟩
set_option maxRecDepth 100000 in
set_option maxHeartbeats 8000000 in
theorem term_const (f : Nat) (K Kd : Nat → Prop) (m b q bl : Nat) (ts : List Term) (gs : List Gate) (d : Dn) (n L : Nat) (w : World) (hnf : n < f + 1) (hn : n < ts.length) (hh : hardB ts n = false) (hT : TermAt ts gs d L) (hI : TermIn K Kd w m b q bl ts gs d) (v : Nat) (hv : v < 4294967296) (hd : d n = none) (hte : ts.getD n default = constT v) :
    Calls Try.prog 13 #[.pointer (some ⟨bl, 0, none⟩), .int .i64 n] w (TermPost K w q m (termF (f + 1) ts gs d n)) := by
  obtain ⟨km, kb, hne, hbl, hm, hQ, hD⟩ := hI
  have hKin : ∀ i, K i → i < w.heap.size := QAt.in_ hQ
  have bx1 := (Below.refl w.heap.size w).alloc (Nat.le_refl _) (.cells #[.int .i64 0, .int .i64 0, .int .i64 0, .int .i64 0, .int .i64 0, .int .i64 0, .int .i64 0, .int .i64 0, .int .i64 0, .int .i64 0, .int .i64 0, .int .i64 0, .int .i64 0, .int .i64 0, .int .i64 0, .int .i64 0, .int .i64 0, .int .i64 0, .int .i64 0, .int .i64 0, .int .i64 0, .int .i64 0, .int .i64 0, .int .i64 0, .int .i64 0, .int .i64 0, .int .i64 0, .int .i64 0, .int .i64 0, .int .i64 0, .int .i64 0, .int .i64 0] 60)
  have hR1 := blk_new w (.cells #[.int .i64 0, .int .i64 0, .int .i64 0, .int .i64 0, .int .i64 0, .int .i64 0, .int .i64 0, .int .i64 0, .int .i64 0, .int .i64 0, .int .i64 0, .int .i64 0, .int .i64 0, .int .i64 0, .int .i64 0, .int .i64 0, .int .i64 0, .int .i64 0, .int .i64 0, .int .i64 0, .int .i64 0, .int .i64 0, .int .i64 0, .int .i64 0, .int .i64 0, .int .i64 0, .int .i64 0, .int .i64 0, .int .i64 0, .int .i64 0, .int .i64 0, .int .i64 0] 60)
  have hbl1 := blk_alloc hbl (.cells #[.int .i64 0, .int .i64 0, .int .i64 0, .int .i64 0, .int .i64 0, .int .i64 0, .int .i64 0, .int .i64 0, .int .i64 0, .int .i64 0, .int .i64 0, .int .i64 0, .int .i64 0, .int .i64 0, .int .i64 0, .int .i64 0, .int .i64 0, .int .i64 0, .int .i64 0, .int .i64 0, .int .i64 0, .int .i64 0, .int .i64 0, .int .i64 0, .int .i64 0, .int .i64 0, .int .i64 0, .int .i64 0, .int .i64 0, .int .i64 0, .int .i64 0, .int .i64 0] 60)
  have hm1 := hm.alloc (.cells #[.int .i64 0, .int .i64 0, .int .i64 0, .int .i64 0, .int .i64 0, .int .i64 0, .int .i64 0, .int .i64 0, .int .i64 0, .int .i64 0, .int .i64 0, .int .i64 0, .int .i64 0, .int .i64 0, .int .i64 0, .int .i64 0, .int .i64 0, .int .i64 0, .int .i64 0, .int .i64 0, .int .i64 0, .int .i64 0, .int .i64 0, .int .i64 0, .int .i64 0, .int .i64 0, .int .i64 0, .int .i64 0, .int .i64 0, .int .i64 0, .int .i64 0, .int .i64 0] 60)
  have bx2 := bx1.alloc (by simp) (.cells #[.int .i64 0, .int .i64 0, .int .i64 0, .int .i64 0, .int .i64 0, .int .i64 0, .int .i64 0, .int .i64 0, .int .i64 0, .int .i64 0, .int .i64 0, .int .i64 0, .int .i64 0, .int .i64 0, .int .i64 0, .int .i64 0, .int .i64 0, .int .i64 0, .int .i64 0, .int .i64 0, .int .i64 0, .int .i64 0, .int .i64 0, .int .i64 0, .int .i64 0, .int .i64 0, .int .i64 0, .int .i64 0, .int .i64 0, .int .i64 0, .int .i64 0, .int .i64 0] 60)
  have hs1 : (w.alloc (.cells #[.int .i64 0, .int .i64 0, .int .i64 0, .int .i64 0, .int .i64 0, .int .i64 0, .int .i64 0, .int .i64 0, .int .i64 0, .int .i64 0, .int .i64 0, .int .i64 0, .int .i64 0, .int .i64 0, .int .i64 0, .int .i64 0, .int .i64 0, .int .i64 0, .int .i64 0, .int .i64 0, .int .i64 0, .int .i64 0, .int .i64 0, .int .i64 0, .int .i64 0, .int .i64 0, .int .i64 0, .int .i64 0, .int .i64 0, .int .i64 0, .int .i64 0, .int .i64 0] 60)).heap.size = w.heap.size + 1 := by simp
  have hL2 := blk_new (w.alloc (.cells #[.int .i64 0, .int .i64 0, .int .i64 0, .int .i64 0, .int .i64 0, .int .i64 0, .int .i64 0, .int .i64 0, .int .i64 0, .int .i64 0, .int .i64 0, .int .i64 0, .int .i64 0, .int .i64 0, .int .i64 0, .int .i64 0, .int .i64 0, .int .i64 0, .int .i64 0, .int .i64 0, .int .i64 0, .int .i64 0, .int .i64 0, .int .i64 0, .int .i64 0, .int .i64 0, .int .i64 0, .int .i64 0, .int .i64 0, .int .i64 0, .int .i64 0, .int .i64 0] 60)) (.cells #[.int .i64 0, .int .i64 0, .int .i64 0, .int .i64 0, .int .i64 0, .int .i64 0, .int .i64 0, .int .i64 0, .int .i64 0, .int .i64 0, .int .i64 0, .int .i64 0, .int .i64 0, .int .i64 0, .int .i64 0, .int .i64 0, .int .i64 0, .int .i64 0, .int .i64 0, .int .i64 0, .int .i64 0, .int .i64 0, .int .i64 0, .int .i64 0, .int .i64 0, .int .i64 0, .int .i64 0, .int .i64 0, .int .i64 0, .int .i64 0, .int .i64 0, .int .i64 0] 60)
  rw [hs1] at hL2
  have hR2 := blk_alloc hR1 (.cells #[.int .i64 0, .int .i64 0, .int .i64 0, .int .i64 0, .int .i64 0, .int .i64 0, .int .i64 0, .int .i64 0, .int .i64 0, .int .i64 0, .int .i64 0, .int .i64 0, .int .i64 0, .int .i64 0, .int .i64 0, .int .i64 0, .int .i64 0, .int .i64 0, .int .i64 0, .int .i64 0, .int .i64 0, .int .i64 0, .int .i64 0, .int .i64 0, .int .i64 0, .int .i64 0, .int .i64 0, .int .i64 0, .int .i64 0, .int .i64 0, .int .i64 0, .int .i64 0] 60)
  have hbl2 := blk_alloc hbl1 (.cells #[.int .i64 0, .int .i64 0, .int .i64 0, .int .i64 0, .int .i64 0, .int .i64 0, .int .i64 0, .int .i64 0, .int .i64 0, .int .i64 0, .int .i64 0, .int .i64 0, .int .i64 0, .int .i64 0, .int .i64 0, .int .i64 0, .int .i64 0, .int .i64 0, .int .i64 0, .int .i64 0, .int .i64 0, .int .i64 0, .int .i64 0, .int .i64 0, .int .i64 0, .int .i64 0, .int .i64 0, .int .i64 0, .int .i64 0, .int .i64 0, .int .i64 0, .int .i64 0] 60)
  have hm2 := hm1.alloc (.cells #[.int .i64 0, .int .i64 0, .int .i64 0, .int .i64 0, .int .i64 0, .int .i64 0, .int .i64 0, .int .i64 0, .int .i64 0, .int .i64 0, .int .i64 0, .int .i64 0, .int .i64 0, .int .i64 0, .int .i64 0, .int .i64 0, .int .i64 0, .int .i64 0, .int .i64 0, .int .i64 0, .int .i64 0, .int .i64 0, .int .i64 0, .int .i64 0, .int .i64 0, .int .i64 0, .int .i64 0, .int .i64 0, .int .i64 0, .int .i64 0, .int .i64 0, .int .i64 0] 60)
  have hs2 : ((w.alloc (.cells #[.int .i64 0, .int .i64 0, .int .i64 0, .int .i64 0, .int .i64 0, .int .i64 0, .int .i64 0, .int .i64 0, .int .i64 0, .int .i64 0, .int .i64 0, .int .i64 0, .int .i64 0, .int .i64 0, .int .i64 0, .int .i64 0, .int .i64 0, .int .i64 0, .int .i64 0, .int .i64 0, .int .i64 0, .int .i64 0, .int .i64 0, .int .i64 0, .int .i64 0, .int .i64 0, .int .i64 0, .int .i64 0, .int .i64 0, .int .i64 0, .int .i64 0, .int .i64 0] 60)).alloc (.cells #[.int .i64 0, .int .i64 0, .int .i64 0, .int .i64 0, .int .i64 0, .int .i64 0, .int .i64 0, .int .i64 0, .int .i64 0, .int .i64 0, .int .i64 0, .int .i64 0, .int .i64 0, .int .i64 0, .int .i64 0, .int .i64 0, .int .i64 0, .int .i64 0, .int .i64 0, .int .i64 0, .int .i64 0, .int .i64 0, .int .i64 0, .int .i64 0, .int .i64 0, .int .i64 0, .int .i64 0, .int .i64 0, .int .i64 0, .int .i64 0, .int .i64 0, .int .i64 0] 60)).heap.size = w.heap.size + 2 := by simp
  have hlook := hm1.look (natB_ops Try.underlying3) Try.underlying51 (zbits (w.alloc (.cells #[.int .i64 0, .int .i64 0, .int .i64 0, .int .i64 0, .int .i64 0, .int .i64 0, .int .i64 0, .int .i64 0, .int .i64 0, .int .i64 0, .int .i64 0, .int .i64 0, .int .i64 0, .int .i64 0, .int .i64 0, .int .i64 0, .int .i64 0, .int .i64 0, .int .i64 0, .int .i64 0, .int .i64 0, .int .i64 0, .int .i64 0, .int .i64 0, .int .i64 0, .int .i64 0, .int .i64 0, .int .i64 0, .int .i64 0, .int .i64 0, .int .i64 0, .int .i64 0] 60))) n true
  simp only [if_pos, natB] at hlook
  obtain ⟨c0, c1, c2⟩ := three_cells hbl1
  have lbl : bl < w.heap.size := hKin _ kb
  rw [termF_const hd hte]
  rw [show dnV d n = none by unfold dnV; rw [hd]; rfl] at hlook
  simp only [Option.getD_none, Option.isSome_none] at hlook
  have hbl3 := (setRow_other ((w.alloc (.cells #[.int .i64 0, .int .i64 0, .int .i64 0, .int .i64 0, .int .i64 0, .int .i64 0, .int .i64 0, .int .i64 0, .int .i64 0, .int .i64 0, .int .i64 0, .int .i64 0, .int .i64 0, .int .i64 0, .int .i64 0, .int .i64 0, .int .i64 0, .int .i64 0, .int .i64 0, .int .i64 0, .int .i64 0, .int .i64 0, .int .i64 0, .int .i64 0, .int .i64 0, .int .i64 0, .int .i64 0, .int .i64 0, .int .i64 0, .int .i64 0, .int .i64 0, .int .i64 0] 60)).alloc (.cells #[.int .i64 0, .int .i64 0, .int .i64 0, .int .i64 0, .int .i64 0, .int .i64 0, .int .i64 0, .int .i64 0, .int .i64 0, .int .i64 0, .int .i64 0, .int .i64 0, .int .i64 0, .int .i64 0, .int .i64 0, .int .i64 0, .int .i64 0, .int .i64 0, .int .i64 0, .int .i64 0, .int .i64 0, .int .i64 0, .int .i64 0, .int .i64 0, .int .i64 0, .int .i64 0, .int .i64 0, .int .i64 0, .int .i64 0, .int .i64 0, .int .i64 0, .int .i64 0] 60)) (w.heap.size + 1) bl (zV fun _ => 0) (by omega)).trans hbl2
  have hR3 := (setRow_other ((w.alloc (.cells #[.int .i64 0, .int .i64 0, .int .i64 0, .int .i64 0, .int .i64 0, .int .i64 0, .int .i64 0, .int .i64 0, .int .i64 0, .int .i64 0, .int .i64 0, .int .i64 0, .int .i64 0, .int .i64 0, .int .i64 0, .int .i64 0, .int .i64 0, .int .i64 0, .int .i64 0, .int .i64 0, .int .i64 0, .int .i64 0, .int .i64 0, .int .i64 0, .int .i64 0, .int .i64 0, .int .i64 0, .int .i64 0, .int .i64 0, .int .i64 0, .int .i64 0, .int .i64 0] 60)).alloc (.cells #[.int .i64 0, .int .i64 0, .int .i64 0, .int .i64 0, .int .i64 0, .int .i64 0, .int .i64 0, .int .i64 0, .int .i64 0, .int .i64 0, .int .i64 0, .int .i64 0, .int .i64 0, .int .i64 0, .int .i64 0, .int .i64 0, .int .i64 0, .int .i64 0, .int .i64 0, .int .i64 0, .int .i64 0, .int .i64 0, .int .i64 0, .int .i64 0, .int .i64 0, .int .i64 0, .int .i64 0, .int .i64 0, .int .i64 0, .int .i64 0, .int .i64 0, .int .i64 0] 60)) (w.heap.size + 1) w.heap.size (zV fun _ => 0) (by omega)).trans hR2
  have hm3 := hm2.block (setRow_other ((w.alloc (.cells #[.int .i64 0, .int .i64 0, .int .i64 0, .int .i64 0, .int .i64 0, .int .i64 0, .int .i64 0, .int .i64 0, .int .i64 0, .int .i64 0, .int .i64 0, .int .i64 0, .int .i64 0, .int .i64 0, .int .i64 0, .int .i64 0, .int .i64 0, .int .i64 0, .int .i64 0, .int .i64 0, .int .i64 0, .int .i64 0, .int .i64 0, .int .i64 0, .int .i64 0, .int .i64 0, .int .i64 0, .int .i64 0, .int .i64 0, .int .i64 0, .int .i64 0, .int .i64 0] 60)).alloc (.cells #[.int .i64 0, .int .i64 0, .int .i64 0, .int .i64 0, .int .i64 0, .int .i64 0, .int .i64 0, .int .i64 0, .int .i64 0, .int .i64 0, .int .i64 0, .int .i64 0, .int .i64 0, .int .i64 0, .int .i64 0, .int .i64 0, .int .i64 0, .int .i64 0, .int .i64 0, .int .i64 0, .int .i64 0, .int .i64 0, .int .i64 0, .int .i64 0, .int .i64 0, .int .i64 0, .int .i64 0, .int .i64 0, .int .i64 0, .int .i64 0, .int .i64 0, .int .i64 0] 60)) (w.heap.size + 1) m (zV fun _ => 0) (by have := hKin _ km; omega))
  have hk3 : Kept (Km K m) w (((w.alloc (.cells #[.int .i64 0, .int .i64 0, .int .i64 0, .int .i64 0, .int .i64 0, .int .i64 0, .int .i64 0, .int .i64 0, .int .i64 0, .int .i64 0, .int .i64 0, .int .i64 0, .int .i64 0, .int .i64 0, .int .i64 0, .int .i64 0, .int .i64 0, .int .i64 0, .int .i64 0, .int .i64 0, .int .i64 0, .int .i64 0, .int .i64 0, .int .i64 0, .int .i64 0, .int .i64 0, .int .i64 0, .int .i64 0, .int .i64 0, .int .i64 0, .int .i64 0, .int .i64 0] 60)).alloc (.cells #[.int .i64 0, .int .i64 0, .int .i64 0, .int .i64 0, .int .i64 0, .int .i64 0, .int .i64 0, .int .i64 0, .int .i64 0, .int .i64 0, .int .i64 0, .int .i64 0, .int .i64 0, .int .i64 0, .int .i64 0, .int .i64 0, .int .i64 0, .int .i64 0, .int .i64 0, .int .i64 0, .int .i64 0, .int .i64 0, .int .i64 0, .int .i64 0, .int .i64 0, .int .i64 0, .int .i64 0, .int .i64 0, .int .i64 0, .int .i64 0, .int .i64 0, .int .i64 0] 60)).setRow (w.heap.size + 1) (zV fun _ => 0)) := (Kept.below bx2).trans ((row_kept _ _ _).mono fun i hi => by have := hKin i hi.1; show i ≠ w.heap.size + 1; omega)
  have hQ3 : QS (More K w ((w.alloc (.cells #[.int .i64 0, .int .i64 0, .int .i64 0, .int .i64 0, .int .i64 0, .int .i64 0, .int .i64 0, .int .i64 0, .int .i64 0, .int .i64 0, .int .i64 0, .int .i64 0, .int .i64 0, .int .i64 0, .int .i64 0, .int .i64 0, .int .i64 0, .int .i64 0, .int .i64 0, .int .i64 0, .int .i64 0, .int .i64 0, .int .i64 0, .int .i64 0, .int .i64 0, .int .i64 0, .int .i64 0, .int .i64 0, .int .i64 0, .int .i64 0, .int .i64 0, .int .i64 0] 60)).alloc (.cells #[.int .i64 0, .int .i64 0, .int .i64 0, .int .i64 0, .int .i64 0, .int .i64 0, .int .i64 0, .int .i64 0, .int .i64 0, .int .i64 0, .int .i64 0, .int .i64 0, .int .i64 0, .int .i64 0, .int .i64 0, .int .i64 0, .int .i64 0, .int .i64 0, .int .i64 0, .int .i64 0, .int .i64 0, .int .i64 0, .int .i64 0, .int .i64 0, .int .i64 0, .int .i64 0, .int .i64 0, .int .i64 0, .int .i64 0, .int .i64 0, .int .i64 0, .int .i64 0] 60))) (((w.alloc (.cells #[.int .i64 0, .int .i64 0, .int .i64 0, .int .i64 0, .int .i64 0, .int .i64 0, .int .i64 0, .int .i64 0, .int .i64 0, .int .i64 0, .int .i64 0, .int .i64 0, .int .i64 0, .int .i64 0, .int .i64 0, .int .i64 0, .int .i64 0, .int .i64 0, .int .i64 0, .int .i64 0, .int .i64 0, .int .i64 0, .int .i64 0, .int .i64 0, .int .i64 0, .int .i64 0, .int .i64 0, .int .i64 0, .int .i64 0, .int .i64 0, .int .i64 0, .int .i64 0] 60)).alloc (.cells #[.int .i64 0, .int .i64 0, .int .i64 0, .int .i64 0, .int .i64 0, .int .i64 0, .int .i64 0, .int .i64 0, .int .i64 0, .int .i64 0, .int .i64 0, .int .i64 0, .int .i64 0, .int .i64 0, .int .i64 0, .int .i64 0, .int .i64 0, .int .i64 0, .int .i64 0, .int .i64 0, .int .i64 0, .int .i64 0, .int .i64 0, .int .i64 0, .int .i64 0, .int .i64 0, .int .i64 0, .int .i64 0, .int .i64 0, .int .i64 0, .int .i64 0, .int .i64 0] 60)).setRow (w.heap.size + 1) (zV fun _ => 0)) q gs := QAt.moved (QAt.more hQ bx2) (row_kept _ _ _) (Or.inr ⟨Nat.le_add_right _ _, by omega⟩)
  have kk3 : ∀ i, K i → More K w ((w.alloc (.cells #[.int .i64 0, .int .i64 0, .int .i64 0, .int .i64 0, .int .i64 0, .int .i64 0, .int .i64 0, .int .i64 0, .int .i64 0, .int .i64 0, .int .i64 0, .int .i64 0, .int .i64 0, .int .i64 0, .int .i64 0, .int .i64 0, .int .i64 0, .int .i64 0, .int .i64 0, .int .i64 0, .int .i64 0, .int .i64 0, .int .i64 0, .int .i64 0, .int .i64 0, .int .i64 0, .int .i64 0, .int .i64 0, .int .i64 0, .int .i64 0, .int .i64 0, .int .i64 0] 60)).alloc (.cells #[.int .i64 0, .int .i64 0, .int .i64 0, .int .i64 0, .int .i64 0, .int .i64 0, .int .i64 0, .int .i64 0, .int .i64 0, .int .i64 0, .int .i64 0, .int .i64 0, .int .i64 0, .int .i64 0, .int .i64 0, .int .i64 0, .int .i64 0, .int .i64 0, .int .i64 0, .int .i64 0, .int .i64 0, .int .i64 0, .int .i64 0, .int .i64 0, .int .i64 0, .int .i64 0, .int .i64 0, .int .i64 0, .int .i64 0, .int .i64 0, .int .i64 0, .int .i64 0] 60)) i := fun i hi => Or.inl hi
  have kr3 : More K w ((w.alloc (.cells #[.int .i64 0, .int .i64 0, .int .i64 0, .int .i64 0, .int .i64 0, .int .i64 0, .int .i64 0, .int .i64 0, .int .i64 0, .int .i64 0, .int .i64 0, .int .i64 0, .int .i64 0, .int .i64 0, .int .i64 0, .int .i64 0, .int .i64 0, .int .i64 0, .int .i64 0, .int .i64 0, .int .i64 0, .int .i64 0, .int .i64 0, .int .i64 0, .int .i64 0, .int .i64 0, .int .i64 0, .int .i64 0, .int .i64 0, .int .i64 0, .int .i64 0, .int .i64 0] 60)).alloc (.cells #[.int .i64 0, .int .i64 0, .int .i64 0, .int .i64 0, .int .i64 0, .int .i64 0, .int .i64 0, .int .i64 0, .int .i64 0, .int .i64 0, .int .i64 0, .int .i64 0, .int .i64 0, .int .i64 0, .int .i64 0, .int .i64 0, .int .i64 0, .int .i64 0, .int .i64 0, .int .i64 0, .int .i64 0, .int .i64 0, .int .i64 0, .int .i64 0, .int .i64 0, .int .i64 0, .int .i64 0, .int .i64 0, .int .i64 0, .int .i64 0, .int .i64 0, .int .i64 0] 60)) w.heap.size := Or.inr ⟨Nat.le_refl _, by omega⟩
  have hs3 : w.heap.size + 2 ≤ (((w.alloc (.cells #[.int .i64 0, .int .i64 0, .int .i64 0, .int .i64 0, .int .i64 0, .int .i64 0, .int .i64 0, .int .i64 0, .int .i64 0, .int .i64 0, .int .i64 0, .int .i64 0, .int .i64 0, .int .i64 0, .int .i64 0, .int .i64 0, .int .i64 0, .int .i64 0, .int .i64 0, .int .i64 0, .int .i64 0, .int .i64 0, .int .i64 0, .int .i64 0, .int .i64 0, .int .i64 0, .int .i64 0, .int .i64 0, .int .i64 0, .int .i64 0, .int .i64 0, .int .i64 0] 60)).alloc (.cells #[.int .i64 0, .int .i64 0, .int .i64 0, .int .i64 0, .int .i64 0, .int .i64 0, .int .i64 0, .int .i64 0, .int .i64 0, .int .i64 0, .int .i64 0, .int .i64 0, .int .i64 0, .int .i64 0, .int .i64 0, .int .i64 0, .int .i64 0, .int .i64 0, .int .i64 0, .int .i64 0, .int .i64 0, .int .i64 0, .int .i64 0, .int .i64 0, .int .i64 0, .int .i64 0, .int .i64 0, .int .i64 0, .int .i64 0, .int .i64 0, .int .i64 0, .int .i64 0] 60)).setRow (w.heap.size + 1) (zV fun _ => 0)).heap.size := by have := (row_kept ((w.alloc (.cells #[.int .i64 0, .int .i64 0, .int .i64 0, .int .i64 0, .int .i64 0, .int .i64 0, .int .i64 0, .int .i64 0, .int .i64 0, .int .i64 0, .int .i64 0, .int .i64 0, .int .i64 0, .int .i64 0, .int .i64 0, .int .i64 0, .int .i64 0, .int .i64 0, .int .i64 0, .int .i64 0, .int .i64 0, .int .i64 0, .int .i64 0, .int .i64 0, .int .i64 0, .int .i64 0, .int .i64 0, .int .i64 0, .int .i64 0, .int .i64 0, .int .i64 0, .int .i64 0] 60)).alloc (.cells #[.int .i64 0, .int .i64 0, .int .i64 0, .int .i64 0, .int .i64 0, .int .i64 0, .int .i64 0, .int .i64 0, .int .i64 0, .int .i64 0, .int .i64 0, .int .i64 0, .int .i64 0, .int .i64 0, .int .i64 0, .int .i64 0, .int .i64 0, .int .i64 0, .int .i64 0, .int .i64 0, .int .i64 0, .int .i64 0, .int .i64 0, .int .i64 0, .int .i64 0, .int .i64 0, .int .i64 0, .int .i64 0, .int .i64 0, .int .i64 0, .int .i64 0, .int .i64 0] 60)) (w.heap.size + 1) (zV fun _ => 0)).size; omega
  obtain ⟨x0, x1, x2⟩ := three_cells hbl3
  have hfew := hT.few
  have hN := node_any Kd b n ts (by omega) hn _ (hD _ hk3)
  rw [hte] at hN
  change Calls Try.prog 29 #[.pointer (some ⟨b, 0, none⟩), .int .i64 n] _ (fun r w' => r = .returned (.tuple #[.agg #[.int .i64 0, .int .u32 (v : Int), .int .i64 0, .int .i64 0, .int .i64 0], .int .i64 0]) ∧ Below _ _ w') at hN
  generalize More K w ((w.alloc (.cells #[.int .i64 0, .int .i64 0, .int .i64 0, .int .i64 0, .int .i64 0, .int .i64 0, .int .i64 0, .int .i64 0, .int .i64 0, .int .i64 0, .int .i64 0, .int .i64 0, .int .i64 0, .int .i64 0, .int .i64 0, .int .i64 0, .int .i64 0, .int .i64 0, .int .i64 0, .int .i64 0, .int .i64 0, .int .i64 0, .int .i64 0, .int .i64 0, .int .i64 0, .int .i64 0, .int .i64 0, .int .i64 0, .int .i64 0, .int .i64 0, .int .i64 0, .int .i64 0] 60)).alloc (.cells #[.int .i64 0, .int .i64 0, .int .i64 0, .int .i64 0, .int .i64 0, .int .i64 0, .int .i64 0, .int .i64 0, .int .i64 0, .int .i64 0, .int .i64 0, .int .i64 0, .int .i64 0, .int .i64 0, .int .i64 0, .int .i64 0, .int .i64 0, .int .i64 0, .int .i64 0, .int .i64 0, .int .i64 0, .int .i64 0, .int .i64 0, .int .i64 0, .int .i64 0, .int .i64 0, .int .i64 0, .int .i64 0, .int .i64 0, .int .i64 0, .int .i64 0, .int .i64 0] 60)) = K3 at *
  clear bx1 bx2 hm1 hm2 hbl1 hbl2 hR1 hR2 hm hbl hQ
  go_enter Try.func13, Try.ntmps13
  go_wp2_with (first | (refine wpList_store_row rfl 60 (.tmp 5) (.tmp 19) rfl (w.heap.size + 1) (zV fun _ => 0) rfl rfl 60 _ hL2 (by rw [zV_size]; exact info_bits) (by rw [zV_size]; rfl) (one_zV _) ?_) | fail)
  clear hL2 hs1 hs2 hlook c0 c1 c2 x0 x1 x2
  generalize ((w.alloc (.cells #[.int .i64 0, .int .i64 0, .int .i64 0, .int .i64 0, .int .i64 0, .int .i64 0, .int .i64 0, .int .i64 0, .int .i64 0, .int .i64 0, .int .i64 0, .int .i64 0, .int .i64 0, .int .i64 0, .int .i64 0, .int .i64 0, .int .i64 0, .int .i64 0, .int .i64 0, .int .i64 0, .int .i64 0, .int .i64 0, .int .i64 0, .int .i64 0, .int .i64 0, .int .i64 0, .int .i64 0, .int .i64 0, .int .i64 0, .int .i64 0, .int .i64 0, .int .i64 0] 60)).alloc (.cells #[.int .i64 0, .int .i64 0, .int .i64 0, .int .i64 0, .int .i64 0, .int .i64 0, .int .i64 0, .int .i64 0, .int .i64 0, .int .i64 0, .int .i64 0, .int .i64 0, .int .i64 0, .int .i64 0, .int .i64 0, .int .i64 0, .int .i64 0, .int .i64 0, .int .i64 0, .int .i64 0, .int .i64 0, .int .i64 0, .int .i64 0, .int .i64 0, .int .i64 0, .int .i64 0, .int .i64 0, .int .i64 0, .int .i64 0, .int .i64 0, .int .i64 0, .int .i64 0] 60)).setRow (w.heap.size + 1) (zV fun _ => 0) = w3 at *
  refine hN.mono ?_
  rintro r w4 ⟨rfl, b4⟩
  have hs4 : w.heap.size + 2 ≤ w4.heap.size := Nat.le_trans hs3 b4.size
  have hbl4 := blk_below hbl3 b4
  have hR4 := blk_below hR3 b4
  have hm4 := hm3.below b4 hm3.lt
  have hQ4 := QAt.below hQ3 b4
  have hk4 := hk3.trans (Kept.below b4)
  have bx5 := (Below.refl w4.heap.size w4).alloc (Nat.le_refl _) (.cells #[.int .i64 0, .int .u32 (v : Int), .int .i64 0, .int .i64 0, .int .i64 0] 82)
  have bx6 := bx5.alloc (by simp) (.cells #[.int .i64 0, .int .i64 0, .int .i64 0, .int .i64 0, .int .i64 0, .int .i64 0, .int .i64 0, .int .i64 0, .int .i64 0, .int .i64 0, .int .i64 0, .int .i64 0, .int .i64 0, .int .i64 0, .int .i64 0, .int .i64 0, .int .i64 0, .int .i64 0, .int .i64 0, .int .i64 0, .int .i64 0, .int .i64 0, .int .i64 0, .int .i64 0, .int .i64 0, .int .i64 0, .int .i64 0, .int .i64 0, .int .i64 0, .int .i64 0, .int .i64 0, .int .i64 0] 60)
  have hT5 := blk_new w4 (.cells #[.int .i64 0, .int .u32 (v : Int), .int .i64 0, .int .i64 0, .int .i64 0] 82)
  have hT6 := blk_alloc hT5 (.cells #[.int .i64 0, .int .i64 0, .int .i64 0, .int .i64 0, .int .i64 0, .int .i64 0, .int .i64 0, .int .i64 0, .int .i64 0, .int .i64 0, .int .i64 0, .int .i64 0, .int .i64 0, .int .i64 0, .int .i64 0, .int .i64 0, .int .i64 0, .int .i64 0, .int .i64 0, .int .i64 0, .int .i64 0, .int .i64 0, .int .i64 0, .int .i64 0, .int .i64 0, .int .i64 0, .int .i64 0, .int .i64 0, .int .i64 0, .int .i64 0, .int .i64 0, .int .i64 0] 60)
  have hZ6 := blk_new (w4.alloc (.cells #[.int .i64 0, .int .u32 (v : Int), .int .i64 0, .int .i64 0, .int .i64 0] 82)) (.cells #[.int .i64 0, .int .i64 0, .int .i64 0, .int .i64 0, .int .i64 0, .int .i64 0, .int .i64 0, .int .i64 0, .int .i64 0, .int .i64 0, .int .i64 0, .int .i64 0, .int .i64 0, .int .i64 0, .int .i64 0, .int .i64 0, .int .i64 0, .int .i64 0, .int .i64 0, .int .i64 0, .int .i64 0, .int .i64 0, .int .i64 0, .int .i64 0, .int .i64 0, .int .i64 0, .int .i64 0, .int .i64 0, .int .i64 0, .int .i64 0, .int .i64 0, .int .i64 0] 60)
  have hs5 : (w4.alloc (.cells #[.int .i64 0, .int .u32 (v : Int), .int .i64 0, .int .i64 0, .int .i64 0] 82)).heap.size = w4.heap.size + 1 := by simp
  rw [hs5] at hZ6
  have hs6 : ((w4.alloc (.cells #[.int .i64 0, .int .u32 (v : Int), .int .i64 0, .int .i64 0, .int .i64 0] 82)).alloc (.cells #[.int .i64 0, .int .i64 0, .int .i64 0, .int .i64 0, .int .i64 0, .int .i64 0, .int .i64 0, .int .i64 0, .int .i64 0, .int .i64 0, .int .i64 0, .int .i64 0, .int .i64 0, .int .i64 0, .int .i64 0, .int .i64 0, .int .i64 0, .int .i64 0, .int .i64 0, .int .i64 0, .int .i64 0, .int .i64 0, .int .i64 0, .int .i64 0, .int .i64 0, .int .i64 0, .int .i64 0, .int .i64 0, .int .i64 0, .int .i64 0, .int .i64 0, .int .i64 0] 60)).heap.size = w4.heap.size + 2 := by simp
  have hbl6 := blk_below hbl4 bx6
  have hR6 := blk_below hR4 bx6
  have hm6 := hm4.below bx6 hm4.lt
  have hQ6 := QAt.more hQ4 bx6
  have hk6 := hk4.trans (Kept.below bx6)
  have kk6 : ∀ i, K i → More K3 w4 ((w4.alloc (.cells #[.int .i64 0, .int .u32 (v : Int), .int .i64 0, .int .i64 0, .int .i64 0] 82)).alloc (.cells #[.int .i64 0, .int .i64 0, .int .i64 0, .int .i64 0, .int .i64 0, .int .i64 0, .int .i64 0, .int .i64 0, .int .i64 0, .int .i64 0, .int .i64 0, .int .i64 0, .int .i64 0, .int .i64 0, .int .i64 0, .int .i64 0, .int .i64 0, .int .i64 0, .int .i64 0, .int .i64 0, .int .i64 0, .int .i64 0, .int .i64 0, .int .i64 0, .int .i64 0, .int .i64 0, .int .i64 0, .int .i64 0, .int .i64 0, .int .i64 0, .int .i64 0, .int .i64 0] 60)) i := fun i hi => Or.inl (kk3 i hi)
  have kr6 : More K3 w4 ((w4.alloc (.cells #[.int .i64 0, .int .u32 (v : Int), .int .i64 0, .int .i64 0, .int .i64 0] 82)).alloc (.cells #[.int .i64 0, .int .i64 0, .int .i64 0, .int .i64 0, .int .i64 0, .int .i64 0, .int .i64 0, .int .i64 0, .int .i64 0, .int .i64 0, .int .i64 0, .int .i64 0, .int .i64 0, .int .i64 0, .int .i64 0, .int .i64 0, .int .i64 0, .int .i64 0, .int .i64 0, .int .i64 0, .int .i64 0, .int .i64 0, .int .i64 0, .int .i64 0, .int .i64 0, .int .i64 0, .int .i64 0, .int .i64 0, .int .i64 0, .int .i64 0, .int .i64 0, .int .i64 0] 60)) w.heap.size := Or.inl kr3
  have kt6 : More K3 w4 ((w4.alloc (.cells #[.int .i64 0, .int .u32 (v : Int), .int .i64 0, .int .i64 0, .int .i64 0] 82)).alloc (.cells #[.int .i64 0, .int .i64 0, .int .i64 0, .int .i64 0, .int .i64 0, .int .i64 0, .int .i64 0, .int .i64 0, .int .i64 0, .int .i64 0, .int .i64 0, .int .i64 0, .int .i64 0, .int .i64 0, .int .i64 0, .int .i64 0, .int .i64 0, .int .i64 0, .int .i64 0, .int .i64 0, .int .i64 0, .int .i64 0, .int .i64 0, .int .i64 0, .int .i64 0, .int .i64 0, .int .i64 0, .int .i64 0, .int .i64 0, .int .i64 0, .int .i64 0, .int .i64 0] 60)) w4.heap.size := Or.inr ⟨Nat.le_refl _, by omega⟩
  have kz6 : More K3 w4 ((w4.alloc (.cells #[.int .i64 0, .int .u32 (v : Int), .int .i64 0, .int .i64 0, .int .i64 0] 82)).alloc (.cells #[.int .i64 0, .int .i64 0, .int .i64 0, .int .i64 0, .int .i64 0, .int .i64 0, .int .i64 0, .int .i64 0, .int .i64 0, .int .i64 0, .int .i64 0, .int .i64 0, .int .i64 0, .int .i64 0, .int .i64 0, .int .i64 0, .int .i64 0, .int .i64 0, .int .i64 0, .int .i64 0, .int .i64 0, .int .i64 0, .int .i64 0, .int .i64 0, .int .i64 0, .int .i64 0, .int .i64 0, .int .i64 0, .int .i64 0, .int .i64 0, .int .i64 0, .int .i64 0] 60)) (w4.heap.size + 1) := Or.inr ⟨Nat.le_add_right _ _, by omega⟩
  generalize More K3 w4 ((w4.alloc (.cells #[.int .i64 0, .int .u32 (v : Int), .int .i64 0, .int .i64 0, .int .i64 0] 82)).alloc (.cells #[.int .i64 0, .int .i64 0, .int .i64 0, .int .i64 0, .int .i64 0, .int .i64 0, .int .i64 0, .int .i64 0, .int .i64 0, .int .i64 0, .int .i64 0, .int .i64 0, .int .i64 0, .int .i64 0, .int .i64 0, .int .i64 0, .int .i64 0, .int .i64 0, .int .i64 0, .int .i64 0, .int .i64 0, .int .i64 0, .int .i64 0, .int .i64 0, .int .i64 0, .int .i64 0, .int .i64 0, .int .i64 0, .int .i64 0, .int .i64 0, .int .i64 0, .int .i64 0] 60)) = K6 at *
  obtain ⟨z0, z1, z2, z3, z4⟩ := five_cells hT6
  clear hbl3 hR3 hm3 hQ3 hk3 hN b4 hbl4 hR4 hm4 hQ4 hk4 bx5 bx6 hT5 hs5
  go_wp2_with fail
  refine (word_any v hv _).mono ?_
  rintro r w7 ⟨rfl, b7⟩
  have hZ7 := blk_below hZ6 b7
  have hblx := (setRow_other w7 (w4.heap.size + 1) bl (zV (wordW v)) (by omega)).trans (blk_below hbl6 b7)
  have hRx := (setRow_other w7 (w4.heap.size + 1) w.heap.size (zV (wordW v)) (by omega)).trans (blk_below hR6 b7)
  have hmx := (hm6.below b7 hm6.lt).block (setRow_other w7 (w4.heap.size + 1) m (zV (wordW v)) (by have := hKin _ km; omega))
  have hQx := QAt.moved (QAt.below hQ6 b7) (row_kept w7 (w4.heap.size + 1) (zV (wordW v))) kz6
  have hkx := (hk6.trans (Kept.below b7)).trans ((row_kept w7 (w4.heap.size + 1) (zV (wordW v))).mono fun i hi => by have := hKin i hi.1; show i ≠ w4.heap.size + 1; omega)
  have hZx : ZAt 60 (w7.setRow (w4.heap.size + 1) (zV (wordW v))) (w4.heap.size + 1) (wordW v) := setRow_heap _ _ _ _ _ _ hZ7
  have kmx := kk6 _ km
  have krx := kr6
  have kkx := kk6
  go_wp2_with (first | (refine wpList_store_row rfl 60 (.tmp 9) (.tmp 54) rfl (w4.heap.size + 1) (zV (wordW v)) rfl rfl 60 _ hZ7 (by rw [zV_size]; exact info_bits) (by rw [zV_size]; rfl) (one_zV _) ?_) | fail)
  clear hZ6 hZ7 hbl6 hR6 hm6 hQ6 hk6 b7 hT6 z0 z1 z2 z3 z4
  generalize w7.setRow (w4.heap.size + 1) (zV (wordW v)) = w8 at *
  have bd : Below w8.heap.size w8 w8.drew := below_drewN (Below.refl _ _) 1
  have hbld := blk_below hblx bd
  have hRd := blk_below hRx bd
  have hZd := blk_below hZx bd
  have hmd := hmx.below bd hmx.lt
  have hQd := QAt.below hQx bd
  have hkd := hkx.trans (Kept.below bd)
  obtain ⟨wm, hrun, hgen, hgr⟩ := hmd.store (natB_ops Try.underlying3) Try.underlying51 n (.agg (zV (wordW v)))
  simp only [natB] at hrun
  have hmm := hgen (dnV (putD d n (wordW v))) (dnV_put d n (wordW v)).1 (dnV_put d n (wordW v)).2
  have kg : Kept (fun i => i ≠ m) w8.drew wm := Kept.grown hgr fun h => h rfl
  have lm := hKin _ km
  have hZm := kg.blk (show w4.heap.size + 1 ≠ m by omega) hZd
  have hRm := kg.blk (show w.heap.size ≠ m by omega) hRd
  have hblm := kg.blk hne hbld
  have hQm := QAt.moved hQd kg kmx
  have hkm := hkd.trans (kg.mono fun i hi => hi.2)
  have hSd : w8.drew.cell? ⟨bl, 2, none⟩ = some (.map (some m)) ∧ w8.drew.rangeAt (w4.heap.size + 1) 0 (zV (wordW v)).toList := ⟨(three_cells hbld).2.2, range_row hZd⟩
  have hSm : wm.cell? ⟨bl, 2, none⟩ = some (.map (some m)) ∧ wm.rangeAt (w4.heap.size + 1) 0 (zV (wordW v)).toList := ⟨(three_cells hblm).2.2, range_row hZm⟩
  clear hgen hgr hmd bd hblx hRx hmx hkx hbld hQd hkd hRd hQx
  refine wp_region_any (by kernel_rfl) (wpAny_of_held (S := fun w' => w'.cell? ⟨bl, 2, none⟩ = some (.map (some m)) ∧ w'.rangeAt (w4.heap.size + 1) 0 (zV (wordW v)).toList) _ _ _ _ ?_)
  change wpAnyH _ _ _ _ _ 7 _ _ w8.drew
  refine wpAnyH_take (i := 0) (v := ?_) rfl (by kernel_rfl) (by kernel_rfl) (by kernel_rfl) (fun _ _ _ h => h) (Or.inl ⟨by rfl, ?_⟩) hSd ?_
  rotate_left
  · intro w9 hw9
    go_simp
    try with_reducible rfl
  refine wpAnyH_take (i := 1) (v := ?_) rfl (by kernel_rfl) (by kernel_rfl) (by kernel_rfl) (fun _ _ _ h => h) (Or.inl ⟨by rfl, ?_⟩) hSd ?_
  rotate_left
  · intro w9 hw9
    go_simp
    try with_reducible rfl
  refine wpAnyH_take (i := 2) (v := ?_) rfl (by kernel_rfl) (by kernel_rfl) (by kernel_rfl) (fun _ _ _ h => h) (Or.inl ⟨by rfl, ?_⟩) hSd ?_
  rotate_left
  · intro w9 hw9
    go_simp
    try with_reducible rfl
  refine wpAnyH_take (i := 3) (v := ?_) rfl (by kernel_rfl) (by kernel_rfl) (by kernel_rfl) (fun _ _ _ h => h) (Or.inl ⟨by rfl, ?_⟩) hSd ?_
  rotate_left
  · intro w9 hw9
    obtain ⟨hw8, _⟩ := hw9
    go_simp
    try with_reducible rfl
  refine wpAnyH_take (i := 4) (v := ?_) rfl (by kernel_rfl) (by kernel_rfl) (by kernel_rfl) (fun _ _ _ h => h) (Or.inl ⟨by rfl, ?_⟩) hSd ?_
  rotate_left
  · intro w9 hw9
    go_simp
    try with_reducible rfl
  refine wpAnyH_take (i := 5) rfl (by kernel_rfl) (by kernel_rfl) (by kernel_rfl) (fun _ _ _ h => h) (yieldsIf_load_mid (by rfl) 60 (.tmp 9) rfl (w4.heap.size + 1) 0 rfl (zV (wordW v)).toList _ (fun w hw => hw.2) Try.underlying60 rfl (by rw [Array.length_toList, zV_size]; exact info_bits)) hSd ?_
  refine wpAnyH_all (rs := [6]) (by kernel_rfl) (by simp) (fun i hi => ?_)
  obtain rfl : i = 6 := by simpa using hi
  refine wpOp_step rfl (fun K9 hK9 => ?_)
  rw [if_pos (by rfl)]
  go_simp
  refine hK9 _ _ ⟨hSm, ?_⟩
  clear hK9
  refine wpAnyH_done (by kernel_rfl) ?_ _
  go_wp2_with (first | (refine wpList_load_row rfl 60 (.tmp 9) rfl (w4.heap.size + 1) rfl 60 (zV (wordW v)) (0, 0) _ hZm Try.underlying60 rfl (by rw [zV_size]; exact info_bits) ?_) | (refine wpList_store_row rfl 60 (.tmp 4) (.tmp 79) rfl w.heap.size (zV (wordW v)) rfl rfl 60 _ hRm (by rw [zV_size]; exact info_bits) (by rw [zV_size]; rfl) (one_zV _) ?_) | fail)
  exact bodyPost_ret (v := .agg (zV (wordW v))) (results_cell_row rfl _ _ w.heap.size 60 (zV (wordW v)) (0, 0) _ rfl (setRow_heap _ _ _ _ _ _ hRm) Try.underlying60 rfl (by rw [zV_size]; exact info_bits)) rfl ⟨rfl, QAt.mono (QAt.moved hQm (row_kept _ _ _) krx) kkx, hmm.block (setRow_other _ _ _ _ (by omega)), hkm.trans ((row_kept _ _ _).mono fun i hi => by have := hKin i hi.1; show i ≠ w.heap.size; omega)⟩
end Go.Proofs.Ytgnahjadjgjecaa
