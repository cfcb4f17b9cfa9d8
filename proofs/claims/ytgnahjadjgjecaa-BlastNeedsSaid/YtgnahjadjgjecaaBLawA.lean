/- whetstonelaw14: Laid: a query's script and pairs, cut. -/
/- The laws of blast: what stands behind the query that is laid. -/
import Derived.Test.YtgnahjadjgjecaaBFix
import Derived.Test.YtgnahjadjgjecaaLLaid
import Derived.Test.YtgnahjadjgjecaaBReg
set_option linter.unusedVariables false
set_option linter.unusedSimpArgs false
namespace Go.Proofs.Ytgnahjadjgjecaa
open Go.RowKit Go.Maps Go.MapKept

theorem Sl.retype {B : Nat} {e : TypeId} {w : World} {v : Value} {xs : List Int} (h : Sl B e I64 w v xs) : ∃ e', Sl 0 e' I64 w v xs := by
  obtain ⟨A, c, rfl, h1, h2, h3, h4⟩ := h
  rcases Nat.eq_zero_or_pos xs.length with h0 | h0
  · exact ⟨e, A, c, rfl, h1, h2, h3, fun hn => by omega⟩
  · obtain ⟨b, off, hA, hb, ht, hc⟩ := h4 h0
    obtain ⟨u, hu, _⟩ := hc 0 xs[0] (List.getElem?_eq_getElem h0)
    have : ∃ cur e' fz, w.heap[b]? = some (.cells cur e' fz) := by
      unfold World.cell? at hu
      split at hu
      · rename_i cur e' fz he; exact ⟨cur, e', fz, he⟩
      · cases hu
    obtain ⟨cur, e', fz, he⟩ := this
    exact ⟨e', A, c, rfl, h1, h2, h3, fun _ => ⟨b, off, hA, hb, Or.inr ⟨cur, fz, he⟩, hc⟩⟩
theorem cutI {B : Nat} {e : TypeId} {w : World} {A : Option Addr} {c : Nat} {xs : List Int} (h : Sl B e I64 w (.slice A xs.length c) xs) (k : Nat) :
    ∃ N : Nat, (xs.take k).length = N ∧ min (xs.length : Int) (k : Int) = (N : Int) ∧ N ≤ k ∧ (N : Int) ≤ c ∧ Sl B e I64 w (.slice A N c) (xs.take k) := by
  obtain ⟨A', c', e1, h1, h2, h3⟩ := h.open_
  injection e1 with _ _ ec
  subst ec
  have ht : xs.take (min xs.length k) = xs.take k := by
    rw [Nat.min_def]
    split
    · rw [List.take_of_length_le (Nat.le_refl _), List.take_of_length_le (by omega)]
    · rfl
  have hs := h.take (n := min xs.length k) (Nat.min_le_left _ _)
  rw [ht] at hs
  refine ⟨min xs.length k, by rw [List.length_take, Nat.min_comm], ?_, Nat.min_le_right _ _, by omega, hs⟩
  omega
theorem cutO {B : Nat} {e : TypeId} {w : World} {A : Option Addr} {c : Nat} {xs : List SOp} (h : SlN B e 5 SOp.five w (.slice A xs.length c) xs) (k : Nat) :
    ∃ N : Nat, (xs.take k).length = N ∧ min (xs.length : Int) (k : Int) = (N : Int) ∧ N ≤ k ∧ (N : Int) ≤ c ∧ SlN B e 5 SOp.five w (.slice A N c) (xs.take k) := by
  obtain ⟨A', c', e1, h1, h2, h3, h4⟩ := h
  injection e1 with e1 _ ec
  subst e1 ec
  have hl : (xs.take k).length = min xs.length k := by rw [List.length_take, Nat.min_comm]
  refine ⟨min xs.length k, hl, by omega, Nat.min_le_right _ _, by omega, ⟨A, c, by rw [hl], by omega, h2, h3, fun h0 => ?_⟩⟩
  obtain ⟨b, off, hA, hb, ht, hx⟩ := h4 (by omega)
  refine ⟨b, off, hA, hb, ht, fun j x hj => ?_⟩
  have hj' : j < k := by have := (List.getElem?_eq_some_iff.1 hj).1; omega
  exact hx j x (by rw [← hj, List.getElem?_take_of_lt hj'])
theorem BothM.moved {K0 : Nat → Prop} {w w' : World} {d k g : Nat} {ts us : List Term} (h : BothM K0 w d k ts us) (hk : Kept (fun i => i ≠ g) w w') (hg : K0 g) : BothM K0 w' d k ts us := by
  obtain ⟨K, vl, h⟩ := h
  have hd := h.dag.move hk fun i _ hi => (fun e => hi (by rw [e]; exact h.sub g hg))
  refine ⟨More K w w', vl, hd, h.ref.kept hk (fun e => h.nk (by rw [e]; exact hg)) (fun q hq e => h.nv q hq (by rw [e]; exact hg)), Or.inl h.kk, fun q hq => Or.inl (h.kv q hq), fun i hi => Or.inl (h.sub i hi), h.nk, h.nv⟩
theorem results_laid {P : Program} {fn : Func} {a b p q : Tmp} {ty : TypeId} (h : fn.results = #[.tmp a, .tmp b, .cell p ty, .tmp q]) (tmps : Array Value) (w : World) (g : Nat) (t : TypeId) (cs : Array Value) (fr : Nat × Nat) (d : TypeDesc) (va vb v : Value)
    (ha : tmps.getD a undef = va) (hb : tmps.getD b undef = vb) (hp : tmps.getD p undef = .pointer (some ⟨g, 0, none⟩)) (hq : tmps.getD q undef = v) (hg : w.heap[g]? = some (.cells cs t fr))
    (hu : P.underlying ty = some d) (hd : (match d with | .struct _ | .array _ _ => true | _ => false) = true) (hi : (P.info? ty).map (·.size) = some cs.size) :
    (results fn tmps).run P w = .ok (.tuple #[va, vb, .agg cs, v]) w := by
  have ha' : tmps[a]?.getD undef = va := by simpa using ha
  have hb' : tmps[b]?.getD undef = vb := by simpa using hb
  have hp' : tmps[p]?.getD undef = .pointer (some ⟨g, 0, none⟩) := by simpa using hp
  have hq' : tmps[q]?.getD undef = v := by simpa using hq
  simp [results, h, ha', hb', hp', hq', asAddr, run_loadVar_row w g t ty cs fr d hg hu hd hi]
/-- A slice's first six. -/
def CutTo (v v' : Value) (xs : List Int) : Prop := v'.oneCell' = true ∧ ∀ (B : Nat) (e : TypeId) (w : World), Sl B e I64 w v xs → Sl B e I64 w v' (xs.take 6)
theorem cutTo {A : Option Addr} {c N : Nat} {xs : List Int} (h : (xs.take 6).length = N) : CutTo (.slice A xs.length c) (.slice A N c) xs := ⟨rfl, fun B e w hs => by
  obtain ⟨N', h1, _, _, _, h2⟩ := cutI hs 6
  rw [h] at h1
  subst h1
  exact h2⟩
/-- What Laid answers: both Dags, the pairs cut. -/
def BLaidPost (w : World) (va0 vb0 : Value) (ax bx : List Int) (r : Ending) (w' : World) : Prop :=
  ∃ d k ts vs va vb, r = .returned (.tuple #[.pointer (some ⟨d, 0, none⟩), .pointer (some ⟨k, 0, none⟩), .agg #[vs, va, vb], .bool true]) ∧ BothM (fun i => i < w.heap.size) w' d k ts ts ∧ Good ts ∧ ts.length ≤ 60 ∧ Kept (fun i => i < w.heap.size) w w' ∧
    vs.oneCell' = true ∧ CutTo va0 va ax ∧ CutTo vb0 vb bx
theorem sl_keptB {e : TypeId} {w w' : World} {v : Value} {xs : List Int} (h : Sl 0 e I64 w v xs) (hk : Kept (fun i => i < w.heap.size) w w') : Sl 0 e I64 w' v xs := Sl.stable (stable_i64 _ _) (T := [e]) (by simp) _ _ _ _ (Quiet.below (⟨hk.os, hk.tape, hk.output, hk.size, fun i hi => hk.block i hi hi⟩)) h
set_option maxRecDepth 100000 in
set_option maxHeartbeats 4000000 in
theorem blaid_any (B : Nat) (e e1 e2 : TypeId) (vs va vb : Value) (xs : List SOp) (ax bx : List Int) (hf : ∀ x ∈ xs, x.Fits) (w : World) (hs : SlN B e 5 SOp.five w vs xs) (hva : Sl 0 e1 I64 w va ax) (hvb : Sl 0 e2 I64 w vb bx) :
    Calls Try.prog 4 #[.agg #[vs, va, vb]] w (BLaidPost w va vb ax bx) := by
  obtain ⟨A, c, rfl, _, _, _⟩ := hs.open_
  obtain ⟨A1, c1, rfl, _, _, _⟩ := hva.open_
  obtain ⟨A2, c2, rfl, _, _, _⟩ := hvb.open_
  obtain ⟨N, n1, n2, n3, n4, hs'⟩ := cutO hs 40
  obtain ⟨N1, m1, m2, m3, m4, hva'⟩ := cutI hva 6
  obtain ⟨N2, o1, o2, o3, o4, hvb'⟩ := cutI hvb 6
  have cv1 := cutTo (A := A1) (c := c1) m1
  have cv2 := cutTo (A := A2) (c := c2) o1
  clear n1 m1 o1
  go_enter Try.func4, Try.ntmps4
  go_upto_region 1 with fail
  go_cut [] from 9 to 16 (fun wx => wx = (w.alloc (.cells #[.slice A N c, .slice A1 ax.length c1, .slice A2 bx.length c2] 25)).alloc (.cells #[.slice none 0 0, .slice none 0 0, .slice none 0 0] 25))
  case first =>
    go_wp2_with fail
    · go_meet
      obtain rfl : N = 40 := by omega
      rfl
    · go_meet
      obtain rfl : N = xs.length := by omega
      rfl
  case rest =>
  obtain rfl := hcut
  go_upto_region 2 with fail
  go_cut [] from 17 to 24 (fun wx => wx = (w.alloc (.cells #[.slice A N c, .slice A1 N1 c1, .slice A2 bx.length c2] 25)).alloc (.cells #[.slice none 0 0, .slice none 0 0, .slice none 0 0] 25))
  case first =>
    go_wp2_with fail
    · go_meet
      obtain rfl : N1 = 6 := by omega
      rfl
    · go_meet
      obtain rfl : N1 = ax.length := by omega
      rfl
  case rest =>
  obtain rfl := hcut
  go_upto_region 3 with fail
  go_cut [] from 25 to 32 (fun wx => wx = (w.alloc (.cells #[.slice A N c, .slice A1 N1 c1, .slice A2 N2 c2] 25)).alloc (.cells #[.slice none 0 0, .slice none 0 0, .slice none 0 0] 25))
  case first =>
    go_wp2_with fail
    · go_meet
      obtain rfl : N2 = 6 := by omega
      rfl
    · go_meet
      obtain rfl : N2 = bx.length := by omega
      rfl
  case rest =>
  obtain rfl := hcut
  have b2 : Below w.heap.size w ((w.alloc (.cells #[.slice A N c, .slice A1 N1 c1, .slice A2 N2 c2] 25)).alloc (.cells #[.slice none 0 0, .slice none 0 0, .slice none 0 0] 25)) := ((Below.refl w.heap.size w).alloc (Nat.le_refl _) _).alloc (by simp) _
  have ya := blk_alloc (blk_new w (.cells #[.slice A N c, .slice A1 N1 c1, .slice A2 N2 c2] 25)) (.cells #[.slice none 0 0, .slice none 0 0, .slice none 0 0] 25)
  have yb := blk_top (w := w.alloc (.cells #[.slice A N c, .slice A1 N1 c1, .slice A2 N2 c2] 25)) (o := .cells #[.slice none 0 0, .slice none 0 0, .slice none 0 0] 25) (g := w.heap.size + 1) (by simp)
  have sz : ((w.alloc (.cells #[.slice A N c, .slice A1 N1 c1, .slice A2 N2 c2] 25)).alloc (.cells #[.slice none 0 0, .slice none 0 0, .slice none 0 0] 25)).heap.size = w.heap.size + 2 := by simp
  have hL := laid_any B e _ (xs.take 40) (fun x hx => hf x (List.mem_of_mem_take hx)) ((w.alloc (.cells #[.slice A N c, .slice A1 N1 c1, .slice A2 N2 c2] 25)).alloc (.cells #[.slice none 0 0, .slice none 0 0, .slice none 0 0] 25)) (hs'.below b2)
  clear hs hva hvb hs'
  have d0 : ((w.alloc (.cells #[.slice A N c, .slice A1 N1 c1, .slice A2 N2 c2] 25)).alloc (.cells #[.slice none 0 0, .slice none 0 0, .slice none 0 0] 25)).cell? ⟨w.heap.size, 0, none⟩ = some (.slice A N c) := (cell_of ya 0).trans rfl
  generalize hW : ((w.alloc (.cells #[.slice A N c, .slice A1 N1 c1, .slice A2 N2 c2] 25)).alloc (.cells #[.slice none 0 0, .slice none 0 0, .slice none 0 0] 25)) = w2 at *
  go_wp2_with fail
  refine hL.mono ?_
  rintro r w3 ⟨d, k, ts, rfl, hB, hG, hfew, hK⟩
  clear hL d0
  have ya := hK.blk (by rw [sz]; omega) ya
  have yb := hK.blk (by rw [sz]; omega) yb
  go_upto_region 5 with fail
  have bd : Below w3.heap.size w3 w3.drew := below_drewN (Below.refl _ _) 1
  have ya := blk_below ya bd
  have yb := blk_below yb bd
  have hB := hB.below bd
  have hK := hK.trans (Kept.below bd)
  have hSd : w3.drew.rangeAt w.heap.size 0 [.slice A N c, .slice A1 N1 c1, .slice A2 N2 c2] := range_row ya
  refine wp_region_any (by kernel_rfl) (wpAny_of_held (S := fun w' => w'.rangeAt w.heap.size 0 [.slice A N c, .slice A1 N1 c1, .slice A2 N2 c2]) _ _ _ _ ?_)
  change wpAnyH _ _ _ _ _ 8 _ _ w3.drew
  clear bd
  generalize w3.drew = v0 at *
  refine wpAnyH_val (i := 0) (v := (.pointer (some ⟨d, 0, none⟩))) (some 40) rfl rfl (by kernel_rfl) (by kernel_rfl) (by kernel_rfl) (fun _ _ _ h => h) (Or.inl ⟨by kernel_rfl, fun w9 hw9 => by kernel_rfl⟩) hSd ?_
  refine wpAnyH_val (i := 1) (v := (.pointer (some ⟨k, 0, none⟩))) (some 41) rfl rfl (by kernel_rfl) (by kernel_rfl) (by kernel_rfl) (fun _ _ _ h => h) (Or.inl ⟨by kernel_rfl, fun w9 hw9 => by kernel_rfl⟩) hSd ?_
  refine wpAnyH_val (i := 2) (v := (.agg #[.slice A N c, .slice A1 N1 c1, .slice A2 N2 c2])) (some 42) rfl rfl (by kernel_rfl) (by kernel_rfl) (by kernel_rfl) (fun _ _ _ h => h) (yieldsIf_load_mid (by kernel_rfl) 25 (.tmp 1) rfl w.heap.size 0 (by kernel_rfl) [.slice A N c, .slice A1 N1 c1, .slice A2 N2 c2] _ (fun w hw => hw) Try.underlying25 rfl (by kernel_rfl)) hSd ?_
  refine wpAnyH_val (i := 3) (v := (.bool true)) (some 43) rfl rfl (by kernel_rfl) (by kernel_rfl) (by kernel_rfl) (fun _ _ _ h => h) (Or.inl ⟨by kernel_rfl, fun w9 hw9 => by kernel_rfl⟩) hSd ?_
  refine wpAnyH_val (i := 4) (v := (.pointer (some ⟨d, 0, none⟩))) (some 2) rfl rfl (by kernel_rfl) (by kernel_rfl) (by kernel_rfl) (fun _ _ _ h => h) (Or.inl ⟨by kernel_rfl, fun w9 hw9 => by kernel_rfl⟩) hSd ?_
  refine wpAnyH_val (i := 5) (v := (.pointer (some ⟨k, 0, none⟩))) (some 3) rfl rfl (by kernel_rfl) (by kernel_rfl) (by kernel_rfl) (fun _ _ _ h => h) (Or.inl ⟨by kernel_rfl, fun w9 hw9 => by kernel_rfl⟩) hSd ?_
  refine wpAnyH_all (rs := [6]) (by kernel_rfl) (by simp) (fun i hi => ?_)
  obtain rfl : i = 6 := by simpa using hi
  refine wpOp_store_row none rfl rfl (by kernel_rfl) 25 (.tmp 4) (.tmp 42) rfl (w.heap.size + 1) #[.slice A N c, .slice A1 N1 c1, .slice A2 N2 c2] (by kernel_rfl) (by kernel_rfl) 25 _ yb (by kernel_rfl) rfl (by kernel_rfl) ?_
  have ks := row_kept v0 (w.heap.size + 1) #[.slice A N c, .slice A1 N1 c1, .slice A2 N2 c2]
  have ya := ks.blk (show w.heap.size ≠ w.heap.size + 1 by omega) ya
  have yc : (v0.setRow (w.heap.size + 1) #[.slice A N c, .slice A1 N1 c1, .slice A2 N2 c2]).heap[w.heap.size + 1]? = some (.cells #[.slice A N c, .slice A1 N1 c1, .slice A2 N2 c2] 25 (0, 0)) := setRow_heap _ _ _ _ _ _ yb
  have hB := (hB.moved ks (by rw [sz]; omega)).mono (K1 := fun i => i < w.heap.size) (fun i hi => by rw [sz]; omega)
  have hk3 : Kept (fun i => i < w.heap.size) w (v0.setRow (w.heap.size + 1) #[.slice A N c, .slice A1 N1 c1, .slice A2 N2 c2]) := (Kept.below b2).trans ((hK.mono (K' := fun i => i < w.heap.size) fun i hi => by rw [sz]; omega).trans (ks.mono fun i hi => by omega))
  have hSe := range_row ya
  refine ⟨hSe, ?_⟩
  refine wpAnyH_val (i := 7) (v := (.bool true)) (some 5) rfl rfl (by kernel_rfl) (by kernel_rfl) (by kernel_rfl) (fun _ _ _ h => h) (Or.inl ⟨by kernel_rfl, fun w9 hw9 => by kernel_rfl⟩) hSe ?_
  refine wpAnyH_done (by kernel_rfl) ?_ _
  clear ks yb hSd hSe hK
  simp only [Act.put, List.setIfInBounds_toArray, List.set_cons_succ, List.set_cons_zero]
  go_wp2_with fail
  exact bodyPost_ret (v := .tuple #[.pointer (some ⟨d, 0, none⟩), .pointer (some ⟨k, 0, none⟩), .agg #[.slice A N c, .slice A1 N1 c1, .slice A2 N2 c2], .bool true]) (results_laid rfl _ _ (w.heap.size + 1) 25 #[.slice A N c, .slice A1 N1 c1, .slice A2 N2 c2] (0, 0) _ _ _ _ (by kernel_rfl) (by kernel_rfl) (by kernel_rfl) (by kernel_rfl) yc Try.underlying25 rfl (by kernel_rfl)) rfl ⟨d, k, ts, _, _, _, rfl, hB, hG, hfew, hk3, rfl, cv1, cv2⟩
end Go.Proofs.Ytgnahjadjgjecaa
set_option linter.unusedVariables false
set_option linter.unusedSimpArgs false
namespace Go.Proofs.Ytgnahjadjgjecaa
open Go.RowKit Go.Maps Go.MapKept

/-- What lies in memory once a query is laid: the query's and the registers' variables (blocks g1, g2), both Dags. -/
structure LAt (w : World) (g1 g2 : Nat) (vs va vb : Value) (x : Nat → Nat) (d k : Nat) (ts : List Term) (w' : World) : Prop where mk_ ::
  kz : Kept (fun i => i < w.heap.size) w w'
  ya : w'.heap[g1]? = some (.cells #[vs, va, vb] 25 (0, 0))
  yr : w'.heap[g2]? = some (.cells (regB x) 27 (0, 0))
  hB : BothM (fun i => i < w.heap.size + 2) w' d k ts ts
theorem LAt.below {w : World} {g1 g2 : Nat} {vs va vb : Value} {x : Nat → Nat} {d k : Nat} {ts : List Term} {w' w'' : World} (h : LAt w g1 g2 vs va vb x d k ts w') (hb : Below w'.heap.size w' w'') : LAt w g1 g2 vs va vb x d k ts w'' :=
  ⟨h.kz.trans (Kept.below hb), blk_below h.ya hb, blk_below h.yr hb, h.hB.below hb⟩
theorem LAt.sl {w : World} {g1 g2 : Nat} {vs va vb : Value} {x : Nat → Nat} {d k : Nat} {ts : List Term} {w' : World} (h : LAt w g1 g2 vs va vb x d k ts w') {e : TypeId} {v : Value} {xs : List Int} (hs : Sl 0 e I64 w v xs) : Sl 0 e I64 w' v xs := sl_keptB hs h.kz
theorem LAt.dag {w : World} {g1 g2 : Nat} {vs va vb : Value} {x : Nat → Nat} {d k : Nat} {ts : List Term} {w' : World} (h : LAt w g1 g2 vs va vb x d k ts w') : ∃ Kd, DagAt Kd w' d ts := by
  obtain ⟨K, vl, hx⟩ := h.hB
  exact ⟨K, hx.dag⟩
theorem LAt.ref {w : World} {g1 g2 : Nat} {vs va vb : Value} {x : Nat → Nat} {d k : Nat} {ts : List Term} {w' : World} (h : LAt w g1 g2 vs va vb x d k ts w') : ∃ vl, RefAt w' k vl ts := by
  obtain ⟨K, vl, hx⟩ := h.hB
  exact ⟨vl, hx.ref⟩
theorem needL_lt {ts : List Term} (hG : Good ts) (l : List Int) (hin : ∀ n, n ∈ l → inR n ts.length = true) : needL ts l < 4294967296 := by
  refine Nat.lt_pow_two_of_testBit (n := 32) _ fun i hi => ?_
  cases hb : (needL ts l).testBit i with
  | false => rfl
  | true =>
    obtain ⟨n, hn, hv⟩ := (needL_bit ts i l).1 hb
    obtain ⟨m, hm, hm2⟩ := inR_nat (hin n hn)
    have h1 : vr ts n.toNat < 2 ^ i := by
      subst hm
      rw [Int.toNat_natCast]
      exact Nat.lt_of_lt_of_le (vr_lt hG m hm2) (show 2 ^ 32 ≤ 2 ^ i from Nat.pow_le_pow_right (by omega) hi)
    rw [Nat.testBit_lt_two_pow h1] at hv
    cases hv
theorem needL_lts {ts : List Term} (hG : Good ts) (l : List Int) (hin : ∀ n, n ∈ l → inR n ts.length = true) (j : Nat) : needL ts (l.take j) < 4294967296 := needL_lt hG _ fun n hn => hin n (List.mem_of_mem_take hn)
/-- The registers that a query tells are those that the document says. -/
theorem QOk.regs {ts : List Term} {ax bx : List Int} {gs : List Gate} {s : List Int} (h : QOk ts ax bx gs s) (hl : ax.length = bx.length) {x : Nat → Nat} (hx : ∀ r, x r < 4294967296) : regB (regsOf (vals x gs) gs) = regB (onlyX x (needL ts ax ||| needL ts bx)) :=
  regB_ext fun r _ => by rw [h.q.only hx r]; unfold onlyX; rw [needL_prs hl r]
theorem eq_bool_exec {oi : Oper} {a : Act} {p : Bool} (x y : Operand) (t2 : TypeId) (ho : oi.op = .binOp .eql 4 x y t2) (hx : a.eval x = .bool p) (hy : a.eval y = .bool p) (w : World) : (execOp a.eval oi).run Try.prog w = .ok (.value (.bool true)) w := by
  unfold execOp
  simp only [ho, hx, hy]
  cases p <;> kernel_rfl
theorem or_exec {oi : Oper} {a : Act} {m n : Nat} (x y : Operand) (t t2 : TypeId) (ho : oi.op = .binOp .or t x y t2) (hx : a.eval x = .int .u32 (m : Int)) (hy : a.eval y = .int .u32 (n : Int)) (hm : m < 4294967296) (hn : n < 4294967296) (w : World) : (execOp a.eval oi).run Try.prog w = .ok (.value (.int .u32 ((m ||| n : Nat) : Int))) w := by
  have hor := u32_or _ _ hm hn
  unfold execOp
  simp only [ho, hx, hy]
  go_simp
theorem OwnB.later {B : Nat} {w w' : World} {v : Value} {l : List Bool} (h : Own B 4 Bit w v l) (hb : Below w.heap.size w w') : Own B 4 Bit w' v l := Own.blocks h (fun g hg => hb.block g (Own.own_lt h hg).2) (fun _ _ h => h)
theorem OwnB.row_lo {B g : Nat} {w : World} {v : Value} {l : List Bool} (h : Own B 4 Bit w v l) (hg : g < B) (c : Array Value) : Own B 4 Bit (w.setRow g c) v l := Own.blocks h (fun q hq => setRow_other w g q c (by have := (Own.own_lt h hq).1; omega)) (fun _ _ h => h)
theorem Rows.row_lo {B g : Nat} {w : World} {v : Value} {cs : List (List Int)} (h : Rows B w v cs) (hg : g < B) (c : Array Value) : Rows B (w.setRow g c) v cs :=
  Own.blocks h (fun q hq => setRow_other w g q c (by have := (Own.own_lt h hq).1; omega)) (fun u x hx => Own.blocks hx (fun q hq => setRow_other w g q c (by have := (Own.own_lt hx hq).1; omega)) (fun _ _ h => h))
/-- A query, its clauses (laid in block g3) and registers' values. -/
structure CAt (K : Nat → Prop) (q : Nat) (gs : List Gate) (sx : List Int) (x : Nat → Nat) (g3 : Nat) (vC va : Value) (w' : World) : Prop where mk_ ::
  hQ : QAt K w' q gs (queryC gs sx)
  yc : w'.heap[g3]? = some (.cells #[.int .i64 ((gs.length : Int) + 1), vC] 46 (0, 0))
  rC : ∃ B, Rows B w' vC (queryC gs sx)
  oV : ∃ B, Own B 4 Bit w' va (vals x gs)
theorem CAt.below {K : Nat → Prop} {q : Nat} {gs : List Gate} {sx : List Int} {x : Nat → Nat} {g3 : Nat} {vC va : Value} {w' w'' : World} (h : CAt K q gs sx x g3 vC va w') (hb : Below w'.heap.size w' w'') : CAt K q gs sx x g3 vC va w'' := by
  obtain ⟨h1, h2, ⟨B, h3⟩, ⟨B', h4⟩⟩ := h
  exact ⟨QAt.below h1 hb, blk_below h2 hb, ⟨B, Rows.later h3 hb⟩, ⟨B', OwnB.later h4 hb⟩⟩
theorem CAt.bits {K : Nat → Prop} {q : Nat} {gs : List Gate} {sx : List Int} {x : Nat → Nat} {g3 : Nat} {vC va : Value} {w' : World} (h : CAt K q gs sx x g3 vC va w') : BitsB 0 w' va (vals x gs) := by
  obtain ⟨B, h⟩ := h.oV
  exact h.toSl 0
/-- An own slice of Booleans: its block, its cells. -/
theorem OwnB.at_ {B : Nat} {w : World} {A : Option Addr} {n c : Nat} {l : List Bool} (h : Own B 4 Bit w (.slice A n c) l) (h0 : 0 < l.length) : ∃ g cur, A = some ⟨g, 0, none⟩ ∧ B ≤ g ∧ w.heap[g]? = some (.cells cur 4 (0, 0)) ∧ ∀ k, k < l.length → w.cell? ⟨g, k, none⟩ = some (.bool (l.getD k false)) := by
  have hs := h.toSl 0
  obtain ⟨vs, h1, h2, h3⟩ := h
  rcases h2.2 with ⟨e, hn⟩ | ⟨g, cap, cur, e, hb, hh, _⟩
  · omega
  · injection e with e1 _ _
    subst e1
    refine ⟨g, cur, rfl, hb, hh, fun k hk => ?_⟩
    obtain ⟨b, off, u, e2, hc, hu⟩ := hs.at_ hk false
    injection e2 with e2
    injection e2 with e3 e4 _
    subst e3 e4
    have hu : u = .bool (l.getD k false) := hu
    rw [hu, Nat.zero_add] at hc
    exact hc
theorem OwnB.set {B g : Nat} {w : World} {n c : Nat} {l : List Bool} (h : Own B 4 Bit w (.slice (some ⟨g, 0, none⟩) n c) l) (k : Nat) (p : Bool) : Own B 4 Bit (w.setCell ⟨g, k, none⟩ (.bool p)) (.slice (some ⟨g, 0, none⟩) n c) (l.set k p) := by
  obtain ⟨vs, h1, h2, h3⟩ := h
  have hn : n = l.length := by
    rcases h2.2 with ⟨e, _⟩ | ⟨g', cap, cur, e, _⟩
    · cases e
    · injection e
  subst hn
  have hst := (World.ownsRow.stored h2 k (.bool p)).1
  refine ⟨vs.set k (.bool p), by simp [h1], by rw [List.length_set]; exact hst, fun i y hi => ?_⟩
  rw [List.getElem?_set] at hi ⊢
  by_cases hk : k = i
  · subst hk
    rw [if_pos rfl] at hi ⊢
    by_cases hl : k < l.length
    · rw [if_pos hl] at hi
      injection hi with hi
      subst hi
      rw [if_pos (by omega)]
      exact ⟨_, rfl, rfl⟩
    · rw [if_neg hl] at hi
      cases hi
  · rw [if_neg hk] at hi ⊢
    exact h3 i y hi
theorem below_set {B : Nat} {w0 w : World} (h : Below B w0 w) {g : Nat} (hg : B ≤ g) (i : Nat) (v : Value) : Below B w0 (w.setCell ⟨g, i, none⟩ v) := h.trans ⟨rfl, rfl, rfl, by simp [World.setCell], fun k hk => Below.heap_setCell w ⟨g, i, none⟩ v k (fun e => by subst e; omega)⟩
/-- The clauses' rows stay where a block of another type turns. -/
theorem Rows.set_other {B g : Nat} {w : World} {v : Value} {cs : List (List Int)} (h : Rows B w v cs) {cur : Array Value} {t : TypeId} (hg : w.heap[g]? = some (.cells cur t (0, 0))) (h1 : t ≠ 23) (h2 : t ≠ 3) (i : Nat) (u : Value) : Rows B (w.setCell ⟨g, i, none⟩ u) v cs := by
  have key : ∀ (e : TypeId) (q : Nat) (c : Array Value), w.heap[q]? = some (.cells c e (0, 0)) → t ≠ e → (w.setCell ⟨g, i, none⟩ u).heap[q]? = w.heap[q]? := fun e q c hq he => by
    refine Below.heap_setCell w ⟨g, i, none⟩ u q fun e1 => ?_
    subst e1
    rw [hg] at hq
    injection hq with hq
    injection hq with _ hq _
    exact he hq
  refine Own.blocks h (fun q hq => ?_) (fun y l hx => Own.blocks hx (fun q hq => ?_) (fun _ _ h => h))
  · obtain ⟨_, c, hc⟩ := h.typed hq
    exact key _ q c hc h1
  · obtain ⟨_, c, hc⟩ := hx.typed hq
    exact key _ q c hc h2
end Go.Proofs.Ytgnahjadjgjecaa
