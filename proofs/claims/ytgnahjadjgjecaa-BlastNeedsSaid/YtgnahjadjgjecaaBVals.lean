/- blast: so; a query that is read. -/
/- blast: Values. -/
import Derived.Test.YtgnahjadjgjecaaBDifB
set_option linter.unusedVariables false
set_option linter.unusedSimpArgs false
namespace Go.Proofs.Ytgnahjadjgjecaa
open Go.RowKit Go.Maps Go.MapKept

abbrev BitsB (b : Nat) : Rep (List Bool) := Sl b 4 Bit
theorem BitsB.below {b : Nat} {w w' : World} {v : Value} {l : List Bool} (h : BitsB b w v l) (hb : Below w.heap.size w w') : BitsB b w' v l := (Sl.stable (T := [4]) (stable_bit _ _) (by decide)) _ _ _ _ (Quiet.below hb) h
theorem so_pos (vs : List Bool) (n : Nat) : so vs ((n : Int) + 1) = vs.getD n false := by
  unfold so
  rw [if_neg (by omega), show ((n : Int) + 1).natAbs - 1 = n by omega]
theorem so_minus (vs : List Bool) (n : Nat) : so vs (-((n : Int) + 1)) = !vs.getD n false := by
  unfold so
  rw [if_pos (by omega), show (-((n : Int) + 1)).natAbs - 1 = n by omega]
set_option maxRecDepth 100000 in
theorem so_plus (B : Nat) (vs : List Bool) (n : Nat) (hn : n < 1000000000) (hl : vs.length < 1000000000) (v : Value) (w : World) (h : BitsB B w v vs) :
    Calls Try.prog 23 #[v, .int .i64 ((n : Int) + 1)] w fun r w' => r = .returned (.bool (vs.getD n false)) ∧ w = w' := by
  obtain ⟨A, c, rfl, p1, p2, p3⟩ := h.open_
  have h0 : ¬ ((n : Int) + 1 < 0) := by omega
  have hw : wrap64 ((n : Int) + 1 - 1) = (n : Int) := by unfold wrap64; omega
  by_cases hlt : n < vs.length
  · obtain ⟨bb, of, u, rfl, hc, rfl⟩ := h.at_ hlt false
    have h1 : (n : Int) + 1 ≤ vs.length := by omega
    have h2 : (n : Int) < vs.length := by omega
    generalize vs.getD n false = x at *
    go_enter Try.func23, Try.ntmps23
    go_wp2_with fail
    go_ret
    exact ⟨rfl, rfl⟩
  · have h1 : (decide ((n : Int) + 1 ≤ vs.length)) = false := by simp; omega
    have hx : vs.getD n false = false := by simp [List.getD, List.getElem?_eq_none (by omega : vs.length ≤ n)]
    rw [hx]
    clear hx
    go_enter Try.func23, Try.ntmps23
    go_wp2_with fail
    go_ret
    exact ⟨rfl, rfl⟩
set_option maxRecDepth 100000 in
theorem so_any (B : Nat) (vs : List Bool) (l : Int) (hl0 : l ≠ 0) (hl1 : l.natAbs < 1000000000) (hl : vs.length < 1000000000) (v : Value) (w : World) (h : BitsB B w v vs) :
    Calls Try.prog 23 #[v, .int .i64 l] w fun r w' => r = .returned (.bool (so vs l)) ∧ w = w' := by
  by_cases hneg : l < 0
  · obtain ⟨n, rfl⟩ : ∃ n : Nat, l = -((n : Int) + 1) := ⟨(-l - 1).toNat, by omega⟩
    have hC := so_plus B vs n (by omega) hl v w h
    have hw : wrap64 ((n : Int) + 1) = (n : Int) + 1 := by unfold wrap64; omega
    have hneg' : -((n : Int) + 1) < 0 := by omega
    have hnn : -(-((n : Int) + 1)) = (n : Int) + 1 := by omega
    rw [so_minus]
    generalize vs.getD n false = x at *
    obtain ⟨m, hm⟩ : ∃ m, m = -((n : Int) + 1) := ⟨_, rfl⟩
    rw [← hm] at hneg' hnn ⊢
    rw [← hnn] at hC hw
    clear hnn hm hneg
    go_enter Try.func23, Try.ntmps23
    go_wp2_with fail
    refine hC.mono ?_
    rintro r w1 ⟨rfl, rfl⟩
    go_wp2_with fail
    go_ret
    exact ⟨rfl, rfl⟩
  · obtain ⟨n, rfl⟩ : ∃ n : Nat, l = (n : Int) + 1 := ⟨(l - 1).toNat, by omega⟩
    rw [so_pos]
    exact so_plus B vs n (by omega) hl v w h
end Go.Proofs.Ytgnahjadjgjecaa
set_option linter.unusedVariables false
set_option linter.unusedSimpArgs false
namespace Go.Proofs.Ytgnahjadjgjecaa
open Go.RowKit Go.Maps Go.MapKept

/-- Registers, as an array. -/
def regB (x : Nat → Nat) : Array Value := ((List.range 32).map fun r => Value.int .u32 (x r : Int)).toArray
theorem regB_size (x : Nat → Nat) : (regB x).size = 32 := by simp [regB]
theorem regB_get (x : Nat → Nat) {r : Nat} (h : r < 32) : (regB x)[r]? = some (.int .u32 (x r : Int)) := by simp [regB, h]
theorem regB_cell {w : World} {b : Nat} {t : TypeId} {x : Nat → Nat} (h : w.heap[b]? = some (.cells (regB x) t (0, 0))) {r : Nat} (hr : r < 32) : w.cell? ⟨b, r, none⟩ = some (.int .u32 (x r : Int)) := by
  simp [World.cell?, h, regB_get x hr]
theorem infoB_bool : (Try.prog.info? 4).map (fun i => (i.zero, i.size, i.bytes)) = some (some (.bool false), 1, 1) := by kernel_rfl
theorem Own.one {α : Type} {B e : Nat} {R : Rep α} {w : World} {u : Value} {x : α} (hB : B ≤ w.heap.size) (h : R (w.alloc (.cells #[u] e)) u x) : Own B e R (w.alloc (.cells #[u] e)) (.slice (some ⟨w.heap.size, 0, none⟩) 1 1) [x] :=
  ⟨[u], rfl, by simpa using World.ownsRow_lit (base := B) (e := e) (size := 1) w #[u] 1 hB (by unfold maxLen; omega) (by simp), fun k y hy => by
    cases k with
    | zero => simp at hy; subst hy; exact ⟨u, rfl, h⟩
    | succ k => simp at hy⟩
theorem vals_take (x : Nat → Nat) {gs : List Gate} {j : Nat} (hj : j < gs.length) : vals x (gs.take (j + 1)) = vals x (gs.take j) ++ [gv x (vals x (gs.take j)) gs[j]] := by
  rw [List.take_succ_eq_append_getElem hj, vals_snoc]
set_option maxRecDepth 100000 in
set_option maxHeartbeats 4000000 in
theorem values_any (K : Nat → Prop) (q : Nat) (gs : List Gate) (cs : List (List Int)) (hG : GGood gs) (hl : gs.length ≤ 1000000) (x : Nat → Nat) (hx : ∀ r, x r < 4294967296) (w : World) (h : QAt K w q gs cs) :
    Calls Try.prog 8 #[.pointer (some ⟨q, 0, none⟩), .agg (regB x)] w fun r w' => ∃ v, r = .returned v ∧ Own w.heap.size 4 Bit w' v (vals x gs) ∧ Below w.heap.size w w' := by
  have b1 := (Below.refl w.heap.size w).alloc (Nat.le_refl _) (.cells (regB x) 27)
  have hX := blk_new w (.cells (regB x) 27)
  have hs1 : (w.alloc (.cells (regB x) 27)).heap.size = w.heap.size + 1 := by simp
  have b2 := b1.alloc (by simp) (.cells #[.bool true] 4)
  have hX2 := blk_alloc hX (.cells #[.bool true] 4)
  have ho : Own w.heap.size 4 Bit ((w.alloc (.cells (regB x) 27)).alloc (.cells #[.bool true] 4)) (.slice (some ⟨w.heap.size + 1, 0, none⟩) 1 1) [true] := by
    rw [← hs1]
    exact Own.one (by simp) rfl
  obtain ⟨vL, vG, m, hI⟩ := h.out
  have hI2 := hI.below b2
  have hSG := OwnN.toSl encG hI.2.2.2.1 0
  have hSG2 := hSG.below b2
  obtain ⟨A, c, rfl, p1, p2, p3⟩ := hSG.open_
  obtain ⟨c0, c1, c2, c3⟩ := four_cells hI2.1
  have hRC := fun (w : World) (g : Nat) (h : w.heap[g]? = some (.cells (regB x) 27 (0, 0))) (r : Nat) (hr : r < 32) => regB_cell h hr
  have HRC := Lib.hid hRC
  clear hX b1 hI hI2 h hRC
  generalize regB x = RX at *
  go_enter Try.func8, Try.ntmps8
  go_wp2_with fail
  generalize hw2 : (w.alloc (.cells RX 27)).alloc (.cells #[.bool true] 4) = w2 at *
  clear hw2 c0 c1 c2 c3 hs1
  go_loopw [5, 7, 14] (fun v5 _ i wr => ∃ j : Nat, j ≤ gs.length ∧ i = .int .i64 j ∧ Own w.heap.size 4 Bit wr v5 (vals x (gs.take j)) ∧ wr.heap[w.heap.size]? = some (.cells RX 27 (0, 0)) ∧ Below w.heap.size w wr) (fun _ _ i _ => gs.length - (intOf i).toNat)
  case atStart => exact ⟨0, Nat.zero_le _, rfl, ho, hX2, b2⟩
  case round =>
    clear ho hX2 b2 hSG2
    obtain ⟨j, hj, rfl, ho, hX, hb⟩ := hrel
    by_cases hlt : j < gs.length
    · have hlt' : (j : Int) < gs.length := by omega
      have hSGr := hSG.below hb
      obtain ⟨bb, off, rfl, hat, hbl⟩ := hSGr.at_ hlt
      have hok := hG.all j gs[j] (by simp [hlt])
      have HV := Lib.hid (vals_take x hlt)
      have hvl : (vals x (gs.take j)).length = j + 1 := by rw [vals_len, List.length_take]; omega
      generalize gs[j] = g at hat hok HV
      obtain ⟨kd, a, b⟩ := g
      have d0 : wr.cell? ⟨bb, off + j * 3, none⟩ = some (.int .i64 kd) := hat 0 _ rfl
      have d1 : wr.cell? ⟨bb, off + j * 3 + 1, none⟩ = some (.int .i64 a) := hat 1 _ rfl
      have d2 : wr.cell? ⟨bb, off + j * 3 + 2, none⟩ = some (.int .i64 b) := hat 2 _ rfl
      have bg := (Below.refl wr.heap.size wr).alloc (Nat.le_refl _) (.cells #[.int .i64 kd, .int .i64 a, .int .i64 b] 74)
      obtain ⟨z0, z1, z2⟩ := three_cells (blk_new wr (.cells #[.int .i64 kd, .int .i64 a, .int .i64 b] 74))
      have hog := ho.move (stable_bit _ [4]) (Quiet.below bg) (by simp)
      have hXg := blk_below hX bg
      have hbg := below_then hb bg
      have hsg : (wr.alloc (.cells #[.int .i64 kd, .int .i64 a, .int .i64 b] 74)).heap.size = wr.heap.size + 1 := by simp
      generalize vals x (gs.take j) = vs at ho hog hvl HV
      clear hat hSGr ho hX hb bg
      rcases hok with ⟨h0, h1, h2, h3, h4⟩ | ⟨hk, hla, hlb⟩
      · dsimp only at h0 h1 h2 h3 h4
        subst h0
        obtain ⟨an, rfl⟩ : ∃ n : Nat, a = n := ⟨a.toNat, by omega⟩
        obtain ⟨bn, rfl⟩ : ∃ n : Nat, b = n := ⟨b.toNat, by omega⟩
        have hrx := HRC.out _ _ hXg an (by omega)
        have hgv : gv x vs ⟨0, an, bn⟩ = (x an).testBit bn := by unfold gv; rw [if_pos rfl]; simp
        rw [hgv] at HV
        have hbit := bit_low (m := x an) (r := bn) (hx an)
        have hlan : (an : Int) < 32 := h2
        go_wp2_with fail
        clear hgv
        generalize (wr.alloc (.cells #[.int .i64 ((0 : Nat) : Int), .int .i64 an, .int .i64 bn] 74)) = wg at *
        have bd : Below wg.heap.size wg wg.drew := below_drewN (Below.refl _ _) 1
        have hod := hog.move (stable_bit _ [4]) (Quiet.below bd) (by simp)
        have hXd := blk_below hXg bd
        have hbd := below_then hbg bd
        clear hsg
        cases hb1 : (x an).testBit bn with
        | false =>
          rw [if_neg (by rw [hb1]; decide)] at hbit
          rw [hb1] at HV
          go_region_law (refine step_pushB (w0 := w) (W := wg.drew) w.heap.size (by rfl) (.tmp 34) (.tmp 44) 38 4 (.bool false) 1 (by rfl) Try.underlying38 infoB_bool (by rfl) (by omega) [] hod (stable_bit _ _) (by decide) (y := .bool false) (y0 := false) rfl (by rfl) (by rfl) (by rfl) hbd hbd.size (by omega) ?_; intro v1 w1 ho1 hB1 hg1 hn1)
          all_goals (
            have hX1 := hod.other hg1 hXd (by simp)
            rw [← HV.out] at ho1
            clear z0 z1 z2 hrx hbit hog hXg hbg hod hXd hbd hg1 hn1 bd
            go_wp2_with fail
            go_roundw
            case rel => exact ⟨j + 1, by omega, by go_num, ho1, hX1, hB1⟩
            case measure => simp [intOf]; omega)
        | true =>
          rw [if_pos hb1] at hbit
          rw [hb1] at HV
          go_region_law (refine step_pushB (w0 := w) (W := wg.drew) w.heap.size (by rfl) (.tmp 34) (.tmp 44) 38 4 (.bool false) 1 (by rfl) Try.underlying38 infoB_bool (by rfl) (by omega) [] hod (stable_bit _ _) (by decide) (y := .bool true) (y0 := true) rfl (by rfl) (by rfl) (by rfl) hbd hbd.size (by omega) ?_; intro v1 w1 ho1 hB1 hg1 hn1)
          all_goals (
            have hX1 := hod.other hg1 hXd (by simp)
            rw [← HV.out] at ho1
            clear z0 z1 z2 hrx hbit hog hXg hbg hod hXd hbd hg1 hn1 bd
            go_wp2_with fail
            go_roundw
            case rel => exact ⟨j + 1, by omega, by go_num, ho1, hX1, hB1⟩
            case measure => simp [intOf]; omega)
      · dsimp only at hk hla hlb
        have hal := hla.1
        have hal2 := hla.2
        have hbl1 := hlb.1
        have hbl2 := hlb.2
        have ca := fun (w : World) (h : Own (0 : Nat) 4 Bit w u5 vs) => so_any 0 vs a (by omega) (by omega) (by omega) u5 w (h.toSl 0)
        have cb := fun (w : World) (h : Own (0 : Nat) 4 Bit w u5 vs) => so_any 0 vs b (by omega) (by omega) (by omega) u5 w (h.toSl 0)
        have CA := Lib.hid ca
        have CB := Lib.hid cb
        clear ca cb hsg
        rcases hk with rfl | rfl
        · have hgv : gv x vs ⟨1, a, b⟩ = (so vs a && so vs b) := by unfold gv; rfl
          rw [hgv] at HV
          clear hgv
          cases hA : so vs a with
          | false =>
            have cA := CA.out _ (hog.lower (Nat.zero_le _))
            rw [hA] at cA HV
            rw [Bool.false_and] at HV
            go_wp2_with fail
            refine cA.mono ?_
            rintro r w9 ⟨rfl, rfl⟩
            clear cA
            generalize (wr.alloc (.cells #[.int .i64 ((1 : Nat) : Int), .int .i64 a, .int .i64 b] 74)) = wg at *
            go_wp2_with (first | (at_builtin; refine wpList_pushB (w0 := w) (W := wg) w.heap.size rfl (.tmp 48) (.tmp 59) 38 4 (.bool false) 1 rfl Try.underlying38 infoB_bool rfl (by omega) [] hog (stable_bit _ _) (by decide) (y := .bool false) (y0 := false) rfl rfl rfl rfl hbg hbg.size (by omega) ?_; intro v1 w1 ho1 hB1 hg1 hn1) | fail)
            have hX1 := hog.other hg1 hXg (by simp)
            rw [← HV.out] at ho1
            clear z0 z1 z2 hog hXg hbg hg1 hn1 
            go_wp2_with fail
            go_roundw
            case rel => exact ⟨j + 1, by omega, by go_num, ho1, hX1, hB1⟩
            case measure => simp [intOf]; omega
          | true =>
            have cA := CA.out _ (hog.lower (Nat.zero_le _))
            have cB := CB.out _ (hog.lower (Nat.zero_le _))
            rw [hA] at cA HV
            rw [Bool.true_and] at HV
            generalize so vs b = y at cB HV
            go_wp2_with fail
            refine cA.mono ?_
            rintro r w9 ⟨rfl, rfl⟩
            go_wp2_with fail
            refine cB.mono ?_
            rintro r w9 ⟨rfl, rfl⟩
            clear cA cB
            generalize (wr.alloc (.cells #[.int .i64 ((1 : Nat) : Int), .int .i64 a, .int .i64 b] 74)) = wg at *
            go_wp2_with (first | (at_builtin; refine wpList_pushB (w0 := w) (W := wg) w.heap.size rfl (.tmp 48) (.tmp 59) 38 4 (.bool false) 1 rfl Try.underlying38 infoB_bool rfl (by omega) [] hog (stable_bit _ _) (by decide) (y := .bool y) (y0 := y) rfl rfl rfl rfl hbg hbg.size (by omega) ?_; intro v1 w1 ho1 hB1 hg1 hn1) | fail)
            have hX1 := hog.other hg1 hXg (by simp)
            rw [← HV.out] at ho1
            clear z0 z1 z2 hog hXg hbg hg1 hn1 
            go_wp2_with fail
            go_roundw
            case rel => exact ⟨j + 1, by omega, by go_num, ho1, hX1, hB1⟩
            case measure => simp [intOf]; omega
        · have hgv : gv x vs ⟨2, a, b⟩ = (so vs a != so vs b) := by unfold gv; rfl
          rw [hgv] at HV
          clear hgv
          go_wp2_with fail
          generalize (wr.alloc (.cells #[.int .i64 ((2 : Nat) : Int), .int .i64 a, .int .i64 b] 74)) = wg at *
          have bd : Below wg.heap.size wg wg.drew := below_drewN (Below.refl _ _) 1
          have hod := hog.move (stable_bit _ [4]) (Quiet.below bd) (by simp)
          have hXd := blk_below hXg bd
          have hbd := below_then hbg bd
          have cA := CA.out _ (hod.lower (Nat.zero_le _))
          have cB := CB.out _ (hod.lower (Nat.zero_le _))
          generalize so vs a = ya at cA HV
          generalize so vs b = yb at cB HV
          cases ya <;> cases yb
          · go_region_law (first
              | (refine step_pushB (w0 := w) (W := wg.drew) w.heap.size (by rfl) (.tmp 20) (.tmp 30) 38 4 (.bool false) 1 (by rfl) Try.underlying38 infoB_bool (by rfl) (by omega) [] hod (stable_bit _ _) (by decide) (y := .bool false) (y0 := false) rfl (by rfl) (by rfl) (by rfl) hbd hbd.size (by omega) ?_; intro v1 w1 ho1 hB1 hg1 hn1)
              | (go_simp; go_at_call_of 23 (Value.int .i64 a); refine cA.mono ?_; rintro r w9 ⟨rfl, rfl⟩)
              | (go_simp; go_at_call_of 23 (Value.int .i64 b); refine cB.mono ?_; rintro r w9 ⟨rfl, rfl⟩))
            all_goals (
              have hX1 := hod.other hg1 hXd (by simp)
              have ho1 : Own w.heap.size 4 Bit w1 v1 (vals x (gs.take (j + 1))) := by rw [HV.out]; exact ho1
              clear z0 z1 z2 hog hXg hbg hg1 hn1 hod hXd hbd bd cA cB
              go_wp2_with fail
              go_roundw
              case rel => exact ⟨j + 1, by omega, by go_num, ho1, hX1, hB1⟩
              case measure => simp [intOf]; omega)
          · go_region_law (first
              | (refine step_pushB (w0 := w) (W := wg.drew) w.heap.size (by rfl) (.tmp 20) (.tmp 30) 38 4 (.bool false) 1 (by rfl) Try.underlying38 infoB_bool (by rfl) (by omega) [] hod (stable_bit _ _) (by decide) (y := .bool true) (y0 := true) rfl (by rfl) (by rfl) (by rfl) hbd hbd.size (by omega) ?_; intro v1 w1 ho1 hB1 hg1 hn1)
              | (go_simp; go_at_call_of 23 (Value.int .i64 a); refine cA.mono ?_; rintro r w9 ⟨rfl, rfl⟩)
              | (go_simp; go_at_call_of 23 (Value.int .i64 b); refine cB.mono ?_; rintro r w9 ⟨rfl, rfl⟩))
            all_goals (
              have hX1 := hod.other hg1 hXd (by simp)
              have ho1 : Own w.heap.size 4 Bit w1 v1 (vals x (gs.take (j + 1))) := by rw [HV.out]; exact ho1
              clear z0 z1 z2 hog hXg hbg hg1 hn1 hod hXd hbd bd cA cB
              go_wp2_with fail
              go_roundw
              case rel => exact ⟨j + 1, by omega, by go_num, ho1, hX1, hB1⟩
              case measure => simp [intOf]; omega)
          · go_region_law (first
              | (refine step_pushB (w0 := w) (W := wg.drew) w.heap.size (by rfl) (.tmp 20) (.tmp 30) 38 4 (.bool false) 1 (by rfl) Try.underlying38 infoB_bool (by rfl) (by omega) [] hod (stable_bit _ _) (by decide) (y := .bool true) (y0 := true) rfl (by rfl) (by rfl) (by rfl) hbd hbd.size (by omega) ?_; intro v1 w1 ho1 hB1 hg1 hn1)
              | (go_simp; go_at_call_of 23 (Value.int .i64 a); refine cA.mono ?_; rintro r w9 ⟨rfl, rfl⟩)
              | (go_simp; go_at_call_of 23 (Value.int .i64 b); refine cB.mono ?_; rintro r w9 ⟨rfl, rfl⟩))
            all_goals (
              have hX1 := hod.other hg1 hXd (by simp)
              have ho1 : Own w.heap.size 4 Bit w1 v1 (vals x (gs.take (j + 1))) := by rw [HV.out]; exact ho1
              clear z0 z1 z2 hog hXg hbg hg1 hn1 hod hXd hbd bd cA cB
              go_wp2_with fail
              go_roundw
              case rel => exact ⟨j + 1, by omega, by go_num, ho1, hX1, hB1⟩
              case measure => simp [intOf]; omega)
          · go_region_law (first
              | (refine step_pushB (w0 := w) (W := wg.drew) w.heap.size (by rfl) (.tmp 20) (.tmp 30) 38 4 (.bool false) 1 (by rfl) Try.underlying38 infoB_bool (by rfl) (by omega) [] hod (stable_bit _ _) (by decide) (y := .bool false) (y0 := false) rfl (by rfl) (by rfl) (by rfl) hbd hbd.size (by omega) ?_; intro v1 w1 ho1 hB1 hg1 hn1)
              | (go_simp; go_at_call_of 23 (Value.int .i64 a); refine cA.mono ?_; rintro r w9 ⟨rfl, rfl⟩)
              | (go_simp; go_at_call_of 23 (Value.int .i64 b); refine cB.mono ?_; rintro r w9 ⟨rfl, rfl⟩))
            all_goals (
              have hX1 := hod.other hg1 hXd (by simp)
              have ho1 : Own w.heap.size 4 Bit w1 v1 (vals x (gs.take (j + 1))) := by rw [HV.out]; exact ho1
              clear z0 z1 z2 hog hXg hbg hg1 hn1 hod hXd hbd bd cA cB
              go_wp2_with fail
              go_roundw
              case rel => exact ⟨j + 1, by omega, by go_num, ho1, hX1, hB1⟩
              case measure => simp [intOf]; omega)
    · have hlt' : ¬ (j : Int) < gs.length := by omega
      obtain rfl : j = gs.length := by omega
      rw [List.take_length] at ho
      go_wp2_with fail
      go_ret
      exact ⟨_, rfl, ho, hb⟩
end Go.Proofs.Ytgnahjadjgjecaa
