/- Write: a program's file. -/
import Derived.Test.YtlpoebobfdmcmaaECheck
import Derived.Test.YtlpoebobfdmcmaaEFile
import Derived.Test.YtlpoebobfdmcmaaEZero
import Derived.Test.YtlpoebobfdmcmaaEStr
import Derived.Laws.IdiomStrings
import Derived.Lib.SlBytesConst
set_option linter.unusedVariables false
set_option linter.unusedSimpArgs false
namespace Go.Proofs.Ytlpoebobfdmcmaa
open Go.RowKit

def words (xs : List Nat) : Array Value := (xs.map fun (x : Nat) => Value.int .u32 (x : Int)).toArray
theorem words_at {xs : List Nat} {k x : Nat} (h : xs[k]? = some x) : (words xs)[k]? = some (Value.int .u32 (x : Int)) := by simp [words, h]
theorem len_u32 {n : Nat} (h : n ≤ 100000) : IntKind.u32.wrap (n : Int) = (n : Int) := by rw [IntKind.wrap_u32]; omega
theorem len_at {n : Nat} (h : n ≤ 100000) : wrap64 (52 + wrap64 (32 * (n : Int))) = 52 + 32 * (n : Int) := by unfold wrap64; omega
theorem two_alloc (w : World) (o o' : Obj) : w.heap.size ≤ ((w.alloc o).alloc o').heap.size := by simp <;> omega
theorem blk2 (w : World) (o o' : Obj) : ((w.alloc o).alloc o').heap[w.heap.size + 1]? = some o' := blk_top (by simp)
theorem u32_le {n : Nat} (h : n < 4294967296) : IntKind.u32.wrap (n : Int) = (n : Int) := by rw [IntKind.wrap_u32]; omega
theorem sum_le {a b : Nat} (h : a < 4294967296) (h : b < 4294967296) : wrap64 ((a : Int) + (b : Int)) = (a : Int) + b := by unfold wrap64; omega
theorem own_string {B : Nat} {W : World} {v : Value} {l : List UInt8} (h : Own B 5 U8 W v l) (hl : l ≠ []) : ∃ b off c, v = .slice (some ⟨b, off, none⟩) l.length c ∧ (convert 40 9 v).run Try.prog W = .ok (.string ⟨l.toArray⟩) W := by
  obtain ⟨A, c, rfl, h1, h2, h3, h4⟩ := h.toSl 0
  obtain ⟨b, off, rfl, hb, ht, hc⟩ := h4 (List.length_pos_iff.2 hl)
  refine ⟨b, off, c, rfl, run_convert_bytes_back (P := Try.prog) W 40 9 5 ⟨b, off, none⟩ c l Try.underlying40 Try.underlying5 Try.underlying9 fun j hj => ?_⟩
  obtain ⟨u, hu, e⟩ := hc j l[j] (List.getElem?_eq_getElem hj)
  rw [show (⟨b, off, none⟩ : Addr).add j = ⟨b, off + j, none⟩ by unfold Addr.add; split <;> simp_all, hu, e]
theorem rows_le {a k : Nat} {xs : List Seg} (h : a ≤ 52) (hn : xs.length ≤ 16) : a + 32 * (xs.take k).length ≤ 564 := by simp; omega
theorem put_le {a j : Nat} {xs : List Nat} (h : a ≤ 564) (hj : j ≤ 8) : a + (xs.take j).length * 4 ≤ 700 := by simp; omega
theorem chk_len {xs : List Seg} (h : chk xs = 0) : xs.length ≤ 16 := by
  unfold chk at h
  split at h
  · cases h
  · omega
theorem chk_all {xs : List Seg} (h : chk xs = 0) : xs.all okSeg = true := by
  unfold chk at h
  split at h
  · cases h
  · split at h
    · assumption
    · cases h
theorem ok_more {xs : List Seg} (h : xs.all okSeg = true) {g : Seg} (hg : g ∈ xs) : 1 ≤ g.size ∧ g.size ≤ 16777216 ∧ (g.data.size : Int) ≤ g.size ∧ 0 ≤ g.flags ∧ g.flags ≤ 7 ∧ (g.addr : Int) + g.size ≤ 4294967296 := by
  have := List.all_eq_true.1 h g hg
  simp only [okSeg, ok1, ok2, Bool.and_eq_true, decide_eq_true_eq] at this
  omega
theorem dat_le {a : Nat} {L : List UInt8} {xs : List Seg} (h : L.length ≤ a) (hc : chk xs = 0) (k : Nat) : (L ++ datB (xs.take k)).length ≤ a + 268435456 := by
  have hn := chk_len hc
  have hall := chk_all hc
  have hal : (datB (xs.take k)).length ≤ 16777216 * (xs.take k).length := datB_len_le fun x hx => by have := ok_more hall (List.mem_of_mem_take hx); omega
  have hal2 : (xs.take k).length ≤ 16 := by simp; omega
  rw [List.length_append]; omega
theorem row_size {xs : List Seg} (hc : chk xs = 0) {k : Nat} {g : Seg} (hg : xs[k]? = some g) : g.data.size ≤ 16777216 := by
  have := ok_more (chk_all hc) (List.mem_of_getElem? hg)
  omega
theorem row_facts {xs : List Seg} (hc : chk xs = 0) {k a : Nat} {g : Seg} (hg : xs[k]? = some g) (HA : a = 52 + 32 * xs.length + (datB (xs.take k)).length) :
    ∃ (ga : Nat) (gd : ByteArray) (sz ff : Nat), g = ⟨ga, gd, (sz : Int), (ff : Int)⟩ ∧ IntKind.u32.wrap (a : Int) = (a : Int) ∧ IntKind.u32.wrap (gd.size : Int) = (gd.size : Int) ∧ IntKind.u32.wrap (sz : Int) = (sz : Int) ∧ IntKind.u32.wrap (ff : Int) = (ff : Int) ∧ wrap64 ((a : Int) + (gd.size : Int)) = (a : Int) + gd.size ∧
      Hid (a + gd.size = 52 + 32 * xs.length + (datB (xs.take (k + 1))).length) ∧ Hid (rowsB (52 + 32 * xs.length) (xs.take (k + 1)) = rowsB (52 + 32 * xs.length) (xs.take k) ++ putAll [1, a, ga, ga, gd.size, sz, ff, 4] 4) ∧ (∀ x ∈ [1, a, ga, ga, gd.size, sz, ff, 4], x < 4294967296) := by
  have hn := chk_len hc
  have hall := chk_all hc
  have hok := ok_more hall (List.mem_of_getElem? hg)
  have hal : (datB (xs.take k)).length ≤ 16777216 * (xs.take k).length := datB_len_le fun x hx => by have := ok_more hall (List.mem_of_mem_take hx); omega
  have hal2 : (xs.take k).length ≤ 16 := by simp; omega
  have HR := rowsB_succ hg (52 + 32 * xs.length)
  have HD := congrArg List.length (datB_succ hg)
  have ha30 : a ≤ 300000000 := by omega
  obtain ⟨ga, gd, gs, gf⟩ := g
  dsimp only at hok
  obtain ⟨o1, o2, o3, o4, o5, o6⟩ := hok
  obtain ⟨sz, rfl⟩ : ∃ n : Nat, gs = n := ⟨gs.toNat, by omega⟩
  obtain ⟨ff, rfl⟩ : ∃ n : Nat, gf = n := ⟨gf.toNat, by omega⟩
  refine ⟨ga, gd, sz, ff, rfl, u32_le (by omega), u32_le (by omega), u32_le (by omega), u32_le (by omega), sum_le (by omega) (by omega), Lib.hid ?_, Lib.hid ?_, ?_⟩
  · rw [HD, List.length_append, toL_len]; dsimp only; omega
  · rw [HR, ← HA]; rfl
  · simp; omega
set_option maxRecDepth 100000 in
set_option maxHeartbeats 800000 in
theorem write_try (B : Nat) (en fl : Nat) (v : Value) (xs : List Seg) (w : World) (h : Segs B w v xs) (hen : en < 4294967296) (hfl : fl < 4294967296) (hlen : xs.length ≤ 100000) (hc : chk xs = 0) :
    Calls Try.prog 11 #[.agg #[.int .u32 en, .int .u32 fl, v]] w fun r w' => r = .returned (.tuple #[.string ⟨(fileB en fl xs).toArray⟩, .int .i64 0]) ∧ Below w.heap.size w w' := by
  replace h := h.re (Nat.le_refl w.heap.size)
  obtain ⟨A, c, rfl, hc1, hc2, hc3⟩ := h.open_
  have hcs := fun (w : World) (C : Array Value) (n c : Nat) => Lib.run_convert_bytes_const (P := Try.prog) w 40 5 C n c Try.underlying40 Try.underlying5
  go_enter Try.func11, Try.ntmps11
  go_wp2_with fail
  refine (check_any _ _ _ _ _ _ (h.below ((Below.refl _ _).alloc (Nat.le_refl _) _)) hlen).mono ?_
  rw [hc]
  rintro r w1 ⟨rfl, hb1⟩
  have hsz1 : w.heap.size ≤ w1.heap.size := Nat.le_trans (by simp) hb1.size
  have hzero : ∀ j x, ([127, 69, 76, 70, 1, 1, 1] : List UInt8)[j]? = some x → ∀ W : World, W.heap[w1.heap.size]? = some (.cells #[.int .u8 127, .int .u8 69, .int .u8 76, .int .u8 70, .int .u8 1, .int .u8 1, .int .u8 1] 5 (7, 8)) → W.cell? ⟨w1.heap.size, j, none⟩ = some (.int .u8 (x.toNat : Int)) := by
    intro j x hj W hW
    rw [cell_of hW]
    match j, hj with
    | 0, hj | 1, hj | 2, hj | 3, hj | 4, hj | 5, hj | 6, hj => simp at hj; subst hj; rfl
  go_wp2_with (first | (at_builtin; go_loud (refine wpList_zeros w.heap.size w1.heap.size rfl _ [127, 69, 76, 70, 1, 1, 1] 9 rfl rfl (Nat.le_trans hsz1 (two_alloc _ _ _)) (by decide) (by decide) (by decide) (fun j x hj => hzero j x hj _ (blk_alloc (blk_new _ _) _)) ?_); intro v2 w2 ho2 hb2; obtain ⟨A2, c2, rfl, _, _, _⟩ := (ho2.toSl 0).open_; have hbw := blk_below (blk2 _ _ _) hb2; have hcw := cell_of hbw 0; simp only [List.getElem?_toArray, List.getElem?_cons_zero] at hcw; have hfw := frozen_of hbw 0) | fail)
  have hB : w.heap.size ≤ w1.heap.size + 1 := by omega
  have hb2' := below_then (W := w1) (below_then ((Below.refl w.heap.size w).alloc (Nat.le_refl _) _) hb1) (((Below.refl w1.heap.size w1).alloc (Nat.le_refl _) (.cells #[.int .u8 127, .int .u8 69, .int .u8 76, .int .u8 70, .int .u8 1, .int .u8 1, .int .u8 1] 5 (7, 8))).alloc (by simp) (.cells #[.slice (some ⟨w1.heap.size, 0, none⟩) 7 7] 47))
  have hb : Below w.heap.size w (w2.setCell ⟨w1.heap.size + 1, 0, none⟩ (.slice A2 16 c2)) := (below_then hb2' hb2).setCell (by simp; omega) _
  have ho := ho2.move (stable_u8 _ _) (Quiet.set hbw (B := w.heap.size) (T := [5]) hB (by decide) 0 (.slice A2 16 c2)) (by decide)
  have hbw3 := blk_set hbw 0 (.slice A2 16 c2)
  refine (put_any w.heap.size (w1.heap.size + 1) _ _ 2 2 _ (by decide) (by decide) (by simp) hB hbw3 ho).mono ?_
  rintro r w3 ⟨rfl, v3, hbw4, ho3, hk3⟩
  go_wp2_with fail
  refine (put_any w.heap.size (w1.heap.size + 1) _ _ 243 2 _ (by decide) (by decide) (by simp [leB_len]) hB hbw4 ho3).mono ?_
  rintro r w4 ⟨rfl, v4, hbw5, ho4, hk4⟩
  have hx2 := blk_below (blk_alloc (blk_alloc (blk_below (blk_new w (.cells #[.int .u32 en, .int .u32 fl, .slice A xs.length c] 25)) hb1) (.cells #[.int .u8 127, .int .u8 69, .int .u8 76, .int .u8 70, .int .u8 1, .int .u8 1, .int .u8 1] 5 (7, 8))) (.cells #[.slice (some ⟨w1.heap.size, 0, none⟩) 7 7] 47)) hb2
  have hx3 := (Below.heap_setCell w2 ⟨w1.heap.size + 1, 0, none⟩ (.slice A2 16 c2) w.heap.size (by simp; omega)).trans hx2
  have hx5 := hk4.blk (hk3.blk hx3 (by decide)) (by decide)
  have hxe := cell_of hx5 0
  have hxf := cell_of hx5 1
  have hxs := cell_of hx5 2
  simp only [List.getElem?_toArray, List.getElem?_cons_zero, List.getElem?_cons_succ] at hxe hxf hxs
  have hsz2 : w.heap.size ≤ w2.heap.size := Nat.le_trans hsz1 (Nat.le_trans (two_alloc _ _ _) hb2.size)
  have hsz3 : w.heap.size ≤ w3.heap.size := Nat.le_trans hsz2 (Nat.le_trans (by simp) hk3.size)
  replace hb := (hb.trans (hk3.below (by simp; omega))).trans (hk4.below hsz3)
  clear hx2 hx3 hk3 hk4 hbw hcw hfw hb2 hb2' ho2 hbw3 ho hbw4 ho3 hzero
  obtain ⟨L4, hL4⟩ : ∃ z, z = ([127, 69, 76, 70, 1, 1, 1] ++ List.replicate 9 0 ++ leB 2 2 ++ leB 243 2 : List UInt8) := ⟨_, rfl⟩
  rw [← hL4] at ho4
  have hL4l : L4.length ≤ 20 := by rw [hL4]; simp [leB_len]
  replace hL4 := Lib.hid hL4
  obtain ⟨Q, hQ⟩ : ∃ z : List Nat, z = [1, en, 52, 0, fl] := ⟨_, rfl⟩
  have hQx : ∀ x ∈ Q, x < 4294967296 := by rw [hQ]; simp; omega
  have hQl : Q.length ≤ 5 := by rw [hQ]; simp
  have hQl2 : 5 ≤ Q.length := by rw [hQ]; simp
  have hsz4 : w.heap.size ≤ w4.heap.size := hb.size
  have hlit : (w4.alloc (.cells #[.int .u32 1, .int .u32 en, .int .u32 52, .int .u32 0, .int .u32 fl] 22)).heap[w4.heap.size]? = some (.cells (words Q) 22 (0, 0)) := by rw [hQ]; exact blk_new _ _
  replace hQ := Lib.hid hQ
  go_wp2_with fail
  go_loopw [44] (fun i wr => ∃ k : Nat, k ≤ 5 ∧ i = .int .i64 k ∧ ∃ vs, wr.heap[w1.heap.size + 1]? = some (.cells #[vs] 47 (0, 0)) ∧ Own w.heap.size 5 U8 wr vs (L4 ++ putAll (Q.take k) 4) ∧ wr.heap[w4.heap.size]? = some (.cells (words Q) 22 (0, 0)) ∧ wr.heap[w.heap.size]? = some (.cells #[.int .u32 en, .int .u32 fl, .slice A xs.length c] 25 (0, 0)) ∧ Below w.heap.size w wr) (fun i _ => 5 - (intOf i).toNat)
  case atStart => exact ⟨0, Nat.zero_le _, rfl, v4, blk_alloc hbw5 _, by simpa [putAll] using ho4.move (stable_u8 _ _) (Quiet.below ((Below.refl _ _).alloc (Nat.le_refl _) _)) (T := [5]) (by decide), hlit, blk_alloc hx5 _, hb.alloc hsz4 _⟩
  case round =>
    clear hlit hx5 hxe hxf hxs ho4 hbw5 hb
    obtain ⟨k, hk, rfl, vs, hbwr, hor, hlr, hxr, hb⟩ := hrel
    by_cases hlt : k < 5
    · obtain ⟨x, hx⟩ : ∃ x, Q[k]? = some x := ⟨_, List.getElem?_eq_getElem (show k < Q.length by omega)⟩
      have hxl := hQx x (List.mem_of_getElem? hx)
      have hcl := (cell_of hlr k).trans (words_at hx)
      have R := Lib.hid (putAll_succ hx 4)
      have hll : (L4 ++ putAll (Q.take k) 4).length ≤ 100 := by rw [List.length_append, putAll_len]; simp; omega
      go_wp2_with (first | (go_at_call 18; refine (put_any w.heap.size (w1.heap.size + 1) _ _ x 4 _ hxl (by decide) (by omega) hB hbwr hor).mono ?_; rintro r w6 ⟨rfl, v6, hbw6, ho6, hk6⟩) | fail)
      go_roundw
      case rel => exact ⟨k + 1, hlt, vsucc _, v6, hbw6, by rw [R.out, ← List.append_assoc]; exact ho6, hk6.blk hlr (by decide), hk6.blk hxr (by decide), hb.trans (hk6.below hb.size)⟩
      case measure => simp [intOf] <;> omega
    · have hor2 : Own w.heap.size 5 U8 wr vs (L4 ++ putAll Q 4) := by rw [List.take_of_length_le (by omega)] at hor; exact hor
      have hxs := cell_of hxr 2
      simp only [List.getElem?_toArray, List.getElem?_cons_zero, List.getElem?_cons_succ] at hxs
      have hU := len_u32 hlen
      have hW := len_at hlen
      obtain ⟨w7, rfl⟩ : ∃ w7 : World, w7 = wr := ⟨_, rfl⟩
      obtain ⟨L5, hL5⟩ : ∃ z, z = L4 ++ putAll Q 4 := ⟨_, rfl⟩
      have hL5l : L5.length ≤ 60 := by rw [hL5, List.length_append, putAll_len]; omega
      rw [← hL5] at hor2
      replace hL5 := Lib.hid hL5
      obtain ⟨Q2, hQ2⟩ : ∃ z : List Nat, z = [52, 32, xs.length, 0, 0, 0] := ⟨_, rfl⟩
      have hQ2x : ∀ x ∈ Q2, x < 4294967296 := by rw [hQ2]; simp; omega
      have hQ2l : Q2.length ≤ 6 := by rw [hQ2]; simp
      have hQ2l2 : 6 ≤ Q2.length := by rw [hQ2]; simp
      have hlit : (w7.alloc (.cells #[.int .u32 52, .int .u32 32, .int .u32 xs.length, .int .u32 0, .int .u32 0, .int .u32 0] 22)).heap[w7.heap.size]? = some (.cells (words Q2) 22 (0, 0)) := by rw [hQ2]; exact blk_new _ _
      replace hQ2 := Lib.hid hQ2
      go_wp2_with fail
      go_loopw [58] (fun i wr => ∃ k : Nat, k ≤ 6 ∧ i = .int .i64 k ∧ ∃ vs, wr.heap[w1.heap.size + 1]? = some (.cells #[vs] 47 (0, 0)) ∧ Own w.heap.size 5 U8 wr vs (L5 ++ putAll (Q2.take k) 2) ∧ wr.heap[w7.heap.size]? = some (.cells (words Q2) 22 (0, 0)) ∧ wr.heap[w.heap.size]? = some (.cells #[.int .u32 en, .int .u32 fl, .slice A xs.length c] 25 (0, 0)) ∧ Below w.heap.size w wr) (fun i _ => 6 - (intOf i).toNat)
      case atStart => exact ⟨0, Nat.zero_le _, rfl, vs, blk_alloc hbwr _, by simpa [putAll] using hor2.move (stable_u8 _ _) (Quiet.below ((Below.refl _ _).alloc (Nat.le_refl _) _)) (T := [5]) (by decide), hlit, blk_alloc hxr _, hb.alloc hb.size _⟩
      case round =>
        clear hlit hxr hxs hor2 hor hbwr hb hk hlt hlr
        obtain ⟨k, hk, rfl, vs, hbwr, hor, hlr, hxr, hb⟩ := hrel
        by_cases hlt : k < 6
        · obtain ⟨x, hx⟩ : ∃ x, Q2[k]? = some x := ⟨_, List.getElem?_eq_getElem (show k < Q2.length by omega)⟩
          have hxl := hQ2x x (List.mem_of_getElem? hx)
          have hcl := (cell_of hlr k).trans (words_at hx)
          have R := Lib.hid (putAll_succ hx 2)
          have hll : (L5 ++ putAll (Q2.take k) 2).length ≤ 100 := by rw [List.length_append, putAll_len]; simp; omega
          go_wp2_with (first | (go_at_call 18; refine (put_any w.heap.size (w1.heap.size + 1) _ _ x 2 _ hxl (by decide) (by omega) hB hbwr hor).mono ?_; rintro r w6 ⟨rfl, v6, hbw6, ho6, hk6⟩) | fail)
          go_roundw
          case rel => exact ⟨k + 1, hlt, vsucc _, v6, hbw6, by rw [R.out, ← List.append_assoc]; exact ho6, hk6.blk hlr (by decide), hk6.blk hxr (by decide), hb.trans (hk6.below hb.size)⟩
          case measure => simp [intOf] <;> omega
        · have hor2 : Own w.heap.size 5 U8 wr vs (L5 ++ putAll Q2 2) := by rw [List.take_of_length_le (by omega)] at hor; exact hor
          have hxs := cell_of hxr 2
          simp only [List.getElem?_toArray, List.getElem?_cons_zero, List.getElem?_cons_succ] at hxs
          obtain ⟨w8, rfl⟩ : ∃ w8 : World, w8 = wr := ⟨_, rfl⟩
          obtain ⟨L6, hL6⟩ : ∃ z, z = L5 ++ putAll Q2 2 := ⟨_, rfl⟩
          have hL6h : L6 = headB en fl xs.length := by rw [hL6, hL5.out, hQ2.out, hL4.out, hQ.out]; rfl
          rw [← hL6] at hor2
          clear hL6 hlr hor hk
          replace hL6h := Lib.hid hL6h
          have hL6l : L6.length ≤ 52 := by rw [hL6h.out, headB_len]; omega
          have hn16 := chk_len hc
          have hall := chk_all hc
          have hx := h.below hb
          go_wp2_with fail
          go_loopw [10, 74] (fun ia i wr => ∃ k a : Nat, k ≤ xs.length ∧ i = .int .i64 k ∧ ia = .int .i64 a ∧ Hid (a = 52 + 32 * xs.length + (datB (xs.take k)).length) ∧ ∃ vs, wr.heap[w1.heap.size + 1]? = some (.cells #[vs] 47 (0, 0)) ∧ Own w.heap.size 5 U8 wr vs (L6 ++ rowsB (52 + 32 * xs.length) (xs.take k)) ∧ wr.heap[w.heap.size]? = some (.cells #[.int .u32 en, .int .u32 fl, .slice A xs.length c] 25 (0, 0)) ∧ Below w.heap.size w wr) (fun _ i _ => xs.length - (intOf i).toNat)
          case atStart => exact ⟨0, 52 + 32 * xs.length, Nat.zero_le _, rfl, vat _, Lib.hid (by simp [datB]), vs, hbwr, by simpa [rowsB] using hor2, hxr, hb⟩
          case round =>
            clear hxr hxs hor2 hbwr hb hx hlt
            obtain ⟨k, a, hk, rfl, rfl, HA, vs, hbwr, hor, hxr, hb⟩ := hrel
            have hx := h.below hb
            by_cases hlt : k < xs.length
            · obtain ⟨bb, off, g, rfl, hg, hfit, hat, hbb⟩ := hx.at_ hlt
              obtain ⟨ga, gd, sz, ff, rfl, hwa, hwd, hws, hwf, hwt, HA2, HR, HQ⟩ := row_facts hc hg HA.out
              obtain ⟨ha0, ha1, ha2, ha3⟩ := hat
              obtain ⟨f1, f2, f3, f4, f5, f6⟩ := hfit
              dsimp only at ha0 ha1 ha2 ha3 f1 f2 f3 f4 f5 f6
              obtain ⟨w9, rfl⟩ : ∃ w9 : World, w9 = wr := ⟨_, rfl⟩
              obtain ⟨Q3, hQ3⟩ : ∃ z : List Nat, z = [1, a, ga, ga, gd.size, sz, ff, 4] := ⟨_, rfl⟩
              have hQ3x : ∀ x ∈ Q3, x < 4294967296 := by rw [hQ3]; exact HQ
              have hQ3l : Q3.length ≤ 8 := by rw [hQ3]; exact Nat.le_refl _
              have hQ3l2 : 8 ≤ Q3.length := by rw [hQ3]; exact Nat.le_refl _
              have hbwr1 := blk_alloc hbwr (.cells #[.int .u32 ga, .string gd, .int .i64 sz, .int .i64 ff] 36)
              have hbox := blk_new w9 (.cells #[.int .u32 ga, .string gd, .int .i64 sz, .int .i64 ff] 36)
              have hxr1 := blk_alloc hxr (.cells #[.int .u32 ga, .string gd, .int .i64 sz, .int .i64 ff] 36)
              have hor1 := hor.move (stable_u8 _ _) (Quiet.below ((Below.refl _ _).alloc (Nat.le_refl _) (.cells #[.int .u32 ga, .string gd, .int .i64 sz, .int .i64 ff] 36))) (T := [5]) (by decide)
              have hb1' := hb.alloc hb.size (.cells #[.int .u32 ga, .string gd, .int .i64 sz, .int .i64 ff] 36)
              have hlit : ((w9.alloc (.cells #[.int .u32 ga, .string gd, .int .i64 sz, .int .i64 ff] 36)).alloc (.cells #[.int .u32 1, .int .u32 a, .int .u32 ga, .int .u32 ga, .int .u32 gd.size, .int .u32 sz, .int .u32 ff, .int .u32 4] 22)).heap[w9.heap.size + 1]? = some (.cells (words Q3) 22 (0, 0)) := by rw [hQ3]; exact blk2 _ _ _
              replace hQ3 := Lib.hid hQ3
              obtain ⟨L7, hL7⟩ : ∃ z, z = L6 ++ rowsB (52 + 32 * xs.length) (xs.take k) := ⟨_, rfl⟩
              have hL7l : L7.length ≤ 564 := by rw [hL7, List.length_append, rowsB_len]; exact rows_le hL6l hn16
              rw [← hL7] at hor1
              replace hL7 := Lib.hid hL7
              have hlt2 := hlt
              go_wp2_with fail
              go_loopw [96] (fun i wr => ∃ j : Nat, j ≤ 8 ∧ i = .int .i64 j ∧ ∃ vs, wr.heap[w1.heap.size + 1]? = some (.cells #[vs] 47 (0, 0)) ∧ Own w.heap.size 5 U8 wr vs (L7 ++ putAll (Q3.take j) 4) ∧ wr.heap[w9.heap.size + 1]? = some (.cells (words Q3) 22 (0, 0)) ∧ wr.heap[w9.heap.size]? = some (.cells #[.int .u32 ga, .string gd, .int .i64 sz, .int .i64 ff] 36 (0, 0)) ∧ wr.heap[w.heap.size]? = some (.cells #[.int .u32 en, .int .u32 fl, .slice (some ⟨bb, off, none⟩) xs.length c] 25 (0, 0)) ∧ Below w.heap.size w wr) (fun i _ => 8 - (intOf i).toNat)
              case atStart => exact ⟨0, Nat.zero_le _, rfl, vs, blk_alloc hbwr1 _, by simpa [putAll] using hor1.move (stable_u8 _ _) (Quiet.below ((Below.refl _ _).alloc (Nat.le_refl _) _)) (T := [5]) (by decide), hlit, blk_alloc hbox _, blk_alloc hxr1 _, hb1'.alloc hb1'.size _⟩
              case round =>
                clear hlit hxr hxr1 hor1 hor hbwr hbwr1 hbox hb hb1' hlt
                obtain ⟨j, hj, rfl, vs, hbwr, hor, hlr, hbox, hxr, hb⟩ := hrel
                by_cases hlt : j < 8
                · obtain ⟨x, hx⟩ : ∃ x, Q3[j]? = some x := ⟨_, List.getElem?_eq_getElem (Nat.lt_of_lt_of_le hlt hQ3l2)⟩
                  have hxl := hQ3x x (List.mem_of_getElem? hx)
                  have hcl := (cell_of hlr j).trans (words_at hx)
                  have R := Lib.hid (putAll_succ hx 4)
                  have hll : (L7 ++ putAll (Q3.take j) 4).length ≤ 700 := by rw [List.length_append, putAll_len]; exact put_le hL7l hj
                  go_wp2_with (first | (go_at_call 18; refine (put_any w.heap.size (w1.heap.size + 1) _ _ x 4 _ hxl (by decide) (by omega) hB hbwr hor).mono ?_; rintro r w6 ⟨rfl, v6, hbw6, ho6, hk6⟩) | fail)
                  go_roundw
                  case rel => exact ⟨j + 1, hlt, vsucc _, v6, hbw6, by rw [R.out, ← List.append_assoc]; exact ho6, hk6.blk hlr (by decide), hk6.blk hbox (by decide), hk6.blk hxr (by decide), hb.trans (hk6.below hb.size)⟩
                  case measure => simp [intOf] <;> omega
                · have hor2 : Own w.heap.size 5 U8 wr vs (L7 ++ putAll Q3 4) := by rw [List.take_of_length_le (by omega)] at hor; exact hor
                  have hb1 := cell_of hbox 1
                  simp only [List.getElem?_toArray, List.getElem?_cons_zero, List.getElem?_cons_succ] at hb1
                  have hor3 : Own w.heap.size 5 U8 wr vs (L6 ++ rowsB (52 + 32 * xs.length) (xs.take (k + 1))) := by rw [HR.out, ← List.append_assoc, ← hL7.out, ← hQ3.out]; exact hor2
                  clear hor2 hor
                  go_wp2_with fail
                  go_roundw
                  case rel => exact ⟨k + 1, a + gd.size, hlt2, vsucc _, by rw [hwt]; exact vadd _ _, HA2, vs, hbwr, hor3, hxr, hb⟩
                  case measure => simp [intOf] <;> omega
            · have hor2 : Own w.heap.size 5 U8 wr vs (L6 ++ rowsB (52 + 32 * xs.length) xs) := by rw [List.take_of_length_le (by omega)] at hor; exact hor
              have hxs := cell_of hxr 2
              simp only [List.getElem?_toArray, List.getElem?_cons_zero, List.getElem?_cons_succ] at hxs
              obtain ⟨w9, rfl⟩ : ∃ w9 : World, w9 = wr := ⟨_, rfl⟩
              obtain ⟨L8, hL8⟩ : ∃ z, z = L6 ++ rowsB (52 + 32 * xs.length) xs := ⟨_, rfl⟩
              have hL8l : L8.length ≤ 600 := by rw [hL8, List.length_append, rowsB_len]; omega
              rw [← hL8] at hor2
              have hL8h := Lib.hid (show L8 = headB en fl xs.length ++ rowsB (52 + 32 * xs.length) xs by rw [hL8, hL6h.out])
              clear hL8 hor
              go_wp2_with fail
              go_loopw [113] (fun i wr => ∃ k : Nat, k ≤ xs.length ∧ i = .int .i64 k ∧ ∃ vs, wr.heap[w1.heap.size + 1]? = some (.cells #[vs] 47 (0, 0)) ∧ Own w.heap.size 5 U8 wr vs (L8 ++ datB (xs.take k)) ∧ wr.heap[w.heap.size]? = some (.cells #[.int .u32 en, .int .u32 fl, .slice A xs.length c] 25 (0, 0)) ∧ Below w.heap.size w wr) (fun i _ => xs.length - (intOf i).toNat)
              case atStart => exact ⟨0, Nat.zero_le _, rfl, vs, hbwr, by simpa [datB] using hor2, hxr, hb⟩
              case round =>
                clear hxr hxs hor2 hbwr hb hx hlt
                obtain ⟨k, hk, rfl, vs, hbwr, hor, hxr, hb⟩ := hrel
                have hx := h.below hb
                by_cases hlt : k < xs.length
                · obtain ⟨bb, off, g, rfl, hg, hfit, hat, hbb⟩ := hx.at_ hlt
                  have hll := dat_le hL8l hc k
                  have hgl := row_size hc hg
                  have HD := Lib.hid (show L8 ++ datB (xs.take (k + 1)) = L8 ++ datB (xs.take k) ++ g.data.data.toList by rw [datB_succ hg, List.append_assoc])
                  obtain ⟨ha0, ha1, ha2, ha3⟩ := hat
                  obtain ⟨f1, f2, f3, f4, f5, f6⟩ := hfit
                  have hbwr1 := blk_alloc hbwr (.cells #[.int .u32 g.addr, .string g.data, .int .i64 g.size, .int .i64 g.flags] 36)
                  have hxr1 := blk_alloc hxr (.cells #[.int .u32 g.addr, .string g.data, .int .i64 g.size, .int .i64 g.flags] 36)
                  have hor1 := hor.move (stable_u8 _ _) (Quiet.below (((Below.refl _ _).alloc (Nat.le_refl _) (.cells #[.int .u32 g.addr, .string g.data, .int .i64 g.size, .int .i64 g.flags] 36)).drew)) (T := [5]) (by decide)
                  have hb1' := hb.alloc hb.size (.cells #[.int .u32 g.addr, .string g.data, .int .i64 g.size, .int .i64 g.flags] 36)
                  have hsz := hb.size
                  have hca := cell_of hbwr1 0
                  simp only [List.getElem?_toArray, List.getElem?_cons_zero] at hca
                  have hfa := frozen_of hbwr1 0
                  have hcd := cell_of (blk_new wr (.cells #[.int .u32 g.addr, .string g.data, .int .i64 g.size, .int .i64 g.flags] 36)) 1
                  simp only [List.getElem?_toArray, List.getElem?_cons_zero, List.getElem?_cons_succ] at hcd
                  obtain ⟨l2, hl2⟩ : ∃ z : List UInt8, z = L8 ++ datB (xs.take k) ++ g.data.data.toList := ⟨_, rfl⟩
                  have HL2 := Lib.hid hl2
                  clear hl2
                  have hbwrd : (wr.alloc (.cells #[.int .u32 g.addr, .string g.data, .int .i64 g.size, .int .i64 g.flags] 36)).drew.heap[w1.heap.size + 1]? = some (.cells #[vs] 47 (0, 0)) := hbwr1
                  have hszd : w.heap.size ≤ (wr.alloc (.cells #[.int .u32 g.addr, .string g.data, .int .i64 g.size, .int .i64 g.flags] 36)).drew.heap.size := hb1'.size
                  have hllg : (L8 ++ datB (xs.take k)).length + g.data.size ≤ 140737488355328 := by omega
                  have hBd := Below.drew hb1'
                  go_wp2_with fail
                  go_region_law (first
                    | (refine step_str (w0 := w) w.heap.size (by rfl) (.tmp 121) (.tmp 123) 40 9 5 (by rfl) Try.underlying40 Try.underlying9 info_u8 hor1 (by rfl) (by rfl) hBd hszd hllg ?_; intro v1 w11 ho1 hB1 hg1; rw [← HL2.out] at ho1; obtain ⟨A1, c1, rfl, _, _, _⟩ := (ho1.toSl 0).open_; have hwr1 := hor1.other hg1 hbwrd (by simp); have hc1 := cell_of hwr1 0; simp only [List.getElem?_toArray, List.getElem?_cons_zero] at hc1; have hf1 := frozen_of hwr1 0))
                  all_goals
                    have hk0 : Keep w.heap.size [5, 47] wr (wr.alloc (.cells #[.int .u32 g.addr, .string g.data, .int .i64 g.size, .int .i64 g.flags] 36)).drew := Keep.of_below (((Below.refl _ _).alloc (Nat.le_refl _) _).drew)
                    have hk1 := Keep.own hor1 hg1 (U := [5, 47]) (by decide)
                    have hk2 := Keep.row (grown_set w11 (w1.heap.size + 1) 0 (.slice A1 l2.length c1)) hwr1 hB (U := [5, 47]) (by decide)
                    have hk3 := (hk0.trans hk1).trans hk2
                    have hwr2 := blk_set hwr1 0 (.slice A1 l2.length c1)
                    have ho2 := ho1.move (stable_u8 _ _) (Quiet.set hwr1 (B := w.heap.size) (T := [5]) hB (by decide) 0 (.slice A1 l2.length c1)) (by decide)
                    go_wp2_with fail
                    go_roundw
                    case rel => exact ⟨k + 1, hlt, vsucc _, _, hwr2, by rw [HD.out, ← HL2.out]; exact ho2, hk3.blk hxr (by decide), hb.trans (hk3.below hb.size)⟩
                    case measure => simp [intOf] <;> omega
                · have hor2 : Own w.heap.size 5 U8 wr vs (L8 ++ datB xs) := by rw [List.take_of_length_le (by omega)] at hor; exact hor
                  have hca := cell_of hbwr 0
                  simp only [List.getElem?_toArray, List.getElem?_cons_zero] at hca
                  obtain ⟨b9, off9, c9, rfl, hcv⟩ := own_string hor2 (by intro e; have e2 := congrArg List.length e; rw [List.length_append, hL8h.out, List.length_append, headB_len] at e2; simp at e2)
                  have HF := Lib.hid (show L8 ++ datB xs = fileB en fl xs by rw [hL8h.out]; rfl)
                  generalize L8 ++ datB xs = F at hcv HF hca
                  go_wp2_with fail
                  go_ret2
                  rw [← HF.out]; exact ⟨rfl, hb⟩
end Go.Proofs.Ytlpoebobfdmcmaa
