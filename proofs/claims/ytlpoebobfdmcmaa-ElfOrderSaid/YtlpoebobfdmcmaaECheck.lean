/- Check. -/
import Derived.Test.YtlpoebobfdmcmaaETold
import Derived.Test.YtlpoebobfdmcmaaERows
import Derived.Deep.RegionHeld3
set_option linter.unusedVariables false
set_option linter.unusedSimpArgs false
namespace Go.Proofs.Ytlpoebobfdmcmaa
open Go.RowKit

def ok1 (g : Seg) : Bool := decide (1 ≤ g.size) && (decide (g.size ≤ 16777216) && decide ((g.data.size : Int) ≤ g.size))
def ok2 (g : Seg) : Bool := decide (0 ≤ g.flags) && (decide (g.flags ≤ 7) && decide ((g.addr : Int) + g.size ≤ 4294967296))
def okSeg (g : Seg) : Bool := ok1 g && ok2 g
def apart (s t : Seg) : Bool := decide ((s.addr : Int) + s.size ≤ t.addr) || decide ((t.addr : Int) + t.size ≤ s.addr)
def pairs : List Seg → List Seg → Bool
  | _, [] => true
  | seen, s :: r => seen.all (apart s) && pairs (seen ++ [s]) r
def chk (xs : List Seg) : Int := if 16 < xs.length then 2 else if xs.all okSeg then (if pairs [] xs then 0 else 63) else 62
theorem drop_get {xs : List Seg} {k : Nat} {g : Seg} (h : xs[k]? = some g) : xs.drop k = g :: xs.drop (k + 1) := by
  obtain ⟨hk, rfl⟩ := List.getElem?_eq_some_iff.1 h
  exact List.drop_eq_getElem_cons hk
theorem ok_at {xs : List Seg} {k : Nat} {g : Seg} (h : xs.all okSeg = true) (hg : xs[k]? = some g) : 1 ≤ g.size ∧ g.size ≤ 16777216 := by
  have := List.all_eq_true.1 h g (List.mem_of_getElem? hg)
  simp only [okSeg, ok1, Bool.and_eq_true, decide_eq_true_eq] at this
  exact ⟨this.1.1, this.1.2.1⟩
theorem take_get {xs : List Seg} {k j : Nat} {g : Seg} (h : (xs.take k)[j]? = some g) : xs[j]? = some g := by
  rw [List.getElem?_take] at h
  split at h
  · exact h
  · cases h

set_option maxRecDepth 100000 in
set_option maxHeartbeats 1600000 in
theorem check_any (B : Nat) (en fl : Int) (v : Value) (xs : List Seg) (w : World) (h : Segs B w v xs) (hlen : xs.length ≤ 100000) :
    Calls Try.prog 14 #[.agg #[.int .u32 en, .int .u32 fl, v]] w fun r w' => r = .returned (.int .i64 (chk xs)) ∧ Below w.heap.size w w' := by
  replace h := h.re (Nat.le_refl w.heap.size)
  obtain ⟨A, c, rfl, hc1, hc2, hc3⟩ := h.open_
  have hbx := blk_alloc (blk_new w (.cells #[.int .u32 en, .int .u32 fl, .slice A xs.length c] 25)) (.cells #[.int .i64 0] 27)
  have hbe : ((w.alloc (.cells #[.int .u32 en, .int .u32 fl, .slice A xs.length c] 25)).alloc (.cells #[.int .i64 0] 27)).heap[w.heap.size + 1]? = _ := blk_top (by simp)
  have hb := ((Below.refl w.heap.size w).alloc (Nat.le_refl _) (.cells #[.int .u32 en, .int .u32 fl, .slice A xs.length c] 25)).alloc (by simp) (.cells #[.int .i64 0] 27)
  by_cases hn : xs.length ≤ 16
  · have d : decide ((xs.length : Int) ≤ 16) = true := decide_eq_true (by omega)
    go_enter_defers Try.func14, Try.ntmps14
    go_wp2_with (first | (go_at_call 22; refine (must_any _ _ _).mono ?_; rintro r w1 ⟨rfl, ⟨hm, rfl⟩ | ⟨hm, rfl⟩⟩ <;> first | exact absurd hm (by decide) | skip) | fail)
    go_loopw [17] (fun i wr => ∃ k : Nat, k ≤ xs.length ∧ i = .int .i64 k ∧ Hid (xs.all okSeg = (xs.drop k).all okSeg) ∧ wr.heap[w.heap.size]? = some (.cells #[.int .u32 en, .int .u32 fl, .slice A xs.length c] 25 (0, 0)) ∧ wr.heap[w.heap.size + 1]? = some (.cells #[.int .i64 0] 27 (0, 0)) ∧ Below w.heap.size w wr) (fun i _ => xs.length - (intOf i).toNat)
    case atStart => exact ⟨0, Nat.zero_le _, rfl, Lib.hid (by simp), hbx, hbe, hb⟩
    case round =>
      clear hbx hbe hb
      obtain ⟨k, hk, rfl, HA, hbx, hbe, hb⟩ := hrel
      have hx := h.below hb
      by_cases hlt : k < xs.length
      · obtain ⟨bb, off, g, rfl, hg, hfit, hat, hbb⟩ := hx.at_ hlt
        have HD := Lib.hid (drop_get hg)
        obtain ⟨ha0, ha1, ha2, ha3⟩ := hat
        obtain ⟨f1, f2, f3, f4, f5, f6⟩ := hfit
        have hbe2 := blk_alloc hbe (.cells #[.int .u32 g.addr, .string g.data, .int .i64 g.size, .int .i64 g.flags] 36)
        have hbx2 := blk_alloc hbx (.cells #[.int .u32 g.addr, .string g.data, .int .i64 g.size, .int .i64 g.flags] 36)
        have hb2 := hb.alloc hb.size (.cells #[.int .u32 g.addr, .string g.data, .int .i64 g.size, .int .i64 g.flags] 36)
        cases e1 : ok1 g
        · have e1' := Lib.hid e1
          clear e1
          cases p1 : decide (1 ≤ g.size)
          · have _u := 0
            go_wp2_with (first | (go_at_call 22; refine (must_any _ _ _).mono ?_; rintro r w1 ⟨rfl, ⟨hm, rfl⟩ | ⟨hm, rfl⟩⟩ <;> first | exact absurd hm (by decide) | skip) | fail)
            refine leaves_cons (f := 21) (args := #[.pointer (some ⟨w.heap.size + 1, 0, none⟩)]) (by simp) (by simp [go_sem]) ?_
            refine (told_panicking (w.heap.size + 1) _ 0 62 [] _ hbe2).mono ?_
            rintro r u' w'' ⟨rfl, rfl, w9, hb9, hk9, rfl⟩
            have hr := cell_of (blk_set hk9 0 (.int .i64 62)) 0
            simp only [List.setIfInBounds_toArray, List.set_cons_zero, List.getElem?_toArray, List.getElem?_cons_zero] at hr
            have hbz : Below w.heap.size w (w9.setCell ⟨w.heap.size + 1, 0, none⟩ (.int .i64 62)) := (below_then hb2 hb9).setCell (by simp) _
            have hS := Lib.hid (show chk xs = 62 by unfold chk; rw [if_neg (by omega), if_neg (by rw [HA.out, HD.out]; simp [okSeg, e1'.out])])
            simp [Leaves, settle, results, Try.results14, go_sem, hr]
            exact ⟨hS.out.symm, hbz⟩
          · cases p2 : decide (g.size ≤ 16777216)
            · have _u := 0
              go_wp2_with (first | (go_at_call 22; refine (must_any _ _ _).mono ?_; rintro r w1 ⟨rfl, ⟨hm, rfl⟩ | ⟨hm, rfl⟩⟩ <;> first | exact absurd hm (by decide) | skip) | fail)
              refine leaves_cons (f := 21) (args := #[.pointer (some ⟨w.heap.size + 1, 0, none⟩)]) (by simp) (by simp [go_sem]) ?_
              refine (told_panicking (w.heap.size + 1) _ 0 62 [] _ hbe2).mono ?_
              rintro r u' w'' ⟨rfl, rfl, w9, hb9, hk9, rfl⟩
              have hr := cell_of (blk_set hk9 0 (.int .i64 62)) 0
              simp only [List.setIfInBounds_toArray, List.set_cons_zero, List.getElem?_toArray, List.getElem?_cons_zero] at hr
              have hbz : Below w.heap.size w (w9.setCell ⟨w.heap.size + 1, 0, none⟩ (.int .i64 62)) := (below_then hb2 hb9).setCell (by simp) _
              have hS := Lib.hid (show chk xs = 62 by unfold chk; rw [if_neg (by omega), if_neg (by rw [HA.out, HD.out]; simp [okSeg, e1'.out])])
              simp [Leaves, settle, results, Try.results14, go_sem, hr]
              exact ⟨hS.out.symm, hbz⟩
            · have p3 : decide ((g.data.size : Int) ≤ g.size) = false := by have := e1'.out; rw [ok1, p1, p2] at this; simpa using this
              go_wp2_with (first | (go_at_call 22; refine (must_any _ _ _).mono ?_; rintro r w1 ⟨rfl, ⟨hm, rfl⟩ | ⟨hm, rfl⟩⟩ <;> first | exact absurd hm (by decide) | skip) | fail)
              refine leaves_cons (f := 21) (args := #[.pointer (some ⟨w.heap.size + 1, 0, none⟩)]) (by simp) (by simp [go_sem]) ?_
              refine (told_panicking (w.heap.size + 1) _ 0 62 [] _ hbe2).mono ?_
              rintro r u' w'' ⟨rfl, rfl, w9, hb9, hk9, rfl⟩
              have hr := cell_of (blk_set hk9 0 (.int .i64 62)) 0
              simp only [List.setIfInBounds_toArray, List.set_cons_zero, List.getElem?_toArray, List.getElem?_cons_zero] at hr
              have hbz : Below w.heap.size w (w9.setCell ⟨w.heap.size + 1, 0, none⟩ (.int .i64 62)) := (below_then hb2 hb9).setCell (by simp) _
              have hS := Lib.hid (show chk xs = 62 by unfold chk; rw [if_neg (by omega), if_neg (by rw [HA.out, HD.out]; simp [okSeg, e1'.out])])
              simp [Leaves, settle, results, Try.results14, go_sem, hr]
              exact ⟨hS.out.symm, hbz⟩
        · have e1' := Lib.hid e1
          simp only [ok1, Bool.and_eq_true] at e1
          obtain ⟨p1, p2, p3⟩ := e1
          have hW : wrap64 ((g.addr : Int) + g.size) = (g.addr : Int) + g.size := by have := of_decide_eq_true p1; have := of_decide_eq_true p2; unfold wrap64; omega
          cases e2 : ok2 g
          · have e2' := Lib.hid e2
            clear e2
            cases p4 : decide (0 ≤ g.flags)
            · have _u := 0
              go_wp2_with (first | (go_at_call 22; refine (must_any _ _ _).mono ?_; rintro r w1 ⟨rfl, ⟨hm, rfl⟩ | ⟨hm, rfl⟩⟩ <;> first | exact absurd hm (by decide) | skip) | fail)
              refine leaves_cons (f := 21) (args := #[.pointer (some ⟨w.heap.size + 1, 0, none⟩)]) (by simp) (by simp [go_sem]) ?_
              refine (told_panicking (w.heap.size + 1) _ 0 62 [] _ hbe2).mono ?_
              rintro r u' w'' ⟨rfl, rfl, w9, hb9, hk9, rfl⟩
              have hr := cell_of (blk_set hk9 0 (.int .i64 62)) 0
              simp only [List.setIfInBounds_toArray, List.set_cons_zero, List.getElem?_toArray, List.getElem?_cons_zero] at hr
              have hbz : Below w.heap.size w (w9.setCell ⟨w.heap.size + 1, 0, none⟩ (.int .i64 62)) := (below_then hb2 hb9).setCell (by simp) _
              have hS := Lib.hid (show chk xs = 62 by unfold chk; rw [if_neg (by omega), if_neg (by rw [HA.out, HD.out]; simp [okSeg, e2'.out])])
              simp [Leaves, settle, results, Try.results14, go_sem, hr]
              exact ⟨hS.out.symm, hbz⟩
            · cases p5 : decide (g.flags ≤ 7)
              · have _u := 0
                go_wp2_with (first | (go_at_call 22; refine (must_any _ _ _).mono ?_; rintro r w1 ⟨rfl, ⟨hm, rfl⟩ | ⟨hm, rfl⟩⟩ <;> first | exact absurd hm (by decide) | skip) | fail)
                refine leaves_cons (f := 21) (args := #[.pointer (some ⟨w.heap.size + 1, 0, none⟩)]) (by simp) (by simp [go_sem]) ?_
                refine (told_panicking (w.heap.size + 1) _ 0 62 [] _ hbe2).mono ?_
                rintro r u' w'' ⟨rfl, rfl, w9, hb9, hk9, rfl⟩
                have hr := cell_of (blk_set hk9 0 (.int .i64 62)) 0
                simp only [List.setIfInBounds_toArray, List.set_cons_zero, List.getElem?_toArray, List.getElem?_cons_zero] at hr
                have hbz : Below w.heap.size w (w9.setCell ⟨w.heap.size + 1, 0, none⟩ (.int .i64 62)) := (below_then hb2 hb9).setCell (by simp) _
                have hS := Lib.hid (show chk xs = 62 by unfold chk; rw [if_neg (by omega), if_neg (by rw [HA.out, HD.out]; simp [okSeg, e2'.out])])
                simp [Leaves, settle, results, Try.results14, go_sem, hr]
                exact ⟨hS.out.symm, hbz⟩
              · have p6 : decide ((g.addr : Int) + g.size ≤ 4294967296) = false := by have := e2'.out; rw [ok2, p4, p5] at this; simpa using this
                go_wp2_with (first | (go_at_call 22; refine (must_any _ _ _).mono ?_; rintro r w1 ⟨rfl, ⟨hm, rfl⟩ | ⟨hm, rfl⟩⟩ <;> first | exact absurd hm (by decide) | skip) | fail)
                refine leaves_cons (f := 21) (args := #[.pointer (some ⟨w.heap.size + 1, 0, none⟩)]) (by simp) (by simp [go_sem]) ?_
                refine (told_panicking (w.heap.size + 1) _ 0 62 [] _ hbe2).mono ?_
                rintro r u' w'' ⟨rfl, rfl, w9, hb9, hk9, rfl⟩
                have hr := cell_of (blk_set hk9 0 (.int .i64 62)) 0
                simp only [List.setIfInBounds_toArray, List.set_cons_zero, List.getElem?_toArray, List.getElem?_cons_zero] at hr
                have hbz : Below w.heap.size w (w9.setCell ⟨w.heap.size + 1, 0, none⟩ (.int .i64 62)) := (below_then hb2 hb9).setCell (by simp) _
                have hS := Lib.hid (show chk xs = 62 by unfold chk; rw [if_neg (by omega), if_neg (by rw [HA.out, HD.out]; simp [okSeg, e2'.out])])
                simp [Leaves, settle, results, Try.results14, go_sem, hr]
                exact ⟨hS.out.symm, hbz⟩
          · have e2' := Lib.hid e2
            simp only [ok2, Bool.and_eq_true] at e2
            obtain ⟨p4, p5, p6⟩ := e2
            have HA2 := Lib.hid (show xs.all okSeg = (xs.drop (k + 1)).all okSeg by rw [HA.out, HD.out]; simp [okSeg, e1'.out, e2'.out])
            go_wp2_with (first | (go_at_call 22; refine (must_any _ _ _).mono ?_; rintro r w1 ⟨rfl, ⟨hm, rfl⟩ | ⟨hm, rfl⟩⟩ <;> first | exact absurd hm (by decide) | skip) | fail)
            go_roundw
            case rel => exact ⟨k + 1, by omega, by go_num, HA2, hbx2, hbe2, hb2⟩
            case measure => simp [intOf] <;> omega
      · have hall := Lib.hid (show xs.all okSeg = true by rw [HA.out, List.drop_eq_nil_of_le (by omega)]; rfl)
        have hx2 := cell_of hbx 2
        simp only [List.getElem?_toArray, List.getElem?_cons_zero, List.getElem?_cons_succ] at hx2
        go_wp2_with (first | (go_at_call 22; refine (must_any _ _ _).mono ?_; rintro r w1 ⟨rfl, ⟨hm, rfl⟩ | ⟨hm, rfl⟩⟩ <;> first | exact absurd hm (by decide) | skip) | fail)
        clear HA hlt hx hx2
        go_loopw [60] (fun i wr => ∃ k : Nat, k ≤ xs.length ∧ i = .int .i64 k ∧ Hid (pairs [] xs = pairs (xs.take k) (xs.drop k)) ∧ wr.heap[w.heap.size]? = some (.cells #[.int .u32 en, .int .u32 fl, .slice A xs.length c] 25 (0, 0)) ∧ wr.heap[w.heap.size + 1]? = some (.cells #[.int .i64 0] 27 (0, 0)) ∧ Below w.heap.size w wr) (fun i _ => xs.length - (intOf i).toNat)
        case atStart => exact ⟨0, Nat.zero_le _, rfl, Lib.hid (by simp), hbx, hbe, hb⟩
        case round =>
          clear hbx hbe hb hk
          obtain ⟨k, hk, rfl, HA, hbx, hbe, hb⟩ := hrel
          have hx := h.below hb
          have hx2 := cell_of hbx 2
          simp only [List.getElem?_toArray, List.getElem?_cons_zero, List.getElem?_cons_succ] at hx2
          by_cases hlt : k < xs.length
          · obtain ⟨bb, off, g, rfl, hg, hfit, hat, hbb⟩ := hx.at_ hlt
            have HD := Lib.hid (drop_get hg)
            have hok := Lib.hid (ok_at hall.out hg)
            obtain ⟨ha0, ha1, ha2, ha3⟩ := hat
            have hx3 := cell_alloc0 hx2 (.cells #[.int .u32 g.addr, .string g.data, .int .i64 g.size, .int .i64 g.flags] 36)
            have hcl : k ≤ c := by omega
            have hcl2 : (k : Int) ≤ (c : Int) := by omega
            have hk0 : (0 : Int) ≤ (k : Int) := by omega
            have hbe2 := blk_alloc hbe (.cells #[.int .u32 g.addr, .string g.data, .int .i64 g.size, .int .i64 g.flags] 36)
            have hbx4 := blk_alloc hbx (.cells #[.int .u32 g.addr, .string g.data, .int .i64 g.size, .int .i64 g.flags] 36)
            have hgb := blk_new wr (.cells #[.int .u32 g.addr, .string g.data, .int .i64 g.size, .int .i64 g.flags] 36)
            have hb2 := hb.alloc hb.size (.cells #[.int .u32 g.addr, .string g.data, .int .i64 g.size, .int .i64 g.flags] 36)
            have hb3 : Below wr.heap.size wr _ := (Below.refl _ wr).alloc (Nat.le_refl _) (.cells #[.int .u32 g.addr, .string g.data, .int .i64 g.size, .int .i64 g.flags] 36)
            have hf1 := hfit.addr
            have hW : wrap64 ((g.addr : Int) + g.size) = (g.addr : Int) + g.size := by have := hok.out; unfold wrap64; omega
            have hyt := hx.take (n := k) (by omega)
            have hlk : Hid ((xs.take k).length = k) := Lib.hid (by simp; omega)
            obtain ⟨wo, rfl⟩ : ∃ wo : World, wo = wr := ⟨_, rfl⟩
            go_wp2_with (first | (go_at_call 22; refine (must_any _ _ _).mono ?_; rintro r w1 ⟨rfl, ⟨hm, rfl⟩ | ⟨hm, rfl⟩⟩ <;> first | exact absurd hm (by decide) | skip) | fail)
            go_loopw [70] (fun i wr => ∃ j : Nat, j ≤ k ∧ i = .int .i64 j ∧ Hid ((xs.take k).all (apart g) = ((xs.take k).drop j).all (apart g)) ∧ wr.heap[w.heap.size]? = some (.cells #[.int .u32 en, .int .u32 fl, .slice (some ⟨bb, off, none⟩) xs.length c] 25 (0, 0)) ∧ wr.heap[w.heap.size + 1]? = some (.cells #[.int .i64 0] 27 (0, 0)) ∧ wr.heap[wo.heap.size]? = some (.cells #[.int .u32 g.addr, .string g.data, .int .i64 g.size, .int .i64 g.flags] 36 (0, 0)) ∧ Below w.heap.size w wr ∧ Below wo.heap.size wo wr) (fun i _ => k - (intOf i).toNat)
            case atStart => exact ⟨0, Nat.zero_le _, rfl, Lib.hid (by simp), hbx4, hbe2, hgb, hb2, hb3⟩
            case round =>
              clear hx3 hx2 hx ha0 ha1 ha2 ha3 hbx4 hbe2 hgb hb2 hb3 hbx hbe hb
              obtain ⟨j, hj, rfl, HI, hbx, hbe, hgb, hb, hbo⟩ := hrel
              have hyj := hyt.below hbo
              have g0 := cell_of hgb 0
              have g2 := cell_of hgb 2
              simp only [List.getElem?_toArray, List.getElem?_cons_zero, List.getElem?_cons_succ] at g0 g2
              by_cases hltj : j < k
              · obtain ⟨b5, o5, t, e5, ht, htf, hta, _⟩ := hyj.at_ (k := j) (by have := hlk.out; omega)
                simp only [Option.some.injEq, Addr.mk.injEq, and_true] at e5
                obtain ⟨rfl, rfl⟩ := e5
                have HDJ := Lib.hid (drop_get ht)
                have hokt := Lib.hid (ok_at hall.out (take_get ht))
                have hft := htf.addr
                have hWt : wrap64 ((t.addr : Int) + t.size) = (t.addr : Int) + t.size := by have := hokt.out; unfold wrap64; omega
                obtain ⟨t0, t1, t2, t3⟩ := hta
                have hbe2 := blk_alloc hbe (.cells #[.int .u32 t.addr, .string t.data, .int .i64 t.size, .int .i64 t.flags] 36)
                have hbx2 := blk_alloc hbx (.cells #[.int .u32 t.addr, .string t.data, .int .i64 t.size, .int .i64 t.flags] 36)
                have hgb2 := blk_alloc hgb (.cells #[.int .u32 t.addr, .string t.data, .int .i64 t.size, .int .i64 t.flags] 36)
                have g02 := cell_alloc0 g0 (.cells #[.int .u32 t.addr, .string t.data, .int .i64 t.size, .int .i64 t.flags] 36)
                have g22 := cell_alloc0 g2 (.cells #[.int .u32 t.addr, .string t.data, .int .i64 t.size, .int .i64 t.flags] 36)
                have hb2 := hb.alloc hb.size (.cells #[.int .u32 t.addr, .string t.data, .int .i64 t.size, .int .i64 t.flags] 36)
                have hb3 := hbo.alloc hbo.size (.cells #[.int .u32 t.addr, .string t.data, .int .i64 t.size, .int .i64 t.flags] 36)
                cases q1 : decide ((g.addr : Int) + g.size ≤ (t.addr : Int))
                · cases q2 : decide ((t.addr : Int) + t.size ≤ (g.addr : Int))
                  · have hap := Lib.hid (show apart g t = false by rw [apart, q1, q2]; rfl)
                    go_wp2_with (first | (go_at_call 22; refine (must_any _ _ _).mono ?_; rintro r w1 ⟨rfl, ⟨hm, rfl⟩ | ⟨hm, rfl⟩⟩ <;> first | exact absurd hm (by decide) | skip) | fail)
                    refine leaves_cons (f := 21) (args := #[.pointer (some ⟨w.heap.size + 1, 0, none⟩)]) (by simp) (by simp [go_sem]) ?_
                    refine (told_panicking (w.heap.size + 1) _ 0 63 [] _ hbe2).mono ?_
                    rintro r u' w'' ⟨rfl, rfl, w9, hb9, hk9, rfl⟩
                    have hr := cell_of (blk_set hk9 0 (.int .i64 63)) 0
                    simp only [List.setIfInBounds_toArray, List.set_cons_zero, List.getElem?_toArray, List.getElem?_cons_zero] at hr
                    have hbz : Below w.heap.size w (w9.setCell ⟨w.heap.size + 1, 0, none⟩ (.int .i64 63)) := (below_then hb2 hb9).setCell (by simp) _
                    have hS := Lib.hid (show chk xs = 63 by unfold chk; rw [if_neg (by omega), if_pos hall.out, if_neg (by rw [HA.out, HD.out, pairs, HI.out, HDJ.out]; simp [hap.out])])
                    simp [Leaves, settle, results, Try.results14, go_sem, hr]
                    exact ⟨hS.out.symm, hbz⟩
                  · have hap := Lib.hid (show apart g t = true by rw [apart, q1, q2]; rfl)
                    have HI2 := Lib.hid (show (xs.take k).all (apart g) = ((xs.take k).drop (j + 1)).all (apart g) by rw [HI.out, HDJ.out]; simp [hap.out])
                    go_wp2_with (first | (go_at_call 22; refine (must_any _ _ _).mono ?_; rintro r w1 ⟨rfl, ⟨hm, rfl⟩ | ⟨hm, rfl⟩⟩ <;> first | exact absurd hm (by decide) | skip) | fail)
                    go_roundw
                    case rel => exact ⟨j + 1, by omega, by go_num, HI2, hbx2, hbe2, hgb2, hb2, hb3⟩
                    case measure => simp [intOf] <;> omega
                · have hap := Lib.hid (show apart g t = true by rw [apart, q1]; rfl)
                  have HI2 := Lib.hid (show (xs.take k).all (apart g) = ((xs.take k).drop (j + 1)).all (apart g) by rw [HI.out, HDJ.out]; simp [hap.out])
                  go_wp2_with (first | (go_at_call 22; refine (must_any _ _ _).mono ?_; rintro r w1 ⟨rfl, ⟨hm, rfl⟩ | ⟨hm, rfl⟩⟩ <;> first | exact absurd hm (by decide) | skip) | fail)
                  go_roundw
                  case rel => exact ⟨j + 1, by omega, by go_num, HI2, hbx2, hbe2, hgb2, hb2, hb3⟩
                  case measure => simp [intOf] <;> omega
              · have HI2 := Lib.hid (show (xs.take k).all (apart g) = true by rw [HI.out, List.drop_eq_nil_of_le (by have := hlk.out; omega)]; rfl)
                have HA2 := Lib.hid (show pairs [] xs = pairs (xs.take (k + 1)) (xs.drop (k + 1)) by rw [HA.out, HD.out, pairs, HI2.out, List.take_add_one, hg]; rfl)
                go_wp2_with (first | (go_at_call 22; refine (must_any _ _ _).mono ?_; rintro r w1 ⟨rfl, ⟨hm, rfl⟩ | ⟨hm, rfl⟩⟩ <;> first | exact absurd hm (by decide) | skip) | fail)
                go_roundw
                case rel => exact ⟨k + 1, by omega, by go_num, HA2, hbx, hbe, hb⟩
                case measure => simp [intOf] <;> omega
          · have he0 := cell_of hbe 0
            simp only [List.getElem?_toArray, List.getElem?_cons_zero] at he0
            have hf0 := frozen_of hbe 0
            have hp := Lib.hid (show pairs [] xs = true by rw [HA.out, List.drop_eq_nil_of_le (by omega)]; cases xs.take k <;> rfl)
            go_wp2_with (first | (go_at_call 22; refine (must_any _ _ _).mono ?_; rintro r w1 ⟨rfl, ⟨hm, rfl⟩ | ⟨hm, rfl⟩⟩ <;> first | exact absurd hm (by decide) | skip) | fail)
            refine leaves_cons (f := 21) (args := #[.pointer (some ⟨w.heap.size + 1, 0, none⟩)]) (by simp) (by simp [go_sem]) ?_
            refine (told_idle _ _).mono ?_
            rintro r u' w'' ⟨rfl, rfl, rfl⟩
            have hr := cell_of (blk_set hbe 0 (.int .i64 0)) 0
            simp only [List.setIfInBounds_toArray, List.set_cons_zero, List.getElem?_toArray, List.getElem?_cons_zero] at hr
            have hbz : Below w.heap.size w (wr.setCell ⟨w.heap.size + 1, 0, none⟩ (.int .i64 0)) := hb.setCell (by simp) _
            have hS := Lib.hid (show chk xs = 0 by unfold chk; rw [if_neg (by omega), if_pos hall.out, if_pos hp.out])
            simp [Leaves, settle, results, Try.results14, go_sem, hr]
            exact ⟨hS.out.symm, hbz⟩
  · have d : decide ((xs.length : Int) ≤ 16) = false := decide_eq_false (by omega)
    go_enter_defers Try.func14, Try.ntmps14
    go_wp2_with (first | (go_at_call 22; refine (must_any _ _ _).mono ?_; rintro r w1 ⟨rfl, ⟨hm, rfl⟩ | ⟨hm, rfl⟩⟩ <;> first | exact absurd hm (by decide) | skip) | fail)
    refine leaves_cons (f := 21) (args := #[.pointer (some ⟨w.heap.size + 1, 0, none⟩)]) (by simp) (by simp [go_sem]) ?_
    refine (told_panicking (w.heap.size + 1) _ 0 2 [] _ hbe).mono ?_
    rintro r u' w'' ⟨rfl, rfl, w9, hb9, hk9, rfl⟩
    have hr := cell_of (blk_set hk9 0 (.int .i64 2)) 0
    simp only [List.setIfInBounds_toArray, List.set_cons_zero, List.getElem?_toArray, List.getElem?_cons_zero] at hr
    have hbz : Below w.heap.size w (w9.setCell ⟨w.heap.size + 1, 0, none⟩ (.int .i64 2)) := (below_then hb hb9).setCell (by simp) _
    have hS := Lib.hid (show chk xs = 2 by unfold chk; rw [if_pos (by omega)])
    simp [Leaves, settle, results, Try.results14, go_sem, hr]
    exact ⟨hS.out.symm, hbz⟩
end Go.Proofs.Ytlpoebobfdmcmaa
