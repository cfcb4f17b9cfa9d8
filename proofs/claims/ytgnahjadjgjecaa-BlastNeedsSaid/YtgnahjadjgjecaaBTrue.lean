/- blast: Regs. -/
/- blast: Cnf. -/
/- The reference's clauses: Lit, Clause, True. -/
/- The reference's clauses: True, Check. -/
import Derived.Test.YtgnahjadjgjecaaBVals
import Derived.Deep.QuietTactic
import Derived.BigQuiet
set_option linter.unusedVariables false
set_option linter.unusedSimpArgs false
namespace Go.Proofs.Ytgnahjadjgjecaa
open Go.RowKit Go.Maps Go.MapKept

theorem regsF_snoc (vs : List Bool) (g : Gate) (r : Nat) : ∀ (gs : List Gate) (v : Nat), regsF vs (gs ++ [g]) v r = regsF vs gs v r ||| (if g.kd = 0 ∧ g.a = (r : Int) ∧ so vs ((v + gs.length : Nat) : Int) = true then 2 ^ g.b.toNat else 0)
  | [], v => by
    show regsF vs [] (v + 1) r ||| _ = regsF vs [] v r ||| _
    rfl
  | h :: gs, v => by
    show regsF vs (gs ++ [g]) (v + 1) r ||| _ = (regsF vs gs (v + 1) r ||| _) ||| _
    rw [regsF_snoc vs g r gs (v + 1), Nat.or_assoc, Nat.or_assoc, show v + 1 + gs.length = v + (h :: gs).length by rw [List.length_cons]; omega]
    congr 1
    exact Nat.or_comm _ _
theorem regsF_take (vs : List Bool) {gs : List Gate} {j : Nat} (hj : j < gs.length) (r : Nat) : regsF vs (gs.take (j + 1)) 2 r = regsF vs (gs.take j) 2 r ||| (if gs[j].kd = 0 ∧ gs[j].a = (r : Int) ∧ so vs ((j : Int) + 2) = true then 2 ^ gs[j].b.toNat else 0) := by
  rw [List.take_succ_eq_append_getElem hj, regsF_snoc, List.length_take, Nat.min_eq_left (by omega), show ((2 + j : Nat) : Int) = (j : Int) + 2 by omega]
theorem regsF_lt {gs : List Gate} (hG : GGood gs) (vs : List Bool) (j r : Nat) : regsF vs (gs.take j) 2 r < 4294967296 := by
  show _ < 2 ^ 32
  apply Nat.lt_pow_two_of_testBit
  intro b hb
  cases e : (regsF vs (gs.take j) 2 r).testBit b
  · rfl
  · exfalso
    obtain ⟨i, g, h1, h2, h3, h4, h5⟩ := (regsF_bit vs _ 2 r b).1 e
    rw [List.getElem?_take] at h1
    split at h1
    · rcases hG.all i g h1 with ⟨_, _, _, k1, k2⟩ | ⟨hk, _⟩ <;> omega
    · cases h1
theorem or_shl {a b : Nat} (ha : a < 4294967296) (hb : b < 32) : bits BinOp.or IntKind.u32 (a : Int) ((2 : Int) ^ b % 4294967296) = ((a ||| 2 ^ b : Nat) : Int) := by
  have h2 : (2 : Nat) ^ b < 4294967296 := Nat.lt_of_lt_of_le (Nat.pow_lt_pow_right (by omega) hb) (by decide)
  have h3 : ((2 : Int) ^ b % 4294967296) = ((2 ^ b : Nat) : Int) := by
    have : ((2 : Int) ^ b) = ((2 ^ b : Nat) : Int) := by simp
    rw [this]
    generalize (2 : Nat) ^ b = p at h2 ⊢
    omega
  rw [h3]
  exact u32_or a (2 ^ b) ha h2
theorem regB_ext {x y : Nat → Nat} (h : ∀ r, r < 32 → x r = y r) : regB x = regB y := by
  unfold regB
  congr 1
  exact List.map_congr_left fun r hr => by rw [h r (by simpa using hr)]
theorem regB_set (x : Nat → Nat) (n m : Nat) : (regB x).setIfInBounds n (.int .u32 (m : Int)) = regB (fun r => if r = n then m else x r) := by
  apply Array.ext_getElem?
  intro i
  rw [Array.getElem?_setIfInBounds, regB_size]
  by_cases hi : i < 32
  · rw [regB_get _ hi, regB_get _ hi]
    by_cases e : n = i
    · rw [if_pos e, if_pos (by omega), if_pos e.symm]
    · rw [if_neg e, if_neg fun h => e h.symm]
  · have h1 : ∀ y : Nat → Nat, (regB y)[i]? = none := fun y => Array.getElem?_eq_none (by rw [regB_size]; omega)
    rw [h1, h1]
    split
    · rw [if_neg (by omega)]
    · rfl
theorem zero_regB : (#[.int .u32 0, .int .u32 0, .int .u32 0, .int .u32 0, .int .u32 0, .int .u32 0, .int .u32 0, .int .u32 0, .int .u32 0, .int .u32 0, .int .u32 0, .int .u32 0, .int .u32 0, .int .u32 0, .int .u32 0, .int .u32 0, .int .u32 0, .int .u32 0, .int .u32 0, .int .u32 0, .int .u32 0, .int .u32 0, .int .u32 0, .int .u32 0, .int .u32 0, .int .u32 0, .int .u32 0, .int .u32 0, .int .u32 0, .int .u32 0, .int .u32 0, .int .u32 0] : Array Value) = regB fun _ => 0 := by rfl
theorem regB_one (z : Nat → Nat) : (regB z).all (·.oneCell') = true := by
  rw [Array.all_eq_true]
  intro i hi
  simp [regB]
  rfl
theorem info_regs : (Try.prog.info? 27).map (·.size) = some 32 := by kernel_rfl
set_option maxRecDepth 100000 in
set_option maxHeartbeats 4000000 in
theorem regs_any (K : Nat → Prop) (q : Nat) (gs : List Gate) (cs : List (List Int)) (hG : GGood gs) (hl : gs.length ≤ 1000000) (B : Nat) (v : Value) (vs : List Bool) (hvl : vs.length < 1000000000) (w : World) (hv : BitsB B w v vs) (h : QAt K w q gs cs) :
    Calls Try.prog 21 #[.pointer (some ⟨q, 0, none⟩), v] w fun r w' => r = .returned (.agg (regB (regsOf vs gs))) ∧ Below w.heap.size w w' := by
  have b1 := (Below.refl w.heap.size w).alloc (Nat.le_refl _) (.cells #[.int .u32 0, .int .u32 0, .int .u32 0, .int .u32 0, .int .u32 0, .int .u32 0, .int .u32 0, .int .u32 0, .int .u32 0, .int .u32 0, .int .u32 0, .int .u32 0, .int .u32 0, .int .u32 0, .int .u32 0, .int .u32 0, .int .u32 0, .int .u32 0, .int .u32 0, .int .u32 0, .int .u32 0, .int .u32 0, .int .u32 0, .int .u32 0, .int .u32 0, .int .u32 0, .int .u32 0, .int .u32 0, .int .u32 0, .int .u32 0, .int .u32 0, .int .u32 0] 27)
  have b2 := b1.alloc (by simp) (.cells #[.int .u32 0, .int .u32 0, .int .u32 0, .int .u32 0, .int .u32 0, .int .u32 0, .int .u32 0, .int .u32 0, .int .u32 0, .int .u32 0, .int .u32 0, .int .u32 0, .int .u32 0, .int .u32 0, .int .u32 0, .int .u32 0, .int .u32 0, .int .u32 0, .int .u32 0, .int .u32 0, .int .u32 0, .int .u32 0, .int .u32 0, .int .u32 0, .int .u32 0, .int .u32 0, .int .u32 0, .int .u32 0, .int .u32 0, .int .u32 0, .int .u32 0, .int .u32 0] 27)
  have hs1 : (w.alloc (.cells #[.int .u32 0, .int .u32 0, .int .u32 0, .int .u32 0, .int .u32 0, .int .u32 0, .int .u32 0, .int .u32 0, .int .u32 0, .int .u32 0, .int .u32 0, .int .u32 0, .int .u32 0, .int .u32 0, .int .u32 0, .int .u32 0, .int .u32 0, .int .u32 0, .int .u32 0, .int .u32 0, .int .u32 0, .int .u32 0, .int .u32 0, .int .u32 0, .int .u32 0, .int .u32 0, .int .u32 0, .int .u32 0, .int .u32 0, .int .u32 0, .int .u32 0, .int .u32 0] 27)).heap.size = w.heap.size + 1 := by simp
  have hR := blk_alloc (blk_new w (.cells #[.int .u32 0, .int .u32 0, .int .u32 0, .int .u32 0, .int .u32 0, .int .u32 0, .int .u32 0, .int .u32 0, .int .u32 0, .int .u32 0, .int .u32 0, .int .u32 0, .int .u32 0, .int .u32 0, .int .u32 0, .int .u32 0, .int .u32 0, .int .u32 0, .int .u32 0, .int .u32 0, .int .u32 0, .int .u32 0, .int .u32 0, .int .u32 0, .int .u32 0, .int .u32 0, .int .u32 0, .int .u32 0, .int .u32 0, .int .u32 0, .int .u32 0, .int .u32 0] 27)) (.cells #[.int .u32 0, .int .u32 0, .int .u32 0, .int .u32 0, .int .u32 0, .int .u32 0, .int .u32 0, .int .u32 0, .int .u32 0, .int .u32 0, .int .u32 0, .int .u32 0, .int .u32 0, .int .u32 0, .int .u32 0, .int .u32 0, .int .u32 0, .int .u32 0, .int .u32 0, .int .u32 0, .int .u32 0, .int .u32 0, .int .u32 0, .int .u32 0, .int .u32 0, .int .u32 0, .int .u32 0, .int .u32 0, .int .u32 0, .int .u32 0, .int .u32 0, .int .u32 0] 27)
  have hX := blk_new (w.alloc (.cells #[.int .u32 0, .int .u32 0, .int .u32 0, .int .u32 0, .int .u32 0, .int .u32 0, .int .u32 0, .int .u32 0, .int .u32 0, .int .u32 0, .int .u32 0, .int .u32 0, .int .u32 0, .int .u32 0, .int .u32 0, .int .u32 0, .int .u32 0, .int .u32 0, .int .u32 0, .int .u32 0, .int .u32 0, .int .u32 0, .int .u32 0, .int .u32 0, .int .u32 0, .int .u32 0, .int .u32 0, .int .u32 0, .int .u32 0, .int .u32 0, .int .u32 0, .int .u32 0] 27)) (.cells #[.int .u32 0, .int .u32 0, .int .u32 0, .int .u32 0, .int .u32 0, .int .u32 0, .int .u32 0, .int .u32 0, .int .u32 0, .int .u32 0, .int .u32 0, .int .u32 0, .int .u32 0, .int .u32 0, .int .u32 0, .int .u32 0, .int .u32 0, .int .u32 0, .int .u32 0, .int .u32 0, .int .u32 0, .int .u32 0, .int .u32 0, .int .u32 0, .int .u32 0, .int .u32 0, .int .u32 0, .int .u32 0, .int .u32 0, .int .u32 0, .int .u32 0, .int .u32 0] 27)
  rw [hs1] at hX
  obtain ⟨vL, vG, m, hI⟩ := h.out
  have hI2 := hI.below b2
  have hSG := OwnN.toSl encG hI.2.2.2.1 0
  obtain ⟨A, c, rfl, p1, p2, p3⟩ := hSG.open_
  obtain ⟨c0, c1, c2, c3⟩ := four_cells hI2.1
  have hs2 : w.heap.size + 2 = ((w.alloc (.cells #[.int .u32 0, .int .u32 0, .int .u32 0, .int .u32 0, .int .u32 0, .int .u32 0, .int .u32 0, .int .u32 0, .int .u32 0, .int .u32 0, .int .u32 0, .int .u32 0, .int .u32 0, .int .u32 0, .int .u32 0, .int .u32 0, .int .u32 0, .int .u32 0, .int .u32 0, .int .u32 0, .int .u32 0, .int .u32 0, .int .u32 0, .int .u32 0, .int .u32 0, .int .u32 0, .int .u32 0, .int .u32 0, .int .u32 0, .int .u32 0, .int .u32 0, .int .u32 0] 27)).alloc (.cells #[.int .u32 0, .int .u32 0, .int .u32 0, .int .u32 0, .int .u32 0, .int .u32 0, .int .u32 0, .int .u32 0, .int .u32 0, .int .u32 0, .int .u32 0, .int .u32 0, .int .u32 0, .int .u32 0, .int .u32 0, .int .u32 0, .int .u32 0, .int .u32 0, .int .u32 0, .int .u32 0, .int .u32 0, .int .u32 0, .int .u32 0, .int .u32 0, .int .u32 0, .int .u32 0, .int .u32 0, .int .u32 0, .int .u32 0, .int .u32 0, .int .u32 0, .int .u32 0] 27)).heap.size := by simp
  have HS2 := Lib.hid hs2
  clear hI hI2 h b1 hs1 hs2
  go_enter Try.func21, Try.ntmps21
  go_wp2_with fail
  generalize hw2 : (w.alloc (.cells #[.int .u32 0, .int .u32 0, .int .u32 0, .int .u32 0, .int .u32 0, .int .u32 0, .int .u32 0, .int .u32 0, .int .u32 0, .int .u32 0, .int .u32 0, .int .u32 0, .int .u32 0, .int .u32 0, .int .u32 0, .int .u32 0, .int .u32 0, .int .u32 0, .int .u32 0, .int .u32 0, .int .u32 0, .int .u32 0, .int .u32 0, .int .u32 0, .int .u32 0, .int .u32 0, .int .u32 0, .int .u32 0, .int .u32 0, .int .u32 0, .int .u32 0, .int .u32 0] 27)).alloc (.cells #[.int .u32 0, .int .u32 0, .int .u32 0, .int .u32 0, .int .u32 0, .int .u32 0, .int .u32 0, .int .u32 0, .int .u32 0, .int .u32 0, .int .u32 0, .int .u32 0, .int .u32 0, .int .u32 0, .int .u32 0, .int .u32 0, .int .u32 0, .int .u32 0, .int .u32 0, .int .u32 0, .int .u32 0, .int .u32 0, .int .u32 0, .int .u32 0, .int .u32 0, .int .u32 0, .int .u32 0, .int .u32 0, .int .u32 0, .int .u32 0, .int .u32 0, .int .u32 0] 27) = w2 at *
  rw [zero_regB] at hR hX
  clear hw2 c0 c1 c2 c3
  go_loopw [6, 7, 13] (fun _ _ i wr => ∃ j : Nat, j ≤ gs.length ∧ i = .int .i64 j ∧ wr.heap[w.heap.size]? = some (.cells (regB fun _ => 0) 27 (0, 0)) ∧ wr.heap[w.heap.size + 1]? = some (.cells (regB (regsF vs (gs.take j) 2)) 27 (0, 0)) ∧ Below w.heap.size w wr ∧ w.heap.size + 2 ≤ wr.heap.size) (fun _ _ i _ => gs.length - (intOf i).toNat)
  case atStart => exact ⟨0, Nat.zero_le _, rfl, hR, hX, b2, Nat.le_of_eq HS2.out⟩
  case round =>
    clear hR hX b2
    obtain ⟨j, hj, rfl, hR, hX, hb, hsz⟩ := hrel
    by_cases hlt : j < gs.length
    · have hlt' : (j : Int) < gs.length := by omega
      have hSGr := hSG.below hb
      obtain ⟨bb, off, rfl, hat, hbl⟩ := hSGr.at_ hlt
      have hok := hG.all j gs[j] (by simp [hlt])
      have hft := fun r => regsF_take vs hlt r
      generalize gs[j] = g at hat hok hft
      obtain ⟨kd, a, b⟩ := g
      have d0 : wr.cell? ⟨bb, off + j * 3, none⟩ = some (.int .i64 kd) := hat 0 _ rfl
      have d1 : wr.cell? ⟨bb, off + j * 3 + 1, none⟩ = some (.int .i64 a) := hat 1 _ rfl
      have d2 : wr.cell? ⟨bb, off + j * 3 + 2, none⟩ = some (.int .i64 b) := hat 2 _ rfl
      have bg := (Below.refl wr.heap.size wr).alloc (Nat.le_refl _) (.cells #[.int .i64 kd, .int .i64 a, .int .i64 b] 74)
      obtain ⟨z0, z1, z2⟩ := three_cells (blk_new wr (.cells #[.int .i64 kd, .int .i64 a, .int .i64 b] 74))
      have hRg := blk_below hR bg
      have hXg := blk_below hX bg
      have hbg := below_then hb bg
      have hsg : w.heap.size + 2 ≤ (wr.alloc (.cells #[.int .i64 kd, .int .i64 a, .int .i64 b] 74)).heap.size := Nat.le_trans hsz bg.size
      have hws : wrap64 ((j : Int) + 2) = (j : Int) + 2 := by unfold wrap64; omega
      have hC := so_any B vs ((j : Int) + 2) (by omega) (by omega) hvl v _ (hv.below hbg)
      dsimp only at hft
      have hylt := regsF_lt hG vs j
      generalize regsF vs (gs.take j) 2 = y at hX hXg hft hylt
      have hno : ¬ (kd = 0 ∧ so vs ((j : Int) + 2) = true) → regsF vs (gs.take (j + 1)) 2 = y := fun hn => by
        funext r
        rw [hft r, if_neg (fun e => hn ⟨e.1, e.2.2⟩), Nat.or_zero]
      clear hat hSGr hR hX hb bg hsz
      by_cases hk0 : kd = 0
      · subst hk0
        rcases hok with ⟨h0, h1, h2, h3, h4⟩ | ⟨hk, _, _⟩
        · dsimp only at h0 h1 h2 h3 h4
          obtain ⟨an, rfl⟩ : ∃ n : Nat, a = n := ⟨a.toNat, by omega⟩
          obtain ⟨bn, rfl⟩ : ∃ n : Nat, b = n := ⟨b.toNat, by omega⟩
          cases hs : so vs ((j : Int) + 2) with
          | false =>
            have hn := hno (fun e => by rw [hs] at e; cases e.2)
            have HN := Lib.hid hn
            rw [hs] at hC
            clear hno hft hn hs
            go_wp2_with fail
            refine hC.mono ?_
            rintro r w9 ⟨rfl, rfl⟩
            clear hC
            go_wp2_with fail
            go_roundw
            case rel => exact ⟨j + 1, by omega, by go_num, hRg, by rw [HN.out]; exact hXg, hbg, hsg⟩
            case measure => simp [intOf]; omega
          | true =>
            have hyes : regsF vs (gs.take (j + 1)) 2 = fun r => if r = an then y an ||| 2 ^ bn else y r := by
              funext r
              rw [hft r]
              by_cases e : r = an
              · subst e
                rw [if_pos ⟨rfl, rfl, hs⟩, if_pos rfl]
                simp
              · rw [if_neg (fun h => e (by have := h.2.1; omega)), if_neg e, Nat.or_zero]
            have HN := Lib.hid hyes
            have hrx := regB_cell hXg (r := an) (by omega)
            have hrf := frozen_of hXg an
            have hlan : (an : Int) < 32 := h2
            rw [hs] at hC
            clear hno hft hyes hs
            go_wp2_with fail
            refine hC.mono ?_
            rintro r w9 ⟨rfl, rfl⟩
            clear hC
            go_wp2_with fail
            generalize (wr.alloc (.cells #[.int .i64 ((0 : Nat) : Int), .int .i64 an, .int .i64 bn] 74)) = wg at *
            have hor := or_shl (hylt an) (show bn < 32 by omega)
            clear hylt
            go_region
            all_goals (
              have hX1 := blk_set hXg an (.int .u32 ((y an ||| 2 ^ bn : Nat) : Int))
              rw [regB_set] at hX1
              have ks := qset wg (w.heap.size + 1) an (.int .u32 ((y an ||| 2 ^ bn : Nat) : Int))
              have hR1 := ks.blk (show w.heap.size ≠ w.heap.size + 1 by omega) hRg
              have hb1 : Below w.heap.size w (wg.setCell ⟨w.heap.size + 1, an, none⟩ (.int .u32 ((y an ||| 2 ^ bn : Nat) : Int))) := hbg.setCell (by show _ ≤ w.heap.size + 1; omega) _
              have hs1 := Nat.le_trans hsg ks.size
              clear hXg hRg hbg hsg hrx hrf hor z0 z1 z2 ks
              generalize wg.setCell ⟨w.heap.size + 1, an, none⟩ (.int .u32 ((y an ||| 2 ^ bn : Nat) : Int)) = w8 at *
              have bd : Below w8.heap.size w8 w8.drew := below_drewN (Below.refl _ _) 1
              have hX2 := blk_below hX1 bd
              have hR2 := blk_below hR1 bd
              have hb2 := below_then hb1 bd
              have hs2 : w.heap.size + 2 ≤ w8.drew.heap.size := hs1
              clear hX1 hR1 hb1 hs1 bd
              go_wp2_with fail
              go_roundw
              case rel => exact ⟨j + 1, by omega, by go_num, hR2, by rw [HN.out]; exact hX2, hb2, hs2⟩
              case measure => simp [intOf]; omega)
        · dsimp only at hk; omega
      · have hn := hno (fun e => hk0 e.1)
        have HN := Lib.hid hn
        have hkb : (((kd : Nat) : Int) == 0) = false := by rw [beq_eq_false_iff_ne]; omega
        clear hno hft hn
        go_wp2_with fail
        go_roundw
        case rel => exact ⟨j + 1, by omega, by go_num, hRg, by rw [HN.out]; exact hXg, hbg, hsg⟩
        case measure => simp [intOf]; omega
    · have hlt' : ¬ (j : Int) < gs.length := by omega
      obtain rfl : j = gs.length := by omega
      rw [List.take_length] at hX
      have hX : wr.heap[w.heap.size + 1]? = some (.cells (regB (regsOf vs gs)) 27 (0, 0)) := hX
      go_wp2_with (first | (refine wpList_load_row rfl 27 (.tmp 5) rfl (w.heap.size + 1) rfl 27 (regB (regsOf vs gs)) (0, 0) _ hX Try.underlying27 rfl (by rw [regB_size]; exact info_regs) ?_) | (refine wpList_store_row rfl 27 (.tmp 4) (.tmp 37) rfl w.heap.size (regB (regsOf vs gs)) rfl rfl 27 _ hR (by rw [regB_size]; exact info_regs) (by rw [regB_size, regB_size]) (regB_one _) ?_) | fail)
      exact bodyPost_ret (v := .agg (regB (regsOf vs gs))) (results_cell_row rfl _ _ w.heap.size 27 (regB (regsOf vs gs)) (0, 0) _ rfl (setRow_heap _ _ _ _ _ _ hR) Try.underlying27 rfl (by rw [regB_size]; exact info_regs)) rfl ⟨rfl, below_row hb (Nat.le_refl _) _⟩
end Go.Proofs.Ytgnahjadjgjecaa
set_option linter.unusedVariables false
set_option linter.unusedSimpArgs false
namespace Go.Proofs.Ytgnahjadjgjecaa
open Go.RowKit Go.Maps Go.MapKept

/-- Clauses, each in a row of the call's own. -/
abbrev Rows (B : Nat) : Rep (List (List Int)) := Own B 23 (Own B 3 I64)
theorem stable_rowO (B : Nat) : Stable B [3] (Own B 3 I64) := fun w w' v c hq h => h.move (stable_i64 _ _) hq (by simp)
theorem own_oneCell {B e : Nat} {w : World} {u : Value} {x : List Int} (h : Own B e I64 w u x) : u.oneCell' = true := by
  obtain ⟨A, c, rfl, _⟩ := (h.toSl 0).open_
  rfl
set_option maxRecDepth 100000 in
set_option maxHeartbeats 4000000 in
theorem cnf_any (K : Nat → Prop) (q : Nat) (gs : List Gate) (cs : List (List Int)) (hcl : cs.length ≤ 1000000) (hll : ∀ c ∈ cs, c.length < 1000000) (w : World) (h : QAt K w q gs cs) :
    Calls Try.prog 18 #[.pointer (some ⟨q, 0, none⟩)] w fun r w' => ∃ v, r = .returned (.agg #[.int .i64 ((gs.length : Int) + 1), v]) ∧ Rows w.heap.size w' v cs ∧ Below w.heap.size w w' := by
  have b1 := (Below.refl w.heap.size w).alloc (Nat.le_refl _) (.cells #[.int .i64 0, .slice none 0 0] 46)
  have b2 := b1.alloc (by simp) (.cells #[.int .i64 ((gs.length : Int) + 1), .slice none 0 0] 46)
  have hs1 : (w.alloc (.cells #[.int .i64 0, .slice none 0 0] 46)).heap.size = w.heap.size + 1 := by simp
  have hR := blk_alloc (blk_new w (.cells #[.int .i64 0, .slice none 0 0] 46)) (.cells #[.int .i64 ((gs.length : Int) + 1), .slice none 0 0] 46)
  have hX := blk_new (w.alloc (.cells #[.int .i64 0, .slice none 0 0] 46)) (.cells #[.int .i64 ((gs.length : Int) + 1), .slice none 0 0] 46)
  rw [hs1] at hX
  obtain ⟨vL, vG, m, hI⟩ := h.out
  have hIr := fun w' (hb : Below w.heap.size w w') => hI.below hb
  have hI1 := hI.below b1
  have hI2 := hI.below b2
  obtain ⟨A, cap, rfl, p1, p2, p3⟩ := (hI.2.1.toSl 0).open_
  obtain ⟨c0, c1, c2, c3⟩ := four_cells hI1.1
  obtain ⟨e0, e1, e2, e3⟩ := four_cells hI2.1
  have HIR := Lib.hid hIr
  clear hI hI1 hI2 h hIr b1 hs1
  go_enter Try.func18, Try.ntmps18
  go_wp2_with fail
  generalize hw2 : (w.alloc (.cells #[.int .i64 0, .slice none 0 0] 46)).alloc (.cells #[.int .i64 ((gs.length : Int) + 1), .slice none 0 0] 46) = w2 at *
  clear hw2 c0 c1 c2 c3 e0 e1 e2 e3
  go_loopw [5, 18] (fun _ i wr => ∃ (j : Nat) (v : Value), j ≤ cs.length ∧ i = .int .i64 j ∧ wr.heap[w.heap.size]? = some (.cells #[.int .i64 0, .slice none 0 0] 46 (0, 0)) ∧ wr.heap[w.heap.size + 1]? = some (.cells #[.int .i64 ((gs.length : Int) + 1), v] 46 (0, 0)) ∧ Rows w.heap.size wr v (cs.take j) ∧ Below w.heap.size w wr) (fun _ i _ => cs.length - (intOf i).toNat)
  case atStart => exact ⟨0, _, Nat.zero_le _, rfl, hR, hX, Own.nil _ _ _ _, b2⟩
  case round =>
    clear hR hX b2
    obtain ⟨j, v, hj, rfl, hR, hX, ho, hb⟩ := hrel
    by_cases hlt : j < cs.length
    · have hlt' : (j : Int) < cs.length := by omega
      obtain ⟨bb, off, u, rfl, hc, hu⟩ := ((HIR.out wr hb).2.1.toSl 0).at_ hlt []
      have hmem := hll _ (getD_mem hlt [])
      have htk : cs.take (j + 1) = cs.take j ++ [cs.getD j []] := by rw [List.take_succ_eq_append_getElem hlt]; simp [List.getD, hlt]
      have HTK := Lib.hid htk
      have hlen : (cs.take j).length = j := by rw [List.length_take]; omega
      have bd : Below wr.heap.size wr wr.drew := below_drewN (Below.refl _ _) 1
      have hud := ((hu.1.toSl 0).later bd)
      have hC := iclone_any 0 _ u (cs.getD j []) hmem wr.drew hud
      have hRd := blk_below hR bd
      have hXd := blk_below hX bd
      have hod : Rows w.heap.size wr.drew v (cs.take j) := ho.blocks (fun g hg => rfl) (fun u x hx => hx.blocks (fun _ _ => rfl) (fun _ _ h => h))
      have hbd := below_then hb bd
      generalize cs.getD j [] = c at *
      generalize cs.take j = L at *
      obtain ⟨A5, c5, rfl, s1, s2, s3⟩ := (ho.toSl 0).open_
      rw [hlen] at hod hXd
      have hlen2 : (L ++ [c]).length = j + 1 := by rw [List.length_append, hlen]; rfl
      have dX := cell_of hXd 1
      simp only [List.getElem?_toArray, List.getElem?_cons_zero, List.getElem?_cons_succ] at dX
      clear htk hu hud hR hX ho hb
      go_wp2_with fail
      go_region_law (first
        | (refine step_pushB (w0 := w) (W := w1) w.heap.size (by rfl) (.tmp 23) (.tmp 26) 44 23 _ 24 (by rfl) Try.underlying44 infoB_row (by rfl) (by decide) [3] ho1 (stable_rowO _) (by decide) hu1 (by rfl) (by rfl) (own_oneCell hu1) hb1 hb1.size (by omega) ?_; intro v5 w5 ho5 hB5 hg5 hn5; have hX5 := ho1.other hg5 hX1 (by simp); have f1 := cell_of hX5 1; simp only [List.getElem?_toArray, List.getElem?_cons_zero, List.getElem?_cons_succ] at f1; have f2 := frozen_of hX5 1; obtain ⟨Av, cv, hv5, _, _, _⟩ := (ho5.toSl 0).open_; rw [hlen2] at hv5; subst hv5)
        | (go_simp; go_at_call 28; refine hC.mono ?_; rintro r w1 ⟨u1, rfl, hu1', bk⟩; have hX1 := blk_below hXd bk; have hR1 := blk_below hRd bk; have ho1 := hod.blocks (R' := Own w.heap.size 3 I64) (fun g hg => bk.block g (hod.own_lt hg).2) (fun u x hx => hx.blocks (fun g hg => bk.block g (hx.own_lt hg).2) (fun _ _ h => h)); have hb1 := below_then hbd bk; have hu1 : Own w.heap.size 3 I64 w1 u1 c := hu1'.lower hbd.size; have g1 := cell_of hX1 1; simp only [List.getElem?_toArray, List.getElem?_cons_zero, List.getElem?_cons_succ] at g1; obtain ⟨Au, cu, rfl, _, _, _⟩ := (hu1.toSl 0).open_; have g2 := cell_alloc0 g1 (.cells #[.slice Au c.length cu] 23)))
      all_goals (
        have hR5 := ho1.other hg5 hR1 (by simp)
        have ks := qset w5 (w.heap.size + 1) 1 (.slice Av (j + 1) cv)
        have hX6 := blk_set hX5 1 (.slice Av (j + 1) cv)
        have hR6 := ks.blk (show w.heap.size ≠ w.heap.size + 1 by omega) hR5
        have hb6 : Below w.heap.size w (w5.setCell ⟨w.heap.size + 1, 1, none⟩ (.slice Av (j + 1) cv)) := hB5.setCell (by show _ ≤ w.heap.size + 1; omega) _
        have ho6 : Rows w.heap.size (w5.setCell ⟨w.heap.size + 1, 1, none⟩ (.slice Av (j + 1) cv)) (.slice Av (j + 1) cv) (L ++ [c]) := ho5.blocks (fun g hg => by
          obtain ⟨_, cur, hc⟩ := ho5.typed hg
          exact ks.block g (Array.getElem?_eq_some_iff.1 hc).1 (type_ne hc hX5 (by decide))) (fun u x hx => hx.blocks (fun g hg => by
          obtain ⟨_, cur, hc⟩ := hx.typed hg
          exact ks.block g (Array.getElem?_eq_some_iff.1 hc).1 (type_ne hc hX5 (by decide))) (fun _ _ h => h))
        rw [← HTK.out] at ho6
        clear hC hRd hXd hod hbd dX bd ho1 hX1 hR1 hb1 hu1 hu1' g1 g2 bk f1 f2 ho5 hB5 hg5 hn5 hX5 hR5 ks hc
        go_wp2_with fail
        generalize w5.setCell ⟨w.heap.size + 1, 1, none⟩ (.slice Av (j + 1) cv) = w6 at *
        go_roundw
        case rel => exact ⟨j + 1, _, by omega, by go_num, hR6, hX6, ho6, hb6⟩
        case measure => simp [intOf]; omega)
    · have hlt' : ¬ (j : Int) < cs.length := by omega
      obtain rfl : j = cs.length := by omega
      rw [List.take_length] at ho
      obtain ⟨A9, c9, rfl, _, _, _⟩ := (ho.toSl 0).open_
      obtain ⟨x0, x1⟩ : wr.cell? ⟨w.heap.size + 1, 0, none⟩ = some (.int .i64 ((gs.length : Int) + 1)) ∧ wr.cell? ⟨w.heap.size + 1, 1, none⟩ = some (.slice A9 cs.length c9) := ⟨(cell_of hX 0).trans rfl, (cell_of hX 1).trans rfl⟩
      obtain ⟨y0, y1⟩ : wr.cell? ⟨w.heap.size, 0, none⟩ = some (.int .i64 0) ∧ wr.cell? ⟨w.heap.size, 1, none⟩ = some (.slice none 0 0) := ⟨(cell_of hR 0).trans rfl, (cell_of hR 1).trans rfl⟩
      have f0 := frozen_of hR 0
      have f1 := frozen_of hR 1
      have hR2 := blk_set (blk_set hR 0 (.int .i64 ((gs.length : Int) + 1))) 1 (.slice A9 cs.length c9)
      have ks := (qset wr w.heap.size 0 (.int .i64 ((gs.length : Int) + 1))).trans (qset (wr.setCell ⟨w.heap.size, 0, none⟩ (.int .i64 ((gs.length : Int) + 1))) w.heap.size 1 (.slice A9 cs.length c9))
      have ho2 : Rows w.heap.size ((wr.setCell ⟨w.heap.size, 0, none⟩ (.int .i64 ((gs.length : Int) + 1))).setCell ⟨w.heap.size, 1, none⟩ (.slice A9 cs.length c9)) (.slice A9 cs.length c9) cs := ho.blocks (fun g hg => by
          obtain ⟨_, cur, hc⟩ := ho.typed hg
          exact ks.block g (Array.getElem?_eq_some_iff.1 hc).1 (type_ne hc hR (by decide))) (fun u x hx => hx.blocks (fun g hg => by
          obtain ⟨_, cur, hc⟩ := hx.typed hg
          exact ks.block g (Array.getElem?_eq_some_iff.1 hc).1 (type_ne hc hR (by decide))) (fun _ _ h => h))
      have hb2 : Below w.heap.size w ((wr.setCell ⟨w.heap.size, 0, none⟩ (.int .i64 ((gs.length : Int) + 1))).setCell ⟨w.heap.size, 1, none⟩ (.slice A9 cs.length c9)) := (hb.setCell (Nat.le_refl _) _).setCell (Nat.le_refl _) _
      go_wp2_with fail
      exact bodyPost_ret (v := .agg #[.int .i64 ((gs.length : Int) + 1), .slice A9 cs.length c9]) (results_cell_row rfl _ _ w.heap.size 46 #[.int .i64 ((gs.length : Int) + 1), .slice A9 cs.length c9] (0, 0) _ rfl hR2 Try.underlying46 rfl (by kernel_rfl)) rfl ⟨_, rfl, ho2, hb2⟩
end Go.Proofs.Ytgnahjadjgjecaa
set_option linter.unusedVariables false
set_option linter.unusedSimpArgs false
namespace Go.Proofs.Ytgnahjadjgjecaa
open Go.RowKit

def litB (a : List Bool) (x : Int) : Bool :=
  if 1 ≤ x ∧ x ≤ a.length then a.getD (x - 1).toNat false
  else if 1 ≤ -x ∧ -x ≤ a.length then !(a.getD (-x - 1).toNat false)
  else decide (x < 0) && !(x == -9223372036854775808)
def clauseB (a : List Bool) (l : List Int) : Bool := l.any (litB a)
theorem clauseB_cons (a : List Bool) (x : Int) (l : List Int) : clauseB a (x :: l) = (litB a x || clauseB a l) := rfl
theorem litB_so {a : List Bool} {x : Int} (h : Lit a.length x) : litB a x = so a x := by
  obtain ⟨h1, h2⟩ := h
  unfold litB so
  by_cases h0 : x < 0
  · rw [if_neg (by omega), if_pos (by omega), if_pos h0, show (-x - 1).toNat = x.natAbs - 1 by omega]
  · rw [if_pos (by omega), if_neg h0, show (x - 1).toNat = x.natAbs - 1 by omega]
theorem clauseB_so {a : List Bool} {l : List Int} (h : ∀ x, x ∈ l → Lit a.length x) : clauseB a l = clauseT a l := by
  unfold clauseB clauseT
  rw [Bool.eq_iff_iff, List.any_eq_true, List.any_eq_true]
  constructor
  · rintro ⟨x, h1, h2⟩; exact ⟨x, h1, by rw [← litB_so (h x h1)]; exact h2⟩
  · rintro ⟨x, h1, h2⟩; exact ⟨x, h1, by rw [litB_so (h x h1)]; exact h2⟩
set_option maxRecDepth 100000 in
theorem rlit_any (b0 : Nat) (a : List Bool) (x : Int) (va : Value) (w : World) (ha : Sl b0 4 Bit w va a) (h1 : -9223372036854775808 ≤ x) (h2 : x ≤ 9223372036854775807) (hlen : a.length ≤ 1000000) :
    Calls Try.prog 57 #[.int .i64 x, va] w fun e w' => e = .returned (.bool (litB a x)) ∧ ∃ m, w' = w.drewN m := by
  obtain ⟨A, c, rfl, hlc, hcm, _⟩ := ha.open_
  clear hlc hcm
  go_enter Try.func57, Try.ntmps57
  go_wp2
  go_loopw [5] (fun i wr => ∃ k : Nat, k ≤ a.length ∧ i = .int .i64 ((k : Int) + 1) ∧ (∀ j : Nat, j < k → x ≠ (j : Int) + 1 ∧ x ≠ -((j : Int) + 1)) ∧ ∃ m, wr = w.drewN m) (fun i _ => a.length + 1 - (intOf i).toNat)
  case atStart => exact ⟨0, Nat.zero_le _, rfl, fun j hj => by omega, 0, rfl⟩
  case round =>
    obtain ⟨k, hk, rfl, H, mm, hmm⟩ := hrel
    have ha3 : Sl b0 4 Bit wr (.slice A a.length c) a := by rw [hmm]; exact (Sl.stable (T := [4]) (stable_bit _ _) (by decide)) _ _ _ _ (Quiet.below (below_drewN (Below.refl _ _) mm)) ha
    have HM := Lib.hid hmm
    clear hmm
    replace H := Lib.hid H
    by_cases hlt : k < a.length
    · obtain ⟨b, off, u, rfl, hc, hu⟩ := ha3.at_ hlt false
      obtain rfl := hu
      have hk2 : k + 1 ≤ a.length := hlt
      go_wp2
      · have e : (x == (k : Int) + 1) = true := by assumption
        have e2 : x = (k : Int) + 1 := by simpa using e
        go_ret
        refine ⟨ret_val (congrArg Value.bool ?_), mm, HM.out⟩
        unfold litB
        rw [if_pos (by omega), e2, show ((k : Int) + 1 - 1).toNat = k by omega]
        simp [List.getD, hlt]
      · have e : (x == -((k : Int) + 1)) = true := by assumption
        have e2 : x = -((k : Int) + 1) := by simpa using e
        go_ret
        refine ⟨ret_val (congrArg Value.bool ?_), mm, HM.out⟩
        unfold litB
        rw [if_neg (by omega), if_pos (by omega), e2, show (-(-((k : Int) + 1)) - 1).toNat = k by omega]
        simp [List.getD, hlt]
      · have e : (x == (k : Int) + 1) = false := by assumption
        have e2 : (x == -((k : Int) + 1)) = false := by assumption
        have R : ∀ j : Nat, j < k + 1 → x ≠ (j : Int) + 1 ∧ x ≠ -((j : Int) + 1) := fun j hj => by
          by_cases h : j = k
          · subst h
            exact ⟨by simpa using e, by simpa using e2⟩
          · exact H.out j (by omega)
        go_roundw
        case rel => exact ⟨k + 1, by omega, by go_num, R, mm, HM.out⟩
        case measure => simp [intOf]; omega
    · have hkk : k = a.length := by omega
      have hno : ¬ (1 ≤ x ∧ x ≤ a.length) := fun ⟨p, q⟩ => by
        have := (H.out (x - 1).toNat (by omega)).1
        omega
      have hno2 : ¬ (1 ≤ -x ∧ -x ≤ a.length) := fun ⟨p, q⟩ => by
        have := (H.out (-x - 1).toNat (by omega)).2
        omega
      have R := Lib.hid (show litB a x = (decide (x < 0) && !(x == -9223372036854775808)) by unfold litB; rw [if_neg hno, if_neg hno2])
      clear hno hno2 hkk
      go_wp2
      · have h3 : x < 0 := by assumption
        go_ret
        refine ⟨ret_val (congrArg Value.bool ?_), mm, HM.out⟩
        rw [R.out, Bool.eq_iff_iff]
        simp only [decide_eq_true_eq, Bool.and_eq_true, Bool.not_eq_true', beq_eq_false_iff_ne]
        unfold wrap64
        omega
      · have h3 : 0 ≤ x := by assumption
        go_ret
        refine ⟨ret_val (congrArg Value.bool ?_), mm, HM.out⟩
        rw [R.out, decide_eq_false (by omega)]
        rfl

abbrev BitsR (b : Nat) : Rep (List Bool) := Sl b 4 Bit
theorem bitsR_below {b : Nat} {w w' : World} {v : Value} {l : List Bool} (h : BitsR b w v l) (hb : Below w.heap.size w w') : BitsR b w' v l := (Sl.stable (T := [4]) (stable_bit _ _) (by decide)) _ _ _ _ (Quiet.below hb) h
abbrev RowR (b : Nat) : Rep (List Int) := Sl b 3 I64
theorem rowR_drewN {b : Nat} {w : World} {v : Value} {l : List Int} (h : RowR b w v l) (n : Nat) : RowR b (w.drewN n) v l := Sl.stable (stable_i64 _ _) (T := [3]) (by simp) _ _ _ _ (Quiet.below (below_drewN (Below.refl _ _) n)) h
set_option maxRecDepth 100000 in
theorem rclause_any (b0 b1 : Nat) (l : List Int) (a : List Bool) (vl va : Value) (w : World) (hl : RowR b1 w vl l) (ha : BitsR b0 w va a) (hlen : a.length ≤ 1000000) :
    Calls Try.prog 37 #[vl, va] w fun e w' => e = .returned (.bool (clauseB a l)) ∧ ∃ m, w' = w.drewN m := by
  obtain ⟨A, c, rfl, hlc, hcm, _⟩ := hl.open_
  have hla : l.length ≤ 9223372036854775807 := by unfold maxLen at hcm; omega
  clear hlc hcm
  go_enter Try.func37, Try.ntmps37
  go_wp2
  go_loopw [5] (fun i wr => ∃ k : Nat, k ≤ l.length ∧ i = .int .i64 k ∧ Hid (clauseB a (l.drop k) = clauseB a l) ∧ ∃ m, wr = w.drewN m) (fun i _ => l.length - (intOf i).toNat)
  case atStart => exact ⟨0, Nat.zero_le _, rfl, Lib.hid (by simp), 0, rfl⟩
  case round =>
    obtain ⟨k, hk, rfl, H, mm, hmm⟩ := hrel
    have hl3 : RowR b1 wr (.slice A l.length c) l := by rw [hmm]; exact rowR_drewN hl mm
    have ha3 : BitsR b0 wr va a := by rw [hmm]; exact bitsR_below ha (below_drewN (Below.refl _ _) mm)
    have HM := Lib.hid hmm
    clear hmm
    by_cases hlt : k < l.length
    · obtain ⟨b, off, u, rfl, hc, rfl, hx1, hx2⟩ := hl3.at_ hlt 0
      have HD := Lib.hid (drop_cons hlt 0)
      generalize l.getD k 0 = x at hc HD hx1 hx2
      have hN := fun n => Calls.quiet_of (n := n) (rlit_any _ a x va (wr.drewN n) (bitsR_below ha3 (below_drewN (Below.refl _ _) n)) hx1 hx2 hlen)
      go_wp2_with (go_at_call 57; refine (hN 0).mono ?_; rintro e w' ⟨rfl, m2, rfl⟩)
      · have h : litB a x = true := by assumption
        go_ret
        refine ⟨ret_val (congrArg Value.bool ?_), _, by rw [HM.out]; exact World.drewN_drewN _ _ _⟩
        rw [← H.out, HD.out, clauseB_cons, h]
        rfl
      · have h : litB a x = false := by assumption
        have R := Lib.hid (show clauseB a (l.drop (k + 1)) = clauseB a l by rw [← H.out, HD.out, clauseB_cons, h]; rfl)
        go_roundw
        case rel => exact ⟨k + 1, by omega, by go_num, R, _, by rw [HM.out]; exact World.drewN_drewN _ _ _⟩
        case measure => simp [intOf]; omega
    · go_wp2
      go_ret
      refine ⟨ret_val (congrArg Value.bool ?_), mm, HM.out⟩
      rw [← H.out, List.drop_eq_nil_of_le (by omega)]
      rfl
end Go.Proofs.Ytgnahjadjgjecaa
set_option linter.unusedVariables false
set_option linter.unusedSimpArgs false
namespace Go.Proofs.Ytgnahjadjgjecaa
open Go.RowKit

theorem Rows.later {B : Nat} {w w' : World} {v : Value} {cs : List (List Int)} (h : Rows B w v cs) (hb : Below w.heap.size w w') : Rows B w' v cs :=
  Own.blocks h (fun g hg => hb.block g (Own.own_lt h hg).2) (fun u x hx => Own.blocks hx (fun g hg => hb.block g (Own.own_lt hx hg).2) (fun _ _ h => h))
set_option maxRecDepth 100000 in
set_option maxHeartbeats 2000000 in
theorem rtrue_any (B b0 : Nat) (n : Int) (cs : List (List Int)) (a : List Bool) (v va : Value) (hal : a.length ≤ 1000000) (w : World) (hv : Rows B w v cs) (ha : BitsR b0 w va a) :
    Calls Try.prog 20 #[.agg #[.int .i64 n, v], va] w fun r w' => r = .returned (.bool (cs.all (clauseB a))) ∧ Below w.heap.size w w' := by
  have b1 := (Below.refl w.heap.size w).alloc (Nat.le_refl _) (.cells #[.int .i64 n, v] 46)
  have hX := blk_new w (.cells #[.int .i64 n, v] 46)
  obtain ⟨A, c, rfl, p1, p2, p3⟩ := (Own.toSl hv 0).open_
  have q1 : cs.length ≤ 9223372036854775807 := by unfold maxLen at p2; omega
  go_enter Try.func20, Try.ntmps20
  go_wp2_with fail
  go_loopw [5] (fun i wr => ∃ j : Nat, j ≤ cs.length ∧ i = .int .i64 j ∧ wr.heap[w.heap.size]? = some (.cells #[.int .i64 n, .slice A cs.length c] 46 (0, 0)) ∧ (∀ x, x ∈ cs.take j → clauseB a x = true) ∧ Below w.heap.size w wr) (fun i _ => cs.length - (intOf i).toNat)
  case atStart => exact ⟨0, Nat.zero_le _, rfl, hX, fun x hx => by simp at hx, b1⟩
  case round =>
    clear hX b1
    obtain ⟨j, hj, rfl, hX, hall, hb⟩ := hrel
    obtain ⟨d0, d1⟩ : wr.cell? ⟨w.heap.size, 0, none⟩ = some (.int .i64 n) ∧ wr.cell? ⟨w.heap.size, 1, none⟩ = some (.slice A cs.length c) := ⟨(cell_of hX 0).trans rfl, (cell_of hX 1).trans rfl⟩
    by_cases hlt : j < cs.length
    · have hlt' : (j : Int) < cs.length := by omega
      obtain ⟨bb, off, u, rfl, hc, hu⟩ := (Own.toSl (Rows.later hv hb) 0).at_ hlt []
      have hC := rclause_any b0 0 (cs.getD j []) a u va wr (Own.toSl hu 0) (bitsR_below ha hb) hal
      have htk : cs.take (j + 1) = cs.take j ++ [cs.getD j []] := by rw [List.take_succ_eq_append_getElem hlt]; simp [List.getD, hlt]
      cases hcl : clauseB a (cs.getD j []) with
      | true =>
        have hall2 : ∀ x, x ∈ cs.take (j + 1) → clauseB a x = true := fun x hx => by
          rw [htk] at hx
          rcases List.mem_append.1 hx with hx | hx
          · exact hall x hx
          · rw [List.mem_singleton.1 hx]; exact hcl
        rw [hcl] at hC
        clear htk hall hu
        generalize cs.getD j [] = row at *
        go_wp2_with fail
        refine hC.mono ?_
        rintro r w1 ⟨rfl, mm, rfl⟩
        have bm : Below wr.heap.size wr (wr.drewN mm) := below_drewN (Below.refl _ _) mm
        have hX1 := blk_below hX bm
        have hb1 := below_then hb bm
        clear hC d0 d1 hX hb
        go_wp2_with fail
        go_roundw
        case rel => exact ⟨j + 1, by omega, by go_num, hX1, hall2, hb1⟩
        case measure => simp [intOf]; omega
      | false =>
        have hno : cs.all (clauseB a) = false := by
          rw [List.all_eq_false]
          exact ⟨cs.getD j [], getD_mem hlt [], by rw [hcl]; decide⟩
        have HN := Lib.hid hno
        rw [hcl] at hC
        clear htk hno hu
        generalize cs.getD j [] = row at *
        go_wp2_with fail
        refine hC.mono ?_
        rintro r w1 ⟨rfl, mm, rfl⟩
        go_wp2_with fail
        go_ret
        exact ⟨by rw [HN.out]; rfl, below_then hb (below_drewN (Below.refl _ _) mm)⟩
    · have hlt' : ¬ (j : Int) < cs.length := by omega
      obtain rfl : j = cs.length := by omega
      rw [List.take_length] at hall
      have HN := Lib.hid (show cs.all (clauseB a) = true by rw [List.all_eq_true]; exact hall)
      go_wp2_with fail
      go_ret
      exact ⟨by rw [HN.out]; rfl, hb⟩
set_option maxRecDepth 100000 in
set_option maxHeartbeats 2000000 in
theorem rcheck_ok (B : Nat) (n : Nat) (hn : n ≤ 1000000) (cs : List (List Int)) (hcl : cs.length ≤ 1000000) (hgood : ∀ c, c ∈ cs → ∀ x, x ∈ c → Lit n x) (v : Value) (w : World) (hv : Rows B w v cs) :
    Calls Try.prog 19 #[.agg #[.int .i64 n, v]] w fun r w' => r = .returned (.int .i64 0) ∧ Below w.heap.size w w' := by
  have b1 := (Below.refl w.heap.size w).alloc (Nat.le_refl _) (.cells #[.int .i64 n, v] 46)
  have hX := blk_new w (.cells #[.int .i64 n, v] 46)
  obtain ⟨A, c, rfl, p1, p2, p3⟩ := (Own.toSl hv 0).open_
  obtain ⟨d0, d1⟩ : (w.alloc (.cells #[.int .i64 n, .slice A cs.length c] 46)).cell? ⟨w.heap.size, 0, none⟩ = some (.int .i64 n) ∧ (w.alloc (.cells #[.int .i64 n, .slice A cs.length c] 46)).cell? ⟨w.heap.size, 1, none⟩ = some (.slice A cs.length c) := ⟨(cell_of hX 0).trans rfl, (cell_of hX 1).trans rfl⟩
  have h1 : (decide ((1048576 : Int) < (n : Int))) = false := by simp; omega
  have h2 : (decide ((1048576 : Int) < (cs.length : Int))) = false := by simp; omega
  have h3 : wrap64 (-(n : Int)) = -(n : Int) := by unfold wrap64; omega
  go_enter Try.func19, Try.ntmps19
  go_wp2_with fail
  clear d0 d1
  go_loopw [3, 4, 5] (fun i _ _ wr => ∃ j : Nat, j ≤ cs.length ∧ i = .int .i64 j ∧ wr = w.alloc (.cells #[.int .i64 n, .slice A cs.length c] 46)) (fun i _ _ _ => cs.length - (intOf i).toNat)
  case atStart => exact ⟨0, Nat.zero_le _, rfl, by first | rfl | trivial⟩
  case round =>
    obtain ⟨j, hj, rfl, hwr⟩ := hrel
    rw [← hwr] at hX b1
    have hv1 := Rows.later hv b1
    have HWR := Lib.hid hwr
    obtain ⟨d0, d1⟩ : wr.cell? ⟨w.heap.size, 0, none⟩ = some (.int .i64 n) ∧ wr.cell? ⟨w.heap.size, 1, none⟩ = some (.slice A cs.length c) := ⟨(cell_of hX 0).trans rfl, (cell_of hX 1).trans rfl⟩
    clear hwr hX
    by_cases hlt : j < cs.length
    · have hlt' : (j : Int) < cs.length := by omega
      obtain ⟨bb, off, u, rfl, hc, hu⟩ := (Own.toSl hv1 0).at_ hlt []
      have hg := hgood _ (getD_mem hlt [])
      have hsl := Own.toSl hu 0
      generalize cs.getD j [] = row at hg hu hsl
      obtain ⟨A2, c2, rfl, r1, r2, r3⟩ := hsl.open_
      have r4 : row.length ≤ 9223372036854775807 := by unfold maxLen at r2; omega
      clear hu
      go_wp2_with fail
      obtain ⟨wo, rfl⟩ : ∃ wo, wo = wr := ⟨_, rfl⟩
      go_loopw [4, 5] (fun i _ wr => ∃ k : Nat, k ≤ row.length ∧ i = .int .i64 k ∧ wr = wo) (fun i _ _ => row.length - (intOf i).toNat)
      case atStart => exact ⟨0, Nat.zero_le _, rfl, by first | rfl | trivial⟩
      case round =>
        obtain ⟨k, hk, rfl, rfl⟩ := hrel
        by_cases hkl : k < row.length
        · have hkl' : (k : Int) < row.length := by omega
          obtain ⟨b3, o3, u3, rfl, hc3, rfl, _, _⟩ := hsl.at_ hkl 0
          have hx := hg _ (getD_mem hkl 0)
          generalize row.getD k 0 = x at hc3 hx
          obtain ⟨x1, x2⟩ := hx
          have y1 : (x == 0) = false := by rw [beq_eq_false_iff_ne]; omega
          have y2 : (decide ((n : Int) < x)) = false := by simp; omega
          have y3 : (decide (x < -(n : Int))) = false := by simp; omega
          go_wp2_with fail
          go_roundw
          case rel => exact ⟨k + 1, by omega, by go_num, by first | rfl | trivial⟩
          case measure => simp [intOf]; omega
        · have hkl' : ¬ (k : Int) < row.length := by omega
          obtain rfl : k = row.length := by omega
          go_wp2_with fail
          go_roundw
          case rel => exact ⟨j + 1, by omega, by go_num, HWR.out⟩
          case measure => simp [intOf]; omega
    · have hlt' : ¬ (j : Int) < cs.length := by omega
      go_wp2_with fail
      go_ret
      exact ⟨rfl, b1⟩
end Go.Proofs.Ytgnahjadjgjecaa
