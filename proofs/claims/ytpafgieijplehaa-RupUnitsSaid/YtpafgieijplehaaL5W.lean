/- The walk of the law RupUnits. -/
import Derived.Test.YtpafgieijplehaaL7W
import Derived.Laws.BitsLemmas
set_option linter.unusedVariables false
set_option linter.unusedSimpArgs false
namespace Go.Proofs.Ytpafgieijplehaa
open Go.RowKit

theorem and16 (x : Int) : bits BinOp.and IntKind.i64 x 65535 = x % 65536 := by
  show IntKind.i64.wrap (((BitVec.ofInt 64 x &&& BitVec.ofInt 64 65535).toNat : Nat) : Int) = x % 65536
  rw [BitVec.toNat_and, show (BitVec.ofInt 64 65535).toNat = 2 ^ 16 - 1 by decide, Nat.and_two_pow_sub_one_eq_mod, BitVec.toNat_ofInt, IntKind.wrap_i64]
  omega
theorem units_k (n : Int) : ∃ k : Nat, 2 ≤ k ∧ k ≤ 40 ∧ wrap64 (2 + (bits BinOp.and IntKind.i64 n 65535).tmod 39) = (k : Int) := by
  rw [and16, Int.tmod_eq_emod_of_nonneg (by omega)]
  refine ⟨(2 + n % 65536 % 39).toNat, by omega, by omega, ?_⟩
  unfold wrap64
  omega
theorem units_at (n : Int) {k : Nat} (hk : 2 ≤ k) : ∃ a : Nat, a < k ∧ (bits BinOp.and IntKind.i64 n 65535).tmod (k : Int) = (a : Int) := by
  rw [and16, Int.tmod_eq_emod_of_nonneg (by omega)]
  have h1 := Int.emod_nonneg (n % 65536) (b := (k : Int)) (by omega)
  have h2 := Int.emod_lt_of_pos (n % 65536) (b := (k : Int)) (by omega)
  exact ⟨(n % 65536 % (k : Int)).toNat, by omega, by omega⟩
theorem chain_succ {j : Nat} (h : 1 ≤ j) : Rup.chain (j + 1) = Rup.chain j ++ [Rup.link j] := by
  obtain ⟨i, rfl⟩ : ∃ i, j = i + 1 := ⟨j - 1, by omega⟩
  simp [Rup.chain, List.range_succ]
theorem without_snoc (xs : List (List Int)) (x : List Int) (a : Nat) : Rup.without (xs ++ [x]) a = if xs.length = a then Rup.without xs a else Rup.without xs a ++ [x] := by
  unfold Rup.without
  by_cases h : xs.length = a
  · rw [if_pos h]
    subst h
    simp
  · rw [if_neg h]
    rcases Nat.lt_or_ge a xs.length with h1 | h1
    · rw [List.take_append_of_le_length (by omega), List.drop_append_of_le_length (by omega), List.append_assoc]
    · rw [List.take_of_length_le (by simp; omega), List.drop_eq_nil_of_le (by simp; omega), List.take_of_length_le (by omega), List.drop_eq_nil_of_le (by omega)]
      simp
theorem chain_len {k : Nat} (h : 1 ≤ k) : (Rup.chain k).length = k := by simp [Rup.chain]; omega
theorem lit1 (w : World) (x : Int) (h1 : -9223372036854775808 ≤ x) (h2 : x ≤ 9223372036854775807) : Row 0 (w.alloc (.cells #[.int .i64 x] 3)) (.slice (some ⟨w.heap.size, 0, none⟩) 1 1) [x] :=
  Sl.lit (us := [_]) (blk_new _ _) rfl (by decide) ⟨i64_mk _ h1 h2, trivial⟩
theorem lit2 (w : World) (x y : Int) (h1 : -9223372036854775808 ≤ x) (h2 : x ≤ 9223372036854775807) (h3 : -9223372036854775808 ≤ y) (h4 : y ≤ 9223372036854775807) : Row 0 (w.alloc (.cells #[.int .i64 x, .int .i64 y] 3)) (.slice (some ⟨w.heap.size, 0, none⟩) 2 2) [x, y] :=
  Sl.lit (us := [_, _]) (blk_new _ _) rfl (by decide) ⟨i64_mk _ h1 h2, i64_mk _ h3 h4, trivial⟩

set_option maxRecDepth 100000 in
set_option maxHeartbeats 800000 in
theorem law5_any (n cut : Int) (w : World) :
    Calls Try.prog 7 #[.int .i64 n, .int .i64 cut] w fun e w' => e = .returned (.bool true) ∧ Below w.heap.size w w' := by
  obtain ⟨k, hk2, hk40, hkk⟩ := units_k n
  obtain ⟨at_, hat, hatk⟩ := units_at cut hk2
  have hk0 : ¬ (k : Int) = 0 := by omega
  go_enter Try.func7, Try.ntmps7
  go_wp2
  rw [hkk]
  clear hkk
  go_loopw [6, 7] (fun vl i wr => ∃ j : Nat, 1 ≤ j ∧ j ≤ k ∧ i = .int .i64 (j : Int) ∧ ∃ lf : List (List Int), Hid (lf = Rup.chain j) ∧ lf.length ≤ j ∧ j ≤ lf.length ∧ OwnGrid w.heap.size 0 wr vl lf ∧ Below w.heap.size w wr) (fun _ i _ => k - (intOf i).toNat)
  case atStart => exact ⟨1, Nat.le_refl _, by omega, rfl, [[1]], Lib.hid (by simp [Rup.chain]), by simp, by simp, Own.one (by simp) (by simp) rfl (Sl.lit (us := [_]) (blk_alloc (blk_new _ _) _) rfl (by decide) ⟨i64_mk _ (by decide) (by decide), trivial⟩), ((Below.refl _ _).alloc (Nat.le_refl _) _).alloc (by simp) _⟩
  case round =>
    obtain ⟨j, hj1, hjk, rfl, lf, HF, hlf, hlf2, ho, hb⟩ := hrel
    obtain ⟨Al, cl, rfl, _, _, _⟩ := (ho.toSl 0).open_
    have hsz := hb.size
    by_cases hlt : j < k
    · have R := Lib.hid (show lf ++ [Rup.link j] = Rup.chain (j + 1) by rw [HF.out, chain_succ hj1])
      have ho2 := ho.move (stable_row1.mono (Nat.zero_le _)) (Quiet.below ((Below.refl _ _).alloc (Nat.le_refl _) (.cells #[.int .i64 (-(j : Int)), .int .i64 ((j : Int) + 1)] 3))) (T := [3, 23]) (by decide)
      have hrow : Row 0 (wr.alloc (.cells #[.int .i64 (-(j : Int)), .int .i64 ((j : Int) + 1)] 3)) (.slice (some ⟨wr.heap.size, 0, none⟩) 2 2) (Rup.link j) := Sl.lit (us := [_, _]) (blk_new _ _) rfl (by decide) ⟨i64_mk _ (by omega) (by omega), i64_mk _ (by omega) (by omega), trivial⟩
      have hb2 := hb.alloc hsz (.cells #[.int .i64 (-(j : Int)), .int .i64 ((j : Int) + 1)] 3)
      go_wp2_with (first | (at_builtin; refine wpList_push (w0 := w) w.heap.size rfl _ _ 22 23 _ 24 rfl Try.underlying22 info_row rfl (by decide) [3] ho2 (stable_row1.mono (Nat.zero_le _)) (by decide) hrow rfl (by show Value.slice (some ⟨wr.heap.size + 1, 0, none⟩) 1 1 = _; simp) rfl hb2 hb2.size (by omega) ?_; intro v7 w7 ho7 hb7 hg7) | go_in)
      go_roundw
      case rel => exact ⟨j + 1, by omega, by omega, by go_num, _, R, by simp; omega, by simp; omega, ho7, hb7⟩
      case measure => simp [intOf] <;> omega
    · have hjk2 : j = k := by omega
      subst hjk2
      have hl3 : Grid 0 _ _ _ := ho.toSl 0
      obtain ⟨wo, rfl⟩ : ∃ wo : World, wo = wr := ⟨_, rfl⟩
      clear ho
      go_wp2
      go_loopw [9, 10] (fun vs i wr => ∃ q : Nat, q ≤ j ∧ i = .int .i64 (q : Int) ∧ ∃ ls : List (List Int), Hid (ls = Rup.without (lf.take q) at_) ∧ ls.length ≤ q ∧ OwnGrid wo.heap.size 0 wr vs ls ∧ Below wo.heap.size wo wr) (fun _ i _ => j - (intOf i).toNat)
      case atStart => exact ⟨0, Nat.zero_le _, rfl, [], Lib.hid (by simp [Rup.without]), by simp, Own.empty _ _ _ _ (Nat.le_refl _), (Below.refl _ _).alloc (Nat.le_refl _) _⟩
      case round =>
        obtain ⟨q, hq, rfl, ls, HS, hls, ho, hb3⟩ := hrel
        obtain ⟨As, cs, rfl, _, _, _⟩ := (ho.toSl 0).open_
        have hg3 := grid_below hl3 hb3
        by_cases hlt2 : q < j
        · obtain ⟨bx, off, u, rfl, hc, hi⟩ := hg3.at_ (k := q) (by omega) []
          have HT := Lib.hid (take_snoc (xs := lf) (k := q) (by omega) [])
          have hlq : q < lf.length := by omega
          by_cases hqa : q = at_
          · have R := Lib.hid (show ls = Rup.without (lf.take (q + 1)) at_ by rw [HT.out, without_snoc, if_pos (by simp; omega)]; exact HS.out)
            subst hqa
            clear HS HT
            go_wp2
            go_roundw
            case rel => exact ⟨q + 1, by omega, by go_num, _, R, by omega, ho, hb3⟩
            case measure => simp [intOf] <;> omega
          · have hne : ((q : Int) = (at_ : Int)) = False := eq_false (by omega)
            have hne2 : ((q : Int) != (at_ : Int)) = true := by simp; omega
            generalize lf.getD q [] = x at hc HT hi
            obtain ⟨Ax, cx, rfl, _, _, _⟩ := hi.open_
            have R := Lib.hid (show ls ++ [x] = Rup.without (lf.take (q + 1)) at_ by rw [HT.out, without_snoc, if_neg (by simp; omega), HS.out])
            clear HS HT
            go_wp2_with (first | (at_builtin; (refine wpList_push (w0 := wo) wo.heap.size rfl _ _ 22 23 _ 24 rfl Try.underlying22 info_row rfl (by decide) [3] ho (stable_row1.mono (Nat.zero_le _)) (by decide) hi rfl rfl rfl hb3 hb3.size (by omega) ?_); intro v7 w7 ho7 hb7 hg7) | go_in)
            go_roundw
            case rel => exact ⟨q + 1, by omega, by go_num, _, R, by simp; omega, ho7, hb7⟩
            case measure => simp [intOf] <;> omega
        · have hqj : q = j := by omega
          subst hqj
          have hgs : Grid 0 _ _ _ := ho.toSl 0
          replace hb := below_then hb hb3
          have hF1 := Lib.hid (show Rup.follows lf [(q : Int)] = true by rw [HF.out]; exact Rup.units1 hk2 hk40)
          have hF2 := Lib.hid (show Rup.follows ls [(q : Int)] = false by rw [HS.out, List.take_of_length_le (by omega), HF.out]; exact Rup.units2 hk2 hk40 hat)
          have hF3 := Lib.hid (show Rup.follows lf [(q : Int) + 1] = false by rw [HF.out]; exact Rup.units3 hk2 hk40)
          have hF4 := Lib.hid (show Rup.follows lf [(q : Int) + 1, 1] = true by rw [HF.out]; exact Rup.units4 hk2 hk40)
          have hlt3 : ¬ q < lf.length := by omega
          have hlt4 : decide ((q : Int) < (lf.length : Int)) = false := decide_eq_false (by omega)
          clear HS HF ho hb3 hl3 hq hjk hlt hlt2 hls hatk hk0 hj1 hlf hlf2 hat hsz
          go_wp2_with fail
          refine (follows_val _ _ _ _ _ _ _ (grid_alloc hg3 _) (lit1 _ _ (by omega) (by omega)) _ hF1.out).mono ?_
          rintro e w5 ⟨rfl, hb5⟩
          replace hb := below_then (below_alloc1 hb _) hb5
          replace hg3 := grid_below (grid_alloc hg3 _) hb5
          replace hgs := grid_below (grid_alloc hgs _) hb5
          clear hb5
          go_wp2_with fail
          refine (follows_val _ _ _ _ _ _ _ (grid_alloc hgs _) (lit1 _ _ (by omega) (by omega)) _ hF2.out).mono ?_
          rintro e w6 ⟨rfl, hb6⟩
          replace hb := below_then (below_alloc1 hb _) hb6
          replace hg3 := grid_below (grid_alloc hg3 _) hb6
          clear hb6 hgs
          go_wp2_with fail
          refine (follows_val _ _ _ _ _ _ _ (grid_alloc hg3 _) (lit1 _ _ (by omega) (by omega)) _ hF3.out).mono ?_
          rintro e w7 ⟨rfl, hb7⟩
          replace hb := below_then (below_alloc1 hb _) hb7
          replace hg3 := grid_below (grid_alloc hg3 _) hb7
          clear hb7
          go_wp2_with fail
          refine (follows_val _ _ _ _ _ _ _ (grid_alloc hg3 _) (lit2 _ _ _ (by omega) (by omega) (by omega) (by omega)) _ hF4.out).mono ?_
          rintro e w8 ⟨rfl, hb8⟩
          replace hb := below_then (below_alloc1 hb _) hb8
          clear hb8 hg3
          go_wp2_with fail
          refine (fixed_any _).mono ?_
          rintro e w9 ⟨rfl, hb9⟩
          replace hb := below_then hb hb9
          go_wp2
          go_ret
          exact ⟨rfl, hb⟩
end Go.Proofs.Ytpafgieijplehaa
