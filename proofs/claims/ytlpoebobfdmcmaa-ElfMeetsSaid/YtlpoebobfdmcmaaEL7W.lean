/- The law ElfMeets. -/
import Derived.Test.YtlpoebobfdmcmaaEFixW
import Derived.Test.YtlpoebobfdmcmaaELawB
set_option linter.unusedVariables false
set_option linter.unusedSimpArgs false
namespace Go.Proofs.Ytlpoebobfdmcmaa
open Go.RowKit
theorem ok_mk' {g : Seg} (h1 : 1 ≤ g.size) (h2 : g.size ≤ 16777216) (h3 : (g.data.size : Int) ≤ g.size) (h4 : 0 ≤ g.flags) (h5 : g.flags ≤ 7) (h6 : (g.addr : Int) + g.size ≤ 4294967296) : okSeg g = true := by
  simp only [okSeg, ok1, ok2, Bool.and_eq_true, decide_eq_true_eq]
  omega
theorem i64_and16 (n : Int) : bits .and .i64 n 65535 = n % 65536 := by
  have hm : (BitVec.ofInt 64 65535).toNat = 2 ^ 16 - 1 := by decide
  have key : (BitVec.ofInt 64 n &&& BitVec.ofInt 64 65535).toNat = (n % ((2 ^ 64 : Nat) : Int)).toNat % 2 ^ 16 := by
    rw [BitVec.toNat_and, BitVec.toNat_ofInt, hm, Nat.and_two_pow_sub_one_eq_mod]
  show IntKind.i64.wrap ((BitVec.ofInt 64 n &&& BitVec.ofInt 64 65535).toNat : Nat) = n % 65536
  rw [key, IntKind.wrap_i64]
  omega
/-- A literal of two segments without data. -/
theorem lit2 {B : Nat} {W : World} {g p q k l : Nat} (h : W.heap[g]? = some (.cells #[.int .u32 (p : Int), .string ⟨#[]⟩, .int .i64 (1 + (k : Int)), .int .i64 0, .int .u32 (q : Int), .string ⟨#[]⟩, .int .i64 (1 + (l : Int)), .int .i64 0] 36 (0, 0))) (hp : p < 4294967296) (hq : q < 4294967296) (hk : k < 65536) (hl : l < 65536) :
    Segs B W (.slice (some ⟨g, 0, none⟩) 2 2) [⟨p, ⟨#[]⟩, 1 + (k : Int), 0⟩, ⟨q, ⟨#[]⟩, 1 + (l : Int), 0⟩] := by
  refine ⟨some ⟨g, 0, none⟩, 2, rfl, Nat.le_refl _, by decide, (fun h => by cases h), ?_, fun _ => ⟨g, 0, rfl, (Array.getElem?_eq_some_iff.1 h).1, Or.inr ⟨_, _, h⟩, ?_⟩⟩
  · intro x hx
    simp only [List.mem_cons, List.not_mem_nil, or_false] at hx
    rcases hx with rfl | rfl
    · exact ⟨hp, Nat.zero_le _, by dsimp only; omega, by dsimp only; omega, by dsimp only; omega, by dsimp only; omega⟩
    · exact ⟨hq, Nat.zero_le _, by dsimp only; omega, by dsimp only; omega, by dsimp only; omega, by dsimp only; omega⟩
  · intro j x hj
    match j, hj with
    | 0, hj =>
      simp only [List.getElem?_cons_zero, Option.some.injEq] at hj
      subst hj
      exact ⟨(cell_of h 0).trans rfl, (cell_of h 1).trans rfl, (cell_of h 2).trans rfl, (cell_of h 3).trans rfl⟩
    | 1, hj =>
      simp only [List.getElem?_cons_zero, List.getElem?_cons_succ, Option.some.injEq] at hj
      subst hj
      exact ⟨(cell_of h 4).trans rfl, (cell_of h 5).trans rfl, (cell_of h 6).trans rfl, (cell_of h 7).trans rfl⟩
    | j + 2, hj => simp at hj
theorem chk_two {p q k l : Nat} (hp : p < 2147483648) (hq : q < 4294967296) (hk : k < 65536) (hl : l < 65536) (hq2 : q + (1 + l) ≤ 4294967296) :
    chk [⟨p, ⟨#[]⟩, 1 + (k : Int), 0⟩, ⟨q, ⟨#[]⟩, 1 + (l : Int), 0⟩] = if q + (1 + l) ≤ p ∨ p + (1 + k) ≤ q then 0 else 63 := by
  unfold chk
  rw [if_neg (by simp), if_pos (by
    simp only [List.all_cons, List.all_nil, Bool.and_true, Bool.and_eq_true]
    exact ⟨ok_mk' (by dsimp only; omega) (by dsimp only; omega) (by dsimp only; show ((0 : Nat) : Int) ≤ _; omega) (by dsimp only; omega) (by dsimp only; omega) (by dsimp only; omega), ok_mk' (by dsimp only; omega) (by dsimp only; omega) (by dsimp only; show ((0 : Nat) : Int) ≤ _; omega) (by dsimp only; omega) (by dsimp only; omega) (by dsimp only; omega)⟩)]
  have e : pairs [] [⟨p, ⟨#[]⟩, 1 + (k : Int), 0⟩, ⟨q, ⟨#[]⟩, 1 + (l : Int), 0⟩] = decide (q + (1 + l) ≤ p ∨ p + (1 + k) ≤ q) := by
    simp only [pairs, List.all_nil, List.nil_append, List.all_cons, Bool.and_true, Bool.true_and, apart]
    rw [Bool.eq_iff_iff]
    simp only [Bool.or_eq_true, decide_eq_true_eq]
    omega
  rw [e]
  by_cases h : q + (1 + l) ≤ p ∨ p + (1 + k) ≤ q
  · rw [if_pos h, if_pos (decide_eq_true h)]
  · rw [if_neg h, if_neg (by simp only [decide_eq_true_eq]; exact h)]
theorem u32_and31 (a : Nat) (ha : a < 4294967296) : bits .and .u32 (a : Int) 2147483647 = ((a % 2147483648 : Nat) : Int) := by
  have h := bits_mask .u32 32 (by decide) (fun n h0 h1 => by rw [IntKind.wrap_u32]; omega) 31 (by decide) (a : Int) (by omega) (by omega)
  exact h.trans (by simp)
set_option maxRecDepth 100000 in
set_option maxHeartbeats 800000 in
theorem law7_any (a b : Nat) (n m : Int) (w : World) (ha : a < 4294967296) (hb : b < 4294967296) (hn : -9223372036854775808 ≤ n ∧ n ≤ 9223372036854775807) (hm : -9223372036854775808 ≤ m ∧ m ≤ 9223372036854775807) :
    Calls Try.prog 9 #[.int .u32 a, .int .u32 b, .agg #[.int .i64 n, .int .i64 m]] w fun r w' => r = .returned (.bool true) ∧ Below w.heap.size w w' := by
  obtain ⟨p, hp⟩ : ∃ p, p = a % 2147483648 := ⟨_, rfl⟩
  obtain ⟨q, hq⟩ : ∃ q, q = b % 2147483648 := ⟨_, rfl⟩
  obtain ⟨k, hk⟩ : ∃ k, k = (n % 65536).toNat := ⟨_, rfl⟩
  obtain ⟨l, hl⟩ : ∃ l, l = (m % 65536).toNat := ⟨_, rfl⟩
  have bk : bits .and .i64 n 65535 = (k : Int) := by rw [i64_and16, hk]; omega
  have bl : bits .and .i64 m 65535 = (l : Int) := by rw [i64_and16, hl]; omega
  have ba : bits .and .u32 (a : Int) 2147483647 = (p : Int) := by rw [u32_and31 a ha, hp]
  have bb : bits .and .u32 (b : Int) 2147483647 = (q : Int) := by rw [u32_and31 b hb, hq]
  have lk : k < 65536 := by omega
  have ll : l < 65536 := by omega
  have lp : p < 2147483648 := by omega
  have lq : q < 2147483648 := by omega
  clear hp hq hk hl
  have hb0 := (Below.refl w.heap.size w).alloc (Nat.le_refl _) (.cells #[.int .i64 n, .int .i64 m] 43)
  have hbx := blk_new w (.cells #[.int .i64 n, .int .i64 m] 43)
  replace hbx : (w.alloc (.cells #[.int .i64 n, .int .i64 m] 43)).drew.heap[w.heap.size]? = some (.cells #[.int .i64 n, .int .i64 m] 43 (0, 0)) := hbx
  have c0 := (cell_of hbx 0).trans (show _ = some (Value.int .i64 n) from rfl)
  have c1 := (cell_of hbx 1).trans (show _ = some (Value.int .i64 m) from rfl)
  go_enter Try.func9, Try.ntmps9
  go_wp2_with fail
  go_region_held3 (fun w' => w'.cell? ⟨w.heap.size, 0, none⟩ = some (.int .i64 n) ∧ w'.cell? ⟨w.heap.size, 1, none⟩ = some (.int .i64 m)) (first | go_keep | exact ⟨c0, c1⟩) (fail)
  go_wp2_with fail
  all_goals
    have w1e : ((((((w.alloc (.cells #[.int .i64 n, .int .i64 m] 43)).alloc (.cells #[.int .u32 p, .string ⟨#[]⟩, .int .i64 (1 + (k : Int)), .int .i64 0, .int .u32 q, .string ⟨#[]⟩, .int .i64 (1 + (l : Int)), .int .i64 0] 36)).alloc (.cells #[.int .u32 0, .int .u32 0, .slice (some ⟨w.heap.size + 1, 0, none⟩) 2 2] 25)).alloc (.cells #[.int .u32 p, .string ⟨#[]⟩, .int .i64 (1 + (k : Int)), .int .i64 0, .int .u32 (p + (1 + (k : Int))), .string ⟨#[]⟩, .int .i64 (1 + (l : Int)), .int .i64 0] 36)).alloc (.cells #[.int .u32 0, .int .u32 0, .slice (some ⟨w.heap.size + 1 + 1 + 1, 0, none⟩) 2 2] 25)).drew).heap[w.heap.size + 1]? = some (.cells #[.int .u32 p, .string ⟨#[]⟩, .int .i64 (1 + (k : Int)), .int .i64 0, .int .u32 q, .string ⟨#[]⟩, .int .i64 (1 + (l : Int)), .int .i64 0] 36 (0, 0)) := blk_alloc (blk_alloc (blk_alloc (blk_top (by simp)) _) _) _
    have w3e : ((((((w.alloc (.cells #[.int .i64 n, .int .i64 m] 43)).alloc (.cells #[.int .u32 p, .string ⟨#[]⟩, .int .i64 (1 + (k : Int)), .int .i64 0, .int .u32 q, .string ⟨#[]⟩, .int .i64 (1 + (l : Int)), .int .i64 0] 36)).alloc (.cells #[.int .u32 0, .int .u32 0, .slice (some ⟨w.heap.size + 1, 0, none⟩) 2 2] 25)).alloc (.cells #[.int .u32 p, .string ⟨#[]⟩, .int .i64 (1 + (k : Int)), .int .i64 0, .int .u32 (p + (1 + (k : Int))), .string ⟨#[]⟩, .int .i64 (1 + (l : Int)), .int .i64 0] 36)).alloc (.cells #[.int .u32 0, .int .u32 0, .slice (some ⟨w.heap.size + 1 + 1 + 1, 0, none⟩) 2 2] 25)).drew).heap[w.heap.size + 1 + 1 + 1]? = some (.cells #[.int .u32 p, .string ⟨#[]⟩, .int .i64 (1 + (k : Int)), .int .i64 0, .int .u32 ((p + (1 + k) : Nat) : Int), .string ⟨#[]⟩, .int .i64 (1 + (l : Int)), .int .i64 0] 36 (0, 0)) := blk_alloc (blk_top (by simp)) _
    have w4e : ((((((w.alloc (.cells #[.int .i64 n, .int .i64 m] 43)).alloc (.cells #[.int .u32 p, .string ⟨#[]⟩, .int .i64 (1 + (k : Int)), .int .i64 0, .int .u32 q, .string ⟨#[]⟩, .int .i64 (1 + (l : Int)), .int .i64 0] 36)).alloc (.cells #[.int .u32 0, .int .u32 0, .slice (some ⟨w.heap.size + 1, 0, none⟩) 2 2] 25)).alloc (.cells #[.int .u32 p, .string ⟨#[]⟩, .int .i64 (1 + (k : Int)), .int .i64 0, .int .u32 (p + (1 + (k : Int))), .string ⟨#[]⟩, .int .i64 (1 + (l : Int)), .int .i64 0] 36)).alloc (.cells #[.int .u32 0, .int .u32 0, .slice (some ⟨w.heap.size + 1 + 1 + 1, 0, none⟩) 2 2] 25)).drew).heap[w.heap.size + 1 + 1 + 1 + 1]? = some (.cells #[.int .u32 0, .int .u32 0, .slice (some ⟨w.heap.size + 1 + 1 + 1, 0, none⟩) 2 2] 25 (0, 0)) := blk_top (by simp)
    have hbw : Below w.heap.size w (((((w.alloc (.cells #[.int .i64 n, .int .i64 m] 43)).alloc (.cells #[.int .u32 p, .string ⟨#[]⟩, .int .i64 (1 + (k : Int)), .int .i64 0, .int .u32 q, .string ⟨#[]⟩, .int .i64 (1 + (l : Int)), .int .i64 0] 36)).alloc (.cells #[.int .u32 0, .int .u32 0, .slice (some ⟨w.heap.size + 1, 0, none⟩) 2 2] 25)).alloc (.cells #[.int .u32 p, .string ⟨#[]⟩, .int .i64 (1 + (k : Int)), .int .i64 0, .int .u32 (p + (1 + (k : Int))), .string ⟨#[]⟩, .int .i64 (1 + (l : Int)), .int .i64 0] 36)).alloc (.cells #[.int .u32 0, .int .u32 0, .slice (some ⟨w.heap.size + 1 + 1 + 1, 0, none⟩) 2 2] 25)).drew := (below_alloc1 (below_alloc1 (below_alloc1 (below_alloc1 (below_alloc1 (Below.refl _ _) _) _) _) _) _).drew
    have hx := lit2 (B := 0) w1e (by omega) (by omega) lk ll
    have hy := lit2 (B := 0) w3e (by omega) (by omega) lk ll
    have hcx := chk_two lp (show q < 4294967296 by omega) lk ll (by omega)
    have hcy := chk_two lp (show p + (1 + k) < 4294967296 by omega) lk ll (by omega)
    rw [if_pos (Or.inr (Nat.le_refl _))] at hcy
    have hwant : (p + (1 + k) ≤ q ∨ q + (1 + l) ≤ p) ∨ ¬ (p + (1 + k) ≤ q ∨ q + (1 + l) ≤ p) := Classical.em _
    refine (check_any 0 0 0 _ _ _ hx (by simp)).mono ?_
    rw [hcx]
    rintro r wa ⟨rfl, hba⟩
    have y4 := blk_below w4e hba
    obtain ⟨g0, g1, g2⟩ := three y4
    replace hbw := hbw.trans (hba.mono hbw.size)
    first
      | (rw [if_pos (by omega)])
      | (rw [if_neg (by omega)])
    go_wp2_with fail
    refine (check_any 0 0 0 _ _ _ (hy.below hba) (by simp)).mono ?_
    rw [hcy]
    rintro r wb ⟨rfl, hbb⟩
    replace hbw := hbw.trans (hbb.mono hbw.size)
    go_wp2_with fail
    refine (fixed_any _).mono ?_
    rintro r wc ⟨rfl, hbc⟩
    replace hbw := hbw.trans (hbc.mono hbw.size)
    go_wp2_with fail
    go_ret
    exact ⟨rfl, hbw⟩
end Go.Proofs.Ytlpoebobfdmcmaa
