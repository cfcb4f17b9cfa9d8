/- The reference of simp: Op, its cases joined. -/
/- The reference of simp: all, All. -/
import Derived.Test.YtaiggfknighhgaaGreatDoorGOpB
import Derived.Test.YtaiggfknighhgaaGreatDoorGOpC
import Derived.Test.YtaiggfknighhgaaGreatDoorGOpD
import Derived.Test.YtaiggfknighhgaaGreatDoorGOpE
import Derived.Test.YtaiggfknighhgaaGreatDoorGOpF
import Derived.Test.YtaiggfknighhgaaGreatDoorGOpG
import Derived.Test.YtaiggfknighhgaaGreatDoorTDepth
set_option linter.unusedVariables false
set_option linter.unusedSimpArgs false
namespace Go.Proofs.YtaiggfknighhgaaGreatDoor
open Go.RowKit Go.Maps Go.MapKept

theorem isC_k {ts : List Term} {x : Nat} {b : Bool} (h : isC ts x = b) : ((((ts.getD x default).k : Nat) : Int) == 0) = b := by
  unfold isC at h
  rw [← h]
  generalize (ts.getD x default).k = q
  rw [Bool.eq_iff_iff, decide_eq_true_eq, beq_iff_eq]
  omega
theorem isC_kn {ts : List Term} {x : Nat} {b : Bool} (h : isC ts x = b) : ((((ts.getD x default).k : Nat) : Int) != 0) = !b := by
  rw [bne, isC_k h]
theorem op28 (op : Nat) : ((op : Int) == 28) = decide (op = 28) := by
  rw [Bool.eq_iff_iff, decide_eq_true_eq, beq_iff_eq]
  omega
set_option maxHeartbeats 1000000 in
theorem rmade_step (f : Nat) (hM : RMadeSpec f) : RMadeSpec (f + 1) := by
  intro k vl ts op x y w h hG ho hx hy hm hl
  have hnx := next_ok hG ho hx hy
  have e1 : madeF (f + 1) ts op x y = (next ts op x y).fin (madeF f) := rfl
  rw [e1]
  clear e1
  have t28 : turns 28 = false := by decide
  revert hnx
  unfold next
  by_cases c1 : isC ts x = true ∧ isC ts y = true
  · rw [if_pos c1]
    intro hnx
    exact rop_A f hM k vl ts op x y w h hG ho hx hy hl _ _ rfl rfl (isC_k c1.1) (isC_k c1.2) (hG.wd_lt hx) (hG.wd_lt hy)
  rw [if_neg c1]
  by_cases c2 : turns op = true ∧ ((isC ts x = true ∧ isC ts y = false) ∨ (isC ts x = false ∧ isC ts y = false ∧ y < x))
  · rw [if_pos c2]
    intro hnx
    have hW : Went ts op x y ts op y x := hnx
    have hl2 := hW.less
    obtain ⟨ht, ⟨hc1, hc2⟩ | ⟨hc1, hc2, hlt⟩⟩ := c2
    · exact rop_B1 f hM k vl ts op x y w h hG ho hx hy hl _ _ rfl rfl (isC_k hc1) (isC_kn hc2) (isC_k hc2) ht (by omega)
    · exact rop_B2 f hM k vl ts op x y w h hG ho hx hy hl _ _ rfl rfl (isC_k hc1) (by omega) (isC_kn hc2) (isC_k hc2) ht (by omega)
  rw [if_neg c2]
  by_cases c3 : op = 28 ∧ isC ts y = true
  · rw [if_pos c3]
    intro hnx
    have hcx : isC ts x = false := by
      cases e : isC ts x with
      | false => rfl
      | true => exact absurd ⟨e, c3.2⟩ c1
    exact rop_C f hM k vl ts op x y w h hG ho hx hy hl _ _ rfl rfl (isC_k hcx) (isC_k c3.2) (isC_kn c3.2) (by rw [c3.1]; exact t28) (by rw [op28, c3.1]; rfl) hnx hm
  rw [if_neg c3]
  cases hcy : isC ts y with
  | true =>
    have hcx : isC ts x = false := by
      cases e : isC ts x with
      | false => rfl
      | true => exact absurd ⟨e, hcy⟩ c1
    have hop : op ≠ 28 := fun e => c3 ⟨e, hcy⟩
    have n28 : ((op : Int) == 28) = false := by rw [op28]; simpa using hop
    have hxy : x ≠ y := by rintro rfl; rw [hcx] at hcy; cases hcy
    have hne : ((x : Int) == y) = false := by simp; omega
    have hok := byN_ok hG ho hx hy hcx hcy
    have hokP : ∀ nx, plainN ts op x y (wd ts y) = some nx → nx.ok ts op x y := fun nx hn => hok nx (byN_plain hn)
    rw [if_pos rfl]
    cases hn : plainN ts op x y (wd ts y) with
    | some nx =>
      rw [byN_plain hn]
      intro _
      cases ht : turns op with
      | true => exact rop_D1t f hM k vl ts op x y w h hG ho hx hy hl _ _ rfl rfl (isC_k hcx) (isC_k hcy) (isC_kn hcy) ht n28 (hG.wd_lt hy) hm hokP nx hn
      | false => exact rop_D1f f hM k vl ts op x y w h hG ho hx hy hl _ _ rfl rfl (isC_k hcx) (isC_k hcy) (isC_kn hcy) ht n28 (hG.wd_lt hy) hm hokP nx hn
    | none =>
      have eD := byN_deep hn
      rw [eD]
      have hokD : ∀ nx, deepN ts op x (wd ts y) = some nx → nx.ok ts op x y := fun nx hn2 => hok nx (by rw [eD]; exact hn2)
      cases hn2 : deepN ts op x (wd ts y) with
      | some nx =>
        intro _
        cases ht : turns op with
        | true => exact rop_D2t f hM k vl ts op x y w h hG ho hx hy hl _ _ rfl rfl (isC_k hcx) (isC_k hcy) (isC_kn hcy) ht n28 (hG.wd_lt hy) hm hokP hokD hn nx hn2
        | false => exact rop_D2f f hM k vl ts op x y w h hG ho hx hy hl _ _ rfl rfl (isC_k hcx) (isC_k hcy) (isC_kn hcy) ht n28 (hG.wd_lt hy) hm hokP hokD hn nx hn2
      | none =>
        simp only [if_neg hxy]
        intro _
        cases ht : turns op with
        | true => exact rop_Et f hM k vl ts op x y w h hG ho hx hy hl _ _ rfl rfl (isC_k hcx) (isC_k hcy) (isC_kn hcy) ht n28 (hG.wd_lt hy) hm hokP hokD hn hn2 hne
        | false => exact rop_Ef f hM k vl ts op x y w h hG ho hx hy hl _ _ rfl rfl (isC_k hcx) (isC_k hcy) (isC_kn hcy) ht n28 (hG.wd_lt hy) hm hokP hokD hn hn2 hne
  | false =>
    rw [if_neg (by decide)]
    by_cases hxy : x = y
    · simp only [if_pos hxy]
      have hcx : isC ts x = false := by rw [hxy]; exact hcy
      have hs28 : op = 28 → turns op = false := by rintro rfl; exact t28
      by_cases g1 : op = 28 ∨ op = 32 ∨ op = 30 ∨ op = 31
      · have et : twiceN ts op x = some (cst ts 0) := by unfold twiceN; rw [if_pos g1]
        rw [et]
        intro _
        have q4 : hasI (op : Int) [28, 32, 30, 31] = true := by rcases g1 with rfl | rfl | rfl | rfl <;> rfl
        by_cases hop : op = 28
        · exact rop_G1fs f hM k vl ts op x y w h hG ho hx hy hl _ _ rfl rfl (isC_k hcx) (isC_k hcy) (isC_kn hcy) (hs28 hop) (by rw [op28, hop]; rfl) q4 hxy
        · have n28 : ((op : Int) == 28) = false := by rw [op28]; simpa using hop
          cases ht : turns op with
          | true => exact rop_G1tn f hM k vl ts op x y w h hG ho hx hy hl _ _ rfl rfl (isC_k hcx) (isC_k hcy) (isC_kn hcy) ht n28 q4 hxy
          | false => exact rop_G1fn f hM k vl ts op x y w h hG ho hx hy hl _ _ rfl rfl (isC_k hcx) (isC_k hcy) (isC_kn hcy) ht n28 q4 hxy
      have q4 : hasI (op : Int) [28, 32, 30, 31] = false := by simp [hasI]; omega
      have hop : op ≠ 28 := fun e => g1 (Or.inl e)
      have n28 : ((op : Int) == 28) = false := by rw [op28]; simpa using hop
      by_cases g2 : op = 36 ∨ op = 35
      · have et : twiceN ts op x = some (.done ts x) := by unfold twiceN; rw [if_neg g1, if_pos g2]
        rw [et]
        intro _
        have q2 : hasI (op : Int) [36, 35] = true := by rcases g2 with rfl | rfl <;> rfl
        exact rop_G2tn f hM k vl ts op x y w h hG ho hx hy hl _ _ rfl rfl (isC_k hcx) (isC_k hcy) (isC_kn hcy) (by rcases g2 with rfl | rfl <;> rfl) n28 q4 q2 hxy
      have q2 : hasI (op : Int) [36, 35] = false := by simp [hasI]; omega
      by_cases g3 : op = 27
      · have et : twiceN ts op x = some (goesN ts 29 x 1) := by unfold twiceN; rw [if_neg g1, if_neg g2, if_pos g3]
        rw [et]
        intro hnx
        exact rop_G3tn f hM k vl ts op x y w h hG ho hx hy hl _ _ rfl rfl (isC_k hcx) (isC_k hcy) (isC_kn hcy) (by rw [g3]; rfl) n28 q4 q2 (by rw [g3]; rfl) hxy hnx hm
      have et : twiceN ts op x = none := by unfold twiceN; rw [if_neg g1, if_neg g2, if_neg g3]
      rw [et]
      intro _
      have q27 : ((op : Int) == 27) = false := by simp; omega
      rw [← hxy]
      cases ht : turns op with
      | true => exact rop_G4tn f hM k vl ts op x x w h hG ho hx hx hl _ _ rfl rfl (isC_k hcx) (isC_k hcx) (isC_kn hcx) ht n28 q4 q2 q27 rfl
      | false => exact rop_G4fn f hM k vl ts op x x w h hG ho hx hx hl _ _ rfl rfl (isC_k hcx) (isC_k hcx) (isC_kn hcx) ht n28 q4 q2 q27 rfl
    · simp only [if_neg hxy]
      intro _
      have hne : ((x : Int) == y) = false := by simp; omega
      cases hcx : isC ts x with
      | true =>
        have ht : turns op = false := by
          cases e : turns op with
          | false => rfl
          | true => exact absurd ⟨e, Or.inl ⟨hcx, hcy⟩⟩ c2
        by_cases hop : op = 28
        · exact rop_F1s f hM k vl ts op x y w h hG ho hx hy hl _ _ rfl rfl (isC_k hcx) (isC_k hcy) (isC_kn hcy) ht (by rw [op28, hop]; rfl) hne
        · exact rop_F1n f hM k vl ts op x y w h hG ho hx hy hl _ _ rfl rfl (isC_k hcx) (isC_k hcy) (isC_kn hcy) ht (by rw [op28]; simpa using hop) hne
      | false =>
        by_cases hop : op = 28
        · exact rop_F2s f hM k vl ts op x y w h hG ho hx hy hl _ _ rfl rfl (isC_k hcx) (isC_k hcy) (isC_kn hcy) (by rw [hop]; exact t28) (by rw [op28, hop]; rfl) hne
        · have n28 : ((op : Int) == 28) = false := by rw [op28]; simpa using hop
          cases ht : turns op with
          | false => exact rop_F2n f hM k vl ts op x y w h hG ho hx hy hl _ _ rfl rfl (isC_k hcx) (isC_k hcy) (isC_kn hcy) ht n28 hne
          | true => exact rop_F3n f hM k vl ts op x y w h hG ho hx hy hl _ _ rfl rfl (isC_k hcx) (isC_k hcy) (isC_kn hcy) ht n28 (by have : ¬ y < x := fun hlt => c2 ⟨ht, Or.inr ⟨hcx, hcy, hlt⟩⟩; simp; omega) hne
theorem rmade_any : ∀ f, RMadeSpec f
  | 0 => fun k vl ts op x y w h hG ho hx hy hm hl => by omega
  | f + 1 => rmade_step f (rmade_any f)
/-- A reckoning's term, made simple, of terms that there are. -/
theorem rmade_call (k : Nat) (vl : Value) (op x y : Nat) (ts : List Term) (hl : ts.length < 100000000000) (hx : x < ts.length) (hy : y < ts.length) (ho : (doW op 0 0).isSome = true) (hG : Good ts) (w : World) (h : RefAt w k vl ts) :
    Calls Tryz.prog 37 #[.pointer (some ⟨k, 0, none⟩), .int .i64 op, .int .i64 x, .int .i64 y] w (RPost k vl w (made ts op x y)) := by
  have hm := mz_le (op := op) (b := y) hx
  exact rmade_any (8 * ts.length + 10) k vl ts op x y w h hG ho hx hy (by omega) (by omega)
end Go.Proofs.YtaiggfknighhgaaGreatDoor
