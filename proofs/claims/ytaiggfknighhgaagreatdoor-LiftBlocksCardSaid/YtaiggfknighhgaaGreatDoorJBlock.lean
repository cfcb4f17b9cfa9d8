/- A reference's Dag none of whose blocks is in a set. -/
/- The reference's words on instructions: Form, in, reg, span, Right, Plain; what can be lifted. -/
/- The reference's Plain. -/
/- The reference's Right. -/
/- The reference's Start, From, Block. -/
/- The reference's From, Block. -/
/- The reference's Block. -/
import Derived.Test.YtaiggfknighhgaaGreatDoorLDoes
import Derived.Test.YtaiggfknighhgaaGreatDoorGMade0
import Derived.Test.YtaiggfknighhgaaGreatDoorIStart
import Derived.Test.YtaiggfknighhgaaGreatDoorIAny
import Derived.Deep.QuietTactic
import Derived.BigQuiet
import Derived.Laws.Strings
import Derived.Test.YtaiggfknighhgaaGreatDoorIBlock
import Derived.Deep.CutRange
import Derived.Deep.RegionLaw
set_option linter.unusedVariables false
set_option linter.unusedSimpArgs false
namespace Go.Proofs.YtaiggfknighhgaaGreatDoor
open Go.RowKit Go.Maps Go.MapKept

/-- A reference's Dag at k with the terms ts; none of its blocks is in K. -/
def RefM (K : Nat → Prop) (w : World) (k : Nat) (ts : List Term) : Prop := (∀ i, K i → i < w.heap.size) ∧ ¬ K k ∧ ∃ vl, RefAt w k vl ts ∧ ∀ g, vl.ownBlock = some g → ¬ K g
section
variable {K : Nat → Prop} {w w' : World} {k : Nat} {ts : List Term} (h : RefM K w k ts)
include h
theorem RefM.in_ : ∀ i, K i → i < w.heap.size := h.1
theorem RefM.mono {K' : Nat → Prop} (hk : ∀ i, K' i → K i) : RefM K' w k ts := by
  obtain ⟨h1, h2, vl, h3, h4⟩ := h
  exact ⟨fun i hi => h1 i (hk i hi), fun hi => h2 (hk k hi), vl, h3, fun g hg hi => h4 g hg (hk g hi)⟩
theorem RefM.more (hb : Below w.heap.size w w') : RefM (More K w w') w' k ts := by
  obtain ⟨h1, h2, vl, h3, h4⟩ := h
  refine ⟨?_, ?_, vl, h3.below hb, fun g hg => ?_⟩
  · rintro i (hi | hi)
    · exact Nat.lt_of_lt_of_le (h1 i hi) hb.size
    · exact hi.2
  · rintro (hi | hi)
    · exact h2 hi
    · have := h3.klt; omega
  · rintro (hi | hi)
    · exact h4 g hg hi
    · have := h3.vlt hg; omega
theorem RefM.below (hb : Below w.heap.size w w') : RefM K w' k ts := RefM.mono (RefM.more h hb) fun i hi => Or.inl hi
theorem RefM.grow (hb : Below w.heap.size w w') : ∃ K', RefM K' w' k ts ∧ (∀ i, K i → K' i) ∧ (∀ i, w.heap.size ≤ i → i < w'.heap.size → K' i) := ⟨More K w w', RefM.more h hb, fun _ => Or.inl, fun i h1 h2 => Or.inr ⟨h1, h2⟩⟩
theorem RefM.moved {g : Nat} (hk : Kept (fun i => i ≠ g) w w') (hg : K g) : RefM K w' k ts := by
  obtain ⟨h1, h2, vl, h3, h4⟩ := h
  exact ⟨fun i hi => Nat.lt_of_lt_of_le (h1 i hi) hk.size, h2, vl, h3.kept hk (by rintro rfl; exact h2 hg) (fun q hq e => h4 q hq (by rw [e]; exact hg)), h4⟩
theorem RefM.step {f : FuncId} {a : Array Value} {r : Ending} {us : List Term} (F : ∀ vl, RefAt w k vl ts → Calls Tryz.prog f a w fun e w' => e = r ∧ RAdd w k vl us w') : Calls Tryz.prog f a w fun e w' => e = r ∧ RefM K w' k us ∧ Kept K w w' := by
  obtain ⟨h1, h2, vl, h3, h4⟩ := h
  refine (F vl h3).mono fun e w' ⟨he, hA⟩ => ⟨he, ?_, ?_⟩
  · obtain ⟨vl', g1, g2⟩ := hA.out
    refine ⟨fun i hi => Nat.lt_of_lt_of_le (h1 i hi) hA.kept.size, h2, vl', g1, fun g hg hi => ?_⟩
    rcases g2 with g2 | ⟨g', g2, g3⟩
    · exact h4 g (by rw [← g2]; exact hg) hi
    · rw [hg] at g2
      injection g2 with g2
      have := h1 g hi
      omega
  · exact hA.kept.mono fun i hi => ⟨by rintro rfl; exact h2 hi, fun e => h4 i e hi⟩
theorem rm_const (hl : ts.length < 1000000000000) (v : Nat) (hv : v < 4294967296) : Calls Tryz.prog 36 #[.pointer (some ⟨k, 0, none⟩), .int .u32 v] w fun r w' => r = .returned (.int .i64 (pos ts (constT v) : Nat)) ∧ RefM K w' k (ins ts (constT v)) ∧ Kept K w w' :=
  RefM.step h fun vl hr => rconst_any k vl ts w hr hl v hv
theorem rm_var (hl : ts.length < 1000000000000) (r : Nat) (hr : r < 32) : Calls Tryz.prog 50 #[.pointer (some ⟨k, 0, none⟩), .int .i64 r] w fun e w' => e = .returned (.tuple #[.int .i64 (pos ts (varTm' r) : Nat), .int .i64 0]) ∧ RefM K w' k (ins ts (varTm' r)) ∧ Kept K w w' :=
  RefM.step h fun vl hq => rvar_any k vl ts w hq hl r hr
theorem rm_made (op x y : Nat) (hl : ts.length < 100000000000) (hx : x < ts.length) (hy : y < ts.length) (ho : (doW op 0 0).isSome = true) (hG : Good ts) : Calls Tryz.prog 37 #[.pointer (some ⟨k, 0, none⟩), .int .i64 op, .int .i64 x, .int .i64 y] w fun e w' => e = .returned (.tuple #[.int .i64 ((made ts op x y).2 : Nat), .int .i64 0]) ∧ RefM K w' k (made ts op x y).1 ∧ Kept K w w' :=
  RefM.step h fun vl hr => rmade_call k vl op x y ts hl hx hy ho hG w hr
end
/-- The reference's blocks, seen from both. -/
theorem BothX.refm {K0 K : Nat → Prop} {vl : Value} {w : World} {d k : Nat} {ts us : List Term} (h : BothX K0 K vl w d k ts us) : RefM (fun i => i < w.heap.size ∧ i ≠ k ∧ vl.ownBlock ≠ some i) w k us :=
  ⟨fun i hi => hi.1, fun hi => hi.2.1 rfl, vl, h.ref, fun g hg hi => hi.2.2 hg⟩
theorem BothM.refm_step {K0 K : Nat → Prop} {vl : Value} {w w' : World} {d k : Nat} {ts us us' : List Term} (h : BothX K0 K vl w d k ts us) (hr : RefM (fun i => i < w.heap.size ∧ i ≠ k ∧ vl.ownBlock ≠ some i) w' k us') (hk : Kept (fun i => i < w.heap.size ∧ i ≠ k ∧ vl.ownBlock ≠ some i) w w') : BothM K0 w' d k ts us' ∧ Kept K0 w w' := by
  obtain ⟨h1, h2, vl', h3, h4⟩ := hr
  have hlt : ∀ i, K0 i → i < w.heap.size := fun i hi => h.dag.in_ i (h.sub i hi)
  have hk0 : ∀ i, K0 i → i < w.heap.size ∧ i ≠ k ∧ vl.ownBlock ≠ some i := fun i hi => ⟨hlt i hi, by rintro rfl; exact h.nk hi, fun e => h.nv i e hi⟩
  have hnot : ∀ g, vl'.ownBlock = some g → w.heap.size ≤ g ∨ g = k ∨ vl.ownBlock = some g := fun g hg => by
    have := h4 g hg
    by_cases a : w.heap.size ≤ g
    · exact Or.inl a
    · by_cases b : g = k
      · exact Or.inr (Or.inl b)
      · by_cases c : vl.ownBlock = some g
        · exact Or.inr (Or.inr c)
        · exact absurd ⟨by omega, b, c⟩ this
  refine ⟨⟨More K w w', vl', h.dag.move hk fun i hi hn => ⟨hi, by rintro rfl; exact hn h.kk, fun e => hn (h.kv i e)⟩, h3, Or.inl h.kk, fun g hg => ?_, fun i hi => Or.inl (h.sub i hi), h.nk, fun g hg hi => ?_⟩, hk.mono hk0⟩
  · rcases hnot g hg with a | a | a
    · exact Or.inr ⟨a, h3.vlt hg⟩
    · rw [a]; exact Or.inl h.kk
    · exact Or.inl (h.kv g a)
  · rcases hnot g hg with a | a | a
    · have := hlt g hi; omega
    · rw [a] at hi; exact h.nk hi
    · exact h.nv g a hi
end Go.Proofs.YtaiggfknighhgaaGreatDoor
set_option linter.unusedVariables false
set_option linter.unusedSimpArgs false
namespace Go.Proofs.YtaiggfknighhgaaGreatDoor
open Go.RowKit

def formS : ByteArray := ⟨#[85, 85, 74, 73, 66, 66, 66, 66, 66, 66, 73, 73, 73, 73, 73, 83, 83, 83, 73, 73, 73, 73, 73, 73, 72, 72, 72, 82, 82, 82, 82, 82, 82, 82, 82, 82, 82, 82, 82, 82, 82, 82, 82, 82, 82, 69, 69]⟩
theorem formS_at : ∀ k : Nat, ∀ hk : k < 47, (formS[k]'(hk)).toNat = formL.getD k 0 := by decide
theorem formS_index (k : Nat) (hk : k < 47) (w : World) : (Instr.index 9 (.string formS) (.int .i64 (k : Int))).run Tryz.prog w = .ok (.int .u8 (formL.getD k 0 : Nat)) w := by
  rw [run_index_string w 9 formS .i64 k Tryz.underlying9, dif_pos ⟨by omega, by show (k : Int) < 47; omega⟩]
  have := formS_at k hk
  exact congrArg (fun n : Nat => Result.ok (Value.int .u8 (n : Int)) w) this
set_option maxRecDepth 100000 in
theorem rforms_any (w : World) : Calls Tryz.prog 60 #[] w fun e w' => e = .returned (.string formS) ∧ w = w' := by
  go_enter Tryz.func60, Tryz.ntmps60
  go_wp2
  go_ret
  exact ⟨rfl, rfl⟩
set_option maxRecDepth 100000 in
theorem rform_any (op : Int) (w : World) : Calls Tryz.prog 27 #[.int .i64 op] w fun e w' => e = .returned (.int .u8 (formI op : Nat)) ∧ w = w' := by
  have hK := rforms_any w
  by_cases h : op < 0 ∨ 47 ≤ op
  · rw [show formI op = 0 from if_pos h]
    by_cases h0 : op < 0
    · have e0 : (decide (op < 0)) = true := by simpa using h0
      go_enter Tryz.func27, Tryz.ntmps27
      go_wp2
      go_ret
      exact ⟨rfl, rfl⟩
    · have e0 : (decide (op < 0)) = false := by simpa using h0
      have e1 : 47 ≤ op := by omega
      have hl : (formS.size : Int) = 47 := rfl
      go_enter Tryz.func27, Tryz.ntmps27
      go_wp2_with fail
      refine hK.mono ?_
      rintro r w1 ⟨rfl, rfl⟩
      go_wp2
      go_ret
      exact ⟨rfl, rfl⟩
  · obtain ⟨k, rfl⟩ : ∃ k : Nat, op = k := ⟨op.toNat, by omega⟩
    have hx := formS_index k (by omega) w
    have hl : (formS.size : Int) = 47 := rfl
    rw [show formI k = formL.getD k 0 from if_neg h]
    generalize formL.getD k 0 = f at hx ⊢
    generalize formS = A at *
    have e0 : (decide ((k : Int) < 0)) = false := by simp
    have e1 : (decide ((47 : Int) ≤ (k : Int))) = false := by simp; omega
    clear h
    go_enter Tryz.func27, Tryz.ntmps27
    go_wp2_with fail
    refine hK.mono ?_
    rintro r w1 ⟨rfl, rfl⟩
    go_wp2_with fail
    refine hK.mono ?_
    rintro r w1 ⟨rfl, rfl⟩
    go_wp2_with fail
    go_ret
    exact ⟨rfl, rfl⟩
/-- Does a letter stand in a text? -/
def inS (c : Nat) (s : ByteArray) : Bool := s.data.toList.any fun u => u.toNat == c
theorem inS_at {c : Nat} {s : ByteArray} {j : Nat} (hj : j < s.size) (h : (s[j]).toNat = c) : inS c s = true := by
  unfold inS
  rw [List.any_eq_true]
  exact ⟨s[j], by rw [Array.mem_toList_iff]; exact Array.getElem_mem hj, by simpa using h⟩
theorem inS_none {c : Nat} {s : ByteArray} (h : ∀ j, ∀ hj : j < s.size, (s[j]).toNat ≠ c) : inS c s = false := by
  unfold inS
  rw [List.any_eq_false]
  intro u hu
  rw [Array.mem_toList_iff, Array.mem_iff_getElem] at hu
  obtain ⟨j, hj, rfl⟩ := hu
  have h1 : (s.data[j]).toNat ≠ c := h j hj
  simpa using h1
set_option maxRecDepth 100000 in
theorem rinS_any (c : Nat) (s : ByteArray) (hs : s.size ≤ 100) (w : World) : Calls Tryz.prog 59 #[.int .u8 c, .string s] w fun e w' => e = .returned (.bool (inS c s)) ∧ w' = w := by
  go_enter Tryz.func59, Tryz.ntmps59
  go_wp2_with fail
  go_loopw [5] (fun i wr => ∃ j : Nat, j ≤ s.size ∧ i = .int .i64 j ∧ (∀ k, ∀ hk : k < s.size, k < j → (s[k]).toNat ≠ c) ∧ w = wr) (fun i _ => s.size - (intOf i).toNat)
  case atStart => exact ⟨0, Nat.zero_le _, rfl, fun k _ h => absurd h (by omega), rfl⟩
  case round =>
    obtain ⟨j, hj, rfl, hno, rfl⟩ := hrel
    by_cases hlt : j < s.size
    · have hlt' : (j : Int) < (s.size : Int) := by omega
      have hx : ∀ w, (Instr.index 9 (.string s) (.int .i64 (j : Int))).run Tryz.prog w = .ok (.int .u8 ((s[j]).toNat : Nat)) w := fun w => by
        rw [run_index_string w 9 s .i64 j Tryz.underlying9, dif_pos ⟨by omega, by omega⟩]
        simp only [Int.toNat_natCast]
      have hin := inS_at (c := c) hlt
      have hmore : (s[j]).toNat ≠ c → ∀ k, ∀ hk : k < s.size, k < j + 1 → (s[k]).toNat ≠ c := fun h k hk h2 => by
        rcases Nat.lt_succ_iff_lt_or_eq.1 h2 with h3 | h3
        · exact hno k hk h3
        · subst h3; exact h
      generalize (s[j]).toNat = u at hx hin hmore
      have hx1 := hx w
      by_cases hu : u = c
      · have hI := hin hu
        have e0 : ((u : Int) == (c : Int)) = true := by rw [hu]; simp
        have HI := Lib.hid hI
        clear hu hI hin hmore hno
        go_wp2_with fail
        go_ret
        exact ⟨by rw [HI.out]; first | done | rfl, rfl⟩
      · have e0 : ((u : Int) == (c : Int)) = false := by simp; omega
        have hm := hmore hu
        clear hin hmore hno hu
        go_wp2_with fail
        go_roundw
        case rel => exact ⟨j + 1, by omega, by go_num, hm, by first | rfl | trivial⟩
        case measure => simp [intOf]; omega
    · have hlt' : ¬ (j : Int) < (s.size : Int) := by omega
      have hI : inS c s = false := inS_none fun k hk => hno k hk (by omega)
      have HI := Lib.hid hI
      clear hI hno
      go_wp2_with fail
      go_ret
      exact ⟨by rw [HI.out]; first | done | rfl, rfl⟩
theorem inS_rd : ∀ f, (f = 85 ∨ f = 74 ∨ f = 73 ∨ f = 66 ∨ f = 83 ∨ f = 72 ∨ f = 82 ∨ f = 69 ∨ f = 0) → inS f ⟨#[85, 74, 73, 72, 82]⟩ = rdB f ∧ inS f ⟨#[73, 72, 66, 83, 82]⟩ = rs1B f ∧ inS f ⟨#[66, 83, 82]⟩ = rs2B f := by
  rintro f (rfl | rfl | rfl | rfl | rfl | rfl | rfl | rfl | rfl) <;> decide
set_option maxRecDepth 100000 in
theorem rreg_any (n : Int) (is : Bool) (w : World) : Calls Tryz.prog 58 #[.int .i64 n, .bool is] w fun e w' => e = .returned (.bool (regB is n)) ∧ w' = w := by
  have e0 : (n == 0) = decide (n = 0) := beq_dec n
  by_cases h0 : n = 0
  · have hr : regB is n = true := by unfold regB; simp [h0]
    have HR := Lib.hid hr
    have e1 : (n == 0) = true := by simpa using h0
    clear hr h0 e0
    go_enter Tryz.func58, Tryz.ntmps58
    go_wp2
    go_ret
    exact ⟨by rw [HR.out]; first | done | rfl, rfl⟩
  · have e1 : (n == 0) = false := by simpa using h0
    cases is
    · have hr : regB false n = false := by unfold regB; simp [h0]
      have HR := Lib.hid hr
      clear hr h0 e0
      go_enter Tryz.func58, Tryz.ntmps58
      go_wp2
      go_ret
      exact ⟨by rw [HR.out]; first | done | rfl, rfl⟩
    · by_cases h1 : 0 < n
      · have e2 : (decide (0 < n)) = true := by simpa using h1
        by_cases h2 : n < 32
        · have e3 : (decide (n < 32)) = true := by simpa using h2
          have hr : regB true n = true := by unfold regB; simp; omega
          have HR := Lib.hid hr
          clear hr h0 e0 h1 h2
          go_enter Tryz.func58, Tryz.ntmps58
          go_wp2
          go_ret
          exact ⟨by rw [HR.out]; first | done | rfl, rfl⟩
        · have e3 : (decide (n < 32)) = false := by simpa using h2
          have hr : regB true n = false := by unfold regB; simp; omega
          have HR := Lib.hid hr
          clear hr h0 e0 h1 h2
          go_enter Tryz.func58, Tryz.ntmps58
          go_wp2
          go_ret
          exact ⟨by rw [HR.out]; first | done | rfl, rfl⟩
      · have e2 : (decide (0 < n)) = false := by simpa using h1
        have hr : regB true n = false := by unfold regB; simp; omega
        have HR := Lib.hid hr
        clear hr h0 e0 h1
        go_enter Tryz.func58, Tryz.ntmps58
        go_wp2
        go_ret
        exact ⟨by rw [HR.out]; first | done | rfl, rfl⟩
def loI (f : Nat) : Int := if f = 74 then -1048576 else if f = 73 ∨ f = 83 then -2048 else if f = 66 then -4096 else 0
def hiI (f : Nat) : Int := if f = 85 then 1048575 else if f = 74 then 1048574 else if f = 73 ∨ f = 83 then 2047 else if f = 66 then 4094 else if f = 72 then 31 else 0
def stI (f : Nat) : Int := if f = 74 ∨ f = 66 then 2 else 1
set_option maxRecDepth 100000 in
theorem rspan_any (f : Nat) (hf : f = 85 ∨ f = 74 ∨ f = 73 ∨ f = 66 ∨ f = 83 ∨ f = 72 ∨ f = 82 ∨ f = 69 ∨ f = 0) (w : World) :
    Calls Tryz.prog 57 #[.int .u8 f] w fun e w' => e = .returned (.tuple #[.int .i64 (loI f), .int .i64 (hiI f), .int .i64 (stI f)]) ∧ w = w' := by
  rcases hf with rfl | rfl | rfl | rfl | rfl | rfl | rfl | rfl | rfl
  all_goals (
    go_enter Tryz.func57, Tryz.ntmps57
    go_wp2
    go_ret3
    exact ⟨rfl, rfl⟩)
theorem tmod_two (n : Int) : (n.tmod 2 = 0) ↔ n % 2 = 0 := by
  rw [← Int.dvd_iff_tmod_eq_zero, Int.dvd_iff_emod_eq_zero]
theorem numB_is (f : Nat) (hf : f = 85 ∨ f = 74 ∨ f = 73 ∨ f = 66 ∨ f = 83 ∨ f = 72 ∨ f = 82 ∨ f = 69 ∨ f = 0) (n : Int) : numB f n = (decide (loI f ≤ n) && decide (n ≤ hiI f) && (n.tmod (stI f) == 0)) := by
  have h2 := tmod_two n
  have h1 : n.tmod 1 = 0 := Int.tmod_one n
  rcases hf with rfl | rfl | rfl | rfl | rfl | rfl | rfl | rfl | rfl
  all_goals (
    rw [Bool.eq_iff_iff]
    simp [numB, loI, hiI, stI, h1, h2]
    try omega)
end Go.Proofs.YtaiggfknighhgaaGreatDoor
set_option linter.unusedVariables false
set_option linter.unusedSimpArgs false
namespace Go.Proofs.YtaiggfknighhgaaGreatDoor
open Go.RowKit

def immL : List Nat := [27, 30, 31, 32, 35, 36, 29, 33, 34]
theorem immOp_at : ∀ j : Nat, j < 9 → immOp ((18 : Int) + j) = some (immL.getD j 0) := by decide
set_option maxRecDepth 100000 in
set_option maxHeartbeats 4000000 in
theorem rplain_any (op : Int) (w : World) : Calls Tryz.prog 25 #[.int .i64 op] w fun e w' => e = .returned (.tuple #[.int .i64 (((immOp op).getD 0 : Nat) : Int), .bool (immOp op).isSome]) ∧ Below w.heap.size w w' := by
  have b1 := (Below.refl w.heap.size w).alloc (Nat.le_refl _) (.cells #[.int .i64 18, .int .i64 19, .int .i64 20, .int .i64 21, .int .i64 22, .int .i64 23, .int .i64 24, .int .i64 25, .int .i64 26] 3)
  have b2 := b1.alloc (by simp) (.cells #[.int .i64 27, .int .i64 30, .int .i64 31, .int .i64 32, .int .i64 35, .int .i64 36, .int .i64 29, .int .i64 33, .int .i64 34] 3)
  have g1 := blk_alloc (blk_new w (.cells #[.int .i64 18, .int .i64 19, .int .i64 20, .int .i64 21, .int .i64 22, .int .i64 23, .int .i64 24, .int .i64 25, .int .i64 26] 3)) (.cells #[.int .i64 27, .int .i64 30, .int .i64 31, .int .i64 32, .int .i64 35, .int .i64 36, .int .i64 29, .int .i64 33, .int .i64 34] 3)
  have g2 := blk_new (w.alloc (.cells #[.int .i64 18, .int .i64 19, .int .i64 20, .int .i64 21, .int .i64 22, .int .i64 23, .int .i64 24, .int .i64 25, .int .i64 26] 3)) (.cells #[.int .i64 27, .int .i64 30, .int .i64 31, .int .i64 32, .int .i64 35, .int .i64 36, .int .i64 29, .int .i64 33, .int .i64 34] 3)
  rw [show (w.alloc (.cells #[.int .i64 18, .int .i64 19, .int .i64 20, .int .i64 21, .int .i64 22, .int .i64 23, .int .i64 24, .int .i64 25, .int .i64 26] 3)).heap.size = w.heap.size + 1 by simp] at g2
  have c1 : ∀ j : Nat, j < 9 → ((w.alloc (.cells #[.int .i64 18, .int .i64 19, .int .i64 20, .int .i64 21, .int .i64 22, .int .i64 23, .int .i64 24, .int .i64 25, .int .i64 26] 3)).alloc (.cells #[.int .i64 27, .int .i64 30, .int .i64 31, .int .i64 32, .int .i64 35, .int .i64 36, .int .i64 29, .int .i64 33, .int .i64 34] 3)).cell? ⟨w.heap.size, j, none⟩ = some (.int .i64 (18 + (j : Int))) := fun j hj => by
    rw [cell_of g1 j]
    have : ∀ j : Nat, j < 9 → (#[.int .i64 18, .int .i64 19, .int .i64 20, .int .i64 21, .int .i64 22, .int .i64 23, .int .i64 24, .int .i64 25, .int .i64 26] : Array Value)[j]? = some (.int .i64 (18 + (j : Int))) := by
      intro j hj
      rcases (by omega : j = 0 ∨ j = 1 ∨ j = 2 ∨ j = 3 ∨ j = 4 ∨ j = 5 ∨ j = 6 ∨ j = 7 ∨ j = 8) with rfl | rfl | rfl | rfl | rfl | rfl | rfl | rfl | rfl
      all_goals rfl
    exact this j hj
  have c2 : ∀ j : Nat, j < 9 → ((w.alloc (.cells #[.int .i64 18, .int .i64 19, .int .i64 20, .int .i64 21, .int .i64 22, .int .i64 23, .int .i64 24, .int .i64 25, .int .i64 26] 3)).alloc (.cells #[.int .i64 27, .int .i64 30, .int .i64 31, .int .i64 32, .int .i64 35, .int .i64 36, .int .i64 29, .int .i64 33, .int .i64 34] 3)).cell? ⟨w.heap.size + 1, j, none⟩ = some (.int .i64 (immL.getD j 0 : Nat)) := fun j hj => by
    rw [cell_of g2 j]
    have : ∀ j : Nat, j < 9 → (#[.int .i64 27, .int .i64 30, .int .i64 31, .int .i64 32, .int .i64 35, .int .i64 36, .int .i64 29, .int .i64 33, .int .i64 34] : Array Value)[j]? = some (.int .i64 (immL.getD j 0 : Nat)) := by
      intro j hj
      rcases (by omega : j = 0 ∨ j = 1 ∨ j = 2 ∨ j = 3 ∨ j = 4 ∨ j = 5 ∨ j = 6 ∨ j = 7 ∨ j = 8) with rfl | rfl | rfl | rfl | rfl | rfl | rfl | rfl | rfl
      all_goals rfl
    exact this j hj
  clear g1 g2 b1
  go_enter Tryz.func25, Tryz.ntmps25
  go_wp2_with fail
  generalize (w.alloc (.cells #[.int .i64 18, .int .i64 19, .int .i64 20, .int .i64 21, .int .i64 22, .int .i64 23, .int .i64 24, .int .i64 25, .int .i64 26] 3)).alloc (.cells #[.int .i64 27, .int .i64 30, .int .i64 31, .int .i64 32, .int .i64 35, .int .i64 36, .int .i64 29, .int .i64 33, .int .i64 34] 3) = wa at *
  go_loopw [6] (fun i wr => ∃ j : Nat, j ≤ 9 ∧ i = .int .i64 j ∧ (∀ k : Nat, k < j → (18 : Int) + k ≠ op) ∧ wa = wr) (fun i _ => 9 - (intOf i).toNat)
  case atStart => exact ⟨0, by omega, rfl, fun k h => absurd h (by omega), rfl⟩
  case round =>
    obtain ⟨j, hj, rfl, hno, rfl⟩ := hrel
    by_cases hlt : j < 9
    · have hlt' : (j : Int) < 9 := by omega
      have x1 := c1 j hlt
      have x2 := c2 j hlt
      by_cases he : (18 : Int) + j = op
      · have hI : immOp op = some (immL.getD j 0) := by rw [← he]; exact immOp_at j hlt
        have e0 : ((18 : Int) + (j : Int) == op) = true := by simpa using he
        have HI := Lib.hid hI
        clear he hI hno c1 c2
        generalize immL.getD j 0 = k at *
        go_wp2_with fail
        go_ret2
        exact ⟨by rw [HI.out]; rfl, b2⟩
      · have e0 : ((18 : Int) + (j : Int) == op) = false := by simpa using he
        have hm : ∀ k : Nat, k < j + 1 → (18 : Int) + k ≠ op := fun k h => by
          rcases Nat.lt_succ_iff_lt_or_eq.1 h with h2 | h2
          · exact hno k h2
          · subst h2; exact he
        clear he hno c1 c2
        go_wp2_with fail
        go_roundw
        case rel => exact ⟨j + 1, by omega, by go_num, hm, by first | rfl | trivial⟩
        case measure => simp [intOf]; omega
    · have hlt' : ¬ (j : Int) < 9 := by omega
      have hI : immOp op = none := immOp_none fun h => hno (op - 18).toNat (by omega) (by omega)
      have HI := Lib.hid hI
      clear hI hno c1 c2
      go_wp2_with fail
      go_ret2
      exact ⟨by rw [HI.out]; rfl, b2⟩
end Go.Proofs.YtaiggfknighhgaaGreatDoor
set_option linter.unusedVariables false
set_option linter.unusedSimpArgs false
namespace Go.Proofs.YtaiggfknighhgaaGreatDoor
open Go.RowKit

set_option maxRecDepth 100000 in
set_option maxHeartbeats 4000000 in
theorem rright_any (x : Ins) (w : World) : Calls Tryz.prog 26 #[.agg x.five.toArray] w fun e w' => e = .returned (.bool (rightI x)) ∧ Below w.heap.size w w' := by
  obtain ⟨op, rd, rs1, rs2, imm⟩ := x
  show Calls Tryz.prog 26 #[.agg #[.int .i64 op, .int .i64 rd, .int .i64 rs1, .int .i64 rs2, .int .i64 imm]] w _
  obtain ⟨z0, z1, z2, z3, z4⟩ := five_cells (blk_new w (.cells #[.int .i64 op, .int .i64 rd, .int .i64 rs1, .int .i64 rs2, .int .i64 imm] 31))
  have b1 := (Below.refl w.heap.size w).alloc (Nat.le_refl _) (.cells #[.int .i64 op, .int .i64 rd, .int .i64 rs1, .int .i64 rs2, .int .i64 imm] 31)
  have hF := rform_any op
  have hi := formI_is op
  unfold rightI
  dsimp only
  generalize formI op = f at hF hi ⊢
  obtain ⟨i1, i2, i3⟩ := inS_rd f hi
  have hS := rspan_any f hi
  have hI1 := rinS_any f ⟨#[85, 74, 73, 72, 82]⟩ (by decide)
  have hI2 := rinS_any f ⟨#[73, 72, 66, 83, 82]⟩ (by decide)
  have hI3 := rinS_any f ⟨#[66, 83, 82]⟩ (by decide)
  rw [i1] at hI1
  rw [i2] at hI2
  rw [i3] at hI3
  have hR1 := rreg_any rd (rdB f)
  have hR2 := rreg_any rs1 (rs1B f)
  have hR3 := rreg_any rs2 (rs2B f)
  have e0 : ((f : Int) != 0) = decide (f ≠ 0) := by by_cases h : f = 0 <;> simp [h]
  rw [numB_is f hi imm]
  have hst : stI f ≠ 0 := by unfold stI; split <;> decide
  generalize rdB f = r1 at *
  generalize rs1B f = r2 at *
  generalize rs2B f = r3 at *
  generalize regB r1 rd = g1 at *
  generalize regB r2 rs1 = g2 at *
  generalize regB r3 rs2 = g3 at *
  generalize decide (f ≠ 0) = g0 at *
  generalize loI f = lo at *
  generalize hiI f = hi' at *
  generalize stI f = st at *
  have e4 : decide (lo ≤ imm) = decide (lo ≤ imm) := rfl
  have e5 : decide (imm ≤ hi') = decide (imm ≤ hi') := rfl
  have e6 : (imm.tmod st == 0) = (imm.tmod st == 0) := rfl
  have hrem : ∀ w, (binOp .rem 3 (.int .i64 imm) (.int .i64 st)).run Tryz.prog w = .ok (.int .i64 (imm.tmod st)) w := fun w => by
    rw [binOp_rem]
    simp [Op.intDiv, hst]
  generalize hg4 : decide (lo ≤ imm) = g4 at e4 ⊢
  generalize hg5 : decide (imm ≤ hi') = g5 at e5 ⊢
  generalize hg6 : (imm.tmod st == 0) = g6 at e6 ⊢
  clear hi i1 i2 i3 e4 e5 e6
  go_enter Tryz.func26, Tryz.ntmps26
  go_wp2_with fail
  refine (hF _).mono ?_
  rintro r w2 ⟨rfl, rfl⟩
  go_wp2_with fail
  refine (hS _).mono ?_
  rintro r w2 ⟨rfl, rfl⟩
  clear hS hF
  go_wp2_with fail
  cases g0
  · go_quiet (first | (go_at_call 59; with_reducible refine Calls.quiet_of_same (hI1 _)) | (go_at_call 59; with_reducible refine Calls.quiet_of_same (hI2 _)) | (go_at_call 59; with_reducible refine Calls.quiet_of_same (hI3 _)) | (go_at_call 58; with_reducible refine Calls.quiet_of_same (hR1 _)) | (go_at_call 58; with_reducible refine Calls.quiet_of_same (hR2 _)) | (go_at_call 58; with_reducible refine Calls.quiet_of_same (hR3 _)))
    go_wp2_with fail
    go_ret
    exact ⟨rfl, below_drewN b1 nq⟩
  cases g1
  · go_quiet (first | (go_at_call 59; with_reducible refine Calls.quiet_of_same (hI1 _)) | (go_at_call 59; with_reducible refine Calls.quiet_of_same (hI2 _)) | (go_at_call 59; with_reducible refine Calls.quiet_of_same (hI3 _)) | (go_at_call 58; with_reducible refine Calls.quiet_of_same (hR1 _)) | (go_at_call 58; with_reducible refine Calls.quiet_of_same (hR2 _)) | (go_at_call 58; with_reducible refine Calls.quiet_of_same (hR3 _)))
    go_wp2_with fail
    go_ret
    exact ⟨rfl, below_drewN b1 nq⟩
  cases g2
  · go_quiet (first | (go_at_call 59; with_reducible refine Calls.quiet_of_same (hI1 _)) | (go_at_call 59; with_reducible refine Calls.quiet_of_same (hI2 _)) | (go_at_call 59; with_reducible refine Calls.quiet_of_same (hI3 _)) | (go_at_call 58; with_reducible refine Calls.quiet_of_same (hR1 _)) | (go_at_call 58; with_reducible refine Calls.quiet_of_same (hR2 _)) | (go_at_call 58; with_reducible refine Calls.quiet_of_same (hR3 _)))
    go_wp2_with fail
    go_ret
    exact ⟨rfl, below_drewN b1 nq⟩
  cases g3
  · go_quiet (first | (go_at_call 59; with_reducible refine Calls.quiet_of_same (hI1 _)) | (go_at_call 59; with_reducible refine Calls.quiet_of_same (hI2 _)) | (go_at_call 59; with_reducible refine Calls.quiet_of_same (hI3 _)) | (go_at_call 58; with_reducible refine Calls.quiet_of_same (hR1 _)) | (go_at_call 58; with_reducible refine Calls.quiet_of_same (hR2 _)) | (go_at_call 58; with_reducible refine Calls.quiet_of_same (hR3 _)))
    go_wp2_with fail
    go_ret
    exact ⟨rfl, below_drewN b1 nq⟩
  cases g4
  · go_quiet (first | (go_at_call 59; with_reducible refine Calls.quiet_of_same (hI1 _)) | (go_at_call 59; with_reducible refine Calls.quiet_of_same (hI2 _)) | (go_at_call 59; with_reducible refine Calls.quiet_of_same (hI3 _)) | (go_at_call 58; with_reducible refine Calls.quiet_of_same (hR1 _)) | (go_at_call 58; with_reducible refine Calls.quiet_of_same (hR2 _)) | (go_at_call 58; with_reducible refine Calls.quiet_of_same (hR3 _)))
    go_wp2_with fail
    go_ret
    exact ⟨rfl, below_drewN b1 nq⟩
  cases g5
  · go_quiet (first | (go_at_call 59; with_reducible refine Calls.quiet_of_same (hI1 _)) | (go_at_call 59; with_reducible refine Calls.quiet_of_same (hI2 _)) | (go_at_call 59; with_reducible refine Calls.quiet_of_same (hI3 _)) | (go_at_call 58; with_reducible refine Calls.quiet_of_same (hR1 _)) | (go_at_call 58; with_reducible refine Calls.quiet_of_same (hR2 _)) | (go_at_call 58; with_reducible refine Calls.quiet_of_same (hR3 _)))
    go_wp2_with fail
    go_ret
    exact ⟨rfl, below_drewN b1 nq⟩
  cases g6
  · go_quiet (first | (go_at_call 59; with_reducible refine Calls.quiet_of_same (hI1 _)) | (go_at_call 59; with_reducible refine Calls.quiet_of_same (hI2 _)) | (go_at_call 59; with_reducible refine Calls.quiet_of_same (hI3 _)) | (go_at_call 58; with_reducible refine Calls.quiet_of_same (hR1 _)) | (go_at_call 58; with_reducible refine Calls.quiet_of_same (hR2 _)) | (go_at_call 58; with_reducible refine Calls.quiet_of_same (hR3 _)))
    go_wp2_with fail
    go_ret
    exact ⟨by first | (simp; done) | (simp at hg6; simp [hg6]), below_drewN b1 nq⟩
  · go_quiet (first | (go_at_call 59; with_reducible refine Calls.quiet_of_same (hI1 _)) | (go_at_call 59; with_reducible refine Calls.quiet_of_same (hI2 _)) | (go_at_call 59; with_reducible refine Calls.quiet_of_same (hI3 _)) | (go_at_call 58; with_reducible refine Calls.quiet_of_same (hR1 _)) | (go_at_call 58; with_reducible refine Calls.quiet_of_same (hR2 _)) | (go_at_call 58; with_reducible refine Calls.quiet_of_same (hR3 _)))
    go_wp2_with fail
    go_ret
    exact ⟨by first | (simp; done) | (simp at hg6; simp [hg6]), below_drewN b1 nq⟩
end Go.Proofs.YtaiggfknighhgaaGreatDoor
set_option linter.unusedVariables false
set_option linter.unusedSimpArgs false
namespace Go.Proofs.YtaiggfknighhgaaGreatDoor
open Go.RowKit Go.Maps Go.MapKept

theorem setRow_same {w : World} {g : Nat} {cs : Array Value} {t : TypeId} {fz : Nat × Nat} (h : w.heap[g]? = some (.cells cs t fz)) : w.setRow g cs = w := by
  have e : (w.setRow g cs).heap = w.heap := by
    apply Array.ext_getElem?
    intro i
    by_cases hi : i = g
    · subst hi
      rw [setRow_heap w i cs cs t fz h, h]
    · exact setRow_other w g i cs hi
  have h2 : w.setRow g cs = { w with heap := (w.setRow g cs).heap } := rfl
  rw [h2, e]
set_option maxRecDepth 100000 in
theorem rstart_any (K : Nat → Prop) (b : Nat) (ts : List Term) (hl : ts.length < 100000000000) (w : World) (h : RefM K w b ts) :
    Calls Tryz.prog 32 #[.pointer (some ⟨b, 0, none⟩)] w fun e w' => e = .returned (.agg (zV (startZ ts 32))) ∧ RefM K w' b (startT ts 32).1 ∧ Kept K w w' := by
  have b1 := (Below.refl w.heap.size w).alloc (Nat.le_refl _) (.cells #[.int .i64 0, .int .i64 0, .int .i64 0, .int .i64 0, .int .i64 0, .int .i64 0, .int .i64 0, .int .i64 0, .int .i64 0, .int .i64 0, .int .i64 0, .int .i64 0, .int .i64 0, .int .i64 0, .int .i64 0, .int .i64 0, .int .i64 0, .int .i64 0, .int .i64 0, .int .i64 0, .int .i64 0, .int .i64 0, .int .i64 0, .int .i64 0, .int .i64 0, .int .i64 0, .int .i64 0, .int .i64 0, .int .i64 0, .int .i64 0, .int .i64 0, .int .i64 0] 32)
  have b2 := b1.alloc (by simp) (.cells #[.int .i64 0, .int .i64 0, .int .i64 0, .int .i64 0, .int .i64 0, .int .i64 0, .int .i64 0, .int .i64 0, .int .i64 0, .int .i64 0, .int .i64 0, .int .i64 0, .int .i64 0, .int .i64 0, .int .i64 0, .int .i64 0, .int .i64 0, .int .i64 0, .int .i64 0, .int .i64 0, .int .i64 0, .int .i64 0, .int .i64 0, .int .i64 0, .int .i64 0, .int .i64 0, .int .i64 0, .int .i64 0, .int .i64 0, .int .i64 0, .int .i64 0, .int .i64 0] 32)
  have hz0 := blk_alloc (blk_new w (.cells #[.int .i64 0, .int .i64 0, .int .i64 0, .int .i64 0, .int .i64 0, .int .i64 0, .int .i64 0, .int .i64 0, .int .i64 0, .int .i64 0, .int .i64 0, .int .i64 0, .int .i64 0, .int .i64 0, .int .i64 0, .int .i64 0, .int .i64 0, .int .i64 0, .int .i64 0, .int .i64 0, .int .i64 0, .int .i64 0, .int .i64 0, .int .i64 0, .int .i64 0, .int .i64 0, .int .i64 0, .int .i64 0, .int .i64 0, .int .i64 0, .int .i64 0, .int .i64 0] 32)) (.cells #[.int .i64 0, .int .i64 0, .int .i64 0, .int .i64 0, .int .i64 0, .int .i64 0, .int .i64 0, .int .i64 0, .int .i64 0, .int .i64 0, .int .i64 0, .int .i64 0, .int .i64 0, .int .i64 0, .int .i64 0, .int .i64 0, .int .i64 0, .int .i64 0, .int .i64 0, .int .i64 0, .int .i64 0, .int .i64 0, .int .i64 0, .int .i64 0, .int .i64 0, .int .i64 0, .int .i64 0, .int .i64 0, .int .i64 0, .int .i64 0, .int .i64 0, .int .i64 0] 32)
  have hz1 := blk_new (w.alloc (.cells #[.int .i64 0, .int .i64 0, .int .i64 0, .int .i64 0, .int .i64 0, .int .i64 0, .int .i64 0, .int .i64 0, .int .i64 0, .int .i64 0, .int .i64 0, .int .i64 0, .int .i64 0, .int .i64 0, .int .i64 0, .int .i64 0, .int .i64 0, .int .i64 0, .int .i64 0, .int .i64 0, .int .i64 0, .int .i64 0, .int .i64 0, .int .i64 0, .int .i64 0, .int .i64 0, .int .i64 0, .int .i64 0, .int .i64 0, .int .i64 0, .int .i64 0, .int .i64 0] 32)) (.cells #[.int .i64 0, .int .i64 0, .int .i64 0, .int .i64 0, .int .i64 0, .int .i64 0, .int .i64 0, .int .i64 0, .int .i64 0, .int .i64 0, .int .i64 0, .int .i64 0, .int .i64 0, .int .i64 0, .int .i64 0, .int .i64 0, .int .i64 0, .int .i64 0, .int .i64 0, .int .i64 0, .int .i64 0, .int .i64 0, .int .i64 0, .int .i64 0, .int .i64 0, .int .i64 0, .int .i64 0, .int .i64 0, .int .i64 0, .int .i64 0, .int .i64 0, .int .i64 0] 32)
  have hsz : (w.alloc (.cells #[.int .i64 0, .int .i64 0, .int .i64 0, .int .i64 0, .int .i64 0, .int .i64 0, .int .i64 0, .int .i64 0, .int .i64 0, .int .i64 0, .int .i64 0, .int .i64 0, .int .i64 0, .int .i64 0, .int .i64 0, .int .i64 0, .int .i64 0, .int .i64 0, .int .i64 0, .int .i64 0, .int .i64 0, .int .i64 0, .int .i64 0, .int .i64 0, .int .i64 0, .int .i64 0, .int .i64 0, .int .i64 0, .int .i64 0, .int .i64 0, .int .i64 0, .int .i64 0] 32)).heap.size = w.heap.size + 1 := by simp
  have hsz2 : ((w.alloc (.cells #[.int .i64 0, .int .i64 0, .int .i64 0, .int .i64 0, .int .i64 0, .int .i64 0, .int .i64 0, .int .i64 0, .int .i64 0, .int .i64 0, .int .i64 0, .int .i64 0, .int .i64 0, .int .i64 0, .int .i64 0, .int .i64 0, .int .i64 0, .int .i64 0, .int .i64 0, .int .i64 0, .int .i64 0, .int .i64 0, .int .i64 0, .int .i64 0, .int .i64 0, .int .i64 0, .int .i64 0, .int .i64 0, .int .i64 0, .int .i64 0, .int .i64 0, .int .i64 0] 32)).alloc (.cells #[.int .i64 0, .int .i64 0, .int .i64 0, .int .i64 0, .int .i64 0, .int .i64 0, .int .i64 0, .int .i64 0, .int .i64 0, .int .i64 0, .int .i64 0, .int .i64 0, .int .i64 0, .int .i64 0, .int .i64 0, .int .i64 0, .int .i64 0, .int .i64 0, .int .i64 0, .int .i64 0, .int .i64 0, .int .i64 0, .int .i64 0, .int .i64 0, .int .i64 0, .int .i64 0, .int .i64 0, .int .i64 0, .int .i64 0, .int .i64 0, .int .i64 0, .int .i64 0] 32)).heap.size = w.heap.size + 2 := by simp
  rw [hsz] at hz1
  have hz1L := hz1
  rw [zV_zero] at hz1
  rw [zV_zero] at hz0
  have hD := h.more b2
  generalize hK : More K w ((w.alloc (.cells #[.int .i64 0, .int .i64 0, .int .i64 0, .int .i64 0, .int .i64 0, .int .i64 0, .int .i64 0, .int .i64 0, .int .i64 0, .int .i64 0, .int .i64 0, .int .i64 0, .int .i64 0, .int .i64 0, .int .i64 0, .int .i64 0, .int .i64 0, .int .i64 0, .int .i64 0, .int .i64 0, .int .i64 0, .int .i64 0, .int .i64 0, .int .i64 0, .int .i64 0, .int .i64 0, .int .i64 0, .int .i64 0, .int .i64 0, .int .i64 0, .int .i64 0, .int .i64 0] 32)).alloc (.cells #[.int .i64 0, .int .i64 0, .int .i64 0, .int .i64 0, .int .i64 0, .int .i64 0, .int .i64 0, .int .i64 0, .int .i64 0, .int .i64 0, .int .i64 0, .int .i64 0, .int .i64 0, .int .i64 0, .int .i64 0, .int .i64 0, .int .i64 0, .int .i64 0, .int .i64 0, .int .i64 0, .int .i64 0, .int .i64 0, .int .i64 0, .int .i64 0, .int .i64 0, .int .i64 0, .int .i64 0, .int .i64 0, .int .i64 0, .int .i64 0, .int .i64 0, .int .i64 0] 32)) = K1 at hD
  have k0 : K1 w.heap.size := by rw [← hK]; exact Or.inr ⟨Nat.le_refl _, by omega⟩
  have k1 : K1 (w.heap.size + 1) := by rw [← hK]; exact Or.inr ⟨by omega, by omega⟩
  have kk : ∀ i, K i → K1 i := fun i hi => by rw [← hK]; exact Or.inl hi
  have kn0 : ¬ K w.heap.size := fun hh => by have := h.in_ _ hh; omega
  have kn1 : ¬ K (w.heap.size + 1) := fun hh => by have := h.in_ _ hh; omega
  clear hK h b1 hsz hsz2
  have kb := Kept.below (K := K) b2
  go_enter Tryz.func32, Tryz.ntmps32
  go_wp2_with (first | ((refine wpList_store_row rfl 32 (.tmp 3) (.tmp 5) rfl (w.heap.size + 1) #[.int .i64 0, .int .i64 0, .int .i64 0, .int .i64 0, .int .i64 0, .int .i64 0, .int .i64 0, .int .i64 0, .int .i64 0, .int .i64 0, .int .i64 0, .int .i64 0, .int .i64 0, .int .i64 0, .int .i64 0, .int .i64 0, .int .i64 0, .int .i64 0, .int .i64 0, .int .i64 0, .int .i64 0, .int .i64 0, .int .i64 0, .int .i64 0, .int .i64 0, .int .i64 0, .int .i64 0, .int .i64 0, .int .i64 0, .int .i64 0, .int .i64 0, .int .i64 0] rfl rfl 32 _ hz1L (by exact info_arr) rfl (by rw [zV_zero]; exact zV_one _) ?_); rw [setRow_same hz1L]) | fail)
  clear hz1L
  rw [zV_zero] at *
  go_loopw [4] (fun i wr => ∃ j : Nat, j ≤ 32 ∧ i = .int .i64 j ∧ ZAt 32 wr (w.heap.size + 1) (startZ ts j) ∧ wr.heap[w.heap.size]? = some (.cells (zV fun _ => 0) 32 (0, 0)) ∧ RefM K1 wr b (startT ts j).1 ∧ Kept K w wr) (fun i _ => 32 - (intOf i).toNat)
  case atStart => exact ⟨0, by omega, rfl, hz1, hz0, hD, kb⟩
  case round =>
    clear hz0 hz1 hD b2 kb
    obtain ⟨j, hj, rfl, hZ, h0, hD, hk⟩ := hrel
    by_cases hlt : j < 32
    · have hlt' : (j : Int) < 32 := by omega
      have hV := rm_var hD (by have := startT_len ts j; omega) j hlt
      change Calls Tryz.prog 50 #[.pointer (some ⟨b, 0, none⟩), .int .i64 j] wr fun r w' => r = .returned (.tuple #[.int .i64 (pos (startT ts j).1 (varTm' j) : Nat), .int .i64 0]) ∧ RefM K1 w' b (startT ts (j + 1)).1 ∧ Kept K1 wr w' at hV
      have hzz : ∀ r, r < 32 → setZ (startZ ts j) j (pos (startT ts j).1 (varTm' j) : Nat) r = startZ ts (j + 1) r := fun r _ => by
        show (if r = j then _ else ((startT ts j).2 r : Int)) = ((if r = j then _ else (startT ts j).2 r : Nat) : Int)
        split <;> rfl
      generalize pos (startT ts j).1 (varTm' j) = p at hV hzz
      clear hlt hD
      go_wp2_with fail
      refine hV.mono ?_
      rintro r w1 ⟨rfl, hD1, hk1⟩
      have hZ1 := hZ.kept hk1 k1
      have h01 := hk1.blk k0 h0
      have hc := hZ1.cell (i := j) (by omega)
      have hf := hZ1.fro j
      clear hV
      go_wp2_with fail
      go_roundw
      case rel => exact ⟨j + 1, by omega, by go_num, (hZ1.set j p).ext hzz, ((kept_set w1 _ j _).blk (by omega) h01), hD1.moved (kept_set w1 _ j _) k1, (hk.trans (hk1.mono kk)).trans ((kept_set w1 _ j _).mono fun i hi e => kn1 (by rw [← e]; exact hi))⟩
      case measure => simp [intOf]; omega
    · have hlt' : ¬ (j : Int) < 32 := by omega
      obtain rfl : j = 32 := by omega
      obtain ⟨z, hz⟩ : ∃ z, startZ ts 32 = z := ⟨_, rfl⟩
      rw [hz] at hZ
      have HZ := Lib.hid hz
      clear hz
      go_wp2_with (first | (refine wpList_load_row rfl 32 (.tmp 3) rfl (w.heap.size + 1) rfl 32 (zV z) (0, 0) _ hZ Tryz.underlying32 rfl (by rw [zV_size]; exact info_arr) ?_) | (refine wpList_store_row rfl 32 (.tmp 2) (.tmp 18) rfl w.heap.size (zV z) rfl rfl 32 _ h0 (by rw [zV_size]; exact info_arr) (by rw [zV_size, zV_size]) (zV_one z) ?_) | fail)
      exact bodyPost_ret (v := .agg (zV z)) (results_cell_row rfl _ _ w.heap.size 32 (zV z) (0, 0) _ rfl (setRow_heap _ _ _ _ _ _ h0) Tryz.underlying32 rfl (by rw [zV_size]; exact info_arr)) rfl ⟨by rw [HZ.out], (hD.moved (kept_row wr _ _) k0).mono kk, hk.trans ((kept_row wr _ _).mono fun i hi e => kn0 (by rw [← e]; exact hi))⟩
set_option maxRecDepth 100000 in
theorem rlplain_any (x : Ins) (w : World) : Calls Tryz.prog 8 #[.agg x.five.toArray] w fun e w' => e = .returned (.bool (plainI x)) ∧ Below w.heap.size w w' := by
  have hR := rright_any x
  have hr0 : rightI x = true → 0 ≤ x.op := fun h => by
    unfold rightI at h
    simp only [Bool.and_eq_true, decide_eq_true_eq] at h
    have h1 := h.1.1.1.1
    unfold formI at h1
    by_cases h0 : x.op < 0
    · exact absurd (if_pos (Or.inl h0)) h1
    · omega
  have hp : plainI x = (rightI x && ((immOp x.op).isSome || decide (x.op = 0) || decide (x.op = 1) || decide (formI x.op = 82))) := rfl
  rw [hp]
  clear hp
  generalize rightI x = g0 at *
  obtain ⟨op, rd, rs1, rs2, imm⟩ := x
  dsimp only at hr0 ⊢
  change ∀ w, Calls Tryz.prog 26 #[.agg #[.int .i64 op, .int .i64 rd, .int .i64 rs1, .int .i64 rs2, .int .i64 imm]] w _ at hR
  show Calls Tryz.prog 8 #[.agg #[.int .i64 op, .int .i64 rd, .int .i64 rs1, .int .i64 rs2, .int .i64 imm]] w _
  obtain ⟨z0, z1, z2, z3, z4⟩ := five_cells (blk_new w (.cells #[.int .i64 op, .int .i64 rd, .int .i64 rs1, .int .i64 rs2, .int .i64 imm] 31))
  have b1 := (Below.refl w.heap.size w).alloc (Nat.le_refl _) (.cells #[.int .i64 op, .int .i64 rd, .int .i64 rs1, .int .i64 rs2, .int .i64 imm] 31)
  have hP := rplain_any op
  have hF := rform_any op
  have e2 : ((formI op : Int) == 82) = decide (formI op = 82) := by by_cases h : formI op = 82 <;> simp [h]; omega
  have e01 : g0 = true → (decide (op = 0) || decide (op = 1)) = decide (op ≤ 1) := fun h => by
    have := hr0 h
    rw [Bool.eq_iff_iff]
    simp
    omega
  rw [Bool.or_assoc (immOp op).isSome]
  have e01' : (g0 && ((immOp op).isSome || (decide (op = 0) || decide (op = 1)) || decide (formI op = 82))) = (g0 && ((immOp op).isSome || decide (op ≤ 1) || decide (formI op = 82))) := by
    cases g0
    · rfl
    · rw [e01 rfl]
  rw [e01']
  clear e01 e01' hr0
  generalize formI op = f at *
  generalize decide (f = 82) = g4 at *
  generalize hg2 : decide (op ≤ 1) = g2 at *
  generalize (immOp op).isSome = g1 at *
  generalize ((immOp op).getD 0 : Nat) = o at *
  go_enter Tryz.func8, Tryz.ntmps8
  go_wp2_with fail
  refine (hP _).mono ?_
  rintro r w1 ⟨rfl, b2⟩
  have y0 := cell_below b2 z0
  have y1 := cell_below b2 z1
  have y2 := cell_below b2 z2
  have y3 := cell_below b2 z3
  have y4 := cell_below b2 z4
  have b3 := b1.trans (b2.mono b1.size)
  clear hP z0 z1 z2 z3 z4 b1 b2
  go_wp2_with fail
  refine (hR _).mono ?_
  rintro r w2 ⟨rfl, b4⟩
  have x0 := cell_below b4 y0
  have b5 := b3.trans (b4.mono b3.size)
  clear hR y0 y1 y2 y3 y4 b3 b4
  cases g0
  · go_wp2_with fail
    go_ret
    exact ⟨rfl, b5⟩
  cases g1
  rotate_left
  · go_wp2_with fail
    go_ret
    exact ⟨rfl, b5⟩
  cases g2
  rotate_left
  · go_wp2_with fail
    go_ret
    exact ⟨rfl, b5⟩
  · go_wp2_with fail
    refine (hF _).mono ?_
    rintro r w3 ⟨rfl, rfl⟩
    go_wp2_with fail
    go_ret
    exact ⟨rfl, b5⟩
set_option maxRecDepth 100000 in
theorem rallI_any (B : Nat) (e : TypeId) (v : Value) (xs : List Ins) (w : World) (hs : SlN B e 5 Ins.five w v xs) :
    Calls Tryz.prog 31 #[v] w fun r w' => r = .returned (.bool (!oddL xs)) ∧ Below w.heap.size w w' := by
  obtain ⟨A, c, rfl, q1, q2, q3⟩ := hs.open_
  have q4 : xs.length ≤ 9223372036854775807 := by unfold maxLen at q2; omega
  go_enter Tryz.func31, Tryz.ntmps31
  go_wp2_with fail
  go_loopw [3] (fun i wr => ∃ j : Nat, j ≤ xs.length ∧ i = .int .i64 j ∧ oddL (xs.take j) = false ∧ Below w.heap.size w wr) (fun i _ => xs.length - (intOf i).toNat)
  case atStart => exact ⟨0, Nat.zero_le _, rfl, rfl, Below.refl _ _⟩
  case round =>
    obtain ⟨j, hj, rfl, hno0, hb⟩ := hrel
    have HNO := Lib.hid hno0
    clear hno0
    by_cases hlt : j < xs.length
    · have hlt' : (j : Int) < xs.length := by omega
      have hs1 := hs.below hb
      obtain ⟨bb, off, eA, hat, hbl⟩ := hs1.at_ hlt
      subst eA
      have hO := rlplain_any xs[j] wr
      have hno := HNO.out
      have hsn : oddL (xs.take (j + 1)) = !plainI xs[j] := by
        rw [List.take_succ_eq_append_getElem hlt]
        unfold oddL at hno ⊢
        rw [List.any_append, hno]
        simp
      have hall : plainI xs[j] = false → oddL xs = true := fun h => by
        unfold oddL
        rw [List.any_eq_true]
        exact ⟨xs[j], List.getElem_mem hlt, by rw [h]; rfl⟩
      generalize xs[j] = t at hat hO hsn hall
      obtain ⟨op, rd, rs1, rs2, imm⟩ := t
      have d0 : wr.cell? ⟨bb, off + j * 5, none⟩ = some (.int .i64 op) := hat 0 _ rfl
      have d1 : wr.cell? ⟨bb, off + j * 5 + 1, none⟩ = some (.int .i64 rd) := hat 1 _ rfl
      have d2 : wr.cell? ⟨bb, off + j * 5 + 2, none⟩ = some (.int .i64 rs1) := hat 2 _ rfl
      have d3 : wr.cell? ⟨bb, off + j * 5 + 3, none⟩ = some (.int .i64 rs2) := hat 3 _ rfl
      have d4 : wr.cell? ⟨bb, off + j * 5 + 4, none⟩ = some (.int .i64 imm) := hat 4 _ rfl
      change Calls Tryz.prog 8 #[.agg #[.int .i64 op, .int .i64 rd, .int .i64 rs1, .int .i64 rs2, .int .i64 imm]] wr _ at hO
      generalize plainI ⟨op, rd, rs1, rs2, imm⟩ = g at hO hsn hall
      have HS := Lib.hid hsn
      clear hat hs1 hsn hno
      cases g
      · have ha := hall rfl
        have HA := Lib.hid ha
        clear ha hall
        go_wp2_with fail
        refine hO.mono ?_
        rintro r w1 ⟨rfl, b1⟩
        go_wp2_with fail
        go_ret
        exact ⟨by rw [HA.out]; rfl, below_then hb b1⟩
      · clear hall
        go_wp2_with fail
        refine hO.mono ?_
        rintro r w1 ⟨rfl, b1⟩
        go_wp2_with fail
        go_roundw
        case rel => exact ⟨j + 1, by omega, by go_num, HS.out, below_then hb b1⟩
        case measure => simp [intOf]; omega
    · have hlt' : ¬ (j : Int) < xs.length := by omega
      have hno := HNO.out
      have he : oddL xs = false := by rw [List.take_of_length_le (by omega)] at hno; exact hno
      have HE := Lib.hid he
      clear he hno
      go_wp2_with fail
      go_ret
      exact ⟨by rw [HE.out]; rfl, hb⟩
end Go.Proofs.YtaiggfknighhgaaGreatDoor
set_option linter.unusedVariables false
set_option linter.unusedSimpArgs false
namespace Go.Proofs.YtaiggfknighhgaaGreatDoor
open Go.RowKit Go.Maps Go.MapKept

def FromR (K : Nat → Prop) (b : Nat) (w : World) (R : List Term × (Nat → Int) × Int) (e : Ending) (w' : World) : Prop := e = .returned (.tuple #[.agg (zV R.2.1), .int .i64 R.2.2]) ∧ RefM K w' b R.1 ∧ Kept K w w'
theorem RefM.cell {K : Nat → Prop} {w : World} {k : Nat} {ts : List Term} (h : RefM K w k ts) : ∃ A c, w.cell? ⟨k, 0, none⟩ = some (.slice A ts.length c) ∧ ts.length ≤ maxLen := by
  obtain ⟨_, _, vl, hR, _⟩ := h
  obtain ⟨A, c, rfl, q1, q2, _⟩ := (hR.l.toSl encT 0).open_
  exact ⟨A, c, one_cell hR.hb, Nat.le_trans q1 q2⟩
set_option maxRecDepth 100000 in
set_option maxHeartbeats 4000000 in
theorem rfrom_any (K : Nat → Prop) (b : Nat) (ts : List Term) (z : Nat → Int) (B : Nat) (e : TypeId) (v : Value) (xs : List Ins) (pc : Nat) (hpc : pc < 4294967296) (hl0 : ts.length ≤ 1000000) (hxs : xs.length ≤ 100) (hG : Good ts) (w : World) (hs : SlN B e 5 Ins.five w v xs) (h : RefM K w b ts) (hvK : ∀ w', Kept K w w' → SlN B e 5 Ins.five w' v xs) :
    Calls Tryz.prog 14 #[.pointer (some ⟨b, 0, none⟩), .agg (zV z), v, .int .u32 pc] w (FromR K b w (fromO ts z xs pc)) := by
  obtain ⟨A, c, rfl, q1, q2, q3⟩ := hs.open_
  have q4 : xs.length ≤ 9223372036854775807 := by unfold maxLen at q2; omega
  have b1 := (Below.refl w.heap.size w).alloc (Nat.le_refl _) (.cells (zV z) 32)
  have b2 := b1.alloc (by simp) (.cells #[.int .i64 0, .int .i64 0, .int .i64 0, .int .i64 0, .int .i64 0, .int .i64 0, .int .i64 0, .int .i64 0, .int .i64 0, .int .i64 0, .int .i64 0, .int .i64 0, .int .i64 0, .int .i64 0, .int .i64 0, .int .i64 0, .int .i64 0, .int .i64 0, .int .i64 0, .int .i64 0, .int .i64 0, .int .i64 0, .int .i64 0, .int .i64 0, .int .i64 0, .int .i64 0, .int .i64 0, .int .i64 0, .int .i64 0, .int .i64 0, .int .i64 0, .int .i64 0] 32)
  have hz0 := blk_alloc (blk_new w (.cells (zV z) 32)) (.cells #[.int .i64 0, .int .i64 0, .int .i64 0, .int .i64 0, .int .i64 0, .int .i64 0, .int .i64 0, .int .i64 0, .int .i64 0, .int .i64 0, .int .i64 0, .int .i64 0, .int .i64 0, .int .i64 0, .int .i64 0, .int .i64 0, .int .i64 0, .int .i64 0, .int .i64 0, .int .i64 0, .int .i64 0, .int .i64 0, .int .i64 0, .int .i64 0, .int .i64 0, .int .i64 0, .int .i64 0, .int .i64 0, .int .i64 0, .int .i64 0, .int .i64 0, .int .i64 0] 32)
  have hz1 := blk_new (w.alloc (.cells (zV z) 32)) (.cells #[.int .i64 0, .int .i64 0, .int .i64 0, .int .i64 0, .int .i64 0, .int .i64 0, .int .i64 0, .int .i64 0, .int .i64 0, .int .i64 0, .int .i64 0, .int .i64 0, .int .i64 0, .int .i64 0, .int .i64 0, .int .i64 0, .int .i64 0, .int .i64 0, .int .i64 0, .int .i64 0, .int .i64 0, .int .i64 0, .int .i64 0, .int .i64 0, .int .i64 0, .int .i64 0, .int .i64 0, .int .i64 0, .int .i64 0, .int .i64 0, .int .i64 0, .int .i64 0] 32)
  have hsz : (w.alloc (.cells (zV z) 32)).heap.size = w.heap.size + 1 := by simp
  have hsz2 : ((w.alloc (.cells (zV z) 32)).alloc (.cells #[.int .i64 0, .int .i64 0, .int .i64 0, .int .i64 0, .int .i64 0, .int .i64 0, .int .i64 0, .int .i64 0, .int .i64 0, .int .i64 0, .int .i64 0, .int .i64 0, .int .i64 0, .int .i64 0, .int .i64 0, .int .i64 0, .int .i64 0, .int .i64 0, .int .i64 0, .int .i64 0, .int .i64 0, .int .i64 0, .int .i64 0, .int .i64 0, .int .i64 0, .int .i64 0, .int .i64 0, .int .i64 0, .int .i64 0, .int .i64 0, .int .i64 0, .int .i64 0] 32)).heap.size = w.heap.size + 2 := by simp
  rw [hsz, zV_zero] at hz1
  rw [zV_zero] at hz0
  have hD := h.more b2
  generalize hK : More K w ((w.alloc (.cells (zV z) 32)).alloc (.cells #[.int .i64 0, .int .i64 0, .int .i64 0, .int .i64 0, .int .i64 0, .int .i64 0, .int .i64 0, .int .i64 0, .int .i64 0, .int .i64 0, .int .i64 0, .int .i64 0, .int .i64 0, .int .i64 0, .int .i64 0, .int .i64 0, .int .i64 0, .int .i64 0, .int .i64 0, .int .i64 0, .int .i64 0, .int .i64 0, .int .i64 0, .int .i64 0, .int .i64 0, .int .i64 0, .int .i64 0, .int .i64 0, .int .i64 0, .int .i64 0, .int .i64 0, .int .i64 0] 32)) = K1 at hD
  have k0 : K1 w.heap.size := by rw [← hK]; exact Or.inr ⟨Nat.le_refl _, by omega⟩
  have k1 : K1 (w.heap.size + 1) := by rw [← hK]; exact Or.inr ⟨by omega, by omega⟩
  have kk : ∀ i, K i → K1 i := fun i hi => by rw [← hK]; exact Or.inl hi
  have kn0 : ¬ K w.heap.size := fun hh => by have := h.in_ _ hh; omega
  have kn1 : ¬ K (w.heap.size + 1) := fun hh => by have := h.in_ _ hh; omega
  clear hK h b1 hsz hsz2 hs
  have kb := Kept.below (K := K) b2
  generalize hR : fromO ts z xs pc = R
  have HR := Lib.hid hR
  clear hR
  go_enter Tryz.func14, Tryz.ntmps14
  go_wp2_with fail
  rw [zV_zero] at *
  go_loopw [10] (fun i wr => ∃ j : Nat, j ≤ 32 ∧ i = .int .i64 j ∧ (∀ r, r < j → inR (z r) ts.length = true) ∧ ZAt 32 wr w.heap.size z ∧ wr.heap[w.heap.size + 1]? = some (.cells (zV fun _ => 0) 32 (0, 0)) ∧ RefM K1 wr b ts ∧ Kept K w wr) (fun i _ => 32 - (intOf i).toNat)
  case atStart => exact ⟨0, by omega, rfl, fun r hr => absurd hr (by omega), hz0, hz1, hD, kb⟩
  case round =>
    clear hz0 hz1 hD b2 kb
    obtain ⟨j, hj, rfl, hin, hZ, h0, hD, hk⟩ := hrel
    by_cases hlt : j < 32
    · have hlt' : (j : Int) < 32 := by omega
      obtain ⟨A1, c1, hvc, hvl⟩ := hD.cell
      have hcz := hZ.cell hlt
      have hd : ∀ (W : World) n, Below W.heap.size W (W.drewN n) := fun W n => below_drewN (Below.refl _ W) n
      cases hr : inR (z j) ts.length with
      | false =>
        have ho := okX_bad hlt hr
        have HO := Lib.hid ho
        have hRe : R = (ts, fun _ => 0, 100) := by rw [← HR.out]; unfold fromO; rw [if_pos HO.out]
        have HRE := Lib.hid hRe
        by_cases hneg : z j < 0
        · have e0 : (decide (z j < 0)) = true := by simpa using hneg
          clear ho hr hin hRe hneg
          go_wp2_with fail
          go_quiet (fail)
          have h02 := blk_below h0 (hd _ nq)
          have hD2 := hD.below (hd _ nq)
          have k2 := hk.trans (Kept.below (hd _ nq))
          go_wp2_with (first | (refine wpList_store_row rfl 32 (.tmp 8) (.tmp 37) rfl (w.heap.size + 1) (zV fun _ => 0) rfl (by rw [← zV_zero]; rfl) 32 _ h02 (by rw [zV_size]; exact info_arr) rfl (zV_one _) ?_) | fail)
          exact bodyPost_ret (results_arr2 rfl _ _ (w.heap.size + 1) 32 (zV fun _ => 0) (0, 0) _ _ rfl rfl (setRow_heap _ _ _ _ _ _ h02) Tryz.underlying32 rfl (by rw [zV_size]; exact info_arr)) rfl (by rw [HRE.out]; exact ⟨rfl, (hD2.moved (kept_row _ _ _) k1).mono kk, k2.trans ((kept_row _ _ _).mono fun i hi e => kn1 (by rw [← e]; exact hi))⟩)
        · have e0 : (decide (z j < 0)) = false := by simpa using hneg
          have e1 : (ts.length : Int) ≤ z j := by
            unfold inR at hr
            simp at hr
            omega
          clear ho hr hin hRe hneg
          go_wp2_with fail
          go_quiet (fail)
          have h02 := blk_below h0 (hd _ nq)
          have hD2 := hD.below (hd _ nq)
          have k2 := hk.trans (Kept.below (hd _ nq))
          go_wp2_with (first | (refine wpList_store_row rfl 32 (.tmp 8) (.tmp 37) rfl (w.heap.size + 1) (zV fun _ => 0) rfl (by rw [← zV_zero]; rfl) 32 _ h02 (by rw [zV_size]; exact info_arr) rfl (zV_one _) ?_) | fail)
          exact bodyPost_ret (results_arr2 rfl _ _ (w.heap.size + 1) 32 (zV fun _ => 0) (0, 0) _ _ rfl rfl (setRow_heap _ _ _ _ _ _ h02) Tryz.underlying32 rfl (by rw [zV_size]; exact info_arr)) rfl (by rw [HRE.out]; exact ⟨rfl, (hD2.moved (kept_row _ _ _) k1).mono kk, k2.trans ((kept_row _ _ _).mono fun i hi e => kn1 (by rw [← e]; exact hi))⟩)
      | true =>
        obtain ⟨n, hn, hn2⟩ := inR_nat hr
        have e0 : (decide (z j < 0)) = false := by rw [hn]; simp
        have e1 : ¬ (ts.length : Int) ≤ z j := by rw [hn]; omega
        clear hn hn2
        go_wp2_with fail
        go_quiet (fail)
        go_wp2_with fail
        go_roundw
        case rel => exact ⟨j + 1, by omega, by go_num, fun r hr' => by rcases Nat.lt_succ_iff_lt_or_eq.1 hr' with h | h; exact hin r h; rw [h]; exact hr, hZ.below (hd _ nq), (blk_below h0 (hd _ nq)), hD.below (hd _ nq), hk.trans (Kept.below (hd _ nq))⟩
        case measure => simp [intOf]; omega
    · have hlt' : ¬ (j : Int) < 32 := by omega
      obtain rfl : j = 32 := by omega
      have ho := okX_all hin
      have HO := Lib.hid ho
      have hA := rallI_any B e _ xs wr (hvK _ hk)
      clear ho
      cases hod : oddL xs with
      | true =>
        rw [hod] at hA
        have HOD := Lib.hid hod
        clear hod
        go_wp2_with fail
        refine hA.mono ?_
        rintro r w1 ⟨rfl, b1⟩
        have h02 := blk_below h0 b1
        have hD2 := hD.below b1
        have k2 := hk.trans (Kept.below b1)
        have hRe : R = (ts, fun _ => 0, 120) := by rw [← HR.out]; unfold fromO; rw [if_neg (by rw [HO.out]; decide), if_pos HOD.out]
        have HRE := Lib.hid hRe
        clear hRe
        go_wp2_with (first | (refine wpList_store_row rfl 32 (.tmp 8) (.tmp 41) rfl (w.heap.size + 1) (zV fun _ => 0) rfl (by rw [← zV_zero]; rfl) 32 _ h02 (by rw [zV_size]; exact info_arr) rfl (zV_one _) ?_) | fail)
        exact bodyPost_ret (results_arr2 rfl _ _ (w.heap.size + 1) 32 (zV fun _ => 0) (0, 0) _ _ rfl rfl (setRow_heap _ _ _ _ _ _ h02) Tryz.underlying32 rfl (by rw [zV_size]; exact info_arr)) rfl (by rw [HRE.out]; exact ⟨rfl, (hD2.moved (kept_row _ _ _) k1).mono kk, k2.trans ((kept_row _ _ _).mono fun i hi e => kn1 (by rw [← e]; exact hi))⟩)
      | false =>
        rw [hod] at hA
        have HOD := Lib.hid hod
        clear hod
        go_wp2_with fail
        refine hA.mono ?_
        rintro r w1 ⟨rfl, b1⟩
        have h02 := blk_below h0 b1
        have hD2 := hD.below b1
        have k2 := hk.trans (Kept.below b1)
        have hZ2 := hZ.below b1
        have hxN : ∀ r, r < 32 → toN z r < ts.length ∧ z r = (toN z r : Int) := fun r hr => by
          obtain ⟨n, e1, e2⟩ := inR_nat (hin r hr)
          unfold toN
          rw [e1]
          exact ⟨e2, by simp⟩
        have hIn : InT ts (toN z) := fun r hr => (hxN r hr).1
        have hZ3 : ZAt 32 w1 w.heap.size (fun r => (toN z r : Int)) := hZ2.ext fun r hr => (hxN r hr).2
        have hRe : R = ((fromT ts (toN z) xs pc).1, fun r => (((fromT ts (toN z) xs pc).2 r : Nat) : Int), 0) := by rw [← HR.out, fromO_ok HO.out HOD.out]
        have hpl := oddL_false HOD.out
        have HPL := Lib.hid hpl
        have HRE := Lib.hid hRe
        clear hRe hpl hxN hin hZ hZ2 h0 hD hk hA
        generalize toN z = x at *
        go_wp2_with fail
        go_loopw [11] (fun i wr => ∃ j : Nat, j ≤ xs.length ∧ i = .int .i64 j ∧ ZAt 32 wr w.heap.size (fun r => ((fromT ts x (xs.take j) pc).2 r : Int)) ∧ wr.heap[w.heap.size + 1]? = some (.cells (zV fun _ => 0) 32 (0, 0)) ∧ RefM K1 wr b (fromT ts x (xs.take j) pc).1 ∧ Kept K w wr) (fun i _ => xs.length - (intOf i).toNat)
        case atStart => exact ⟨0, by omega, rfl, hZ3, h02, hD2, k2⟩
        case round =>
          clear hZ3 h02 hD2 k2 b1
          obtain ⟨j, hj, rfl, hZ, h0, hD, hk⟩ := hrel
          by_cases hlt : j < xs.length
          · have hlt' : (j : Int) < xs.length := by omega
            have hs1 := hvK wr hk
            obtain ⟨bb, off, eA, hat, hbl⟩ := hs1.at_ hlt
            subst eA
            have hpi : plainI xs[j] = true := HPL.out _ (List.getElem_mem hlt)
            have hlt2 : (xs.take j).length = j := by rw [List.length_take, Nat.min_eq_left (by omega)]
            have hFs : fromT ts x (xs.take (j + 1)) pc = ((oneT (fromT ts x (xs.take j) pc).1 (fromT ts x (xs.take j) pc).2 xs[j] ((pc + 4 * (xs.take j).length) % 4294967296)).1, setR (fromT ts x (xs.take j) pc).2 xs[j].rd (oneT (fromT ts x (xs.take j) pc).1 (fromT ts x (xs.take j) pc).2 xs[j] ((pc + 4 * (xs.take j).length) % 4294967296)).2) := by
              rw [takeI_snoc hlt]
              exact fromT_snoc hpc
            rw [hlt2] at hFs
            obtain ⟨fo1, fo2, fo3⟩ := fromT_ok (xs.take j) ts x pc hG hIn (fun i hi => HPL.out i (List.mem_of_mem_take hi))
            have hlF : (fromT ts x (xs.take j) pc).1.length < 1000000000 := by
              have := fromT_len (xs.take j) ts x pc ts.length hG hIn (fun i hi => HPL.out i (List.mem_of_mem_take hi)) (fun r hr => Nat.le_trans (dp_le hG (hIn r hr)) (Nat.le_of_lt (hIn r hr)))
              rw [List.length_take, Nat.min_eq_left hj] at this
              have h9 : j * (8 * (ts.length + j) + 11) ≤ 100 * (8 * (1000000 + 100) + 11) := Nat.mul_le_mul (by omega) (by omega)
              omega
            have hpj : ((pc : Int) + 4 * (j : Int)) % 4294967296 = (((pc + 4 * j) % 4294967296 : Nat) : Int) := by omega
            have HFS := Lib.hid hFs
            clear hFs fo3 hlt2 hs1
            generalize fromT ts x (xs.take j) pc = F at hZ hD HFS fo1 fo2 hlF
            generalize (pc + 4 * j) % 4294967296 = pj at HFS hpj
            generalize xs[j] = i at hat hpi HFS
            have hr : rightI i = true := by unfold plainI at hpi; rw [Bool.and_eq_true] at hpi; exact hpi.1
            obtain ⟨hrd, hrs1, hrs2⟩ := rightI_regs hr
            obtain ⟨op, rd, rs1, rs2, imm⟩ := i
            dsimp only at hrd hrs1 hrs2
            obtain ⟨r, rfl⟩ : ∃ r : Nat, rd = r := ⟨rd.toNat, by omega⟩
            obtain ⟨r1, rfl⟩ : ∃ r : Nat, rs1 = r := ⟨rs1.toNat, by omega⟩
            obtain ⟨r2, rfl⟩ : ∃ r : Nat, rs2 = r := ⟨rs2.toNat, by omega⟩
            have d0 : wr.cell? ⟨bb, off + j * 5, none⟩ = some (.int .i64 op) := hat 0 _ rfl
            have d1 : wr.cell? ⟨bb, off + j * 5 + 1, none⟩ = some (.int .i64 r) := hat 1 _ rfl
            have d2 : wr.cell? ⟨bb, off + j * 5 + 2, none⟩ = some (.int .i64 r1) := hat 2 _ rfl
            have d3 : wr.cell? ⟨bb, off + j * 5 + 3, none⟩ = some (.int .i64 r2) := hat 3 _ rfl
            have d4 : wr.cell? ⟨bb, off + j * 5 + 4, none⟩ = some (.int .i64 imm) := hat 4 _ rfl
            have bal := (Below.refl wr.heap.size wr).alloc (Nat.le_refl _) (.cells #[.int .i64 op, .int .i64 r, .int .i64 r1, .int .i64 r2, .int .i64 imm] 31)
            obtain ⟨z0, z1, z2, z3, z4⟩ := five_cells (blk_new wr (.cells #[.int .i64 op, .int .i64 r, .int .i64 r1, .int .i64 r2, .int .i64 imm] 31))
            obtain ⟨K2, hDa, kka, kna⟩ := hD.grow bal
            have kia := kna wr.heap.size (Nat.le_refl _) (by simp)
            have hZa := hZ.below bal
            have h0a := blk_below h0 bal
            have ka := hk.trans (Kept.below bal)
            have hI := rplain_any op
            have hrl1 : (r1 : Int) < 32 := by omega
            have hrl2 : (r2 : Int) < 32 := by omega
            have hx1 := fo2 r1 (by omega)
            have hx2 := fo2 r2 (by omega)
            clear hat hZ hD h0 hk bal kna hr
            have hup := up_eq imm
            have hus := us_int imm
            rcases plainI_kind hpi with hk' | hk' | ⟨o, ho, hd, h0', h1'⟩ | ⟨o, ho, hn, hd, h0', h1'⟩
            · dsimp only at hk'
              subst hk'
              obtain ⟨Q, hQ⟩ : ∃ Q, oneT F.1 F.2 ⟨0, r, r1, r2, imm⟩ pj = Q := ⟨_, rfl⟩
              have hC : ∀ w, RefM K2 w b F.1 → Calls Tryz.prog 36 #[.pointer (some ⟨b, 0, none⟩), .int .u32 (imm % 4294967296 * 4096 % 4294967296)] w fun e w' => e = .returned (.int .i64 (Q.2 : Nat)) ∧ RefM K2 w' b Q.1 ∧ Kept K2 w w' := fun w h => by
                rw [← hQ, hup]
                exact rm_const h (by omega) (up imm) (up_lt imm)
              rw [hQ] at HFS
              change ∀ w, Calls Tryz.prog 25 #[.int .i64 0] w fun e w' => e = .returned (.tuple #[.int .i64 0, .bool false]) ∧ Below w.heap.size w w' at hI
              clear hQ
              clear hpi hx1 hx2 fo1 fo2 hup hus
              go_wp2_with fail
              refine (hI _).mono ?_
              rintro rr w2 ⟨rfl, b2⟩
              have y0 := cell_below b2 z0
              have y1 := cell_below b2 z1
              have y2 := cell_below b2 z2
              have y3 := cell_below b2 z3
              have y4 := cell_below b2 z4
              have hZb := hZa.below b2
              have h0b := blk_below h0a b2
              have hDb := hDa.below b2
              have kb2 := ka.trans (Kept.below b2)
              clear hI z0 z1 z2 z3 z4 hZa h0a hDa ka b2 d0 d1 d2 d3 d4
              go_wp2_with fail
              refine (hC _ hDb).mono ?_
              rintro rr w3 ⟨rfl, hD3, k3⟩
              have y1 := k3.cell kia y1
              have hZ3 := hZb.kept k3 (kka _ k0)
              have h03 := k3.blk (kka _ k1) h0b
              have k4 := kb2.trans (k3.mono fun i hi => kka _ (kk _ hi))
              have hD4 := hD3.mono kka
              clear hC hDb hZb h0b hD3 y0 y2 y3 y4 k3 kb2
              by_cases hr0 : r = 0
              · subst hr0
                have hb0 : (decide ((0 : Int) < ((0 : Nat) : Int))) = false := rfl
                go_wp2_with fail
                go_roundw
                case rel =>
                  have hF1 : fromT ts x (xs.take (j + 1)) pc = (Q.1, F.2) := by rw [HFS.out]; rfl
                  exact ⟨j + 1, by omega, by go_num, by rw [hF1]; exact hZ3, h03, by rw [hF1]; exact hD4, k4⟩
                case measure => simp [intOf]; omega
              · have hb0 : (0 : Int) < (r : Int) := by omega
                have hrl : (r : Int) < 32 := by omega
                have hc := hZ3.cell (i := r) (by omega)
                have hf := hZ3.fro r
                go_wp2_with fail
                go_roundw
                case rel =>
                  have hF1 : fromT ts x (xs.take (j + 1)) pc = (Q.1, fun q => if q = r then Q.2 else F.2 q) := by
                    rw [HFS.out]
                    unfold setR
                    rw [if_neg (by omega)]
                    rfl
                  exact ⟨j + 1, by omega, by go_num, by rw [hF1]; exact (hZ3.set r Q.2).ext (fun q _ => by show (if q = r then _ else _) = ((if q = r then Q.2 else F.2 q : Nat) : Int); split <;> rfl), ((kept_set w3 _ r _).blk (by omega) h03), by rw [hF1]; exact hD4.moved (kept_set w3 _ r _) k0, k4.trans ((kept_set w3 _ r _).mono fun i hi e => kn0 (by rw [← e]; exact hi))⟩
                case measure => simp [intOf]; omega
            · dsimp only at hk'
              subst hk'
              obtain ⟨Q, hQ⟩ : ∃ Q, oneT F.1 F.2 ⟨1, r, r1, r2, imm⟩ pj = Q := ⟨_, rfl⟩
              have hC : ∀ w, RefM K2 w b F.1 → Calls Tryz.prog 36 #[.pointer (some ⟨b, 0, none⟩), .int .u32 ((imm % 4294967296 * 4096 + (pj : Int)) % 4294967296)] w fun e w' => e = .returned (.int .i64 (Q.2 : Nat)) ∧ RefM K2 w' b Q.1 ∧ Kept K2 w w' := fun w h => by
                rw [← hQ, up_add imm pj _ rfl]
                exact rm_const h (by omega) _ (Nat.mod_lt _ (by decide))
              rw [hQ] at HFS
              change ∀ w, Calls Tryz.prog 25 #[.int .i64 1] w fun e w' => e = .returned (.tuple #[.int .i64 0, .bool false]) ∧ Below w.heap.size w w' at hI
              clear hQ
              clear hpi hx1 hx2 fo1 fo2 hup hus
              go_wp2_with fail
              refine (hI _).mono ?_
              rintro rr w2 ⟨rfl, b2⟩
              have y0 := cell_below b2 z0
              have y1 := cell_below b2 z1
              have y2 := cell_below b2 z2
              have y3 := cell_below b2 z3
              have y4 := cell_below b2 z4
              have hZb := hZa.below b2
              have h0b := blk_below h0a b2
              have hDb := hDa.below b2
              have kb2 := ka.trans (Kept.below b2)
              clear hI z0 z1 z2 z3 z4 hZa h0a hDa ka b2 d0 d1 d2 d3 d4
              go_wp2_with fail
              refine (hC _ hDb).mono ?_
              rintro rr w3 ⟨rfl, hD3, k3⟩
              have y1 := k3.cell kia y1
              have hZ3 := hZb.kept k3 (kka _ k0)
              have h03 := k3.blk (kka _ k1) h0b
              have k4 := kb2.trans (k3.mono fun i hi => kka _ (kk _ hi))
              have hD4 := hD3.mono kka
              clear hC hDb hZb h0b hD3 y0 y2 y3 y4 k3 kb2
              by_cases hr0 : r = 0
              · subst hr0
                have hb0 : (decide ((0 : Int) < ((0 : Nat) : Int))) = false := rfl
                go_wp2_with fail
                go_roundw
                case rel =>
                  have hF1 : fromT ts x (xs.take (j + 1)) pc = (Q.1, F.2) := by rw [HFS.out]; rfl
                  exact ⟨j + 1, by omega, by go_num, by rw [hF1]; exact hZ3, h03, by rw [hF1]; exact hD4, k4⟩
                case measure => simp [intOf]; omega
              · have hb0 : (0 : Int) < (r : Int) := by omega
                have hrl : (r : Int) < 32 := by omega
                have hc := hZ3.cell (i := r) (by omega)
                have hf := hZ3.fro r
                go_wp2_with fail
                go_roundw
                case rel =>
                  have hF1 : fromT ts x (xs.take (j + 1)) pc = (Q.1, fun q => if q = r then Q.2 else F.2 q) := by
                    rw [HFS.out]
                    unfold setR
                    rw [if_neg (by omega)]
                    rfl
                  exact ⟨j + 1, by omega, by go_num, by rw [hF1]; exact (hZ3.set r Q.2).ext (fun q _ => by show (if q = r then _ else _) = ((if q = r then Q.2 else F.2 q : Nat) : Int); split <;> rfl), ((kept_set w3 _ r _).blk (by omega) h03), by rw [hF1]; exact hD4.moved (kept_set w3 _ r _) k0, k4.trans ((kept_set w3 _ r _).mono fun i hi e => kn0 (by rw [← e]; exact hi))⟩
                case measure => simp [intOf]; omega
            · have e0 : (op == 0) = false := by simpa using h0'
              have e1 : (op == 1) = false := by simpa using h1'
              obtain ⟨Q, hQ⟩ : ∃ Q, oneT F.1 F.2 ⟨op, r, r1, r2, imm⟩ pj = Q := ⟨_, rfl⟩
              have hQ2 : Q = made (ins F.1 (constT (us imm))) o (F.2 r1) (pos F.1 (constT (us imm))) := by
                rw [← hQ]
                unfold oneT
                rw [if_neg h0', if_neg h1', ho]
                rfl
              rw [hQ] at HFS
              dsimp only at ho
              rw [ho] at hI
              change ∀ w, Calls Tryz.prog 25 #[.int .i64 op] w fun e w' => e = .returned (.tuple #[.int .i64 (o : Nat), .bool true]) ∧ Below w.heap.size w w' at hI
              have hE := ext_ins F.1 (constT (us imm))
              have hl2 := (ins_len F.1 (constT (us imm))).2
              have hC : ∀ w, RefM K2 w b F.1 → Calls Tryz.prog 36 #[.pointer (some ⟨b, 0, none⟩), .int .u32 (imm % 4294967296)] w fun e w' => e = .returned (.int .i64 (pos F.1 (constT (us imm)) : Nat)) ∧ RefM K2 w' b (ins F.1 (constT (us imm))) ∧ Kept K2 w w' := fun w h => by
                rw [hus]
                exact rm_const h (by omega) (us imm) (us_lt imm)
              have hM : ∀ w, RefM K2 w b (ins F.1 (constT (us imm))) → Calls Tryz.prog 37 #[.pointer (some ⟨b, 0, none⟩), .int .i64 ((o : Nat)), .int .i64 ((F.2 r1 : Nat)), .int .i64 ((pos F.1 (constT (us imm)) : Nat))] w fun e w' => e = .returned (.tuple #[.int .i64 (Q.2 : Nat), .int .i64 0]) ∧ RefM K2 w' b Q.1 ∧ Kept K2 w w' := fun w h => by
                rw [hQ2]
                exact rm_made h o (F.2 r1) (pos F.1 (constT (us imm))) (by omega) (Nat.lt_of_lt_of_le hx1 hE.len) (pos_lt _ _) hd (fo1.const (us_lt imm))
              generalize ins F.1 (constT (us imm)) = ts1 at hC hM
              generalize pos F.1 (constT (us imm)) = n1 at hC hM
              clear hQ hQ2 hE hl2 hd ho h0' h1'
              clear hpi hx1 hx2 fo1 fo2 hup hus
              go_wp2_with fail
              refine (hI _).mono ?_
              rintro rr w2 ⟨rfl, b2⟩
              have y0 := cell_below b2 z0
              have y1 := cell_below b2 z1
              have y2 := cell_below b2 z2
              have y3 := cell_below b2 z3
              have y4 := cell_below b2 z4
              have hZb := hZa.below b2
              have h0b := blk_below h0a b2
              have hDb := hDa.below b2
              have kb2 := ka.trans (Kept.below b2)
              clear hI z0 z1 z2 z3 z4 hZa h0a hDa ka b2 d0 d1 d2 d3 d4
              go_wp2_with fail
              refine (hC _ hDb).mono ?_
              rintro rr w4 ⟨rfl, hDc, k5⟩
              have x0 := k5.cell kia y0
              have x1 := k5.cell kia y1
              have x2 := k5.cell kia y2
              have hZc := hZb.kept k5 (kka _ k0)
              have c1 := hZc.cell (i := r1) (by omega)
              have h0c := k5.blk (kka _ k1) h0b
              have kc := kb2.trans (k5.mono fun i hi => kka _ (kk _ hi))
              clear hC hDb hZb h0b y0 y1 y2 y3 y4 k5 kb2
              go_wp2_with fail
              refine (hM _ hDc).mono ?_
              rintro rr w3 ⟨rfl, hD3, k3⟩
              have y1 := k3.cell kia x1
              have hZ3 := hZc.kept k3 (kka _ k0)
              have h03 := k3.blk (kka _ k1) h0c
              have k4 := kc.trans (k3.mono fun i hi => kka _ (kk _ hi))
              have hD4 := hD3.mono kka
              clear hM hDc hZc h0c hD3 x0 x2 c1 k3 kc
              by_cases hr0 : r = 0
              · subst hr0
                have hb0 : (decide ((0 : Int) < ((0 : Nat) : Int))) = false := rfl
                go_wp2_with fail
                go_roundw
                case rel =>
                  have hF1 : fromT ts x (xs.take (j + 1)) pc = (Q.1, F.2) := by rw [HFS.out]; rfl
                  exact ⟨j + 1, by omega, by go_num, by rw [hF1]; exact hZ3, h03, by rw [hF1]; exact hD4, k4⟩
                case measure => simp [intOf]; omega
              · have hb0 : (0 : Int) < (r : Int) := by omega
                have hrl : (r : Int) < 32 := by omega
                have hc := hZ3.cell (i := r) (by omega)
                have hf := hZ3.fro r
                go_wp2_with fail
                go_roundw
                case rel =>
                  have hF1 : fromT ts x (xs.take (j + 1)) pc = (Q.1, fun q => if q = r then Q.2 else F.2 q) := by
                    rw [HFS.out]
                    unfold setR
                    rw [if_neg (by omega)]
                    rfl
                  exact ⟨j + 1, by omega, by go_num, by rw [hF1]; exact (hZ3.set r Q.2).ext (fun q _ => by show (if q = r then _ else _) = ((if q = r then Q.2 else F.2 q : Nat) : Int); split <;> rfl), ((kept_set w3 _ r _).blk (by omega) h03), by rw [hF1]; exact hD4.moved (kept_set w3 _ r _) k0, k4.trans ((kept_set w3 _ r _).mono fun i hi e => kn0 (by rw [← e]; exact hi))⟩
                case measure => simp [intOf]; omega
            · have e0 : (op == 0) = false := by simpa using h0'
              have e1 : (op == 1) = false := by simpa using h1'
              obtain ⟨Q, hQ⟩ : ∃ Q, oneT F.1 F.2 ⟨op, r, r1, r2, imm⟩ pj = Q := ⟨_, rfl⟩
              dsimp only at hn ho
              have hQ2 : Q = made F.1 o (F.2 r1) (F.2 r2) := by
                rw [← hQ]
                unfold oneT
                rw [if_neg h0', if_neg h1', hn]
                dsimp only
                rw [show op.toNat = o from by rw [ho]; rfl]
                rfl
              rw [hQ] at HFS
              rw [hn] at hI
              change ∀ w, Calls Tryz.prog 25 #[.int .i64 op] w fun e w' => e = .returned (.tuple #[.int .i64 0, .bool false]) ∧ Below w.heap.size w w' at hI
              have hM : ∀ w, RefM K2 w b F.1 → Calls Tryz.prog 37 #[.pointer (some ⟨b, 0, none⟩), .int .i64 (op), .int .i64 ((F.2 r1 : Nat)), .int .i64 ((F.2 r2 : Nat))] w fun e w' => e = .returned (.tuple #[.int .i64 (Q.2 : Nat), .int .i64 0]) ∧ RefM K2 w' b Q.1 ∧ Kept K2 w w' := fun w h => by
                rw [hQ2, ho]
                exact rm_made h o (F.2 r1) (F.2 r2) (by omega) hx1 hx2 hd fo1
              clear hQ hQ2 hd hn ho h0' h1'
              clear hpi hx1 hx2 fo1 fo2 hup hus
              go_wp2_with fail
              refine (hI _).mono ?_
              rintro rr w2 ⟨rfl, b2⟩
              have y0 := cell_below b2 z0
              have y1 := cell_below b2 z1
              have y2 := cell_below b2 z2
              have y3 := cell_below b2 z3
              have y4 := cell_below b2 z4
              have hZb := hZa.below b2
              have h0b := blk_below h0a b2
              have hDb := hDa.below b2
              have kb2 := ka.trans (Kept.below b2)
              clear hI z0 z1 z2 z3 z4 hZa h0a hDa ka b2 d0 d1 d2 d3 d4
              have c1 := hZb.cell (i := r1) (by omega)
              have c2 := hZb.cell (i := r2) (by omega)
              go_wp2_with fail
              have hdd : Below w2.heap.size w2 w2.drew := below_drewN (Below.refl _ w2) 1
              have v1 := cell_below hdd y1
              have hZc := hZb.below hdd
              have h0c := blk_below h0b hdd
              have hDc := hDb.below hdd
              have kc := kb2.trans (Kept.below hdd)
              clear hdd hZb h0b hDb kb2
              go_upto_region 21 with fail
              go_cut [13] from 42 to 121 (fun n wx => n = .int .i64 (Q.2 : Nat) ∧ RefM K2 wx b Q.1 ∧ Kept K2 w2.drew wx)
              case first =>
                clear HFS HPL HRE HR hZc h0c kc hvK kka hpj
                go_region_law ((go_simp; go_at_call 37; refine (hM _ hDc).mono ?_; rintro rr w3 ⟨rfl, hD3, k3⟩))
                all_goals (go_wp2_with fail; go_meet)
                all_goals exact ⟨rfl, hD3, k3⟩
              case rest =>
              obtain ⟨rfl, hD3, k3⟩ := hcut
              have y1 := k3.cell kia v1
              have hZ3 := hZc.kept k3 (kka _ k0)
              have h03 := k3.blk (kka _ k1) h0c
              have k4 := kc.trans (k3.mono fun i hi => kka _ (kk _ hi))
              have hD4 := hD3.mono kka
              clear hM hDc hZc h0c hD3 k3 kc y0 y2 y3 c1 c2
              by_cases hr0 : r = 0
              · subst hr0
                have hb0 : (decide ((0 : Int) < ((0 : Nat) : Int))) = false := rfl
                go_wp2_with fail
                go_roundw
                case rel =>
                  have hF1 : fromT ts x (xs.take (j + 1)) pc = (Q.1, F.2) := by rw [HFS.out]; rfl
                  exact ⟨j + 1, by omega, by go_num, by rw [hF1]; exact hZ3, h03, by rw [hF1]; exact hD4, k4⟩
                case measure => simp [intOf]; omega
              · have hb0 : (0 : Int) < (r : Int) := by omega
                have hrl : (r : Int) < 32 := by omega
                have hc := hZ3.cell (i := r) (by omega)
                have hf := hZ3.fro r
                go_wp2_with fail
                go_roundw
                case rel =>
                  have hF1 : fromT ts x (xs.take (j + 1)) pc = (Q.1, fun q => if q = r then Q.2 else F.2 q) := by
                    rw [HFS.out]
                    unfold setR
                    rw [if_neg (by omega)]
                    rfl
                  exact ⟨j + 1, by omega, by go_num, by rw [hF1]; exact (hZ3.set r Q.2).ext (fun q _ => by show (if q = r then _ else _) = ((if q = r then Q.2 else F.2 q : Nat) : Int); split <;> rfl), ((kept_set wc _ r _).blk (by omega) h03), by rw [hF1]; exact hD4.moved (kept_set wc _ r _) k0, k4.trans ((kept_set wc _ r _).mono fun i hi e => kn0 (by rw [← e]; exact hi))⟩
                case measure => simp [intOf]; omega
          · have hlt' : ¬ (j : Int) < xs.length := by omega
            obtain rfl : j = xs.length := by omega
            rw [List.take_length] at hZ hD
            have hre := HRE.out
            generalize fromT ts x xs pc = F at hZ hD hre
            have HRE2 := Lib.hid hre
            clear hre HRE
            go_wp2_with (first | (refine wpList_load_row rfl 32 (.tmp 5) rfl w.heap.size rfl 32 (zV fun r => (F.2 r : Int)) (0, 0) _ hZ Tryz.underlying32 rfl (by rw [zV_size]; exact info_arr) ?_) | (refine wpList_store_row rfl 32 (.tmp 8) (.tmp 122) rfl (w.heap.size + 1) (zV fun r => (F.2 r : Int)) rfl rfl 32 _ h0 (by rw [zV_size]; exact info_arr) rfl (zV_one _) ?_) | fail)
            exact bodyPost_ret (results_arr2 rfl _ _ (w.heap.size + 1) 32 (zV fun r => (F.2 r : Int)) (0, 0) _ _ rfl rfl (setRow_heap _ _ _ _ _ _ h0) Tryz.underlying32 rfl (by rw [zV_size]; exact info_arr)) rfl (by rw [HRE2.out]; exact ⟨rfl, (hD.moved (kept_row _ _ _) k1).mono kk, hk.trans ((kept_row _ _ _).mono fun i hi e => kn1 (by rw [← e]; exact hi))⟩)
end Go.Proofs.YtaiggfknighhgaaGreatDoor
set_option linter.unusedVariables false
set_option linter.unusedSimpArgs false
namespace Go.Proofs.YtaiggfknighhgaaGreatDoor
open Go.RowKit Go.Maps Go.MapKept

set_option maxRecDepth 100000 in
theorem rblock_any (K : Nat → Prop) (b : Nat) (ts : List Term) (B : Nat) (e : TypeId) (v : Value) (xs : List Ins) (pc : Nat) (hpc : pc < 4294967296) (hl : ts.length ≤ 90000) (hxs : xs.length ≤ 100) (hG : Good ts) (w : World) (h : RefM K w b ts) (hvK : ∀ w', Kept K w w' → SlN B e 5 Ins.five w' v xs) :
    Calls Tryz.prog 10 #[.pointer (some ⟨b, 0, none⟩), v, .int .u32 pc] w (FromR K b w (blockO ts xs pc)) := by
  have b1 := (Below.refl w.heap.size w).alloc (Nat.le_refl _) (.cells #[.int .i64 0, .int .i64 0, .int .i64 0, .int .i64 0, .int .i64 0, .int .i64 0, .int .i64 0, .int .i64 0, .int .i64 0, .int .i64 0, .int .i64 0, .int .i64 0, .int .i64 0, .int .i64 0, .int .i64 0, .int .i64 0, .int .i64 0, .int .i64 0, .int .i64 0, .int .i64 0, .int .i64 0, .int .i64 0, .int .i64 0, .int .i64 0, .int .i64 0, .int .i64 0, .int .i64 0, .int .i64 0, .int .i64 0, .int .i64 0, .int .i64 0, .int .i64 0] 32)
  have hz0 := blk_new w (.cells #[.int .i64 0, .int .i64 0, .int .i64 0, .int .i64 0, .int .i64 0, .int .i64 0, .int .i64 0, .int .i64 0, .int .i64 0, .int .i64 0, .int .i64 0, .int .i64 0, .int .i64 0, .int .i64 0, .int .i64 0, .int .i64 0, .int .i64 0, .int .i64 0, .int .i64 0, .int .i64 0, .int .i64 0, .int .i64 0, .int .i64 0, .int .i64 0, .int .i64 0, .int .i64 0, .int .i64 0, .int .i64 0, .int .i64 0, .int .i64 0, .int .i64 0, .int .i64 0] 32)
  rw [zV_zero] at hz0
  have hsz : (w.alloc (.cells #[.int .i64 0, .int .i64 0, .int .i64 0, .int .i64 0, .int .i64 0, .int .i64 0, .int .i64 0, .int .i64 0, .int .i64 0, .int .i64 0, .int .i64 0, .int .i64 0, .int .i64 0, .int .i64 0, .int .i64 0, .int .i64 0, .int .i64 0, .int .i64 0, .int .i64 0, .int .i64 0, .int .i64 0, .int .i64 0, .int .i64 0, .int .i64 0, .int .i64 0, .int .i64 0, .int .i64 0, .int .i64 0, .int .i64 0, .int .i64 0, .int .i64 0, .int .i64 0] 32)).heap.size = w.heap.size + 1 := by simp
  have hD := h.more b1
  generalize hK : More K w (w.alloc (.cells #[.int .i64 0, .int .i64 0, .int .i64 0, .int .i64 0, .int .i64 0, .int .i64 0, .int .i64 0, .int .i64 0, .int .i64 0, .int .i64 0, .int .i64 0, .int .i64 0, .int .i64 0, .int .i64 0, .int .i64 0, .int .i64 0, .int .i64 0, .int .i64 0, .int .i64 0, .int .i64 0, .int .i64 0, .int .i64 0, .int .i64 0, .int .i64 0, .int .i64 0, .int .i64 0, .int .i64 0, .int .i64 0, .int .i64 0, .int .i64 0, .int .i64 0, .int .i64 0] 32)) = K1 at hD
  have k0 : K1 w.heap.size := by rw [← hK]; exact Or.inr ⟨Nat.le_refl _, by omega⟩
  have kk : ∀ i, K i → K1 i := fun i hi => by rw [← hK]; exact Or.inl hi
  have kn0 : ¬ K w.heap.size := fun hh => by have := h.in_ _ hh; omega
  have kb := Kept.below (K := K) b1
  have hA := rallI_any B e v xs _ (hvK _ kb)
  have hR : FromR K b w (blockO ts xs pc) = FromR K b w (blockO ts xs pc) := rfl
  generalize hRR : blockO ts xs pc = R at hR
  have HR := Lib.hid hRR
  clear hK h hsz hRR hR
  cases hod : oddL xs with
  | true =>
    have hRe : R = (ts, fun _ => 0, 120) := by rw [← HR.out]; unfold blockO; rw [if_pos hod]
    rw [hod] at hA
    have HRE := Lib.hid hRe
    clear hRe hod
    go_enter Tryz.func10, Tryz.ntmps10
    go_wp2_with fail
    refine hA.mono ?_
    rintro r w1 ⟨rfl, b2⟩
    have h02 := blk_below hz0 b2
    have hD2 := hD.below b2
    have k2 := kb.trans (Kept.below b2)
    clear hz0
    go_wp2_with (first | (refine wpList_store_row rfl 32 (.tmp 6) (.tmp 11) rfl w.heap.size (zV fun _ => 0) rfl (by rw [← zV_zero]; rfl) 32 _ h02 (by rw [zV_size]; exact info_arr) rfl (zV_one _) ?_) | fail)
    exact bodyPost_ret (results_arr2 rfl _ _ w.heap.size 32 (zV fun _ => 0) (0, 0) _ _ rfl rfl (setRow_heap _ _ _ _ _ _ h02) Tryz.underlying32 rfl (by rw [zV_size]; exact info_arr)) rfl (by rw [HRE.out]; exact ⟨rfl, (hD2.moved (kept_row _ _ _) k0).mono kk, k2.trans ((kept_row _ _ _).mono fun i hi e => kn0 (by rw [← e]; exact hi))⟩)
  | false =>
    have hRe : R = ((blockT ts xs pc).1, fun r => (((blockT ts xs pc).2 r : Nat) : Int), 0) := by rw [← HR.out]; unfold blockO; rw [if_neg (by rw [hod]; decide)]
    have hpl := oddL_false hod
    have hS := fun w h => rstart_any K1 b ts (by omega) w h
    have gS := startT_good hG 32 (Nat.le_refl _)
    have lS := startT_len ts 32
    have hF := fun w hs h hv => rfrom_any K1 b (startT ts 32).1 (startZ ts 32) B e v xs pc hpc (by omega) hxs gS w hs h hv
    rw [fromO_ok (okX_start ts) hod, toN_startZ] at hF
    rw [hod] at hA
    change ∀ w, SlN B e 5 Ins.five w v xs → RefM K1 w b (startT ts 32).1 → (∀ w', Kept K1 w w' → SlN B e 5 Ins.five w' v xs) → Calls Tryz.prog 14 #[.pointer (some ⟨b, 0, none⟩), .agg (zV (startZ ts 32)), v, .int .u32 pc] w fun r w' => r = .returned (.tuple #[.agg (zV fun r => (((blockT ts xs pc).2 r : Nat) : Int)), .int .i64 0]) ∧ RefM K1 w' b (blockT ts xs pc).1 ∧ Kept K1 w w' at hF
    have HRE := Lib.hid hRe
    clear hRe hod HR hpl gS lS
    generalize (startT ts 32).1 = ts1 at hS hF
    generalize startZ ts 32 = z1 at hS hF
    generalize blockT ts xs pc = F at hF HRE
    go_enter Tryz.func10, Tryz.ntmps10
    go_wp2_with fail
    refine hA.mono ?_
    rintro r w1 ⟨rfl, b2⟩
    have h02 := blk_below hz0 b2
    have hD2 := hD.below b2
    have k2 := kb.trans (Kept.below b2)
    clear hz0 hA hD kb b1
    go_wp2_with fail
    refine (hS _ hD2).mono ?_
    rintro r w3 ⟨rfl, hD3, k3⟩
    have h03 := k3.blk k0 h02
    have k4 := k2.trans (k3.mono kk)
    clear hS h02 hD2 k2 k3 b2
    go_wp2_with fail
    refine (hF _ (hvK _ k4) hD3 (fun w' hk => hvK _ (k4.trans (hk.mono kk)))).mono ?_
    rintro r w5 ⟨rfl, hD5, k5⟩
    have h05 := k5.blk k0 h03
    have k6 := k4.trans (k5.mono kk)
    clear hF h03 hD3 k4 k5
    go_wp2_with (first | (refine wpList_store_row rfl 32 (.tmp 6) (.tmp 18) rfl w.heap.size (zV fun r => ((F.2 r : Nat) : Int)) rfl rfl 32 _ h05 (by rw [zV_size]; exact info_arr) rfl (zV_one _) ?_) | fail)
    exact bodyPost_ret (results_arr2 rfl _ _ w.heap.size 32 (zV fun r => ((F.2 r : Nat) : Int)) (0, 0) _ _ rfl rfl (setRow_heap _ _ _ _ _ _ h05) Tryz.underlying32 rfl (by rw [zV_size]; exact info_arr)) rfl (by rw [HRE.out]; exact ⟨rfl, (hD5.moved (kept_row _ _ _) k0).mono kk, k6.trans ((kept_row _ _ _).mono fun i hi e => kn0 (by rw [← e]; exact hi))⟩)
end Go.Proofs.YtaiggfknighhgaaGreatDoor
