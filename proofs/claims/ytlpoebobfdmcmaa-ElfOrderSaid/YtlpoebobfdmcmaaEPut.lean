/- put: a number's bytes. -/
import Derived.Test.YtlpoebobfdmcmaaEClone
import Derived.Deep.RegionHeld3
import Derived.Deep.AppendLies
import Derived.Deep.RegionLaw
set_option linter.unusedVariables false
set_option linter.unusedSimpArgs false
namespace Go.Proofs.Ytlpoebobfdmcmaa
open Go.RowKit

/-- All stays but rows of the types U from block B on. -/
structure Keep (B : Nat) (U : List TypeId) (W W' : World) : Prop where
  os : W'.os = W.os
  tape : W'.tape = W.tape
  output : W'.output = W.output
  size : W.heap.size ≤ W'.heap.size
  old : ∀ b, b < W.heap.size → (∀ cur e fz, W.heap[b]? = some (.cells cur e fz) → B ≤ b → e ∉ U) → W'.heap[b]? = W.heap[b]?
theorem Keep.refl (B : Nat) (U : List TypeId) (W : World) : Keep B U W W := ⟨rfl, rfl, rfl, Nat.le_refl _, fun _ _ _ => rfl⟩
theorem Keep.trans {B : Nat} {U : List TypeId} {W W1 W2 : World} (h : Keep B U W W1) (k : Keep B U W1 W2) : Keep B U W W2 :=
  ⟨k.os.trans h.os, k.tape.trans h.tape, k.output.trans h.output, Nat.le_trans h.size k.size, fun b hb hx => by
    have e := h.old b hb hx
    rw [k.old b (Nat.lt_of_lt_of_le hb h.size) (fun cur t fz hc => hx cur t fz (by rw [← e]; exact hc)), e]⟩
theorem Keep.below {B : Nat} {U : List TypeId} {W W' : World} (h : Keep B U W W') (hB : B ≤ W.heap.size) : Below B W W' :=
  ⟨h.os, h.tape, h.output, h.size, fun b hb => h.old b (Nat.lt_of_lt_of_le hb hB) (fun _ _ _ _ h1 => by omega)⟩
theorem Keep.of_below {B : Nat} {U : List TypeId} {W W' : World} (h : Below W.heap.size W W') : Keep B U W W' := ⟨h.os, h.tape, h.output, h.size, fun b hb _ => h.block b hb⟩
theorem Keep.blk {B : Nat} {U : List TypeId} {W W' : World} (h : Keep B U W W') {b : Nat} {cs : Array Value} {t : TypeId} {fz : Nat × Nat} (hb : W.heap[b]? = some (.cells cs t fz)) (ht : t ∉ U) : W'.heap[b]? = some (.cells cs t fz) := by
  rw [h.old b (Array.getElem?_eq_some_iff.1 hb).1 (fun cur e fz' hc _ => by rw [hb] at hc; injection hc with hc; injection hc with _ e2 _; subst e2; exact ht)]
  exact hb
theorem Keep.row {B : Nat} {U : List TypeId} {W W' : World} {g : Nat} {cs : Array Value} {t : TypeId} {fz : Nat × Nat} (hg : W.grownBy W' (some g)) (hb : W.heap[g]? = some (.cells cs t fz)) (hB : B ≤ g) (ht : t ∈ U) : Keep B U W W' :=
  ⟨hg.os, hg.tape, hg.output, hg.size, fun b hlt hx => hg.block b hlt (fun e => by injection e with e; subst e; exact hx _ _ _ hb hB ht)⟩
theorem Keep.own {α : Type} {B : Nat} {U : List TypeId} {e : TypeId} {R : Rep α} {W W' : World} {v : Value} {xs : List α} (h : Own B e R W v xs) (hg : W.grownBy W' v.ownBlock) (he : e ∈ U) : Keep B U W W' := by
  cases hv : v.ownBlock with
  | none => rw [hv] at hg; exact ⟨hg.os, hg.tape, hg.output, hg.size, fun b hlt _ => hg.block b hlt (by simp)⟩
  | some g =>
    obtain ⟨hB, cur, hc⟩ := h.typed hv
    rw [hv] at hg
    exact Keep.row hg hc hB he
def U8 : Rep UInt8 := fun _ v x => v = .int .u8 (x.toNat : Int)
theorem stable_u8 (B : Nat) (T : List TypeId) : Stable B T U8 := fun _ _ _ _ _ h => h
/-- the n lowest bytes of x, the lowest first. -/
def leB (x n : Nat) : List UInt8 := (List.range n).map fun i => UInt8.ofNat (x / 2 ^ (8 * i))
theorem leB_succ (x n : Nat) : leB x (n + 1) = leB x n ++ [UInt8.ofNat (x / 2 ^ (8 * n))] := by simp [leB, List.range_succ]
theorem leB_len (x n : Nat) : (leB x n).length = n := by simp [leB]
theorem shift_law (x k : Nat) (hk : k ≤ 3) (W : World) : (Op.shift BinOp.shr IntKind.u32 (x : Int) IntKind.i64 (IntKind.i64.wrap (8 * (k : Int)))).run Try.prog W = .ok (.int .u32 ((x / 2 ^ (8 * k) : Nat) : Int)) W := by
  have e : IntKind.i64.wrap (8 * (k : Int)) = ((8 * k : Nat) : Int) := by rw [IntKind.wrap_i64]; omega
  rw [e]
  have e2 : min (((8 * k : Nat) : Int)).toNat IntKind.u32.bits = 8 * k := by
    show min (((8 * k : Nat) : Int)).toNat 32 = 8 * k
    omega
  simp only [Op.shift, e2]
  rw [if_neg (by omega)]
  show Result.ok _ _ = _
  congr 2
  rw [Int.fdiv_eq_ediv_of_nonneg _ (by exact_mod_cast Nat.zero_le _)]
  exact_mod_cast rfl
theorem conv_law (y : Nat) : IntKind.u8.wrap (y : Int) = ((UInt8.ofNat y).toNat : Int) := by
  rw [IntKind.wrap_u8]
  simp

set_option maxRecDepth 100000 in
set_option maxHeartbeats 800000 in
theorem put_any (B wb : Nat) (l : List UInt8) (vs : Value) (x n : Nat) (w : World) (hx : x < 4294967296) (hn : n ≤ 4) (hl : l.length ≤ 100000) (hB : B ≤ wb)
    (hw : w.heap[wb]? = some (.cells #[vs] 47 (0, 0))) (ho : Own B 5 U8 w vs l) :
    Calls Try.prog 18 #[.pointer (some ⟨wb, 0, none⟩), .int .u32 x, .int .i64 n] w fun r w' => r = .returned (.tuple #[]) ∧ ∃ vs', w'.heap[wb]? = some (.cells #[vs'] 47 (0, 0)) ∧ Own B 5 U8 w' vs' (l ++ leB x n) ∧ Keep B [5, 47] w w' := by
  go_enter Try.func18, Try.ntmps18
  go_wp2
  go_loopw [8] (fun i wr => ∃ k : Nat, k ≤ n ∧ i = .int .i64 k ∧ ∃ vr, wr.heap[wb]? = some (.cells #[vr] 47 (0, 0)) ∧ Own B 5 U8 wr vr (l ++ leB x k) ∧ Keep B [5, 47] w wr) (fun i _ => n - (intOf i).toNat)
  case atStart => exact ⟨0, Nat.zero_le _, rfl, vs, hw, by simpa [leB] using ho, Keep.refl _ _ _⟩
  case round =>
    obtain ⟨k, hk, rfl, vr, hwr, hor, hkr⟩ := hrel
    have hsz := hkr.size
    have hwb := (Array.getElem?_eq_some_iff.1 hw).1
    have hc := cell_of hwr 0
    simp only [List.getElem?_toArray, List.getElem?_cons_zero] at hc
    have hf := frozen_of hwr 0
    have hca := fun o => cell_alloc0 hc o
    have hll : (l ++ leB x k).length ≤ 100004 := by simp [leB_len]; omega
    by_cases hlt : k < n
    · have hsh := shift_law x k (by omega)
      have hcv := conv_law (x / 2 ^ (8 * k))
      have hB8 := Lib.hid (leB_succ x k)
      generalize x / 2 ^ (8 * k) = y at hsh hcv hB8
      generalize UInt8.ofNat y = b8 at hcv hB8
      obtain ⟨l2, hl2⟩ : ∃ z : List UInt8, z = l ++ leB x k ++ [b8] := ⟨_, rfl⟩
      have R := Lib.hid (show l2 = l ++ leB x (k + 1) by rw [hl2, hB8.out, List.append_assoc])
      have HL2 := Lib.hid hl2
      clear hl2
      have hod : Own B 5 U8 wr.drew vr (l ++ leB x k) := hor.move (stable_u8 _ _) (Quiet.below ((Below.refl _ _).drew)) (T := [5]) (by decide)
      have hwrd : wr.drew.heap[wb]? = some (.cells #[vr] 47 (0, 0)) := hwr
      go_wp2_with fail
      go_region_law (first
        | (refine step_push (w0 := wr) (W := wr.drew) B (by rfl) (.tmp 15) (.tmp 21) 40 5 _ 1 (by rfl) Try.underlying40 info_u8 rfl (by decide) [] hod (stable_u8 _ _) (by decide) (show U8 _ _ b8 from rfl) (by rfl) (by rfl) (by rfl) (Below.refl B wr).drew (show B ≤ wr.heap.size by omega) (by omega) ?_; intro v1 w1 ho1 hB1 hg1; rw [← HL2.out] at ho1; obtain ⟨A1, c1, rfl, _, _, _⟩ := (ho1.toSl 0).open_; have hwr1 := hod.other hg1 hwrd (by simp); have hc1 := cell_of hwr1 0; simp only [List.getElem?_toArray, List.getElem?_cons_zero] at hc1; have hf1 := frozen_of hwr1 0))
      all_goals
        have hk1 := Keep.own hod hg1 (U := [5, 47]) (by decide)
        have hk0 : Keep B [5, 47] wr wr.drew := Keep.of_below ((Below.refl _ _).drew)
        have hk2 := Keep.row (grown_set w1 wb 0 (.slice A1 l2.length c1)) hwr1 hB (U := [5, 47]) (by decide)
        have hk3 := ((hkr.trans hk0).trans hk1).trans hk2
        have hwr2 := blk_set hwr1 0 (.slice A1 l2.length c1)
        have ho2 := ho1.move (stable_u8 _ _) (Quiet.set hwr1 (B := B) (T := [5]) hB (by decide) 0 (.slice A1 l2.length c1)) (by decide)
        go_wp2
        go_roundw
        case rel => exact ⟨k + 1, by omega, by go_num, _, hwr2, R.out ▸ ho2, hk3⟩
        case measure => simp [intOf] <;> omega
    · go_wp2
      go_end0
      have : k = n := by omega
      subst this
      exact ⟨rfl, vr, hwr, hor, hkr⟩
end Go.Proofs.Ytlpoebobfdmcmaa
