/- A slice of segments of the call's own: append. -/
import Derived.Test.YtlpoebobfdmcmaaERows
import Derived.Test.YtlpoebobfdmcmaaEClone
set_option linter.unusedVariables false
set_option linter.unusedSimpArgs false
namespace Go.Proofs.Ytlpoebobfdmcmaa
open Go.RowKit

def Seg.four (g : Seg) : List Value := [.int .u32 g.addr, .string g.data, .int .i64 g.size, .int .i64 g.flags]
def cells4 (xs : List Seg) : List Value := xs.flatMap Seg.four
theorem cells4_len (xs : List Seg) : (cells4 xs).length = xs.length * 4 := by
  induction xs with
  | nil => rfl
  | cons g r ih => show (g.four ++ cells4 r).length = _; rw [List.length_append, ih, List.length_cons]; simp [Seg.four]; omega
theorem cells4_app (xs ys : List Seg) : cells4 (xs ++ ys) = cells4 xs ++ cells4 ys := by simp [cells4]
theorem cells4_at {xs : List Seg} {k : Nat} {g : Seg} (h : xs[k]? = some g) (j : Nat) (hj : j < 4) : (cells4 xs)[k * 4 + j]? = g.four[j]? := by
  induction xs generalizing k with
  | nil => simp at h
  | cons x r ih =>
    show (x.four ++ cells4 r)[k * 4 + j]? = _
    have hx : x.four.length = 4 := rfl
    cases k with
    | zero =>
      simp only [List.getElem?_cons_zero, Option.some.injEq] at h
      subst h
      rw [List.getElem?_append_left (by omega)]
      simp
    | succ k =>
      simp only [List.getElem?_cons_succ] at h
      rw [List.getElem?_append_right (by omega), ← ih h]
      congr 1
      omega
def OwnG (B : Nat) : Rep (List Seg) := fun w v xs => w.ownsRow B 36 4 v xs.length (cells4 xs) ∧ ∀ g ∈ xs, g.Fits
theorem OwnG.nil (B : Nat) (w : World) : OwnG B w (.slice none 0 0) [] := ⟨World.ownsRow_nil w B 36 4, by simp⟩
theorem OwnG.empty {B : Nat} {w : World} {g : Nat} (hB : B ≤ g) (hg : w.heap.size = g) : OwnG B (w.alloc (.cells #[] 36)) (.slice (some ⟨g, 0, none⟩) 0 0) [] := by
  subst hg
  exact ⟨show World.ownsRow _ B 36 4 _ 0 [] by simpa using World.ownsRow_lit (base := B) (e := 36) (size := 4) w #[] 0 hB (Nat.zero_le _) (by simp), by simp⟩
theorem OwnG.typed {B : Nat} {w : World} {v : Value} {xs : List Seg} (h : OwnG B w v xs) {g : Nat} (hg : v.ownBlock = some g) : B ≤ g ∧ ∃ cur, w.heap[g]? = some (.cells cur 36 (0, 0)) := by
  rcases h.1.2 with ⟨rfl, _⟩ | ⟨g', cap, cur, rfl, hb, hh, _⟩
  · simp [Value.ownBlock] at hg
  · simp only [Value.ownBlock, Option.some.injEq] at hg
    subst hg
    exact ⟨hb, cur, hh⟩
theorem OwnG.toSegs {B : Nat} {w : World} {v : Value} {xs : List Seg} (h : OwnG B w v xs) (B' : Nat) : Segs B' w v xs := by
  obtain ⟨h2, hf⟩ := h
  rcases h2.2 with ⟨rfl, hn⟩ | ⟨g, cap, cur, rfl, hb, hh, hc1, hc2, hc3, htake⟩
  · have : xs = [] := List.eq_nil_of_length_eq_zero hn
    subst this
    exact ⟨none, 0, rfl, Nat.le_refl _, Nat.zero_le _, fun _ => rfl, by simp, fun h => absurd h (by simp)⟩
  · refine ⟨_, cap, rfl, hc1, hc2, (fun h => by cases h), hf, fun hn => ⟨g, 0, rfl, (Array.getElem?_eq_some_iff.1 hh).1, Or.inr ⟨cur, _, hh⟩, fun k x hk => ?_⟩⟩
    have hlt : k < xs.length := (List.getElem?_eq_some_iff.1 hk).1
    have hat : ∀ j, j < 4 → w.cell? ⟨g, 0 + k * 4 + j, none⟩ = x.four[j]? := fun j hj => by
      rw [Nat.zero_add, World.ownsRow.cellAt (w := w) h2 (k * 4 + j) (by omega), cells4_at hk j hj]
    exact ⟨hat 0 (by omega), hat 1 (by omega), hat 2 (by omega), hat 3 (by omega)⟩
theorem OwnG.move {B : Nat} {T : List TypeId} {w w' : World} {v : Value} {xs : List Seg} (h : OwnG B w v xs) (hq : Quiet B T w w') (he : 36 ∈ T) : OwnG B w' v xs := by
  have ht := fun g => h.typed (g := g)
  obtain ⟨h2, hf⟩ := h
  obtain ⟨row, hg, hr⟩ := hq.out
  refine ⟨h2.kept hg ?_, hf⟩
  cases hv : v.ownBlock with
  | none => exact Or.inl rfl
  | some g =>
    refine Or.inr fun e1 => ?_
    obtain ⟨_, cur, hc⟩ := ht g hv
    exact (hr g e1.symm).2 cur _ _ hc he
theorem OwnG.other {B : Nat} {w w' : World} {v : Value} {xs : List Seg} (h : OwnG B w v xs) (hg : w.grownBy w' v.ownBlock) {b : Nat} {o : Obj} (hb : w.heap[b]? = some o) (ho : ∀ cur fz, o ≠ .cells cur 36 fz) : w'.heap[b]? = some o := by
  refine (hg.block b (Array.getElem?_eq_some_iff.1 hb).1 fun e1 => ?_).trans hb
  obtain ⟨_, cur, hc⟩ := h.typed e1.symm
  rw [hb] at hc
  injection hc with hc
  exact ho _ _ hc
theorem OwnG.below {B : Nat} {w0 w w' : World} {v : Value} {xs : List Seg} (h : OwnG B w v xs) (hb : Below B w0 w) (hg : w.grownBy w' v.ownBlock) (hB : B ≤ w.heap.size) : Below B w0 w' :=
  hb.grown hg hB fun g e1 => (h.typed e1).1
theorem info_seg : (Try.prog.info? 36).map (fun i => (i.zero, i.size, i.bytes)) = some (some (.agg #[.int .u32 0, .string ⟨#[]⟩, .int .i64 0, .int .i64 0]), 4, 40) := by kernel_rfl
section
variable {ops : Array Oper} {rest : List Oper} {o : Oper} {a : Act} {Q : Exit → Act → World → Prop}
theorem wp_pushG {K : Act → World → Prop} {w0 W : World} (B : Nat) (s x : Operand)
    (ho : o.op = .call { callee := .builtin .append, args := #[s, x], argTypes := #[23, 23] })
    {v : Value} {xs : List Seg} (HO : OwnG B W v xs) (g : Seg) (hf : g.Fits) (hs : a.eval s = v) (hx : a.eval x = .slice (some ⟨W.heap.size, 0, none⟩) 1 1) (HB : Below B w0 W) (hbase : B ≤ W.heap.size) (hl : xs.length ≤ 1000000)
    (h : ∀ v1 w1, OwnG B w1 v1 (xs ++ [g]) → Below B w0 w1 → W.grownBy w1 v.ownBlock → K (a.put o.dst v1) w1) :
    o.wp Try.prog a (W.alloc (.cells #[.int .u32 g.addr, .string g.data, .int .i64 g.size, .int .i64 g.flags] 36)) K Q := by
  obtain ⟨i0, hi, hzz⟩ := Option.map_eq_some_iff.1 info_seg
  simp only [Prod.mk.injEq] at hzz
  obtain ⟨hz0, hz1, hz2⟩ := hzz
  obtain ⟨v1, w1, hr, h2, h3, h4, h5⟩ := run_append_own_at (P := Try.prog) (W.alloc (.cells #[.int .u32 g.addr, .string g.data, .int .i64 g.size, .int .i64 g.flags] 36)) B 23 o.type 36 i0 _ 4 40 Try.underlying23 hi hz0 hz1 hz2 (by rfl) (by omega) v xs.length (cells4 xs) (HO.1.alloc _) ⟨W.heap.size, 0, none⟩ 1 1 g.four (by rfl)
    (fun j u hj => by
      have hb := blk_new W (.cells #[.int .u32 g.addr, .string g.data, .int .i64 g.size, .int .i64 g.flags] 36)
      have hadd : (⟨W.heap.size, 0, none⟩ : Addr).add j = ⟨W.heap.size, j, none⟩ := by unfold Addr.add; split <;> simp_all
      rw [hadd, cell_of hb j, ← hj]
      simp [Seg.four])
    (by intro u hu; simp [Seg.four] at hu; rcases hu with rfl | rfl | rfl | rfl <;> rfl) (by simp only [maxLen]; omega) (by omega) (by simp; omega)
  have hg2 : W.grownBy w1 v.ownBlock := World.grownBy.trans (World.grownBy_alloc W _ _) h3
  unfold Oper.wp execOp
  simp only [ho, resolve, invoke, builtin, Sem.run_bind, Sem.run_pure, Result.andThen_ok, List.map_toArray, List.map_cons, List.map_nil, hs, hx, hr]
  refine h v1 w1 ⟨by rw [cells4_app, List.length_append]; exact (show cells4 [g] = g.four by simp [cells4]) ▸ h2, fun y hy => ?_⟩ (HO.below HB hg2 hbase) hg2
  rcases List.mem_append.1 hy with hy | hy
  · exact HO.2 y hy
  · rw [List.mem_singleton.1 hy]; exact hf
theorem wpList_pushG {w0 W : World} (B : Nat) (hgd : o.guard = none) (s x : Operand)
    (ho : o.op = .call { callee := .builtin .append, args := #[s, x], argTypes := #[23, 23] })
    {v : Value} {xs : List Seg} (HO : OwnG B W v xs) (g : Seg) (hf : g.Fits) (hs : a.eval s = v) (hx : a.eval x = .slice (some ⟨W.heap.size, 0, none⟩) 1 1) (HB : Below B w0 W) (hbase : B ≤ W.heap.size) (hl : xs.length ≤ 1000000)
    (h : ∀ v1 w1, OwnG B w1 v1 (xs ++ [g]) → Below B w0 w1 → W.grownBy w1 v.ownBlock → wpList Try.prog ops Q rest (a.put o.dst v1) w1) :
    wpList Try.prog ops Q (o :: rest) a (W.alloc (.cells #[.int .u32 g.addr, .string g.data, .int .i64 g.size, .int .i64 g.flags] 36)) :=
  wpList_plain hgd fun K hK => wp_pushG B s x ho HO g hf hs hx HB hbase hl fun v1 w1 h2 h3 h4 => hK _ _ (h v1 w1 h2 h3 h4)
theorem step_pushG {K : Act → World → Prop} {E : Prop} {w0 W : World} (B : Nat) (hgd : o.guard = none) (s x : Operand)
    (ho : o.op = .call { callee := .builtin .append, args := #[s, x], argTypes := #[23, 23] })
    {v : Value} {xs : List Seg} (HO : OwnG B W v xs) (g : Seg) (hf : g.Fits) (hs : a.eval s = v) (hx : a.eval x = .slice (some ⟨W.heap.size, 0, none⟩) 1 1) (HB : Below B w0 W) (hbase : B ≤ W.heap.size) (hl : xs.length ≤ 1000000)
    (h : ∀ v1 w1, OwnG B w1 v1 (xs ++ [g]) → Below B w0 w1 → W.grownBy w1 v.ownBlock → K (a.put o.dst v1) w1) :
    if Region.wanted o (yielded ops a.tmps) = true then o.wp Try.prog a (W.alloc (.cells #[.int .u32 g.addr, .string g.data, .int .i64 g.size, .int .i64 g.flags] 36)) K Q else E := by
  rw [if_pos (by simp [Region.wanted, hgd])]
  exact wp_pushG B s x ho HO g hf hs hx HB hbase hl h
end
end Go.Proofs.Ytlpoebobfdmcmaa
