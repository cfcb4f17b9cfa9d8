/- simp: among, shift, known, the zeros behind a word. -/
import Derived.Test.YtaiggfknighhgaaGreatDoorTLit
import Derived.Lib.TrailingZeros
import Derived.LoopTactic
set_option linter.unusedVariables false
set_option linter.unusedSimpArgs false
namespace Go.Proofs.YtaiggfknighhgaaGreatDoor
open Go.RowKit Go.Maps Go.MapKept

/-- math/bits' table. -/
structure Tab (w : World) : Prop where mk_ ::
  at_ : ∀ j, j < 32 → w.cell? ⟨0, j, none⟩ = some (.int .u8 ((Lib.deBruijn32tab.getD j 0 : Nat) : Int))
theorem Tab.kept {K : Nat → Prop} {w w' : World} (h : Tab w) (hk : Kept K w w') (hg : K 0) : Tab w' := ⟨fun j hj => hk.cell hg (h.at_ j hj)⟩
theorem Tab.below {w w' : World} (h : Tab w) (hb : Below w.heap.size w w') : Tab w' := ⟨fun j hj => cell_below hb (h.at_ j hj)⟩
theorem Tab.alloc {w : World} (h : Tab w) (o : Obj) : Tab (w.alloc o) := h.below ((Below.refl _ _).alloc (Nat.le_refl _) _)
theorem DagAt.alloc {K : Nat → Prop} {w : World} {b : Nat} {ts : List Term} (h : DagAt K w b ts) (o : Obj) : DagAt K (w.alloc o) b ts := h.below ((Below.refl _ _).alloc (Nat.le_refl _) _)
theorem u32_and_sub (x : Nat) (hx : x < 4294967296) (hx0 : x ≠ 0) : bits BinOp.and IntKind.u32 (x : Int) (-(x : Int) % 4294967296) = ((2 ^ Lib.ctz 32 x : Nat) : Int) ∧ Lib.ctz 32 x < 32 := by
  obtain ⟨hlow, hk⟩ := Lib.lowest_bit 32 x hx0 hx
  rw [show (2 : Nat) ^ 32 = 4294967296 from rfl] at hlow
  have e1 : -(x : Int) % 4294967296 = ((4294967296 - x : Nat) : Int) := by omega
  refine ⟨?_, hk⟩
  rw [e1, u32_and x _ hx (by omega), hlow]
theorem tz_idx (k : Nat) : ((2 ^ k : Nat) : Int) * 125613361 % 4294967296 / 134217728 = ((2 ^ k * 125613361 % 4294967296 / 134217728 : Nat) : Int) := by
  generalize 2 ^ k = p
  omega
set_option maxRecDepth 100000 in
theorem tz32_core (x k j : Nat) (p : Int) (w : World) (hne : ((x : Int) == 0) = false) (hb : bits BinOp.and IntKind.u32 (x : Int) (-(x : Int) % 4294967296) = p) (hidx : p * 125613361 % 4294967296 / 134217728 = (j : Int))
    (hi : j < 32) (hk : k < 32) (hcell : w.cell? ⟨0, j, none⟩ = some (.int .u8 (k : Int))) :
    Calls Tryz.prog 109 #[.int .u32 x] w fun e w' => e = .returned (.int .i64 (k : Nat)) ∧ w = w' := by
  go_enter Tryz.func109, Tryz.ntmps109
  go_wp2_with (simp only [hb, hidx])
  go_ret
  exact ⟨rfl, rfl⟩
theorem tz32_zero (w : World) : Calls Tryz.prog 109 #[.int .u32 0] w fun e w' => e = .returned (.int .i64 32) ∧ w = w' := by
  go_enter Tryz.func109, Tryz.ntmps109
  go_wp2_with fail
  go_ret
  exact ⟨rfl, rfl⟩
theorem tz32_any (x : Nat) (hx : x < 4294967296) (w : World) (hT : Tab w) :
    Calls Tryz.prog 109 #[.int .u32 x] w fun e w' => e = .returned (.int .i64 (Lib.ctz 32 x : Nat)) ∧ w = w' := by
  by_cases h0 : x = 0
  · subst h0
    exact tz32_zero w
  · have hne : ((x : Int) == 0) = false := by simp; omega
    obtain ⟨hb, hk⟩ := u32_and_sub x hx h0
    obtain ⟨hi, htab⟩ := Lib.deBruijn32_at _ hk
    have hcell := hT.at_ _ hi
    rw [htab] at hcell
    exact tz32_core x _ _ _ w hne hb (tz_idx _) hi hk hcell

/-- One of some. -/
def hasI (op : Int) (l : List Int) : Bool := l.any fun k => k == op
theorem hasI_snoc (op : Int) (l : List Int) (k : Int) : hasI op (l ++ [k]) = (hasI op l || k == op) := by simp [hasI]
theorem hasI_cons (op : Int) (l : List Int) (k : Int) : hasI op (k :: l) = (k == op || hasI op l) := by simp [hasI]
theorem among_any (op : Int) (xs : List Int) (B : Nat) (v : Value) (w : World) (h : Sl B 3 I64 w v xs) (hl : xs.length ≤ 100) :
    Calls Tryz.prog 98 #[.int .i64 op, v] w fun e w' => e = .returned (.bool (hasI op xs)) ∧ w = w' := by
  obtain ⟨A, c, rfl, q1, q2, q3⟩ := h.open_
  go_enter Tryz.func98, Tryz.ntmps98
  go_wp2
  go_loop [9] (fun i => ∃ k : Nat, k ≤ xs.length ∧ i = .int .i64 k ∧ hasI op (xs.take k) = false) (fun i => xs.length - (intOf i).toNat)
  case atStart => exact ⟨0, Nat.zero_le _, rfl, rfl⟩
  case round =>
    obtain ⟨k, hk, rfl, hno⟩ := hrel
    by_cases hlt : k < xs.length
    · obtain ⟨b, off, u, rfl, hc, rfl, hx1, hx2⟩ := h.at_ hlt 0
      have hsn := hasI_snoc op (xs.take k) (xs.getD k 0)
      rw [← take_snoc hlt 0, hno, Bool.false_or] at hsn
      generalize xs.getD k 0 = x at *
      have HN := Lib.hid hno
      have HS := Lib.hid hsn
      clear hno hsn
      by_cases hx : x = op
      · subst hx
        have hd : hasI x xs = true := by
          rw [← List.take_append_drop (k + 1) xs, hasI, List.any_append]
          have : hasI x (xs.take (k + 1)) = true := by rw [HS.out]; simp
          unfold hasI at this
          rw [this]; rfl
        have HD := Lib.hid hd
        clear hd
        go_wp2
        go_ret
        exact ⟨ret_val (by rw [HD.out]; rfl), rfl⟩
      · have hne : (x == op) = false := by simp [hx]
        have HN2 := Lib.hid hne
        go_wp2
        go_round
        case rel => exact ⟨k + 1, by omega, by go_num, by rw [HS.out]; exact HN2.out⟩
        case measure => simp [intOf]; omega
    · have e : xs.take k = xs := List.take_of_length_le (by omega)
      rw [e] at hno
      have HD := Lib.hid hno
      clear e hno
      go_wp2
      go_ret
      exact ⟨ret_val (by rw [HD.out]; rfl), rfl⟩
theorem lit_i64 (us : List Int) (w : World) (h : ∀ x ∈ us, -9223372036854775808 ≤ x ∧ x ≤ 9223372036854775807) : All2 I64 w (us.map (Value.int .i64)) us := by
  induction us with
  | nil => trivial
  | cons x r ih => exact ⟨⟨rfl, h x (by simp)⟩, ih fun y hy => h y (by simp [hy])⟩
theorem among_lit (op : Int) (us : List Int) (n : Nat) (hn : us.length = n) (hl : n ≤ 100) (h : ∀ x ∈ us, -9223372036854775808 ≤ x ∧ x ≤ 9223372036854775807) (g : Nat) (w : World) (hg : w.heap.size = g) {cs : Array Value} (hcs : cs = (us.map (Value.int .i64)).toArray) :
    Calls Tryz.prog 98 #[.int .i64 op, .slice (some ⟨g, 0, none⟩) n n] (w.alloc (.cells cs 3)) fun e w' => e = .returned (.bool (hasI op us)) ∧ w.alloc (.cells cs 3) = w' := by
  subst hcs hg
  refine among_any op us 0 _ _ (Sl.lit (blk_new w _) hn (by unfold maxLen; omega) (lit_i64 us _ h)) (by omega)
theorem among2 (op x y : Int) (hx : 0 ≤ x ∧ x < 100 := by decide) (hy : 0 ≤ y ∧ y < 100 := by decide) (g : Nat) (w : World) (hg : w.heap.size = g) :
    Calls Tryz.prog 98 #[.int .i64 op, .slice (some ⟨g, 0, none⟩) 2 2] (w.alloc (.cells #[.int .i64 x, .int .i64 y] 3)) fun e w' => e = .returned (.bool (hasI op [x, y])) ∧ w.alloc (.cells #[.int .i64 x, .int .i64 y] 3) = w' :=
  among_lit op [x, y] 2 rfl (by omega) (by simp; omega) g w hg rfl
theorem among3 (op x y z : Int) (hx : 0 ≤ x ∧ x < 100 := by decide) (hy : 0 ≤ y ∧ y < 100 := by decide) (hz : 0 ≤ z ∧ z < 100 := by decide) (g : Nat) (w : World) (hg : w.heap.size = g) :
    Calls Tryz.prog 98 #[.int .i64 op, .slice (some ⟨g, 0, none⟩) 3 3] (w.alloc (.cells #[.int .i64 x, .int .i64 y, .int .i64 z] 3)) fun e w' => e = .returned (.bool (hasI op [x, y, z])) ∧ w.alloc (.cells #[.int .i64 x, .int .i64 y, .int .i64 z] 3) = w' :=
  among_lit op [x, y, z] 3 rfl (by omega) (by simp; omega) g w hg rfl
theorem among4 (op x y z u : Int) (hx : 0 ≤ x ∧ x < 100 := by decide) (hy : 0 ≤ y ∧ y < 100 := by decide) (hz : 0 ≤ z ∧ z < 100 := by decide) (hu : 0 ≤ u ∧ u < 100 := by decide) (g : Nat) (w : World) (hg : w.heap.size = g) :
    Calls Tryz.prog 98 #[.int .i64 op, .slice (some ⟨g, 0, none⟩) 4 4] (w.alloc (.cells #[.int .i64 x, .int .i64 y, .int .i64 z, .int .i64 u] 3)) fun e w' => e = .returned (.bool (hasI op [x, y, z, u])) ∧ w.alloc (.cells #[.int .i64 x, .int .i64 y, .int .i64 z, .int .i64 u] 3) = w' :=
  among_lit op [x, y, z, u] 4 rfl (by omega) (by simp; omega) g w hg rfl
theorem turns_has (op : Nat) : hasI op [27, 36, 35, 32, 37, 38, 40] = turns op := by
  rw [Bool.eq_iff_iff]
  simp [hasI, turns]
  omega
theorem shift_has (op : Nat) : hasI op [29, 33, 34] = isShift op := by
  rw [Bool.eq_iff_iff]
  simp [hasI, isShift]
  omega
theorem among_turns (op : Nat) (g : Nat) (w : World) (hg : w.heap.size = g) :
    Calls Tryz.prog 98 #[.int .i64 op, .slice (some ⟨g, 0, none⟩) 7 7] (w.alloc (.cells #[.int .i64 27, .int .i64 36, .int .i64 35, .int .i64 32, .int .i64 37, .int .i64 38, .int .i64 40] 3)) fun e w' =>
      e = .returned (.bool (turns op)) ∧ w.alloc (.cells #[.int .i64 27, .int .i64 36, .int .i64 35, .int .i64 32, .int .i64 37, .int .i64 38, .int .i64 40] 3) = w' := by
  rw [← turns_has op]
  exact among_lit op [27, 36, 35, 32, 37, 38, 40] 7 rfl (by omega) (by decide) g w hg rfl
theorem shift_any (op : Nat) (w : World) :
    Calls Tryz.prog 110 #[.int .i64 op] w fun e w' => e = .returned (.bool (isShift op)) ∧ w.alloc (.cells #[.int .i64 29, .int .i64 33, .int .i64 34] 3) = w' := by
  have h := among3 op 29 33 34 (w := w) (g := _) (hg := rfl)
  rw [shift_has] at h
  go_enter Tryz.func110, Tryz.ntmps110
  go_wp2_with fail
  refine h.mono ?_
  rintro e w1 ⟨rfl, rfl⟩
  go_wp2_with fail
  go_ret
  exact ⟨rfl, rfl⟩
theorem isC_int (ts : List Term) (n : Nat) : (((ts.getD n default).k : Int) == 0) = isC ts n := by
  unfold isC
  rw [Bool.eq_iff_iff]
  simp
set_option maxRecDepth 100000 in
theorem known_any (K : Nat → Prop) (b n : Nat) (ts : List Term) (hl : ts.length < 1000000000000) (hn : n < ts.length) (w : World) (h : DagAt K w b ts) :
    Calls Tryz.prog 97 #[.pointer (some ⟨b, 0, none⟩), .int .i64 n] w fun r w' =>
      r = .returned (.tuple #[.int .u32 (wd ts n), .bool (isC ts n)]) ∧ Below w.heap.size w w' := by
  have hc := isC_int ts n
  rw [← hc]
  unfold wd
  clear hc
  have hN := node_any K b n ts hl hn w h
  generalize ts.getD n default = t at hN ⊢
  go_enter Tryz.func97, Tryz.ntmps97
  go_wp2_with fail
  refine hN.mono ?_
  rintro r w1 ⟨rfl, hb⟩
  unfold tv
  have hz := five_cells (blk_new w1 (.cells #[.int .i64 t.k, .int .u32 t.v, .int .i64 t.op, .int .i64 t.a, .int .i64 t.b] 68))
  obtain ⟨z0, z1, z2, z3, z4⟩ := hz
  go_wp2_with fail
  go_quiet (fail)
  go_wp2_with fail
  go_ret2
  exact ⟨rfl, below_drewN ((hb.alloc hb.size _)) nq⟩
end Go.Proofs.YtaiggfknighhgaaGreatDoor
