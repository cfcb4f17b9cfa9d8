/- The reference of simp: plain, walked case by case (written by genGP.py). -/
import Derived.Test.YtaiggfknighhgaaGreatDoorGGoes
set_option linter.unusedVariables false
set_option linter.unusedSimpArgs false
namespace Go.Proofs.YtaiggfknighhgaaGreatDoor
open Go.RowKit Go.Maps Go.MapKept

theorem below_al {w w' : World} (h : Below w.heap.size w w') (o : Obj) : Below w.heap.size w (w'.alloc o) := h.alloc h.size o
theorem RefAt.alloc {w : World} {k : Nat} {vl : Value} {ts : List Term} (h : RefAt w k vl ts) (o : Obj) : RefAt (w.alloc o) k vl ts := h.below ((Below.refl _ _).alloc (Nat.le_refl _) _)
theorem rconst0_any (k : Nat) (vl : Value) (ts : List Term) (w : World) (h : RefAt w k vl ts) (hl : ts.length < 1000000000000) : Calls Tryz.prog 36 #[.pointer (some ⟨k, 0, none⟩), .int .u32 0] w fun r w' =>
      r = .returned (.int .i64 (pos ts (constT 0) : Nat)) ∧ RAdd w k vl (ins ts (constT 0)) w' := rconst_any k vl ts w h hl 0 (by omega)

set_option maxRecDepth 100000 in
set_option maxHeartbeats 1000000 in
theorem rp_z1 (f : Nat) (hM : RMadeSpec f) (k : Nat) (vl : Value) (ts : List Term) (op x y v : Nat) (w : World) (h : RefAt w k vl ts) (hx : x < ts.length) (hy : y < ts.length) (hl : ts.length + (f + 1) < 1000000000000) (hwd : wd ts y = v) (hv : v < 4294967296) (e0 : ((v : Int) == 0) = true) (e1 : ((v : Int) == 1) = false) (em : ((v : Int) == 4294967295) = false) (fA : hasI (op : Int) [27, 35, 32] = true) :
    Calls Tryz.prog 65 #[.pointer (some ⟨k, 0, none⟩), .int .i64 op, .int .i64 x, .int .i64 y] w (RIs k vl w (ts, x)) := by
  obtain ⟨A, c, rfl, q1, q2, q3⟩ := (h.l.toSl encT 0).open_
  obtain ⟨bb, off, rfl, hat, hbl⟩ := (h.l.toSl encT 0).at_ hy
  rw [show ts[y] = ts.getD y default by simp [List.getD, hy]] at hat
  have d1 : w.cell? ⟨bb, off + y * 5 + 1, none⟩ = some (.int .u32 (v : Int)) := by rw [← hwd]; exact hat 1 _ rfl
  have c0 := one_cell h.hb
  have gy : (y : Int) < ts.length := by omega
  clear hat hwd
  go_enter Tryz.func65, Tryz.ntmps65
  go_wp2_with (first
    | (go_at_call 64; (with_reducible refine (rin_shift _ (g := _) (w := _) (hg := by simp)).mono ?_); rintro r w' ⟨rfl, rfl⟩)
    | (go_at_call 64; (with_reducible refine (rin3 _ _ _ _ (g := _) (w := _) (hg := by simp)).mono ?_); rintro r w' ⟨rfl, rfl⟩)
    | (go_at_call 64; (with_reducible refine (rin2 _ _ _ (g := _) (w := _) (hg := by simp)).mono ?_); rintro r w' ⟨rfl, rfl⟩)
    | (go_at_call 88; (with_reducible refine (hlog _).mono ?_); rintro r w' ⟨rfl, rfl⟩)
    | fail)
  go_ret2
  exact ⟨rfl, RAdd.same h (by repeat (first | exact Below.refl _ _ | refine below_al ?_ _))⟩
set_option maxRecDepth 100000 in
set_option maxHeartbeats 1000000 in
theorem rp_z2 (f : Nat) (hM : RMadeSpec f) (k : Nat) (vl : Value) (ts : List Term) (op x y v : Nat) (w : World) (h : RefAt w k vl ts) (hx : x < ts.length) (hy : y < ts.length) (hl : ts.length + (f + 1) < 1000000000000) (hwd : wd ts y = v) (hv : v < 4294967296) (e0 : ((v : Int) == 0) = true) (e1 : ((v : Int) == 1) = false) (em : ((v : Int) == 4294967295) = false) (fA : hasI (op : Int) [27, 35, 32] = false) (fC : hasI (op : Int) [36, 37, 31] = true) :
    Calls Tryz.prog 65 #[.pointer (some ⟨k, 0, none⟩), .int .i64 op, .int .i64 x, .int .i64 y] w (RIs k vl w (ins ts (constT 0), pos ts (constT 0))) := by
  obtain ⟨A, c, rfl, q1, q2, q3⟩ := (h.l.toSl encT 0).open_
  obtain ⟨bb, off, rfl, hat, hbl⟩ := (h.l.toSl encT 0).at_ hy
  rw [show ts[y] = ts.getD y default by simp [List.getD, hy]] at hat
  have d1 : w.cell? ⟨bb, off + y * 5 + 1, none⟩ = some (.int .u32 (v : Int)) := by rw [← hwd]; exact hat 1 _ rfl
  have c0 := one_cell h.hb
  have gy : (y : Int) < ts.length := by omega
  clear hat hwd
  go_enter Tryz.func65, Tryz.ntmps65
  go_wp2_with (first
    | (go_at_call 64; (with_reducible refine (rin_shift _ (g := _) (w := _) (hg := by simp)).mono ?_); rintro r w' ⟨rfl, rfl⟩)
    | (go_at_call 64; (with_reducible refine (rin3 _ _ _ _ (g := _) (w := _) (hg := by simp)).mono ?_); rintro r w' ⟨rfl, rfl⟩)
    | (go_at_call 64; (with_reducible refine (rin2 _ _ _ (g := _) (w := _) (hg := by simp)).mono ?_); rintro r w' ⟨rfl, rfl⟩)
    | (go_at_call 88; (with_reducible refine (hlog _).mono ?_); rintro r w' ⟨rfl, rfl⟩)
    | fail)
  refine (rconst0_any k (.slice (some ⟨bb, off, none⟩) ts.length c) ts _ (by repeat (first | exact h | refine RefAt.alloc ?_ _)) (by omega)).mono ?_
  rintro r wz ⟨rfl, hz⟩
  go_wp2_with fail
  go_ret2
  exact ⟨rfl, RAdd.pre (by repeat (first | exact Below.refl _ _ | refine below_al ?_ _)) hz⟩
set_option maxRecDepth 100000 in
set_option maxHeartbeats 1000000 in
theorem rp_z3 (f : Nat) (hM : RMadeSpec f) (k : Nat) (vl : Value) (ts : List Term) (op x y v : Nat) (w : World) (h : RefAt w k vl ts) (hx : x < ts.length) (hy : y < ts.length) (hl : ts.length + (f + 1) < 1000000000000) (hwd : wd ts y = v) (hv : v < 4294967296) (e0 : ((v : Int) == 0) = true) (e1 : ((v : Int) == 1) = false) (em : ((v : Int) == 4294967295) = false) (fA : hasI (op : Int) [27, 35, 32] = false) (fC : hasI (op : Int) [36, 37, 31] = false) (fS : isShift op = true) (m32 : ((v : Int) % 32 == 0) = true) :
    Calls Tryz.prog 65 #[.pointer (some ⟨k, 0, none⟩), .int .i64 op, .int .i64 x, .int .i64 y] w (RIs k vl w (ts, x)) := by
  obtain ⟨A, c, rfl, q1, q2, q3⟩ := (h.l.toSl encT 0).open_
  obtain ⟨bb, off, rfl, hat, hbl⟩ := (h.l.toSl encT 0).at_ hy
  rw [show ts[y] = ts.getD y default by simp [List.getD, hy]] at hat
  have d1 : w.cell? ⟨bb, off + y * 5 + 1, none⟩ = some (.int .u32 (v : Int)) := by rw [← hwd]; exact hat 1 _ rfl
  have c0 := one_cell h.hb
  have gy : (y : Int) < ts.length := by omega
  clear hat hwd
  go_enter Tryz.func65, Tryz.ntmps65
  go_wp2_with (first
    | (go_at_call 64; (with_reducible refine (rin_shift _ (g := _) (w := _) (hg := by simp)).mono ?_); rintro r w' ⟨rfl, rfl⟩)
    | (go_at_call 64; (with_reducible refine (rin3 _ _ _ _ (g := _) (w := _) (hg := by simp)).mono ?_); rintro r w' ⟨rfl, rfl⟩)
    | (go_at_call 64; (with_reducible refine (rin2 _ _ _ (g := _) (w := _) (hg := by simp)).mono ?_); rintro r w' ⟨rfl, rfl⟩)
    | (go_at_call 88; (with_reducible refine (hlog _).mono ?_); rintro r w' ⟨rfl, rfl⟩)
    | fail)
  go_ret2
  exact ⟨rfl, RAdd.same h (by repeat (first | exact Below.refl _ _ | refine below_al ?_ _))⟩
set_option maxRecDepth 100000 in
set_option maxHeartbeats 1000000 in
theorem rp_z4 (f : Nat) (hM : RMadeSpec f) (k : Nat) (vl : Value) (ts : List Term) (op x y v : Nat) (w : World) (h : RefAt w k vl ts) (hx : x < ts.length) (hy : y < ts.length) (hl : ts.length + (f + 1) < 1000000000000) (hwd : wd ts y = v) (hv : v < 4294967296) (e0 : ((v : Int) == 0) = true) (e1 : ((v : Int) == 1) = false) (em : ((v : Int) == 4294967295) = false) (fA : hasI (op : Int) [27, 35, 32] = false) (fC : hasI (op : Int) [36, 37, 31] = false) (fS : isShift op = false) (q : Nat) (hq : lgR v = q) (hq32 : q < 32) (q0 : ((q : Int) == 0) = true) :
    Calls Tryz.prog 65 #[.pointer (some ⟨k, 0, none⟩), .int .i64 op, .int .i64 x, .int .i64 y] w (RNone w) := by
  obtain ⟨A, c, rfl, q1, q2, q3⟩ := (h.l.toSl encT 0).open_
  obtain ⟨bb, off, rfl, hat, hbl⟩ := (h.l.toSl encT 0).at_ hy
  rw [show ts[y] = ts.getD y default by simp [List.getD, hy]] at hat
  have d1 : w.cell? ⟨bb, off + y * 5 + 1, none⟩ = some (.int .u32 (v : Int)) := by rw [← hwd]; exact hat 1 _ rfl
  have c0 := one_cell h.hb
  have gy : (y : Int) < ts.length := by omega
  clear hat hwd
  have hlog := fun w => rlog_any v hv w
  rw [hq] at hlog
  clear hq
  go_enter Tryz.func65, Tryz.ntmps65
  go_wp2_with (first
    | (go_at_call 64; (with_reducible refine (rin_shift _ (g := _) (w := _) (hg := by simp)).mono ?_); rintro r w' ⟨rfl, rfl⟩)
    | (go_at_call 64; (with_reducible refine (rin3 _ _ _ _ (g := _) (w := _) (hg := by simp)).mono ?_); rintro r w' ⟨rfl, rfl⟩)
    | (go_at_call 64; (with_reducible refine (rin2 _ _ _ (g := _) (w := _) (hg := by simp)).mono ?_); rintro r w' ⟨rfl, rfl⟩)
    | (go_at_call 88; (with_reducible refine (hlog _).mono ?_); rintro r w' ⟨rfl, rfl⟩)
    | fail)
  go_ret2
  exact ⟨rfl, (by repeat (first | exact Below.refl _ _ | refine below_al ?_ _))⟩
set_option maxRecDepth 100000 in
set_option maxHeartbeats 1000000 in
theorem rp_o1 (f : Nat) (hM : RMadeSpec f) (k : Nat) (vl : Value) (ts : List Term) (op x y v : Nat) (w : World) (h : RefAt w k vl ts) (hx : x < ts.length) (hy : y < ts.length) (hl : ts.length + (f + 1) < 1000000000000) (hwd : wd ts y = v) (hv : v < 4294967296) (e0 : ((v : Int) == 0) = false) (e1 : ((v : Int) == 1) = true) (em : ((v : Int) == 4294967295) = false) (fB : hasI (op : Int) [37, 41, 42] = true) :
    Calls Tryz.prog 65 #[.pointer (some ⟨k, 0, none⟩), .int .i64 op, .int .i64 x, .int .i64 y] w (RIs k vl w (ts, x)) := by
  obtain ⟨A, c, rfl, q1, q2, q3⟩ := (h.l.toSl encT 0).open_
  obtain ⟨bb, off, rfl, hat, hbl⟩ := (h.l.toSl encT 0).at_ hy
  rw [show ts[y] = ts.getD y default by simp [List.getD, hy]] at hat
  have d1 : w.cell? ⟨bb, off + y * 5 + 1, none⟩ = some (.int .u32 (v : Int)) := by rw [← hwd]; exact hat 1 _ rfl
  have c0 := one_cell h.hb
  have gy : (y : Int) < ts.length := by omega
  clear hat hwd
  go_enter Tryz.func65, Tryz.ntmps65
  go_wp2_with (first
    | (go_at_call 64; (with_reducible refine (rin_shift _ (g := _) (w := _) (hg := by simp)).mono ?_); rintro r w' ⟨rfl, rfl⟩)
    | (go_at_call 64; (with_reducible refine (rin3 _ _ _ _ (g := _) (w := _) (hg := by simp)).mono ?_); rintro r w' ⟨rfl, rfl⟩)
    | (go_at_call 64; (with_reducible refine (rin2 _ _ _ (g := _) (w := _) (hg := by simp)).mono ?_); rintro r w' ⟨rfl, rfl⟩)
    | (go_at_call 88; (with_reducible refine (hlog _).mono ?_); rintro r w' ⟨rfl, rfl⟩)
    | fail)
  go_ret2
  exact ⟨rfl, RAdd.same h (by repeat (first | exact Below.refl _ _ | refine below_al ?_ _))⟩
set_option maxRecDepth 100000 in
set_option maxHeartbeats 1000000 in
theorem rp_o2 (f : Nat) (hM : RMadeSpec f) (k : Nat) (vl : Value) (ts : List Term) (op x y v : Nat) (w : World) (h : RefAt w k vl ts) (hx : x < ts.length) (hy : y < ts.length) (hl : ts.length + (f + 1) < 1000000000000) (hwd : wd ts y = v) (hv : v < 4294967296) (e0 : ((v : Int) == 0) = false) (e1 : ((v : Int) == 1) = true) (em : ((v : Int) == 4294967295) = false) (fB : hasI (op : Int) [37, 41, 42] = false) (fD : hasI (op : Int) [43, 44] = true) :
    Calls Tryz.prog 65 #[.pointer (some ⟨k, 0, none⟩), .int .i64 op, .int .i64 x, .int .i64 y] w (RIs k vl w (ins ts (constT 0), pos ts (constT 0))) := by
  obtain ⟨A, c, rfl, q1, q2, q3⟩ := (h.l.toSl encT 0).open_
  obtain ⟨bb, off, rfl, hat, hbl⟩ := (h.l.toSl encT 0).at_ hy
  rw [show ts[y] = ts.getD y default by simp [List.getD, hy]] at hat
  have d1 : w.cell? ⟨bb, off + y * 5 + 1, none⟩ = some (.int .u32 (v : Int)) := by rw [← hwd]; exact hat 1 _ rfl
  have c0 := one_cell h.hb
  have gy : (y : Int) < ts.length := by omega
  clear hat hwd
  go_enter Tryz.func65, Tryz.ntmps65
  go_wp2_with (first
    | (go_at_call 64; (with_reducible refine (rin_shift _ (g := _) (w := _) (hg := by simp)).mono ?_); rintro r w' ⟨rfl, rfl⟩)
    | (go_at_call 64; (with_reducible refine (rin3 _ _ _ _ (g := _) (w := _) (hg := by simp)).mono ?_); rintro r w' ⟨rfl, rfl⟩)
    | (go_at_call 64; (with_reducible refine (rin2 _ _ _ (g := _) (w := _) (hg := by simp)).mono ?_); rintro r w' ⟨rfl, rfl⟩)
    | (go_at_call 88; (with_reducible refine (hlog _).mono ?_); rintro r w' ⟨rfl, rfl⟩)
    | fail)
  refine (rconst0_any k (.slice (some ⟨bb, off, none⟩) ts.length c) ts _ (by repeat (first | exact h | refine RefAt.alloc ?_ _)) (by omega)).mono ?_
  rintro r wz ⟨rfl, hz⟩
  go_wp2_with fail
  go_ret2
  exact ⟨rfl, RAdd.pre (by repeat (first | exact Below.refl _ _ | refine below_al ?_ _)) hz⟩
set_option maxRecDepth 100000 in
set_option maxHeartbeats 1000000 in
theorem rp_o3 (f : Nat) (hM : RMadeSpec f) (k : Nat) (vl : Value) (ts : List Term) (op x y v : Nat) (w : World) (h : RefAt w k vl ts) (hx : x < ts.length) (hy : y < ts.length) (hl : ts.length + (f + 1) < 1000000000000) (hwd : wd ts y = v) (hv : v < 4294967296) (e0 : ((v : Int) == 0) = false) (e1 : ((v : Int) == 1) = true) (em : ((v : Int) == 4294967295) = false) (fB : hasI (op : Int) [37, 41, 42] = false) (fD : hasI (op : Int) [43, 44] = false) (fS : isShift op = true) (m32 : ((v : Int) % 32 == 0) = false) (g31 : ¬ (31 : Int) < v) (q : Nat) (hq : lgR v = q) (hq32 : q < 32) (q0 : ((q : Int) == 0) = true) :
    Calls Tryz.prog 65 #[.pointer (some ⟨k, 0, none⟩), .int .i64 op, .int .i64 x, .int .i64 y] w (RNone w) := by
  obtain ⟨A, c, rfl, q1, q2, q3⟩ := (h.l.toSl encT 0).open_
  obtain ⟨bb, off, rfl, hat, hbl⟩ := (h.l.toSl encT 0).at_ hy
  rw [show ts[y] = ts.getD y default by simp [List.getD, hy]] at hat
  have d1 : w.cell? ⟨bb, off + y * 5 + 1, none⟩ = some (.int .u32 (v : Int)) := by rw [← hwd]; exact hat 1 _ rfl
  have c0 := one_cell h.hb
  have gy : (y : Int) < ts.length := by omega
  clear hat hwd
  have hlog := fun w => rlog_any v hv w
  rw [hq] at hlog
  clear hq
  go_enter Tryz.func65, Tryz.ntmps65
  go_wp2_with (first
    | (go_at_call 64; (with_reducible refine (rin_shift _ (g := _) (w := _) (hg := by simp)).mono ?_); rintro r w' ⟨rfl, rfl⟩)
    | (go_at_call 64; (with_reducible refine (rin3 _ _ _ _ (g := _) (w := _) (hg := by simp)).mono ?_); rintro r w' ⟨rfl, rfl⟩)
    | (go_at_call 64; (with_reducible refine (rin2 _ _ _ (g := _) (w := _) (hg := by simp)).mono ?_); rintro r w' ⟨rfl, rfl⟩)
    | (go_at_call 88; (with_reducible refine (hlog _).mono ?_); rintro r w' ⟨rfl, rfl⟩)
    | fail)
  go_ret2
  exact ⟨rfl, (by repeat (first | exact Below.refl _ _ | refine below_al ?_ _))⟩
set_option maxRecDepth 100000 in
set_option maxHeartbeats 1000000 in
theorem rp_o4 (f : Nat) (hM : RMadeSpec f) (k : Nat) (vl : Value) (ts : List Term) (op x y v : Nat) (w : World) (h : RefAt w k vl ts) (hx : x < ts.length) (hy : y < ts.length) (hl : ts.length + (f + 1) < 1000000000000) (hwd : wd ts y = v) (hv : v < 4294967296) (e0 : ((v : Int) == 0) = false) (e1 : ((v : Int) == 1) = true) (em : ((v : Int) == 4294967295) = false) (fB : hasI (op : Int) [37, 41, 42] = false) (fD : hasI (op : Int) [43, 44] = false) (fS : isShift op = false) (q : Nat) (hq : lgR v = q) (hq32 : q < 32) (q0 : ((q : Int) == 0) = true) :
    Calls Tryz.prog 65 #[.pointer (some ⟨k, 0, none⟩), .int .i64 op, .int .i64 x, .int .i64 y] w (RNone w) := by
  obtain ⟨A, c, rfl, q1, q2, q3⟩ := (h.l.toSl encT 0).open_
  obtain ⟨bb, off, rfl, hat, hbl⟩ := (h.l.toSl encT 0).at_ hy
  rw [show ts[y] = ts.getD y default by simp [List.getD, hy]] at hat
  have d1 : w.cell? ⟨bb, off + y * 5 + 1, none⟩ = some (.int .u32 (v : Int)) := by rw [← hwd]; exact hat 1 _ rfl
  have c0 := one_cell h.hb
  have gy : (y : Int) < ts.length := by omega
  clear hat hwd
  have hlog := fun w => rlog_any v hv w
  rw [hq] at hlog
  clear hq
  go_enter Tryz.func65, Tryz.ntmps65
  go_wp2_with (first
    | (go_at_call 64; (with_reducible refine (rin_shift _ (g := _) (w := _) (hg := by simp)).mono ?_); rintro r w' ⟨rfl, rfl⟩)
    | (go_at_call 64; (with_reducible refine (rin3 _ _ _ _ (g := _) (w := _) (hg := by simp)).mono ?_); rintro r w' ⟨rfl, rfl⟩)
    | (go_at_call 64; (with_reducible refine (rin2 _ _ _ (g := _) (w := _) (hg := by simp)).mono ?_); rintro r w' ⟨rfl, rfl⟩)
    | (go_at_call 88; (with_reducible refine (hlog _).mono ?_); rintro r w' ⟨rfl, rfl⟩)
    | fail)
  go_ret2
  exact ⟨rfl, (by repeat (first | exact Below.refl _ _ | refine below_al ?_ _))⟩
set_option maxRecDepth 100000 in
set_option maxHeartbeats 1000000 in
theorem rp_m1 (f : Nat) (hM : RMadeSpec f) (k : Nat) (vl : Value) (ts : List Term) (op x y v : Nat) (w : World) (h : RefAt w k vl ts) (hx : x < ts.length) (hy : y < ts.length) (hl : ts.length + (f + 1) < 1000000000000) (hwd : wd ts y = v) (hv : v < 4294967296) (e0 : ((v : Int) == 0) = false) (e1 : ((v : Int) == 1) = false) (em : ((v : Int) == 4294967295) = true) (n36 : ((op : Int) == 36) = true) :
    Calls Tryz.prog 65 #[.pointer (some ⟨k, 0, none⟩), .int .i64 op, .int .i64 x, .int .i64 y] w (RIs k vl w (ts, x)) := by
  obtain ⟨A, c, rfl, q1, q2, q3⟩ := (h.l.toSl encT 0).open_
  obtain ⟨bb, off, rfl, hat, hbl⟩ := (h.l.toSl encT 0).at_ hy
  rw [show ts[y] = ts.getD y default by simp [List.getD, hy]] at hat
  have d1 : w.cell? ⟨bb, off + y * 5 + 1, none⟩ = some (.int .u32 (v : Int)) := by rw [← hwd]; exact hat 1 _ rfl
  have c0 := one_cell h.hb
  have gy : (y : Int) < ts.length := by omega
  clear hat hwd
  go_enter Tryz.func65, Tryz.ntmps65
  go_wp2_with (first
    | (go_at_call 64; (with_reducible refine (rin_shift _ (g := _) (w := _) (hg := by simp)).mono ?_); rintro r w' ⟨rfl, rfl⟩)
    | (go_at_call 64; (with_reducible refine (rin3 _ _ _ _ (g := _) (w := _) (hg := by simp)).mono ?_); rintro r w' ⟨rfl, rfl⟩)
    | (go_at_call 64; (with_reducible refine (rin2 _ _ _ (g := _) (w := _) (hg := by simp)).mono ?_); rintro r w' ⟨rfl, rfl⟩)
    | (go_at_call 88; (with_reducible refine (hlog _).mono ?_); rintro r w' ⟨rfl, rfl⟩)
    | fail)
  go_ret2
  exact ⟨rfl, RAdd.same h (by repeat (first | exact Below.refl _ _ | refine below_al ?_ _))⟩
set_option maxRecDepth 100000 in
set_option maxHeartbeats 1000000 in
theorem rp_m2 (f : Nat) (hM : RMadeSpec f) (k : Nat) (vl : Value) (ts : List Term) (op x y v : Nat) (w : World) (h : RefAt w k vl ts) (hx : x < ts.length) (hy : y < ts.length) (hl : ts.length + (f + 1) < 1000000000000) (hwd : wd ts y = v) (hv : v < 4294967296) (e0 : ((v : Int) == 0) = false) (e1 : ((v : Int) == 1) = false) (em : ((v : Int) == 4294967295) = true) (n36 : ((op : Int) == 36) = false) (n35 : ((op : Int) == 35) = true) :
    Calls Tryz.prog 65 #[.pointer (some ⟨k, 0, none⟩), .int .i64 op, .int .i64 x, .int .i64 y] w (RIs k vl w (ts, y)) := by
  obtain ⟨A, c, rfl, q1, q2, q3⟩ := (h.l.toSl encT 0).open_
  obtain ⟨bb, off, rfl, hat, hbl⟩ := (h.l.toSl encT 0).at_ hy
  rw [show ts[y] = ts.getD y default by simp [List.getD, hy]] at hat
  have d1 : w.cell? ⟨bb, off + y * 5 + 1, none⟩ = some (.int .u32 (v : Int)) := by rw [← hwd]; exact hat 1 _ rfl
  have c0 := one_cell h.hb
  have gy : (y : Int) < ts.length := by omega
  clear hat hwd
  go_enter Tryz.func65, Tryz.ntmps65
  go_wp2_with (first
    | (go_at_call 64; (with_reducible refine (rin_shift _ (g := _) (w := _) (hg := by simp)).mono ?_); rintro r w' ⟨rfl, rfl⟩)
    | (go_at_call 64; (with_reducible refine (rin3 _ _ _ _ (g := _) (w := _) (hg := by simp)).mono ?_); rintro r w' ⟨rfl, rfl⟩)
    | (go_at_call 64; (with_reducible refine (rin2 _ _ _ (g := _) (w := _) (hg := by simp)).mono ?_); rintro r w' ⟨rfl, rfl⟩)
    | (go_at_call 88; (with_reducible refine (hlog _).mono ?_); rintro r w' ⟨rfl, rfl⟩)
    | fail)
  go_ret2
  exact ⟨rfl, RAdd.same h (by repeat (first | exact Below.refl _ _ | refine below_al ?_ _))⟩
set_option maxRecDepth 100000 in
set_option maxHeartbeats 1000000 in
theorem rp_m3 (f : Nat) (hM : RMadeSpec f) (k : Nat) (vl : Value) (ts : List Term) (op x y v : Nat) (w : World) (h : RefAt w k vl ts) (hx : x < ts.length) (hy : y < ts.length) (hl : ts.length + (f + 1) < 1000000000000) (hwd : wd ts y = v) (hv : v < 4294967296) (e0 : ((v : Int) == 0) = false) (e1 : ((v : Int) == 1) = false) (em : ((v : Int) == 4294967295) = true) (n36 : ((op : Int) == 36) = false) (n35 : ((op : Int) == 35) = false) (fS : isShift op = true) (m32 : ((v : Int) % 32 == 0) = false) (g31 : (31 : Int) < v) (hW : Went ts op x y (ins ts (constT (v % 32))) op x (pos ts (constT (v % 32)))) (hm : mz ts op x y < f + 1) :
    Calls Tryz.prog 65 #[.pointer (some ⟨k, 0, none⟩), .int .i64 op, .int .i64 x, .int .i64 y] w (RIs k vl w (madeF f (ins ts (constT (v % 32))) op x (pos ts (constT (v % 32))))) := by
  obtain ⟨A, c, rfl, q1, q2, q3⟩ := (h.l.toSl encT 0).open_
  obtain ⟨bb, off, rfl, hat, hbl⟩ := (h.l.toSl encT 0).at_ hy
  rw [show ts[y] = ts.getD y default by simp [List.getD, hy]] at hat
  have d1 : w.cell? ⟨bb, off + y * 5 + 1, none⟩ = some (.int .u32 (v : Int)) := by rw [← hwd]; exact hat 1 _ rfl
  have c0 := one_cell h.hb
  have gy : (y : Int) < ts.length := by omega
  clear hat hwd
  have hmod : (v : Int) % 32 = ((v % 32 : Nat) : Int) := by omega
  have HMOD := Lib.hid hmod
  clear hmod
  go_enter Tryz.func65, Tryz.ntmps65
  go_wp2_with (first
    | (go_at_call 64; (with_reducible refine (rin_shift _ (g := _) (w := _) (hg := by simp)).mono ?_); rintro r w' ⟨rfl, rfl⟩)
    | (go_at_call 64; (with_reducible refine (rin3 _ _ _ _ (g := _) (w := _) (hg := by simp)).mono ?_); rintro r w' ⟨rfl, rfl⟩)
    | (go_at_call 64; (with_reducible refine (rin2 _ _ _ (g := _) (w := _) (hg := by simp)).mono ?_); rintro r w' ⟨rfl, rfl⟩)
    | (go_at_call 88; (with_reducible refine (hlog _).mono ?_); rintro r w' ⟨rfl, rfl⟩)
    | fail)
  rw [HMOD.out]
  refine (rgoes_any f hM k (.slice (some ⟨bb, off, none⟩) ts.length c) ts op x (v % 32) _ (by repeat (first | exact h | refine RefAt.alloc ?_ _)) hW.good hW.ok hW.ina (by omega) (by have := hW.less; omega) hl).mono ?_
  rintro r wz ⟨rfl, hz⟩
  go_wp2_with fail
  go_ret2
  exact ⟨rfl, RAdd.pre (by repeat (first | exact Below.refl _ _ | refine below_al ?_ _)) hz⟩
set_option maxRecDepth 100000 in
set_option maxHeartbeats 1000000 in
theorem rp_m4 (f : Nat) (hM : RMadeSpec f) (k : Nat) (vl : Value) (ts : List Term) (op x y v : Nat) (w : World) (h : RefAt w k vl ts) (hx : x < ts.length) (hy : y < ts.length) (hl : ts.length + (f + 1) < 1000000000000) (hwd : wd ts y = v) (hv : v < 4294967296) (e0 : ((v : Int) == 0) = false) (e1 : ((v : Int) == 1) = false) (em : ((v : Int) == 4294967295) = true) (n36 : ((op : Int) == 36) = false) (n35 : ((op : Int) == 35) = false) (fS : isShift op = false) (q : Nat) (hq : lgR v = q) (hq32 : q < 32) (q0 : ((q : Int) == 0) = true) :
    Calls Tryz.prog 65 #[.pointer (some ⟨k, 0, none⟩), .int .i64 op, .int .i64 x, .int .i64 y] w (RNone w) := by
  obtain ⟨A, c, rfl, q1, q2, q3⟩ := (h.l.toSl encT 0).open_
  obtain ⟨bb, off, rfl, hat, hbl⟩ := (h.l.toSl encT 0).at_ hy
  rw [show ts[y] = ts.getD y default by simp [List.getD, hy]] at hat
  have d1 : w.cell? ⟨bb, off + y * 5 + 1, none⟩ = some (.int .u32 (v : Int)) := by rw [← hwd]; exact hat 1 _ rfl
  have c0 := one_cell h.hb
  have gy : (y : Int) < ts.length := by omega
  clear hat hwd
  have hlog := fun w => rlog_any v hv w
  rw [hq] at hlog
  clear hq
  go_enter Tryz.func65, Tryz.ntmps65
  go_wp2_with (first
    | (go_at_call 64; (with_reducible refine (rin_shift _ (g := _) (w := _) (hg := by simp)).mono ?_); rintro r w' ⟨rfl, rfl⟩)
    | (go_at_call 64; (with_reducible refine (rin3 _ _ _ _ (g := _) (w := _) (hg := by simp)).mono ?_); rintro r w' ⟨rfl, rfl⟩)
    | (go_at_call 64; (with_reducible refine (rin2 _ _ _ (g := _) (w := _) (hg := by simp)).mono ?_); rintro r w' ⟨rfl, rfl⟩)
    | (go_at_call 88; (with_reducible refine (hlog _).mono ?_); rintro r w' ⟨rfl, rfl⟩)
    | fail)
  go_ret2
  exact ⟨rfl, (by repeat (first | exact Below.refl _ _ | refine below_al ?_ _))⟩
set_option maxRecDepth 100000 in
set_option maxHeartbeats 1000000 in
theorem rp_g1 (f : Nat) (hM : RMadeSpec f) (k : Nat) (vl : Value) (ts : List Term) (op x y v : Nat) (w : World) (h : RefAt w k vl ts) (hx : x < ts.length) (hy : y < ts.length) (hl : ts.length + (f + 1) < 1000000000000) (hwd : wd ts y = v) (hv : v < 4294967296) (e0 : ((v : Int) == 0) = false) (e1 : ((v : Int) == 1) = false) (em : ((v : Int) == 4294967295) = false) (fS : isShift op = true) (m32 : ((v : Int) % 32 == 0) = true) :
    Calls Tryz.prog 65 #[.pointer (some ⟨k, 0, none⟩), .int .i64 op, .int .i64 x, .int .i64 y] w (RIs k vl w (ts, x)) := by
  obtain ⟨A, c, rfl, q1, q2, q3⟩ := (h.l.toSl encT 0).open_
  obtain ⟨bb, off, rfl, hat, hbl⟩ := (h.l.toSl encT 0).at_ hy
  rw [show ts[y] = ts.getD y default by simp [List.getD, hy]] at hat
  have d1 : w.cell? ⟨bb, off + y * 5 + 1, none⟩ = some (.int .u32 (v : Int)) := by rw [← hwd]; exact hat 1 _ rfl
  have c0 := one_cell h.hb
  have gy : (y : Int) < ts.length := by omega
  clear hat hwd
  go_enter Tryz.func65, Tryz.ntmps65
  go_wp2_with (first
    | (go_at_call 64; (with_reducible refine (rin_shift _ (g := _) (w := _) (hg := by simp)).mono ?_); rintro r w' ⟨rfl, rfl⟩)
    | (go_at_call 64; (with_reducible refine (rin3 _ _ _ _ (g := _) (w := _) (hg := by simp)).mono ?_); rintro r w' ⟨rfl, rfl⟩)
    | (go_at_call 64; (with_reducible refine (rin2 _ _ _ (g := _) (w := _) (hg := by simp)).mono ?_); rintro r w' ⟨rfl, rfl⟩)
    | (go_at_call 88; (with_reducible refine (hlog _).mono ?_); rintro r w' ⟨rfl, rfl⟩)
    | fail)
  go_ret2
  exact ⟨rfl, RAdd.same h (by repeat (first | exact Below.refl _ _ | refine below_al ?_ _))⟩
set_option maxRecDepth 100000 in
set_option maxHeartbeats 1000000 in
theorem rp_g2 (f : Nat) (hM : RMadeSpec f) (k : Nat) (vl : Value) (ts : List Term) (op x y v : Nat) (w : World) (h : RefAt w k vl ts) (hx : x < ts.length) (hy : y < ts.length) (hl : ts.length + (f + 1) < 1000000000000) (hwd : wd ts y = v) (hv : v < 4294967296) (e0 : ((v : Int) == 0) = false) (e1 : ((v : Int) == 1) = false) (em : ((v : Int) == 4294967295) = false) (fS : isShift op = true) (m32 : ((v : Int) % 32 == 0) = false) (g31 : (31 : Int) < v) (hW : Went ts op x y (ins ts (constT (v % 32))) op x (pos ts (constT (v % 32)))) (hm : mz ts op x y < f + 1) :
    Calls Tryz.prog 65 #[.pointer (some ⟨k, 0, none⟩), .int .i64 op, .int .i64 x, .int .i64 y] w (RIs k vl w (madeF f (ins ts (constT (v % 32))) op x (pos ts (constT (v % 32))))) := by
  obtain ⟨A, c, rfl, q1, q2, q3⟩ := (h.l.toSl encT 0).open_
  obtain ⟨bb, off, rfl, hat, hbl⟩ := (h.l.toSl encT 0).at_ hy
  rw [show ts[y] = ts.getD y default by simp [List.getD, hy]] at hat
  have d1 : w.cell? ⟨bb, off + y * 5 + 1, none⟩ = some (.int .u32 (v : Int)) := by rw [← hwd]; exact hat 1 _ rfl
  have c0 := one_cell h.hb
  have gy : (y : Int) < ts.length := by omega
  clear hat hwd
  have hmod : (v : Int) % 32 = ((v % 32 : Nat) : Int) := by omega
  have HMOD := Lib.hid hmod
  clear hmod
  go_enter Tryz.func65, Tryz.ntmps65
  go_wp2_with (first
    | (go_at_call 64; (with_reducible refine (rin_shift _ (g := _) (w := _) (hg := by simp)).mono ?_); rintro r w' ⟨rfl, rfl⟩)
    | (go_at_call 64; (with_reducible refine (rin3 _ _ _ _ (g := _) (w := _) (hg := by simp)).mono ?_); rintro r w' ⟨rfl, rfl⟩)
    | (go_at_call 64; (with_reducible refine (rin2 _ _ _ (g := _) (w := _) (hg := by simp)).mono ?_); rintro r w' ⟨rfl, rfl⟩)
    | (go_at_call 88; (with_reducible refine (hlog _).mono ?_); rintro r w' ⟨rfl, rfl⟩)
    | fail)
  rw [HMOD.out]
  refine (rgoes_any f hM k (.slice (some ⟨bb, off, none⟩) ts.length c) ts op x (v % 32) _ (by repeat (first | exact h | refine RefAt.alloc ?_ _)) hW.good hW.ok hW.ina (by omega) (by have := hW.less; omega) hl).mono ?_
  rintro r wz ⟨rfl, hz⟩
  go_wp2_with fail
  go_ret2
  exact ⟨rfl, RAdd.pre (by repeat (first | exact Below.refl _ _ | refine below_al ?_ _)) hz⟩
set_option maxRecDepth 100000 in
set_option maxHeartbeats 1000000 in
theorem rp_g3 (f : Nat) (hM : RMadeSpec f) (k : Nat) (vl : Value) (ts : List Term) (op x y v : Nat) (w : World) (h : RefAt w k vl ts) (hx : x < ts.length) (hy : y < ts.length) (hl : ts.length + (f + 1) < 1000000000000) (hwd : wd ts y = v) (hv : v < 4294967296) (e0 : ((v : Int) == 0) = false) (e1 : ((v : Int) == 1) = false) (em : ((v : Int) == 4294967295) = false) (fS : isShift op = true) (m32 : ((v : Int) % 32 == 0) = false) (g31 : ¬ (31 : Int) < v) (q : Nat) (hq : lgR v = q) (hq32 : q < 32) (q0 : ((q : Int) == 0) = true) :
    Calls Tryz.prog 65 #[.pointer (some ⟨k, 0, none⟩), .int .i64 op, .int .i64 x, .int .i64 y] w (RNone w) := by
  obtain ⟨A, c, rfl, q1, q2, q3⟩ := (h.l.toSl encT 0).open_
  obtain ⟨bb, off, rfl, hat, hbl⟩ := (h.l.toSl encT 0).at_ hy
  rw [show ts[y] = ts.getD y default by simp [List.getD, hy]] at hat
  have d1 : w.cell? ⟨bb, off + y * 5 + 1, none⟩ = some (.int .u32 (v : Int)) := by rw [← hwd]; exact hat 1 _ rfl
  have c0 := one_cell h.hb
  have gy : (y : Int) < ts.length := by omega
  clear hat hwd
  have hlog := fun w => rlog_any v hv w
  rw [hq] at hlog
  clear hq
  go_enter Tryz.func65, Tryz.ntmps65
  go_wp2_with (first
    | (go_at_call 64; (with_reducible refine (rin_shift _ (g := _) (w := _) (hg := by simp)).mono ?_); rintro r w' ⟨rfl, rfl⟩)
    | (go_at_call 64; (with_reducible refine (rin3 _ _ _ _ (g := _) (w := _) (hg := by simp)).mono ?_); rintro r w' ⟨rfl, rfl⟩)
    | (go_at_call 64; (with_reducible refine (rin2 _ _ _ (g := _) (w := _) (hg := by simp)).mono ?_); rintro r w' ⟨rfl, rfl⟩)
    | (go_at_call 88; (with_reducible refine (hlog _).mono ?_); rintro r w' ⟨rfl, rfl⟩)
    | fail)
  go_ret2
  exact ⟨rfl, (by repeat (first | exact Below.refl _ _ | refine below_al ?_ _))⟩
set_option maxRecDepth 100000 in
set_option maxHeartbeats 1000000 in
theorem rp_g4 (f : Nat) (hM : RMadeSpec f) (k : Nat) (vl : Value) (ts : List Term) (op x y v : Nat) (w : World) (h : RefAt w k vl ts) (hx : x < ts.length) (hy : y < ts.length) (hl : ts.length + (f + 1) < 1000000000000) (hwd : wd ts y = v) (hv : v < 4294967296) (e0 : ((v : Int) == 0) = false) (e1 : ((v : Int) == 1) = false) (em : ((v : Int) == 4294967295) = false) (fS : isShift op = true) (m32 : ((v : Int) % 32 == 0) = false) (g31 : ¬ (31 : Int) < v) (q : Nat) (hq : lgR v = q) (hq32 : q < 32) (q0 : ((q : Int) == 0) = false) (n37 : ((op : Int) == 37) = false) (n42 : ((op : Int) == 42) = false) (n44 : ((op : Int) == 44) = false) :
    Calls Tryz.prog 65 #[.pointer (some ⟨k, 0, none⟩), .int .i64 op, .int .i64 x, .int .i64 y] w (RNone w) := by
  obtain ⟨A, c, rfl, q1, q2, q3⟩ := (h.l.toSl encT 0).open_
  obtain ⟨bb, off, rfl, hat, hbl⟩ := (h.l.toSl encT 0).at_ hy
  rw [show ts[y] = ts.getD y default by simp [List.getD, hy]] at hat
  have d1 : w.cell? ⟨bb, off + y * 5 + 1, none⟩ = some (.int .u32 (v : Int)) := by rw [← hwd]; exact hat 1 _ rfl
  have c0 := one_cell h.hb
  have gy : (y : Int) < ts.length := by omega
  clear hat hwd
  have hlog := fun w => rlog_any v hv w
  rw [hq] at hlog
  clear hq
  go_enter Tryz.func65, Tryz.ntmps65
  go_wp2_with (first
    | (go_at_call 64; (with_reducible refine (rin_shift _ (g := _) (w := _) (hg := by simp)).mono ?_); rintro r w' ⟨rfl, rfl⟩)
    | (go_at_call 64; (with_reducible refine (rin3 _ _ _ _ (g := _) (w := _) (hg := by simp)).mono ?_); rintro r w' ⟨rfl, rfl⟩)
    | (go_at_call 64; (with_reducible refine (rin2 _ _ _ (g := _) (w := _) (hg := by simp)).mono ?_); rintro r w' ⟨rfl, rfl⟩)
    | (go_at_call 88; (with_reducible refine (hlog _).mono ?_); rintro r w' ⟨rfl, rfl⟩)
    | fail)
  go_ret2
  exact ⟨rfl, (by repeat (first | exact Below.refl _ _ | refine below_al ?_ _))⟩
set_option maxRecDepth 100000 in
set_option maxHeartbeats 1000000 in
theorem rp_g5 (f : Nat) (hM : RMadeSpec f) (k : Nat) (vl : Value) (ts : List Term) (op x y v : Nat) (w : World) (h : RefAt w k vl ts) (hx : x < ts.length) (hy : y < ts.length) (hl : ts.length + (f + 1) < 1000000000000) (hwd : wd ts y = v) (hv : v < 4294967296) (e0 : ((v : Int) == 0) = false) (e1 : ((v : Int) == 1) = false) (em : ((v : Int) == 4294967295) = false) (fS : isShift op = false) (q : Nat) (hq : lgR v = q) (hq32 : q < 32) (q0 : ((q : Int) == 0) = true) :
    Calls Tryz.prog 65 #[.pointer (some ⟨k, 0, none⟩), .int .i64 op, .int .i64 x, .int .i64 y] w (RNone w) := by
  obtain ⟨A, c, rfl, q1, q2, q3⟩ := (h.l.toSl encT 0).open_
  obtain ⟨bb, off, rfl, hat, hbl⟩ := (h.l.toSl encT 0).at_ hy
  rw [show ts[y] = ts.getD y default by simp [List.getD, hy]] at hat
  have d1 : w.cell? ⟨bb, off + y * 5 + 1, none⟩ = some (.int .u32 (v : Int)) := by rw [← hwd]; exact hat 1 _ rfl
  have c0 := one_cell h.hb
  have gy : (y : Int) < ts.length := by omega
  clear hat hwd
  have hlog := fun w => rlog_any v hv w
  rw [hq] at hlog
  clear hq
  go_enter Tryz.func65, Tryz.ntmps65
  go_wp2_with (first
    | (go_at_call 64; (with_reducible refine (rin_shift _ (g := _) (w := _) (hg := by simp)).mono ?_); rintro r w' ⟨rfl, rfl⟩)
    | (go_at_call 64; (with_reducible refine (rin3 _ _ _ _ (g := _) (w := _) (hg := by simp)).mono ?_); rintro r w' ⟨rfl, rfl⟩)
    | (go_at_call 64; (with_reducible refine (rin2 _ _ _ (g := _) (w := _) (hg := by simp)).mono ?_); rintro r w' ⟨rfl, rfl⟩)
    | (go_at_call 88; (with_reducible refine (hlog _).mono ?_); rintro r w' ⟨rfl, rfl⟩)
    | fail)
  go_ret2
  exact ⟨rfl, (by repeat (first | exact Below.refl _ _ | refine below_al ?_ _))⟩
set_option maxRecDepth 100000 in
set_option maxHeartbeats 1000000 in
theorem rp_g6 (f : Nat) (hM : RMadeSpec f) (k : Nat) (vl : Value) (ts : List Term) (op x y v : Nat) (w : World) (h : RefAt w k vl ts) (hx : x < ts.length) (hy : y < ts.length) (hl : ts.length + (f + 1) < 1000000000000) (hwd : wd ts y = v) (hv : v < 4294967296) (e0 : ((v : Int) == 0) = false) (e1 : ((v : Int) == 1) = false) (em : ((v : Int) == 4294967295) = false) (fS : isShift op = false) (q : Nat) (hq : lgR v = q) (hq32 : q < 32) (q0 : ((q : Int) == 0) = false) (n37 : ((op : Int) == 37) = true) (hW : Went ts op x y (ins ts (constT q)) 29 x (pos ts (constT q))) (hm : mz ts op x y < f + 1) :
    Calls Tryz.prog 65 #[.pointer (some ⟨k, 0, none⟩), .int .i64 op, .int .i64 x, .int .i64 y] w (RIs k vl w (madeF f (ins ts (constT q)) 29 x (pos ts (constT q)))) := by
  obtain ⟨A, c, rfl, q1, q2, q3⟩ := (h.l.toSl encT 0).open_
  obtain ⟨bb, off, rfl, hat, hbl⟩ := (h.l.toSl encT 0).at_ hy
  rw [show ts[y] = ts.getD y default by simp [List.getD, hy]] at hat
  have d1 : w.cell? ⟨bb, off + y * 5 + 1, none⟩ = some (.int .u32 (v : Int)) := by rw [← hwd]; exact hat 1 _ rfl
  have c0 := one_cell h.hb
  have gy : (y : Int) < ts.length := by omega
  clear hat hwd
  have hlog := fun w => rlog_any v hv w
  rw [hq] at hlog
  clear hq
  go_enter Tryz.func65, Tryz.ntmps65
  go_wp2_with (first
    | (go_at_call 64; (with_reducible refine (rin_shift _ (g := _) (w := _) (hg := by simp)).mono ?_); rintro r w' ⟨rfl, rfl⟩)
    | (go_at_call 64; (with_reducible refine (rin3 _ _ _ _ (g := _) (w := _) (hg := by simp)).mono ?_); rintro r w' ⟨rfl, rfl⟩)
    | (go_at_call 64; (with_reducible refine (rin2 _ _ _ (g := _) (w := _) (hg := by simp)).mono ?_); rintro r w' ⟨rfl, rfl⟩)
    | (go_at_call 88; (with_reducible refine (hlog _).mono ?_); rintro r w' ⟨rfl, rfl⟩)
    | fail)
  refine (rgoes_any f hM k (.slice (some ⟨bb, off, none⟩) ts.length c) ts 29 x q _ (by repeat (first | exact h | refine RefAt.alloc ?_ _)) hW.good hW.ok hW.ina (by omega) (by have := hW.less; omega) hl).mono ?_
  rintro r wz ⟨rfl, hz⟩
  go_wp2_with fail
  go_ret2
  exact ⟨rfl, RAdd.pre (by repeat (first | exact Below.refl _ _ | refine below_al ?_ _)) hz⟩
set_option maxRecDepth 100000 in
set_option maxHeartbeats 1000000 in
theorem rp_g7 (f : Nat) (hM : RMadeSpec f) (k : Nat) (vl : Value) (ts : List Term) (op x y v : Nat) (w : World) (h : RefAt w k vl ts) (hx : x < ts.length) (hy : y < ts.length) (hl : ts.length + (f + 1) < 1000000000000) (hwd : wd ts y = v) (hv : v < 4294967296) (e0 : ((v : Int) == 0) = false) (e1 : ((v : Int) == 1) = false) (em : ((v : Int) == 4294967295) = false) (fS : isShift op = false) (q : Nat) (hq : lgR v = q) (hq32 : q < 32) (q0 : ((q : Int) == 0) = false) (n37 : ((op : Int) == 37) = false) (n42 : ((op : Int) == 42) = true) (hW : Went ts op x y (ins ts (constT q)) 33 x (pos ts (constT q))) (hm : mz ts op x y < f + 1) :
    Calls Tryz.prog 65 #[.pointer (some ⟨k, 0, none⟩), .int .i64 op, .int .i64 x, .int .i64 y] w (RIs k vl w (madeF f (ins ts (constT q)) 33 x (pos ts (constT q)))) := by
  obtain ⟨A, c, rfl, q1, q2, q3⟩ := (h.l.toSl encT 0).open_
  obtain ⟨bb, off, rfl, hat, hbl⟩ := (h.l.toSl encT 0).at_ hy
  rw [show ts[y] = ts.getD y default by simp [List.getD, hy]] at hat
  have d1 : w.cell? ⟨bb, off + y * 5 + 1, none⟩ = some (.int .u32 (v : Int)) := by rw [← hwd]; exact hat 1 _ rfl
  have c0 := one_cell h.hb
  have gy : (y : Int) < ts.length := by omega
  clear hat hwd
  have hlog := fun w => rlog_any v hv w
  rw [hq] at hlog
  clear hq
  go_enter Tryz.func65, Tryz.ntmps65
  go_wp2_with (first
    | (go_at_call 64; (with_reducible refine (rin_shift _ (g := _) (w := _) (hg := by simp)).mono ?_); rintro r w' ⟨rfl, rfl⟩)
    | (go_at_call 64; (with_reducible refine (rin3 _ _ _ _ (g := _) (w := _) (hg := by simp)).mono ?_); rintro r w' ⟨rfl, rfl⟩)
    | (go_at_call 64; (with_reducible refine (rin2 _ _ _ (g := _) (w := _) (hg := by simp)).mono ?_); rintro r w' ⟨rfl, rfl⟩)
    | (go_at_call 88; (with_reducible refine (hlog _).mono ?_); rintro r w' ⟨rfl, rfl⟩)
    | fail)
  refine (rgoes_any f hM k (.slice (some ⟨bb, off, none⟩) ts.length c) ts 33 x q _ (by repeat (first | exact h | refine RefAt.alloc ?_ _)) hW.good hW.ok hW.ina (by omega) (by have := hW.less; omega) hl).mono ?_
  rintro r wz ⟨rfl, hz⟩
  go_wp2_with fail
  go_ret2
  exact ⟨rfl, RAdd.pre (by repeat (first | exact Below.refl _ _ | refine below_al ?_ _)) hz⟩
set_option maxRecDepth 100000 in
set_option maxHeartbeats 1000000 in
theorem rp_g8 (f : Nat) (hM : RMadeSpec f) (k : Nat) (vl : Value) (ts : List Term) (op x y v : Nat) (w : World) (h : RefAt w k vl ts) (hx : x < ts.length) (hy : y < ts.length) (hl : ts.length + (f + 1) < 1000000000000) (hwd : wd ts y = v) (hv : v < 4294967296) (e0 : ((v : Int) == 0) = false) (e1 : ((v : Int) == 1) = false) (em : ((v : Int) == 4294967295) = false) (hv1 : 1 < v) (fS : isShift op = false) (q : Nat) (hq : lgR v = q) (hq32 : q < 32) (q0 : ((q : Int) == 0) = false) (n37 : ((op : Int) == 37) = false) (n42 : ((op : Int) == 42) = false) (n44 : ((op : Int) == 44) = true) (hW : Went ts op x y (ins ts (constT (v - 1))) 36 x (pos ts (constT (v - 1)))) (hm : mz ts op x y < f + 1) :
    Calls Tryz.prog 65 #[.pointer (some ⟨k, 0, none⟩), .int .i64 op, .int .i64 x, .int .i64 y] w (RIs k vl w (madeF f (ins ts (constT (v - 1))) 36 x (pos ts (constT (v - 1))))) := by
  obtain ⟨A, c, rfl, q1, q2, q3⟩ := (h.l.toSl encT 0).open_
  obtain ⟨bb, off, rfl, hat, hbl⟩ := (h.l.toSl encT 0).at_ hy
  rw [show ts[y] = ts.getD y default by simp [List.getD, hy]] at hat
  have d1 : w.cell? ⟨bb, off + y * 5 + 1, none⟩ = some (.int .u32 (v : Int)) := by rw [← hwd]; exact hat 1 _ rfl
  have c0 := one_cell h.hb
  have gy : (y : Int) < ts.length := by omega
  clear hat hwd
  have hlog := fun w => rlog_any v hv w
  rw [hq] at hlog
  clear hq
  have hpred : (v : Int) - 1 = ((v - 1 : Nat) : Int) := by omega
  have HPRED := Lib.hid hpred
  clear hpred
  go_enter Tryz.func65, Tryz.ntmps65
  go_wp2_with (first
    | (go_at_call 64; (with_reducible refine (rin_shift _ (g := _) (w := _) (hg := by simp)).mono ?_); rintro r w' ⟨rfl, rfl⟩)
    | (go_at_call 64; (with_reducible refine (rin3 _ _ _ _ (g := _) (w := _) (hg := by simp)).mono ?_); rintro r w' ⟨rfl, rfl⟩)
    | (go_at_call 64; (with_reducible refine (rin2 _ _ _ (g := _) (w := _) (hg := by simp)).mono ?_); rintro r w' ⟨rfl, rfl⟩)
    | (go_at_call 88; (with_reducible refine (hlog _).mono ?_); rintro r w' ⟨rfl, rfl⟩)
    | fail)
  rw [HPRED.out]
  refine (rgoes_any f hM k (.slice (some ⟨bb, off, none⟩) ts.length c) ts 36 x (v - 1) _ (by repeat (first | exact h | refine RefAt.alloc ?_ _)) hW.good hW.ok hW.ina (by omega) (by have := hW.less; omega) hl).mono ?_
  rintro r wz ⟨rfl, hz⟩
  go_wp2_with fail
  go_ret2
  exact ⟨rfl, RAdd.pre (by repeat (first | exact Below.refl _ _ | refine below_al ?_ _)) hz⟩
set_option maxRecDepth 100000 in
set_option maxHeartbeats 1000000 in
theorem rp_g9 (f : Nat) (hM : RMadeSpec f) (k : Nat) (vl : Value) (ts : List Term) (op x y v : Nat) (w : World) (h : RefAt w k vl ts) (hx : x < ts.length) (hy : y < ts.length) (hl : ts.length + (f + 1) < 1000000000000) (hwd : wd ts y = v) (hv : v < 4294967296) (e0 : ((v : Int) == 0) = false) (e1 : ((v : Int) == 1) = false) (em : ((v : Int) == 4294967295) = false) (fS : isShift op = false) (q : Nat) (hq : lgR v = q) (hq32 : q < 32) (q0 : ((q : Int) == 0) = false) (n37 : ((op : Int) == 37) = false) (n42 : ((op : Int) == 42) = false) (n44 : ((op : Int) == 44) = false) :
    Calls Tryz.prog 65 #[.pointer (some ⟨k, 0, none⟩), .int .i64 op, .int .i64 x, .int .i64 y] w (RNone w) := by
  obtain ⟨A, c, rfl, q1, q2, q3⟩ := (h.l.toSl encT 0).open_
  obtain ⟨bb, off, rfl, hat, hbl⟩ := (h.l.toSl encT 0).at_ hy
  rw [show ts[y] = ts.getD y default by simp [List.getD, hy]] at hat
  have d1 : w.cell? ⟨bb, off + y * 5 + 1, none⟩ = some (.int .u32 (v : Int)) := by rw [← hwd]; exact hat 1 _ rfl
  have c0 := one_cell h.hb
  have gy : (y : Int) < ts.length := by omega
  clear hat hwd
  have hlog := fun w => rlog_any v hv w
  rw [hq] at hlog
  clear hq
  go_enter Tryz.func65, Tryz.ntmps65
  go_wp2_with (first
    | (go_at_call 64; (with_reducible refine (rin_shift _ (g := _) (w := _) (hg := by simp)).mono ?_); rintro r w' ⟨rfl, rfl⟩)
    | (go_at_call 64; (with_reducible refine (rin3 _ _ _ _ (g := _) (w := _) (hg := by simp)).mono ?_); rintro r w' ⟨rfl, rfl⟩)
    | (go_at_call 64; (with_reducible refine (rin2 _ _ _ (g := _) (w := _) (hg := by simp)).mono ?_); rintro r w' ⟨rfl, rfl⟩)
    | (go_at_call 88; (with_reducible refine (hlog _).mono ?_); rintro r w' ⟨rfl, rfl⟩)
    | fail)
  go_ret2
  exact ⟨rfl, (by repeat (first | exact Below.refl _ _ | refine below_al ?_ _))⟩
end Go.Proofs.YtaiggfknighhgaaGreatDoor
