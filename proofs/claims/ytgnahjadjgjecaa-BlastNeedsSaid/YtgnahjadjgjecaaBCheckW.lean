/- blast: needs. -/
/- blast: check. -/
import Derived.Test.YtgnahjadjgjecaaBTermA
import Derived.Test.YtgnahjadjgjecaaBHard
set_option linter.unusedVariables false
set_option linter.unusedSimpArgs false
namespace Go.Proofs.Ytgnahjadjgjecaa
open Go.RowKit Go.Maps Go.MapKept

theorem zbool (w : World) : (zeroValue 4).run Try.prog w = .ok (.bool false) w := Try.zeroValue4 w
def NeedPost (w : World) (g : Nat) (s : (Nat → Bool) × Bool) (r : Ending) (w' : World) : Prop := r = .returned (.bool s.2) ∧ SetAt natB w' g s.1 ∧ Kept (fun i => i ≠ g) w w'
structure NeedIn (Kd : Nat → Prop) (w : World) (b bl g : Nat) (vq vm : Value) (ts : List Term) (S : Nat → Bool) : Prop where mk_ ::
  ne : bl ≠ g
  blk : w.heap[bl]? = some (.cells #[.pointer (some ⟨b, 0, none⟩), vq, vm] 53 (0, 0))
  set : SetAt natB w g S
  dag : ∀ w', Kept (fun i => i ≠ g) w w' → DagAt Kd w' b ts
theorem NeedIn.next {Kd : Nat → Prop} {w w' : World} {b bl g : Nat} {vq vm : Value} {ts : List Term} {S S' : Nat → Bool} (h : NeedIn Kd w b bl g vq vm ts S) (hk : Kept (fun i => i ≠ g) w w') (hs : SetAt natB w' g S') : NeedIn Kd w' b bl g vq vm ts S' :=
  ⟨h.ne, hk.blk h.ne h.blk, hs, fun u hu => h.dag u (hk.trans hu)⟩
theorem NeedIn.below {Kd : Nat → Prop} {w w' : World} {b bl g : Nat} {vq vm : Value} {ts : List Term} {S : Nat → Bool} (h : NeedIn Kd w b bl g vq vm ts S) (hb : Below w.heap.size w w') : NeedIn Kd w' b bl g vq vm ts S :=
  h.next (Kept.below hb) (h.set.block (hb.block g h.set.lt))
def NeedSpec (f : Nat) : Prop := ∀ (Kd : Nat → Prop) (b bl g : Nat) (vq vm : Value) (ts : List Term) (S : Nat → Bool) (n : Nat) (w : World), Good ts → ts.length ≤ 1000 → n < f → n < ts.length → NeedIn Kd w b bl g vq vm ts S →
  Calls Try.prog 30 #[.pointer (some ⟨bl, 0, none⟩), .int .i64 n, .map (some g)] w (NeedPost w g (needF f ts n S))
theorem needF_leaf {f : Nat} {ts : List Term} {n : Nat} {S : Nat → Bool} (h : (ts.getD n default).k ≠ 2) : needF (f + 1) ts n S = (S, false) := by unfold needF; rw [if_neg fun e => h e.1]
theorem needF_seen {f : Nat} {ts : List Term} {n : Nat} {S : Nat → Bool} (h : S n = true) : needF (f + 1) ts n S = (S, false) := by unfold needF; rw [if_neg fun e => by rw [h] at e; cases e.2]
theorem needF_hard {f : Nat} {ts : List Term} {n op p s : Nat} {S : Nat → Bool} (h : S n = false) (e : ts.getD n default = opT op p s) (h37 : 37 ≤ op) : needF (f + 1) ts n S = (putS S n, true) := by
  unfold needF
  rw [if_pos ⟨by rw [e]; rfl, h⟩, if_pos (by rw [e]; exact h37)]
theorem needF_left {f : Nat} {ts : List Term} {n op p s : Nat} {S : Nat → Bool} (h : S n = false) (e : ts.getD n default = opT op p s) (h37 : ¬ 37 ≤ op) {r : (Nat → Bool) × Bool} (h1 : needF f ts p (putS S n) = r) (hr : r.2 = true) : needF (f + 1) ts n S = r := by
  subst h1
  conv => lhs; unfold needF
  rw [if_pos ⟨by rw [e]; rfl, h⟩, if_neg (by rw [e]; exact h37), e]
  show (if (needF f ts p (putS S n)).2 = true then _ else _) = _
  rw [if_pos hr]
  exact Prod.ext rfl hr.symm
theorem needF_right {f : Nat} {ts : List Term} {n op p s : Nat} {S : Nat → Bool} (h : S n = false) (e : ts.getD n default = opT op p s) (h37 : ¬ 37 ≤ op) {r : (Nat → Bool) × Bool} (h1 : needF f ts p (putS S n) = r) (hr : r.2 = false) : needF (f + 1) ts n S = needF f ts s r.1 := by
  subst h1
  conv => lhs; unfold needF
  rw [if_pos ⟨by rw [e]; rfl, h⟩, if_neg (by rw [e]; exact h37), e]
  show (if (needF f ts p (putS S n)).2 = true then _ else _) = _
  rw [if_neg (by rw [hr]; decide)]
  rfl
set_option maxRecDepth 100000 in
set_option maxHeartbeats 4000000 in
theorem needs_const (f : Nat) (Kd : Nat → Prop) (b bl g : Nat) (vq vm : Value) (ts : List Term) (S : Nat → Bool) (n : Nat) (w : World) (hG : Good ts) (hfew : ts.length ≤ 1000) (hn : n < ts.length) (hI : NeedIn Kd w b bl g vq vm ts S) (v : Nat) (hte : ts.getD n default = constT v) :
    Calls Try.prog 30 #[.pointer (some ⟨bl, 0, none⟩), .int .i64 n, .map (some g)] w (NeedPost w g (needF (f + 1) ts n S)) := by
  rw [needF_leaf (by rw [hte]; show 0 ≠ 2; omega)]
  obtain ⟨c0, c1, c2⟩ := three_cells hI.blk
  have hN := node_any Kd b n ts (by omega) hn _ (hI.dag w (Kept.refl _ _))
  rw [hte] at hN
  change Calls Try.prog 29 #[.pointer (some ⟨b, 0, none⟩), .int .i64 n] w (fun r w' => r = .returned (.tuple #[.agg #[.int .i64 0, .int .u32 (v : Int), .int .i64 0, .int .i64 0, .int .i64 0], .int .i64 0]) ∧ Below _ _ w') at hN
  go_enter Try.func30, Try.ntmps30
  go_wp2_with fail
  refine hN.mono ?_
  rintro r w4 ⟨rfl, b4⟩
  have hI4 := hI.below b4
  have bx := (Below.refl w4.heap.size w4).alloc (Nat.le_refl _) (.cells #[.int .i64 0, .int .u32 (v : Int), .int .i64 0, .int .i64 0, .int .i64 0] 82)
  have hI6 := hI4.below bx
  have hT6 := blk_new w4 (.cells #[.int .i64 0, .int .u32 (v : Int), .int .i64 0, .int .i64 0, .int .i64 0] 82)
  have hk6 : Kept (fun i => i ≠ g) w (w4.alloc (.cells #[.int .i64 0, .int .u32 (v : Int), .int .i64 0, .int .i64 0, .int .i64 0] 82)) := (Kept.below b4).trans (Kept.below bx)
  obtain ⟨z0, z1, z2, z3, z4⟩ := five_cells hT6
  have hlook := hI6.set.look (natB_ops Try.underlying3) Try.underlying85 (zbool _) n
  simp only [natB] at hlook
  have lg := hI4.set.lt
  clear hN b4 bx hI c0 c1 c2 hI4
  go_wp2_with fail
  go_ret
  exact ⟨rfl, hI6.set, hk6⟩
set_option maxRecDepth 100000 in
set_option maxHeartbeats 4000000 in
theorem needs_var (f : Nat) (Kd : Nat → Prop) (b bl g : Nat) (vq vm : Value) (ts : List Term) (S : Nat → Bool) (n : Nat) (w : World) (hG : Good ts) (hfew : ts.length ≤ 1000) (hn : n < ts.length) (hI : NeedIn Kd w b bl g vq vm ts S) (v : Nat) (hte : ts.getD n default = varT v) :
    Calls Try.prog 30 #[.pointer (some ⟨bl, 0, none⟩), .int .i64 n, .map (some g)] w (NeedPost w g (needF (f + 1) ts n S)) := by
  rw [needF_leaf (by rw [hte]; show 1 ≠ 2; omega)]
  obtain ⟨c0, c1, c2⟩ := three_cells hI.blk
  have hN := node_any Kd b n ts (by omega) hn _ (hI.dag w (Kept.refl _ _))
  rw [hte] at hN
  change Calls Try.prog 29 #[.pointer (some ⟨b, 0, none⟩), .int .i64 n] w (fun r w' => r = .returned (.tuple #[.agg #[.int .i64 1, .int .u32 (v : Int), .int .i64 0, .int .i64 0, .int .i64 0], .int .i64 0]) ∧ Below _ _ w') at hN
  go_enter Try.func30, Try.ntmps30
  go_wp2_with fail
  refine hN.mono ?_
  rintro r w4 ⟨rfl, b4⟩
  have hI4 := hI.below b4
  have bx := (Below.refl w4.heap.size w4).alloc (Nat.le_refl _) (.cells #[.int .i64 1, .int .u32 (v : Int), .int .i64 0, .int .i64 0, .int .i64 0] 82)
  have hI6 := hI4.below bx
  have hT6 := blk_new w4 (.cells #[.int .i64 1, .int .u32 (v : Int), .int .i64 0, .int .i64 0, .int .i64 0] 82)
  have hk6 : Kept (fun i => i ≠ g) w (w4.alloc (.cells #[.int .i64 1, .int .u32 (v : Int), .int .i64 0, .int .i64 0, .int .i64 0] 82)) := (Kept.below b4).trans (Kept.below bx)
  obtain ⟨z0, z1, z2, z3, z4⟩ := five_cells hT6
  have hlook := hI6.set.look (natB_ops Try.underlying3) Try.underlying85 (zbool _) n
  simp only [natB] at hlook
  have lg := hI4.set.lt
  clear hN b4 bx hI c0 c1 c2 hI4
  go_wp2_with fail
  go_ret
  exact ⟨rfl, hI6.set, hk6⟩
set_option maxRecDepth 100000 in
set_option maxHeartbeats 4000000 in
theorem needs_seen (f : Nat) (Kd : Nat → Prop) (b bl g : Nat) (vq vm : Value) (ts : List Term) (S : Nat → Bool) (n : Nat) (w : World) (hG : Good ts) (hfew : ts.length ≤ 1000) (hn : n < ts.length) (hI : NeedIn Kd w b bl g vq vm ts S) (op p s : Nat) (hte : ts.getD n default = opT op p s) (hs : S n = true) :
    Calls Try.prog 30 #[.pointer (some ⟨bl, 0, none⟩), .int .i64 n, .map (some g)] w (NeedPost w g (needF (f + 1) ts n S)) := by
  rw [needF_seen hs]
  obtain ⟨c0, c1, c2⟩ := three_cells hI.blk
  have hN := node_any Kd b n ts (by omega) hn _ (hI.dag w (Kept.refl _ _))
  rw [hte] at hN
  change Calls Try.prog 29 #[.pointer (some ⟨b, 0, none⟩), .int .i64 n] w (fun r w' => r = .returned (.tuple #[.agg #[.int .i64 2, .int .u32 0, .int .i64 (op : Int), .int .i64 (p : Int), .int .i64 (s : Int)], .int .i64 0]) ∧ Below _ _ w') at hN
  go_enter Try.func30, Try.ntmps30
  go_wp2_with fail
  refine hN.mono ?_
  rintro r w4 ⟨rfl, b4⟩
  have hI4 := hI.below b4
  have bx := (Below.refl w4.heap.size w4).alloc (Nat.le_refl _) (.cells #[.int .i64 2, .int .u32 0, .int .i64 (op : Int), .int .i64 (p : Int), .int .i64 (s : Int)] 82)
  have hI6 := hI4.below bx
  have hT6 := blk_new w4 (.cells #[.int .i64 2, .int .u32 0, .int .i64 (op : Int), .int .i64 (p : Int), .int .i64 (s : Int)] 82)
  have hk6 : Kept (fun i => i ≠ g) w (w4.alloc (.cells #[.int .i64 2, .int .u32 0, .int .i64 (op : Int), .int .i64 (p : Int), .int .i64 (s : Int)] 82)) := (Kept.below b4).trans (Kept.below bx)
  obtain ⟨z0, z1, z2, z3, z4⟩ := five_cells hT6
  have hlook := hI6.set.look (natB_ops Try.underlying3) Try.underlying85 (zbool _) n
  simp only [natB] at hlook
  have lg := hI4.set.lt
  clear hN b4 bx hI c0 c1 c2 hI4
  rw [hs] at hlook
  go_wp2_with fail
  go_ret
  exact ⟨rfl, hI6.set, hk6⟩
set_option maxRecDepth 100000 in
set_option maxHeartbeats 4000000 in
theorem needs_hard (f : Nat) (Kd : Nat → Prop) (b bl g : Nat) (vq vm : Value) (ts : List Term) (S : Nat → Bool) (n : Nat) (w : World) (hG : Good ts) (hfew : ts.length ≤ 1000) (hn : n < ts.length) (hI : NeedIn Kd w b bl g vq vm ts S) (op p s : Nat) (hte : ts.getD n default = opT op p s) (hs : S n = false) (h37 : 37 ≤ op) (h44 : op ≤ 44) :
    Calls Try.prog 30 #[.pointer (some ⟨bl, 0, none⟩), .int .i64 n, .map (some g)] w (NeedPost w g (needF (f + 1) ts n S)) := by
  rw [needF_hard hs hte h37]
  obtain ⟨c0, c1, c2⟩ := three_cells hI.blk
  have hN := node_any Kd b n ts (by omega) hn _ (hI.dag w (Kept.refl _ _))
  rw [hte] at hN
  change Calls Try.prog 29 #[.pointer (some ⟨b, 0, none⟩), .int .i64 n] w (fun r w' => r = .returned (.tuple #[.agg #[.int .i64 2, .int .u32 0, .int .i64 (op : Int), .int .i64 (p : Int), .int .i64 (s : Int)], .int .i64 0]) ∧ Below _ _ w') at hN
  go_enter Try.func30, Try.ntmps30
  go_wp2_with fail
  refine hN.mono ?_
  rintro r w4 ⟨rfl, b4⟩
  have hI4 := hI.below b4
  have bx := (Below.refl w4.heap.size w4).alloc (Nat.le_refl _) (.cells #[.int .i64 2, .int .u32 0, .int .i64 (op : Int), .int .i64 (p : Int), .int .i64 (s : Int)] 82)
  have hI6 := hI4.below bx
  have hT6 := blk_new w4 (.cells #[.int .i64 2, .int .u32 0, .int .i64 (op : Int), .int .i64 (p : Int), .int .i64 (s : Int)] 82)
  have hk6 : Kept (fun i => i ≠ g) w (w4.alloc (.cells #[.int .i64 2, .int .u32 0, .int .i64 (op : Int), .int .i64 (p : Int), .int .i64 (s : Int)] 82)) := (Kept.below b4).trans (Kept.below bx)
  obtain ⟨z0, z1, z2, z3, z4⟩ := five_cells hT6
  have hlook := hI6.set.look (natB_ops Try.underlying3) Try.underlying85 (zbool _) n
  simp only [natB] at hlook
  have lg := hI4.set.lt
  clear hN b4 bx hI c0 c1 c2 hI4
  rw [hs] at hlook
  obtain ⟨fm, hfm, hfr⟩ := hI6.set
  obtain ⟨wm, hrun, hgen, hgr⟩ := hfm.store (natB_ops Try.underlying3) Try.underlying85 n (.bool true)
  simp only [natB] at hrun
  have hset : SetAt natB wm g (putS S n) := SetAt.put hfm hfr hgen
  have kg : Kept (fun i => i ≠ g) (w4.alloc (.cells #[.int .i64 2, .int .u32 0, .int .i64 (op : Int), .int .i64 (p : Int), .int .i64 (s : Int)] 82)) wm := Kept.grown hgr fun h => h rfl
  have hI7 := hI6.next kg hset
  have hT7 := kg.blk (show w4.heap.size ≠ g by omega) hT6
  have hk7 := hk6.trans kg
  obtain ⟨y0, y1, y2, y3, y4⟩ := five_cells hT7
  clear hset hgen hgr hfm hfr
  have g1 : (37 : Int) ≤ (op : Int) := by omega
  have g2 : (op : Int) ≤ 44 := by omega
  go_wp2_with fail
  go_ret
  exact ⟨rfl, hI7.set, hk7⟩
set_option maxRecDepth 100000 in
set_option maxHeartbeats 4000000 in
theorem needs_left (f : Nat) (ih : NeedSpec f) (Kd : Nat → Prop) (b bl g : Nat) (vq vm : Value) (ts : List Term) (S : Nat → Bool) (n : Nat) (w : World) (hG : Good ts) (hfew : ts.length ≤ 1000) (hn : n < ts.length) (hI : NeedIn Kd w b bl g vq vm ts S) (op p s : Nat) (hte : ts.getD n default = opT op p s) (hs : S n = false) (h37 : ¬ 37 ≤ op) (hpf : p < f) (hpn : p < ts.length) (q : (Nat → Bool) × Bool) (hr1 : needF f ts p (putS S n) = q) (hr : q.2 = true) :
    Calls Try.prog 30 #[.pointer (some ⟨bl, 0, none⟩), .int .i64 n, .map (some g)] w (NeedPost w g (needF (f + 1) ts n S)) := by
  rw [needF_left hs hte h37 hr1 hr]
  obtain ⟨c0, c1, c2⟩ := three_cells hI.blk
  have hN := node_any Kd b n ts (by omega) hn _ (hI.dag w (Kept.refl _ _))
  rw [hte] at hN
  change Calls Try.prog 29 #[.pointer (some ⟨b, 0, none⟩), .int .i64 n] w (fun r w' => r = .returned (.tuple #[.agg #[.int .i64 2, .int .u32 0, .int .i64 (op : Int), .int .i64 (p : Int), .int .i64 (s : Int)], .int .i64 0]) ∧ Below _ _ w') at hN
  go_enter Try.func30, Try.ntmps30
  go_wp2_with fail
  refine hN.mono ?_
  rintro r w4 ⟨rfl, b4⟩
  have hI4 := hI.below b4
  have bx := (Below.refl w4.heap.size w4).alloc (Nat.le_refl _) (.cells #[.int .i64 2, .int .u32 0, .int .i64 (op : Int), .int .i64 (p : Int), .int .i64 (s : Int)] 82)
  have hI6 := hI4.below bx
  have hT6 := blk_new w4 (.cells #[.int .i64 2, .int .u32 0, .int .i64 (op : Int), .int .i64 (p : Int), .int .i64 (s : Int)] 82)
  have hk6 : Kept (fun i => i ≠ g) w (w4.alloc (.cells #[.int .i64 2, .int .u32 0, .int .i64 (op : Int), .int .i64 (p : Int), .int .i64 (s : Int)] 82)) := (Kept.below b4).trans (Kept.below bx)
  obtain ⟨z0, z1, z2, z3, z4⟩ := five_cells hT6
  have hlook := hI6.set.look (natB_ops Try.underlying3) Try.underlying85 (zbool _) n
  simp only [natB] at hlook
  have lg := hI4.set.lt
  clear hN b4 bx hI c0 c1 c2 hI4
  rw [hs] at hlook
  obtain ⟨fm, hfm, hfr⟩ := hI6.set
  obtain ⟨wm, hrun, hgen, hgr⟩ := hfm.store (natB_ops Try.underlying3) Try.underlying85 n (.bool true)
  simp only [natB] at hrun
  have hset : SetAt natB wm g (putS S n) := SetAt.put hfm hfr hgen
  have kg : Kept (fun i => i ≠ g) (w4.alloc (.cells #[.int .i64 2, .int .u32 0, .int .i64 (op : Int), .int .i64 (p : Int), .int .i64 (s : Int)] 82)) wm := Kept.grown hgr fun h => h rfl
  have hI7 := hI6.next kg hset
  have hT7 := kg.blk (show w4.heap.size ≠ g by omega) hT6
  have hk7 := hk6.trans kg
  obtain ⟨y0, y1, y2, y3, y4⟩ := five_cells hT7
  clear hset hgen hgr hfm hfr
  have g1 : (decide ((37 : Int) ≤ (op : Int))) = false := by simp; omega
  go_wp2_with fail
  refine (ih Kd b bl g vq vm ts (putS S n) p wm hG hfew hpf (by omega) hI7).mono ?_
  rintro r w8 ⟨rfl, hset8, k8⟩
  have hI8 := hI7.next k8 hset8
  have hT8 := k8.blk (show w4.heap.size ≠ g by omega) hT7
  have hk8 := hk7.trans k8
  rw [hr1] at hset8 hI8 ⊢
  rw [hr] at ⊢
  obtain ⟨x0, x1, x2, x3, x4⟩ := five_cells hT8
  go_wp2_with fail
  go_ret
  exact ⟨congrArg (fun x => Ending.returned (.bool x)) hr.symm, hset8, hk8⟩
set_option maxRecDepth 100000 in
set_option maxHeartbeats 4000000 in
theorem needs_right (f : Nat) (ih : NeedSpec f) (Kd : Nat → Prop) (b bl g : Nat) (vq vm : Value) (ts : List Term) (S : Nat → Bool) (n : Nat) (w : World) (hG : Good ts) (hfew : ts.length ≤ 1000) (hn : n < ts.length) (hI : NeedIn Kd w b bl g vq vm ts S) (op p s : Nat) (hte : ts.getD n default = opT op p s) (hs : S n = false) (h37 : ¬ 37 ≤ op) (hpf : p < f) (hpn : p < ts.length) (hsf : s < f) (hsn : s < ts.length) (q : (Nat → Bool) × Bool) (hr1 : needF f ts p (putS S n) = q) (hr : q.2 = false) :
    Calls Try.prog 30 #[.pointer (some ⟨bl, 0, none⟩), .int .i64 n, .map (some g)] w (NeedPost w g (needF (f + 1) ts n S)) := by
  obtain ⟨q2, hq2⟩ : ∃ x, needF f ts s q.1 = x := ⟨_, rfl⟩
  rw [needF_right hs hte h37 hr1 hr, hq2]
  have HQ2 := Lib.hid hq2
  clear hq2
  obtain ⟨c0, c1, c2⟩ := three_cells hI.blk
  have hN := node_any Kd b n ts (by omega) hn _ (hI.dag w (Kept.refl _ _))
  rw [hte] at hN
  change Calls Try.prog 29 #[.pointer (some ⟨b, 0, none⟩), .int .i64 n] w (fun r w' => r = .returned (.tuple #[.agg #[.int .i64 2, .int .u32 0, .int .i64 (op : Int), .int .i64 (p : Int), .int .i64 (s : Int)], .int .i64 0]) ∧ Below _ _ w') at hN
  go_enter Try.func30, Try.ntmps30
  go_wp2_with fail
  refine hN.mono ?_
  rintro r w4 ⟨rfl, b4⟩
  have hI4 := hI.below b4
  have bx := (Below.refl w4.heap.size w4).alloc (Nat.le_refl _) (.cells #[.int .i64 2, .int .u32 0, .int .i64 (op : Int), .int .i64 (p : Int), .int .i64 (s : Int)] 82)
  have hI6 := hI4.below bx
  have hT6 := blk_new w4 (.cells #[.int .i64 2, .int .u32 0, .int .i64 (op : Int), .int .i64 (p : Int), .int .i64 (s : Int)] 82)
  have hk6 : Kept (fun i => i ≠ g) w (w4.alloc (.cells #[.int .i64 2, .int .u32 0, .int .i64 (op : Int), .int .i64 (p : Int), .int .i64 (s : Int)] 82)) := (Kept.below b4).trans (Kept.below bx)
  obtain ⟨z0, z1, z2, z3, z4⟩ := five_cells hT6
  have hlook := hI6.set.look (natB_ops Try.underlying3) Try.underlying85 (zbool _) n
  simp only [natB] at hlook
  have lg := hI4.set.lt
  clear hN b4 bx hI c0 c1 c2 hI4
  rw [hs] at hlook
  obtain ⟨fm, hfm, hfr⟩ := hI6.set
  obtain ⟨wm, hrun, hgen, hgr⟩ := hfm.store (natB_ops Try.underlying3) Try.underlying85 n (.bool true)
  simp only [natB] at hrun
  have hset : SetAt natB wm g (putS S n) := SetAt.put hfm hfr hgen
  have kg : Kept (fun i => i ≠ g) (w4.alloc (.cells #[.int .i64 2, .int .u32 0, .int .i64 (op : Int), .int .i64 (p : Int), .int .i64 (s : Int)] 82)) wm := Kept.grown hgr fun h => h rfl
  have hI7 := hI6.next kg hset
  have hT7 := kg.blk (show w4.heap.size ≠ g by omega) hT6
  have hk7 := hk6.trans kg
  obtain ⟨y0, y1, y2, y3, y4⟩ := five_cells hT7
  clear hset hgen hgr hfm hfr
  have g1 : (decide ((37 : Int) ≤ (op : Int))) = false := by simp; omega
  go_wp2_with fail
  refine (ih Kd b bl g vq vm ts (putS S n) p wm hG hfew hpf (by omega) hI7).mono ?_
  rintro r w8 ⟨rfl, hset8, k8⟩
  have hI8 := hI7.next k8 hset8
  have hT8 := k8.blk (show w4.heap.size ≠ g by omega) hT7
  have hk8 := hk7.trans k8
  rw [hr1] at hset8 hI8 ⊢
  rw [hr] at ⊢
  obtain ⟨x0, x1, x2, x3, x4⟩ := five_cells hT8
  go_wp2_with fail
  refine (ih Kd b bl g vq vm ts q.1 s w8 hG hfew hsf hsn hI8).mono ?_
  rintro r w9 ⟨rfl, hset9, k9⟩
  have hk9 := hk8.trans k9
  clear hk8 k9 hI8 hset8 hI7 hI6
  rw [HQ2.out] at hset9 ⊢
  go_wp2_with fail
  go_ret
  exact ⟨rfl, hset9, hk9⟩
theorem needs_any : ∀ f, NeedSpec f
  | 0 => fun Kd b bl g vq vm ts S n w hG hfew hnf hn hI => absurd hnf (Nat.not_lt_zero _)
  | f + 1 => fun Kd b bl g vq vm ts S n w hG hfew hnf hn hI => by
    rcases hG.at_ hn default with ⟨v, hv, e⟩ | ⟨r, _, hr, e⟩ | ⟨op, p, s, h1, h2, h3, e⟩
    · exact needs_const f Kd b bl g vq vm ts S n w hG hfew hn hI v e
    · exact needs_var f Kd b bl g vq vm ts S n w hG hfew hn hI r e
    · cases hs : S n with
      | true => exact needs_seen f Kd b bl g vq vm ts S n w hG hfew hn hI op p s e hs
      | false =>
        by_cases h37 : 37 ≤ op
        · exact needs_hard f Kd b bl g vq vm ts S n w hG hfew hn hI op p s e hs h37 (by have := op_cases h1; omega)
        · cases hr : (needF f ts p (putS S n)).2 with
          | true => exact needs_left f (needs_any f) Kd b bl g vq vm ts S n w hG hfew hn hI op p s e hs h37 (by omega) (by omega) _ rfl hr
          | false => exact needs_right f (needs_any f) Kd b bl g vq vm ts S n w hG hfew hn hI op p s e hs h37 (by omega) (by omega) (by omega) (by omega) _ rfl hr
end Go.Proofs.Ytgnahjadjgjecaa
set_option linter.unusedVariables false
set_option linter.unusedSimpArgs false
namespace Go.Proofs.Ytgnahjadjgjecaa
open Go.RowKit Go.Maps Go.MapKept

def chkL (ts : List Term) (l : List Int) : Int := if (l.any fun n => !inR n ts.length) = true then 100 else if (l.any fun n => hardB ts n.toNat) = true then 140 else 0
/-- Whether pairs may be told by clauses. -/
def chkO (ts : List Term) (ax bx : List Int) : Int := if ax.length = bx.length then chkL ts (ax ++ bx) else 1
theorem chkL_out {ts : List Term} {l : List Int} {j : Nat} (hj : j < l.length) (h : inR (l.getD j 0) ts.length = false) : chkL ts l = 100 := by
  unfold chkL
  rw [if_pos]
  rw [List.any_eq_true]
  exact ⟨l.getD j 0, getD_mem hj 0, by rw [h]; rfl⟩
theorem chkL_hard {ts : List Term} {l : List Int} (hin : ∀ n, n ∈ l → inR n ts.length = true) {j : Nat} (hj : j < l.length) (h : hardB ts (l.getD j 0).toNat = true) : chkL ts l = 140 := by
  unfold chkL
  rw [if_neg, if_pos]
  · rw [List.any_eq_true]
    exact ⟨l.getD j 0, getD_mem hj 0, h⟩
  · rw [List.any_eq_true]
    rintro ⟨n, h1, h2⟩
    rw [hin n h1] at h2
    cases h2
theorem chkL_ok {ts : List Term} {l : List Int} (hin : ∀ n, n ∈ l → inR n ts.length = true) (h : ∀ n, n ∈ l → hardB ts n.toNat = false) : chkL ts l = 0 := by
  unfold chkL
  rw [if_neg, if_neg]
  · rw [List.any_eq_true]
    rintro ⟨n, h1, h2⟩
    rw [h n h1] at h2
    cases h2
  · rw [List.any_eq_true]
    rintro ⟨n, h1, h2⟩
    rw [hin n h1] at h2
    cases h2
theorem take_all {l : List Int} {P : Int → Prop} {j : Nat} (hj : j < l.length) (h : ∀ n, n ∈ l.take j → P n) (hn : P (l.getD j 0)) : ∀ n, n ∈ l.take (j + 1) → P n := by
  intro n hm
  rw [List.take_succ_eq_append_getElem hj] at hm
  rcases List.mem_append.1 hm with hm | hm
  · exact h n hm
  · rw [List.mem_singleton.1 hm]
    have : l.getD j 0 = l[j] := by simp [List.getD, hj]
    rw [← this]
    exact hn
set_option maxRecDepth 100000 in
set_option maxHeartbeats 4000000 in
theorem check_any (Kd : Nat → Prop) (b bl : Nat) (vq vm : Value) (ts : List Term) (hG : Good ts) (hfew : ts.length ≤ 1000) (ax bx : List Int) (ha : ax.length ≤ 1000) (hb : bx.length ≤ 1000) (va vb : Value) (e1 e2 : TypeId) (w : World)
    (hva : Sl 0 e1 I64 w va ax) (hvb : Sl 0 e2 I64 w vb bx) (hbl : w.heap[bl]? = some (.cells #[.pointer (some ⟨b, 0, none⟩), vq, vm] 53 (0, 0))) (hD : DagAt Kd w b ts) :
    Calls Try.prog 10 #[.pointer (some ⟨bl, 0, none⟩), va, vb] w fun r w' => r = .returned (.int .i64 (chkO ts ax bx)) ∧ Below w.heap.size w w' := by
  obtain ⟨A1, c1, rfl, p1, p2, p3⟩ := hva.open_
  obtain ⟨A2, c2, rfl, q1, q2, q3⟩ := hvb.open_
  by_cases hlen : ax.length = bx.length
  · have hR : chkO ts ax bx = chkL ts (ax ++ bx) := by unfold chkO; rw [if_pos hlen]
    rw [hR]
    clear hR
    have hle : ((ax.length : Int) != (bx.length : Int)) = false := by rw [hlen]; simp
    have hC := iclone_any 0 _ _ ax (by omega) w hva
    have hL0 : (ax ++ bx).length = ax.length + bx.length := List.length_append
    obtain ⟨l, hl⟩ : ∃ l, ax ++ bx = l := ⟨_, rfl⟩
    rw [hl] at hL0 ⊢
    have HL := Lib.hid hl
    have hL : l.length ≤ 2000 := by omega
    have HLEN := Lib.hid hlen
    clear hl hL0 hlen
    go_enter Try.func10, Try.ntmps10
    go_wp2_with fail
    refine hC.mono ?_
    rintro r w1 ⟨u, rfl, hu, b1⟩
    have hvb1 := Sl.stable (stable_i64 _ _) (T := [e2]) (by simp) _ _ _ _ (Quiet.below b1) hvb
    go_wp2_with (first | (at_builtin; refine wpList_app (w0 := w) w.heap.size rfl _ _ 23 3 _ 8 rfl Try.underlying23 infoB_int rfl (by decide) [] hu (stable_i64 _ _) (by decide) hvb1 rfl rfl (fun _ _ h => by rw [h.1]; rfl) b1 b1.size (by omega) ?_; intro v2 w2 ho2 hB2 hg2; rw [HL.out] at ho2; obtain ⟨A, c, rfl, s1, s2, s3⟩ := (ho2.toSl 0).open_) | fail)
    have ho3 := ho2.lower (Nat.zero_le _)
    have hown : ∀ g, (Value.slice A l.length c).ownBlock = some g → g < w2.heap.size := fun g hg => (ho2.own_lt hg).2
    clear hle hC hu b1 hvb1 ho2 hg2 hva hvb
    go_loopw [9, 10, 11, 26] (fun _ _ _ i wr => ∃ j : Nat, j ≤ l.length ∧ i = .int .i64 j ∧ (∀ n, n ∈ l.take j → inR n ts.length = true) ∧ Own 0 3 I64 wr (.slice A l.length c) l ∧ Below w.heap.size w wr ∧ w2.heap.size ≤ wr.heap.size) (fun _ _ _ i _ => l.length - (intOf i).toNat)
    case atStart => exact ⟨0, Nat.zero_le _, rfl, fun n hn => by simp at hn, ho3, hB2, Nat.le_refl _⟩
    case round =>
      clear ho3 hB2
      obtain ⟨j, hj, rfl, hin, ho, hbw, hsz⟩ := hrel
      have hbl1 := blk_below hbl hbw
      have hD1 := hD.below hbw
      by_cases hlt : j < l.length
      · have hlt' : (j : Int) < l.length := by omega
        obtain ⟨sb, so, u, rfl, hsc, hu⟩ := (ho.toSl 0).at_ hlt 0
        obtain ⟨rfl, _⟩ := hu
        obtain ⟨d0, d1, d2⟩ := three_cells hbl1
        cases hr : inR (l.getD j 0) ts.length with
        | true =>
          have hin2 := take_all (P := fun n => inR n ts.length = true) hlt hin hr
          obtain ⟨k, hk, hk2⟩ := inR_nat hr
          have hN := node_any Kd b k ts (by omega) hk2 wr hD1
          rw [← hk] at hN
          generalize ts.getD k default = t at hN
          unfold tv at hN
          have hN' := Lib.hid hN
          generalize l.getD j 0 = n0 at hsc hN'
          clear hr hin hk hk2 hN hD1 hbl1
          go_wp2_with fail
          refine hN'.out.mono ?_
          rintro r w3 ⟨rfl, b3⟩
          have b4 := b3.alloc b3.size (.cells #[.int .i64 t.k, .int .u32 t.v, .int .i64 t.op, .int .i64 t.a, .int .i64 t.b] 82)
          have ho4 := ho.move (stable_i64 _ [3]) (Quiet.below b4) (by simp)
          have hb4 := below_then hbw b4
          have hs4 := Nat.le_trans hsz b4.size
          clear hN' ho hbw d0 d1 d2 hsc
          go_wp2_with fail
          go_roundw
          case rel => exact ⟨j + 1, by omega, by go_num, hin2, ho4, hb4, hs4⟩
          case measure => simp [Go.RowKit.intOf]; omega
        | false =>
          have hout := chkL_out hlt hr
          have hN := node_no Kd b (l.getD j 0) ts (by omega) hr wr hD1
          change Calls Try.prog 29 #[.pointer (some ⟨b, 0, none⟩), .int .i64 (l.getD j 0)] wr (fun r w' => r = .returned (.tuple #[.agg #[.int .i64 0, .int .u32 0, .int .i64 0, .int .i64 0, .int .i64 0], .int .i64 100]) ∧ Below wr.heap.size wr w') at hN
          have HO := Lib.hid hout
          have hN' := Lib.hid hN
          generalize l.getD j 0 = n0 at hsc hN'
          clear hr hin hN hD1 hbl1 hout
          go_wp2_with fail
          refine hN'.out.mono ?_
          rintro r w3 ⟨rfl, b3⟩
          have b4 := below_then hbw (b3.alloc b3.size (.cells #[.int .i64 0, .int .u32 0, .int .i64 0, .int .i64 0, .int .i64 0] 82))
          clear hN' d0 d1 d2 hsc b3
          go_wp2_with fail
          go_ret
          exact ⟨by rw [HO.out]; rfl, b4⟩
      · have hlt' : ¬ (j : Int) < l.length := by omega
        obtain rfl : j = l.length := by omega
        rw [List.take_length] at hin
        have hS0 := SetAt.made (ek := natB) wr
        have bm := (Below.refl wr.heap.size wr).alloc (Nat.le_refl _) (.map #[] 0)
        have hoM := ho.move (stable_i64 _ [3]) (Quiet.below bm) (by simp)
        have hbM := below_then hbw bm
        have hsM : wr.heap.size < (wr.alloc (.map #[] 0)).heap.size := by simp
        have hmm := @run_makeMap Try.prog
        have hgw : w.heap.size ≤ wr.heap.size := hbw.size
        go_wp2_with fail
        generalize wr.alloc (.map #[] 0) = wm at *
        generalize hg : wr.heap.size = g at *
        clear hg ho hbw bm hmm hD1 hbl1 hlt'
        go_loopw [14, 46] (fun _ i wr => ∃ (j : Nat) (S : Nat → Bool), j ≤ l.length ∧ i = .int .i64 j ∧ SetAt natB wr g S ∧ (∀ m, S m = true → hardB ts m = false) ∧ (∀ n, n ∈ l.take j → hardB ts n.toNat = false) ∧ Own 0 3 I64 wr (.slice A l.length c) l ∧ Below w.heap.size w wr ∧ g < wr.heap.size) (fun _ i _ => l.length - (intOf i).toNat)
        case atStart => exact ⟨0, _, Nat.zero_le _, rfl, hS0, fun m h => (by cases h), fun n hn => (by simp at hn), hoM, hbM, hsM⟩
        case round =>
          clear hS0 hoM hbM hsM
          obtain ⟨j, S, hj, rfl, hS, hsoft, hdone, ho, hbw, hgs⟩ := hrel
          by_cases hlt : j < l.length
          · have hlt' : (j : Int) < l.length := by omega
            obtain ⟨sb, so, u, rfl, hsc, hu⟩ := (ho.toSl 0).at_ hlt 0
            obtain ⟨rfl, _⟩ := hu
            have hr := hin _ (getD_mem hlt 0)
            obtain ⟨k, hk, hk2⟩ := inR_nat hr
            have hne : bl ≠ g := by have := (Array.getElem?_eq_some_iff.1 hbl).1; omega
            have hOk := need_ok hG (k + 1) k S (by omega) hk2 (fun m _ hm => hsoft m hm)
            have hC := needs_any (k + 1) (fun i => DagAt Kd w b ts ∧ False) b bl g vq vm ts S k wr hG hfew (by omega) hk2 ⟨hne, blk_below hbl hbw, hS, fun w' hk' => (hD.below (hbw.trans ⟨hk'.os, hk'.tape, hk'.output, hk'.size, fun i hi => hk'.block i (by have := hbw.size; omega) (by show i ≠ g; omega)⟩)).mono (fun i hi => hi.2.elim)⟩
            have hCx : Calls Try.prog 30 #[.pointer (some ⟨bl, 0, none⟩), .int .i64 (l.getD j 0), .map (some g)] wr (NeedPost wr g (needF (k + 1) ts k S)) := by rw [hk]; exact hC
            have hkn : (l.getD j 0).toNat = k := by rw [hk]; simp
            generalize needF (k + 1) ts k S = q at hOk hCx
            obtain ⟨o1, o2, o3, o4⟩ := hOk
            have hownj := hown
            cases hq : q.2 with
            | true =>
              have hout := chkL_hard hin hlt (by rw [hkn, ← o1, hq])
              have HO := Lib.hid hout
              have hCh := Lib.hid hCx
              have HQ := Lib.hid hq
              generalize l.getD j 0 = n0 at hsc hCh
              clear hC hCx hq o1 o2 o3 o4 hout hr hk hk2 hkn hsoft hdone hin
              go_wp2_with fail
              refine hCh.out.mono ?_
              rintro r w3 ⟨rfl, hS3, k3⟩
              have b3 : Below w.heap.size w w3 := hbw.trans ⟨k3.os, k3.tape, k3.output, k3.size, fun i hi => k3.block i (by have := hbw.size; omega) (by show i ≠ g; omega)⟩
              rw [HQ.out]
              go_wp2_with fail
              go_ret
              exact ⟨by rw [HO.out]; rfl, b3⟩
            | false =>
              have hsoft2 : ∀ m, q.1 m = true → hardB ts m = false := fun m hm => by
                rcases o4 m hm with h | h
                · exact o2 hq m h hm
                · exact hsoft m h
              have hdone2 := take_all (P := fun n => hardB ts n.toNat = false) hlt hdone (by rw [hkn, ← o1, hq])
              have hCh := Lib.hid hCx
              have HQ := Lib.hid hq
              generalize l.getD j 0 = n0 at hsc hCh
              clear hC hCx hq o1 o2 o3 o4 hr hk hk2 hkn hsoft hdone
              go_wp2_with fail
              refine hCh.out.mono ?_
              rintro r w3 ⟨rfl, hS3, k3⟩
              have b3 : Below w.heap.size w w3 := hbw.trans ⟨k3.os, k3.tape, k3.output, k3.size, fun i hi => k3.block i (by have := hbw.size; omega) (by show i ≠ g; omega)⟩
              have ho3 : Own 0 3 I64 w3 (.slice (some ⟨sb, so, none⟩) l.length c) l := ho.blocks (fun x hx => k3.block x (ho.own_lt hx).2 (by have := hown x hx; show x ≠ g; omega)) (fun _ _ h => h)
              have hg3 : g < w3.heap.size := Nat.lt_of_lt_of_le hgs k3.size
              rw [HQ.out]
              clear k3 hCh ho hbw hgs hsc hS
              go_wp2_with fail
              go_roundw
              case rel => exact ⟨j + 1, q.1, by omega, by go_num, hS3, hsoft2, hdone2, ho3, b3, hg3⟩
              case measure => simp [Go.RowKit.intOf]; omega
          · have hlt' : ¬ (j : Int) < l.length := by omega
            obtain rfl : j = l.length := by omega
            rw [List.take_length] at hdone
            have HO := Lib.hid (chkL_ok hin hdone)
            go_wp2_with fail
            go_ret
            exact ⟨by rw [HO.out]; rfl, hbw⟩
  · have hR : chkO ts ax bx = 1 := by unfold chkO; rw [if_neg hlen]
    rw [hR]
    have hle : ((ax.length : Int) != (bx.length : Int)) = true := by simp; omega
    clear hR
    have HL := Lib.hid hlen
    clear hlen
    go_enter Try.func10, Try.ntmps10
    go_wp2_with fail
    go_ret
    exact ⟨rfl, Below.refl _ _⟩
end Go.Proofs.Ytgnahjadjgjecaa
