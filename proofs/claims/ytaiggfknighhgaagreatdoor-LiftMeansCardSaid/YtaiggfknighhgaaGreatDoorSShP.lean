/- simp: shifts behind shifts, the plain law. -/
import Derived.Test.YtaiggfknighhgaaGreatDoorTPure
set_option linter.unusedVariables false
set_option linter.unusedSimpArgs false
namespace Go.Proofs.YtaiggfknighhgaaGreatDoor

theorem mem_ins (ts : List Term) (t : Term) : t ∈ ins ts t := by
  unfold ins
  split
  · assumption
  · simp
theorem Ext.mem {a b : List Term} (h : Ext a b) {t : Term} (ht : t ∈ a) : t ∈ b := by
  obtain ⟨r, rfl⟩ := h
  simp [ht]
theorem Ext.pos {a b : List Term} (h : Ext a b) {t : Term} (ht : t ∈ a) : pos b t = pos a t := by
  obtain ⟨r, rfl⟩ := h
  have hlt : Go.Proofs.YtaiggfknighhgaaGreatDoor.pos a t < a.length := List.findIdx_lt_length_of_exists ⟨t, ht, by simp⟩
  unfold Go.Proofs.YtaiggfknighhgaaGreatDoor.pos at hlt ⊢
  rw [List.findIdx_append, if_pos hlt]
theorem ins_of_mem {ts : List Term} {t : Term} (h : t ∈ ts) : ins ts t = ts := by unfold ins; rw [if_pos h]
theorem made_ok {ts : List Term} {op a b : Nat} (h : Good ts) (ho : (doW op 0 0).isSome = true) (ha : a < ts.length) (hb : b < ts.length) :
    Good (made ts op a b).1 ∧ (made ts op a b).2 < (made ts op a b).1.length ∧ Ext ts (made ts op a b).1 :=
  have hm := mz_le (op := op) (b := b) ha
  have := madeF_ok (8 * ts.length + 10) ts op a b h ho ha hb (by omega)
  ⟨this.1, this.2.1, this.2.2.1⟩
section
variable {ts : List Term} {op a i v : Nat}
theorem shift_facts (hs : op = 29 ∨ op = 33) : isShift op = true ∧ turns op = false ∧ op ≠ 28 ∧ (doW op 0 0).isSome = true := by
  rcases hs with rfl | rfl <;> decide
theorem next_some {r : Nx} (hs : op = 29 ∨ op = 33) (ha : isC ts a = false) (hi : isC ts i = true) (hb : byN ts op a i (wd ts i) = some r) : next ts op a i = r := by
  obtain ⟨h1, h2, h3, _⟩ := shift_facts hs
  unfold next
  rw [if_neg (by rw [ha]; simp), if_neg (by rw [h2]; simp), if_neg (by simp [h3])]
  simp only [if_pos hi, hb]
theorem next_none (hs : op = 29 ∨ op = 33) (ha : isC ts a = false) (hi : isC ts i = true) (hai : a ≠ i) (hb : byN ts op a i (wd ts i) = none) : next ts op a i = .done (ins ts (opT op a i)) (pos ts (opT op a i)) := by
  obtain ⟨h1, h2, h3, _⟩ := shift_facts hs
  unfold next
  rw [if_neg (by rw [ha]; simp), if_neg (by rw [h2]; simp), if_neg (by simp [h3])]
  simp only [if_pos hi, hb, if_neg hai]
/-- A shift by a word of what is no such shift. -/
theorem next_plain (hs : op = 29 ∨ op = 33) (ha : isC ts a = false) (hi : isC ts i = true) (h0 : 1 ≤ wd ts i) (h1 : wd ts i < 32) (hn : (ts.getD a default).k ≠ 2 ∨ (ts.getD a default).op ≠ op) :
    next ts op a i = .done (ins ts (opT op a i)) (pos ts (opT op a i)) := by
  have hai : a ≠ i := by rintro rfl; rw [ha] at hi; cases hi
  obtain ⟨hsh, _, _, _⟩ := shift_facts hs
  have hb : byN ts op a i (wd ts i) = none := by
    unfold byN
    rw [if_neg (by omega), if_neg (by omega), if_neg (by omega), if_neg (by omega), if_neg (by omega), if_neg (by omega), if_neg (by omega), if_neg (by omega), if_pos hn]
  exact next_none hs ha hi hai hb
/-- A shift by a word of a shift by a word. -/
theorem next_twice (hs : op = 29 ∨ op = 33) {a' i' : Nat} (ha : ts.getD a default = opT op a' i') (hi : isC ts i = true) (h0 : 1 ≤ wd ts i) (h1 : wd ts i < 32) (hi' : isC ts i' = true) (h2 : 1 ≤ wd ts i') (h3 : wd ts i' < 32) :
    next ts op a i = if wd ts i' + wd ts i < 32 then goesN ts op a' (wd ts i' + wd ts i) else cst ts 0 := by
  have hca : isC ts a = false := by unfold isC; rw [ha]; simp [opT]
  obtain ⟨hsh, _, _, _⟩ := shift_facts hs
  have hb : byN ts op a i (wd ts i) = some (if wd ts i' + wd ts i < 32 then goesN ts op a' (wd ts i' + wd ts i) else cst ts 0) := by
    unfold byN
    rw [if_neg (by omega), if_neg (by omega), if_neg (by omega), if_neg (by omega), if_neg (by omega), if_neg (by omega), if_neg (by omega), if_neg (by omega), if_neg (by rw [ha]; simp [opT])]
    have e1 : (ts.getD a default).b = i' := by rw [ha]; rfl
    have e2 : (ts.getD a default).a = a' := by rw [ha]; rfl
    rw [e1, e2, if_neg (by rw [hi']; decide), if_neg (by omega), if_neg (by rw [hsh]; simp; omega)]
    split
    · rfl
    · rw [if_neg (by omega)]
  exact next_some hs hca hi hb
theorem next_whole (hs : op = 29 ∨ op = 33) (ha : isC ts a = false) (hi : isC ts i = true) (h0 : wd ts i = 32) : next ts op a i = .done ts a := by
  obtain ⟨hsh, _, _, _⟩ := shift_facts hs
  have hb : byN ts op a i (wd ts i) = some (.done ts a) := by
    unfold byN
    rw [if_neg (by omega), if_neg (by omega), if_neg (by omega), if_pos ⟨hsh, by rw [h0]⟩]
  exact next_some hs ha hi hb
end
def var3 : List Term := [varT 3]
theorem good_var3 : Good var3 := (Good.nil.var (r := 3) (by omega) (by omega) : Good (ins [] (varT 3)))
def sh1 (v : Nat) : List Term := ins var3 (constT v)
def shi1 (v : Nat) : Nat := pos var3 (constT v)
def sh2 (op v : Nat) : Made := made (sh1 v) op 0 (shi1 v)
def sh3 (op v w : Nat) : List Term := ins (sh2 op v).1 (constT w)
def shi3 (op v w : Nat) : Nat := pos (sh2 op v).1 (constT w)
def sh4 (op v w : Nat) : Made := made (sh3 op v w) op (sh2 op v).2 (shi3 op v w)
def sh5 (op v w : Nat) : List Term := ins (sh4 op v w).1 (constT 32)
def shi5 (op v w : Nat) : Nat := pos (sh4 op v w).1 (constT 32)
def sh6 (op v w : Nat) : Made := made (sh5 op v w) op 0 (shi5 op v w)
def sh7 (op v w : Nat) : List Term := ins (sh6 op v w).1 (constT 0)
def shi7 (op v w : Nat) : Nat := pos (sh6 op v w).1 (constT 0)
def sh8 (op v w : Nat) : List Term := ins (sh7 op v w) (constT (v + w))
def shi8 (op v w : Nat) : Nat := pos (sh7 op v w) (constT (v + w))
def sh9 (op v w : Nat) : Made := made (sh8 op v w) op 0 (shi8 op v w)
theorem sh1_good {v : Nat} (hv : 1 ≤ v ∧ v < 32) : Good (sh1 v) ∧ Ext var3 (sh1 v) ∧ shi1 v < (sh1 v).length ∧ isC (sh1 v) (shi1 v) = true ∧ wd (sh1 v) (shi1 v) = v :=
  ⟨good_var3.const (by omega), ext_ins _ _, pos_lt _ _, ins_const_isC _ _, ins_const_wd _ _⟩
theorem x_of {ts : List Term} (h : Ext var3 ts) : 0 < ts.length ∧ isC ts 0 = false ∧ ts.getD 0 default = varT 3 :=
  ⟨Nat.lt_of_lt_of_le (by decide : 0 < var3.length) h.len, h.isC (by decide : 0 < var3.length), h.getD (by decide : 0 < var3.length) _⟩
section
variable {op v w : Nat} (hs : op = 29 ∨ op = 33) (hv : 1 ≤ v ∧ v < 32) (hw : 1 ≤ w ∧ w < 32)
include hs hv
theorem sh2_eq : sh2 op v = (ins (sh1 v) (opT op 0 (shi1 v)), pos (sh1 v) (opT op 0 (shi1 v))) := by
  obtain ⟨h1, h2, h3, h4, h5⟩ := sh1_good hv
  obtain ⟨x1, x2, x3⟩ := x_of h2
  unfold sh2
  rw [made_next h1 (shift_facts hs).2.2.2 x1 h3, next_plain hs x2 h4 (by omega) (by omega) (Or.inl (by rw [x3]; simp [varT]))]
  simp only [Nx.fin]
theorem sh2_good : Good (sh2 op v).1 ∧ Ext var3 (sh2 op v).1 ∧ (sh2 op v).2 < (sh2 op v).1.length ∧ Ext (sh1 v) (sh2 op v).1 ∧ (sh2 op v).1.getD (sh2 op v).2 default = opT op 0 (shi1 v) := by
  obtain ⟨h1, h2, h3, h4, h5⟩ := sh1_good hv
  obtain ⟨x1, x2, x3⟩ := x_of h2
  obtain ⟨m1, m2, m3⟩ := made_ok h1 (shift_facts hs).2.2.2 x1 h3
  refine ⟨m1, h2.trans m3, m2, m3, ?_⟩
  rw [sh2_eq hs hv]
  dsimp only
  exact ins_getD _ _ _
include hw
theorem sh3_good : Good (sh3 op v w) ∧ Ext var3 (sh3 op v w) ∧ shi3 op v w < (sh3 op v w).length ∧ (sh2 op v).2 < (sh3 op v w).length := by
  obtain ⟨h1, h2, h3, h4, h5⟩ := sh2_good hs hv
  exact ⟨h1.const (by omega), h2.trans (ext_ins _ _), pos_lt _ _, Nat.lt_of_lt_of_le h3 (ext_ins _ _).len⟩
theorem sh4_next : next (sh3 op v w) op (sh2 op v).2 (shi3 op v w) = if v + w < 32 then goesN (sh3 op v w) op 0 (v + w) else cst (sh3 op v w) 0 := by
  obtain ⟨g1, g2, g3, g4, g5⟩ := sh1_good hv
  obtain ⟨h1, h2, h3, h4, h5⟩ := sh2_good hs hv
  have e : Ext (sh2 op v).1 (sh3 op v w) := ext_ins _ _
  have hwi : isC (sh3 op v w) (shi3 op v w) = true := ins_const_isC _ _
  have hww : wd (sh3 op v w) (shi3 op v w) = w := ins_const_wd _ _
  have hvi : isC (sh3 op v w) (shi1 v) = true := by rw [(h4.trans e).isC g3]; exact g4
  have hvw : wd (sh3 op v w) (shi1 v) = v := by rw [(h4.trans e).wd g3]; exact g5
  have := next_twice (ts := sh3 op v w) (a := (sh2 op v).2) (i := shi3 op v w) hs (by rw [e.getD h3]; exact h5) hwi (by omega) (by omega) hvi (by omega) (by omega)
  rw [this, hvw, hww]
/-- The terms that two shifts end in. -/
theorem sh4_eq : if v + w < 32 then constT (v + w) ∈ (sh4 op v w).1 ∧ opT op 0 (pos (sh4 op v w).1 (constT (v + w))) ∈ (sh4 op v w).1 ∧ (sh4 op v w).2 = pos (sh4 op v w).1 (opT op 0 (pos (sh4 op v w).1 (constT (v + w))))
    else constT 0 ∈ (sh4 op v w).1 ∧ (sh4 op v w).2 = pos (sh4 op v w).1 (constT 0) := by
  obtain ⟨h1, h2, h3, h4⟩ := sh3_good hs hv hw
  have hn := sh4_next hs hv hw
  have hf := shift_facts hs
  have hm : sh4 op v w = _ := made_next h1 hf.2.2.2 h4 h3
  rw [hn] at hm
  by_cases hl : v + w < 32
  · rw [if_pos hl]
    rw [if_pos hl] at hm
    have hg := h1.const (v := v + w) (by omega)
    have he := ext_ins (sh3 op v w) (constT (v + w))
    obtain ⟨x1, x2, x3⟩ := x_of (h2.trans he)
    simp only [goesN, Nx.fin] at hm
    have hm2 := hm
    clear hm
    rw [made_next hg hf.2.2.2 x1 (pos_lt _ _), next_plain hs x2 (ins_const_isC _ _) (by rw [ins_const_wd]; omega) (by rw [ins_const_wd]; omega) (Or.inl (by rw [x3]; simp [varT]))] at hm2
    have hc : constT (v + w) ∈ ins (sh3 op v w) (constT (v + w)) := mem_ins _ _
    have hp : pos (ins (sh3 op v w) (constT (v + w))) (constT (v + w)) = pos (sh3 op v w) (constT (v + w)) := by
      by_cases hmem : constT (v + w) ∈ sh3 op v w
      · rw [ins_of_mem hmem]
      · rw [pos_new hmem, ins, if_neg hmem]
        unfold pos
        rw [List.findIdx_append]
        have := pos_new hmem
        unfold pos at this
        rw [this, if_neg (by omega)]
        simp
    generalize hD : ins (sh3 op v w) (constT (v + w)) = D at hm2 hc hp
    generalize pos (sh3 op v w) (constT (v + w)) = j at hm2 hp
    have he2 := ext_ins D (opT op 0 j)
    have hj : pos (ins D (opT op 0 j)) (constT (v + w)) = j := by rw [he2.pos hc, hp]
    rw [hm2]
    simp only [Nx.fin]
    rw [hj]
    refine ⟨he2.mem hc, mem_ins _ _, ?_⟩
    by_cases hmem : opT op 0 j ∈ D
    · rw [ins_of_mem hmem]
    · rw [pos_new hmem, ins, if_neg hmem]
      unfold pos
      rw [List.findIdx_append]
      have := pos_new hmem
      unfold pos at this
      rw [this, if_neg (by omega)]
      simp
  · rw [if_neg hl]
    rw [if_neg hl] at hm
    simp only [cst, Nx.fin] at hm
    have hm2 := hm
    clear hm
    rw [hm2]
    refine ⟨mem_ins _ _, ?_⟩
    by_cases hmem : constT 0 ∈ sh3 op v w
    · simp only [ins_of_mem hmem]
    · simp only [pos_new hmem, ins, if_neg hmem]
      unfold pos
      rw [List.findIdx_append]
      have := pos_new hmem
      unfold pos at this
      rw [this, if_neg (by omega)]
      simp
theorem sh4_good : Good (sh4 op v w).1 ∧ Ext var3 (sh4 op v w).1 ∧ (sh4 op v w).2 < (sh4 op v w).1.length := by
  obtain ⟨h1, h2, h3, h4⟩ := sh3_good hs hv hw
  obtain ⟨m1, m2, m3⟩ := made_ok h1 (shift_facts hs).2.2.2 h4 h3
  exact ⟨m1, h2.trans m3, m2⟩
theorem sh5_good : Good (sh5 op v w) ∧ Ext var3 (sh5 op v w) ∧ shi5 op v w < (sh5 op v w).length := by
  obtain ⟨h1, h2, h3⟩ := sh4_good hs hv hw
  exact ⟨h1.const (by omega), h2.trans (ext_ins _ _), pos_lt _ _⟩
theorem sh6_eq : sh6 op v w = (sh5 op v w, 0) := by
  obtain ⟨h1, h2, h3⟩ := sh5_good hs hv hw
  obtain ⟨x1, x2, x3⟩ := x_of h2
  have hwi : isC (sh5 op v w) (shi5 op v w) = true := ins_const_isC _ _
  have hww : wd (sh5 op v w) (shi5 op v w) = 32 := ins_const_wd _ _
  unfold sh6
  rw [made_next h1 (shift_facts hs).2.2.2 x1 h3, next_whole hs x2 hwi hww]
  rfl
theorem sh7_good : Good (sh7 op v w) ∧ Ext var3 (sh7 op v w) ∧ Ext (sh4 op v w).1 (sh7 op v w) := by
  obtain ⟨h1, h2, h3⟩ := sh5_good hs hv hw
  unfold sh7
  rw [sh6_eq hs hv hw]
  exact ⟨h1.const (by omega), h2.trans (ext_ins _ _), (ext_ins (sh4 op v w).1 (constT 32)).trans (ext_ins _ _)⟩
theorem shi7_eq (hl : ¬ v + w < 32) : (sh4 op v w).2 = shi7 op v w := by
  have h := sh4_eq hs hv hw
  rw [if_neg hl] at h
  unfold shi7
  rw [sh6_eq hs hv hw]
  rw [h.2]
  exact ((ext_ins (sh4 op v w).1 (constT 32)).pos h.1).symm
theorem sh8_good (hl : v + w < 32) : Good (sh8 op v w) ∧ 0 < (sh8 op v w).length ∧ shi8 op v w < (sh8 op v w).length := by
  obtain ⟨h1, h2, h3⟩ := sh7_good hs hv hw
  exact ⟨h1.const (by omega), (x_of (h2.trans (ext_ins _ _))).1, pos_lt _ _⟩
theorem sh9_eq (hl : v + w < 32) : (sh4 op v w).2 = (sh9 op v w).2 := by
  have h := sh4_eq hs hv hw
  rw [if_pos hl] at h
  obtain ⟨h1, h2, h3⟩ := sh7_good hs hv hw
  obtain ⟨g1, g2, g3⟩ := sh8_good hs hv hw hl
  have hc7 := h3.mem h.1
  have e8 : sh8 op v w = sh7 op v w := ins_of_mem hc7
  have ei : shi8 op v w = pos (sh4 op v w).1 (constT (v + w)) := h3.pos h.1
  obtain ⟨x1, x2, x3⟩ := x_of h2
  have hi : isC (sh8 op v w) (shi8 op v w) = true := ins_const_isC _ _
  have hw2 : wd (sh8 op v w) (shi8 op v w) = v + w := ins_const_wd _ _
  unfold sh9
  rw [made_next g1 (shift_facts hs).2.2.2 g2 g3, next_plain hs (by rw [e8]; exact x2) hi (by rw [hw2]; omega) (by rw [hw2]; omega) (Or.inl (by rw [e8, x3]; simp [varT]))]
  simp only [Nx.fin]
  rw [ei, e8, h3.pos h.2.1, ← h.2.2]
end
end Go.Proofs.YtaiggfknighhgaaGreatDoor
