/- simp: shifts behind shifts, the plain law. -/
/- Terms' depth: how many terms a reckoning made simple makes at most. -/
import Derived.Test.YtaiggfknighhgaaGreatDoorTPure
set_option linter.unusedVariables false
set_option linter.unusedSimpArgs false
namespace Go.Proofs.YtaiggfknighhgaaGreatDoor

theorem mem_ins (ts : List Term) (t : Term) : t ∈ ins ts t := by
  unfold ins
  split
  · assumption
  · simp
theorem Ext.mem {a b : List Term} (h : Ext a b) {t : Term} (ht : t ∈ a) : t ∈ b := by
  obtain ⟨r, rfl⟩ := h
  simp [ht]
theorem Ext.pos {a b : List Term} (h : Ext a b) {t : Term} (ht : t ∈ a) : pos b t = pos a t := by
  obtain ⟨r, rfl⟩ := h
  have hlt : Go.Proofs.YtaiggfknighhgaaGreatDoor.pos a t < a.length := List.findIdx_lt_length_of_exists ⟨t, ht, by simp⟩
  unfold Go.Proofs.YtaiggfknighhgaaGreatDoor.pos at hlt ⊢
  rw [List.findIdx_append, if_pos hlt]
theorem ins_of_mem {ts : List Term} {t : Term} (h : t ∈ ts) : ins ts t = ts := by unfold ins; rw [if_pos h]
theorem made_ok {ts : List Term} {op a b : Nat} (h : Good ts) (ho : (doW op 0 0).isSome = true) (ha : a < ts.length) (hb : b < ts.length) :
    Good (made ts op a b).1 ∧ (made ts op a b).2 < (made ts op a b).1.length ∧ Ext ts (made ts op a b).1 :=
  have hm := mz_le (op := op) (b := b) ha
  have := madeF_ok (8 * ts.length + 10) ts op a b h ho ha hb (by omega)
  ⟨this.1, this.2.1, this.2.2.1⟩
section
variable {ts : List Term} {op a i v : Nat}
theorem shift_facts (hs : op = 29 ∨ op = 33) : isShift op = true ∧ turns op = false ∧ op ≠ 28 ∧ (doW op 0 0).isSome = true := by
  rcases hs with rfl | rfl <;> decide
theorem next_some {r : Nx} (hs : op = 29 ∨ op = 33) (ha : isC ts a = false) (hi : isC ts i = true) (hb : byN ts op a i (wd ts i) = some r) : next ts op a i = r := by
  obtain ⟨h1, h2, h3, _⟩ := shift_facts hs
  unfold next
  rw [if_neg (by rw [ha]; simp), if_neg (by rw [h2]; simp), if_neg (by simp [h3])]
  simp only [if_pos hi, hb]
theorem next_none (hs : op = 29 ∨ op = 33) (ha : isC ts a = false) (hi : isC ts i = true) (hai : a ≠ i) (hb : byN ts op a i (wd ts i) = none) : next ts op a i = .done (ins ts (opT op a i)) (pos ts (opT op a i)) := by
  obtain ⟨h1, h2, h3, _⟩ := shift_facts hs
  unfold next
  rw [if_neg (by rw [ha]; simp), if_neg (by rw [h2]; simp), if_neg (by simp [h3])]
  simp only [if_pos hi, hb, if_neg hai]
/-- A shift by a word of what is no such shift. -/
theorem next_plain (hs : op = 29 ∨ op = 33) (ha : isC ts a = false) (hi : isC ts i = true) (h0 : 1 ≤ wd ts i) (h1 : wd ts i < 32) (hn : (ts.getD a default).k ≠ 2 ∨ (ts.getD a default).op ≠ op) :
    next ts op a i = .done (ins ts (opT op a i)) (pos ts (opT op a i)) := by
  have hai : a ≠ i := by rintro rfl; rw [ha] at hi; cases hi
  obtain ⟨hsh, _, _, _⟩ := shift_facts hs
  have hb : byN ts op a i (wd ts i) = none := by
    unfold byN
    rw [if_neg (by omega), if_neg (by omega), if_neg (by omega), if_neg (by omega), if_neg (by omega), if_neg (by omega), if_neg (by omega), if_neg (by omega), if_pos hn]
  exact next_none hs ha hi hai hb
/-- A shift by a word of a shift by a word. -/
theorem next_twice (hs : op = 29 ∨ op = 33) {a' i' : Nat} (ha : ts.getD a default = opT op a' i') (hi : isC ts i = true) (h0 : 1 ≤ wd ts i) (h1 : wd ts i < 32) (hi' : isC ts i' = true) (h2 : 1 ≤ wd ts i') (h3 : wd ts i' < 32) :
    next ts op a i = if wd ts i' + wd ts i < 32 then goesN ts op a' (wd ts i' + wd ts i) else cst ts 0 := by
  have hca : isC ts a = false := by unfold isC; rw [ha]; simp [opT]
  obtain ⟨hsh, _, _, _⟩ := shift_facts hs
  have hb : byN ts op a i (wd ts i) = some (if wd ts i' + wd ts i < 32 then goesN ts op a' (wd ts i' + wd ts i) else cst ts 0) := by
    unfold byN
    rw [if_neg (by omega), if_neg (by omega), if_neg (by omega), if_neg (by omega), if_neg (by omega), if_neg (by omega), if_neg (by omega), if_neg (by omega), if_neg (by rw [ha]; simp [opT])]
    have e1 : (ts.getD a default).b = i' := by rw [ha]; rfl
    have e2 : (ts.getD a default).a = a' := by rw [ha]; rfl
    rw [e1, e2, if_neg (by rw [hi']; decide), if_neg (by omega), if_neg (by rw [hsh]; simp; omega)]
    split
    · rfl
    · rw [if_neg (by omega)]
  exact next_some hs hca hi hb
theorem next_whole (hs : op = 29 ∨ op = 33) (ha : isC ts a = false) (hi : isC ts i = true) (h0 : wd ts i = 32) : next ts op a i = .done ts a := by
  obtain ⟨hsh, _, _, _⟩ := shift_facts hs
  have hb : byN ts op a i (wd ts i) = some (.done ts a) := by
    unfold byN
    rw [if_neg (by omega), if_neg (by omega), if_neg (by omega), if_pos ⟨hsh, by rw [h0]⟩]
  exact next_some hs ha hi hb
end
def var3 : List Term := [varT 3]
theorem good_var3 : Good var3 := (Good.nil.var (r := 3) (by omega) (by omega) : Good (ins [] (varT 3)))
def sh1 (v : Nat) : List Term := ins var3 (constT v)
def shi1 (v : Nat) : Nat := pos var3 (constT v)
def sh2 (op v : Nat) : Made := made (sh1 v) op 0 (shi1 v)
def sh3 (op v w : Nat) : List Term := ins (sh2 op v).1 (constT w)
def shi3 (op v w : Nat) : Nat := pos (sh2 op v).1 (constT w)
def sh4 (op v w : Nat) : Made := made (sh3 op v w) op (sh2 op v).2 (shi3 op v w)
def sh5 (op v w : Nat) : List Term := ins (sh4 op v w).1 (constT 32)
def shi5 (op v w : Nat) : Nat := pos (sh4 op v w).1 (constT 32)
def sh6 (op v w : Nat) : Made := made (sh5 op v w) op 0 (shi5 op v w)
def sh7 (op v w : Nat) : List Term := ins (sh6 op v w).1 (constT 0)
def shi7 (op v w : Nat) : Nat := pos (sh6 op v w).1 (constT 0)
def sh8 (op v w : Nat) : List Term := ins (sh7 op v w) (constT (v + w))
def shi8 (op v w : Nat) : Nat := pos (sh7 op v w) (constT (v + w))
def sh9 (op v w : Nat) : Made := made (sh8 op v w) op 0 (shi8 op v w)
theorem sh1_good {v : Nat} (hv : 1 ≤ v ∧ v < 32) : Good (sh1 v) ∧ Ext var3 (sh1 v) ∧ shi1 v < (sh1 v).length ∧ isC (sh1 v) (shi1 v) = true ∧ wd (sh1 v) (shi1 v) = v :=
  ⟨good_var3.const (by omega), ext_ins _ _, pos_lt _ _, ins_const_isC _ _, ins_const_wd _ _⟩
theorem x_of {ts : List Term} (h : Ext var3 ts) : 0 < ts.length ∧ isC ts 0 = false ∧ ts.getD 0 default = varT 3 :=
  ⟨Nat.lt_of_lt_of_le (by decide : 0 < var3.length) h.len, h.isC (by decide : 0 < var3.length), h.getD (by decide : 0 < var3.length) _⟩
section
variable {op v w : Nat} (hs : op = 29 ∨ op = 33) (hv : 1 ≤ v ∧ v < 32) (hw : 1 ≤ w ∧ w < 32)
include hs hv
theorem sh2_eq : sh2 op v = (ins (sh1 v) (opT op 0 (shi1 v)), pos (sh1 v) (opT op 0 (shi1 v))) := by
  obtain ⟨h1, h2, h3, h4, h5⟩ := sh1_good hv
  obtain ⟨x1, x2, x3⟩ := x_of h2
  unfold sh2
  rw [made_next h1 (shift_facts hs).2.2.2 x1 h3, next_plain hs x2 h4 (by omega) (by omega) (Or.inl (by rw [x3]; simp [varT]))]
  simp only [Nx.fin]
theorem sh2_good : Good (sh2 op v).1 ∧ Ext var3 (sh2 op v).1 ∧ (sh2 op v).2 < (sh2 op v).1.length ∧ Ext (sh1 v) (sh2 op v).1 ∧ (sh2 op v).1.getD (sh2 op v).2 default = opT op 0 (shi1 v) := by
  obtain ⟨h1, h2, h3, h4, h5⟩ := sh1_good hv
  obtain ⟨x1, x2, x3⟩ := x_of h2
  obtain ⟨m1, m2, m3⟩ := made_ok h1 (shift_facts hs).2.2.2 x1 h3
  refine ⟨m1, h2.trans m3, m2, m3, ?_⟩
  rw [sh2_eq hs hv]
  dsimp only
  exact ins_getD _ _ _
include hw
theorem sh3_good : Good (sh3 op v w) ∧ Ext var3 (sh3 op v w) ∧ shi3 op v w < (sh3 op v w).length ∧ (sh2 op v).2 < (sh3 op v w).length := by
  obtain ⟨h1, h2, h3, h4, h5⟩ := sh2_good hs hv
  exact ⟨h1.const (by omega), h2.trans (ext_ins _ _), pos_lt _ _, Nat.lt_of_lt_of_le h3 (ext_ins _ _).len⟩
theorem sh4_next : next (sh3 op v w) op (sh2 op v).2 (shi3 op v w) = if v + w < 32 then goesN (sh3 op v w) op 0 (v + w) else cst (sh3 op v w) 0 := by
  obtain ⟨g1, g2, g3, g4, g5⟩ := sh1_good hv
  obtain ⟨h1, h2, h3, h4, h5⟩ := sh2_good hs hv
  have e : Ext (sh2 op v).1 (sh3 op v w) := ext_ins _ _
  have hwi : isC (sh3 op v w) (shi3 op v w) = true := ins_const_isC _ _
  have hww : wd (sh3 op v w) (shi3 op v w) = w := ins_const_wd _ _
  have hvi : isC (sh3 op v w) (shi1 v) = true := by rw [(h4.trans e).isC g3]; exact g4
  have hvw : wd (sh3 op v w) (shi1 v) = v := by rw [(h4.trans e).wd g3]; exact g5
  have := next_twice (ts := sh3 op v w) (a := (sh2 op v).2) (i := shi3 op v w) hs (by rw [e.getD h3]; exact h5) hwi (by omega) (by omega) hvi (by omega) (by omega)
  rw [this, hvw, hww]
/-- The terms that two shifts end in. -/
theorem sh4_eq : if v + w < 32 then constT (v + w) ∈ (sh4 op v w).1 ∧ opT op 0 (pos (sh4 op v w).1 (constT (v + w))) ∈ (sh4 op v w).1 ∧ (sh4 op v w).2 = pos (sh4 op v w).1 (opT op 0 (pos (sh4 op v w).1 (constT (v + w))))
    else constT 0 ∈ (sh4 op v w).1 ∧ (sh4 op v w).2 = pos (sh4 op v w).1 (constT 0) := by
  obtain ⟨h1, h2, h3, h4⟩ := sh3_good hs hv hw
  have hn := sh4_next hs hv hw
  have hf := shift_facts hs
  have hm : sh4 op v w = _ := made_next h1 hf.2.2.2 h4 h3
  rw [hn] at hm
  by_cases hl : v + w < 32
  · rw [if_pos hl]
    rw [if_pos hl] at hm
    have hg := h1.const (v := v + w) (by omega)
    have he := ext_ins (sh3 op v w) (constT (v + w))
    obtain ⟨x1, x2, x3⟩ := x_of (h2.trans he)
    simp only [goesN, Nx.fin] at hm
    have hm2 := hm
    clear hm
    rw [made_next hg hf.2.2.2 x1 (pos_lt _ _), next_plain hs x2 (ins_const_isC _ _) (by rw [ins_const_wd]; omega) (by rw [ins_const_wd]; omega) (Or.inl (by rw [x3]; simp [varT]))] at hm2
    have hc : constT (v + w) ∈ ins (sh3 op v w) (constT (v + w)) := mem_ins _ _
    have hp : pos (ins (sh3 op v w) (constT (v + w))) (constT (v + w)) = pos (sh3 op v w) (constT (v + w)) := by
      by_cases hmem : constT (v + w) ∈ sh3 op v w
      · rw [ins_of_mem hmem]
      · rw [pos_new hmem, ins, if_neg hmem]
        unfold pos
        rw [List.findIdx_append]
        have := pos_new hmem
        unfold pos at this
        rw [this, if_neg (by omega)]
        simp
    generalize hD : ins (sh3 op v w) (constT (v + w)) = D at hm2 hc hp
    generalize pos (sh3 op v w) (constT (v + w)) = j at hm2 hp
    have he2 := ext_ins D (opT op 0 j)
    have hj : pos (ins D (opT op 0 j)) (constT (v + w)) = j := by rw [he2.pos hc, hp]
    rw [hm2]
    simp only [Nx.fin]
    rw [hj]
    refine ⟨he2.mem hc, mem_ins _ _, ?_⟩
    by_cases hmem : opT op 0 j ∈ D
    · rw [ins_of_mem hmem]
    · rw [pos_new hmem, ins, if_neg hmem]
      unfold pos
      rw [List.findIdx_append]
      have := pos_new hmem
      unfold pos at this
      rw [this, if_neg (by omega)]
      simp
  · rw [if_neg hl]
    rw [if_neg hl] at hm
    simp only [cst, Nx.fin] at hm
    have hm2 := hm
    clear hm
    rw [hm2]
    refine ⟨mem_ins _ _, ?_⟩
    by_cases hmem : constT 0 ∈ sh3 op v w
    · simp only [ins_of_mem hmem]
    · simp only [pos_new hmem, ins, if_neg hmem]
      unfold pos
      rw [List.findIdx_append]
      have := pos_new hmem
      unfold pos at this
      rw [this, if_neg (by omega)]
      simp
theorem sh4_good : Good (sh4 op v w).1 ∧ Ext var3 (sh4 op v w).1 ∧ (sh4 op v w).2 < (sh4 op v w).1.length := by
  obtain ⟨h1, h2, h3, h4⟩ := sh3_good hs hv hw
  obtain ⟨m1, m2, m3⟩ := made_ok h1 (shift_facts hs).2.2.2 h4 h3
  exact ⟨m1, h2.trans m3, m2⟩
theorem sh5_good : Good (sh5 op v w) ∧ Ext var3 (sh5 op v w) ∧ shi5 op v w < (sh5 op v w).length := by
  obtain ⟨h1, h2, h3⟩ := sh4_good hs hv hw
  exact ⟨h1.const (by omega), h2.trans (ext_ins _ _), pos_lt _ _⟩
theorem sh6_eq : sh6 op v w = (sh5 op v w, 0) := by
  obtain ⟨h1, h2, h3⟩ := sh5_good hs hv hw
  obtain ⟨x1, x2, x3⟩ := x_of h2
  have hwi : isC (sh5 op v w) (shi5 op v w) = true := ins_const_isC _ _
  have hww : wd (sh5 op v w) (shi5 op v w) = 32 := ins_const_wd _ _
  unfold sh6
  rw [made_next h1 (shift_facts hs).2.2.2 x1 h3, next_whole hs x2 hwi hww]
  rfl
theorem sh7_good : Good (sh7 op v w) ∧ Ext var3 (sh7 op v w) ∧ Ext (sh4 op v w).1 (sh7 op v w) := by
  obtain ⟨h1, h2, h3⟩ := sh5_good hs hv hw
  unfold sh7
  rw [sh6_eq hs hv hw]
  exact ⟨h1.const (by omega), h2.trans (ext_ins _ _), (ext_ins (sh4 op v w).1 (constT 32)).trans (ext_ins _ _)⟩
theorem shi7_eq (hl : ¬ v + w < 32) : (sh4 op v w).2 = shi7 op v w := by
  have h := sh4_eq hs hv hw
  rw [if_neg hl] at h
  unfold shi7
  rw [sh6_eq hs hv hw]
  rw [h.2]
  exact ((ext_ins (sh4 op v w).1 (constT 32)).pos h.1).symm
theorem sh8_good (hl : v + w < 32) : Good (sh8 op v w) ∧ 0 < (sh8 op v w).length ∧ shi8 op v w < (sh8 op v w).length := by
  obtain ⟨h1, h2, h3⟩ := sh7_good hs hv hw
  exact ⟨h1.const (by omega), (x_of (h2.trans (ext_ins _ _))).1, pos_lt _ _⟩
theorem sh9_eq (hl : v + w < 32) : (sh4 op v w).2 = (sh9 op v w).2 := by
  have h := sh4_eq hs hv hw
  rw [if_pos hl] at h
  obtain ⟨h1, h2, h3⟩ := sh7_good hs hv hw
  obtain ⟨g1, g2, g3⟩ := sh8_good hs hv hw hl
  have hc7 := h3.mem h.1
  have e8 : sh8 op v w = sh7 op v w := ins_of_mem hc7
  have ei : shi8 op v w = pos (sh4 op v w).1 (constT (v + w)) := h3.pos h.1
  obtain ⟨x1, x2, x3⟩ := x_of h2
  have hi : isC (sh8 op v w) (shi8 op v w) = true := ins_const_isC _ _
  have hw2 : wd (sh8 op v w) (shi8 op v w) = v + w := ins_const_wd _ _
  unfold sh9
  rw [made_next g1 (shift_facts hs).2.2.2 g2 g3, next_plain hs (by rw [e8]; exact x2) hi (by rw [hw2]; omega) (by rw [hw2]; omega) (Or.inl (by rw [e8, x3]; simp [varT]))]
  simp only [Nx.fin]
  rw [ei, e8, h3.pos h.2.1, ← h.2.2]
end
end Go.Proofs.YtaiggfknighhgaaGreatDoor
set_option linter.unusedVariables false
set_option linter.unusedSimpArgs false
namespace Go.Proofs.YtaiggfknighhgaaGreatDoor

def dpF : Nat → List Term → Nat → Nat
  | 0, _, _ => 0
  | f + 1, ts, n => if (ts.getD n default).k = 2 then 1 + max (dpF f ts (ts.getD n default).a) (dpF f ts (ts.getD n default).b) else 0
/-- How deep a term is. -/
def dp (ts : List Term) (n : Nat) : Nat := dpF (n + 1) ts n
theorem dpF_fuel : ∀ (f f' : Nat) (ts : List Term) (n : Nat), Good ts → n < ts.length → n < f → n < f' → dpF f ts n = dpF f' ts n
  | 0, _, _, _, _, _, h, _ => by omega
  | _, 0, _, _, _, _, _, h => by omega
  | f + 1, f' + 1, ts, n, hG, hn, hf, hf' => by
    unfold dpF
    by_cases hk : (ts.getD n default).k = 2
    · obtain ⟨_, ha, hb, _⟩ := hG.op_at hn hk
      rw [if_pos hk, if_pos hk, dpF_fuel f f' ts _ hG (by omega) (by omega) (by omega), dpF_fuel f f' ts _ hG (by omega) (by omega) (by omega)]
    · rw [if_neg hk, if_neg hk]
theorem dp_op {ts : List Term} {n : Nat} (hG : Good ts) (hn : n < ts.length) (hk : (ts.getD n default).k = 2) : dp ts n = 1 + max (dp ts (ts.getD n default).a) (dp ts (ts.getD n default).b) := by
  obtain ⟨_, ha, hb, _⟩ := hG.op_at hn hk
  unfold dp
  rw [dpF, if_pos hk, dpF_fuel n ((ts.getD n default).a + 1) ts _ hG (by omega) (by omega) (by omega), dpF_fuel n ((ts.getD n default).b + 1) ts _ hG (by omega) (by omega) (by omega)]
theorem dp_leaf {ts : List Term} {n : Nat} (hk : (ts.getD n default).k ≠ 2) : dp ts n = 0 := by
  unfold dp dpF
  rw [if_neg hk]
theorem dpF_le : ∀ (f : Nat) (ts : List Term) (n : Nat), Good ts → n < ts.length → dpF f ts n ≤ n
  | 0, _, _, _, _ => by unfold dpF; omega
  | f + 1, ts, n, hG, hn => by
    unfold dpF
    split
    · rename_i hk
      obtain ⟨_, ha, hb, _⟩ := hG.op_at hn hk
      have h1 := dpF_le f ts (ts.getD n default).a hG (by omega)
      have h2 := dpF_le f ts (ts.getD n default).b hG (by omega)
      omega
    · omega
theorem dp_le {ts : List Term} {n : Nat} (hG : Good ts) (hn : n < ts.length) : dp ts n ≤ n := dpF_le _ _ _ hG hn
theorem dpF_ext {ts ts' : List Term} (h : Ext ts ts') (hG : Good ts) : ∀ (f n : Nat), n < ts.length → dpF f ts' n = dpF f ts n
  | 0, _, _ => rfl
  | f + 1, n, hn => by
    unfold dpF
    rw [h.getD hn]
    by_cases hk : (ts.getD n default).k = 2
    · obtain ⟨_, ha, hb, _⟩ := hG.op_at hn hk
      rw [if_pos hk, if_pos hk, dpF_ext h hG f _ (by omega), dpF_ext h hG f _ (by omega)]
    · rw [if_neg hk, if_neg hk]
theorem dp_ext {ts ts' : List Term} (h : Ext ts ts') (hG : Good ts) {n : Nat} (hn : n < ts.length) : dp ts' n = dp ts n := dpF_ext h hG _ _ hn
theorem dp_const (ts : List Term) (w : Nat) : dp (ins ts (constT w)) (pos ts (constT w)) = 0 := dp_leaf (by rw [ins_getD]; simp [constT])
theorem dp_isC {ts : List Term} {n : Nat} (h : isC ts n = true) : dp ts n = 0 := dp_leaf (by unfold isC at h; simp only [decide_eq_true_eq] at h; omega)
def dz (ts : List Term) (op a b : Nat) : Nat :=
  if isC ts b = true then (if isC ts a = true then 0 else 8 * dp ts a + 1 + rank op (wd ts b)) else if isC ts a = true ∨ b < a then 8 * max (dp ts a) (dp ts b) + 9 else 8 * max (dp ts a) (dp ts b) + 8
theorem dz_le (ts : List Term) (op a b : Nat) : dz ts op a b ≤ 8 * max (dp ts a) (dp ts b) + 9 := by
  have := rank_le op (wd ts b)
  unfold dz
  repeat' split
  all_goals omega
/-- One step: less far, no deeper. -/
def Nx.dok (ts : List Term) (op a b : Nat) : Nx → Prop
  | .done ts' n => dp ts' n ≤ 1 + max (dp ts a) (dp ts b)
  | .go ts' op' a' b' => dz ts' op' a' b' < dz ts op a b ∧ max (dp ts' a') (dp ts' b') ≤ max (dp ts a) (dp ts b)
theorem dok_goes {ts : List Term} {op a b op' a' w : Nat} (h : Good ts) (ha : a' < ts.length) (hd : dp ts a' ≤ max (dp ts a) (dp ts b))
    (hl : (if isC ts a' = true then 0 else 8 * dp ts a' + 1 + rank op' w) < dz ts op a b) : (goesN ts op' a' w).dok ts op a b := by
  refine ⟨?_, ?_⟩
  · unfold dz
    rw [if_pos (ins_const_isC ts w), (ext_ins ts _).isC ha, ins_const_wd, dp_ext (ext_ins ts _) h ha]
    exact hl
  · rw [dp_ext (ext_ins ts _) h ha, dp_const]
    omega
theorem dok_cst {ts : List Term} {op a b w : Nat} : (cst ts w).dok ts op a b := by
  show dp (ins ts (constT w)) (pos ts (constT w)) ≤ _
  rw [dp_const]; omega
theorem byN_dok {ts : List Term} {op a b : Nat} (h : Good ts) (ha : a < ts.length) (hca : isC ts a = false) (hcb : isC ts b = true) :
    ∀ r, byN ts op a b (wd ts b) = some r → r.dok ts op a b := by
  have hdb := dp_isC hcb
  have hmz : dz ts op a b = 8 * dp ts a + 1 + rank op (wd ts b) := by unfold dz; rw [if_pos hcb, if_neg (by rw [hca]; decide)]
  have hna : ∀ k, (if isC ts a = true then 0 else k) = k := fun k => by rw [if_neg (by rw [hca]; decide)]
  have hmax : dp ts a ≤ max (dp ts a) (dp ts b) := Nat.le_max_left _ _
  generalize wd ts b = v at hmz
  intro r hr
  unfold byN at hr
  rcases ite_some hr with ⟨hx, rfl⟩ | ⟨hk, hr⟩
  · show dp ts a ≤ _; omega
  rcases ite_some hr with ⟨hx, rfl⟩ | ⟨hk, hr⟩
  · exact dok_cst
  rcases ite_some hr with ⟨hx, rfl⟩ | ⟨hk, hr⟩
  · show dp ts b ≤ _; omega
  rcases ite_some hr with ⟨hx, rfl⟩ | ⟨hk, hr⟩
  · show dp ts a ≤ _; omega
  rcases ite_some hr with ⟨hx, rfl⟩ | ⟨hk, hr⟩
  · refine dok_goes h ha hmax ?_
    rw [hna, hmz]
    obtain ⟨h1, h2⟩ := hx
    have : op = 29 ∨ op = 33 ∨ op = 34 := by simpa [isShift] using h1
    have e1 : rank op (v % 32) = 1 := by rcases this with rfl | rfl | rfl <;> simp [rank, isShift] <;> omega
    have e2 : rank op v = 2 := by rcases this with rfl | rfl | rfl <;> simp [rank, isShift] <;> omega
    omega
  rcases ite_some hr with ⟨hx, rfl⟩ | ⟨hk, hr⟩
  · obtain ⟨h1, rfl⟩ := hx
    refine dok_goes h ha hmax ?_
    rw [hna, hmz]
    have e1 : rank 29 (lg v) ≤ 2 := by simp [rank, isShift]; split <;> omega
    have e2 : rank 37 v = 3 := by simp [rank]
    omega
  rcases ite_some hr with ⟨hx, rfl⟩ | ⟨hk, hr⟩
  · obtain ⟨h1, rfl⟩ := hx
    refine dok_goes h ha hmax ?_
    rw [hna, hmz]
    have e1 : rank 33 (lg v) ≤ 2 := by simp [rank, isShift]; split <;> omega
    have e2 : rank 42 v = 3 := by simp [rank]
    omega
  rcases ite_some hr with ⟨hx, rfl⟩ | ⟨hk, hr⟩
  · obtain ⟨h1, rfl⟩ := hx
    refine dok_goes h ha hmax ?_
    rw [hna, hmz]
    have e1 : rank 36 (v - 1) = 2 := by simp [rank]
    have e2 : rank 44 v = 4 := by simp [rank]
    omega
  obtain ⟨hk, hr⟩ := ite_none hr
  have hk2 : (ts.getD a default).k = 2 := Classical.byContradiction fun hn => hk (Or.inl hn)
  obtain ⟨g1, g2, g3, g4⟩ := h.op_at ha hk2
  have hta : (ts.getD a default).a < ts.length := by omega
  have hdp := dp_op h ha hk2
  have hd2 : dp ts (ts.getD a default).a ≤ max (dp ts a) (dp ts b) := by omega
  have hless : ∀ o w, (if isC ts (ts.getD a default).a = true then 0 else 8 * dp ts (ts.getD a default).a + 1 + rank o w) < dz ts op a b := fun o w => by
    have := rank_le o w
    rw [hmz]
    split <;> omega
  obtain ⟨hk, hr⟩ := ite_none hr
  rcases ite_some hr with ⟨hx, rfl⟩ | ⟨hk, hr⟩
  · exact dok_goes h hta hd2 (hless _ _)
  obtain ⟨hk, hr⟩ := ite_none hr
  rcases ite_some hr with ⟨hx, rfl⟩ | ⟨hk, hr⟩
  · exact dok_goes h hta hd2 (hless _ _)
  rcases ite_some hr with ⟨hx, rfl⟩ | ⟨hk, hr⟩
  · exact dok_goes h hta hd2 (hless _ _)
  · injection hr with hr; subst hr; exact dok_cst
theorem dp_new {ts : List Term} {op a b : Nat} (h : Good ts) (ho : (doW op 0 0).isSome = true) (ha : a < ts.length) (hb : b < ts.length) : dp (ins ts (opT op a b)) (pos ts (opT op a b)) = 1 + max (dp ts a) (dp ts b) := by
  have hg := h.op ho ha hb
  have he : (ins ts (opT op a b)).getD (pos ts (opT op a b)) default = opT op a b := ins_getD _ _ _
  rw [dp_op hg (pos_lt _ _) (by rw [he]; rfl), he]
  show 1 + max (dp (ins ts (opT op a b)) a) (dp (ins ts (opT op a b)) b) = _
  rw [dp_ext (ext_ins _ _) h ha, dp_ext (ext_ins _ _) h hb]
theorem next_dok {ts : List Term} {op a b : Nat} (h : Good ts) (ho : (doW op 0 0).isSome = true) (ha : a < ts.length) (hb : b < ts.length) : (next ts op a b).dok ts op a b := by
  unfold next
  split
  · exact dok_cst
  rename_i hn
  split
  · rename_i hx
    refine ⟨?_, by omega⟩
    obtain ⟨_, ⟨h1, h2⟩ | ⟨h1, h2, h3⟩⟩ := hx
    · have e : dz ts op a b = 8 * max (dp ts a) (dp ts b) + 9 := by unfold dz; rw [if_neg (by rw [h2]; decide), if_pos (Or.inl h1)]
      have e2 : dz ts op b a = 8 * dp ts b + 1 + rank op (wd ts a) := by unfold dz; rw [if_pos h1, if_neg (by rw [h2]; decide)]
      have := rank_le op (wd ts a)
      omega
    · have e : dz ts op a b = 8 * max (dp ts a) (dp ts b) + 9 := by unfold dz; rw [if_neg (by rw [h2]; decide), if_pos (Or.inr h3)]
      have e2 : dz ts op b a = 8 * max (dp ts b) (dp ts a) + 8 := by unfold dz; rw [if_neg (by rw [h1]; decide), if_neg (by rw [h2]; simp; omega)]
      omega
  split
  · rename_i hx
    obtain ⟨rfl, hcb⟩ := hx
    have hca : isC ts a = false := by
      cases e : isC ts a with
      | false => rfl
      | true => exact absurd ⟨e, hcb⟩ hn
    refine dok_goes h ha (Nat.le_max_left _ _) ?_
    unfold dz
    rw [if_neg (by rw [hca]; decide), if_pos hcb, if_neg (by rw [hca]; decide)]
    have e1 : ∀ v, rank 27 v = 3 := fun v => by simp [rank]
    have e2 : ∀ v, rank 28 v = 6 := fun v => by simp [rank]
    rw [e1, e2]; omega
  split
  · rename_i r hr
    split at hr
    · rename_i hcb
      have hca : isC ts a = false := by
        cases e : isC ts a with
        | false => rfl
        | true => exact absurd ⟨e, hcb⟩ hn
      exact byN_dok h ha hca hcb r hr
    · cases hr
  · split
    · rename_i r hr
      split at hr
      · rename_i hab
        subst hab
        have hca : isC ts a = false := by
          cases e : isC ts a with
          | false => rfl
          | true => exact absurd ⟨e, e⟩ hn
        unfold twiceN at hr
        rcases ite_some hr with ⟨hx, rfl⟩ | ⟨hk, hr⟩
        · exact dok_cst
        rcases ite_some hr with ⟨hx, rfl⟩ | ⟨hk, hr⟩
        · show dp ts a ≤ _; omega
        rcases ite_some hr with ⟨hx, rfl⟩ | ⟨hk, hr⟩
        · refine dok_goes h ha (Nat.le_max_left _ _) ?_
          unfold dz
          rw [if_neg (by rw [hca]; decide), if_neg (by rw [hca]; decide), if_neg (by rw [hca]; simp)]
          have e1 : rank 29 1 = 1 := by decide
          rw [e1]; omega
        · cases hr
      · cases hr
    · show dp (ins ts (opT op a b)) (pos ts (opT op a b)) ≤ _
      rw [dp_new h ho ha hb]; omega
theorem madeF_dok : ∀ (f : Nat) (ts : List Term) (op a b : Nat), Good ts → (doW op 0 0).isSome = true → a < ts.length → b < ts.length → mz ts op a b < f →
    (madeF f ts op a b).1.length ≤ ts.length + dz ts op a b + 1 ∧ dp (madeF f ts op a b).1 (madeF f ts op a b).2 ≤ 1 + max (dp ts a) (dp ts b)
  | 0, _, _, _, _, _, _, _, _, h => by omega
  | f + 1, ts, op, a, b, h, ho, ha, hb, hf => by
    have hn := next_ok h ho ha hb
    have hd := next_dok h ho ha hb
    unfold madeF
    revert hn hd
    cases next ts op a b with
    | done ts' n => exact fun hn hd => ⟨by have h2 := hn.len; simp only [Nx.fin]; omega, hd⟩
    | go ts' op' a' b' =>
      intro hn hd
      obtain ⟨h1, h2⟩ := madeF_dok f ts' op' a' b' hn.good hn.ok hn.ina hn.inb (by have := hn.less; omega)
      have h3 := hn.len
      obtain ⟨h4, h5⟩ := hd
      exact ⟨by simp only [Nx.fin]; omega, by simp only [Nx.fin]; omega⟩
/-- At most so many terms more; no deeper than a reckoning. -/
theorem made_dp {ts : List Term} {op a b : Nat} (h : Good ts) (ho : (doW op 0 0).isSome = true) (ha : a < ts.length) (hb : b < ts.length) :
    (made ts op a b).1.length ≤ ts.length + 8 * max (dp ts a) (dp ts b) + 10 ∧ dp (made ts op a b).1 (made ts op a b).2 ≤ 1 + max (dp ts a) (dp ts b) := by
  have hm := mz_le (op := op) (b := b) ha
  have := madeF_dok (8 * ts.length + 10) ts op a b h ho ha hb (by omega)
  have h2 := dz_le ts op a b
  exact ⟨by unfold made; omega, this.2⟩

/-- All terms simple from within: what is done already, what becomes of it. -/
abbrev Dn := Nat → Option Nat
def updD (dn : Dn) (n m : Nat) : Dn := fun i => if i = n then some m else dn i
theorem updD_ne {dn : Dn} {n m i : Nat} (h : i ≠ n) : updD dn n m i = dn i := if_neg h
theorem updD_same (dn : Dn) (n m : Nat) : updD dn n m n = some m := if_pos rfl
def allF : Nat → List Term → Dn → Nat → List Term × Dn × Nat
  | 0, ts, dn, _ => (ts, dn, 0)
  | f + 1, ts, dn, n => match dn n with
    | some m => (ts, dn, m)
    | none => if (ts.getD n default).k = 2 then
        let r1 := allF f ts dn (ts.getD n default).a
        let r2 := allF f r1.1 r1.2.1 (ts.getD n default).b
        let r3 := made r2.1 (ts.getD n default).op r1.2.2 r2.2.2
        (r3.1, updD r2.2.1 n r3.2, r3.2)
      else (ts, updD dn n n, n)
/-- What is done already is there, and no deeper than what it was. -/
def DnOk (ts0 ts : List Term) (dn : Dn) : Prop := ∀ i m, dn i = some m → i < ts0.length ∧ m < ts.length ∧ dp ts m ≤ dp ts0 i
theorem DnOk.ext {ts0 ts ts' : List Term} {dn : Dn} (h : DnOk ts0 ts dn) (hG : Good ts) (he : Ext ts ts') : DnOk ts0 ts' dn := fun i m hi => by
  obtain ⟨h1, h2, h3⟩ := h i m hi
  exact ⟨h1, Nat.lt_of_lt_of_le h2 he.len, by rw [dp_ext he hG h2]; exact h3⟩
theorem DnOk.upd {ts0 ts : List Term} {dn : Dn} (h : DnOk ts0 ts dn) {n m : Nat} (hn : n < ts0.length) (hm : m < ts.length) (hd : dp ts m ≤ dp ts0 n) : DnOk ts0 ts (updD dn n m) := fun i q hi => by
  unfold updD at hi
  split at hi
  · rename_i e; subst e; injection hi with hi; subst hi; exact ⟨hn, hm, hd⟩
  · exact h i q hi
structure AllOk (ts0 ts : List Term) (n : Nat) (R : List Term × Dn × Nat) : Prop where
  good : Good R.1
  ext : Ext ts R.1
  dn : DnOk ts0 R.1 R.2.1
  num : R.2.2 < R.1.length
  dpl : Go.Proofs.YtaiggfknighhgaaGreatDoor.dp R.1 R.2.2 ≤ Go.Proofs.YtaiggfknighhgaaGreatDoor.dp ts0 n
theorem allF_ok (ts0 : List Term) (hG0 : Good ts0) : ∀ (f : Nat) (ts : List Term) (dn : Dn) (n : Nat), Good ts → Ext ts0 ts → DnOk ts0 ts dn → n < ts0.length → n < f → AllOk ts0 ts n (allF f ts dn n)
  | 0, _, _, _, _, _, _, _, h => by omega
  | f + 1, ts, dn, n, hG, hE, hD, hn, hf => by
    have hnl : n < ts.length := Nat.lt_of_lt_of_le hn hE.len
    unfold allF
    cases hd : dn n with
    | some m =>
      obtain ⟨_, h2, h3⟩ := hD n m hd
      exact ⟨hG, Ext.refl _, hD, h2, h3⟩
    | none =>
      dsimp only
      by_cases hk : (ts.getD n default).k = 2
      · rw [if_pos hk]
        have e0 : ts.getD n default = ts0.getD n default := hE.getD hn _
        obtain ⟨ho, ha, hb, _⟩ := hG.op_at hnl hk
        rw [e0] at hk ho ha hb ⊢
        have hdp := dp_op hG0 hn hk
        obtain ⟨a1, a2, a3, a4, a5⟩ := allF_ok ts0 hG0 f ts dn _ hG hE hD (by omega) (by omega : (ts0.getD n default).a < f)
        obtain ⟨b1, b2, b3, b4, b5⟩ := allF_ok ts0 hG0 f _ _ _ a1 (hE.trans a2) a3 (by omega) (by omega : (ts0.getD n default).b < f)
        have a4' := Nat.lt_of_lt_of_le a4 b2.len
        obtain ⟨m1, m2, m3⟩ := made_ok b1 ho a4' b4
        obtain ⟨d1, d2⟩ := made_dp b1 ho a4' b4
        rw [dp_ext b2 a1 a4] at d2
        have hd3 := (show _ ≤ dp ts0 n by rw [hdp]; exact Nat.le_trans d2 (by omega) : _ ≤ dp ts0 n)
        exact ⟨m1, (a2.trans b2).trans m3, (b3.ext b1 m3).upd hn m2 hd3, m2, hd3⟩
      · rw [if_neg hk]
        have hd0 : dp ts n ≤ dp ts0 n := by rw [dp_ext hE hG0 hn]; exact Nat.le_refl _
        exact ⟨hG, Ext.refl _, hD.upd hn hnl hd0, hnl, hd0⟩
/-- What is above stays undone. -/
theorem allF_above (ts0 : List Term) (hG0 : Good ts0) : ∀ (f : Nat) (ts : List Term) (dn : Dn) (n : Nat), Good ts → Ext ts0 ts → DnOk ts0 ts dn → n < ts0.length → n < f → ∀ i, n < i → (allF f ts dn n).2.1 i = dn i
  | 0, _, _, _, _, _, _, _, h => by omega
  | f + 1, ts, dn, n, hG, hE, hD, hn, hf => by
    intro i hi
    have hnl : n < ts.length := Nat.lt_of_lt_of_le hn hE.len
    unfold allF
    cases hd : dn n with
    | some m => rfl
    | none =>
      dsimp only
      by_cases hk : (ts.getD n default).k = 2
      · rw [if_pos hk]
        have e0 : ts.getD n default = ts0.getD n default := hE.getD hn _
        obtain ⟨ho, ha, hb, _⟩ := hG.op_at hnl hk
        rw [e0] at hk ho ha hb ⊢
        obtain ⟨a1, a2, a3, a4, a5⟩ := allF_ok ts0 hG0 f ts dn _ hG hE hD (by omega) (by omega : (ts0.getD n default).a < f)
        have h1 := allF_above ts0 hG0 f ts dn (ts0.getD n default).a hG hE hD (by omega) (by omega) i (by omega)
        have h2 := allF_above ts0 hG0 f _ _ (ts0.getD n default).b a1 (hE.trans a2) a3 (by omega) (by omega) i (by omega)
        show updD _ n _ i = dn i
        rw [updD_ne (by omega), h2, h1]
      · rw [if_neg hk]
        show updD dn n n i = dn i
        rw [updD_ne (by omega)]
/-- How many are not done. -/
def cntD (dn : Dn) : Nat → Nat
  | 0 => 0
  | N + 1 => cntD dn N + (if (dn N).isNone = true then 1 else 0)
theorem cntD_upd_above (dn : Dn) (n m : Nat) : ∀ N, N ≤ n → cntD (updD dn n m) N = cntD dn N
  | 0, _ => rfl
  | N + 1, h => by
    unfold cntD
    rw [cntD_upd_above dn n m N (by omega), updD_ne (by omega)]
theorem cntD_upd (dn : Dn) (n m : Nat) (hd : dn n = none) : ∀ N, n < N → cntD (updD dn n m) N + 1 = cntD dn N
  | 0, h => by omega
  | N + 1, h => by
    unfold cntD
    by_cases e : N = n
    · subst e
      rw [cntD_upd_above dn N m N (Nat.le_refl _), updD_same, hd]
      rfl
    · have := cntD_upd dn n m hd N (by omega)
      rw [updD_ne e]
      omega
theorem cntD_le (dn : Dn) : ∀ N, cntD dn N ≤ N
  | 0 => Nat.le_refl _
  | N + 1 => by
    have := cntD_le dn N
    unfold cntD
    split <;> omega
theorem allF_len (ts0 : List Term) (hG0 : Good ts0) (D : Nat) (hDp : ∀ i, i < ts0.length → dp ts0 i ≤ D) : ∀ (f : Nat) (ts : List Term) (dn : Dn) (n : Nat), Good ts → Ext ts0 ts → DnOk ts0 ts dn → n < ts0.length → n < f →
    (allF f ts dn n).1.length + cntD (allF f ts dn n).2.1 ts0.length * (8 * D + 10) ≤ ts.length + cntD dn ts0.length * (8 * D + 10)
  | 0, _, _, _, _, _, _, _, h => by omega
  | f + 1, ts, dn, n, hG, hE, hD, hn, hf => by
    have hnl : n < ts.length := Nat.lt_of_lt_of_le hn hE.len
    unfold allF
    cases hd : dn n with
    | some m => exact Nat.le_refl _
    | none =>
      dsimp only
      by_cases hk : (ts.getD n default).k = 2
      · rw [if_pos hk]
        have e0 : ts.getD n default = ts0.getD n default := hE.getD hn _
        obtain ⟨ho, ha, hb, _⟩ := hG.op_at hnl hk
        rw [e0] at hk ho ha hb ⊢
        obtain ⟨a1, a2, a3, a4, a5⟩ := allF_ok ts0 hG0 f ts dn _ hG hE hD (by omega) (by omega : (ts0.getD n default).a < f)
        obtain ⟨b1, b2, b3, b4, b5⟩ := allF_ok ts0 hG0 f _ _ _ a1 (hE.trans a2) a3 (by omega) (by omega : (ts0.getD n default).b < f)
        have l1 := allF_len ts0 hG0 D hDp f ts dn (ts0.getD n default).a hG hE hD (by omega) (by omega)
        have l2 := allF_len ts0 hG0 D hDp f _ _ (ts0.getD n default).b a1 (hE.trans a2) a3 (by omega) (by omega)
        have u1 := allF_above ts0 hG0 f ts dn (ts0.getD n default).a hG hE hD (by omega) (by omega) n (by omega)
        have u2 := allF_above ts0 hG0 f _ _ (ts0.getD n default).b a1 (hE.trans a2) a3 (by omega) (by omega) n (by omega)
        have a4' := Nat.lt_of_lt_of_le a4 b2.len
        obtain ⟨d1, d2⟩ := made_dp b1 ho a4' b4
        rw [dp_ext b2 a1 a4] at d1
        have hA := hDp (ts0.getD n default).a (by omega)
        have hB := hDp (ts0.getD n default).b (by omega)
        generalize allF f ts dn (ts0.getD n default).a = R1 at *
        generalize allF f R1.1 R1.2.1 (ts0.getD n default).b = R2 at *
        dsimp only at *
        have hcn := cntD_upd R2.2.1 n (made R2.1 (ts0.getD n default).op R1.2.2 R2.2.2).2 (by rw [u2, u1]; exact hd) ts0.length hn
        generalize made R2.1 (ts0.getD n default).op R1.2.2 R2.2.2 = R3 at *
        have hm : (cntD (updD R2.2.1 n R3.2) ts0.length + 1) * (8 * D + 10) = cntD R2.2.1 ts0.length * (8 * D + 10) := by rw [hcn]
        rw [Nat.add_mul] at hm
        omega
      · rw [if_neg hk]
        have hcn := cntD_upd dn n n hd ts0.length hn
        have hm : (cntD (updD dn n n) ts0.length + 1) * (8 * D + 10) = cntD dn ts0.length * (8 * D + 10) := by rw [hcn]
        rw [Nat.add_mul] at hm
        dsimp only
        omega
def dn0 : Dn := fun _ => none
theorem dn0_ok (ts0 ts : List Term) : DnOk ts0 ts dn0 := fun i m h => by cases h
/-- A term, made simple from within: the terms behind it, its number. -/
def allT (ts : List Term) (n : Nat) : Made := ((allF (n + 1) ts dn0 n).1, (allF (n + 1) ts dn0 n).2.2)
theorem allT_ok {ts : List Term} {n : Nat} (hG : Good ts) (hn : n < ts.length) : Good (allT ts n).1 ∧ Ext ts (allT ts n).1 ∧ (allT ts n).2 < (allT ts n).1.length ∧ dp (allT ts n).1 (allT ts n).2 ≤ dp ts n ∧
    (∀ D, (∀ i, i < ts.length → dp ts i ≤ D) → (allT ts n).1.length ≤ ts.length + ts.length * (8 * D + 10)) := by
  obtain ⟨h1, h2, h3, h4, h5⟩ := allF_ok ts hG (n + 1) ts dn0 n hG (Ext.refl _) (dn0_ok ts ts) hn (by omega)
  refine ⟨h1, h2, h4, h5, fun D hD => ?_⟩
  have hl := allF_len ts hG D hD (n + 1) ts dn0 n hG (Ext.refl _) (dn0_ok ts ts) hn (by omega)
  have hc := Nat.mul_le_mul_right (8 * D + 10) (cntD_le dn0 ts.length)
  unfold allT
  dsimp only
  omega
end Go.Proofs.YtaiggfknighhgaaGreatDoor
