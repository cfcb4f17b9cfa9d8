/- What is made simple comes to what it was: plain laws. -/
import Derived.Test.YtaiggfknighhgaaGreatDoorTVal
import Derived.Test.YtaiggfknighhgaaGreatDoorTDepth
set_option linter.unusedVariables false
set_option linter.unusedSimpArgs false
namespace Go.Proofs.YtaiggfknighhgaaGreatDoor

abbrev dw (op a b : Nat) : Nat := (doW op a b).getD 0
theorem sg_us {y : Int} (h1 : -2147483648 ≤ y) (h2 : y < 2147483648) : sg (us y) = y := by
  unfold sg us
  split <;> omega
theorem us_sg {a : Nat} (ha : a < 4294967296) : us (sg a) = a := by
  unfold sg us
  split <;> omega
theorem sg_bounds {a : Nat} (ha : a < 4294967296) : -2147483648 ≤ sg a ∧ sg a < 2147483648 := by
  unfold sg
  split <;> omega
theorem us_mod (x : Int) : us x = us (x % 4294967296) := by unfold us; omega
theorem us_nat {a : Nat} (ha : a < 4294967296) : us (a : Int) = a := by unfold us; omega
theorem us_cong {x y : Int} (h : x % 4294967296 = y % 4294967296) : us x = us y := by unfold us; rw [h]
theorem and_ones {a : Nat} (ha : a < 4294967296) : a &&& 4294967295 = a := by
  rw [show (4294967295 : Nat) = 2 ^ 32 - 1 from rfl, Nat.and_two_pow_sub_one_eq_mod]
  exact Nat.mod_eq_of_lt ha
theorem or_ones {a : Nat} (ha : a < 4294967296) : a ||| 4294967295 = 4294967295 := by
  refine Nat.eq_of_testBit_eq fun i => ?_
  rw [Nat.testBit_or, show (4294967295 : Nat) = 2 ^ 32 - 1 from rfl, Nat.testBit_two_pow_sub_one]
  by_cases h : i < 32
  · simp [h]
  · have : a.testBit i = false := Nat.testBit_lt_two_pow (Nat.lt_of_lt_of_le ha (by have := Nat.pow_le_pow_right (n := 2) (by omega) (by omega : 32 ≤ i); omega))
    simp [h, this]
/-- Turned round. -/
theorem dw_turns {op : Nat} (h : turns op = true) (a b : Nat) : dw op a b = dw op b a := by
  simp only [turns, decide_eq_true_eq] at h
  rcases h with rfl | rfl | rfl | rfl | rfl | rfl | rfl <;> simp only [dw, doW, Option.getD_some]
  · rw [Nat.add_comm]
  · rw [Nat.and_comm]
  · rw [Nat.or_comm]
  · rw [Nat.xor_comm]
  · rw [Nat.mul_comm]
  · rw [Int.mul_comm]
  · rw [Nat.mul_comm]
theorem dw_sub {a v : Nat} (ha : a < 4294967296) (hv : v < 4294967296) : dw 27 a (us (-(v : Int))) = dw 28 a v := by
  show (a + us (-(v : Int))) % 4294967296 = us ((a : Int) - v)
  unfold us
  omega
/-- By a word that leaves it as it is. -/
theorem dw_same {op a v : Nat} (ha : a < 4294967296) (h : (v = 0 ∧ (op = 27 ∨ op = 35 ∨ op = 32)) ∨ (v = 1 ∧ (op = 37 ∨ op = 41 ∨ op = 42)) ∨ (v = 4294967295 ∧ op = 36)) : dw op a v = a := by
  rcases h with ⟨rfl, rfl | rfl | rfl⟩ | ⟨rfl, rfl | rfl | rfl⟩ | ⟨rfl, rfl⟩ <;> simp only [dw, doW, Option.getD_some]
  · omega
  · simp
  · simp
  · omega
  · rw [if_neg (by omega), if_neg (by omega), show sg 1 = 1 from rfl, Int.tdiv_one]
    exact us_sg ha
  · simp
  · exact and_ones ha
theorem dw_zero {op a v : Nat} (h : (v = 0 ∧ (op = 36 ∨ op = 37 ∨ op = 31)) ∨ (v = 1 ∧ (op = 43 ∨ op = 44))) : dw op a v = 0 := by
  rcases h with ⟨rfl, rfl | rfl | rfl⟩ | ⟨rfl, rfl | rfl⟩ <;> simp only [dw, doW, Option.getD_some]
  · simp
  · simp
  · simp
  · rw [if_neg (by omega), if_neg (by omega), show sg 1 = 1 from rfl, Int.tmod_one]
    rfl
  · rw [if_neg (by omega)]; omega
theorem shift_cases {op : Nat} (h : isShift op = true) : op = 29 ∨ op = 33 ∨ op = 34 := by simpa [isShift] using h
theorem dw_sh0 {op a v : Nat} (ha : a < 4294967296) (h : isShift op = true) (hv : v % 32 = 0) : dw op a v = a := by
  rcases shift_cases h with rfl | rfl | rfl <;> simp only [dw, doW, Option.getD_some, hv, Nat.pow_zero, Int.pow_zero]
  · omega
  · simp
  · rw [Int.ediv_one]; exact us_sg ha
theorem dw_shm {op a v : Nat} (h : isShift op = true) : dw op a (v % 32) = dw op a v := by
  rcases shift_cases h with rfl | rfl | rfl <;> simp only [dw, doW, Option.getD_some, Nat.mod_mod]
theorem pow_parts {v : Nat} (hv : v < 4294967296) (h : isPow v = true) : v = 2 ^ lg v ∧ 1 ≤ lg v ∧ lg v < 32 ∧ 1 < v := by
  simp only [isPow, decide_eq_true_eq] at h
  have := lg_lt hv h.2
  exact ⟨h.1, this.1, this.2, h.2⟩
theorem dw_mul_pow {a v : Nat} (hv : v < 4294967296) (h : isPow v = true) : dw 29 a (lg v) = dw 37 a v := by
  obtain ⟨e, h1, h2, _⟩ := pow_parts hv h
  show a * 2 ^ (lg v % 32) % 4294967296 = a * v % 4294967296
  rw [Nat.mod_eq_of_lt h2, ← e]
theorem dw_div_pow {a v : Nat} (hv : v < 4294967296) (h : isPow v = true) : dw 33 a (lg v) = dw 42 a v := by
  obtain ⟨e, h1, h2, h3⟩ := pow_parts hv h
  show a / 2 ^ (lg v % 32) = if v = 0 then 4294967295 else a / v
  rw [Nat.mod_eq_of_lt h2, ← e, if_neg (by omega)]
theorem dw_rem_pow {a v : Nat} (hv : v < 4294967296) (h : isPow v = true) : dw 36 a (v - 1) = dw 44 a v := by
  obtain ⟨e, h1, h2, h3⟩ := pow_parts hv h
  show a &&& (v - 1) = if v = 0 then a else a % v
  rw [if_neg (by omega)]
  conv => lhs; rw [e]
  rw [Nat.and_two_pow_sub_one_eq_mod, ← e]
/-- Two words put together. -/
theorem dw_assoc {op : Nat} (h : op = 27 ∨ op = 36 ∨ op = 35 ∨ op = 32) (a w v : Nat) : dw op (dw op a w) v = dw op a (dw op w v) := by
  rcases h with rfl | rfl | rfl | rfl <;> simp only [dw, doW, Option.getD_some]
  · omega
  · rw [Nat.and_assoc]
  · rw [Nat.or_assoc]
  · rw [Nat.xor_assoc]
theorem two_pow_pos' (n : Nat) : (0 : Int) < 2 ^ n := Int.pow_pos (by omega)
theorem sar_bounds {a : Nat} (ha : a < 4294967296) (n : Nat) : -2147483648 ≤ sg a / 2 ^ n ∧ sg a / 2 ^ n < 2147483648 := by
  obtain ⟨h1, h2⟩ := sg_bounds ha
  have hp := two_pow_pos' n
  have hp1 : (1 : Int) ≤ 2 ^ n := hp
  constructor
  · rw [Int.le_ediv_iff_mul_le hp]
    have : (2147483648 : Int) * 1 ≤ 2147483648 * 2 ^ n := Int.mul_le_mul_of_nonneg_left hp1 (by omega)
    omega
  · rw [Int.ediv_lt_iff_lt_mul hp]
    have : (2147483648 : Int) * 1 ≤ 2147483648 * 2 ^ n := Int.mul_le_mul_of_nonneg_left hp1 (by omega)
    omega
theorem sar_sar {a : Nat} (ha : a < 4294967296) (w v : Nat) : us (sg (us (sg a / 2 ^ w)) / 2 ^ v) = us (sg a / 2 ^ (w + v)) := by
  obtain ⟨h1, h2⟩ := sar_bounds ha w
  have hp := two_pow_pos' w
  rw [sg_us h1 h2, Int.ediv_ediv, if_neg (by rintro ⟨h, _⟩; omega), Int.sub_zero, ← Int.pow_add]
theorem sar_far {a : Nat} (ha : a < 4294967296) {n : Nat} (hn : 31 ≤ n) : sg a / 2 ^ n = sg a / 2 ^ 31 := by
  obtain ⟨h1, h2⟩ := sg_bounds ha
  have hp : (2 : Int) ^ 31 ≤ 2 ^ n := by
    have := Nat.pow_le_pow_right (n := 2) (by omega) hn
    exact_mod_cast this
  have e31 : (2 : Int) ^ 31 = 2147483648 := by decide
  rw [e31] at hp ⊢
  generalize (2 : Int) ^ n = q at hp
  rcases Int.lt_or_le (sg a) 0 with h | h
  · rw [show sg a / q = -1 from ?_, show sg a / 2147483648 = -1 by omega]
    rw [Int.ediv_eq_iff_of_pos (by omega)]
    constructor <;> omega
  · rw [Int.ediv_eq_zero_of_lt h (by omega), Int.ediv_eq_zero_of_lt h h2]
theorem dw_shsh {op a w v : Nat} (ha : a < 4294967296) (h : isShift op = true) (hw : w < 32) (hv : v < 32) (hs : w + v < 32) : dw op (dw op a w) v = dw op a (w + v) := by
  rcases shift_cases h with rfl | rfl | rfl <;> simp only [dw, doW, Option.getD_some, Nat.mod_eq_of_lt hw, Nat.mod_eq_of_lt hv, Nat.mod_eq_of_lt hs]
  · rw [Nat.pow_add, ← Nat.mul_assoc, Nat.mod_mul_mod]
  · rw [Nat.pow_add, Nat.div_div_eq_div_mul]
  · exact sar_sar ha w v
theorem dw_sar31 {a w v : Nat} (ha : a < 4294967296) (hw : w < 32) (hv : v < 32) (hs : ¬ w + v < 32) : dw 34 (dw 34 a w) v = dw 34 a 31 := by
  simp only [dw, doW, Option.getD_some, Nat.mod_eq_of_lt hw, Nat.mod_eq_of_lt hv]
  rw [sar_sar ha w v, sar_far ha (by omega)]
theorem dw_sh_none {op a w v : Nat} (ha : a < 4294967296) (h : isShift op = true) (h34 : op ≠ 34) (hw : w < 32) (hv : v < 32) (hs : ¬ w + v < 32) : dw op (dw op a w) v = 0 := by
  have hp : (4294967296 : Nat) ∣ 2 ^ (w + v) := ⟨2 ^ (w + v - 32), by rw [show (4294967296 : Nat) = 2 ^ 32 from rfl, ← Nat.pow_add]; congr 1; omega⟩
  rcases shift_cases h with rfl | rfl | rfl
  · simp only [dw, doW, Option.getD_some, Nat.mod_eq_of_lt hw, Nat.mod_eq_of_lt hv]
    rw [Nat.mod_mul_mod, Nat.mul_assoc, ← Nat.pow_add]
    exact Nat.mod_eq_zero_of_dvd (Nat.dvd_mul_left_of_dvd hp a)
  · simp only [dw, doW, Option.getD_some, Nat.mod_eq_of_lt hw, Nat.mod_eq_of_lt hv]
    rw [Nat.div_div_eq_div_mul, ← Nat.pow_add]
    refine Nat.div_eq_of_lt (Nat.lt_of_lt_of_le ha ?_)
    exact Nat.le_of_dvd (Nat.two_pow_pos _) hp
  · exact absurd rfl h34
theorem dw_twice0 {op a : Nat} (h : op = 28 ∨ op = 32 ∨ op = 30 ∨ op = 31) : dw op a a = 0 := by
  rcases h with rfl | rfl | rfl | rfl <;> simp only [dw, doW, Option.getD_some]
  · rw [Int.sub_self]; rfl
  · simp
  · simp
  · simp
theorem dw_twice1 {op a : Nat} (h : op = 36 ∨ op = 35) : dw op a a = a := by
  rcases h with rfl | rfl <;> simp only [dw, doW, Option.getD_some]
  · simp
  · simp
theorem dw_twice2 (a : Nat) : dw 29 a 1 = dw 27 a a := by
  show a * 2 ^ (1 % 32) % 4294967296 = (a + a) % 4294967296
  rw [show 2 ^ (1 % 32) = 2 from rfl, Nat.mul_two]
/-- What a reckoning of two terms comes to, and the registers that it needs: of whatever comes of it. -/
structure Mean (ts : List Term) (x : Nat → Nat) (op a b : Nat) (ts' : List Term) (n : Nat) : Prop where mk_ ::
  ev_ : ev ts' x n = dw op (ev ts x a) (ev ts x b)
  vr_ : ∀ r, (vr ts' n).testBit r = true → (vr ts a).testBit r = true ∨ (vr ts b).testBit r = true
structure MeanGo (ts : List Term) (x : Nat → Nat) (op a b : Nat) (ts' : List Term) (op' a' b' : Nat) : Prop where mk_ ::
  ev_ : dw op' (ev ts' x a') (ev ts' x b') = dw op (ev ts x a) (ev ts x b)
  va_ : ∀ r, (vr ts' a').testBit r = true → (vr ts a).testBit r = true ∨ (vr ts b).testBit r = true
  vb_ : ∀ r, (vr ts' b').testBit r = true → (vr ts a).testBit r = true ∨ (vr ts b).testBit r = true
def Nx.mean (ts : List Term) (x : Nat → Nat) (op a b : Nat) : Nx → Prop
  | .done ts' n => Mean ts x op a b ts' n
  | .go ts' op' a' b' => MeanGo ts x op a b ts' op' a' b'
theorem ev_ins_const (ts : List Term) (x : Nat → Nat) (w : Nat) : ev (ins ts (constT w)) x (pos ts (constT w)) = w := ev_const (pos_lt _ _) (ins_getD _ _ _)
theorem vr_ins_const (ts : List Term) (w : Nat) : vr (ins ts (constT w)) (pos ts (constT w)) = 0 := vr_const (pos_lt _ _) (ins_getD _ _ _)
theorem no_bit {r : Nat} {p : Prop} (h : (0 : Nat).testBit r = true) : p := by simp at h
theorem mean_cst {ts : List Term} {x : Nat → Nat} {op a b w : Nat} (h : w = dw op (ev ts x a) (ev ts x b)) : (cst ts w).mean ts x op a b :=
  ⟨(ev_ins_const ts x w).trans h, fun r hr => by rw [vr_ins_const] at hr; exact no_bit hr⟩
theorem mean_goes {ts : List Term} {x : Nat → Nat} {op a b op' a' w : Nat} (ha' : a' < ts.length) (h : dw op' (ev ts x a') w = dw op (ev ts x a) (ev ts x b)) (hv : ∀ r, (vr ts a').testBit r = true → (vr ts a).testBit r = true ∨ (vr ts b).testBit r = true) : (goesN ts op' a' w).mean ts x op a b :=
  ⟨by rw [ev_ins_const, ev_ext (ext_ins ts _) ha']; exact h, fun r hr => by rw [vr_ext (ext_ins ts _) ha'] at hr; exact hv r hr, fun r hr => by rw [vr_ins_const] at hr; exact no_bit hr⟩
theorem ev_isC {ts : List Term} (h : Good ts) {x : Nat → Nat} {i : Nat} (hi : i < ts.length) (hc : isC ts i = true) : ev ts x i = wd ts i := ev_const hi (h.isC_eq hi hc)
theorem byN_mean {ts : List Term} {x : Nat → Nat} (hx : ∀ r, x r < 4294967296) {op a b : Nat} (h : Good ts) (ho : (doW op 0 0).isSome = true) (ha : a < ts.length) (hb : b < ts.length) (hcb : isC ts b = true) :
    ∀ r, byN ts op a b (wd ts b) = some r → r.mean ts x op a b := by
  have hv := h.wd_lt hb
  have eb := ev_isC h (x := x) hb hcb
  have el := ev_lt h hx a ha
  generalize wd ts b = v at hv eb
  intro r hr
  unfold byN at hr
  rcases ite_some hr with ⟨hq, rfl⟩ | ⟨hk, hr⟩
  · exact ⟨by rw [eb]; exact (dw_same el hq).symm, fun r hr => Or.inl hr⟩
  rcases ite_some hr with ⟨hq, rfl⟩ | ⟨hk, hr⟩
  · exact mean_cst (by rw [eb]; exact (dw_zero hq).symm)
  rcases ite_some hr with ⟨hq, rfl⟩ | ⟨hk, hr⟩
  · obtain ⟨rfl, rfl⟩ := hq
    exact ⟨by rw [eb]; exact (or_ones el).symm, fun r hr => Or.inr hr⟩
  rcases ite_some hr with ⟨hq, rfl⟩ | ⟨hk, hr⟩
  · exact ⟨by rw [eb]; exact (dw_sh0 el hq.1 hq.2).symm, fun r hr => Or.inl hr⟩
  rcases ite_some hr with ⟨hq, rfl⟩ | ⟨hk32, hr⟩
  · exact mean_goes ha (by rw [eb]; exact dw_shm hq.1) fun r hr => Or.inl hr
  rcases ite_some hr with ⟨hq, rfl⟩ | ⟨hk, hr⟩
  · obtain ⟨hq, rfl⟩ := hq
    exact mean_goes ha (by rw [eb]; exact dw_mul_pow hv hq) fun r hr => Or.inl hr
  rcases ite_some hr with ⟨hq, rfl⟩ | ⟨hk, hr⟩
  · obtain ⟨hq, rfl⟩ := hq
    exact mean_goes ha (by rw [eb]; exact dw_div_pow hv hq) fun r hr => Or.inl hr
  rcases ite_some hr with ⟨hq, rfl⟩ | ⟨hk, hr⟩
  · obtain ⟨hq, rfl⟩ := hq
    exact mean_goes ha (by rw [eb]; exact dw_rem_pow hv hq) fun r hr => Or.inl hr
  obtain ⟨hk, hr⟩ := ite_none hr
  have hk2 : (ts.getD a default).k = 2 := Classical.byContradiction fun hn => hk (Or.inl hn)
  have hko : (ts.getD a default).op = op := Classical.byContradiction fun hn => hk (Or.inr hn)
  obtain ⟨g1, g2, g3, g4⟩ := h.op_at ha hk2
  have hta : (ts.getD a default).a < ts.length := by omega
  have htb : (ts.getD a default).b < ts.length := by omega
  have eva := ev_op (x := x) ha g4 g2 g3
  have vra := vr_op ha g4 g2 g3
  rw [hko] at eva
  have eta := ev_lt h hx _ hta
  have hvb := h.wd_lt htb
  have hva : ∀ r, (vr ts (ts.getD a default).a).testBit r = true → (vr ts a).testBit r = true ∨ (vr ts b).testBit r = true := fun r hr => Or.inl (by rw [vra, Nat.testBit_or, hr]; rfl)
  obtain ⟨hcw, hr⟩ := ite_none hr
  have hcw' : isC ts (ts.getD a default).b = true := by cases e : isC ts (ts.getD a default).b with | true => rfl | false => exact absurd e hcw
  rw [ev_isC h htb hcw'] at eva
  generalize wd ts (ts.getD a default).b = w at eva hvb hr
  rcases ite_some hr with ⟨hq, rfl⟩ | ⟨hk, hr⟩
  · exact mean_goes hta (by rw [eb, eva]; exact (dw_assoc hq _ _ _).symm) hva
  obtain ⟨hk, hr⟩ := ite_none hr
  have hs : isShift op = true := by cases e : isShift op with | true => rfl | false => exact absurd (Or.inl e) hk
  have w1 : ¬ w < 1 := fun e => hk (Or.inr (Or.inl e))
  have w2 : w < 32 := Nat.lt_of_not_le fun e => hk (Or.inr (Or.inr e))
  have v2 : v < 32 := Nat.lt_of_not_le fun e => hk32 ⟨hs, e⟩
  rcases ite_some hr with ⟨hq, rfl⟩ | ⟨hwv, hr⟩
  · exact mean_goes hta (by rw [eb, eva]; exact (dw_shsh eta hs w2 v2 hq).symm) hva
  rcases ite_some hr with ⟨hq, rfl⟩ | ⟨hk34, hr⟩
  · subst hq
    exact mean_goes hta (by rw [eb, eva]; exact (dw_sar31 eta w2 v2 hwv).symm) hva
  · injection hr with hr; subst hr
    exact mean_cst (by rw [eb, eva]; exact (dw_sh_none eta hs hk34 w2 v2 hwv).symm)
theorem next_mean {ts : List Term} {x : Nat → Nat} (hx : ∀ r, x r < 4294967296) {op a b : Nat} (h : Good ts) (ho : (doW op 0 0).isSome = true) (ha : a < ts.length) (hb : b < ts.length) : (next ts op a b).mean ts x op a b := by
  have la := ev_lt h hx a ha
  have lb := ev_lt h hx b hb
  unfold next
  split
  · rename_i hc
    exact mean_cst (by rw [ev_isC h ha hc.1, ev_isC h hb hc.2])
  split
  · rename_i hq
    exact ⟨dw_turns hq.1 _ _, fun r hr => Or.inr hr, fun r hr => Or.inl hr⟩
  split
  · rename_i hq
    obtain ⟨rfl, hc⟩ := hq
    refine mean_goes ha ?_ fun r hr => Or.inl hr
    rw [ev_isC h hb hc]
    exact dw_sub la (h.wd_lt hb)
  split
  · rename_i r hr
    split at hr
    · rename_i hcb
      exact byN_mean hx h ho ha hb hcb r hr
    · cases hr
  · split
    · rename_i r hr
      split at hr
      · rename_i hab
        subst hab
        unfold twiceN at hr
        rcases ite_some hr with ⟨hq, rfl⟩ | ⟨hk, hr⟩
        · exact mean_cst (dw_twice0 hq).symm
        rcases ite_some hr with ⟨hq, rfl⟩ | ⟨hk, hr⟩
        · exact ⟨(dw_twice1 hq).symm, fun r hr => Or.inl hr⟩
        rcases ite_some hr with ⟨hq, rfl⟩ | ⟨hk, hr⟩
        · subst hq
          exact mean_goes ha (dw_twice2 _) fun r hr => Or.inl hr
        · cases hr
      · cases hr
    · have ea := ext_ins ts (opT op a b)
      have hp := pos_lt ts (opT op a b)
      have hg : (ins ts (opT op a b)).getD (pos ts (opT op a b)) default = opT op a b := ins_getD _ _ _
      have hlt := ((h.op ho ha hb).op_at hp (by rw [hg]; rfl)).2
      rw [hg] at hlt
      refine ⟨?_, fun r hr => ?_⟩
      · rw [ev_op hp hg hlt.1 hlt.2.1, ev_ext ea ha, ev_ext ea hb]
      · rw [vr_op hp hg hlt.1 hlt.2.1, vr_ext ea ha, vr_ext ea hb, Nat.testBit_or, Bool.or_eq_true] at hr
        exact hr
theorem madeF_mean {x : Nat → Nat} (hx : ∀ r, x r < 4294967296) : ∀ (f : Nat) (ts : List Term) (op a b : Nat), Good ts → (doW op 0 0).isSome = true → a < ts.length → b < ts.length → mz ts op a b < f → Mean ts x op a b (madeF f ts op a b).1 (madeF f ts op a b).2
  | 0, _, _, _, _, _, _, _, _, h => by omega
  | f + 1, ts, op, a, b, h, ho, ha, hb, hf => by
    have hn := next_ok h ho ha hb
    have hm := next_mean hx h ho ha hb
    unfold madeF
    revert hn hm
    cases next ts op a b with
    | done ts' n => exact fun _ hm => hm
    | go ts' op' a' b' =>
      intro hn hm
      have q : Mean ts' x op' a' b' (madeF f ts' op' a' b').1 (madeF f ts' op' a' b').2 := madeF_mean hx f ts' op' a' b' hn.good hn.ok hn.ina hn.inb (by have := hn.less; omega)
      refine ⟨q.ev_.trans hm.ev_, fun r hr => ?_⟩
      rcases q.vr_ r hr with hr | hr
      · exact hm.va_ r hr
      · exact hm.vb_ r hr
/-- THE STAGE's THEOREM, for a reckoning. -/
theorem made_mean {ts : List Term} {x : Nat → Nat} (hx : ∀ r, x r < 4294967296) {op a b : Nat} (h : Good ts) (ho : (doW op 0 0).isSome = true) (ha : a < ts.length) (hb : b < ts.length) : Mean ts x op a b (made ts op a b).1 (made ts op a b).2 :=
  madeF_mean hx _ ts op a b h ho ha hb (by have := mz_le (op := op) (b := b) ha; omega)
/-- What was made of some terms comes to what they do. -/
structure DnMean (ts0 : List Term) (x : Nat → Nat) (ts : List Term) (n m : Nat) : Prop where mk_ ::
  ev_ : ev ts x m = ev ts0 x n
  vr_ : ∀ r, (vr ts m).testBit r = true → (vr ts0 n).testBit r = true
theorem DnMean.ext {ts0 ts ts' : List Term} {x : Nat → Nat} {n m : Nat} (h : DnMean ts0 x ts n m) (he : Ext ts ts') (hm : m < ts.length) : DnMean ts0 x ts' n m :=
  ⟨by rw [ev_ext he hm]; exact h.ev_, fun r hr => by rw [vr_ext he hm] at hr; exact h.vr_ r hr⟩
theorem allF_mean {x : Nat → Nat} (hx : ∀ r, x r < 4294967296) (ts0 : List Term) (hG0 : Good ts0) : ∀ (f : Nat) (ts : List Term) (dn : Dn) (n : Nat), Good ts → Ext ts0 ts → DnOk ts0 ts dn → (∀ i q, dn i = some q → DnMean ts0 x ts i q) → n < ts0.length → n < f →
    DnMean ts0 x (allF f ts dn n).1 n (allF f ts dn n).2.2 ∧ ∀ i q, (allF f ts dn n).2.1 i = some q → DnMean ts0 x (allF f ts dn n).1 i q
  | 0, _, _, _, _, _, _, _, _, h => by omega
  | f + 1, ts, dn, n, hG, hE, hD, hM, hn, hf => by
    have hnl := Nat.lt_of_lt_of_le hn hE.len
    unfold allF
    cases hd : dn n with
    | some q => exact ⟨hM n q hd, hM⟩
    | none =>
      dsimp only
      have upd : ∀ (us : List Term) (d : Dn) (m : Nat), (∀ i q, d i = some q → DnMean ts0 x us i q) → DnMean ts0 x us n m → DnMean ts0 x us n m ∧ ∀ i q, updD d n m i = some q → DnMean ts0 x us i q := fun us d m hd hm => ⟨hm, fun i q hi => by
        unfold updD at hi
        split at hi
        · rename_i e
          injection hi with hi
          rw [e, ← hi]
          exact hm
        · exact hd i q hi⟩
      by_cases hk : (ts.getD n default).k = 2
      · rw [if_pos hk]
        rw [hE.getD hn] at hk ⊢
        obtain ⟨ho, ha, hb, he⟩ := hG0.op_at hn hk
        have oka := allF_ok ts0 hG0 f ts dn _ hG hE hD (by omega) (by omega : (ts0.getD n default).a < f)
        obtain ⟨ma, mda⟩ := allF_mean hx ts0 hG0 f ts dn _ hG hE hD hM (by omega) (by omega : (ts0.getD n default).a < f)
        have okb := allF_ok ts0 hG0 f _ _ _ oka.good (hE.trans oka.ext) oka.dn (by omega) (by omega : (ts0.getD n default).b < f)
        obtain ⟨mb, mdb⟩ := allF_mean hx ts0 hG0 f _ _ _ oka.good (hE.trans oka.ext) oka.dn mda (by omega) (by omega : (ts0.getD n default).b < f)
        generalize allF f ts dn (ts0.getD n default).a = R1 at *
        generalize allF f R1.1 R1.2.1 (ts0.getD n default).b = R2 at *
        have hxa := Nat.lt_of_lt_of_le oka.num okb.ext.len
        have hmm := made_mean hx okb.good ho hxa okb.num
        obtain ⟨k1, k2, k3⟩ := made_ok okb.good ho hxa okb.num
        have ma2 := ma.ext okb.ext oka.num
        refine upd _ _ _ (fun i q hi => (mdb i q hi).ext k3 (okb.dn i q hi).2.1) ⟨?_, fun r hr => ?_⟩
        · rw [hmm.ev_, ma2.ev_, mb.ev_, ev_op hn he ha hb]
        · rw [vr_op hn he ha hb, Nat.testBit_or, Bool.or_eq_true]
          rcases hmm.vr_ r hr with hr | hr
          · exact Or.inl (ma2.vr_ r hr)
          · exact Or.inr (mb.vr_ r hr)
      · rw [if_neg hk]
        exact upd _ _ _ hM ⟨ev_ext hE hn, fun r hr => by rw [vr_ext hE hn] at hr; exact hr⟩
/-- .. and for a term made simple from within. -/
theorem allT_mean {ts : List Term} {x : Nat → Nat} (hx : ∀ r, x r < 4294967296) {n : Nat} (hG : Good ts) (hn : n < ts.length) : ev (allT ts n).1 x (allT ts n).2 = ev ts x n ∧ ∀ r, (vr (allT ts n).1 (allT ts n).2).testBit r = true → (vr ts n).testBit r = true := by
  have h := (allF_mean hx ts hG (n + 1) ts dn0 n hG (Ext.refl _) (dn0_ok ts ts) (fun i q hi => by cases hi) hn (by omega)).1
  exact ⟨h.ev_, h.vr_⟩
end Go.Proofs.YtaiggfknighhgaaGreatDoor
