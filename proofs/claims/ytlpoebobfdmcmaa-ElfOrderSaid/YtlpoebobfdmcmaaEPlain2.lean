/- What is written is parsed as it was: the rows, and the whole. -/
import Derived.Test.YtlpoebobfdmcmaaEPlain
set_option linter.unusedVariables false
set_option linter.unusedSimpArgs false
namespace Go.Proofs.Ytlpoebobfdmcmaa

theorem toL_size (s : ByteArray) : (toL s).length = s.size := by simp [toL, Array.length_toList]
theorem toL_extract (s : ByteArray) (a b : Nat) : toL (s.extract a b) = ((toL s).drop a).take (b - a) := by
  simp [toL, ByteArray.data_extract]
theorem toL_inj {s t : ByteArray} (h : toL s = toL t) : s = t := by
  apply ByteArray.ext
  exact Array.toList_inj.1 h
theorem row_nums {F P Z : List UInt8} {a ga ds sz ff : Nat} (hF : F = P ++ (putAll [1, a, ga, ga, ds, sz, ff, 4] 4 ++ Z)) (h : ∀ x ∈ [1, a, ga, ga, ds, sz, ff, 4], x < 4294967296) :
    num F P.length 4 = 1 ∧ num F (P.length + 4) 4 = a ∧ num F (P.length + 8) 4 = ga ∧ num F (P.length + 16) 4 = ds ∧ num F (P.length + 20) 4 = sz ∧ num F (P.length + 24) 4 = ff := by
  have hp : ∀ j x, [1, a, ga, ga, ds, sz, ff, 4][j]? = some x → num F (P.length + j * 4) 4 = x := fun j x hj => by
    rw [hF]
    exact num_put hj (n := 4) (by simpa using h x (List.mem_of_getElem? hj)) P Z
  exact ⟨hp 0 1 rfl, hp 1 a rfl, hp 2 ga rfl, hp 4 ds rfl, hp 5 sz rfl, hp 6 ff rfl⟩
theorem segOf_at {s : ByteArray} {H Y : List UInt8} {xs : List Seg} (hc : chk xs = 0) (hH : H.length = 52) (hs : toL s = H ++ (rowsB (52 + 32 * xs.length) xs ++ Y)) {k : Nat} {g : Seg} (hg : xs[k]? = some g) :
    segOf s (52 + 32 * k) = if 52 + 32 * xs.length + (datB (xs.take k)).length ≤ s.size ∧ g.data.size ≤ s.size - (52 + 32 * xs.length + (datB (xs.take k)).length) then
      .ok ⟨g.addr, s.extract (52 + 32 * xs.length + (datB (xs.take k)).length) (52 + 32 * xs.length + (datB (xs.take k)).length + g.data.size), g.size, g.flags⟩ else .error 60 := by
  obtain ⟨hk, _⟩ := List.getElem?_eq_some_iff.1 hg
  have hok := ok_more (chk_all hc) (List.mem_of_getElem? hg)
  have hsplit : xs = xs.take k ++ (g :: xs.drop (k + 1)) := by rw [← drop_get hg, List.take_append_drop]
  have hr : ∀ b, rowsB b xs = rowsB b (xs.take k) ++ (rowB (b + (datB (xs.take k)).length) g ++ rowsB (b + (datB (xs.take k)).length + g.data.size) (xs.drop (k + 1))) := fun b => by
    conv => lhs; rw [hsplit]
    rw [rowsB_app]
    rfl
  have hdl : (datB (xs.take k)).length ≤ 268435456 := by have := dat_le (L := []) (a := 0) (by simp) hc k; simpa using this
  have hn := chk_len hc
  obtain ⟨a, ha⟩ : ∃ a, a = 52 + 32 * xs.length + (datB (xs.take k)).length := ⟨_, rfl⟩
  rw [hr, ← ha] at hs
  rw [← ha]
  have hlen : (H ++ rowsB (52 + 32 * xs.length) (xs.take k)).length = 52 + 32 * k := by rw [List.length_append, rowsB_len, hH, List.length_take]; omega
  obtain ⟨ga, gd, gs, gf⟩ := g
  dsimp only at hok hs ⊢
  obtain ⟨o1, o2, o3, o4, o5, o6⟩ := hok
  obtain ⟨sz, rfl⟩ : ∃ n : Nat, gs = n := ⟨gs.toNat, by omega⟩
  obtain ⟨ff, rfl⟩ : ∃ n : Nat, gf = n := ⟨gf.toNat, by omega⟩
  have hs2 : toL s = (H ++ rowsB (52 + 32 * xs.length) (xs.take k)) ++ (putAll [1, a, ga, ga, gd.size, sz, ff, 4] 4 ++ (rowsB (a + gd.size) (xs.drop (k + 1)) ++ Y)) := by
    rw [hs, rowB]
    simp only [List.append_assoc, Int.toNat_natCast]
  have hq := row_nums hs2 (by simp; omega)
  rw [hlen] at hq
  obtain ⟨q0, q1, q2, q3, q4, q5⟩ := hq
  unfold segOf
  rw [q0, q1, q2, q3, q4, q5, if_pos ⟨rfl, by omega, by omega⟩]
/-- What a file holds behind its head. -/
theorem rows_full {s : ByteArray} {H M : List UInt8} {xs : List Seg} (hc : chk xs = 0) (hH : H.length = 52) (hs : toL s = H ++ (rowsB (52 + 32 * xs.length) xs ++ (datB xs ++ M))) :
    ∀ k, k ≤ xs.length → rowsAt s 52 k = .ok (xs.take k) := by
  intro k
  induction k with
  | zero => intro _; rfl
  | succ k ih =>
    intro hk
    have hg : xs[k]? = some xs[k] := List.getElem?_eq_getElem (by omega)
    rw [rowsAt, ih (by omega), List.take_add_one, hg]
    simp only [Option.toList]
    rw [segOf_at hc hH hs hg]
    obtain ⟨g, hg'⟩ : ∃ g, g = xs[k] := ⟨_, rfl⟩
    rw [← hg'] at hg ⊢
    have hsplit : datB xs = datB (xs.take k) ++ (toL g.data ++ datB (xs.drop (k + 1))) := by
      conv => lhs; rw [show xs = xs.take k ++ (g :: xs.drop (k + 1)) by rw [← drop_get hg, List.take_append_drop]]
      simp [datB]
    have hl : s.size = 52 + 32 * xs.length + ((datB (xs.take k)).length + (g.data.size + (datB (xs.drop (k + 1))).length)) + M.length := by
      rw [← toL_size, hs, hsplit]
      simp only [List.length_append, rowsB_len, hH, toL_size]
      omega
    rw [if_pos ⟨by omega, by omega⟩]
    simp only
    have he : s.extract (52 + 32 * xs.length + (datB (xs.take k)).length) (52 + 32 * xs.length + (datB (xs.take k)).length + g.data.size) = g.data := by
      apply toL_inj
      rw [toL_extract, hs, hsplit]
      have e : 52 + 32 * xs.length + (datB (xs.take k)).length = (H ++ rowsB (52 + 32 * xs.length) xs ++ datB (xs.take k)).length := by simp only [List.length_append, rowsB_len, hH]
      rw [show 52 + 32 * xs.length + (datB (xs.take k)).length + g.data.size - (52 + 32 * xs.length + (datB (xs.take k)).length) = (toL g.data).length by rw [toL_size]; omega, e]
      rw [show H ++ (rowsB (52 + 32 * xs.length) xs ++ (datB (xs.take k) ++ (toL g.data ++ datB (xs.drop (k + 1))) ++ M)) = (H ++ rowsB (52 + 32 * xs.length) xs ++ datB (xs.take k)) ++ (toL g.data ++ (datB (xs.drop (k + 1)) ++ M)) by simp only [List.append_assoc]]
      rw [List.drop_left, List.take_left]
    rw [he]
theorem parse_file {s : ByteArray} {en fl : Nat} {xs : List Seg} {H M : List UInt8} (hc : chk xs = 0) (hH : HeadOk H en fl xs.length) (hs : toL s = H ++ (rowsB (52 + 32 * xs.length) xs ++ (datB xs ++ M))) : parseOf s = .ok (en, fl, xs) := by
  have hn := chk_len hc
  have hsz : s.size = 52 + (32 * xs.length + ((datB xs).length + M.length)) := by
    rw [← toL_size, hs]
    simp only [List.length_append, rowsB_len, hH.len]
  have hnum : ∀ a n, a + n ≤ 52 → num (toL s) a n = num H a n := fun a n h => by rw [hs, num_app_left _ _ _ _ (by rw [hH.len]; exact h)]
  unfold parseOf
  rw [hnum 16 2 (by omega), hnum 18 2 (by omega), hnum 20 4 (by omega), hnum 24 4 (by omega), hnum 28 4 (by omega), hnum 36 4 (by omega), hnum 40 2 (by omega), hnum 42 2 (by omega), hnum 44 2 (by omega), hH.p16, hH.p18, hH.p20, hH.p24, hH.p28, hH.p36, hH.p40, hH.p42, hH.p44,
    if_neg (by omega), if_neg (fun h => h (by rw [hs, List.take_append_of_le_length (by rw [hH.len]; omega)]; exact hH.mag)), if_neg (by omega), if_neg (by omega), if_neg (by omega), if_neg (by omega), if_neg (by omega), if_neg (by omega), if_neg (by omega), rows_full hc hH.len hs xs.length (Nat.le_refl _), List.take_of_length_le (Nat.le_refl _)]
  simp only
  rw [if_pos hc]
/-- A file that is cut short is none. -/
theorem parse_cut {s : ByteArray} {en fl : Nat} {xs : List Seg} {H : List UInt8} (c : Nat) (hc : chk xs = 0) (hH : HeadOk H en fl xs.length) (hs : toL s = (H ++ (rowsB (52 + 32 * xs.length) xs ++ datB xs)).take c) (hlt : c < 52 + 32 * xs.length + (datB xs).length) : parseOf s = .error 60 := by
  have hn := chk_len hc
  have hsz : s.size = c := by
    rw [← toL_size, hs, List.length_take]
    simp only [List.length_append, rowsB_len, hH.len]
    omega
  unfold parseOf
  by_cases h52 : c < 52
  · rw [if_pos (by omega)]
  have hs1 : toL s = H ++ (rowsB (52 + 32 * xs.length) xs ++ datB xs).take (c - 52) := by rw [hs, List.take_append, hH.len, List.take_of_length_le (by rw [hH.len]; omega)]
  have hnum : ∀ a n, a + n ≤ 52 → num (toL s) a n = num H a n := fun a n h => by rw [hs1, num_app_left _ _ _ _ (by rw [hH.len]; exact h)]
  rw [hnum 16 2 (by omega), hnum 18 2 (by omega), hnum 20 4 (by omega), hnum 24 4 (by omega), hnum 28 4 (by omega), hnum 36 4 (by omega), hnum 40 2 (by omega), hnum 42 2 (by omega), hnum 44 2 (by omega), hH.p16, hH.p18, hH.p20, hH.p24, hH.p28, hH.p36, hH.p40, hH.p42, hH.p44,
    if_neg (by omega), if_neg (fun h => h (by rw [hs1, List.take_append_of_le_length (by rw [hH.len]; omega)]; exact hH.mag)), if_neg (by omega), if_neg (by omega), if_neg (by omega), if_neg (by omega), if_neg (by omega), if_neg (by omega)]
  by_cases hr : c < 52 + 32 * xs.length
  · rw [if_pos (by omega)]
  rw [if_neg (by omega)]
  have hs2 : toL s = H ++ (rowsB (52 + 32 * xs.length) xs ++ (datB xs).take (c - 52 - 32 * xs.length)) := by rw [hs1, List.take_append, rowsB_len, List.take_of_length_le (by rw [rowsB_len]; omega)]
  have key : ∀ k, k ≤ xs.length → rowsAt s 52 k = .error 60 ∨ ((∃ ys, rowsAt s 52 k = .ok ys) ∧ 52 + 32 * xs.length + (datB (xs.take k)).length ≤ c) := by
    intro k
    induction k with
    | zero => intro _; exact Or.inr ⟨⟨[], rfl⟩, by simp [datB]; omega⟩
    | succ k ih =>
      intro hk
      have hg : xs[k]? = some xs[k] := List.getElem?_eq_getElem (by omega)
      rcases ih (by omega) with h | ⟨⟨ys, h⟩, hle⟩
      · exact Or.inl (by rw [rowsAt, h])
      · rw [rowsAt, h]
        simp only
        rw [segOf_at hc hH.len hs2 hg, datB_succ hg, List.length_append, toL_size]
        by_cases hx : 52 + 32 * xs.length + (datB (xs.take k)).length ≤ s.size ∧ (xs[k]).data.size ≤ s.size - (52 + 32 * xs.length + (datB (xs.take k)).length)
        · rw [if_pos hx]
          exact Or.inr ⟨⟨_, rfl⟩, by omega⟩
        · rw [if_neg hx]
          exact Or.inl rfl
  rcases key xs.length (Nat.le_refl _) with h | ⟨_, h⟩
  · rw [h]
  · rw [List.take_of_length_le (Nat.le_refl _)] at h
    omega
end Go.Proofs.Ytlpoebobfdmcmaa
