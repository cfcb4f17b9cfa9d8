/- term: needed, walked. -/
import Derived.Test.YtgnahjadjgjecaaGreatTSort
import Derived.Test.YtgnahjadjgjecaaGreatTTerm
import Derived.BigRegion
set_option linter.unusedVariables false
set_option linter.unusedSimpArgs false
namespace Go.Proofs.YtgnahjadjgjecaaGreat
open Go.RowKit Go.Maps Go.MapKept

theorem below_put {w w' w'' : World} {b B : Nat} (h : Below B w w') (hg : w'.grownBy w'' (some b)) (hb : B ≤ b) (hB : B ≤ w'.heap.size) : Below B w w'' := h.grown hg hB (fun k e => by cases e; exact hb)
theorem cell_grown {w w' : World} {b g i : Nat} {v : Value} (hg : w.grownBy w' (some b)) (hne : b ≠ g) (h : w.cell? ⟨g, i, none⟩ = some v) : w'.cell? ⟨g, i, none⟩ = some v :=
  (World.cell?_of_block (a := ⟨g, i, none⟩) (hg.block g (World.block_lt_of_cell? w _ h) (fun e => by injection e with e; exact hne e.symm))).trans h
set_option maxRecDepth 100000 in
set_option maxHeartbeats 1000000 in
theorem needed_any (K : Nat → Prop) (b n : Nat) (ts : List Term) (hl : ts.length < 100000000000) (hn : n < ts.length) (hG : Good ts) (w : World) (h : DagAt K w b ts) :
    Calls Tryz.prog 45 #[.pointer (some ⟨b, 0, none⟩), .int .i64 n] w fun e w' => ∃ v l, e = .returned v ∧ Needs ts n l ∧ Own w.heap.size 3 I64 w' v (l.map fun (i : Nat) => (i : Int)) ∧ Below w.heap.size w w' := by
  have hmm := @run_makeMap Tryz.prog
  obtain ⟨w1, hrun1, hs1, hg1⟩ := (Seen.made w).store n (by omega) (by omega)
  have b1 : Below w.heap.size w w1 := below_put ((Below.refl w.heap.size w).alloc (Nat.le_refl _) _) hg1 (Nat.le_refl _) (by simp)
  go_enter Tryz.func45, Tryz.ntmps45
  go_wp2_with fail
  go_loopw [6] (fun i wr => ∃ (k : Int) (S : Nat → Bool) (N : Nat), -1 ≤ k ∧ k ≤ n ∧ i = .int .i64 k ∧ Seen wr w.heap.size N S ∧ (N : Int) ≤ 1 + 2 * (n - k) ∧ SeenInv ts n k S ∧ Below w.heap.size w wr) (fun i _ => (Go.RowKit.intOf i + 1).toNat)
  case atStart => exact ⟨n, _, 1, by omega, by omega, rfl, hs1, by omega, SeenInv.start hG hn, b1⟩
  case round =>
    clear hmm hrun1 hs1 hg1 b1
    obtain ⟨k, S, N, hk1, hkn, rfl, hS, hN, hI, hb⟩ := hrel
    by_cases hk0 : 0 ≤ k
    · obtain ⟨j, rfl⟩ : ∃ j : Nat, k = j := ⟨k.toNat, by omega⟩
      have hj : j < ts.length := by omega
      obtain ⟨vl, hvc, hvl⟩ := (h.below hb).list
      obtain ⟨A, c, rfl, q1, q2, q3⟩ := hvl.open_
      obtain ⟨bb, off, rfl, hat, hbl⟩ := hvl.at_ hj
      rw [show ts[j] = ts.getD j default by simp [List.getD, hj]] at hat
      obtain ⟨t, ht⟩ : ∃ t, ts.getD j default = t := ⟨_, rfl⟩
      rw [ht] at hat
      have d0 : wr.cell? ⟨bb, off + j * 5, none⟩ = some (.int .i64 t.k) := hat 0 _ rfl
      have d1 := hat 1 _ rfl
      have d2 := hat 2 _ rfl
      have d3 := hat 3 _ rfl
      have d4 := hat 4 _ rfl
      have gx : (j : Int) < ts.length := by omega
      have hltS := hS.lt
      have hSa := hS.alloc (.cells #[.int .i64 t.k, .int .u32 t.v, .int .i64 t.op, .int .i64 t.a, .int .i64 t.b] 112)
      have hlook := hSa.look j (by omega)
      have b1 := hb.alloc hb.size (.cells #[.int .i64 t.k, .int .u32 t.v, .int .i64 t.op, .int .i64 t.a, .int .i64 t.b] 112)
      obtain ⟨z0, z1, z2, z3, z4⟩ := five_cells (blk_new wr (.cells #[.int .i64 t.k, .int .u32 t.v, .int .i64 t.op, .int .i64 t.a, .int .i64 t.b] 112))
      have HT := Lib.hid ht
      have HI := Lib.hid hI
      have HS := Lib.hid hSa
      clear hat ht hI hvl hS hSa
      cases hSj : S j with
      | false =>
        rw [hSj] at hlook
        go_wp2_with fail
        go_roundw
        case rel => exact ⟨(j : Int) - 1, S, N, by omega, by omega, by go_num, HS.out, by omega, HI.out.skip (by rw [hSj]; simp), b1⟩
        case measure => (simp [Go.RowKit.intOf]; try omega)
      | true =>
        rw [hSj] at hlook
        by_cases hk2 : t.k = 2
        · have hk2' : ((t.k : Int) == 2) = true := by rw [hk2]; rfl
          have hk2i : (t.k : Int) = 2 := by omega
          obtain ⟨_, la, lb, _⟩ := hG.op_at hj (by rw [HT.out]; exact hk2)
          rw [HT.out] at la lb
          have hSA := HS.out
          have hSd : Seen (wr.alloc (.cells #[.int .i64 t.k, .int .u32 t.v, .int .i64 t.op, .int .i64 t.a, .int .i64 t.b] 112)).drew w.heap.size N S := hSA.block rfl
          have z3d : (wr.alloc (.cells #[.int .i64 t.k, .int .u32 t.v, .int .i64 t.op, .int .i64 t.a, .int .i64 t.b] 112)).drew.cell? ⟨wr.heap.size, 3, none⟩ = some (.int .i64 t.a) := z3
          have z4d : (wr.alloc (.cells #[.int .i64 t.k, .int .u32 t.v, .int .i64 t.op, .int .i64 t.a, .int .i64 t.b] 112)).drew.cell? ⟨wr.heap.size, 4, none⟩ = some (.int .i64 t.b) := z4
          obtain ⟨wa, ra, sa, ga⟩ := hSd.store t.a (by omega) (by omega)
          obtain ⟨wab, rab, sab, gab⟩ := sa.store t.b (by omega) (by omega)
          obtain ⟨wb, rb, sb, gb⟩ := hSd.store t.b (by omega) (by omega)
          obtain ⟨wba, rba, sba, gba⟩ := sb.store t.a (by omega) (by omega)
          have hne : w.heap.size ≠ wr.heap.size := by omega
          have z4a : wa.cell? ⟨wr.heap.size, 4, none⟩ = some (.int .i64 t.b) := cell_grown ga hne z4d
          have z3b : wb.cell? ⟨wr.heap.size, 3, none⟩ = some (.int .i64 t.a) := cell_grown gb hne z3d
          have HF : ∀ w9, (w9 = wab ∨ w9 = wba) → Seen w9 w.heap.size (N + 1 + 1) (putS (putS S t.a) t.b) ∧ Below w.heap.size w w9 := fun w9 h9 => by
            rcases h9 with rfl | rfl
            · exact ⟨sab, below_put (below_put b1.drew ga (Nat.le_refl _) b1.size) gab (Nat.le_refl _) (Nat.le_trans b1.size ga.size)⟩
            · exact ⟨sba.ext fun x => by unfold putS; by_cases e1 : x = t.a <;> by_cases e2 : x = t.b <;> simp [e1, e2], below_put (below_put b1.drew gb (Nat.le_refl _) b1.size) gba (Nat.le_refl _) (Nat.le_trans b1.size gb.size)⟩
          have HP := HI.out.put hG hn hSj (by rw [HT.out]; exact hk2) (by rw [HT.out]) (by rw [HT.out])
          clear hk2 hk2i sa sb sab sba gab gba hSA hSd ga gb hSj z0 z1 z2
          go_wp2_with fail
          go_region
          all_goals
            go_wp2_with fail
            go_roundw
            case rel => first | exact ⟨(j : Int) - 1, _, N + 1 + 1, by omega, by omega, by go_num, (HF _ (Or.inl rfl)).1, by omega, HP, (HF _ (Or.inl rfl)).2⟩ | exact ⟨(j : Int) - 1, _, N + 1 + 1, by omega, by omega, by go_num, (HF _ (Or.inr rfl)).1, by omega, HP, (HF _ (Or.inr rfl)).2⟩
            case measure => (simp [Go.RowKit.intOf]; try omega)
        · have hk2' : ((t.k : Int) == 2) = false := by rw [beq_eq_false_iff_ne]; omega
          go_wp2_with fail
          go_roundw
          case rel => exact ⟨(j : Int) - 1, S, N, by omega, by omega, by go_num, HS.out, by omega, HI.out.skip (by rw [HT.out]; rintro ⟨_, h⟩; exact hk2 h), b1⟩
          case measure => (simp [Go.RowKit.intOf]; try omega)
    · have hk0' : ¬ 0 ≤ k := hk0
      obtain rfl : k = -1 := by omega
      go_wp2_with fail
      refine (keys_call _ _).mono ?_
      rintro r wk ⟨rfl, rfl⟩
      go_wp2_with fail
      refine (sorted_call w.heap.size N S wr hS (by omega)).mono ?_
      rintro r w3 ⟨v, l, rfl, hl1, hl2, hl3, b3⟩
      go_wp2_with fail
      go_ret
      exact ⟨v, l, rfl, ⟨hl1, fun i => (hl2 i).trans (hI.done i)⟩, hl3.lower hb.size, hb.trans (b3.mono hb.size)⟩
end Go.Proofs.YtgnahjadjgjecaaGreat
