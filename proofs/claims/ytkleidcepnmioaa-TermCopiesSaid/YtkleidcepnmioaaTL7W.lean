/- The law TermCopies, walked. -/
import Derived.Test.YtkleidcepnmioaaTFix
import Derived.Test.YtkleidcepnmioaaLLaid
set_option linter.unusedVariables false
set_option linter.unusedSimpArgs false
namespace Go.Proofs.Ytkleidcepnmioaa
open Go.RowKit Go.Maps Go.MapKept

theorem neq_copy (w : World) (t : Term) : (binOp .neq 44 (tv t) (tv t)).run Try.prog w = .ok (.bool false) w := by
  unfold tv
  rw [run_neq_struct]
  simp [go_sem, Try.underlying44]
set_option maxRecDepth 100000 in
set_option maxHeartbeats 4000000 in
theorem tlaw7_any (B : Nat) (e : TypeId) (v : Value) (xs : List SOp) (hf : ∀ x ∈ xs, x.Fits) (u : Nat) (hu : u < 4294967296) (w : World) (hs : SlN B e 5 SOp.five w v xs) :
    Calls Try.prog 9 #[v, .int .u32 u] w fun e w' => e = .returned (.bool true) ∧ Below w.heap.size w w' := by
  have hL := laid_any B e v xs hf _ hs
  obtain ⟨A, cp, rfl, q1, q2, q3⟩ := hs.open_
  obtain ⟨K0, hK⟩ : ∃ K : Nat → Prop, (fun i => i < w.heap.size) = K := ⟨_, rfl⟩
  have hend : ∀ w', Kept K0 w w' → Below w.heap.size w w' := fun w' h => by rw [← hK] at h; exact below_kept h
  rw [hK] at hL
  clear hK hs hf
  go_enter Try.func9, Try.ntmps9
  go_wp2_with fail
  refine hL.mono ?_
  rintro r w0 ⟨d, k, ts, rfl, ⟨K, vl, hX⟩, hG, hlen, hk1⟩
  have hD := hX.dag
  have hsub := hX.sub
  have hl : ts.length < 1000000000000 := by omega
  have hq := len_any K d ts w0 hD
  have hC := copy_any K d ts hl w0 hD
  clear hX hL
  go_wp2_with fail
  refine hq.mono ?_
  rintro r w1 ⟨rfl, rfl⟩
  go_wp2_with fail
  refine hC.mono ?_
  rintro r w2 ⟨c, N, rfl, hcp⟩
  have hn := hcp.new
  have ho := hcp.old
  have k2 : Kept K0 w w2 := hk1.trans (hcp.kept.mono hsub)
  have hin : ∀ i, K0 i → i < N := fun i hi => Nat.lt_of_lt_of_le (hD.in_ i (hsub i hi)) hcp.le
  have hql := len_any _ c ts w2 hn
  have C1 := const_any _ c u ts hu hl w2 hn
  have l1 := (ins_len ts (constT u)).2
  have C2 := fun w h => var_any (fun i => i < N) c 31 (ins ts (constT u)) (by omega) (by omega) w h
  have hv31 : varTm 31 = varT 31 := rfl
  rw [hv31] at C2
  have l2 := (ins_len (ins ts (constT u)) (varT 31)).2
  have x1 := ext_ins ts (constT u)
  have x2 := ext_ins (ins ts (constT u)) (varT 31)
  have p1 := Nat.lt_of_lt_of_le (pos_lt ts (constT u)) x2.len
  have p2 := pos_lt (ins ts (constT u)) (varT 31)
  have C3 := fun w h => op_any (fun i => i < N) c 28 (pos ts (constT u)) (pos (ins ts (constT u)) (varT 31)) (ins (ins ts (constT u)) (varT 31)) (by omega) p1 p2 rfl w h
  have x3 := ext_ins (ins (ins ts (constT u)) (varT 31)) (opT 28 (pos ts (constT u)) (pos (ins ts (constT u)) (varT 31)))
  have l3 := (ins_len (ins (ins ts (constT u)) (varT 31)) (opT 28 (pos ts (constT u)) (pos (ins ts (constT u)) (varT 31)))).2
  have p3 := pos_lt (ins (ins ts (constT u)) (varT 31)) (opT 28 (pos ts (constT u)) (pos (ins ts (constT u)) (varT 31)))
  have x13 := (x1.trans x2).trans x3
  generalize ins (ins (ins ts (constT u)) (varT 31)) (opT 28 (pos ts (constT u)) (pos (ins ts (constT u)) (varT 31))) = us at C3 x3 l3 p3 x13
  generalize pos (ins (ins ts (constT u)) (varT 31)) (opT 28 (pos ts (constT u)) (pos (ins ts (constT u)) (varT 31))) = n3 at C3 p3
  generalize pos (ins ts (constT u)) (varT 31) = n2 at C2 C3 p2
  generalize ins (ins ts (constT u)) (varT 31) = us2 at C2 C3 x2 x3 l2 l3 p1 p2
  generalize pos ts (constT u) = n1 at C1 C3 p1
  generalize ins ts (constT u) = us1 at C1 C2 x1 x2 l1 l2
  have hul : us.length < 1000000000000 := by omega
  clear hC hq hD hk1 hsub l1 l2 l3 p1 p2 x1 x2 x3
  go_wp2_with fail
  refine hql.mono ?_
  rintro r w3 ⟨rfl, rfl⟩
  go_wp2_with fail
  refine C1.mono ?_
  rintro r w4 ⟨rfl, h4, q4⟩
  clear C1 hql
  go_wp2_with fail
  refine (C2 _ h4).mono ?_
  rintro r w5 ⟨rfl, h5, q5⟩
  clear C2 h4
  go_wp2_with fail
  refine (C3 _ h5).mono ?_
  rintro r w6 ⟨rfl, h6, q6⟩
  have q26 : Kept (fun i => i < N) w2 w6 := (q4.trans q5).trans q6
  have k6 := k2.trans (q26.mono hin)
  have ho6 := ho.move q26 (fun i hi hn => by
    refine Nat.lt_of_not_le fun hle => hn (Or.inr ⟨hle, hi⟩))
  clear C3 h5 q4 q5 q6 q26 ho k2 hn hcp hin
  generalize (More (fun i => K i ∨ (N ≤ i ∧ i < w2.heap.size)) w2 w6) = K2 at ho6
  generalize (fun i => i < N) = K3 at h6
  have hend2 : ∀ w', Below w6.heap.size w6 w' → Below w.heap.size w w' := fun w' b => hend _ (k6.then_below b)
  clear k6 hend
  go_wp2_with fail
  go_loopw [15] (fun i wr => ∃ j : Nat, j ≤ ts.length ∧ i = .int .i64 j ∧ Below w6.heap.size w6 wr) (fun i _ => ts.length - (Go.RowKit.intOf i).toNat)
  case atStart => exact ⟨0, Nat.zero_le _, rfl, Below.refl _ _⟩
  case round =>
    obtain ⟨j, hj, rfl, hb⟩ := hrel
    have hd1 := ho6.below hb
    have hc1 := h6.below hb
    by_cases hlt : j < ts.length
    · have hlt' : (j : Int) < ts.length := by omega
      have hju := Nat.lt_of_lt_of_le hlt x13.len
      have N1 := node_any _ d j ts hl hlt wr hd1
      have N2 := fun w h => node_any K3 c j us hul hju w h
      rw [x13.getD hlt] at N2
      generalize ts.getD j default = t at N1 N2
      have hne := fun W => neq_copy W t
      unfold tv at N1 N2 hne
      have HE := Lib.hid hend2
      clear hend2 hd1
      go_wp2_with fail
      refine N1.mono ?_
      rintro r w7 ⟨rfl, b7⟩
      have hc2 := (hc1.below b7).below ((Below.refl _ _).alloc (Nat.le_refl _) (.cells #[.int .i64 t.k, .int .u32 t.v, .int .i64 t.op, .int .i64 t.a, .int .i64 t.b] 44))
      have g7 := blk_new w7 (.cells #[.int .i64 t.k, .int .u32 t.v, .int .i64 t.op, .int .i64 t.a, .int .i64 t.b] 44)
      have b8 := below_alloc1 (below_then hb b7) (.cells #[.int .i64 t.k, .int .u32 t.v, .int .i64 t.op, .int .i64 t.a, .int .i64 t.b] 44)
      clear N1 hc1 b7 hb
      go_wp2_with fail
      refine (N2 _ hc2).mono ?_
      rintro r w9 ⟨rfl, b9⟩
      obtain ⟨z0, z1, z2, z3, z4⟩ := five_cells (blk_alloc (blk_below g7 b9) (.cells #[.int .i64 t.k, .int .u32 t.v, .int .i64 t.op, .int .i64 t.a, .int .i64 t.b] 44))
      obtain ⟨y0, y1, y2, y3, y4⟩ := five_cells (blk_new w9 (.cells #[.int .i64 t.k, .int .u32 t.v, .int .i64 t.op, .int .i64 t.a, .int .i64 t.b] 44))
      have b10 := below_alloc1 (below_then b8 b9) (.cells #[.int .i64 t.k, .int .u32 t.v, .int .i64 t.op, .int .i64 t.a, .int .i64 t.b] 44)
      clear N2 hc2 g7 b8 b9
      go_wp2_with fail
      go_roundw
      case rel => exact ⟨j + 1, by omega, by go_num, b10⟩
      case measure => simp [Go.RowKit.intOf]; omega
    · have hlt' : ¬ (j : Int) < ts.length := by omega
      have hLc := len_any K3 c us wr hc1
      have hLd := len_any K2 d ts wr hd1
      have p3' : (n3 : Int) < us.length := by omega
      go_wp2_with fail
      refine hLc.mono ?_
      rintro r w7 ⟨rfl, rfl⟩
      go_wp2_with fail
      refine hLd.mono ?_
      rintro r w8 ⟨rfl, rfl⟩
      go_wp2_with fail
      refine (tfixed_any _).mono ?_
      rintro r w9 ⟨rfl, b9⟩
      go_wp2_with fail
      go_ret
      exact ⟨rfl, hend2 _ (below_then hb b9)⟩
end Go.Proofs.Ytkleidcepnmioaa
