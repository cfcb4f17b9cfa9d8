/- The walks of rup. -/
import Derived.Test.YtpafgieijplehaaMap
import Derived.Test.YtpafgieijplehaaCells
import Derived.Test.YtpafgieijplehaaRupA
import Derived.Test.YtpafgieijplehaaProg
import Derived.WalkMore
import Derived.Outline
import Derived.Deep.Light
set_option linter.unusedVariables false
set_option linter.unusedSimpArgs false
namespace Go.Proofs.Ytpafgieijplehaa
open Go.RowKit

theorem kint : KeyOps Try.prog 3 (fun x : Int => Value.int .i64 x) := int_ops Try.underlying3
theorem zbool (w : World) : (zeroValue 4).run Try.prog w = .ok (.bool false) w := by kernel_rfl
abbrev Row (b : Nat) : Rep (List Int) := Sl b 3 I64
abbrev Grid (b : Nat) : Rep (List (List Int)) := Sl b 23 (Row b)
abbrev IntSet := SetAt (fun x : Int => Value.int .i64 x)

theorem stable_row {b : Nat} {T : List TypeId} (h : 3 ∈ T := by decide) : Stable b T (Row b) := Sl.stable (stable_i64 _ _) h
theorem stable_grid {b : Nat} {T : List TypeId} (h : 3 ∈ T := by decide) (h2 : 23 ∈ T := by decide) : Stable b T (Grid b) := Sl.stable (stable_row h) h2
theorem row_below {b : Nat} {w w' : World} {v : Value} {l : List Int} (h : Row b w v l) (hb : Below w.heap.size w w') : Row b w' v l := (stable_row (T := [3]) : Stable b _ (Row b)) _ _ _ _ (Quiet.below hb) h
theorem grid_below {b : Nat} {w w' : World} {v : Value} {l : List (List Int)} (h : Grid b w v l) (hb : Below w.heap.size w w') : Grid b w' v l := (stable_grid (T := [3, 23]) : Stable b _ (Grid b)) _ _ _ _ (Quiet.below hb) h
theorem row_re {b B : Nat} {w : World} {v : Value} {l : List Int} (h : Row b w v l) (hB : w.heap.size ≤ B) : Row B w v l := Sl.reB h (fun _ _ _ h => h) B hB
theorem grid_re {b B : Nat} {w : World} {v : Value} {l : List (List Int)} (h : Grid b w v l) (hB : w.heap.size ≤ B) : Grid B w v l := Sl.reB h (fun _ _ _ h => row_re h hB) B hB
theorem row_alloc {b : Nat} {w : World} {v : Value} {l : List Int} (h : Row b w v l) (o : Obj) : Row b (w.alloc o) v l := row_below h ((Below.refl _ _).alloc (Nat.le_refl _) _)
theorem grid_alloc {b : Nat} {w : World} {v : Value} {l : List (List Int)} (h : Grid b w v l) (o : Obj) : Grid b (w.alloc o) v l := grid_below h ((Below.refl _ _).alloc (Nat.le_refl _) _)
theorem grid_q {b B : Nat} {w w' : World} {v : Value} {l : List (List Int)} (h : Grid b w v l) (hq : Quiet B [3, 23] w w') (hb : b ≤ B := by omega) : Grid b w' v l := (stable_grid (T := [3, 23]) : Stable b _ (Grid b)) _ _ _ _ (hq.mono hb (fun _ h => h)) h
theorem row_q {b B : Nat} {w w' : World} {v : Value} {l : List Int} (h : Row b w v l) (hq : Quiet B [3, 23] w w') (hb : b ≤ B := by omega) : Row b w' v l := (stable_row (T := [3, 23]) : Stable b _ (Row b)) _ _ _ _ (hq.mono hb (fun _ h => h)) h
theorem row_drewN {b : Nat} {w : World} {v : Value} {l : List Int} (h : Row b w v l) (n : Nat) : Row b (w.drewN n) v l := row_below h (below_drewN (Below.refl _ _) n)
theorem grid_drewN {b : Nat} {w : World} {v : Value} {l : List (List Int)} (h : Grid b w v l) (n : Nat) : Grid b (w.drewN n) v l := grid_below h (below_drewN (Below.refl _ _) n)
theorem never_any (x : Int) (w : World) : Calls Try.prog 19 #[.int .i64 x] w fun e w' => e = .returned (.bool (Rup.never x)) ∧ w = w' := by
  go_enter Try.func19, Try.ntmps19
  go_wp2
  · have h0 : x = 0 := by assumption
    go_ret
    exact ⟨ret_val (by subst h0; rfl), rfl⟩
  · go_ret
    exact ⟨rfl, rfl⟩

theorem wrap_neg (x : Int) : wrap64 (-x) = Rup.neg x := by unfold wrap64 Rup.neg; omega

set_option maxRecDepth 100000 in
set_option maxHeartbeats 400000 in
theorem state_any (b0 : Nat) (l : List Int) (v : Value) (w : World) (hl : Row b0 w v l) (B : Nat) (h : Int → Bool) (hm : IntSet w B h) :
    Calls Try.prog 20 #[v, .map (some B)] w fun e w' => e = .returned (.tuple #[.int .i64 (Rup.state h 0 l).1, .int .i64 (Rup.state h 0 l).2]) ∧ w = w' := by
  obtain ⟨A, c, rfl, hlc, hcm, _⟩ := hl.open_
  have hlen : l.length ≤ 9223372036854775807 := by unfold maxLen at hcm; omega
  clear hlc hcm
  have hlook : ∀ x : Int, (Instr.lookup 40 (.map (some B)) (.int .i64 x) false).run Try.prog w = .ok (.bool (h x)) w := fun x => hm.look kint Try.underlying40 (zbool _) x
  go_enter Try.func20, Try.ntmps20
  go_wp2
  go_loop [6, 11] (fun lf i => ∃ k : Nat, k ≤ l.length ∧ i = .int .i64 k ∧ ∃ left : Int, lf = .int .i64 left ∧ Hid (Rup.state h left (l.drop k) = Rup.state h 0 l)) (fun _ i => l.length - (intOf i).toNat)
  case atStart => exact ⟨0, Nat.zero_le _, rfl, 0, rfl, Lib.hid (by simp)⟩
  case round =>
    obtain ⟨k, hk, rfl, left, rfl, H⟩ := hrel
    by_cases hlt : k < l.length
    · obtain ⟨b, off, u, rfl, hc, hu⟩ := hl.at_ hlt 0
      have HD := Lib.hid (drop_cons hlt 0)
      obtain ⟨rfl, _⟩ := hu
      generalize l.getD k 0 = x at hc HD
      go_wp2_with (go_at_call 19; refine (never_any _ _).mono ?_; rintro e w' ⟨rfl, rfl⟩)
      all_goals first
        | (go_round
           case rel => exact ⟨k + 1, by omega, by go_num, _, rfl, Lib.hid (by have H1 := H.out; have H2 := HD.out; clear H HD; rw [← H1, H2]; clear H1 H2; first | (simp [Rup.state, ← wrap_neg, *]; done) | (go_light; simp_all [Rup.state, ← wrap_neg]; done))⟩
           case measure => simp [intOf]; omega)
        | (go_ret2
           refine ⟨ret_val ?_, rfl⟩
           have H1 := H.out; have H2 := HD.out; clear H HD; rw [← H1, H2]; clear H1 H2; first | (simp [Rup.state, ← wrap_neg, *]; done) | (go_light; simp_all [Rup.state, ← wrap_neg]; done))
    · go_wp2
      all_goals
        go_ret2
        refine ⟨ret_val ?_, rfl⟩
        have H1 := H.out; clear H; rw [← H1, List.drop_eq_nil_of_le (by omega)]; simp [Rup.state] at *; simp [*]

set_option maxRecDepth 100000 in
set_option maxHeartbeats 400000 in
theorem follows_any (b1 b2 : Nat) (l : List (List Int)) (p : List Int) (vl vp : Value) (w : World) (hl : Grid b1 w vl l) (hp : Row b2 w vp p) :
    Calls Try.prog 12 #[vl, vp] w fun e w' => e = .returned (.bool (Rup.follows l p)) ∧ Below w.heap.size w w' := by
  obtain ⟨A, c, rfl, hlc, hcm, _⟩ := hl.open_
  obtain ⟨Ap, cp, rfl, hpc, hpm, _⟩ := hp.open_
  have hlen : l.length ≤ 9223372036854775807 := by unfold maxLen at hcm; omega
  have hlp : p.length ≤ 9223372036854775807 := by unfold maxLen at hpm; omega
  clear hlc hcm hpc hpm
  have hmm := @run_makeMap Try.prog
  go_enter Try.func12, Try.ntmps12
  go_wp2
  go_step3
  go_wp2
  go_loopw [15] (fun i wr => ∃ k : Nat, k ≤ p.length ∧ i = .int .i64 k ∧ ∃ h : Int → Bool, IntSet wr w.heap.size h ∧ Hid (Rup.start h (p.drop k) = Rup.start (fun _ => false) p) ∧ Below w.heap.size w wr) (fun i _ => p.length - (intOf i).toNat)
  case atStart => exact ⟨0, Nat.zero_le _, rfl, _, SetAt.made w, Lib.hid (by simp), (Below.refl _ _).alloc (Nat.le_refl _) _⟩
  case round =>
    obtain ⟨k, hk, rfl, h, hs, H, hb⟩ := hrel
    have hlook : ∀ x : Int, (Instr.lookup 40 (.map (some w.heap.size)) (.int .i64 x) false).run Try.prog wr = .ok (.bool (h x)) wr := fun x => hs.look kint Try.underlying40 (zbool _) x
    by_cases hlt : k < p.length
    · obtain ⟨bp, off, u, rfl, hc, hu⟩ := (row_below hp hb).at_ hlt 0
      have HD := Lib.hid (drop_cons hlt 0)
      obtain ⟨rfl, _⟩ := hu
      generalize p.getD k 0 = x at hc HD
      go_wp2_with (first | (go_at_call 19; refine (never_any _ _).mono ?_; rintro e w' ⟨rfl, rfl⟩) | (at_mapUpdate; refine wpList_put_set _ rfl _ _ _ 40 rfl 3 4 kint Try.underlying40 w.heap.size h rfl hs _ true rfl rfl ?_; intro w1 hs1 hg1) | go_in)
      · go_roundw
        case rel => exact ⟨k + 1, by omega, by go_num, h, hs, Lib.hid (by have H1 := H.out; have H2 := HD.out; clear H HD; rw [← H1, H2]; clear H1 H2; simp [Rup.start, *]), hb⟩
        case measure => simp [intOf]; omega
      · rw [Exit.noGoto_ret]
        go_ret
        refine ⟨ret_val ?_, hb⟩
        have H1 := H.out; have H2 := HD.out; clear H HD
        rw [H2] at H1
        simp [Rup.start, *] at H1
        simp [Rup.follows, ← H1]
      · have H3 : Hid (Rup.start (Rup.put h (Rup.neg x)) (p.drop (k + 1)) = Rup.start (fun _ => false) p) := Lib.hid (by have H1 := H.out; have H2 := HD.out; clear H HD; rw [← H1, H2]; clear H1 H2; simp [Rup.start, *])
        have hs2 : IntSet w1 w.heap.size (Rup.put h (Rup.neg x)) := by rw [← wrap_neg]; exact hs1
        go_roundw
        case rel => exact ⟨k + 1, by omega, by go_num, _, hs2, H3, hb.grown hg1 hb.size (fun j hj => by cases hj; exact Nat.le_refl _)⟩
        case measure => simp [intOf]; omega
    · go_wp2
      go_step3
      go_wp2
      have F : Hid (Rup.rounds l (l.flatten.length + 1) h = Rup.follows l p) := Lib.hid (by
        have H1 := H.out
        rw [List.drop_eq_nil_of_le (by omega)] at H1
        simp only [Rup.start] at H1
        simp only [Rup.follows, ← H1])
      clear H hlook
      have hcl : Rup.count l h < l.flatten.length + 1 := by have := Rup.count_le l h; omega
      go_loopg [29] (l.flatten.length + 1) (fun n _ w1 => ∃ h : Int → Bool, IntSet w1 w.heap.size h ∧ Rup.count l h < n ∧ Hid (Rup.rounds l n h = Rup.follows l p) ∧ Below w.heap.size w w1)
      case atStart => exact ⟨h, hs, hcl, F, hb⟩
      case round =>
        clear F hs hb hcl
        obtain ⟨h, hs, hn, F, hb⟩ := hrel
        go_wp2
        have hg := grid_below hl hb
        obtain ⟨wo, rfl⟩ : ∃ wo : World, wo = wr := ⟨_, rfl⟩
        go_loop [30] (fun i => ∃ k : Nat, k ≤ l.length ∧ i = .int .i64 k ∧ Hid (Rup.pass h (l.drop k) = Rup.pass h l)) (fun i => l.length - (intOf i).toNat)
        case atStart => exact ⟨0, Nat.zero_le _, rfl, Lib.hid (by simp)⟩
        case round =>
          clear hk hlt
          obtain ⟨k, hk, rfl, G⟩ := hrel
          by_cases hlt : k < l.length
          · obtain ⟨bl, off, u, rfl, hc, hi⟩ := hg.at_ hlt []
            have HD := Lib.hid (drop_cons hlt [])
            have hmem := getD_mem hlt []
            generalize l.getD k [] = x at hc HD hi hmem
            go_wp2_with (first | (go_at_call 20; refine (state_any _ _ _ _ hi _ _ hs).mono ?_; rintro e w' ⟨rfl, rfl⟩) | (at_mapUpdate; refine wpList_put_set _ rfl _ _ _ 40 rfl 3 4 kint Try.underlying40 w.heap.size h rfl hs _ true rfl rfl ?_; intro w1 hs1 hg1) | go_in)
            · rw [Exit.noGoto_ret]
              go_ret
              exact ⟨ret_val (congrArg Value.bool (Rup.rounds_against hn F.out HD.out G.out ‹_›).symm), hb⟩
            · have U := Rup.rounds_unit hn F.out hmem HD.out G.out ‹_›
              go_roundg (gk - 1)
              case measure => exact U.2.2
              case rel => exact ⟨_, hs1, U.2.1, Lib.hid U.1, hb.grown hg1 hb.size (fun j hj => by cases hj; exact Nat.le_refl _)⟩
            · go_round
              case rel => exact ⟨k + 1, by omega, by go_num, Lib.hid ((Rup.pass_next HD.out ‹_› ‹_›).trans G.out)⟩
              case measure => simp [intOf]; omega
          · have Z := Rup.rounds_quiet hn F.out (by have := G.out; rwa [List.drop_eq_nil_of_le (by omega)] at this)
            go_wp2
            go_ret
            exact ⟨ret_val (congrArg Value.bool Z.symm), hb⟩
end Go.Proofs.Ytpafgieijplehaa
