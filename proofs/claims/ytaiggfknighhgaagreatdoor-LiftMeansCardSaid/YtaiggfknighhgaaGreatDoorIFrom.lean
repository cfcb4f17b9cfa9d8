/- lift.From, lift.Block. -/
import Derived.Test.YtaiggfknighhgaaGreatDoorIOne
import Derived.Test.YtaiggfknighhgaaGreatDoorILen
import Derived.Test.YtaiggfknighhgaaGreatDoorIAny
set_option linter.unusedVariables false
set_option linter.unusedSimpArgs false
namespace Go.Proofs.YtaiggfknighhgaaGreatDoor
open Go.RowKit Go.Maps Go.MapKept

theorem zV_index (z : Nat → Int) {j : Nat} (hj : j < 32) (w : World) : (Instr.index 32 (.agg (zV z)) (.int .i64 (j : Int))).run Tryz.prog w = .ok (.int .i64 (z j)) w := by
  have h1 : (isAgg 3).run Tryz.prog w = .ok false w := by kernel_rfl
  have h2 : (sizeOf 3).run Tryz.prog w = .ok 1 w := by kernel_rfl
  have h3 : (j : Int) < 32 := by omega
  have h4 : ¬ 32 ≤ j := by omega
  simp [Instr.index, run_underlying Tryz.underlying32, asIntOf, h3, h4, hj, part, Sem.run_bind, h1, h2, go_sem, zV_get z hj]
theorem results_arr2 {P : Program} {fn : Func} {p q : Tmp} {ty : TypeId} (h : fn.results = #[.cell p ty, .tmp q]) (tmps : Array Value) (w : World) (g : Nat) (t : TypeId) (cs : Array Value) (fr : Nat × Nat) (d : TypeDesc) (v : Value)
    (hp : tmps.getD p undef = .pointer (some ⟨g, 0, none⟩)) (hq : tmps.getD q undef = v) (hg : w.heap[g]? = some (.cells cs t fr))
    (hu : P.underlying ty = some d) (hd : (match d with | .struct _ | .array _ _ => true | _ => false) = true) (hi : (P.info? ty).map (·.size) = some cs.size) :
    (results fn tmps).run P w = .ok (.tuple #[.agg cs, v]) w := by
  have hp' : tmps[p]?.getD undef = .pointer (some ⟨g, 0, none⟩) := by simpa using hp
  have hq' : tmps[q]?.getD undef = v := by simpa using hq
  simp [results, h, hp', hq', asAddr, run_loadVar_row w g t ty cs fr d hg hu hd hi]
def okX (ts : List Term) (z : Nat → Int) : Bool := (List.range 32).all fun r => inR (z r) ts.length
theorem okX_bad {ts : List Term} {z : Nat → Int} {j : Nat} (hj : j < 32) (h : inR (z j) ts.length = false) : okX ts z = false := by
  unfold okX
  rw [List.all_eq_false]
  exact ⟨j, by simpa using hj, by simp [h]⟩
theorem okX_all {ts : List Term} {z : Nat → Int} (h : ∀ r, r < 32 → inR (z r) ts.length = true) : okX ts z = true := by
  unfold okX
  rw [List.all_eq_true]
  exact fun r hr => h r (by simpa using hr)
def toN (z : Nat → Int) : Nat → Nat := fun r => (z r).toNat
def fromO (ts : List Term) (z : Nat → Int) (xs : List Ins) (pc : Nat) : List Term × (Nat → Int) × Int :=
  if okX ts z = false then (ts, fun _ => 0, 100) else if oddL xs = true then (ts, fun _ => 0, 120) else ((fromT ts (toN z) xs pc).1, fun r => (((fromT ts (toN z) xs pc).2 r : Nat) : Int), 0)
theorem fromO_ok {ts : List Term} {z : Nat → Int} {xs : List Ins} {pc : Nat} (h1 : okX ts z = true) (h2 : oddL xs = false) : fromO ts z xs pc = ((fromT ts (toN z) xs pc).1, fun r => (((fromT ts (toN z) xs pc).2 r : Nat) : Int), 0) := by
  unfold fromO
  rw [if_neg (by rw [h1]; decide), if_neg (by rw [h2]; decide)]
theorem fromT_snoc {ts : List Term} {x : Nat → Nat} {l : List Ins} {i : Ins} {pc : Nat} (hpc : pc < 4294967296) : fromT ts x (l ++ [i]) pc = ((oneT (fromT ts x l pc).1 (fromT ts x l pc).2 i ((pc + 4 * l.length) % 4294967296)).1, setR (fromT ts x l pc).2 i.rd (oneT (fromT ts x l pc).1 (fromT ts x l pc).2 i ((pc + 4 * l.length) % 4294967296)).2) := by
  rw [fromT_append _ _ _ _ _ hpc]
  rfl
theorem takeI_snoc {l : List Ins} {j : Nat} (hj : j < l.length) : l.take (j + 1) = l.take j ++ [l[j]] := List.take_succ_eq_append_getElem hj
def FromPost (K : Nat → Prop) (b : Nat) (w : World) (R : List Term × (Nat → Int) × Int) (e : Ending) (w' : World) : Prop := e = .returned (.tuple #[.agg (zV R.2.1), .int .i64 R.2.2]) ∧ DagAt K w' b R.1 ∧ Kept K w w'
set_option maxRecDepth 100000 in
set_option maxHeartbeats 4000000 in
theorem from_any (K : Nat → Prop) (b : Nat) (ts : List Term) (z : Nat → Int) (B : Nat) (e : TypeId) (v : Value) (xs : List Ins) (pc : Nat) (hpc : pc < 4294967296) (hl0 : ts.length ≤ 1000000) (hxs : xs.length ≤ 100) (hG : Good ts) (hg : K 0) (w : World) (hs : SlN B e 5 Ins.five w v xs) (hT : Tab w) (h : DagAt K w b ts) (hvK : ∀ w', Kept K w w' → SlN B e 5 Ins.five w' v xs) :
    Calls Tryz.prog 13 #[.pointer (some ⟨b, 0, none⟩), .agg (zV z), v, .int .u32 pc] w (FromPost K b w (fromO ts z xs pc)) := by
  obtain ⟨A, c, rfl, q1, q2, q3⟩ := hs.open_
  have q4 : xs.length ≤ 9223372036854775807 := by unfold maxLen at q2; omega
  have b1 := (Below.refl w.heap.size w).alloc (Nat.le_refl _) (.cells (zV z) 32)
  have b2 := b1.alloc (by simp) (.cells #[.int .i64 0, .int .i64 0, .int .i64 0, .int .i64 0, .int .i64 0, .int .i64 0, .int .i64 0, .int .i64 0, .int .i64 0, .int .i64 0, .int .i64 0, .int .i64 0, .int .i64 0, .int .i64 0, .int .i64 0, .int .i64 0, .int .i64 0, .int .i64 0, .int .i64 0, .int .i64 0, .int .i64 0, .int .i64 0, .int .i64 0, .int .i64 0, .int .i64 0, .int .i64 0, .int .i64 0, .int .i64 0, .int .i64 0, .int .i64 0, .int .i64 0, .int .i64 0] 32)
  have hz0 := blk_alloc (blk_new w (.cells (zV z) 32)) (.cells #[.int .i64 0, .int .i64 0, .int .i64 0, .int .i64 0, .int .i64 0, .int .i64 0, .int .i64 0, .int .i64 0, .int .i64 0, .int .i64 0, .int .i64 0, .int .i64 0, .int .i64 0, .int .i64 0, .int .i64 0, .int .i64 0, .int .i64 0, .int .i64 0, .int .i64 0, .int .i64 0, .int .i64 0, .int .i64 0, .int .i64 0, .int .i64 0, .int .i64 0, .int .i64 0, .int .i64 0, .int .i64 0, .int .i64 0, .int .i64 0, .int .i64 0, .int .i64 0] 32)
  have hz1 := blk_new (w.alloc (.cells (zV z) 32)) (.cells #[.int .i64 0, .int .i64 0, .int .i64 0, .int .i64 0, .int .i64 0, .int .i64 0, .int .i64 0, .int .i64 0, .int .i64 0, .int .i64 0, .int .i64 0, .int .i64 0, .int .i64 0, .int .i64 0, .int .i64 0, .int .i64 0, .int .i64 0, .int .i64 0, .int .i64 0, .int .i64 0, .int .i64 0, .int .i64 0, .int .i64 0, .int .i64 0, .int .i64 0, .int .i64 0, .int .i64 0, .int .i64 0, .int .i64 0, .int .i64 0, .int .i64 0, .int .i64 0] 32)
  have hsz : (w.alloc (.cells (zV z) 32)).heap.size = w.heap.size + 1 := by simp
  have hsz2 : ((w.alloc (.cells (zV z) 32)).alloc (.cells #[.int .i64 0, .int .i64 0, .int .i64 0, .int .i64 0, .int .i64 0, .int .i64 0, .int .i64 0, .int .i64 0, .int .i64 0, .int .i64 0, .int .i64 0, .int .i64 0, .int .i64 0, .int .i64 0, .int .i64 0, .int .i64 0, .int .i64 0, .int .i64 0, .int .i64 0, .int .i64 0, .int .i64 0, .int .i64 0, .int .i64 0, .int .i64 0, .int .i64 0, .int .i64 0, .int .i64 0, .int .i64 0, .int .i64 0, .int .i64 0, .int .i64 0, .int .i64 0] 32)).heap.size = w.heap.size + 2 := by simp
  rw [hsz, zV_zero] at hz1
  rw [zV_zero] at hz0
  have hD := h.more b2
  generalize hK : More K w ((w.alloc (.cells (zV z) 32)).alloc (.cells #[.int .i64 0, .int .i64 0, .int .i64 0, .int .i64 0, .int .i64 0, .int .i64 0, .int .i64 0, .int .i64 0, .int .i64 0, .int .i64 0, .int .i64 0, .int .i64 0, .int .i64 0, .int .i64 0, .int .i64 0, .int .i64 0, .int .i64 0, .int .i64 0, .int .i64 0, .int .i64 0, .int .i64 0, .int .i64 0, .int .i64 0, .int .i64 0, .int .i64 0, .int .i64 0, .int .i64 0, .int .i64 0, .int .i64 0, .int .i64 0, .int .i64 0, .int .i64 0] 32)) = K1 at hD
  have k0 : K1 w.heap.size := by rw [← hK]; exact Or.inr ⟨Nat.le_refl _, by omega⟩
  have k1 : K1 (w.heap.size + 1) := by rw [← hK]; exact Or.inr ⟨by omega, by omega⟩
  have kk : ∀ i, K i → K1 i := fun i hi => by rw [← hK]; exact Or.inl hi
  have kn0 : ¬ K w.heap.size := fun hh => by have := h.in_ _ hh; omega
  have kn1 : ¬ K (w.heap.size + 1) := fun hh => by have := h.in_ _ hh; omega
  clear hK h b1 hsz hsz2 hs
  have kb := Kept.below (K := K) b2
  have hT2 := hT.below b2
  have hg1 := kk _ hg
  generalize hR : fromO ts z xs pc = R
  have HR := Lib.hid hR
  clear hR hT
  go_enter Tryz.func13, Tryz.ntmps13
  go_wp2_with (first | (refine wpList_load_row rfl 32 (.tmp 5) rfl w.heap.size rfl 32 (zV z) (0, 0) _ (by first | exact hz0 | (rw [zV_zero]; exact hz0)) Tryz.underlying32 rfl (by rw [zV_size]; exact info_arr) ?_) | fail)
  rw [zV_zero] at *
  go_loopw [18] (fun i wr => ∃ j : Nat, j ≤ 32 ∧ i = .int .i64 j ∧ (∀ r, r < j → inR (z r) ts.length = true) ∧ ZAt 32 wr w.heap.size z ∧ wr.heap[w.heap.size + 1]? = some (.cells (zV fun _ => 0) 32 (0, 0)) ∧ DagAt K1 wr b ts ∧ Tab wr ∧ Kept K w wr) (fun i _ => 32 - (intOf i).toNat)
  case atStart => exact ⟨0, by omega, rfl, fun r hr => absurd hr (by omega), hz0, hz1, hD, hT2, kb⟩
  case round =>
    clear hz0 hz1 hD b2 kb hT2
    obtain ⟨j, hj, rfl, hin, hZ, h0, hD, hT, hk⟩ := hrel
    by_cases hlt : j < 32
    · have hlt' : (j : Int) < 32 := by omega
      have hix := fun w => zV_index z hlt w
      cases hr : inR (z j) ts.length with
      | false =>
        have ho := okX_bad hlt hr
        have hN := node_no K1 b (z j) ts (by omega) hr wr hD
        change Calls Tryz.prog 34 #[.pointer (some ⟨b, 0, none⟩), .int .i64 (z j)] wr fun r w' => r = .returned (.tuple #[.agg #[.int .i64 0, .int .u32 0, .int .i64 0, .int .i64 0, .int .i64 0], .int .i64 100]) ∧ Below wr.heap.size wr w' at hN
        have HO := Lib.hid ho
        clear ho hr hin
        go_wp2_with fail
        refine hN.mono ?_
        rintro r w1 ⟨rfl, b1⟩
        have b2 := b1.alloc b1.size (.cells #[.int .i64 0, .int .u32 0, .int .i64 0, .int .i64 0, .int .i64 0] 68)
        have h02 := blk_below h0 b2
        have hD2 := hD.below b2
        have k2 := hk.trans (Kept.below b2)
        have hRe : R = (ts, fun _ => 0, 100) := by rw [← HR.out]; unfold fromO; rw [if_pos HO.out]
        go_wp2_with (first | (refine wpList_store_row rfl 32 (.tmp 8) (.tmp 29) rfl (w.heap.size + 1) (zV fun _ => 0) rfl (by rw [← zV_zero]; rfl) 32 _ h02 (by rw [zV_size]; exact info_arr) rfl (zV_one _) ?_) | fail)
        exact bodyPost_ret (results_arr2 rfl _ _ (w.heap.size + 1) 32 (zV fun _ => 0) (0, 0) _ _ rfl rfl (setRow_heap _ _ _ _ _ _ h02) Tryz.underlying32 rfl (by rw [zV_size]; exact info_arr)) rfl (by rw [hRe]; exact ⟨rfl, (hD2.moved (kept_row _ _ _) k1).mono kk, k2.trans ((kept_row _ _ _).mono fun i hi e => kn1 (by rw [← e]; exact hi))⟩)
      | true =>
        obtain ⟨n, hn, hn2⟩ := inR_nat hr
        have hN := node_any K1 b n ts (by omega) hn2 wr hD
        rw [← hn] at hN
        generalize ht : ts.getD n default = t at hN
        unfold tv at hN
        clear hn hn2 ht
        go_wp2_with fail
        refine hN.mono ?_
        rintro r w1 ⟨rfl, b1⟩
        have b2 := b1.alloc b1.size (.cells #[.int .i64 t.k, .int .u32 t.v, .int .i64 t.op, .int .i64 t.a, .int .i64 t.b] 68)
        go_wp2_with fail
        go_roundw
        case rel => exact ⟨j + 1, by omega, by go_num, fun r hr' => by rcases Nat.lt_succ_iff_lt_or_eq.1 hr' with h | h; exact hin r h; rw [h]; exact hr, hZ.below b2, (blk_below h0 b2), hD.below b2, hT.below b2, hk.trans (Kept.below b2)⟩
        case measure => simp [intOf]; omega
    · have hlt' : ¬ (j : Int) < 32 := by omega
      obtain rfl : j = 32 := by omega
      have ho := okX_all hin
      have HO := Lib.hid ho
      have hA := anyOdd_any B e _ xs wr (hvK _ hk)
      clear ho
      cases hod : oddL xs with
      | true =>
        rw [hod] at hA
        have HOD := Lib.hid hod
        clear hod
        go_wp2_with fail
        refine hA.mono ?_
        rintro r w1 ⟨rfl, b1⟩
        have h02 := blk_below h0 b1
        have hD2 := hD.below b1
        have k2 := hk.trans (Kept.below b1)
        have hRe : R = (ts, fun _ => 0, 120) := by rw [← HR.out]; unfold fromO; rw [if_neg (by rw [HO.out]; decide), if_pos HOD.out]
        go_wp2_with (first | (refine wpList_store_row rfl 32 (.tmp 8) (.tmp 34) rfl (w.heap.size + 1) (zV fun _ => 0) rfl (by rw [← zV_zero]; rfl) 32 _ h02 (by rw [zV_size]; exact info_arr) rfl (zV_one _) ?_) | fail)
        exact bodyPost_ret (results_arr2 rfl _ _ (w.heap.size + 1) 32 (zV fun _ => 0) (0, 0) _ _ rfl rfl (setRow_heap _ _ _ _ _ _ h02) Tryz.underlying32 rfl (by rw [zV_size]; exact info_arr)) rfl (by rw [hRe]; exact ⟨rfl, (hD2.moved (kept_row _ _ _) k1).mono kk, k2.trans ((kept_row _ _ _).mono fun i hi e => kn1 (by rw [← e]; exact hi))⟩)
      | false =>
        rw [hod] at hA
        have HOD := Lib.hid hod
        clear hod
        go_wp2_with fail
        refine hA.mono ?_
        rintro r w1 ⟨rfl, b1⟩
        have h02 := blk_below h0 b1
        have hD2 := hD.below b1
        have k2 := hk.trans (Kept.below b1)
        have hT2 := hT.below b1
        have hZ2 := hZ.below b1
        have hxN : ∀ r, r < 32 → toN z r < ts.length ∧ z r = (toN z r : Int) := fun r hr => by
          obtain ⟨n, e1, e2⟩ := inR_nat (hin r hr)
          unfold toN
          rw [e1]
          exact ⟨e2, by simp⟩
        have hIn : InT ts (toN z) := fun r hr => (hxN r hr).1
        have hZ3 : ZAt 32 w1 w.heap.size (fun r => (toN z r : Int)) := hZ2.ext fun r hr => (hxN r hr).2
        have hRe : R = ((fromT ts (toN z) xs pc).1, fun r => (((fromT ts (toN z) xs pc).2 r : Nat) : Int), 0) := by rw [← HR.out, fromO_ok HO.out HOD.out]
        have hpl := oddL_false HOD.out
        have HPL := Lib.hid hpl
        have HRE := Lib.hid hRe
        clear hRe hpl hxN hin hZ hZ2 h0 hD hk hT hA
        generalize toN z = x at *
        go_wp2_with fail
        go_loopw [3, 37] (fun pv i wr => ∃ j : Nat, j ≤ xs.length ∧ i = .int .i64 j ∧ pv = .int .u32 ((pc + 4 * j) % 4294967296 : Nat) ∧ ZAt 32 wr w.heap.size (fun r => ((fromT ts x (xs.take j) pc).2 r : Int)) ∧ wr.heap[w.heap.size + 1]? = some (.cells (zV fun _ => 0) 32 (0, 0)) ∧ DagAt K1 wr b (fromT ts x (xs.take j) pc).1 ∧ Tab wr ∧ Kept K w wr) (fun _ i _ => xs.length - (intOf i).toNat)
        case atStart => exact ⟨0, by omega, rfl, by rw [Nat.mul_zero, Nat.add_zero, Nat.mod_eq_of_lt hpc], hZ3, h02, hD2, hT2, k2⟩
        case round =>
          clear hZ3 h02 hD2 hT2 k2 b1
          obtain ⟨j, hj, rfl, rfl, hZ, h0, hD, hT, hk⟩ := hrel
          by_cases hlt : j < xs.length
          · have hlt' : (j : Int) < xs.length := by omega
            have hs1 := hvK wr hk
            obtain ⟨bb, off, eA, hat, hbl⟩ := hs1.at_ hlt
            subst eA
            have hpi : plainI xs[j] = true := HPL.out _ (List.getElem_mem hlt)
            have hlt2 : (xs.take j).length = j := by rw [List.length_take, Nat.min_eq_left (by omega)]
            have hFs : fromT ts x (xs.take (j + 1)) pc = ((oneT (fromT ts x (xs.take j) pc).1 (fromT ts x (xs.take j) pc).2 xs[j] ((pc + 4 * (xs.take j).length) % 4294967296)).1, setR (fromT ts x (xs.take j) pc).2 xs[j].rd (oneT (fromT ts x (xs.take j) pc).1 (fromT ts x (xs.take j) pc).2 xs[j] ((pc + 4 * (xs.take j).length) % 4294967296)).2) := by
              rw [takeI_snoc hlt]
              exact fromT_snoc hpc
            rw [hlt2] at hFs
            obtain ⟨fo1, fo2, fo3⟩ := fromT_ok (xs.take j) ts x pc hG hIn (fun i hi => HPL.out i (List.mem_of_mem_take hi))
            have hlF : (fromT ts x (xs.take j) pc).1.length < 1000000000 := by
              have := fromT_len (xs.take j) ts x pc ts.length hG hIn (fun i hi => HPL.out i (List.mem_of_mem_take hi)) (fun r hr => Nat.le_trans (dp_le hG (hIn r hr)) (Nat.le_of_lt (hIn r hr)))
              rw [List.length_take, Nat.min_eq_left hj] at this
              have h9 : j * (8 * (ts.length + j) + 11) ≤ 100 * (8 * (1000000 + 100) + 11) := Nat.mul_le_mul (by omega) (by omega)
              omega
            have hpn : ((pc + 4 * (j + 1)) % 4294967296 : Nat) = ((pc + 4 * j) % 4294967296 + 4) % 4294967296 := by omega
            have hpl : (pc + 4 * j) % 4294967296 < 4294967296 := Nat.mod_lt _ (by decide)
            have HFS := Lib.hid hFs
            have HPN := Lib.hid hpn
            clear hFs hpn fo3 hlt2 hs1
            generalize fromT ts x (xs.take j) pc = F at hZ hD HFS fo1 fo2 hlF
            generalize (pc + 4 * j) % 4294967296 = pj at HFS HPN hpl ⊢
            generalize xs[j] = i at hat hpi HFS
            have hr : rightI i = true := by unfold plainI at hpi; rw [Bool.and_eq_true] at hpi; exact hpi.1
            obtain ⟨hrd, _, _⟩ := rightI_regs hr
            have hO := fun K w hg hT h => lone_any K b F.1 F.2 i pj (by omega) hpi fo1 fo2 hg w hT h
            generalize oneT F.1 F.2 i pj = Q at hO HFS
            obtain ⟨op, rd, rs1, rs2, imm⟩ := i
            dsimp only at hrd HFS
            change ∀ (K : Nat → Prop) (w : World), K 0 → Tab w → DagAt K w b F.1 → Calls Tryz.prog 35 #[.pointer (some ⟨b, 0, none⟩), .agg (zV fun r => (F.2 r : Int)), .agg #[.int .i64 op, .int .i64 rd, .int .i64 rs1, .int .i64 rs2, .int .i64 imm], .int .u32 pj] w fun e w' => e = .returned (.int .i64 (Q.2 : Nat)) ∧ DagAt K w' b Q.1 ∧ Kept K w w' at hO
            obtain ⟨r, rfl⟩ : ∃ r : Nat, rd = r := ⟨rd.toNat, by omega⟩
            have d0 : wr.cell? ⟨bb, off + j * 5, none⟩ = some (.int .i64 op) := hat 0 _ rfl
            have d1 : wr.cell? ⟨bb, off + j * 5 + 1, none⟩ = some (.int .i64 r) := hat 1 _ rfl
            have d2 : wr.cell? ⟨bb, off + j * 5 + 2, none⟩ = some (.int .i64 rs1) := hat 2 _ rfl
            have d3 : wr.cell? ⟨bb, off + j * 5 + 3, none⟩ = some (.int .i64 rs2) := hat 3 _ rfl
            have d4 : wr.cell? ⟨bb, off + j * 5 + 4, none⟩ = some (.int .i64 imm) := hat 4 _ rfl
            have bal := (Below.refl wr.heap.size wr).alloc (Nat.le_refl _) (.cells #[.int .i64 op, .int .i64 r, .int .i64 rs1, .int .i64 rs2, .int .i64 imm] 31)
            obtain ⟨z0, z1, z2, z3, z4⟩ := five_cells (blk_new wr (.cells #[.int .i64 op, .int .i64 r, .int .i64 rs1, .int .i64 rs2, .int .i64 imm] 31))
            have hDa := hD.more bal
            have hTa := hT.below bal
            have hZa := hZ.below bal
            have h0a := blk_below h0 bal
            have kka : ∀ i, K1 i → More K1 wr (wr.alloc (.cells #[.int .i64 op, .int .i64 r, .int .i64 rs1, .int .i64 rs2, .int .i64 imm] 31)) i := fun i hi => Or.inl hi
            have kia : More K1 wr (wr.alloc (.cells #[.int .i64 op, .int .i64 r, .int .i64 rs1, .int .i64 rs2, .int .i64 imm] 31)) wr.heap.size := Or.inr ⟨Nat.le_refl _, by simp⟩
            generalize More K1 wr (wr.alloc (.cells #[.int .i64 op, .int .i64 r, .int .i64 rs1, .int .i64 rs2, .int .i64 imm] 31)) = K2 at hDa kka kia
            have ka := hk.trans (Kept.below bal)
            clear hat hZ hD hT h0 hk bal
            go_wp2_with (first | (refine wpList_load_row rfl 32 (.tmp 5) rfl w.heap.size rfl 32 (zV fun r => (F.2 r : Int)) (0, 0) _ hZa Tryz.underlying32 rfl (by rw [zV_size]; exact info_arr) ?_) | fail)
            refine (hO K2 _ (kka _ hg1) hTa hDa).mono ?_
            rintro rr w3 ⟨rfl, hD3, k3⟩
            have y1 := k3.cell kia z1
            have hZ3 := hZa.kept k3 (kka _ k0)
            have h03 := k3.blk (kka _ k1) h0a
            have hT3 := hTa.kept k3 (kka _ hg1)
            have k4 := ka.trans (k3.mono fun i hi => kka _ (kk _ hi))
            have hD4 := hD3.mono kka
            clear hO hDa hTa hZa h0a hD3 z0 z1 z2 z3 z4 d0 d1 d2 d3 d4 k3 ka
            by_cases hr0 : r = 0
            · subst hr0
              have hb0 : (((0 : Nat) : Int) != 0) = false := rfl
              go_wp2_with fail
              go_roundw
              case rel =>
                have hF1 : fromT ts x (xs.take (j + 1)) pc = (Q.1, F.2) := by rw [HFS.out]; rfl
                exact ⟨j + 1, by omega, by go_num, by rw [HPN.out]; rfl, by rw [hF1]; exact hZ3, h03, by rw [hF1]; exact hD4, hT3, k4⟩
              case measure => simp [intOf]; omega
            · have hb0 : ((r : Int) != 0) = true := by simpa using hr0
              have hrl : (r : Int) < 32 := by omega
              have hc := hZ3.cell (i := r) (by omega)
              have hf := hZ3.fro r
              go_wp2_with fail
              go_roundw
              case rel =>
                have hF1 : fromT ts x (xs.take (j + 1)) pc = (Q.1, fun q => if q = r then Q.2 else F.2 q) := by
                  rw [HFS.out]
                  unfold setR
                  rw [if_neg (by omega)]
                  rfl
                exact ⟨j + 1, by omega, by go_num, by rw [HPN.out]; rfl, by rw [hF1]; exact (hZ3.set r Q.2).ext (fun q _ => by show (if q = r then _ else _) = ((if q = r then Q.2 else F.2 q : Nat) : Int); split <;> rfl), ((kept_set w3 _ r _).blk (by omega) h03), by rw [hF1]; exact hD4.moved (kept_set w3 _ r _) k0, hT3.kept (kept_set w3 _ r _) (by intro e; exact kn0 (by rw [← e]; exact hg)), k4.trans ((kept_set w3 _ r _).mono fun i hi e => kn0 (by rw [← e]; exact hi))⟩
              case measure => simp [intOf]; omega
          · have hlt' : ¬ (j : Int) < xs.length := by omega
            obtain rfl : j = xs.length := by omega
            rw [List.take_length] at hZ hD
            have hre := HRE.out
            generalize fromT ts x xs pc = F at hZ hD hre
            have HRE2 := Lib.hid hre
            clear hre HRE
            go_wp2_with (first | (refine wpList_load_row rfl 32 (.tmp 5) rfl w.heap.size rfl 32 (zV fun r => (F.2 r : Int)) (0, 0) _ hZ Tryz.underlying32 rfl (by rw [zV_size]; exact info_arr) ?_) | (refine wpList_store_row rfl 32 (.tmp 8) (.tmp 56) rfl (w.heap.size + 1) (zV fun r => (F.2 r : Int)) rfl rfl 32 _ h0 (by rw [zV_size]; exact info_arr) rfl (zV_one _) ?_) | fail)
            exact bodyPost_ret (results_arr2 rfl _ _ (w.heap.size + 1) 32 (zV fun r => (F.2 r : Int)) (0, 0) _ _ rfl rfl (setRow_heap _ _ _ _ _ _ h0) Tryz.underlying32 rfl (by rw [zV_size]; exact info_arr)) rfl (by rw [HRE2.out]; exact ⟨rfl, (hD.moved (kept_row _ _ _) k1).mono kk, hk.trans ((kept_row _ _ _).mono fun i hi e => kn1 (by rw [← e]; exact hi))⟩)
end Go.Proofs.YtaiggfknighhgaaGreatDoor
