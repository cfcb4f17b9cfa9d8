/- whetstonelaw10.Laid, walked. -/
import Derived.Test.YtgnahjadjgjecaaLDoes
import Derived.Test.YtgnahjadjgjecaaLCopy
set_option linter.unusedVariables false
set_option linter.unusedSimpArgs false
namespace Go.Proofs.Ytgnahjadjgjecaa
open Go.RowKit Go.Maps Go.MapKept

/-- A call of a script. -/
structure SOp where
  kd : Int
  v : Nat
  op : Int
  a : Int
  b : Int
def SOp.five (t : SOp) : List Value := [.int .i64 t.kd, .int .u32 (t.v : Int), .int .i64 t.op, .int .i64 t.a, .int .i64 t.b]
structure SOp.Fits (t : SOp) : Prop where
  v : t.v < 4294967296
  op : -9223372036854775808 ≤ t.op ∧ t.op ≤ 9223372036854775807
  a : -9223372036854775808 ≤ t.a ∧ t.a ≤ 9223372036854775807
  b : -9223372036854775808 ≤ t.b ∧ t.b ≤ 9223372036854775807
instance : Inhabited SOp := ⟨⟨0, 0, 0, 0, 0⟩⟩
theorem encO : EncN 5 SOp.five := ⟨fun _ => rfl, fun x u hu => by simp [SOp.five] at hu; rcases hu with rfl | rfl | rfl | rfl | rfl <;> rfl, by omega⟩
theorem BothX.copied {K0 K : Nat → Prop} {vl : Value} {w w' w'' : World} {d k c N : Nat} {ts us : List Term} (h : BothX K0 K vl w d k ts us) (hc : Copied K w d c N ts w') (hk : Kept (fun i => K i ∨ (N ≤ i ∧ i < w'.heap.size)) w' w'') :
    BothM K0 w'' c k ts us ∧ Kept K0 w w'' := by
  have hN := hc.le
  have hKK : ∀ i, K i → i < N := fun i hi => Nat.lt_of_lt_of_le (h.dag.in_ i hi) hN
  have hd := hc.new.move hk fun i hi hn => Or.inr ⟨Nat.le_of_not_lt hn, hi⟩
  have k1 : Kept K w' w'' := hk.mono fun i hi => Or.inl hi
  have k2 := hc.kept.trans k1
  exact ⟨⟨_, vl, hd, h.ref.kept k2 h.kk h.kv, Or.inl (hKK _ h.kk), fun g hg => Or.inl (hKK _ (h.kv g hg)), fun i hi => Or.inl (hKK _ (h.sub i hi)), h.nk, h.nv⟩, k2.mono h.sub⟩
def LaidPost (K0 : Nat → Prop) (w : World) (r : Ending) (w' : World) : Prop := ∃ d k ts, r = .returned (.tuple #[.pointer (some ⟨d, 0, none⟩), .pointer (some ⟨k, 0, none⟩), .bool true]) ∧ BothM K0 w' d k ts ts ∧ Good ts ∧ ts.length ≤ 60 ∧ Kept K0 w w'
set_option maxRecDepth 100000 in
set_option maxHeartbeats 4000000 in
theorem laid_any (B : Nat) (e : TypeId) (v : Value) (xs : List SOp) (hf : ∀ x ∈ xs, x.Fits) (w : World) (hs : SlN B e 5 SOp.five w v xs) :
    Calls Try.prog 9 #[v] w (LaidPost (fun i => i < w.heap.size) w) := by
  obtain ⟨A, cp, rfl, q1, q2, q3⟩ := hs.open_
  have hN := new_any (fun i => i < w.heap.size) w (fun i hi => hi)
  go_enter Try.func9, Try.ntmps9
  go_wp2_with fail
  refine hN.mono ?_
  rintro r w1 ⟨rfl, h1, b1⟩
  go_wp2_with fail
  refine (rnew_any w1).mono ?_
  rintro r w2 ⟨rfl, h2, b2⟩
  have hB : BothM (fun i => i < w.heap.size) w2 w.heap.size w1.heap.size [] [] := by
    have hlt := h1.lt
    refine ⟨_, _, h1.more b2, h2, Or.inr ⟨Nat.le_refl _, h2.klt⟩, fun g hg => by simp [Value.ownBlock] at hg, fun i hi => Or.inl hi, by omega, fun g hg => by simp [Value.ownBlock] at hg⟩
  have kB : Kept (fun i => i < w.heap.size) w w2 := Kept.below (below_then b1 b2)
  generalize hK0 : (fun i => i < w.heap.size) = K0 at hB kB ⊢
  have hcells : ∀ j, j < xs.length → ∃ bb off, A = some ⟨bb, off, none⟩ ∧ K0 bb ∧ AtN SOp.five w bb (off + j * 5) (xs.getD j default) := fun j hj => by
    obtain ⟨bb, off, e1, e2, e3⟩ := hs.at_ hj
    rw [show xs[j] = xs.getD j default by simp [List.getD, hj]] at e2
    exact ⟨bb, off, e1, by rw [← hK0]; exact e3, e2⟩
  have HC := Lib.hid hcells
  have HF := Lib.hid hf
  have HK0 := Lib.hid hK0
  clear hN h1 h2 b1 b2 hs hcells hf hK0
  generalize w1.heap.size = kb at hB ⊢
  go_wp2_with fail
  go_loopw [5, 7] (fun dv i wr => ∃ (j db : Nat) (ts : List Term), j ≤ xs.length ∧ j ≤ 60 ∧ i = .int .i64 j ∧ dv = .pointer (some ⟨db, 0, none⟩) ∧ BothM K0 wr db kb ts ts ∧ Good ts ∧ ts.length ≤ j ∧ Kept K0 w wr) (fun _ i _ => xs.length - (intOf i).toNat)
  case atStart => exact ⟨0, w.heap.size, [], Nat.zero_le _, by omega, rfl, rfl, hB, Good.nil, Nat.le_refl _, kB⟩
  case round =>
    obtain ⟨j, db, ts, hj, hj60, rfl, rfl, hB2, hG, hlen, hk⟩ := hrel
    clear hB kB
    by_cases hlt : j < xs.length ∧ j < 60
    · obtain ⟨hlt1, hlt2⟩ := hlt
      obtain ⟨bb, off, rfl, hkb, hat⟩ := HC.out j hlt1
      have hfit := HF.out _ (getD_mem hlt1 default)
      generalize xs.getD j default = x at hat hfit
      have d0 := hk.cell hkb (hat 0 _ rfl)
      have d1 := hk.cell hkb (hat 1 _ rfl)
      have d2 := hk.cell hkb (hat 2 _ rfl)
      have d3 := hk.cell hkb (hat 3 _ rfl)
      have d4 := hk.cell hkb (hat 4 _ rfl)
      simp only [Nat.add_zero] at d0
      clear hat
      by_cases hkd : x.kd = 3
      · rw [hkd] at d0
        clear hkd
        obtain ⟨K, vl, hX⟩ := hB2
        go_wp2_with fail
        refine (copy_any K db ts (by omega) wr hX.dag).mono ?_
        rintro r w3 ⟨cb, N, rfl, hcp⟩
        have hkb2 : (fun i => K i ∨ (N ≤ i ∧ i < w3.heap.size)) bb := Or.inl (hX.sub bb hkb)
        have y1 := hcp.kept.cell (hX.sub bb hkb) d1
        clear d0 d1 d2 d3 d4
        go_wp2_with fail
        refine (const_any _ db x.v ts hfit.v (by omega) w3 hcp.old).mono ?_
        rintro r w4 ⟨rfl, h4, k4⟩
        obtain ⟨hB4, k5⟩ := hX.copied hcp k4
        have HB4 := Lib.hid hB4
        have HK5 := Lib.hid k5
        clear hB4 k5
        go_wp2_with fail
        go_roundw
        case rel => exact ⟨j + 1, cb, ts, by omega, by omega, by go_num, rfl, HB4.out, hG, by omega, hk.trans HK5.out⟩
        case measure => simp [intOf]; omega
      · have hne : (x.kd == 3) = false := by simp [hkd]
        clear hkd
        go_wp2_with fail
        refine (does_any K0 db kb ts x.kd x.op x.a x.b x.v hfit.v (by omega) hG wr hB2).mono ?_
        rintro r w3 ⟨rfl, ts', hD⟩
        clear d0 d1 d2 d3 d4
        have HD := Lib.hid hD
        clear hD
        go_wp2_with fail
        go_roundw
        case rel => exact ⟨j + 1, db, ts', by omega, by omega, by go_num, rfl, HD.out.both, HD.out.good, by have := HD.out.len; omega, hk.trans HD.out.kept⟩
        case measure => simp [intOf]; omega
    · have hend : ¬ (j : Int) < xs.length ∨ ¬ (j : Int) < 60 := by omega
      have HB2 := Lib.hid hB2
      have HK := Lib.hid hk
      clear hB2 hk hlt
      by_cases hl1 : (j : Int) < xs.length
      · have hl2 : ¬ (j : Int) < 60 := by omega
        clear hend
        go_wp2_with fail
        go_ret3
        exact ⟨db, kb, ts, rfl, by rw [HK0.out]; exact HB2.out, hG, by omega, by rw [HK0.out]; exact HK.out⟩
      · clear hend
        go_wp2_with fail
        go_ret3
        exact ⟨db, kb, ts, rfl, by rw [HK0.out]; exact HB2.out, hG, by omega, by rw [HK0.out]; exact HK.out⟩
end Go.Proofs.Ytgnahjadjgjecaa
