/- Eval and Vars of whatever number. -/
import Derived.Test.YtkleidcepnmioaaTEval
import Derived.Test.YtkleidcepnmioaaRVal
set_option linter.unusedVariables false
set_option linter.unusedSimpArgs false
namespace Go.Proofs.Ytkleidcepnmioaa
open Go.RowKit Go.Maps Go.MapKept

def evO (ts : List Term) (x : Nat → Nat) (n : Int) : Nat × Int := if inR n ts.length = true then (ev ts x n.toNat, 0) else (0, 100)
def vrO (ts : List Term) (n : Int) : Nat × Int := if inR n ts.length = true then (vr ts n.toNat, 0) else (0, 100)
theorem evO_in {ts : List Term} {x : Nat → Nat} {n : Nat} (h : n < ts.length) : evO ts x n = (ev ts x n, 0) := if_pos (inR_cast h)
theorem vrO_in {ts : List Term} {n : Nat} (h : n < ts.length) : vrO ts n = (vr ts n, 0) := if_pos (inR_cast h)
theorem evalO_any (K : Nat → Prop) (b : Nat) (n : Int) (ts : List Term) (x : Nat → Nat) (hx : ∀ r, x r < 4294967296) (hl : ts.length < 100000000000) (hG : Good ts) (w : World) (h : DagAt K w b ts) :
    Calls Try.prog 13 #[.pointer (some ⟨b, 0, none⟩), .int .i64 n, .agg (regsV x)] w fun e w' => e = .returned (.tuple #[.int .u32 ((evO ts x n).1 : Nat), .int .i64 (evO ts x n).2]) ∧ Below w.heap.size w w' := by
  cases hr : inR n ts.length with
  | true =>
    obtain ⟨m, rfl, hm⟩ := inR_nat hr
    rw [evO_in hm]
    exact eval_any K b m ts x hx hl hm hG w h
  | false =>
    rw [show evO ts x n = (0, 100) from if_neg (by rw [hr]; decide)]
    exact eval_no K b n ts x (by omega) hr w h
theorem varsO_any (K : Nat → Prop) (b : Nat) (n : Int) (ts : List Term) (hl : ts.length < 100000000000) (hG : Good ts) (w : World) (h : DagAt K w b ts) :
    Calls Try.prog 14 #[.pointer (some ⟨b, 0, none⟩), .int .i64 n] w fun e w' => e = .returned (.tuple #[.int .u32 ((vrO ts n).1 : Nat), .int .i64 (vrO ts n).2]) ∧ Below w.heap.size w w' := by
  cases hr : inR n ts.length with
  | true =>
    obtain ⟨m, rfl, hm⟩ := inR_nat hr
    rw [vrO_in hm]
    exact vars_any K b m ts hl hm hG w h
  | false =>
    rw [show vrO ts n = (0, 100) from if_neg (by rw [hr]; decide)]
    exact vars_no K b n ts (by omega) hr w h
theorem revalO_any (k : Nat) (vl : Value) (n : Int) (ts : List Term) (x : Nat → Nat) (hx : ∀ r, x r < 4294967296) (hl : ts.length < 100000000000) (hG : Good ts) (w : World) (h : RefAt w k vl ts) :
    Calls Try.prog 19 #[.pointer (some ⟨k, 0, none⟩), .int .i64 n, .agg (regsV x)] w fun e w' => e = .returned (.tuple #[.int .u32 ((evO ts x n).1 : Nat), .int .i64 (evO ts x n).2]) ∧ Below w.heap.size w w' := by
  cases hr : inR n ts.length with
  | true =>
    obtain ⟨m, rfl, hm⟩ := inR_nat hr
    rw [evO_in hm]
    exact reval_any k vl m ts x hx hl hm hG w h
  | false =>
    rw [show evO ts x n = (0, 100) from if_neg (by rw [hr]; decide)]
    exact reval_no k vl n ts x hr w h
theorem rvarsO_any (k : Nat) (vl : Value) (n : Int) (ts : List Term) (hl : ts.length < 100000000000) (hG : Good ts) (w : World) (h : RefAt w k vl ts) :
    Calls Try.prog 20 #[.pointer (some ⟨k, 0, none⟩), .int .i64 n] w fun e w' => e = .returned (.tuple #[.int .u32 ((vrO ts n).1 : Nat), .int .i64 (vrO ts n).2]) ∧ Below w.heap.size w w' := by
  cases hr : inR n ts.length with
  | true =>
    obtain ⟨m, rfl, hm⟩ := inR_nat hr
    rw [vrO_in hm]
    exact rvars_any k vl m ts hl hm hG w h
  | false =>
    rw [show vrO ts n = (0, 100) from if_neg (by rw [hr]; decide)]
    exact rvars_no k vl n ts hr w h
end Go.Proofs.Ytkleidcepnmioaa
