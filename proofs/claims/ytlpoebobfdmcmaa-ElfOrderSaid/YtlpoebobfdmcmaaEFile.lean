/- A file's bytes, as lists: head, rows, data. -/
import Derived.Test.YtlpoebobfdmcmaaEPut
import Derived.Test.YtlpoebobfdmcmaaENum
import Derived.Test.YtlpoebobfdmcmaaESegA
set_option linter.unusedVariables false
set_option linter.unusedSimpArgs false
namespace Go.Proofs.Ytlpoebobfdmcmaa
open Go.RowKit

def putAll (xs : List Nat) (n : Nat) : List UInt8 := xs.flatMap fun x => leB x n
theorem putAll_succ {xs : List Nat} {k x : Nat} (h : xs[k]? = some x) (n : Nat) : putAll (xs.take (k + 1)) n = putAll (xs.take k) n ++ leB x n := by
  unfold putAll
  rw [List.take_add_one, h]
  simp
theorem putAll_len (xs : List Nat) (n : Nat) : (putAll xs n).length = xs.length * n := by
  induction xs with
  | nil => simp [putAll]
  | cons x r ih =>
    have : putAll (x :: r) n = leB x n ++ putAll r n := by simp [putAll]
    rw [this, List.length_append, ih, leB_len, List.length_cons, Nat.succ_mul]; omega
def magicL : List UInt8 := [127, 69, 76, 70, 1, 1, 1]
/-- A file's head, of n segments. -/
def headB (en fl n : Nat) : List UInt8 := magicL ++ List.replicate 9 0 ++ leB 2 2 ++ leB 243 2 ++ putAll [1, en, 52, 0, fl] 4 ++ putAll [52, 32, n, 0, 0, 0] 2
def rowB (at_ : Nat) (g : Seg) : List UInt8 := putAll [1, at_, g.addr, g.addr, g.data.size, g.size.toNat, g.flags.toNat, 4] 4
def datB (xs : List Seg) : List UInt8 := xs.flatMap fun g => toL g.data
def rowsB (at_ : Nat) : List Seg → List UInt8
  | [] => []
  | g :: r => rowB at_ g ++ rowsB (at_ + g.data.size) r
def fileB (en fl : Nat) (xs : List Seg) : List UInt8 := headB en fl xs.length ++ rowsB (52 + 32 * xs.length) xs ++ datB xs
set_option maxRecDepth 10000 in
theorem headB_len (en fl n : Nat) : (headB en fl n).length = 52 := by simp only [headB, magicL, List.length_append, leB_len, putAll_len, List.length_replicate, List.length_cons, List.length_nil]
theorem rowB_len (at_ : Nat) (g : Seg) : (rowB at_ g).length = 32 := by simp [rowB, putAll_len]
theorem rowsB_len (xs : List Seg) (at_ : Nat) : (rowsB at_ xs).length = 32 * xs.length := by
  induction xs generalizing at_ with
  | nil => rfl
  | cons g r ih => rw [rowsB, List.length_append, rowB_len, ih, List.length_cons]; omega
theorem toL_len (d : ByteArray) : (toL d).length = d.size := by simp [toL, Array.length_toList]
theorem datB_succ {xs : List Seg} {k : Nat} {g : Seg} (h : xs[k]? = some g) : datB (xs.take (k + 1)) = datB (xs.take k) ++ toL g.data := by
  unfold datB
  rw [List.take_add_one, h]
  simp
theorem rowsB_app (xs ys : List Seg) (at_ : Nat) : rowsB at_ (xs ++ ys) = rowsB at_ xs ++ rowsB (at_ + (datB xs).length) ys := by
  induction xs generalizing at_ with
  | nil => simp [rowsB, datB]
  | cons g r ih =>
    have e : (datB (g :: r)).length = g.data.size + (datB r).length := by simp [datB, toL_len]
    rw [List.cons_append, rowsB, rowsB, ih, e, List.append_assoc, Nat.add_assoc]
theorem rowsB_succ {xs : List Seg} {k : Nat} {g : Seg} (h : xs[k]? = some g) (at_ : Nat) : rowsB at_ (xs.take (k + 1)) = rowsB at_ (xs.take k) ++ rowB (at_ + (datB (xs.take k)).length) g := by
  rw [List.take_add_one, h]
  simp only [Option.toList]
  rw [rowsB_app]
  simp [rowsB]
theorem datB_len_le {xs : List Seg} {m : Nat} (h : ∀ g ∈ xs, g.data.size ≤ m) : (datB xs).length ≤ m * xs.length := by
  induction xs with
  | nil => simp [datB]
  | cons g r ih =>
    have e : (datB (g :: r)).length = g.data.size + (datB r).length := by simp [datB, toL_len]
    have h1 := h g (by simp)
    have h2 := ih fun x hx => h x (by simp [hx])
    rw [e, List.length_cons, Nat.mul_succ]; omega
end Go.Proofs.Ytlpoebobfdmcmaa
