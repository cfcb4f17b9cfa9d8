/- The plain law of Check. -/
import Derived.Test.YtpafgieijplehaaLawA
set_option linter.unusedVariables false
set_option linter.unusedSimpArgs false
namespace Go.Proofs.Ytpafgieijplehaa
namespace Rup
def none_ (p : List Int) : Bool := (p.length : Int) == 0
def check (F : List (List Int) → List Int → Bool) : List (List Int) → List (List Int) → Nat → Bool → Nat × Bool
  | _, [], i, e => (i, e)
  | l, p :: r, i, e => if F l p then check F (l ++ [p]) r (i + 1) (e || none_ p) else (i, e)
theorem check_congr {F G : List (List Int) → List Int → Bool} : ∀ (r l : List (List Int)) (i : Nat) (e : Bool), okGrid l → okGrid r → (∀ l p, okGrid l → okRow p → F l p = G l p) → check F l r i e = check G l r i e
  | [], _, _, _, _, _, _ => rfl
  | p :: r, l, i, e, hl, hr, h => by
    have hp := hr p (List.mem_cons_self ..)
    unfold check
    rw [h l p hl hp, check_congr r (l ++ [p]) (i + 1) _ (fun c hc => by
      rcases List.mem_append.1 hc with hc | hc
      · exact hl c hc
      · rw [List.mem_singleton.1 hc]; exact hp) (fun c hc => hr c (List.mem_cons_of_mem _ hc)) h]
end Rup
end Go.Proofs.Ytpafgieijplehaa
