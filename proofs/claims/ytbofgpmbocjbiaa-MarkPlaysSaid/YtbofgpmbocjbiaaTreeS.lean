/- The document's Side and Far. -/
import Derived.Test.YtbofgpmbocjbiaaTreeQ
set_option linter.unusedSimpArgs false
set_option linter.unusedVariables false
namespace Go.Proofs.Ytbofgpmbocjbiaa
open Go.RowKit

noncomputable def firstIs (p : List Int) (a b : Int) (i : Nat) : Bool := ((pathOf p a (i : Int))[1]? : Option Nat).any fun x => decide ((x : Int) = b)
noncomputable def sideTo (p : List Int) (a b : Int) : Nat → Nat
  | 0 => 0
  | j + 1 => sideTo p a b j + if firstIs p a b j then 2 ^ j else 0
theorem sideTo_lt (p : List Int) (a b : Int) : ∀ j, sideTo p a b j < 2 ^ j
  | 0 => by simp [sideTo]
  | j + 1 => by
    have := sideTo_lt p a b j
    unfold sideTo
    rw [Nat.pow_succ]
    split <;> omega
theorem side_no {p : List Int} (h : ¬ IsTree p) (a b : Int) : ∀ j, sideTo p a b j = 0
  | 0 => rfl
  | j + 1 => by
    have e : firstIs p a b j = false := by unfold firstIs; rw [path_no (fun g => h g.1)]; rfl
    unfold sideTo
    rw [side_no h a b j, e]
    rfl
end Go.Proofs.Ytbofgpmbocjbiaa
