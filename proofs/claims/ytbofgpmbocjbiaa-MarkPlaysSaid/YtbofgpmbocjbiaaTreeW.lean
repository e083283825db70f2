/- The program's walk: the closure of Path, by depth. -/
import Derived.Test.YtbofgpmbocjbiaaTreeA
set_option linter.unusedSimpArgs false
set_option linter.unusedVariables false
namespace Go.Proofs.Ytbofgpmbocjbiaa
open Go.RowKit

theorem W.snoc {p : List Int} {l : List Nat} {a y : Nat} (h : W p (l ++ [a])) (hy : y < p.length) (hn : Nr p a y) (hb : l.getLast? ≠ some y) : W p (l ++ [a] ++ [y]) := by
  have h2 := h.rev
  rw [List.reverse_append] at h2
  have h3 : W p (y :: a :: l.reverse) := W.cons (y := a) (t := l.reverse) (by simpa using h2) hy hn.symm (by rw [List.head?_reverse]; exact hb)
  have := h3.rev
  simpa using this
/-- What the walk tells from one that stands behind others. -/
def DfsIs (p : List Int) (pre : List Nat) (x : Nat) (b : Int) (w : World) (e : Ending) (w' : World) : Prop :=
  ∃ (A : Option Addr) (c : Nat) (l : List Nat), e = .returned (.slice A l.length c) ∧ IntsAt w' A l.length c (ints l) ∧ Kept w w' ∧ (l = [] → A = none) ∧
    ((l = [] ∧ ∀ (m : List Nat) (z : Nat), W p (pre ++ (x :: m)) → (x :: m).getLast? = some z → (z : Int) ≠ b) ∨ (W p (pre ++ l) ∧ l.head? = some x ∧ ∃ z : Nat, l.getLast? = some z ∧ (z : Int) = b))
def FromIs (pre : List Nat) (fr : Int) : Prop := (pre = [] ∧ fr = -1) ∨ ∃ u : Nat, pre.getLast? = some u ∧ fr = u
end Go.Proofs.Ytbofgpmbocjbiaa
