/- A tree by numbers, in plain Lean. -/
import Derived.Test.YtbofgpmbocjbiaaTreeC
set_option linter.unusedSimpArgs false
set_option linter.unusedVariables false
namespace Go.Proofs.Ytbofgpmbocjbiaa
open Go.RowKit

/-- A tree by numbers: f i is i's parent's number, less than i; then all are turned by t. -/
structure Made (p : List Int) (n t : Nat) (f : Nat → Nat) : Prop where
  len : p.length = n
  one : 1 ≤ n
  six : n ≤ 6
  f_lt : ∀ i, 0 < i → i < n → f i < i
  at_ : ∀ i, i < n → pa p ((i + t) % n) = if i = 0 then -1 else (((f i + t) % n : Nat) : Int)
theorem turn_inj {n t i j : Nat} (hi : i < n) (hj : j < n) (h : (i + t) % n = (j + t) % n) : i = j := by
  have h1 : (i + t) % n = ((i + t % n) % n) := by rw [Nat.add_mod, Nat.mod_eq_of_lt hi]
  have h2 : (j + t) % n = ((j + t % n) % n) := by rw [Nat.add_mod, Nat.mod_eq_of_lt hj]
  have ht : t % n < n := Nat.mod_lt _ (by omega)
  rw [h1, h2] at h
  generalize t % n = s at *
  have e1 : (i + s) % n = if i + s < n then i + s else i + s - n := by
    split
    · exact Nat.mod_eq_of_lt (by assumption)
    · rw [Nat.mod_eq_sub_mod (by omega), Nat.mod_eq_of_lt (by omega)]
  have e2 : (j + s) % n = if j + s < n then j + s else j + s - n := by
    split
    · exact Nat.mod_eq_of_lt (by assumption)
    · rw [Nat.mod_eq_sub_mod (by omega), Nat.mod_eq_of_lt (by omega)]
  rw [e1, e2] at h
  split at h <;> split at h <;> omega
/-- Each site is one that was turned. -/
theorem turn_all {n t y : Nat} (hy : y < n) : ∃ i, i < n ∧ (i + t) % n = y := by
  have ht : t % n < n := Nat.mod_lt _ (by omega)
  have key : ∀ i, (i + t) % n = (i + t % n) % n := fun i => by simp
  rcases Nat.lt_or_ge y (t % n) with g | g
  · refine ⟨y + n - t % n, by omega, ?_⟩
    rw [key, show y + n - t % n + t % n = y + n by omega, Nat.add_mod_right, Nat.mod_eq_of_lt hy]
  · refine ⟨y - t % n, by omega, ?_⟩
    rw [key, show y - t % n + t % n = y by omega, Nat.mod_eq_of_lt hy]
theorem Made.tree {p : List Int} {n t : Nat} {f : Nat → Nat} (h : Made p n t f) : IsTree p := by
  have h1 := h.one
  have ex : ∀ y, ∃ i, y < n → i < n ∧ (i + t) % n = y := fun y => by
    by_cases hy : y < n
    · obtain ⟨i, hi⟩ := turn_all (t := t) hy
      exact ⟨i, fun _ => hi⟩
    · exact ⟨0, fun h => absurd h hy⟩
  let R : Nat → Nat := fun y => (ex y).choose
  have hR : ∀ y, y < n → R y < n ∧ (R y + t) % n = y := fun y hy => (ex y).choose_spec hy
  have hpa : ∀ y, y < n → pa p y = if R y = 0 then -1 else (((f (R y) + t) % n : Nat) : Int) := fun y hy => by
    have := h.at_ (R y) (hR y hy).1
    rwa [(hR y hy).2] at this
  have hmod : ∀ x, x % n < n := fun x => Nat.mod_lt _ (by omega)
  refine ⟨R, by rw [h.len]; exact h.one, by rw [h.len]; exact h.six, fun x hx => ?_, ⟨t % n, by rw [h.len]; exact hmod _, fun x hx => ?_⟩, fun x hx y hy => ?_, fun x hx => ?_⟩
  · rw [h.len] at hx ⊢
    have := hmod (f (R x) + t)
    rw [hpa x hx]
    split <;> omega
  · rw [h.len] at hx
    rw [hpa x hx]
    constructor
    · intro e
      split at e
      · rename_i e0
        have := (hR x hx).2
        rw [e0, Nat.zero_add] at this
        exact this.symm
      · omega
    · intro e
      have := (hR x hx).2
      have e0 : R x = 0 := turn_inj (t := t) (hR x hx).1 (by omega) (by rw [this, e, Nat.zero_add])
      rw [if_pos e0]
  · rw [h.len] at hx
    rw [hpa x hx] at hy
    split at hy
    · omega
    · rename_i e0
      have hf := h.f_lt (R x) (by omega) (hR x hx).1
      have hyn : y < n := by have := hmod (f (R x) + t); omega
      have := (hR y hyn).2
      have e : R y = f (R x) := turn_inj (t := t) (hR y hyn).1 (by have := (hR x hx).1; omega) (by rw [this]; omega)
      omega
  · rw [h.len] at hx
    have := (hR x hx).1
    have := h.six
    omega
theorem tmod_nat (a b : Nat) : ((a : Int)).tmod (b : Int) = ((a % b : Nat) : Int) := by
  rw [Int.tmod_eq_emod_of_nonneg (by omega)]; simp
/-- The parent's number. -/
def parOf (l : List Int) (i : Nat) : Nat := (((pa l (i - 1)).tmod i + i).tmod i).toNat
theorem par_is (l : List Int) (i : Nat) (hi : 0 < i) : ((pa l (i - 1)).tmod i + i).tmod i = (parOf l i : Int) ∧ parOf l i < i := by
  have h1 := tmod_bd (pa l (i - 1)) i (by omega)
  have h2 := Int.tmod_nonneg (i : Int) (show 0 ≤ (pa l (i - 1)).tmod i + i by omega)
  have h3 := Int.tmod_lt_of_pos ((pa l (i - 1)).tmod i + i) (show (0 : Int) < i by omega)
  unfold parOf
  omega
end Go.Proofs.Ytbofgpmbocjbiaa
