/- When parents are a tree: one root, all in range, each comes to the root in seven steps. Plain Lean. -/
import Derived.Test.YtbofgpmbocjbiaaTreeL
set_option linter.unusedSimpArgs false
set_option linter.unusedVariables false
namespace Go.Proofs.Ytbofgpmbocjbiaa

/-- How many of the first ones are roots. -/
def rootsTo (p : List Int) : Nat → Nat
  | 0 => 0
  | i + 1 => rootsTo p i + if pa p i = -1 then 1 else 0
theorem roots_none (p : List Int) : ∀ n, rootsTo p n = 0 ↔ ∀ x, x < n → pa p x ≠ -1
  | 0 => by simp [rootsTo]
  | n + 1 => by
    have ih := roots_none p n
    unfold rootsTo
    constructor
    · intro h x hx
      by_cases e : pa p n = -1
      · rw [if_pos e] at h; omega
      · rw [if_neg e] at h
        rcases Nat.lt_or_ge x n with g | g
        · exact ih.1 (by omega) x g
        · obtain rfl : x = n := by omega
          exact e
    · intro h
      rw [if_neg (h n (by omega)), ih.2 (fun x hx => h x (by omega))]
theorem roots_one (p : List Int) : ∀ n, rootsTo p n = 1 ↔ ∃ r, r < n ∧ ∀ x, x < n → (pa p x = -1 ↔ x = r)
  | 0 => by simp [rootsTo]
  | n + 1 => by
    have ih := roots_one p n
    unfold rootsTo
    by_cases e : pa p n = -1
    · rw [if_pos e]
      constructor
      · intro h
        have h0 := (roots_none p n).1 (by omega)
        refine ⟨n, by omega, fun x hx => ⟨fun g => ?_, fun g => by rw [g]; exact e⟩⟩
        rcases Nat.lt_or_ge x n with g2 | g2
        · exact absurd g (h0 x g2)
        · omega
      · rintro ⟨r, hr, h⟩
        have hrn := (h n (by omega)).1 e
        have : rootsTo p n = 0 := (roots_none p n).2 (fun x hx g => by have := (h x (by omega)).1 g; omega)
        omega
    · rw [if_neg e, Nat.add_zero, ih]
      constructor
      · rintro ⟨r, hr, h⟩
        refine ⟨r, by omega, fun x hx => ?_⟩
        rcases Nat.lt_or_ge x n with g2 | g2
        · exact h x g2
        · obtain rfl : x = n := by omega
          exact ⟨fun g => absurd g e, fun g => by omega⟩
      · rintro ⟨r, hr, h⟩
        have hrn : r ≠ n := fun g => e ((h n (by omega)).2 g.symm)
        exact ⟨r, by omega, fun x hx => h x (by omega)⟩

/-- k steps to the root. -/
def it (p : List Int) : Nat → Int → Int
  | 0, x => x
  | k + 1, x => if x < 0 then x else it p k (pa p x.toNat)
theorem it_neg (p : List Int) (k : Nat) (x : Int) (h : x < 0) : it p k x = x := by
  cases k with
  | zero => rfl
  | succ k => unfold it; rw [if_pos h]
theorem it_next (p : List Int) : ∀ (k : Nat) (x : Int), 0 ≤ it p k x → it p (k + 1) x = pa p (it p k x).toNat
  | 0, x, h => by have h : 0 ≤ x := h; unfold it; rw [if_neg (by omega)]; rfl
  | k + 1, x, h => by
    by_cases hx : x < 0
    · rw [it_neg p _ x hx] at h; omega
    · have e1 : ∀ j, it p (j + 1) x = it p j (pa p x.toNat) := fun j => by rw [it, if_neg hx]
      rw [e1 k] at h ⊢
      rw [e1 (k + 1)]
      exact it_next p k _ h
theorem it_stay (p : List Int) (k : Nat) (x : Int) (h : it p k x = -1) : it p (k + 1) x = -1 := by
  induction k generalizing x with
  | zero => have h : x = -1 := h; subst h; rfl
  | succ k ih =>
    by_cases hx : x < 0
    · rw [it_neg p _ x hx] at h ⊢; exact h
    · have e1 : ∀ j, it p (j + 1) x = it p j (pa p x.toNat) := fun j => by rw [it, if_neg hx]
      rw [e1] at h ⊢
      exact ih _ h
def dep (p : List Int) : Nat → Int → Nat
  | 0, _ => 0
  | k + 1, x => if x < 0 then 0 else dep p k (pa p x.toNat) + 1
theorem dep_le (p : List Int) : ∀ (k : Nat) (x : Int), dep p k x ≤ k
  | 0, x => Nat.le_refl _
  | k + 1, x => by unfold dep; split; omega; have := dep_le p k (pa p x.toNat); omega
theorem dep_stay (p : List Int) (k : Nat) (x : Int) (h : it p k x = -1) : dep p (k + 1) x = dep p k x := by
  induction k generalizing x with
  | zero => have h : x = -1 := h; subst h; rfl
  | succ k ih =>
    by_cases hx : x < 0
    · unfold dep; rw [if_pos hx, if_pos hx]
    · have e1 : it p (k + 1) x = it p k (pa p x.toNat) := by rw [it, if_neg hx]
      rw [e1] at h
      have := ih _ h
      rw [dep, if_neg hx, this]
      conv => rhs; rw [dep, if_neg hx]
theorem tree_of {p : List Int} (h1 : 1 ≤ p.length) (h6 : p.length ≤ 6) (hr : ∀ x, x < p.length → -1 ≤ pa p x ∧ pa p x < p.length) (h : rootsTo p p.length = 1) (hi : ∀ x : Nat, x < p.length → it p 7 x = -1) : IsTree p := by
  refine ⟨fun x => dep p 7 x - 1, h1, h6, hr, (roots_one p _).1 h, fun x hx y hy => ?_, fun x hx => ?_⟩
  · have e : it p 7 (x : Int) = it p 6 y := by rw [it, if_neg (by omega), Int.toNat_natCast, hy]
    have e2 : it p 6 (y : Int) = -1 := by rw [← e]; exact hi x hx
    have e3 : dep p 7 (x : Int) = dep p 6 y + 1 := by rw [dep, if_neg (by omega), Int.toNat_natCast, hy]
    have e4 : dep p 7 (y : Int) = dep p 6 y := dep_stay p 6 y e2
    have e5 : dep p 7 (y : Int) = dep p 6 (pa p y) + 1 := by rw [dep, if_neg (by omega), Int.toNat_natCast]
    show dep p 7 (y : Int) - 1 < dep p 7 (x : Int) - 1
    omega
  · have := dep_le p 7 x
    show dep p 7 (x : Int) - 1 < 7
    omega
theorem tree_it {p : List Int} {R : Nat → Nat} (hT : T p R) : ∀ (k x : Nat), x < p.length → R x < k → it p k x = -1
  | 0, x, _, h => absurd h (Nat.not_lt_zero _)
  | k + 1, x, hx, h => by
    have h1 := hT.rng x hx
    rw [it, if_neg (by omega), Int.toNat_natCast]
    by_cases e : pa p x = -1
    · rw [e]; exact it_neg p k _ (by omega)
    · obtain ⟨y, hy⟩ : ∃ y : Nat, pa p x = y := ⟨(pa p x).toNat, by omega⟩
      rw [hy]
      exact tree_it hT k y (by omega) (by have := hT.rk x hx y hy; omega)
theorem tree_iff (p : List Int) : IsTree p ↔ (1 ≤ p.length ∧ p.length ≤ 6 ∧ (∀ x, x < p.length → -1 ≤ pa p x ∧ pa p x < p.length) ∧ rootsTo p p.length = 1 ∧ ∀ x : Nat, x < p.length → it p 7 x = -1) :=
  ⟨fun ⟨R, hT⟩ => ⟨hT.one, hT.six, hT.rng, (roots_one p _).2 hT.root, fun x hx => tree_it hT 7 x hx (hT.r7 x hx)⟩, fun ⟨h1, h2, h3, h4, h5⟩ => tree_of h1 h2 h3 h4 h5⟩
end Go.Proofs.Ytbofgpmbocjbiaa
