/- Paths by the document: up to the first common one, and down. Plain Lean. -/
import Derived.Test.YtbofgpmbocjbiaaTreeN
set_option linter.unusedSimpArgs false
set_option linter.unusedVariables false
namespace Go.Proofs.Ytbofgpmbocjbiaa

open Classical in
noncomputable def pathOf (p : List Int) (a b : Int) : List Nat := if IsTree p ∧ (0 ≤ a ∧ a < p.length) ∧ (0 ≤ b ∧ b < p.length) then wk p a.toNat b.toNat else []

variable {p : List Int} {R : Nat → Nat}
theorem upl_head (p : List Int) (k x : Nat) : (upl p (k + 1) x).head? = some x := by unfold upl; rfl
theorem upl_W (hT : T p R) : ∀ (k x : Nat), x < p.length → R x < k → W p (upl p k x) ∧ (∀ z ∈ upl p k x, R z ≤ R x)
  | 0, x, _, h => absurd h (Nat.not_lt_zero _)
  | k + 1, x, hx, h => by
    have h1 := hT.rng x hx
    unfold upl
    by_cases e : pa p x < 0
    · rw [if_pos e]
      exact ⟨W.one hx, fun z hz => by simp at hz; rw [hz]; exact Nat.le_refl _⟩
    · rw [if_neg e]
      obtain ⟨y, hy⟩ : ∃ y : Nat, pa p x = y := ⟨(pa p x).toNat, by omega⟩
      rw [hy, Int.toNat_natCast]
      have hlt := hT.rk x hx y hy
      obtain ⟨w1, w2⟩ := upl_W hT k y (by omega) (by omega)
      obtain ⟨k', rfl⟩ : ∃ k', k = k' + 1 := ⟨k - 1, by omega⟩
      refine ⟨?_, fun z hz => ?_⟩
      · rw [upl] at w1 w2 ⊢
        refine w1.cons hx (.inl hy) ?_
        intro hh
        have hxm := List.mem_of_head? hh
        have := w2 x (List.mem_cons_of_mem _ hxm)
        omega
      · rcases List.mem_cons.1 hz with rfl | hz
        · exact Nat.le_refl _
        · have := w2 z hz
          omega
theorem upl_root (hT : T p R) {r : Nat} (hroot : ∀ x, x < p.length → (pa p x = -1 ↔ x = r)) : ∀ (k x : Nat), x < p.length → R x < k → r ∈ upl p k x
  | 0, x, _, h => absurd h (Nat.not_lt_zero _)
  | k + 1, x, hx, h => by
    have h1 := hT.rng x hx
    unfold upl
    by_cases e : pa p x < 0
    · have : x = r := (hroot x hx).1 (by omega)
      rw [this]; simp
    · rw [if_neg e]
      obtain ⟨y, hy⟩ : ∃ y : Nat, pa p x = y := ⟨(pa p x).toNat, by omega⟩
      rw [hy, Int.toNat_natCast]
      have hlt := hT.rk x hx y hy
      exact List.mem_cons_of_mem _ (upl_root hT hroot k y (by omega) (by omega))
theorem W.glue {m : Nat} {Y : List Nat} (hY : W p (m :: Y)) : ∀ (X : List Nat), W p (X ++ [m]) → (∀ u v, X.getLast? = some u → Y.head? = some v → u ≠ v) → W p (X ++ (m :: Y))
  | [], _, _ => hY
  | [u], hX, hne => by
    refine W.cons hY (hX.lt 0 u rfl) (hX.nr 0 u m rfl rfl) ?_
    intro h
    exact hne u u rfl h rfl
  | u :: v :: X, hX, hne => by
    have ih := W.glue hY (v :: X) hX.tail (fun a b h1 h2 => hne a b (by rwa [List.getLast?_cons_cons]) h2)
    refine W.cons (y := v) (t := X ++ (m :: Y)) ih (hX.lt 0 u rfl) (hX.nr 0 u v rfl rfl) ?_
    intro h
    have : (X ++ [m])[0]? = some u := by
      cases X with
      | nil => simpa using h
      | cons z X => simpa using h
    exact hX.nb 0 u u rfl (by simpa using this) rfl
/-- Up to the first common one, and down: that is the walk. -/
theorem path_is (hT : T p R) {a b i k : Nat} {m : Nat} (ha : a < p.length) (hb : b < p.length) (hF : (upl p 7 a)[i]? = some m) (hG : (upl p 7 b)[k]? = some m) (hno : ∀ i' u, i' < i → (upl p 7 a)[i']? = some u → u ∉ upl p 7 b) :
    pathOf p (a : Int) (b : Int) = (upl p 7 a).take (i + 1) ++ ((upl p 7 b).take k).reverse := by
  have hp : IsTree p := ⟨R, hT⟩
  unfold pathOf
  rw [if_pos ⟨hp, by omega, by omega⟩, Int.toNat_natCast, Int.toNat_natCast]
  have wF := (upl_W hT 7 a ha (hT.r7 a ha)).1
  have wG := (upl_W hT 7 b hb (hT.r7 b hb)).1
  have fh := upl_head p 6 a
  have gh := upl_head p 6 b
  generalize upl p 7 a = F at *
  generalize upl p 7 b = G at *
  obtain ⟨hil, hie⟩ := List.getElem?_eq_some_iff.1 hF
  obtain ⟨hkl, hke⟩ := List.getElem?_eq_some_iff.1 hG
  have eF : F.take (i + 1) = F.take i ++ [m] := by rw [List.take_succ_eq_append_getElem hil, hie]
  have eG : G.take (k + 1) = G.take k ++ [m] := by rw [List.take_succ_eq_append_getElem hkl, hke]
  have w1 : W p (F.take i ++ [m]) := by rw [← eF]; exact wF.sub [] (F.drop (i + 1)) (by simp)
  have w2 : W p (m :: (G.take k).reverse) := by
    have : W p (G.take (k + 1)) := wG.sub [] (G.drop (k + 1)) (by simp)
    rw [eG] at this
    have := this.rev
    simpa using this
  rw [eF, List.append_assoc]
  refine wk_is hp (w2.glue (F.take i) w1 ?_) ⟨?_, ?_⟩
  · intro u v hu hv huv
    subst huv
    obtain ⟨s, hs⟩ := last_split hu
    have hi0 : i = s.length + 1 := by
      have := congrArg List.length hs
      simp at this
      omega
    have : F[i - 1]? = some u := by
      have e : (F.take i)[i - 1]? = some u := by rw [hs, hi0]; simp
      rwa [List.getElem?_take, if_pos (by omega)] at e
    refine hno (i - 1) u (by omega) this ?_
    have := List.mem_of_head? hv
    rw [List.mem_reverse] at this
    exact List.mem_of_mem_take this
  · cases i with
    | zero =>
      cases F with
      | nil => simp at fh
      | cons x F => simp at fh hie ⊢; omega
    | succ i =>
      cases F with
      | nil => simp at fh
      | cons x F => simpa using fh
  · cases k with
    | zero =>
      cases G with
      | nil => simp at gh
      | cons x G => simp at gh hke ⊢; omega
    | succ k =>
      cases G with
      | nil => simp at gh
      | cons x G =>
        simp only [List.head?_cons, Option.some.injEq] at gh
        simp [gh, List.getLast?_append]
        rw [show m :: ((List.take k G).reverse ++ [b]) = (m :: (List.take k G).reverse) ++ [b] from rfl, List.getLast?_append]
        rfl
theorem path_no {a b : Int} (h : ¬ (IsTree p ∧ (0 ≤ a ∧ a < p.length) ∧ (0 ≤ b ∧ b < p.length))) : pathOf p a b = [] := by unfold pathOf; rw [if_neg h]
end Go.Proofs.Ytbofgpmbocjbiaa
