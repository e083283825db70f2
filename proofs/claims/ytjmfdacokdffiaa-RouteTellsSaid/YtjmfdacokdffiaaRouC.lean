/- Where labels go, in plain Lean: the open list. -/
import Derived.Test.YtjmfdacokdffiaaRouB
set_option linter.unusedSimpArgs false
set_option linter.unusedVariables false
namespace Go.Proofs.Ytjmfdacokdffiaa
open Go.RowKit

/-- The sites that a label goes to that is at a, and came from c. -/
noncomputable def nxt (ps : List Int) (n : Nat) (o : Int) (c a : Int) : List Nat := keepL (delB ps n a c o) (nearOf ps a)
abbrev Pr := Int × Int
/-- The open list, i of its entries gone through. -/
def qs (N : Int → Int → List Nat) (f : Int) : Nat → List Pr
  | 0 => [(-1, f)]
  | i + 1 => qs N f i ++ match (qs N f i)[i]? with
    | none => []
    | some x => (N x.1 x.2).map fun s => (x.2, ((s : Nat) : Int))
theorem qs_step {N : Int → Int → List Nat} {f : Int} {i : Nat} {c a : Int} (h : (qs N f i)[i]? = some (c, a)) : qs N f (i + 1) = qs N f i ++ (N c a).map fun s => (a, ((s : Nat) : Int)) := by
  rw [qs, h]
theorem qs_stop {N : Int → Int → List Nat} {f : Int} {i : Nat} (h : (qs N f i).length ≤ i) : qs N f (i + 1) = qs N f i := by
  rw [qs, List.getElem?_eq_none h]; simp
theorem qs_stay {N : Int → Int → List Nat} {f : Int} {i : Nat} (h : (qs N f i).length ≤ i) : ∀ k, i ≤ k → qs N f k = qs N f i := by
  intro k hk
  obtain ⟨d, rfl⟩ : ∃ d, k = i + d := ⟨k - i, by omega⟩
  induction d with
  | zero => rfl
  | succ d ih =>
    have := ih (by omega)
    rw [← Nat.add_assoc, qs_stop (by rw [this]; omega), this]
theorem qs_pos (N : Int → Int → List Nat) (f : Int) : ∀ i, ∃ t, qs N f i = (-1, f) :: t
  | 0 => ⟨[], rfl⟩
  | i + 1 => by
    obtain ⟨t, ht⟩ := qs_pos N f i
    rw [qs, ht]
    exact ⟨_, List.cons_append⟩
/-- The open list stands in 7 entries. -/
def Small (N : Int → Int → List Nat) (f : Int) : Prop := ∀ i, (qs N f i).length ≤ 7
/-- All that was gone through. -/
def allQ (N : Int → Int → List Nat) (f : Int) : List Pr := qs N f 7
theorem qs_end {N : Int → Int → List Nat} {f : Int} (hs : Small N f) {i : Nat} (h : (qs N f i).length ≤ i) : qs N f i = allQ N f := by
  rcases Nat.le_total i 7 with g | g
  · exact (qs_stay h 7 g).symm
  · exact qs_stay (hs 7) i g

def prC (l : List Pr) : List Value := l.flatMap fun r => [.int .i64 r.1, .int .i64 r.2]
def prA (l : List Pr) (i : Nat) : Pr := l[i]?.getD (-2, -2)
theorem prC_len : ∀ l : List Pr, (prC l).length = l.length * 2
  | [] => rfl
  | r :: t => by
    have := prC_len t
    unfold prC at this ⊢
    rw [List.flatMap_cons, List.length_append, this]
    simp
    omega
theorem prC_snoc (l : List Pr) (r : Pr) : prC l ++ [.int .i64 r.1, .int .i64 r.2] = prC (l ++ [r]) := by simp [prC]
theorem prC_at : ∀ (l : List Pr) (i : Nat), i < l.length → (prC l)[i * 2]? = some (.int .i64 (prA l i).1) ∧ (prC l)[i * 2 + 1]? = some (.int .i64 (prA l i).2)
  | [], _, h => by simp at h
  | r :: t, 0, _ => by simp [prC, prA]
  | r :: t, i + 1, h => by
    have := prC_at t i (by simpa using h)
    have e : prC (r :: t) = .int .i64 r.1 :: .int .i64 r.2 :: prC t := by simp [prC]
    rw [e, show (i + 1) * 2 = i * 2 + 1 + 1 by omega]
    simpa [prA] using this
/-- A row of pairs in memory. -/
def PrsAt (w : World) (A : Option Addr) (n c : Nat) (l : List Pr) : Prop :=
  l.length = n ∧ n ≤ c ∧ c ≤ maxLen ∧ (A = none → n = 0 ∧ c = 0) ∧ (0 < n → ∃ b off, A = some ⟨b, off, none⟩ ∧ ∀ i, i < n → w.cell? ⟨b, off + i * 2, none⟩ = some (.int .i64 (prA l i).1) ∧ w.cell? ⟨b, off + i * 2 + 1, none⟩ = some (.int .i64 (prA l i).2))
theorem PrsAt.keep {w w2 : World} {A : Option Addr} {n c : Nat} {l : List Pr} (h : PrsAt w A n c l) (hk : Kept w w2) : PrsAt w2 A n c l := by
  refine ⟨h.1, h.2.1, h.2.2.1, h.2.2.2.1, fun h0 => ?_⟩
  obtain ⟨b, off, e, hc⟩ := h.2.2.2.2 h0
  exact ⟨b, off, e, fun i hi => ⟨hk.at_ (hc i hi).1, hk.at_ (hc i hi).2⟩⟩
theorem PrsAt.of_own {w : World} {base e : Nat} {v : Value} {n : Nat} {l : List Pr} (h : w.ownsRow base e 2 v n (prC l)) : ∃ A c, v = .slice A n c ∧ PrsAt w A n c l := by
  have hl : l.length = n := by have := h.1; rw [prC_len] at this; omega
  rcases h.2 with ⟨rfl, h0⟩ | ⟨g, cap, cur, rfl, hb, hg, h1, h2, h3, h4⟩
  · exact ⟨none, 0, by rw [h0], hl, by omega, by unfold maxLen; omega, fun _ => ⟨h0, rfl⟩, fun h => by omega⟩
  · refine ⟨_, cap, rfl, hl, h1, h2, (fun h => by cases h), fun h0 => ⟨g, 0, rfl, fun i hi => ?_⟩⟩
    obtain ⟨e1, e2⟩ := prC_at l i (by omega)
    rw [Nat.zero_add, h.cellAt (i * 2) (by omega), h.cellAt (i * 2 + 1) (by omega)]
    exact ⟨e1, e2⟩
theorem infoPr : (Try.prog.info? 34).map (fun i => (i.zero, i.size, i.bytes)) = some (some (.agg #[.int .i64 0, .int .i64 0]), 2, 16) := by kernel_rfl
theorem tail_app {N : Int → Int → List Nat} {f : Int} (i : Nat) (l : List Pr) : (qs N f i ++ l).tail = (qs N f i).tail ++ l := by
  obtain ⟨t, ht⟩ := qs_pos N f i
  rw [ht]; rfl
end Go.Proofs.Ytjmfdacokdffiaa
