/- Walks, sides and near ones, in plain Lean (as in XTreeTwo, XTreeSides; for seats without these). -/
import Derived.Test.YtbofgpmbocjbiaaTreeS
set_option linter.unusedSimpArgs false
set_option linter.unusedVariables false
namespace Go.Proofs.Ytbofgpmbocjbiaa
open Go.RowKit

theorem path_wk2 {p : List Int} (hp : IsTree p) {a b : Nat} (ha : a < p.length) (hb : b < p.length) : pathOf p a b = wk p a b := by
  unfold pathOf
  rw [if_pos ⟨hp, ⟨by omega, by omega⟩, by omega, by omega⟩, Int.toNat_natCast, Int.toNat_natCast]
theorem first_iff {p : List Int} (hp : IsTree p) {a i : Nat} (b : Nat) (ha : a < p.length) (hi : i < p.length) : firstIs p a b i = true ↔ (wk p a i)[1]? = some b := by
  unfold firstIs
  rw [path_wk2 hp ha hi]
  cases h : (wk p a i)[1]? with
  | none => simp
  | some x => simp; omega
theorem wk_self {p : List Int} (hp : IsTree p) {a : Nat} (ha : a < p.length) : wk p a a = [a] := wk_is hp (W.one ha) ⟨rfl, rfl⟩
theorem wk_cons {p : List Int} (hp : IsTree p) {a b : Nat} (ha : a < p.length) (hb : b < p.length) : ∃ t, wk p a b = a :: t := by
  obtain ⟨_, h2, _⟩ := wk_spec hp ha hb
  cases h : wk p a b with
  | nil => rw [h] at h2; cases h2
  | cons u t => rw [h] at h2; obtain rfl : u = a := by simpa using h2
                exact ⟨t, rfl⟩
theorem first_self {p : List Int} (hp : IsTree p) {a : Nat} (b : Nat) (ha : a < p.length) : firstIs p a b a = false := by
  rw [Bool.eq_false_iff]
  intro h
  rw [first_iff hp b ha ha, wk_self hp ha] at h
  simp at h
theorem near_nodup (p : List Int) (a n : Nat) : (nearTo p a n).Nodup := List.Nodup.sublist List.filter_sublist List.nodup_range
theorem near_mem {p : List Int} {a n b : Nat} : b ∈ nearTo p a n ↔ b < n ∧ Nr p a b := by
  simp [nearTo, nearB, Nr]
theorem first_far {p : List Int} {a b : Int} {k : Nat} (h : p.length ≤ k) : firstIs p a b k = false := by
  unfold firstIs
  rw [path_no (fun g => by omega)]
  rfl
theorem wk_near {p : List Int} (hp : IsTree p) {a b : Nat} (ha : a < p.length) (hb : b < p.length) (hn : Nr p a b) : wk p a b = [a, b] := by
  refine wk_is hp ((W.one hb).cons ha hn (by simp)) ⟨rfl, rfl⟩
end Go.Proofs.Ytbofgpmbocjbiaa
