/- Small arrays in a cell block. -/
import Derived.Test.YtjmfdacokdffiaaRouL
import Derived.Test.YtjmfdacokdffiaaRouI
set_option linter.unusedSimpArgs false
set_option linter.unusedVariables false
namespace Go.Proofs.Ytjmfdacokdffiaa
open Go.RowKit

/-- An array of six, in its own block. -/
structure Arr6 (w0 : World) (Q : Nat) (w : World) (F : Nat → Value) : Prop where
  kept : Kept w0 w
  cells : ∀ k, k < 6 → w.cell? ⟨Q, k, none⟩ = some (F k)
  frz : ∀ k, w.frozen? ⟨Q, k, none⟩ = false
  out : ∀ k, 6 ≤ k → w.cell? ⟨Q, k, none⟩ = none
theorem Arr6.lt {w0 w : World} {Q : Nat} {F : Nat → Value} (h : Arr6 w0 Q w F) : Q < w.heap.size := World.block_lt_of_cell? w _ (h.cells 0 (by omega))
theorem Arr6.keep {w0 w w2 : World} {Q : Nat} {F : Nat → Value} (h : Arr6 w0 Q w F) (hk : Kept w w2) : Arr6 w0 Q w2 F :=
  ⟨h.kept.call hk, fun k hk6 => hk.at_ (h.cells k hk6), fun k => by rw [hk.frozen Q k h.lt]; exact h.frz k, fun k h6 => by rw [hk.cell Q k h.lt]; exact h.out k h6⟩
theorem Arr6.put {w0 w : World} {Q : Nat} {F : Nat → Value} (h : Arr6 w0 Q w F) (hQ : w0.heap.size ≤ Q) {i : Nat} (hi : i < 6) (v : Value) : Arr6 w0 Q (w.setCell ⟨Q, i, none⟩ v) (fun k => if k = i then v else F k) := by
  refine ⟨h.kept.setCell hQ _, fun k hk => ?_, fun k => by rw [World.frozen?_setCell]; exact h.frz k, fun k h6 => ?_⟩
  · by_cases e : k = i
    · subst e
      rw [World.cell?_setCell_same _ _ _ (h.cells _ hk), if_pos rfl]
    · rw [World.cell?_setCell_other _ _ _ _ (by intro g; cases g; exact e rfl), if_neg e]
      exact h.cells k hk
  · rw [World.cell?_setCell_other _ _ _ _ (by intro g; cases g; omega)]
    exact h.out k h6
theorem Arr6.new (w : World) (xs : List Value) (t : TypeId) (h : xs.length = 6) {F : Nat → Value} (hF : ∀ k, k < 6 → xs[k]? = some (F k)) : Arr6 w w.heap.size (w.alloc (.cells xs.toArray t)) F := by
  have hg : (w.alloc (.cells xs.toArray t)).heap[w.heap.size]? = some (.cells xs.toArray t) := heap_alloc_new _ _
  refine ⟨(Kept.refl w).alloc _, fun k hk => ?_, fun k => frozen_of_row _ _ k _ _ hg, fun k h6 => ?_⟩
  · rw [cell_of_row _ _ k _ _ (0, 0) hg, List.getElem?_toArray]
    exact hF k hk
  · rw [cell_of_row _ _ k _ _ (0, 0) hg]
    exact Array.getElem?_eq_none (by simpa [h] using h6)
theorem Arr6.one (w : World) (u v : Value) (t : TypeId) {i : Nat} (hi : i < 6) : Arr6 w w.heap.size (w.alloc (.cells ([u, u, u, u, u, u].set i v).toArray t)) (fun k => if k = i then v else u) := by
  refine Arr6.new w _ t (by simp) fun k hk => ?_
  rw [List.getElem?_set]
  by_cases e : i = k
  · subst e
    simp [hi]
  · rw [if_neg e, if_neg (fun g => e g.symm)]
    rcases k with _ | _ | _ | _ | _ | _ | k
    all_goals first | rfl | omega
/-- A row of numbers does not lie in an array of others. -/
theorem Arr6.apart {w0 w : World} {Q : Nat} {F : Nat → Value} (h : Arr6 w0 Q w F) {b off : Nat} {x : Int} (hc : w.cell? ⟨b, off, none⟩ = some (.int .i64 x)) (hF : ∀ k, ∃ B, F k = .bool B) : b ≠ Q := by
  rintro rfl
  rcases Nat.lt_or_ge off 6 with g | g
  · rw [h.cells off g] at hc
    obtain ⟨B, hB⟩ := hF off
    rw [hB] at hc
    cases hc
  · rw [h.out off g] at hc
    cases hc
/-- A row of numbers, where only one block turns. -/
theorem IntsAt.but2 {w w2 : World} {A : Option Addr} {n c Q : Nat} {xs : List Int} (h : IntsAt w A n c xs) (hb : But [Q] w w2) (hn : ∀ b off, A = some ⟨b, off, none⟩ → 0 < n → b ≠ Q) : IntsAt w2 A n c xs := by
  obtain ⟨h1, h2, h3, h4, h5⟩ := h
  refine ⟨h1, h2, h3, h4, fun h0 => ?_⟩
  obtain ⟨b, off, e, hc⟩ := h5 h0
  exact ⟨b, off, e, fun i hi => hb.at_ (hc i hi) (by simpa using hn b off e h0)⟩
end Go.Proofs.Ytjmfdacokdffiaa
