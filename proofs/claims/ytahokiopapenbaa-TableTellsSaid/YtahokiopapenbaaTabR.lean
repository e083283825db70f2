/- Rows of ranges that a call owns. -/
import Derived.Test.YtahokiopapenbaaTabT
set_option linter.unusedSimpArgs false
set_option linter.unusedVariables false
namespace Go.Proofs.Ytahokiopapenbaa
open Go.RowKit

def rgC (rs : List Rg) : List Value := rs.flatMap fun r => [.string r.1, .string r.2]
theorem rgC_len : ∀ rs : List Rg, (rgC rs).length = rs.length * 2
  | [] => rfl
  | r :: t => by
    have := rgC_len t
    unfold rgC at this ⊢
    rw [List.flatMap_cons, List.length_append, this]
    simp
    omega
theorem rgC_snoc (rs : List Rg) (r : Rg) : rgC rs ++ [.string r.1, .string r.2] = rgC (rs ++ [r]) := by simp [rgC]
theorem rgC_at : ∀ (rs : List Rg) (i : Nat), i < rs.length → (rgC rs)[i * 2]? = some (.string (rg rs i).1) ∧ (rgC rs)[i * 2 + 1]? = some (.string (rg rs i).2)
  | [], _, h => by simp at h
  | r :: t, 0, _ => by simp [rgC, rg]
  | r :: t, i + 1, h => by
    have := rgC_at t i (by simpa using h)
    have e : rgC (r :: t) = .string r.1 :: .string r.2 :: rgC t := by simp [rgC]
    rw [e, show (i + 1) * 2 = i * 2 + 1 + 1 by omega]
    simpa [rg] using this
theorem RowS.of_own {w : World} {base e : Nat} {v : Value} {n : Nat} {rs : List Rg} (h : w.ownsRow base e 2 v n (rgC rs)) : ∃ A c, v = .slice A n c ∧ RowS w A n c rs := by
  have hl : rs.length = n := by have := h.1; rw [rgC_len] at this; omega
  rcases h.2 with ⟨rfl, h0⟩ | ⟨g, cap, cur, rfl, hb, hg, h1, h2, h3, h4⟩
  · exact ⟨none, 0, by rw [h0], hl, by omega, by unfold maxLen; omega, fun _ => ⟨h0, rfl⟩, fun h => by omega⟩
  · refine ⟨_, cap, rfl, hl, h1, h2, (fun h => by cases h), fun h0 => ⟨g, 0, rfl, fun i hi => ?_⟩⟩
    obtain ⟨e1, e2⟩ := rgC_at rs i (by omega)
    rw [Nat.zero_add, h.cellAt (i * 2) (by omega), h.cellAt (i * 2 + 1) (by omega)]
    exact ⟨e1, e2⟩
theorem cells_two (w : World) (a b : Value) (t : TypeId) : ∀ (j : Nat) (u : Value), [a, b][j]? = some u → (w.alloc (.cells #[a, b] t)).cell? ((⟨w.heap.size, 0, none⟩ : Addr).add j) = some u := by
  intro j u hu
  have hg : (w.alloc (.cells #[a, b] t)).heap[w.heap.size]? = some (.cells #[a, b] t) := heap_alloc_new _ _
  have e : ((⟨w.heap.size, 0, none⟩ : Addr).add j) = ⟨w.heap.size, j, none⟩ := by unfold Addr.add; split <;> simp_all
  rw [e, cell_of_row _ _ j _ _ (0, 0) hg]
  rcases j with _ | _ | j <;> simp at hu ⊢ <;> exact hu
theorem infoRg : (Try.prog.info? 35).map (fun i => (i.zero, i.size, i.bytes)) = some (some (.agg #[.string ⟨#[]⟩, .string ⟨#[]⟩]), 2, 32) := by kernel_rfl
end Go.Proofs.Ytahokiopapenbaa
