/- The walk of the document's Path. -/
import Derived.Test.YtbofgpmbocjbiaaTreeP
set_option linter.unusedSimpArgs false
set_option linter.unusedVariables false
namespace Go.Proofs.Ytbofgpmbocjbiaa
open Go.RowKit

theorem upl_len (p : List Int) : ∀ (k x : Nat), (upl p k x).length ≤ k
  | 0, x => Nat.le_refl _
  | k + 1, x => by
    have := upl_len p k (pa p x).toNat
    unfold upl
    split <;> simp <;> omega
theorem natC_one (l : List Nat) : ∀ u ∈ natC l, u.oneCell' = true := by
  intro u hu
  simp only [natC, List.mem_map] at hu
  obtain ⟨x, _, rfl⟩ := hu
  rfl
theorem ints_get {l : List Nat} {i m : Nat} (h : l[i]? = some m) : (ints l)[i]?.getD (-2) = (m : Int) := by simp [ints, h]
theorem IntsAt.news {w : World} {b off n c : Nat} {l : List Nat} (h : IntsAt w (some ⟨b, off, none⟩) n c (ints l)) (k : Nat) : ∀ j u, (natC (l.take k))[j]? = some u → w.cell? ((⟨b, off, none⟩ : Addr).add j) = some u := by
  intro j u hu
  obtain ⟨h1, _, _, _, h5⟩ := h
  have hl : l.length = n := by simpa [ints] using h1
  have ht : l[j]? = (l.take k)[j]? ∧ j < l.length := by
    simp only [natC, List.getElem?_map] at hu
    rcases hx : (l.take k)[j]? with _ | x
    · rw [hx] at hu; simp at hu
    · have h2 := List.getElem?_eq_some_iff.1 hx
      obtain ⟨h3, h4⟩ := h2
      have : j < l.length := by have := h3; simp at this; omega
      refine ⟨?_, this⟩
      rw [List.getElem?_take] at hx
      split at hx
      · exact hx
      · cases hx
  obtain ⟨b', off', he, hc⟩ := h5 (by omega)
  cases he
  have ea : ((⟨b, off, none⟩ : Addr).add j) = ⟨b, off + j, none⟩ := by simp [Addr.add]
  rw [ea, hc j (by omega)]
  have hu2 : (natC l)[j]? = some u := by
    simp only [natC, List.getElem?_map] at hu ⊢
    rw [ht.1]; exact hu
  simp only [natC, List.getElem?_map, List.getElem?_eq_getElem ht.2, Option.map_some] at hu2
  rw [← hu2]
  simp [ints, List.getElem?_eq_getElem ht.2]

end Go.Proofs.Ytbofgpmbocjbiaa
