/- Rows of numbers that are fields of an argument. -/
import Derived.Test.YtahokiopapenbaaRow
import Derived.Test.YtahokiopapenbaaInts
set_option linter.unusedSimpArgs false
set_option linter.unusedVariables false
namespace Go.Proofs.Ytahokiopapenbaa
open Go.RowKit Go.ChangeShapes Go.WideShapes Go.Deep Go.Joins

theorem field_ints {H : Type} {enc : TypeId × Value → H} {P : Program} {w : World} {spare : Nat → Bool} {held : Bool} {m : Nat} {c : Value} {y : DataW H × List MemPlace} {t e : TypeId} {K : IntKind}
    (ht : P.underlying t = some (.slice e)) (he : P.underlying e = some (.int K)) (hc : P.cellsOf e = 1)
    (h : DataW.trod enc P w 0 spare held m t [c] = some y) : ∃ (a : Option Addr) (n cp : Nat) (x : Nat → Int), [c] = [Value.slice a n cp] ∧ RowAt w a n cp 1 (fun i => [.int K (x i)]) ∧ ∀ i, i < n → (Lit.int K (x i)).wf = true := by
  obtain ⟨d, p⟩ := y
  have key : ∃ (a : Option Addr) (n cp : Nat), c = .slice a n cp := by
    rcases open_slice ht h with ⟨hcs, _⟩ | ⟨ad, l, cp, m, f, D, Pl, hcs, _⟩
    · simp at hcs
      exact ⟨_, _, _, hcs⟩
    · simp at hcs
      exact ⟨_, _, _, hcs⟩
  obtain ⟨a, n, cp, rfl⟩ := key
  obtain ⟨x, h1, h2⟩ := ints_open ht he hc (a := a) (n := n) (c := cp) (d := d) (p := p) ⟨m, by simpa [Value.cells] using h⟩
  exact ⟨a, n, cp, x, rfl, h1, h2⟩
/-- The statement's row. -/
theorem IntsAt.of_row {w : World} {A : Option Addr} {n c : Nat} {x : Nat → Int} (h : RowAt w A n c 1 (fun i => [.int .i64 (x i)])) : IntsAt w A n c ((List.range n).map x) := by
  refine ⟨by simp, h.1, h.2.1, h.2.2.1, fun h0 => ?_⟩
  obtain ⟨b, off, h1, _, h2⟩ := RowAt.one h h0
  exact ⟨b, off, h1, fun i hi => by rw [h2 i hi]; simp [List.getElem?_map, List.getElem?_range hi]⟩
end Go.Proofs.Ytahokiopapenbaa
