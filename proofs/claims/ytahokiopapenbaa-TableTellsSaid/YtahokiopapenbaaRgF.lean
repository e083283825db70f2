/- Rows of ranges that are fields of an argument. -/
import Derived.Test.YtahokiopapenbaaFld
import Derived.Test.YtahokiopapenbaaTabZ
import Derived.ChangeSame
set_option linter.unusedSimpArgs false
set_option linter.unusedVariables false
namespace Go.Proofs.Ytahokiopapenbaa
open Go.RowKit Go.ChangeShapes Go.WideShapes Go.Deep Go.Joins

theorem cellsStringR : Try.prog.cellsOf 9 = 1 := by kernel_rfl
def rgCells (x : Rg) : List Value := [.string x.1, .string x.2]
theorem open_rgs {H : Type} {enc : TypeId × Value → H} {w : World} {spare : Nat → Bool} {held : Bool} {a : Option Addr} {n c : Nat} {d : DataW H} {p : List MemPlace}
    (h : DataW.Trod enc Try.prog w 0 spare held 29 (.slice a n c) d p) : ∃ x : Nat → Rg, RowAt w a n c 2 (fun i => rgCells (x i)) ∧ ∀ i, i < n → True :=
  row_open Try.underlying29 (by kernel_rfl) (by omega) rgCells (fun _ => True) (⟨#[]⟩, ⟨#[]⟩) (fun m cs y hl hy => by
    obtain ⟨y0, y1, k, _, _, r0, r1⟩ := trod_struct2 Try.underlying35 hy
    match cs, hl with
    | [v0, v1], _ =>
      simp [cellsStringR] at r0 r1
      obtain ⟨a0, e0, _⟩ := DataW.trod_string Try.underlying9 r0
      obtain ⟨a1, e1, _⟩ := DataW.trod_string Try.underlying9 r1
      simp at e0 e1
      exact ⟨(a0, a1), by simp [rgCells, e0, e1], trivial⟩) h
theorem field_rgs {H : Type} {enc : TypeId × Value → H} {w : World} {spare : Nat → Bool} {held : Bool} {m : Nat} {c : Value} {y : DataW H × List MemPlace}
    (h : DataW.trod enc Try.prog w 0 spare held m 29 [c] = some y) : ∃ (a : Option Addr) (n cp : Nat) (x : Nat → Rg), [c] = [Value.slice a n cp] ∧ RowAt w a n cp 2 (fun i => rgCells (x i)) ∧ ∀ i, i < n → True := by
  obtain ⟨d, p⟩ := y
  have key : ∃ (a : Option Addr) (n cp : Nat), c = .slice a n cp := by
    rcases open_slice Try.underlying29 h with ⟨hcs, _⟩ | ⟨ad, l, cp, m, f, D, Pl, hcs, _⟩
    · simp at hcs
      exact ⟨_, _, _, hcs⟩
    · simp at hcs
      exact ⟨_, _, _, hcs⟩
  obtain ⟨a, n, cp, rfl⟩ := key
  obtain ⟨x, h1, h2⟩ := open_rgs (a := a) (n := n) (c := cp) (d := d) (p := p) ⟨m, by simpa [Value.cells] using h⟩
  exact ⟨a, n, cp, x, rfl, h1, h2⟩
theorem RowS.of_row {w : World} {A : Option Addr} {n c : Nat} {x : Nat → Rg} (h : RowAt w A n c 2 (fun i => rgCells (x i))) : RowS w A n c ((List.range n).map x) := by
  refine ⟨by simp, h.1, h.2.1, h.2.2.1, fun h0 => ?_⟩
  obtain ⟨b, off, h1, _, h2⟩ := h.2.2.2 h0
  refine ⟨b, off, h1, fun i hi => ?_⟩
  have e : rg ((List.range n).map x) i = x i := by
    unfold rg
    simp [List.getElem?_map, List.getElem?_range hi]
  rw [e]
  exact ⟨h2 i hi 0 _ rfl, h2 i hi 1 _ rfl⟩
end Go.Proofs.Ytahokiopapenbaa
