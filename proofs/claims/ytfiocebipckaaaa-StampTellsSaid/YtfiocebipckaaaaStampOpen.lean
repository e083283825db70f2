/- A row of stamps that came in as an argument, read as a list. -/
import Derived.Test.YtfiocebipckaaaaStampMaxF
import Derived.ProofKit
import Derived.OpenShut
import Derived.Deep.SlicePairs
set_option linter.unusedSimpArgs false
set_option linter.unusedVariables false
namespace Go.Proofs.Ytfiocebipckaaaa
open Go.RowKit Go.ChangeShapes Go.WideShapes Go.Deep

theorem cells24 : Try.prog.cellsOf 24 = 2 := by kernel_rfl
theorem cells3 : Try.prog.cellsOf 3 = 1 := by kernel_rfl

theorem stamps_open {H : Type} {enc : TypeId × Value → H} {w : World} {spare : Nat → Bool} {held : Bool} {a : Option Addr} {n c : Nat} {d : DataW H} {p : List MemPlace}
    (h : DataW.Trod enc Try.prog w 0 spare held 33 (.slice a n c) d p) :
    ∃ xs, StampsAt w a n xs ∧ (a = none → c = 0) ∧ n ≤ c ∧ ∀ x ∈ xs, (Lit.int .i64 x.1).wf = true ∧ (Lit.int .i64 x.2).wf = true := by
  obtain ⟨fuel, hf⟩ := h
  rcases open_slice_pairs Try.underlying33 Try.underlying24 cells24 rfl rfl cells3 cells3 hf with ⟨hcs, _⟩ | ⟨x, l, cp, m, k, V0, V1, D0, D1, P0, P1, hcs, _, hl, hm, hmm, _, hi⟩
  · simp [Value.cells] at hcs
    obtain ⟨rfl, rfl, rfl⟩ := hcs
    exact ⟨[], ⟨rfl, by decide, fun h => absurd h (by omega)⟩, fun _ => rfl, Nat.le_refl _, fun x hx => by cases hx⟩
  · simp [Value.cells] at hcs
    obtain ⟨rfl, rfl, rfl⟩ := hcs
    have hnm : n ≤ m := by rw [hmm]; split <;> omega
    have each : ∀ i, i < n → ∃ q : Int × Int, w.cell? (x.add (i * 2)) = some (.int .i64 q.1) ∧ w.cell? (x.add (i * 2 + 1)) = some (.int .i64 q.2) ∧ (Lit.int .i64 q.1).wf = true ∧ (Lit.int .i64 q.2).wf = true := by
      intro i hin
      obtain ⟨e0, e1, r0, r1⟩ := hi i (by omega)
      obtain ⟨a0, g0, _, w0⟩ := DataW.trod_int Try.underlying3 r0
      obtain ⟨a1, g1, _, w1⟩ := DataW.trod_int Try.underlying3 r1
      simp at g0 g1
      rw [g0] at e0; rw [g1] at e1
      exact ⟨(a0, a1), e0, e1, w0, w1⟩
    obtain ⟨q, hq⟩ := choose_lt each
    refine ⟨(List.range n).map q, ⟨by simp, by omega, fun h0 => ?_⟩, (fun h => by cases h), hl, fun y hy => ?_⟩
    · obtain ⟨b, off, spot⟩ := x
      have hspot : spot = none := by
        have := (hq 0 h0).1
        simpa [Addr.add] using World.cell?_spot this
      subst hspot
      refine ⟨b, off, rfl, fun i hin => ?_⟩
      have := hq i hin
      have ea : ∀ j, ((⟨b, off, none⟩ : Addr).add j) = ⟨b, off + j, none⟩ := fun j => by simp [Addr.add]
      rw [ea, ea] at this
      simp only [List.getElem?_map, List.getElem?_range hin, Option.map_some, Option.getD_some]
      exact ⟨this.1, this.2.1⟩
    · obtain ⟨i, hir, rfl⟩ := List.mem_map.1 hy
      have := hq i (List.mem_range.1 hir)
      exact ⟨this.2.2.1, this.2.2.2⟩
end Go.Proofs.Ytfiocebipckaaaa
