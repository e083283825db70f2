/- A script of steps, opened. -/
import Derived.Test.YtgcbadlajmbdhaaLinkP
set_option linter.unusedSimpArgs false
set_option linter.unusedVariables false
namespace Go.Proofs.Ytgcbadlajmbdhaa
open Go.RowKit Go.ChangeShapes Go.WideShapes Go.Deep Go.Joins

def opCells (x : Int × Int × Bool × ByteArray) : List Value := [.int .i64 x.1, .int .i64 x.2.1, .bool x.2.2.1, .string x.2.2.2]
theorem cellsInt : Try.prog.cellsOf 3 = 1 := by kernel_rfl
theorem cellsBool : Try.prog.cellsOf 4 = 1 := by kernel_rfl
theorem cellsString : Try.prog.cellsOf 9 = 1 := by kernel_rfl
theorem open_Op {H : Type} {enc : TypeId × Value → H} {w : World} {spare : Nat → Bool} {held : Bool} {a : Option Addr} {n c : Nat} {d : DataW H} {p : List MemPlace}
    (h : DataW.Trod enc Try.prog w 0 spare held 45 (.slice a n c) d p) : ∃ x : Nat → Int × Int × Bool × ByteArray, RowAt w a n c 4 (fun i => opCells (x i)) ∧ ∀ i, i < n → (Lit.int .i64 (x i).1).wf = true ∧ (Lit.int .i64 (x i).2.1).wf = true ∧ (x i).2.2.2.size ≤ maxLen :=
  row_open Try.underlying45 (by kernel_rfl) (by omega) opCells (fun x => (Lit.int .i64 x.1).wf = true ∧ (Lit.int .i64 x.2.1).wf = true ∧ x.2.2.2.size ≤ maxLen) (0, 0, false, ⟨#[]⟩) (fun m cs y hl hy => by
    obtain ⟨y0, y1, y2, y3, k, _, _, r0, r1, r2, r3⟩ := trod_struct4 Try.underlying54 hy
    match cs, hl with
    | [v0, v1, v2, v3], _ =>
      simp [cellsInt, cellsBool, cellsString] at r0 r1 r2 r3
      obtain ⟨a0, e0, _, w0⟩ := DataW.trod_int Try.underlying3 r0
      obtain ⟨a1, e1, _, w1⟩ := DataW.trod_int Try.underlying3 r1
      obtain ⟨a2, e2, _⟩ := DataW.trod_bool Try.underlying4 r2
      obtain ⟨a3, e3, _, w3⟩ := DataW.trod_string Try.underlying9 r3
      simp at e0 e1 e2 e3
      exact ⟨(a0, a1, a2, a3), by simp [opCells, e0, e1, e2, e3], w0, w1, w3⟩) h
theorem ops_at {w : World} {A : Option Addr} {n c : Nat} {x : Nat → Int × Int × Bool × ByteArray} (h : RowAt w A n c 4 (fun i => opCells (x i))) (h0 : 0 < n) :
    ∃ b off, A = some ⟨b, off, none⟩ ∧ b < w.heap.size ∧ ∀ i, i < n → w.cell? ⟨b, off + i * 4, none⟩ = some (.int .i64 (x i).1) ∧ w.cell? ⟨b, off + i * 4 + 1, none⟩ = some (.int .i64 (x i).2.1) ∧ w.cell? ⟨b, off + i * 4 + 2, none⟩ = some (.bool (x i).2.2.1) ∧ w.cell? ⟨b, off + i * 4 + 3, none⟩ = some (.string (x i).2.2.2) := by
  obtain ⟨b, off, h1, h2, h3⟩ := h.2.2.2 h0
  exact ⟨b, off, h1, h2, fun i hi => ⟨h3 i hi 0 _ rfl, h3 i hi 1 _ rfl, h3 i hi 2 _ rfl, h3 i hi 3 _ rfl⟩⟩
theorem four_cells {t : TypeId} {w : World} {g : Nat} {a b c d : Value} (h : w.heap[g]? = some (.cells #[a, b, c, d] t (0, 0))) : w.cell? ⟨g, 0, none⟩ = some a ∧ w.cell? ⟨g, 1, none⟩ = some b ∧ w.cell? ⟨g, 2, none⟩ = some c ∧ w.cell? ⟨g, 3, none⟩ = some d :=
  ⟨cellOf h 0, cellOf h 1, cellOf h 2, cellOf h 3⟩
end Go.Proofs.Ytgcbadlajmbdhaa
