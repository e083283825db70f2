/- Scripts of steps; sites by numbers; a pick's form. -/
import Derived.Test.YtbofgpmbocjbiaaMrkQ
import Derived.Test.YtbofgpmbocjbiaaRow
set_option linter.unusedSimpArgs false
set_option linter.unusedVariables false
namespace Go.Proofs.Ytbofgpmbocjbiaa
open Go.RowKit Go.ChangeShapes Go.WideShapes Go.Deep Go.Joins Go.Maps

structure OpV where
  kind : Int
  a : Int
  b : Int
  stops : Bool
  text : ByteArray
def opCells (x : OpV) : List Value := [.int .i64 x.kind, .int .i64 x.a, .int .i64 x.b, .bool x.stops, .string x.text]
def OpOk (x : OpV) : Prop := (Lit.int .i64 x.kind).wf = true ∧ (Lit.int .i64 x.a).wf = true ∧ (Lit.int .i64 x.b).wf = true
theorem cellsInt : Try.prog.cellsOf 3 = 1 := by kernel_rfl
theorem cellsString : Try.prog.cellsOf 9 = 1 := by kernel_rfl
theorem cellsBool : Try.prog.cellsOf 4 = 1 := by kernel_rfl
theorem trod_struct5 {H : Type} {enc : TypeId × Value → H} {P : Program} {w : World} {base : Nat} {spare : Nat → Bool} {held : Bool} {t : TypeId} {f0 f1 f2 f3 f4 : Field} {fuel : Nat} {cs : List Value} {x : DataW H × List MemPlace} (ht : P.underlying t = some (.struct #[f0, f1, f2, f3, f4])) (h : DataW.trod enc P w base spare held fuel t cs = some x) :
    ∃ y0 y1 y2 y3 y4 n, DataW.trod enc P w base spare held n f0.type ((cs.drop f0.offset).take (P.cellsOf f0.type)) = some y0 ∧
      DataW.trod enc P w base spare held n f1.type ((cs.drop f1.offset).take (P.cellsOf f1.type)) = some y1 ∧ DataW.trod enc P w base spare held n f2.type ((cs.drop f2.offset).take (P.cellsOf f2.type)) = some y2 ∧
      DataW.trod enc P w base spare held n f3.type ((cs.drop f3.offset).take (P.cellsOf f3.type)) = some y3 ∧ DataW.trod enc P w base spare held n f4.type ((cs.drop f4.offset).take (P.cellsOf f4.type)) = some y4 := by
  obtain ⟨xs, n, _, rfl, hl, hlen, hf⟩ := DataW.trod_struct ht h
  match xs, hlen with
  | [y0, y1, y2, y3, y4], _ => exact ⟨y0, y1, y2, y3, y4, n, by simpa using hf 0 f0 rfl, by simpa using hf 1 f1 rfl, by simpa using hf 2 f2 rfl, by simpa using hf 3 f3 rfl, by simpa using hf 4 f4 rfl⟩
theorem open_Op {H : Type} {enc : TypeId × Value → H} {w : World} {spare : Nat → Bool} {held : Bool} {a : Option Addr} {n c : Nat} {d : DataW H} {p : List MemPlace}
    (h : DataW.Trod enc Try.prog w 0 spare held 23 (.slice a n c) d p) : ∃ x : Nat → OpV, RowAt w a n c 5 (fun i => opCells (x i)) ∧ ∀ i, i < n → OpOk (x i) :=
  row_open Try.underlying23 (by kernel_rfl) (by omega) opCells OpOk ⟨0, 0, 0, false, ⟨#[]⟩⟩ (fun m cs y hl hy => by
    obtain ⟨y0, y1, y2, y3, y4, k, r0, r1, r2, r3, r4⟩ := trod_struct5 Try.underlying29 hy
    match cs, hl with
    | [v0, v1, v2, v3, v4], _ =>
      simp [cellsInt, cellsString, cellsBool] at r0 r1 r2 r3 r4
      obtain ⟨a0, e0, _, w0⟩ := DataW.trod_int Try.underlying3 r0
      obtain ⟨a1, e1, _, w1⟩ := DataW.trod_int Try.underlying3 r1
      obtain ⟨a2, e2, _, w2⟩ := DataW.trod_int Try.underlying3 r2
      obtain ⟨a3, e3, _⟩ := DataW.trod_bool Try.underlying4 r3
      obtain ⟨a4, e4, _⟩ := DataW.trod_string Try.underlying9 r4
      simp at e0 e1 e2 e3 e4
      exact ⟨⟨a0, a1, a2, a3, a4⟩, by simp [opCells, e0, e1, e2, e3, e4], w0, w1, w2⟩) h
theorem ops_at {w : World} {A : Option Addr} {n c : Nat} {x : Nat → OpV} (h : RowAt w A n c 5 (fun i => opCells (x i))) (h0 : 0 < n) :
    ∃ b off, A = some ⟨b, off, none⟩ ∧ b < w.heap.size ∧ ∀ i, i < n → w.cell? ⟨b, off + i * 5, none⟩ = some (.int .i64 (x i).kind) ∧ w.cell? ⟨b, off + i * 5 + 1, none⟩ = some (.int .i64 (x i).a) ∧ w.cell? ⟨b, off + i * 5 + 2, none⟩ = some (.int .i64 (x i).b) ∧ w.cell? ⟨b, off + i * 5 + 3, none⟩ = some (.bool (x i).stops) ∧ w.cell? ⟨b, off + i * 5 + 4, none⟩ = some (.string (x i).text) := by
  obtain ⟨b, off, h1, h2, h3⟩ := h.2.2.2 h0
  exact ⟨b, off, h1, h2, fun i hi => ⟨h3 i hi 0 _ rfl, h3 i hi 1 _ rfl, h3 i hi 2 _ rfl, h3 i hi 3 _ rfl, h3 i hi 4 _ rfl⟩⟩
/-- A site by a number. -/
theorem site_is (x : Int) (N : Nat) (h : 0 < N) : ∃ y : Nat, (x.tmod N + N).tmod N = y ∧ y < N := by
  have h1 := tmod_bd x N (by omega)
  have h2 := Int.tmod_nonneg (N : Int) (show 0 ≤ x.tmod N + N by omega)
  have h3 := Int.tmod_lt_of_pos (x.tmod N + N) (show (0 : Int) < N by omega)
  exact ⟨_, (Int.toNat_of_nonneg h2).symm, by omega⟩
theorem pickV_is (st : DSt) (a b : Int) : ∃ s m is, pickV st a b = .tuple #[.string s, .bool m, .bool is] ∧ (st.W (a, b) = [] → is = false) := by
  unfold pickV
  split
  · exact ⟨_, _, _, rfl, fun _ => rfl⟩
  · rename_i h; exact ⟨_, _, _, rfl, fun e => by rw [h] at e; cases e⟩
  · rename_i h; exact ⟨_, _, _, rfl, fun e => by rw [h] at e; cases e⟩
theorem gdn {N y : Nat} (h : y < N) (h6 : N ≤ 6) : gd (y : Int) := ⟨by omega, by omega⟩
end Go.Proofs.Ytbofgpmbocjbiaa
