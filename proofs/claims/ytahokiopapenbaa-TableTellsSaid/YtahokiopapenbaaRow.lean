/- Rows (slices) that came in as arguments, read as functions of the place. -/
import Derived.Test.YtahokiopapenbaaKit
import Derived.ProofKit
import Derived.OpenShut
import Derived.Deep.SlicePairs
import Derived.Lib.SmallJoins
set_option linter.unusedSimpArgs false
set_option linter.unusedVariables false
namespace Go.Proofs.Ytahokiopapenbaa
open Go.RowKit Go.ChangeShapes Go.WideShapes Go.Deep Go.Joins

/-- A row of n elements of k cells each: element i's cells are V i. -/
def RowAt (w : World) (A : Option Addr) (n c k : Nat) (V : Nat → List Value) : Prop :=
  n ≤ c ∧ c ≤ maxLen ∧ (A = none → n = 0 ∧ c = 0) ∧ (0 < n → ∃ b off, A = some ⟨b, off, none⟩ ∧ b < w.heap.size ∧ ∀ i, i < n → ∀ j u, (V i)[j]? = some u → w.cell? ⟨b, off + i * k + j, none⟩ = some u)
theorem RowAt.kept {w w2 : World} {A : Option Addr} {n c k : Nat} {V : Nat → List Value} (h : RowAt w A n c k V) (hk : Kept w w2) : RowAt w2 A n c k V :=
  ⟨h.1, h.2.1, h.2.2.1, fun h0 => by obtain ⟨b, off, h1, h2, h3⟩ := h.2.2.2 h0; exact ⟨b, off, h1, Nat.lt_of_lt_of_le h2 hk.size, fun i hi j u hu => hk.at_ (h3 i hi j u hu)⟩⟩

theorem row_open {H : Type} {enc : TypeId × Value → H} {P : Program} {w : World} {spare : Nat → Bool} {held : Bool} {a : Option Addr} {n c k : Nat} {d : DataW H} {p : List MemPlace} {t e : TypeId} {α : Type}
    (ht : P.underlying t = some (.slice e)) (hc : P.cellsOf e = k) (hk : 0 < k) (mk : α → List Value) (q : α → Prop) (x0 : α)
    (leaf : ∀ m cs y, cs.length = k → DataW.trod enc P w 0 spare held m e cs = some y → ∃ x, cs = mk x ∧ q x)
    (h : DataW.Trod enc P w 0 spare held t (.slice a n c) d p) : ∃ x : Nat → α, RowAt w a n c k (fun i => mk (x i)) ∧ ∀ i, i < n → q (x i) := by
  obtain ⟨fuel, hf⟩ := h
  rcases open_slice ht hf with ⟨hcs, _⟩ | ⟨ad, l, cp, m, f, D, Pl, hcs, _, hl, hm, hmm, _, hi⟩
  · simp [Value.cells] at hcs
    obtain ⟨rfl, rfl, rfl⟩ := hcs
    exact ⟨fun _ => x0, ⟨Nat.le_refl _, by decide, fun _ => ⟨rfl, rfl⟩, fun h => absurd h (by omega)⟩, fun i hi => absurd hi (by omega)⟩
  · simp [Value.cells] at hcs
    obtain ⟨rfl, rfl, rfl⟩ := hcs
    have hnm : n ≤ m := by rw [hmm]; split <;> omega
    have each : ∀ i, i < n → ∃ x : α, q x ∧ ∀ j u, (mk x)[j]? = some u → w.cell? ((ad.add (i * k)).add j) = some u := by
      intro i hin
      obtain ⟨cs', h1, h2⟩ := hi i (by omega)
      rw [hc] at h1
      obtain ⟨_, hlen, hcell⟩ := World.cells?_some h1
      obtain ⟨x, hx, hq⟩ := leaf _ _ _ hlen h2
      refine ⟨x, hq, fun j u hu => ?_⟩
      rw [← hx] at hu
      have hj : j < cs'.length := (List.getElem?_eq_some_iff.1 hu).1
      rw [hcell j (by omega), hu]
    have : Nonempty α := ⟨x0⟩
    have := Classical.inhabited_of_nonempty this
    obtain ⟨x, hx⟩ := choose_lt each
    refine ⟨x, ⟨hl, hm, (fun h => by cases h), fun h0 => ?_⟩, fun i hin => (hx i hin).1⟩
    obtain ⟨b, off, spot⟩ := ad
    obtain ⟨_, hq0⟩ := hx 0 h0
    obtain ⟨cs0, g1, g2⟩ := hi 0 (by omega)
    rw [hc] at g1
    obtain ⟨_, hlen, hcell⟩ := World.cells?_some g1
    have hc0 := hcell 0 hk
    rw [List.getElem?_eq_getElem (by omega)] at hc0
    have hspot : spot = none := by simpa [Addr.add] using World.cell?_spot hc0
    subst hspot
    have ea : ∀ o j, ((⟨b, o, none⟩ : Addr).add j) = ⟨b, o + j, none⟩ := fun o j => by simp [Addr.add]
    refine ⟨b, off, rfl, ?_, fun i hin j u hu => ?_⟩
    · have := World.block_lt_of_cell? w _ hc0
      simpa [ea] using this
    · have := (hx i hin).2 j u hu
      rw [ea, ea] at this
      exact this

theorem ints_open {H : Type} {enc : TypeId × Value → H} {P : Program} {w : World} {spare : Nat → Bool} {held : Bool} {a : Option Addr} {n c : Nat} {d : DataW H} {p : List MemPlace} {t e : TypeId} {K : IntKind}
    (ht : P.underlying t = some (.slice e)) (he : P.underlying e = some (.int K)) (hc : P.cellsOf e = 1)
    (h : DataW.Trod enc P w 0 spare held t (.slice a n c) d p) : ∃ x : Nat → Int, RowAt w a n c 1 (fun i => [.int K (x i)]) ∧ ∀ i, i < n → (Lit.int K (x i)).wf = true :=
  row_open ht hc (by omega) (fun x => [.int K x]) (fun x => (Lit.int K x).wf = true) 0 (fun m cs y _ hy => by
    obtain ⟨z, rfl, _, hw⟩ := DataW.trod_int he hy
    exact ⟨z, rfl, hw⟩) h
theorem strings_open {H : Type} {enc : TypeId × Value → H} {P : Program} {w : World} {spare : Nat → Bool} {held : Bool} {a : Option Addr} {n c : Nat} {d : DataW H} {p : List MemPlace} {t e : TypeId}
    (ht : P.underlying t = some (.slice e)) (he : P.underlying e = some .string) (hc : P.cellsOf e = 1)
    (h : DataW.Trod enc P w 0 spare held t (.slice a n c) d p) : ∃ x : Nat → ByteArray, RowAt w a n c 1 (fun i => [.string (x i)]) ∧ ∀ i, i < n → (x i).size ≤ maxLen :=
  row_open ht hc (by omega) (fun x => [.string x]) (fun x => x.size ≤ maxLen) ⟨#[]⟩ (fun m cs y _ hy => by
    obtain ⟨z, rfl, _, hw⟩ := DataW.trod_string he hy
    exact ⟨z, rfl, hw⟩) h
theorem RowAt.one {w : World} {A : Option Addr} {n c : Nat} {f : Nat → Value} (h : RowAt w A n c 1 (fun i => [f i])) (h0 : 0 < n) :
    ∃ b off, A = some ⟨b, off, none⟩ ∧ b < w.heap.size ∧ ∀ i, i < n → w.cell? ⟨b, off + i, none⟩ = some (f i) := by
  obtain ⟨b, off, h1, h2, h3⟩ := h.2.2.2 h0
  exact ⟨b, off, h1, h2, fun i hi => by simpa using h3 i hi 0 _ rfl⟩
end Go.Proofs.Ytahokiopapenbaa
