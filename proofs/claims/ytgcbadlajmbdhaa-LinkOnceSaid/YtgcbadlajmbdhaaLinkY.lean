/- What Open hands back lies apart from all that was there; rows of one text. -/
import Derived.Test.YtgcbadlajmbdhaaLinkX
import Derived.Test.YtgcbadlajmbdhaaRow
set_option linter.unusedSimpArgs false
set_option linter.unusedVariables false
namespace Go.Proofs.Ytgcbadlajmbdhaa
open Go.RowKit

theorem openY (w0 : World) (X : List Nat) (s lo n : Nat) (ds : List ByteArray) (w : World) (h : SndX w0 X w s lo ds) (hn : n = ds.length) (hb : n ≤ 4294967296) :
    Calls Try.prog 17 #[.pointer (some ⟨s, 0, none⟩)] w fun e w' => ∃ A c, e = .returned (.slice A n c) ∧ Row w' A n c lo ds ∧ Kept w w' ∧ ∀ ad, A = some ad → w.heap.size ≤ ad.block := by
  obtain ⟨G, h1, _⟩ := h
  subst hn
  refine (open_any s G lo ds w h1 hb).mono fun e w' ⟨v', he, hown, hk⟩ => ?_
  rcases hown.2 with ⟨rfl, h0⟩ | ⟨g, cap, cur, rfl, hbg, hg, hnc, _⟩
  · exact ⟨none, 0, by rw [he, h0], ⟨rfl, by omega, fun h => by omega⟩, hk, fun ad h => by cases h⟩
  · refine ⟨_, cap, he, ⟨rfl, hnc, fun h0 => ⟨g, rfl, (Array.getElem?_eq_some_iff.1 hg).1, fun i hi => ?_⟩⟩, hk, fun ad h => by injection h with h; subst h; exact hbg⟩
    have hp := pk_at lo ds i hi
    exact ⟨by rw [hown.cellAt (i * 2) (by omega), hp.1], by rw [hown.cellAt (i * 2 + 1) (by omega), hp.2]⟩
theorem Row.but {w w2 : World} {S : List Nat} {A : Option Addr} {n c lo : Nat} {ds : List ByteArray} (h : Row w A n c lo ds) (hb : But S w w2) (hn : ∀ ad, A = some ad → ad.block ∉ S) : Row w2 A n c lo ds :=
  ⟨h.1, h.2.1, fun h0 => by
    obtain ⟨g, h1, h2, h3⟩ := h.2.2 h0
    exact ⟨g, h1, Nat.lt_of_lt_of_le h2 hb.size, fun i hi => ⟨hb.at_ (h3 i hi).1 (by simpa using hn _ h1), hb.at_ (h3 i hi).2 (by simpa using hn _ h1)⟩⟩⟩

def zs (k : Nat) : List ByteArray := List.replicate k ⟨#[120]⟩
theorem zs_len (k : Nat) : (zs k).length = k := by simp [zs]
theorem zs_snoc (k : Nat) : zs k ++ [⟨#[120]⟩] = zs (k + 1) := by simp [zs, List.replicate_succ']
theorem zs_drop (k j : Nat) : (zs k).drop j = zs (k - j) := by simp [zs]
theorem zs_get (k j : Nat) (h : j < k) : (zs k)[j]?.getD ⟨#[]⟩ = ⟨#[120]⟩ := by simp [zs, h]
/-- .. of one text: its cells. -/
theorem Row.zsAt {w : World} {A : Option Addr} {n c lo : Nat} (h : Row w A n c lo (zs n)) (h0 : 0 < n) : ∃ g, A = some ⟨g, 0, none⟩ ∧ g < w.heap.size ∧ ∀ i, i < n → w.cell? ⟨g, i * 2, none⟩ = some (.int .i64 ((lo + i : Nat) : Int)) ∧ w.cell? ⟨g, i * 2 + 1, none⟩ = some (.string ⟨#[120]⟩) := by
  obtain ⟨g, h1, h2, h3⟩ := h.2.2 h0
  exact ⟨g, h1, h2, fun i hi => ⟨(h3 i hi).1, by rw [(h3 i hi).2, zs_get n i hi]⟩⟩
/-- A place in a row, out of any number. -/
theorem place_of (a : Int) (M : Nat) (h0 : 0 < M) (h1 : M ≤ 4294967296) : ∃ k : Nat, k < M ∧ (wrap64 (a.tmod (M : Int) + (M : Int))).tmod (M : Int) = (k : Int) := by
  obtain ⟨h2, h3⟩ := tmod_bd a (M : Int) (by omega)
  have h4 : wrap64 (a.tmod (M : Int) + (M : Int)) = a.tmod (M : Int) + (M : Int) := by unfold wrap64; omega
  rw [h4, Int.tmod_eq_emod_of_nonneg (by omega)]
  have h5 := Int.emod_nonneg (a.tmod (M : Int) + (M : Int)) (show (M : Int) ≠ 0 by omega)
  have h6 := Int.emod_lt_of_pos (a.tmod (M : Int) + (M : Int)) (show (0 : Int) < (M : Int) by omega)
  exact ⟨((a.tmod (M : Int) + (M : Int)) % (M : Int)).toNat, by omega, by omega⟩
end Go.Proofs.Ytgcbadlajmbdhaa
