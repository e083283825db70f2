/- The link's contracts as a law uses them: w0 the world in which the law began, X blocks that the sender does not touch. -/
import Derived.Test.YtbofoafcglmboaaLinkW
set_option linter.unusedSimpArgs false
set_option linter.unusedVariables false
namespace Go.Proofs.Ytbofoafcglmboaa
open Go.RowKit

/-- A sender of the law's own, apart from the blocks X. -/
def SndX (w0 : World) (X : List Nat) (w : World) (s lo : Nat) (ds : List ByteArray) : Prop :=
  ∃ G, Snd w s G lo ds ∧ w0.heap.size ≤ s ∧ (∀ g ∈ G.toList, w0.heap.size ≤ g) ∧ ∀ x ∈ X, x < w.heap.size ∧ x ≠ s ∧ x ∉ G.toList
theorem SndX.kept {w0 w w2 : World} {X : List Nat} {s lo : Nat} {ds : List ByteArray} (h : SndX w0 X w s lo ds) (hk : Kept w w2) : SndX w0 X w2 s lo ds := by
  obtain ⟨G, h1, h2, h3, h4⟩ := h
  exact ⟨G, h1.kept hk, h2, h3, fun x hx => ⟨Nat.lt_of_lt_of_le (h4 x hx).1 hk.size, (h4 x hx).2⟩⟩
theorem SndX.but {w0 w w2 : World} {X : List Nat} {s lo r : Nat} {ds : List ByteArray} (h : SndX w0 X w s lo ds) (hb : But [r] w w2) (hr : r ∈ X) : SndX w0 X w2 s lo ds := by
  obtain ⟨G, h1, h2, h3, h4⟩ := h
  have := h4 r hr
  exact ⟨G, h1.but hb (by simp; exact Ne.symm this.2.1) (fun g hg => by simp; rintro rfl; exact this.2.2 (by simp [hg])), h2, h3, fun x hx => ⟨Nat.lt_of_lt_of_le (h4 x hx).1 hb.size, (h4 x hx).2⟩⟩
theorem SndX.lt {w0 w : World} {X : List Nat} {s lo : Nat} {ds : List ByteArray} (h : SndX w0 X w s lo ds) : s < w.heap.size := by
  obtain ⟨G, h1, _⟩ := h; exact h1.lt
/-- One block more is seen to be apart, if it has come later than all of the sender's. -/
theorem SndX.more {w0 w w2 : World} {X : List Nat} {s lo : Nat} {ds : List ByteArray} (h : SndX w0 X w s lo ds) (hk : Kept w w2) (x : Nat) (h1 : w.heap.size ≤ x) (h2 : x < w2.heap.size) : SndX w0 (x :: X) w2 s lo ds := by
  obtain ⟨G, a, b, c, d⟩ := h.kept hk
  obtain ⟨G', a', b', c', d'⟩ := h
  refine ⟨G', a'.kept hk, b', c', fun y hy => ?_⟩
  rcases List.mem_cons.1 hy with rfl | hy
  · refine ⟨h2, by have := a'.lt; omega, fun hm => ?_⟩
    obtain ⟨_, _, _, _, hg⟩ := a'
    have := hg y (by simpa using hm)
    omega
  · exact ⟨Nat.lt_of_lt_of_le (d' y hy).1 hk.size, (d' y hy).2⟩

theorem newSenderX (w0 w : World) (hk : Kept w0 w) :
    Calls Try.prog 19 #[] w fun e w' => e = .returned (.pointer (some ⟨w.heap.size, 0, none⟩)) ∧ Kept w w' ∧ SndX w0 [] w' w.heap.size 0 [] :=
  (newSender_any w).mono fun e w' ⟨he, hk', hs⟩ => ⟨he, hk', none, hs, hk.size, by simp, by simp⟩

theorem sendX (w0 : World) (X : List Nat) (s lo : Nat) (ds : List ByteArray) (d : ByteArray) (N : Int) (w : World) (h : SndX w0 X w s lo ds) (hk : Kept w0 w) (h8 : ds.length < 8) (hlo : lo + ds.length < 4611686018427387904) (hN : N = ((lo + ds.length : Nat) : Int)) :
    Calls Try.prog 22 #[.pointer (some ⟨s, 0, none⟩), .string d] w fun e w' => e = .returned (.tuple #[.agg #[.int .i64 N, .string d], .int .i64 0]) ∧
      SndX w0 X w' s lo (ds ++ [d]) ∧ Kept w0 w' ∧ w.heap.size ≤ w'.heap.size ∧ ∀ x ∈ X, w'.heap[x]? = w.heap[x]? := by
  subst hN
  obtain ⟨G, h1, h2, h3, h4⟩ := h
  refine (send_ok s G lo ds d w h1 h8 hlo).mono fun e w' ⟨he, G2, hG2, hs, hb⟩ => ⟨he, ⟨G2, hs, h2, fun g hg => ?_, fun x hx => ?_⟩, hk.but hb fun x hx => ?_, hb.size, fun x hx => hb.block x (h4 x hx).1 ?_⟩
  · rcases hG2 with rfl | ⟨g', rfl, h5, h6⟩
    · exact h3 g hg
    · simp at hg; subst hg; have := hk.size; omega
  · refine ⟨Nat.lt_of_lt_of_le (h4 x hx).1 hb.size, (h4 x hx).2.1, ?_⟩
    rcases hG2 with rfl | ⟨g', rfl, h5, h6⟩
    · exact (h4 x hx).2.2
    · simp; have := (h4 x hx).1; omega
  · rcases List.mem_cons.1 hx with rfl | hx
    · exact h2
    · exact h3 x hx
  · simp only [List.mem_cons, not_or]; exact (h4 x hx).2

theorem sendX_full (w0 : World) (X : List Nat) (s lo : Nat) (ds : List ByteArray) (d : ByteArray) (w : World) (h : SndX w0 X w s lo ds) (h8 : 8 ≤ ds.length) :
    Calls Try.prog 22 #[.pointer (some ⟨s, 0, none⟩), .string d] w fun e w' => e = .returned (.tuple #[.agg #[.int .i64 0, .string ⟨#[]⟩], .int .i64 15]) ∧ Kept w w' := by
  obtain ⟨G, h1, _⟩ := h
  exact send_full s G lo ds d w h1 h8

theorem answerX (w0 : World) (X : List Nat) (s lo : Nat) (ds : List ByteArray) (q : Int) (k : Nat) (R : Int) (w : World) (h : SndX w0 X w s lo ds) (hk : Kept w0 w) (hlo : lo + ds.length < 4611686018427387904) (hkl : k ≤ ds.length)
    (hk1 : 0 < k → (lo : Int) + k ≤ q) (hk2 : q ≤ (lo : Int) + k) (hR : R = (k : Int)) :
    Calls Try.prog 25 #[.pointer (some ⟨s, 0, none⟩), .int .i64 q] w fun e w' => e = .returned (.int .i64 R) ∧ SndX w0 X w' s (lo + k) (ds.drop k) ∧ Kept w0 w' ∧ w.heap.size ≤ w'.heap.size ∧ ∀ x ∈ X, w'.heap[x]? = w.heap[x]? := by
  subst hR
  obtain ⟨G, h1, h2, h3, h4⟩ := h
  refine (answer_ok s G lo ds q k w h1 hlo hkl hk1 hk2).mono fun e w' ⟨he, hs, hb⟩ => ⟨he, ⟨G, hs, h2, h3, fun x hx => ⟨Nat.lt_of_lt_of_le (h4 x hx).1 hb.size, (h4 x hx).2⟩⟩, hk.but hb (by simp; exact h2), hb.size, fun x hx => hb.block x (h4 x hx).1 (by simp; exact (h4 x hx).2.1)⟩
theorem answerX_above (w0 : World) (X : List Nat) (s lo : Nat) (ds : List ByteArray) (q : Int) (w : World) (h : SndX w0 X w s lo ds) (hq : ((lo + ds.length : Nat) : Int) < q) :
    Calls Try.prog 25 #[.pointer (some ⟨s, 0, none⟩), .int .i64 q] w fun e w' => e = .returned (.int .i64 0) ∧ Kept w w' := by
  obtain ⟨G, h1, _⟩ := h
  exact answer_above s G lo ds q w h1 hq
/-- What Open hands back: n packets, in a block of their own. -/
def Row (w : World) (A : Option Addr) (n c lo : Nat) (ds : List ByteArray) : Prop :=
  n = ds.length ∧ n ≤ c ∧ (0 < n → ∃ g, A = some ⟨g, 0, none⟩ ∧ g < w.heap.size ∧ ∀ i, i < n → w.cell? ⟨g, i * 2, none⟩ = some (.int .i64 ((lo + i : Nat) : Int)) ∧ w.cell? ⟨g, i * 2 + 1, none⟩ = some (.string (ds[i]?.getD ⟨#[]⟩)))
theorem Row.kept {w w2 : World} {A : Option Addr} {n c lo : Nat} {ds : List ByteArray} (h : Row w A n c lo ds) (hk : Kept w w2) : Row w2 A n c lo ds :=
  ⟨h.1, h.2.1, fun h0 => by obtain ⟨g, h1, h2, h3⟩ := h.2.2 h0; exact ⟨g, h1, Nat.lt_of_lt_of_le h2 hk.size, fun i hi => ⟨hk.at_ (h3 i hi).1, hk.at_ (h3 i hi).2⟩⟩⟩
theorem openX (w0 : World) (X : List Nat) (s lo n : Nat) (ds : List ByteArray) (w : World) (h : SndX w0 X w s lo ds) (hn : n = ds.length) (hb : n ≤ 4294967296) :
    Calls Try.prog 23 #[.pointer (some ⟨s, 0, none⟩)] w fun e w' => ∃ A c, e = .returned (.slice A n c) ∧ Row w' A n c lo ds ∧ Kept w w' := by
  obtain ⟨G, h1, _⟩ := h
  subst hn
  refine (open_any s G lo ds w h1 hb).mono fun e w' ⟨v', he, hown, hk⟩ => ?_
  rcases hown.2 with ⟨rfl, h0⟩ | ⟨g, cap, cur, rfl, hbg, hg, hnc, _⟩
  · exact ⟨none, 0, by rw [he, h0], ⟨rfl, by omega, fun h => by omega⟩, hk⟩
  · refine ⟨_, cap, he, ⟨rfl, hnc, fun h0 => ⟨g, rfl, (Array.getElem?_eq_some_iff.1 hg).1, fun i hi => ?_⟩⟩, hk⟩
    have hp := pk_at lo ds i hi
    exact ⟨by rw [hown.cellAt (i * 2) (by omega), hp.1], by rw [hown.cellAt (i * 2 + 1) (by omega), hp.2]⟩

end Go.Proofs.Ytbofoafcglmboaa
