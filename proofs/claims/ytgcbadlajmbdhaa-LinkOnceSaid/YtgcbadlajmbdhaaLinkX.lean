/- The link's contracts as a law uses them: w0 the world in which the law began, X blocks that the sender does not touch. -/
import Derived.Test.YtgcbadlajmbdhaaLinkW
set_option linter.unusedSimpArgs false
set_option linter.unusedVariables false
namespace Go.Proofs.Ytgcbadlajmbdhaa
open Go.RowKit

/-- A sender of the law's own, apart from the blocks X. -/
def SndX (w0 : World) (X : List Nat) (w : World) (s lo : Nat) (ds : List ByteArray) : Prop :=
  ∃ G, Snd w s G lo ds ∧ w0.heap.size ≤ s ∧ (∀ g ∈ G.toList, w0.heap.size ≤ g) ∧ ∀ x ∈ X, x < w.heap.size ∧ x ≠ s ∧ x ∉ G.toList
theorem SndX.kept {w0 w w2 : World} {X : List Nat} {s lo : Nat} {ds : List ByteArray} (h : SndX w0 X w s lo ds) (hk : Kept w w2) : SndX w0 X w2 s lo ds := by
  obtain ⟨G, h1, h2, h3, h4⟩ := h
  exact ⟨G, h1.kept hk, h2, h3, fun x hx => ⟨Nat.lt_of_lt_of_le (h4 x hx).1 hk.size, (h4 x hx).2⟩⟩
theorem SndX.but {w0 w w2 : World} {X : List Nat} {s lo r : Nat} {ds : List ByteArray} (h : SndX w0 X w s lo ds) (hb : But [r] w w2) (hr : r ∈ X) : SndX w0 X w2 s lo ds := by
  obtain ⟨G, h1, h2, h3, h4⟩ := h
  have := h4 r hr
  exact ⟨G, h1.but hb (by simp; exact Ne.symm this.2.1) (fun g hg => by simp; rintro rfl; exact this.2.2 (by simp [hg])), h2, h3, fun x hx => ⟨Nat.lt_of_lt_of_le (h4 x hx).1 hb.size, (h4 x hx).2⟩⟩
theorem SndX.lt {w0 w : World} {X : List Nat} {s lo : Nat} {ds : List ByteArray} (h : SndX w0 X w s lo ds) : s < w.heap.size := by
  obtain ⟨G, h1, _⟩ := h; exact h1.lt
/-- One block more is seen to be apart, if it has come later than all of the sender's. -/
theorem SndX.more {w0 w w2 : World} {X : List Nat} {s lo : Nat} {ds : List ByteArray} (h : SndX w0 X w s lo ds) (hk : Kept w w2) (x : Nat) (h1 : w.heap.size ≤ x) (h2 : x < w2.heap.size) : SndX w0 (x :: X) w2 s lo ds := by
  obtain ⟨G, a, b, c, d⟩ := h.kept hk
  obtain ⟨G', a', b', c', d'⟩ := h
  refine ⟨G', a'.kept hk, b', c', fun y hy => ?_⟩
  rcases List.mem_cons.1 hy with rfl | hy
  · refine ⟨h2, by have := a'.lt; omega, fun hm => ?_⟩
    obtain ⟨_, _, _, _, hg⟩ := a'
    have := hg y (by simpa using hm)
    omega
  · exact ⟨Nat.lt_of_lt_of_le (d' y hy).1 hk.size, (d' y hy).2⟩

theorem newSenderX (w0 w : World) (hk : Kept w0 w) :
    Calls Try.prog 14 #[] w fun e w' => e = .returned (.pointer (some ⟨w.heap.size, 0, none⟩)) ∧ Kept w w' ∧ SndX w0 [] w' w.heap.size 0 [] :=
  (newSender_any w).mono fun e w' ⟨he, hk', hs⟩ => ⟨he, hk', none, hs, hk.size, by simp, by simp⟩

theorem sendX (w0 : World) (X : List Nat) (s lo : Nat) (ds : List ByteArray) (d : ByteArray) (N : Int) (w : World) (h : SndX w0 X w s lo ds) (hk : Kept w0 w) (h8 : ds.length < 8) (hlo : lo + ds.length < 4611686018427387904) (hN : N = ((lo + ds.length : Nat) : Int)) :
    Calls Try.prog 15 #[.pointer (some ⟨s, 0, none⟩), .string d] w fun e w' => e = .returned (.tuple #[.agg #[.int .i64 N, .string d], .int .i64 0]) ∧
      SndX w0 X w' s lo (ds ++ [d]) ∧ Kept w0 w' ∧ w.heap.size ≤ w'.heap.size ∧ ∀ x ∈ X, w'.heap[x]? = w.heap[x]? := by
  subst hN
  obtain ⟨G, h1, h2, h3, h4⟩ := h
  refine (send_ok s G lo ds d w h1 h8 hlo).mono fun e w' ⟨he, G2, hG2, hs, hb⟩ => ⟨he, ⟨G2, hs, h2, fun g hg => ?_, fun x hx => ?_⟩, hk.but hb fun x hx => ?_, hb.size, fun x hx => hb.block x (h4 x hx).1 ?_⟩
  · rcases hG2 with rfl | ⟨g', rfl, h5, h6⟩
    · exact h3 g hg
    · simp at hg; subst hg; have := hk.size; omega
  · refine ⟨Nat.lt_of_lt_of_le (h4 x hx).1 hb.size, (h4 x hx).2.1, ?_⟩
    rcases hG2 with rfl | ⟨g', rfl, h5, h6⟩
    · exact (h4 x hx).2.2
    · simp; have := (h4 x hx).1; omega
  · rcases List.mem_cons.1 hx with rfl | hx
    · exact h2
    · exact h3 x hx
  · simp only [List.mem_cons, not_or]; exact (h4 x hx).2

theorem sendX_full (w0 : World) (X : List Nat) (s lo : Nat) (ds : List ByteArray) (d : ByteArray) (w : World) (h : SndX w0 X w s lo ds) (h8 : 8 ≤ ds.length) :
    Calls Try.prog 15 #[.pointer (some ⟨s, 0, none⟩), .string d] w fun e w' => e = .returned (.tuple #[.agg #[.int .i64 0, .string ⟨#[]⟩], .int .i64 15]) ∧ Kept w w' := by
  obtain ⟨G, h1, _⟩ := h
  exact send_full s G lo ds d w h1 h8

theorem answerX (w0 : World) (X : List Nat) (s lo : Nat) (ds : List ByteArray) (q : Int) (k : Nat) (R : Int) (w : World) (h : SndX w0 X w s lo ds) (hk : Kept w0 w) (hlo : lo + ds.length < 4611686018427387904) (hkl : k ≤ ds.length)
    (hk1 : 0 < k → (lo : Int) + k ≤ q) (hk2 : q ≤ (lo : Int) + k) (hR : R = (k : Int)) :
    Calls Try.prog 16 #[.pointer (some ⟨s, 0, none⟩), .int .i64 q] w fun e w' => e = .returned (.int .i64 R) ∧ SndX w0 X w' s (lo + k) (ds.drop k) ∧ Kept w0 w' ∧ w.heap.size ≤ w'.heap.size ∧ ∀ x ∈ X, w'.heap[x]? = w.heap[x]? := by
  subst hR
  obtain ⟨G, h1, h2, h3, h4⟩ := h
  refine (answer_ok s G lo ds q k w h1 hlo hkl hk1 hk2).mono fun e w' ⟨he, hs, hb⟩ => ⟨he, ⟨G, hs, h2, h3, fun x hx => ⟨Nat.lt_of_lt_of_le (h4 x hx).1 hb.size, (h4 x hx).2⟩⟩, hk.but hb (by simp; exact h2), hb.size, fun x hx => hb.block x (h4 x hx).1 (by simp; exact (h4 x hx).2.1)⟩
theorem answerX_above (w0 : World) (X : List Nat) (s lo : Nat) (ds : List ByteArray) (q : Int) (w : World) (h : SndX w0 X w s lo ds) (hq : ((lo + ds.length : Nat) : Int) < q) :
    Calls Try.prog 16 #[.pointer (some ⟨s, 0, none⟩), .int .i64 q] w fun e w' => e = .returned (.int .i64 0) ∧ Kept w w' := by
  obtain ⟨G, h1, _⟩ := h
  exact answer_above s G lo ds q w h1 hq
theorem nextX (w0 : World) (X : List Nat) (s lo : Nat) (ds : List ByteArray) (N : Int) (w : World) (h : SndX w0 X w s lo ds) (hN : N = ((lo + ds.length : Nat) : Int)) :
    Calls Try.prog 18 #[.pointer (some ⟨s, 0, none⟩)] w fun e w' => e = .returned (.int .i64 N) ∧ Kept w w' := by
  subst hN
  obtain ⟨G, h1, _⟩ := h
  exact next_any s G lo ds w h1
/-- What Open hands back: n packets, in a block of their own. -/
def Row (w : World) (A : Option Addr) (n c lo : Nat) (ds : List ByteArray) : Prop :=
  n = ds.length ∧ n ≤ c ∧ (0 < n → ∃ g, A = some ⟨g, 0, none⟩ ∧ g < w.heap.size ∧ ∀ i, i < n → w.cell? ⟨g, i * 2, none⟩ = some (.int .i64 ((lo + i : Nat) : Int)) ∧ w.cell? ⟨g, i * 2 + 1, none⟩ = some (.string (ds[i]?.getD ⟨#[]⟩)))
theorem Row.kept {w w2 : World} {A : Option Addr} {n c lo : Nat} {ds : List ByteArray} (h : Row w A n c lo ds) (hk : Kept w w2) : Row w2 A n c lo ds :=
  ⟨h.1, h.2.1, fun h0 => by obtain ⟨g, h1, h2, h3⟩ := h.2.2 h0; exact ⟨g, h1, Nat.lt_of_lt_of_le h2 hk.size, fun i hi => ⟨hk.at_ (h3 i hi).1, hk.at_ (h3 i hi).2⟩⟩⟩
theorem openX (w0 : World) (X : List Nat) (s lo n : Nat) (ds : List ByteArray) (w : World) (h : SndX w0 X w s lo ds) (hn : n = ds.length) (hb : n ≤ 4294967296) :
    Calls Try.prog 17 #[.pointer (some ⟨s, 0, none⟩)] w fun e w' => ∃ A c, e = .returned (.slice A n c) ∧ Row w' A n c lo ds ∧ Kept w w' := by
  obtain ⟨G, h1, _⟩ := h
  subst hn
  refine (open_any s G lo ds w h1 hb).mono fun e w' ⟨v', he, hown, hk⟩ => ?_
  rcases hown.2 with ⟨rfl, h0⟩ | ⟨g, cap, cur, rfl, hbg, hg, hnc, _⟩
  · exact ⟨none, 0, by rw [he, h0], ⟨rfl, by omega, fun h => by omega⟩, hk⟩
  · refine ⟨_, cap, he, ⟨rfl, hnc, fun h0 => ⟨g, rfl, (Array.getElem?_eq_some_iff.1 hg).1, fun i hi => ?_⟩⟩, hk⟩
    have hp := pk_at lo ds i hi
    exact ⟨by rw [hown.cellAt (i * 2) (by omega), hp.1], by rw [hown.cellAt (i * 2 + 1) (by omega), hp.2]⟩

set_option maxHeartbeats 1000000 in
theorem awake_any (w : World) :
    Calls Try.prog 10 #[] w fun e w' => e = .returned (.bool true) ∧ Kept w w' := by
  go_enter Try.func10, Try.ntmps10
  go_wp2_with fail
  refine (newSenderX w w (Kept.refl w)).mono ?_
  rintro e w1 ⟨rfl, k1, S1⟩
  go_wp2_with fail
  refine (newReceiver_any w1).mono ?_
  rintro e w2 ⟨rfl, k2, R2⟩
  have S2 := S1.more k2 w1.heap.size (Nat.le_refl _) R2.lt
  have K2 : Kept w w2 := k1.call k2
  go_wp2_with fail
  refine (sendX w [w1.heap.size] w.heap.size 0 [] ⟨#[97]⟩ 0 _ S2 K2 (by decide) (by decide) (by simp)).mono ?_
  rintro e w3 ⟨rfl, S3, K3, z3, x3⟩
  have R3 : Recv w3 w1.heap.size 0 := (x3 _ (by simp)).trans R2
  have k3 : Kept w3 (w3.alloc (.cells #[.int .i64 0, .string ⟨#[97]⟩] 23)) := (Kept.refl _).alloc _
  have S3b := S3.more k3 w3.heap.size (Nat.le_refl _) (by simp)
  go_wp2_with fail
  refine (sendX w [w3.heap.size, w1.heap.size] w.heap.size 0 [⟨#[97]⟩] ⟨#[98]⟩ 1 _ S3b (K3.call k3) (by decide) (by decide) (by simp)).mono ?_
  rintro e w4 ⟨rfl, S4, K4, z4, x4⟩
  have B4 := (x4 w3.heap.size (by simp)).trans (heap_alloc_new w3 (.cells #[.int .i64 0, .string ⟨#[97]⟩] 23))
  have R4 : Recv w4 w1.heap.size 0 := (x4 _ (by simp)).trans (R3.kept k3)
  have k4 : Kept w4 (w4.alloc (.cells #[.int .i64 1, .string ⟨#[98]⟩] 23)) := (Kept.refl _).alloc _
  have C4 := heap_alloc_new w4 (.cells #[.int .i64 1, .string ⟨#[98]⟩] 23)
  go_wp2_with fail
  refine (take_no w1.heap.size 0 1 ⟨#[98]⟩ _ (R4.kept k4) (by decide)).mono ?_
  rintro e w5 ⟨rfl, k5⟩
  have R5 := (R4.kept k4).kept k5
  have S5 := (S4.kept k4).kept k5
  have B5 := k5.heap (k4.heap B4)
  have C5 := k5.heap C4
  obtain ⟨b0, b1, _, _⟩ := two_cells B5
  go_wp2_with fail
  refine (take_yes w1.heap.size 0 ⟨#[97]⟩ _ R5 (by decide)).mono ?_
  rintro e w6 ⟨rfl, k6, R6⟩
  have hne : w1.heap.size ≠ w4.heap.size := by have := R4.lt; omega
  have S6 := S5.but k6 (by simp)
  have C6 := k6.heap C5 (by simp; omega)
  obtain ⟨c0, c1, _, _⟩ := two_cells C6
  go_wp2_with fail
  refine (take_yes w1.heap.size 1 ⟨#[98]⟩ _ R6 (by decide)).mono ?_
  rintro e w7 ⟨rfl, k7, R7⟩
  have S7 := S6.but k7 (by simp)
  have K7 : Kept w w7 := (((K4.call k4).call k5).but k6 (by simp; exact k1.size)).but k7 (by simp; exact k1.size)
  go_wp2_with fail
  refine (answerX w _ w.heap.size 0 [⟨#[97]⟩, ⟨#[98]⟩] 2 2 2 _ S7 K7 (by decide) (by decide) (by decide) (by decide) rfl).mono ?_
  rintro e w8 ⟨rfl, S8, K8, z8, x8⟩
  go_wp2
  go_ret
  exact ⟨rfl, K8⟩
end Go.Proofs.Ytgcbadlajmbdhaa
