/- Both ends and the document's ends, side by side: none touches another. -/
import Derived.Test.YtgcbadlajmbdhaaLinkR3
set_option linter.unusedSimpArgs false
set_option linter.unusedVariables false
namespace Go.Proofs.Ytgcbadlajmbdhaa
open Go.RowKit

def Pl (w0 : World) (X : List Nat) (w : World) (s r t u lo lo2 k k2 : Nat) (ds all : List ByteArray) : Prop :=
  ∃ G H, Snd w s G lo ds ∧ RSnd w t H lo2 all ∧ Recv w r k ∧ RRecv w u k2 ∧ (∀ x ∈ [s, r, t, u], w0.heap.size ≤ x) ∧ (∀ g ∈ G.toList, w0.heap.size ≤ g) ∧ (∀ g ∈ H.toList, w0.heap.size ≤ g) ∧
    (s ≠ r ∧ s ≠ t ∧ s ≠ u ∧ r ≠ t ∧ r ≠ u ∧ t ≠ u) ∧ (∀ g ∈ G.toList, g ≠ s ∧ g ≠ r ∧ g ≠ t ∧ g ≠ u ∧ g ∉ H.toList) ∧ (∀ g ∈ H.toList, g ≠ s ∧ g ≠ r ∧ g ≠ t ∧ g ≠ u) ∧
    (∀ x ∈ X, x < w.heap.size ∧ x ≠ s ∧ x ≠ r ∧ x ≠ t ∧ x ≠ u ∧ x ∉ G.toList ∧ x ∉ H.toList)
theorem Pl.kept {w0 w w2 : World} {X : List Nat} {s r t u lo lo2 k k2 : Nat} {ds all : List ByteArray} (h : Pl w0 X w s r t u lo lo2 k k2 ds all) (hk : Kept w w2) : Pl w0 X w2 s r t u lo lo2 k k2 ds all := by
  obtain ⟨G, H, h1, h2, h3, h4, h5, h6, h7, h8, h9, h10, hX⟩ := h
  exact ⟨G, H, h1.kept hk, h2.kept hk, h3.kept hk, h4.kept hk, h5, h6, h7, h8, h9, h10, fun x hx => ⟨Nat.lt_of_lt_of_le (hX x hx).1 hk.size, (hX x hx).2⟩⟩
theorem Pl.less {w0 w : World} {X X2 : List Nat} {s r t u lo lo2 k k2 : Nat} {ds all : List ByteArray} (h : Pl w0 X w s r t u lo lo2 k k2 ds all) (hs : ∀ x ∈ X2, x ∈ X) : Pl w0 X2 w s r t u lo lo2 k k2 ds all := by
  obtain ⟨G, H, h1, h2, h3, h4, h5, h6, h7, h8, h9, h10, hX⟩ := h
  exact ⟨G, H, h1, h2, h3, h4, h5, h6, h7, h8, h9, h10, fun x hx => hX x (hs x hx)⟩
/-- A block that has come later than all of theirs is apart. -/
theorem Pl.more {w0 w w2 : World} {X : List Nat} {s r t u lo lo2 k k2 : Nat} {ds all : List ByteArray} (h : Pl w0 X w s r t u lo lo2 k k2 ds all) (hk : Kept w w2) (x : Nat) (e1 : w.heap.size ≤ x) (e2 : x < w2.heap.size) : Pl w0 (x :: X) w2 s r t u lo lo2 k k2 ds all := by
  have h' := h.kept hk
  obtain ⟨G, H, h1, h2, h3, h4, h5, h6, h7, h8, h9, h10, hX⟩ := h
  have lr := h3.lt
  have lu := h4.lt
  have lt := h2.lt
  have ls := h1.lt
  have lG : ∀ g ∈ G.toList, g < w.heap.size := by obtain ⟨_, _, _, _, q⟩ := h1; exact fun g hg => q g (by simpa using hg)
  have lH : ∀ g ∈ H.toList, g < w.heap.size := by obtain ⟨_, _, _, _, q⟩ := h2; exact fun g hg => q g (by simpa using hg)
  refine ⟨G, H, h1.kept hk, h2.kept hk, h3.kept hk, h4.kept hk, h5, h6, h7, h8, h9, h10, fun y hy => ?_⟩
  rcases List.mem_cons.1 hy with rfl | hy
  · exact ⟨e2, by omega, by omega, by omega, by omega, fun hm => by have := lG _ hm; omega, fun hm => by have := lH _ hm; omega⟩
  · exact ⟨Nat.lt_of_lt_of_le (hX y hy).1 hk.size, (hX y hy).2⟩

section
variable {w0 w : World} {X : List Nat} {s r t u lo lo2 k k2 : Nat} {ds all : List ByteArray}

theorem plSend (N : Int) (d : ByteArray) (h : Pl w0 X w s r t u lo lo2 k k2 ds all) (hk : Kept w0 w) (h8 : ds.length < 8) (hlo : lo + ds.length < 4294967296) (hN : N = ((lo + ds.length : Nat) : Int)) :
    Calls Try.prog 15 #[.pointer (some ⟨s, 0, none⟩), .string d] w fun e w' => e = .returned (.tuple #[.agg #[.int .i64 N, .string d], .int .i64 0]) ∧ Pl w0 X w' s r t u lo lo2 k k2 (ds ++ [d]) all ∧ Kept w0 w' ∧ w.heap.size ≤ w'.heap.size ∧ ∀ x ∈ X, w'.heap[x]? = w.heap[x]? := by
  subst hN
  obtain ⟨G, H, h1, h2, h3, h4, h5, h6, h7, ⟨n1, n2, n3, n4, n5, n6⟩, h9, h10, hX⟩ := h
  have lr := h3.lt
  have lu := h4.lt
  have lt := h2.lt
  have ls := h1.lt
  have lH : ∀ g ∈ H.toList, g < w.heap.size := by obtain ⟨_, _, _, _, q⟩ := h2; exact fun g hg => q g (by simpa using hg)
  refine (send_ok s G lo ds d w h1 h8 (by omega)).mono fun e w' ⟨he, G2, hG2, hs, hb⟩ => ?_
  have a1 : t ∉ s :: G.toList := by simp only [List.mem_cons, not_or]; exact ⟨Ne.symm n2, fun hm => (h9 _ hm).2.2.1 rfl⟩
  have a2 : r ∉ s :: G.toList := by simp only [List.mem_cons, not_or]; exact ⟨Ne.symm n1, fun hm => (h9 _ hm).2.1 rfl⟩
  have a3 : u ∉ s :: G.toList := by simp only [List.mem_cons, not_or]; exact ⟨Ne.symm n3, fun hm => (h9 _ hm).2.2.2.1 rfl⟩
  have a4 : ∀ g, H = some g → g ∉ s :: G.toList := by
    intro g hg
    simp only [List.mem_cons, not_or]
    exact ⟨(h10 g (by simp [hg])).1, fun hm => (h9 _ hm).2.2.2.2 (by simp [hg])⟩
  have hk2 : Kept w0 w' := hk.but hb (fun x hx => by rcases List.mem_cons.1 hx with hx | hx <;> first | exact h6 _ hx | (rw [hx]; exact h5 _ (by simp)))
  refine ⟨he, ⟨G2, H, hs, h2.but hb a1 a4, h3.but hb a2, h4.but hb a3, h5, ?_, h7, ⟨n1, n2, n3, n4, n5, n6⟩, ?_, h10, ?_⟩, hk2, hb.size, fun x hx => hb.block x (hX x hx).1 (by have := hX x hx; simp only [List.mem_cons, not_or]; exact ⟨this.2.1, this.2.2.2.2.2.1⟩)⟩
  · rcases hG2 with rfl | ⟨g, rfl, q1, q2⟩
    · exact h6
    · intro x hx; simp at hx; subst hx; have := hk.size; omega
  · rcases hG2 with rfl | ⟨g, rfl, q1, q2⟩
    · exact h9
    · intro x hx; simp at hx; subst hx
      exact ⟨by omega, by omega, by omega, by omega, fun hm => by have := lH _ hm; omega⟩
  · intro x hx
    obtain ⟨b0, b1, b2, b3, b4, b5, b6⟩ := hX x hx
    refine ⟨Nat.lt_of_lt_of_le b0 hb.size, b1, b2, b3, b4, ?_, b6⟩
    rcases hG2 with rfl | ⟨g, rfl, q1, q2⟩
    · exact b5
    · simp; omega
theorem plRSend (N : Int) (d : ByteArray) (h : Pl w0 X w s r t u lo lo2 k k2 ds all) (hk : Kept w0 w) (h8 : all.length < lo2 + 8) (hb : all.length < 4294967296) (hl : lo2 ≤ all.length) (hN : N = (all.length : Int)) :
    Calls Try.prog 21 #[.pointer (some ⟨t, 0, none⟩), .string d] w fun e w' => e = .returned (.tuple #[.agg #[.int .i64 N, .string d], .int .i64 0]) ∧ Pl w0 X w' s r t u lo lo2 k k2 ds (all ++ [d]) ∧ Kept w0 w' ∧ w.heap.size ≤ w'.heap.size ∧ ∀ x ∈ X, w'.heap[x]? = w.heap[x]? := by
  subst hN
  obtain ⟨G, H, h1, h2, h3, h4, h5, h6, h7, ⟨n1, n2, n3, n4, n5, n6⟩, h9, h10, hX⟩ := h
  have lr := h3.lt
  have lu := h4.lt
  have lt := h2.lt
  have ls := h1.lt
  have lG : ∀ g ∈ G.toList, g < w.heap.size := by obtain ⟨_, _, _, _, q⟩ := h1; exact fun g hg => q g (by simpa using hg)
  refine (rsend_ok t H lo2 all d w h2 h8 hb hl).mono fun e w' ⟨he, H2, hH2, hs, hb⟩ => ?_
  have a1 : s ∉ t :: H.toList := by simp only [List.mem_cons, not_or]; exact ⟨n2, fun hm => (h10 _ hm).1 rfl⟩
  have a2 : r ∉ t :: H.toList := by simp only [List.mem_cons, not_or]; exact ⟨n4, fun hm => (h10 _ hm).2.1 rfl⟩
  have a3 : u ∉ t :: H.toList := by simp only [List.mem_cons, not_or]; exact ⟨Ne.symm n6, fun hm => (h10 _ hm).2.2.2 rfl⟩
  have a4 : ∀ g, G = some g → g ∉ t :: H.toList := by
    intro g hg
    simp only [List.mem_cons, not_or]
    exact ⟨(h9 g (by simp [hg])).2.2.1, (h9 g (by simp [hg])).2.2.2.2⟩
  have hk2 : Kept w0 w' := hk.but hb (fun x hx => by rcases List.mem_cons.1 hx with hx | hx <;> first | exact h7 _ hx | (rw [hx]; exact h5 _ (by simp)))
  refine ⟨he, ⟨G, H2, h1.but hb a1 a4, hs, h3.but hb a2, h4.but hb a3, h5, h6, ?_, ⟨n1, n2, n3, n4, n5, n6⟩, ?_, ?_, ?_⟩, hk2, hb.size, fun x hx => hb.block x (hX x hx).1 (by have := hX x hx; simp only [List.mem_cons, not_or]; exact ⟨this.2.2.2.1, this.2.2.2.2.2.2⟩)⟩
  · rcases hH2 with rfl | ⟨g, rfl, q1, q2⟩
    · exact h7
    · intro x hx; simp at hx; subst hx; have := hk.size; omega
  · rcases hH2 with rfl | ⟨g, rfl, q1, q2⟩
    · exact h9
    · intro x hx
      obtain ⟨b1, b2, b3, b4, _⟩ := h9 x hx
      exact ⟨b1, b2, b3, b4, fun hm => by simp at hm; have := lG _ hx; omega⟩
  · rcases hH2 with rfl | ⟨g, rfl, q1, q2⟩
    · exact h10
    · intro x hx; simp at hx; subst hx
      exact ⟨by omega, by omega, by omega, by omega⟩
  · intro x hx
    obtain ⟨b0, b1, b2, b3, b4, b5, b6⟩ := hX x hx
    refine ⟨Nat.lt_of_lt_of_le b0 hb.size, b1, b2, b3, b4, b5, ?_⟩
    rcases hH2 with rfl | ⟨g, rfl, q1, q2⟩
    · exact b6
    · simp; omega
theorem plSend_full (d : ByteArray) (h : Pl w0 X w s r t u lo lo2 k k2 ds all) (h8 : 8 ≤ ds.length) :
    Calls Try.prog 15 #[.pointer (some ⟨s, 0, none⟩), .string d] w fun e w' => e = .returned (.tuple #[.agg #[.int .i64 0, .string ⟨#[]⟩], .int .i64 15]) ∧ Kept w w' := by
  obtain ⟨G, H, h1, _⟩ := h
  exact send_full s G lo ds d w h1 h8
theorem plRSend_full (d : ByteArray) (h : Pl w0 X w s r t u lo lo2 k k2 ds all) (h8 : lo2 + 8 ≤ all.length) (hb : all.length < 4294967296) :
    Calls Try.prog 21 #[.pointer (some ⟨t, 0, none⟩), .string d] w fun e w' => e = .returned (.tuple #[.agg #[.int .i64 0, .string ⟨#[]⟩], .int .i64 15]) ∧ Kept w w' := by
  obtain ⟨G, H, _, h1, _⟩ := h
  exact rsend_full t H lo2 all d w h1 h8 hb
theorem plAnswer (q : Int) (j : Nat) (R : Int) (h : Pl w0 X w s r t u lo lo2 k k2 ds all) (hk : Kept w0 w) (hlo : lo + ds.length < 4294967296) (hkl : j ≤ ds.length)
    (hk1 : 0 < j → (lo : Int) + j ≤ q) (hk2 : q ≤ (lo : Int) + j) (hR : R = (j : Int)) :
    Calls Try.prog 16 #[.pointer (some ⟨s, 0, none⟩), .int .i64 q] w fun e w' => e = .returned (.int .i64 R) ∧ Pl w0 X w' s r t u (lo + j) lo2 k k2 (ds.drop j) all ∧ Kept w0 w' ∧ w.heap.size ≤ w'.heap.size ∧ ∀ x ∈ X, w'.heap[x]? = w.heap[x]? := by
  subst hR
  obtain ⟨G, H, h1, h2, h3, h4, h5, h6, h7, ⟨n1, n2, n3, n4, n5, n6⟩, h9, h10, hX⟩ := h
  refine (answer_ok s G lo ds q j w h1 (by omega) hkl hk1 hk2).mono fun e w' ⟨he, hs, hb⟩ => ?_
  exact ⟨he, ⟨G, H, hs, h2.but hb (by simpa using Ne.symm n2) (fun g hg => by simpa using (h10 g (by simp [hg])).1), h3.but hb (by simpa using Ne.symm n1), h4.but hb (by simpa using Ne.symm n3), h5, h6, h7, ⟨n1, n2, n3, n4, n5, n6⟩, h9, h10, fun x hx => ⟨Nat.lt_of_lt_of_le (hX x hx).1 hb.size, (hX x hx).2⟩⟩,
    hk.but hb (by simpa using h5 s (by simp)), hb.size, fun x hx => hb.block x (hX x hx).1 (by simpa using (hX x hx).2.1)⟩
theorem plAnswer_above (q : Int) (h : Pl w0 X w s r t u lo lo2 k k2 ds all) (hq : ((lo + ds.length : Nat) : Int) < q) :
    Calls Try.prog 16 #[.pointer (some ⟨s, 0, none⟩), .int .i64 q] w fun e w' => e = .returned (.int .i64 0) ∧ Kept w w' := by
  obtain ⟨G, H, h1, _⟩ := h
  exact answer_above s G lo ds q w h1 hq
theorem plRAnswer (j : Nat) (q R : Int) (h : Pl w0 X w s r t u lo lo2 k k2 ds all) (hk : Kept w0 w) (hb : all.length < 4294967296) (h1' : lo2 < j) (h2' : j ≤ all.length) (hq : q = (j : Int)) (hR : R = (j : Int) - (lo2 : Int)) :
    Calls Try.prog 19 #[.pointer (some ⟨t, 0, none⟩), .int .i64 q] w fun e w' => e = .returned (.int .i64 R) ∧ Pl w0 X w' s r t u lo j k k2 ds all ∧ Kept w0 w' ∧ w.heap.size ≤ w'.heap.size ∧ ∀ x ∈ X, w'.heap[x]? = w.heap[x]? := by
  subst hR hq
  obtain ⟨G, H, h1, h2, h3, h4, h5, h6, h7, ⟨n1, n2, n3, n4, n5, n6⟩, h9, h10, hX⟩ := h
  refine (ranswer_ok t H lo2 j all w h2 hb h1' h2').mono fun e w' ⟨he, hs, hb⟩ => ?_
  exact ⟨he, ⟨G, H, h1.but hb (by simpa using n2) (fun g hg => by simpa using (h9 g (by simp [hg])).2.2.1), hs, h3.but hb (by simpa using n4), h4.but hb (by simpa using Ne.symm n6), h5, h6, h7, ⟨n1, n2, n3, n4, n5, n6⟩, h9, h10, fun x hx => ⟨Nat.lt_of_lt_of_le (hX x hx).1 hb.size, (hX x hx).2⟩⟩,
    hk.but hb (by simpa using h5 t (by simp)), hb.size, fun x hx => hb.block x (hX x hx).1 (by simpa using (hX x hx).2.2.2.1)⟩
theorem plRAnswer_no (q : Int) (h : Pl w0 X w s r t u lo lo2 k k2 ds all) (hb : all.length < 4294967296) (hq : (all.length : Int) < q ∨ q ≤ (lo2 : Int)) :
    Calls Try.prog 19 #[.pointer (some ⟨t, 0, none⟩), .int .i64 q] w fun e w' => e = .returned (.int .i64 0) ∧ Kept w w' := by
  obtain ⟨G, H, _, h1, _⟩ := h
  exact ranswer_no t H lo2 all q w h1 hb hq
theorem plTake_no (q : Int) (d : ByteArray) (h : Pl w0 X w s r t u lo lo2 k k2 ds all) (hn : ¬ q = k) :
    Calls Try.prog 12 #[.pointer (some ⟨r, 0, none⟩), .agg #[.int .i64 q, .string d]] w fun e w' => e = .returned (.tuple #[.string ⟨#[]⟩, .bool false]) ∧ Kept w w' := by
  obtain ⟨G, H, _, _, h3, _⟩ := h
  exact take_no r k q d w h3 hn
theorem plRTake_no (q : Int) (d : ByteArray) (h : Pl w0 X w s r t u lo lo2 k k2 ds all) (hn : ¬ q = k2) :
    Calls Try.prog 20 #[.pointer (some ⟨u, 0, none⟩), .agg #[.int .i64 q, .string d]] w fun e w' => e = .returned (.tuple #[.string ⟨#[]⟩, .bool false]) ∧ Kept w w' := by
  obtain ⟨G, H, _, _, _, h4, _⟩ := h
  exact rtake_no u k2 q d w h4 hn
theorem plTake_yes (q : Int) (d : ByteArray) (h : Pl w0 X w s r t u lo lo2 k k2 ds all) (hk : Kept w0 w) (hn : q = (k : Int)) (hb : k < 4611686018427387904) :
    Calls Try.prog 12 #[.pointer (some ⟨r, 0, none⟩), .agg #[.int .i64 q, .string d]] w fun e w' => e = .returned (.tuple #[.string d, .bool true]) ∧ Pl w0 X w' s r t u lo lo2 (k + 1) k2 ds all ∧ Kept w0 w' ∧ w.heap.size ≤ w'.heap.size ∧ ∀ x ∈ X, w'.heap[x]? = w.heap[x]? := by
  subst hn
  obtain ⟨G, H, h1, h2, h3, h4, h5, h6, h7, ⟨n1, n2, n3, n4, n5, n6⟩, h9, h10, hX⟩ := h
  refine (take_yes r k d w h3 hb).mono fun e w' ⟨he, hb, hs⟩ => ?_
  exact ⟨he, ⟨G, H, h1.but hb (by simpa using n1) (fun g hg => by simpa using (h9 g (by simp [hg])).2.1), h2.but hb (by simpa using Ne.symm n4) (fun g hg => by simpa using (h10 g (by simp [hg])).2.1), hs, h4.but hb (by simpa using Ne.symm n5), h5, h6, h7, ⟨n1, n2, n3, n4, n5, n6⟩, h9, h10, fun x hx => ⟨Nat.lt_of_lt_of_le (hX x hx).1 hb.size, (hX x hx).2⟩⟩,
    hk.but hb (by simpa using h5 r (by simp)), hb.size, fun x hx => hb.block x (hX x hx).1 (by simpa using (hX x hx).2.2.1)⟩
theorem plRTake_yes (q : Int) (d : ByteArray) (h : Pl w0 X w s r t u lo lo2 k k2 ds all) (hk : Kept w0 w) (hn : q = (k2 : Int)) (hb : k2 < 4611686018427387904) :
    Calls Try.prog 20 #[.pointer (some ⟨u, 0, none⟩), .agg #[.int .i64 q, .string d]] w fun e w' => e = .returned (.tuple #[.string d, .bool true]) ∧ Pl w0 X w' s r t u lo lo2 k (k2 + 1) ds all ∧ Kept w0 w' ∧ w.heap.size ≤ w'.heap.size ∧ ∀ x ∈ X, w'.heap[x]? = w.heap[x]? := by
  subst hn
  obtain ⟨G, H, h1, h2, h3, h4, h5, h6, h7, ⟨n1, n2, n3, n4, n5, n6⟩, h9, h10, hX⟩ := h
  refine (rtake_yes u k2 d w h4 hb).mono fun e w' ⟨he, hb, hs⟩ => ?_
  exact ⟨he, ⟨G, H, h1.but hb (by simpa using n3) (fun g hg => by simpa using (h9 g (by simp [hg])).2.2.2.1), h2.but hb (by simpa using n6) (fun g hg => by simpa using (h10 g (by simp [hg])).2.2.2), h3.but hb (by simpa using n5), hs, h5, h6, h7, ⟨n1, n2, n3, n4, n5, n6⟩, h9, h10, fun x hx => ⟨Nat.lt_of_lt_of_le (hX x hx).1 hb.size, (hX x hx).2⟩⟩,
    hk.but hb (by simpa using h5 u (by simp)), hb.size, fun x hx => hb.block x (hX x hx).1 (by simpa using (hX x hx).2.2.2.2.1)⟩
theorem plOpen (n : Nat) (h : Pl w0 X w s r t u lo lo2 k k2 ds all) (hn : n = ds.length) (hb : n ≤ 4294967296) :
    Calls Try.prog 17 #[.pointer (some ⟨s, 0, none⟩)] w fun e w' => ∃ A c, e = .returned (.slice A n c) ∧ Row w' A n c lo ds ∧ Kept w w' := by
  obtain ⟨G, H, h1, _, _, _, h5, h6, _⟩ := h
  exact openX w0 [] s lo n ds w ⟨G, h1, h5 s (by simp), h6, by simp⟩ hn hb
theorem plROpen (n : Nat) (h : Pl w0 X w s r t u lo lo2 k k2 ds all) (hn : n = all.length - lo2) (hb : all.length < 4294967296) (hl : lo2 ≤ all.length) :
    Calls Try.prog 23 #[.pointer (some ⟨t, 0, none⟩)] w fun e w' => ∃ A c, e = .returned (.slice A n c) ∧ Row w' A n c lo2 (all.drop lo2) ∧ Kept w w' := by
  subst hn
  obtain ⟨G, H, _, h1, _⟩ := h
  exact ropen_any t H lo2 all w h1 hb hl
theorem plNext (N : Int) (h : Pl w0 X w s r t u lo lo2 k k2 ds all) (hN : N = ((lo + ds.length : Nat) : Int)) :
    Calls Try.prog 18 #[.pointer (some ⟨s, 0, none⟩)] w fun e w' => e = .returned (.int .i64 N) ∧ Kept w w' := by
  subst hN
  obtain ⟨G, H, h1, _⟩ := h
  exact next_any s G lo ds w h1
theorem plWaits (h : Pl w0 X w s r t u lo lo2 k k2 ds all) :
    Calls Try.prog 13 #[.pointer (some ⟨r, 0, none⟩)] w fun e w' => e = .returned (.int .i64 k) ∧ Kept w w' := by
  obtain ⟨G, H, _, _, h3, _⟩ := h
  exact waits_any r k w h3
theorem Pl.allCell (h : Pl w0 X w s r t u lo lo2 k k2 ds all) : ∃ A c, w.cell? ⟨t, 0, none⟩ = some (.slice A all.length c) ∧ (0 < all.length → ∃ b off, A = some ⟨b, off, none⟩ ∧ all.length ≤ c ∧ c ≤ maxLen ∧ ∀ i d, all[i]? = some d → w.cell? ⟨b, off + i, none⟩ = some (.string d)) := by
  obtain ⟨G, H, _, ⟨v, h2, h3, _⟩, _⟩ := h
  obtain ⟨A, c, rfl⟩ := h3.form
  refine ⟨A, c, cellOf h2 0, fun h0 => ?_⟩
  obtain ⟨b, off, e1, _, e2, e3, e4⟩ := h3.cells h0
  exact ⟨b, off, e1, e2, e3, fun i d hd => e4 i (.string d) (by simp [strs, hd])⟩
theorem Pl.waitCell (h : Pl w0 X w s r t u lo lo2 k k2 ds all) : w.cell? ⟨u, 0, none⟩ = some (.int .i64 k2) := by
  obtain ⟨G, H, _, _, _, h4, _⟩ := h
  exact cellOf h4 0
end
end Go.Proofs.Ytgcbadlajmbdhaa
