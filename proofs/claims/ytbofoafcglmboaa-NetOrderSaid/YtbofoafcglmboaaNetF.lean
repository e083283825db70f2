/- The net's functions as a law uses them. -/
import Derived.Test.YtbofoafcglmboaaNetE
set_option linter.unusedSimpArgs false
set_option linter.unusedVariables false
namespace Go.Proofs.Ytbofoafcglmboaa
open Go.RowKit Go.Maps

def sendE (x : Ses) : Int := if x.T.length - x.lo < 8 then 0 else 15
def sendS (x : Ses) (d : ByteArray) : Ses := if x.T.length - x.lo < 8 then ⟨x.T ++ [d], x.lo, x.way ++ [x.T.length]⟩ else x
def agS (x : Ses) : Ses := ⟨x.T, x.lo, agWay x.T x.lo x.way⟩
/-- The packet that is picked. -/
def pickQ (x : Ses) (i : Int) : Option Nat := if i < 0 then none else x.way[i.toNat]?
def pickS (x : Ses) (i h : Int) : Ses := match pickQ x i with
  | none => x
  | some q => if h = 2 then (if x.way.length < 32 then ⟨x.T, x.lo, x.way ++ [q]⟩ else x) else if h = 1 then ⟨x.T, x.lo, x.way.eraseIdx i.toNat⟩ else if q = x.lo then ⟨x.T, x.lo + 1, x.way.eraseIdx i.toNat⟩ else ⟨x.T, x.lo, x.way.eraseIdx i.toNat⟩
/-- Whether a text is told. -/
def pickB (x : Ses) (i h : Int) : Bool := decide (pickQ x i = some x.lo ∧ h ≠ 1 ∧ h ≠ 2)
def told (b : Bool) (t : ByteArray) : Value := .tuple #[.string (if b then t else ⟨#[]⟩), .bool b]
/-- All that is on its way was sent. -/
structure SesOk (x : Ses) : Prop where
  lo : x.lo ≤ x.T.length
  way : ∀ q ∈ x.way, q < x.T.length
theorem NetIn.sesOk {w0 w : World} {X : List Nat} {N : Nat} {P : Nat → Nat → Bool} {st : Nat → Nat → Ses} (h : NetIn w0 X w N P st) {a c : Nat} (ha : a < 6) (hc : c < 6) (hP : P a c = true) : SesOk (st a c) := by
  obtain ⟨M, k, S, F, h⟩ := h
  obtain ⟨s, hs⟩ := (h.who a c ha hc).1 hP
  obtain ⟨_, _, _, _, _, _, _, _, _, _, _, _, h1, h2⟩ := h.ses a c s ha hc hs
  exact ⟨h1, h2⟩
theorem NetIn.ofNone {w0 w : World} {X : List Nat} {N : Nat} {P : Nat → Nat → Bool} {st : Nat → Nat → Ses} (h : NetIn w0 X w N P st) {a c : Nat} (ha : a < 6) (hc : c < 6) (hP : P a c = false) {w2 : World} (hk : Kept w w2) :
    Calls Try.prog 21 #[.pointer (some ⟨N, 0, none⟩), .int .i64 a, .int .i64 c] w2 fun e w' => e = .returned (.pointer none) ∧ Kept w2 w' := by
  obtain ⟨M, k, S, F, h⟩ := h.keep hk
  have hs : S a c = none := by
    cases hs : S a c with
    | none => rfl
    | some s => have := (h.who a c ha hc).2 ⟨s, hs⟩; rw [hP] at this; cases this
  have := of_any N M k a c S w2 h.net h.map ha hc
  rw [hs] at this
  exact this
section
variable (w0 : World) (X : List Nat) (N : Nat) (P : Nat → Nat → Bool) (st : Nat → Nat → Ses) (a c : Nat) (A C : Int) (w : World) (h : NetIn w0 X w N P st) (h0 : Kept w0 w) (hA : A = a) (hC : C = c) (ha : a < 6) (hc : c < 6)
include h h0 hA hC ha hc
theorem sendN (d : ByteArray) (hP : P a c = true) (hT : (st a c).T.length ≤ 1000) (hw : (st a c).way.length ≤ 1000) :
    Calls Try.prog 11 #[.pointer (some ⟨N, 0, none⟩), .int .i64 A, .int .i64 C, .string d] w fun e w' => e = .returned (.int .i64 (sendE (st a c))) ∧ NetTo w0 X w w' N P (setS st a c (sendS (st a c) d)) := by
  subst hA hC
  have hin := h
  obtain ⟨M, k, S, F, h⟩ := h
  obtain ⟨s, hs⟩ := (h.who a c ha hc).1 hP
  by_cases h8 : (st a c).T.length - (st a c).lo < 8
  · refine (nsend_ok N M k a c s _ _ S _ _ d w h.net h.map ha hc hs (h.ses a c s ha hc hs) h8 (by omega) (by omega)).mono fun e w' ⟨he, ht⟩ => ⟨by rw [he]; simp [sendE, h8], ?_⟩
    exact h.step h0 ha hc hs _ (by unfold sendS; rw [if_pos h8]; exact ht)
  · refine (nsend_full N M k a c s _ _ S _ _ d w h.net h.map ha hc hs (h.ses a c s ha hc hs) (by omega)).mono fun e w' ⟨he, hk⟩ => ⟨by rw [he]; simp [sendE, h8], ?_⟩
    exact h.step h0 ha hc hs _ (by unfold sendS; rw [if_neg h8]; exact ⟨_, (h.ses a c s ha hc hs).keep hk, .of_kept hk, fun x hx => .inl hx⟩)
theorem sendN_none (d : ByteArray) (hP : P a c = false) :
    Calls Try.prog 11 #[.pointer (some ⟨N, 0, none⟩), .int .i64 A, .int .i64 C, .string d] w fun e w' => e = .returned (.int .i64 1) ∧ NetTo w0 X w w' N P st := by
  subst hA hC
  exact (nsend_none _ a c d w fun w2 hk => h.ofNone ha hc hP hk).mono fun e w' ⟨he, hk⟩ => ⟨he, h.to h0 hk⟩
theorem againN (hP : P a c = true) (hT : (st a c).T.length ≤ 1000) (hw : (st a c).way.length ≤ 1000) :
    Calls Try.prog 12 #[.pointer (some ⟨N, 0, none⟩), .int .i64 A, .int .i64 C] w fun e w' => e = .returned (.int .i64 (agK (st a c).T (st a c).lo (st a c).way : Nat)) ∧ NetTo w0 X w w' N P (setS st a c (agS (st a c))) := by
  subst hA hC
  obtain ⟨M, k, S, F, h⟩ := h
  obtain ⟨s, hs⟩ := (h.who a c ha hc).1 hP
  refine (nagain_any N M k a c s _ _ S _ _ w h.net h.map ha hc hs (h.ses a c s ha hc hs) (by omega) (by omega)).mono fun e w' ⟨he, ht⟩ => ⟨he, ?_⟩
  exact h.step h0 ha hc hs (agS (st a c)) ht
theorem pickN (i how : Int) (hP : P a c = true) (hT : (st a c).T.length ≤ 1000) (hw : (st a c).way.length ≤ 1000) :
    Calls Try.prog 13 #[.pointer (some ⟨N, 0, none⟩), .int .i64 A, .int .i64 C, .int .i64 i, .int .i64 how] w fun e w' => e = .returned (told (pickB (st a c) i (bits .and .i64 how 3)) (tx (st a c).T (st a c).lo)) ∧ NetTo w0 X w w' N P (setS st a c (pickS (st a c) i (bits .and .i64 how 3))) := by
  subst hA hC
  obtain ⟨M, k, S, F, h⟩ := h
  obtain ⟨s, hs⟩ := (h.who a c ha hc).1 hP
  have hse := h.ses a c s ha hc hs
  generalize hh : bits .and .i64 how 3 = h3
  cases hq : pickQ (st a c) i with
  | none =>
    have ho : i < 0 ∨ ((st a c).way.length : Int) ≤ i := by
      unfold pickQ at hq
      by_cases h0 : i < 0
      · exact .inl h0
      · rw [if_neg h0] at hq
        have := List.getElem?_eq_none_iff.1 hq
        exact .inr (by omega)
    refine (npick_no N M k a c s _ _ S _ _ i how w h.net h.map ha hc hs hse (by omega) ho).mono fun e w' ⟨he, hk⟩ => ⟨by rw [he]; simp [pickB, hq, told], ?_⟩
    exact h.step h0 ha hc hs _ (by unfold pickS; rw [hq]; exact ⟨_, hse.keep hk, .of_kept hk, fun x hx => .inl hx⟩)
  | some q =>
    have hi0 : ¬ i < 0 := by intro g; unfold pickQ at hq; rw [if_pos g] at hq; cases hq
    obtain ⟨j, rfl⟩ : ∃ j : Nat, i = j := ⟨i.toNat, by omega⟩
    have hq' : (st a c).way[j]? = some q := by unfold pickQ at hq; rw [if_neg hi0] at hq; simpa using hq
    by_cases e2 : h3 = 2
    · refine (npick_double N M k a c s _ j q _ S _ _ how w h.net h.map ha hc hs hse (by omega) hq' (by rw [hh, e2])).mono fun e w' ⟨he, ht⟩ => ⟨by rw [he]; simp [pickB, e2, told], ?_⟩
      refine h.step h0 ha hc hs _ ?_
      unfold pickS
      rw [hq]
      simp only [e2, if_true]
      split
      · rename_i hl; rw [if_pos hl] at ht; exact ht
      · rename_i hl; rw [if_neg hl] at ht; exact ht
    · by_cases e1 : h3 = 1
      · refine (npick_drop N M k a c s _ j q _ S _ _ how w h.net h.map ha hc hs hse (by omega) hq' (by rw [hh, e1])).mono fun e w' ⟨he, ht⟩ => ⟨by rw [he]; simp [pickB, e1, told], ?_⟩
        exact h.step h0 ha hc hs _ (by unfold pickS; rw [hq]; simp only [if_neg e2, if_pos e1]; simpa using ht)
      · by_cases e0 : q = (st a c).lo
        · subst e0
          refine (npick_take N M k a c s j _ _ S _ _ how h3 w h.net h.map ha hc hs hse (by omega) (by omega) hq' hh e1 e2).mono fun e w' ⟨he, ht⟩ => ⟨by rw [he]; simp [pickB, hq, e1, e2, told], ?_⟩
          exact h.step h0 ha hc hs _ (by unfold pickS; rw [hq]; simp only [if_neg e2, if_neg e1, if_true]; simpa using ht)
        · refine (npick_other N M k a c s _ j q _ S _ _ how h3 w h.net h.map ha hc hs hse (by omega) hq' hh e1 e2 e0).mono fun e w' ⟨he, ht⟩ => ⟨by rw [he]; simp [pickB, hq, e0, told], ?_⟩
          exact h.step h0 ha hc hs _ (by unfold pickS; rw [hq]; simp only [if_neg e2, if_neg e1, if_neg e0]; simpa using ht)
theorem againN_none (hP : P a c = false) :
    Calls Try.prog 12 #[.pointer (some ⟨N, 0, none⟩), .int .i64 A, .int .i64 C] w fun e w' => e = .returned (.int .i64 0) ∧ NetTo w0 X w w' N P st := by
  subst hA hC
  exact (nagain_none _ a c w fun w2 hk => h.ofNone ha hc hP hk).mono fun e w' ⟨he, hk⟩ => ⟨he, h.to h0 hk⟩
theorem pickN_none (i how : Int) (hP : P a c = false) :
    Calls Try.prog 13 #[.pointer (some ⟨N, 0, none⟩), .int .i64 A, .int .i64 C, .int .i64 i, .int .i64 how] w fun e w' => e = .returned (told false ⟨#[]⟩) ∧ NetTo w0 X w w' N P st := by
  subst hA hC
  exact (npick_none _ a c i how w fun w2 hk => h.ofNone ha hc hP hk).mono fun e w' ⟨he, hk⟩ => ⟨he, h.to h0 hk⟩
end
section
variable (w0 : World) (X : List Nat) (N : Nat) (P : Nat → Nat → Bool) (st : Nat → Nat → Ses) (a c : Nat) (A C : Int) (w : World) (h : NetIn w0 X w N P st) (hA : A = a) (hC : C = c) (ha : a < 6) (hc : c < 6)
include h hA hC ha hc
theorem openN_none (hP : P a c = false) :
    Calls Try.prog 14 #[.pointer (some ⟨N, 0, none⟩), .int .i64 A, .int .i64 C] w fun e w' => e = .returned (.int .i64 0) ∧ Kept w w' := by
  subst hA hC
  exact nopen_none _ a c w fun w2 hk => h.ofNone ha hc hP hk
theorem openN (hP : P a c = true) (hT : (st a c).T.length ≤ 1000) :
    Calls Try.prog 14 #[.pointer (some ⟨N, 0, none⟩), .int .i64 A, .int .i64 C] w fun e w' => e = .returned (.int .i64 (((st a c).T.length - (st a c).lo : Nat) : Int)) ∧ Kept w w' := by
  subst hA hC
  obtain ⟨M, k, S, F, h⟩ := h
  obtain ⟨s, hs⟩ := (h.who a c ha hc).1 hP
  exact nopen_any N M k a c s _ _ S _ _ w h.net h.map ha hc hs (h.ses a c s ha hc hs) (by omega)
theorem flyingN (hP : P a c = true) (hw : (st a c).way.length ≤ 1000) :
    Calls Try.prog 15 #[.pointer (some ⟨N, 0, none⟩), .int .i64 A, .int .i64 C] w fun e w' => (∃ v', e = .returned v' ∧ w'.ownsRow w.heap.size 60 2 v' (st a c).way.length (wayC (st a c).T (st a c).way)) ∧ Kept w w' := by
  subst hA hC
  obtain ⟨M, k, S, F, h⟩ := h
  obtain ⟨s, hs⟩ := (h.who a c ha hc).1 hP
  exact (nflying_any N M k a c s _ _ S _ _ w h.net h.map ha hc hs (h.ses a c s ha hc hs) (by omega)).mono fun e w' ⟨v', h1, h2, h3⟩ => ⟨⟨v', h1, h2⟩, h3⟩
theorem takesN (i : Int) (hP : P a c = true) (hw : (st a c).way.length ≤ 1000) :
    Calls Try.prog 17 #[.pointer (some ⟨N, 0, none⟩), .int .i64 A, .int .i64 C, .int .i64 i] w fun e w' => e = .returned (told (pickB (st a c) i 0) (tx (st a c).T (st a c).lo)) ∧ Kept w w' := by
  subst hA hC
  obtain ⟨M, k, S, F, h⟩ := h
  obtain ⟨s, hs⟩ := (h.who a c ha hc).1 hP
  have hse := h.ses a c s ha hc hs
  cases hq : pickQ (st a c) i with
  | none =>
    have ho : i < 0 ∨ ((st a c).way.length : Int) ≤ i := by
      unfold pickQ at hq
      by_cases h0 : i < 0
      · exact .inl h0
      · rw [if_neg h0] at hq
        have := List.getElem?_eq_none_iff.1 hq
        exact .inr (by omega)
    exact (ntakes_no N M k a c s _ _ S _ _ i w h.net h.map ha hc hs hse (by omega) ho).mono fun e w' ⟨he, hk⟩ => ⟨by rw [he]; simp [pickB, hq, told], hk⟩
  | some q =>
    have hi0 : ¬ i < 0 := by intro g; unfold pickQ at hq; rw [if_pos g] at hq; cases hq
    obtain ⟨j, rfl⟩ : ∃ j : Nat, i = j := ⟨i.toNat, by omega⟩
    have hq' : (st a c).way[j]? = some q := by unfold pickQ at hq; rw [if_neg hi0] at hq; simpa using hq
    refine (ntakes_at N M k a c s _ j q _ S _ _ w h.net h.map ha hc hs hse (by omega) hq').mono fun e w' ⟨he, hk⟩ => ⟨?_, hk⟩
    rw [he]
    by_cases e0 : q = (st a c).lo
    · simp [pickB, hq, e0, told]
    · simp [pickB, hq, e0, told]
end
end Go.Proofs.Ytbofoafcglmboaa
