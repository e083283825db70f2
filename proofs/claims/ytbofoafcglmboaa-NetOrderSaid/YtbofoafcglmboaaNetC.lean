/- A net of the call's own, its sessions apart. -/
import Derived.Test.YtbofoafcglmboaaNetB
set_option linter.unusedSimpArgs false
set_option linter.unusedVariables false
namespace Go.Proofs.Ytbofoafcglmboaa
open Go.RowKit Go.Maps

structure Ses where
  T : List ByteArray
  lo : Nat
  way : List Nat
def ses0 : Ses := ⟨[], 0, []⟩
def setS (st : Nat → Nat → Ses) (a c : Nat) (x : Ses) : Nat → Nat → Ses := fun i j => if i = a ∧ j = c then x else st i j
theorem setS_same (st : Nat → Nat → Ses) (a c : Nat) (x : Ses) : setS st a c x a c = x := by simp [setS]
theorem setS_other {st : Nat → Nat → Ses} {a c i j : Nat} {x : Ses} (h : i ≠ a ∨ j ≠ c) : setS st a c x i j = st i j := by
  unfold setS; rw [if_neg]; rintro ⟨rfl, rfl⟩; rcases h with h | h <;> exact h rfl
/-- The net in block N, its map in block M, its sessions st where P says that there is one; w0: the world in which the call began; X: blocks that it does not touch. -/
structure NetF (w0 : World) (X : List Nat) (w : World) (N M k : Nat) (S : Who) (F : Nat → Nat → List Nat) (P : Nat → Nat → Bool) (st : Nat → Nat → Ses) : Prop where
  net : NetAt w N M
  map : PM w M k S
  many : k ≤ 36
  ne : N ≠ M
  nN : w0.heap.size ≤ N
  nM : w0.heap.size ≤ M
  lN : N < w.heap.size
  lX : ∀ x ∈ X, x < w.heap.size ∧ x ≠ N ∧ x ≠ M
  who : ∀ a c, a < 6 → c < 6 → (P a c = true ↔ ∃ s, S a c = some s)
  ses : ∀ a c s, a < 6 → c < 6 → S a c = some s → Sess w (F a c) s (st a c).T (st a c).lo (st a c).way
  own : ∀ a c s, a < 6 → c < 6 → S a c = some s → ∀ x ∈ F a c, x < w.heap.size ∧ w0.heap.size ≤ x ∧ x ≠ N ∧ x ≠ M ∧ x ∉ X
  apart : ∀ a c s a' c' s', a < 6 → c < 6 → S a c = some s → a' < 6 → c' < 6 → S a' c' = some s' → (a' ≠ a ∨ c' ≠ c) → ∀ x ∈ F a c, x ∉ F a' c'
def NetIn (w0 : World) (X : List Nat) (w : World) (N : Nat) (P : Nat → Nat → Bool) (st : Nat → Nat → Ses) : Prop := ∃ M k S F, NetF w0 X w N M k S F P st
theorem NetIn.lt {w0 w : World} {X : List Nat} {N : Nat} {P : Nat → Nat → Bool} {st : Nat → Nat → Ses} (h : NetIn w0 X w N P st) : N < w.heap.size := by
  obtain ⟨M, k, S, F, h⟩ := h; exact h.lN
theorem NetF.keep {w0 w w2 : World} {X : List Nat} {N M k : Nat} {S : Who} {F : Nat → Nat → List Nat} {P : Nat → Nat → Bool} {st : Nat → Nat → Ses} (h : NetF w0 X w N M k S F P st) (hk : Kept w w2) : NetF w0 X w2 N M k S F P st :=
  { net := h.net.keep hk, map := h.map.keep hk, many := h.many, ne := h.ne, nN := h.nN, nM := h.nM, lN := Nat.lt_of_lt_of_le h.lN hk.size, lX := fun x hx => ⟨Nat.lt_of_lt_of_le (h.lX x hx).1 hk.size, (h.lX x hx).2⟩, who := h.who,
    ses := fun a c s ha hc hs => (h.ses a c s ha hc hs).keep hk, own := fun a c s ha hc hs x hx => ⟨Nat.lt_of_lt_of_le (h.own a c s ha hc hs x hx).1 hk.size, (h.own a c s ha hc hs x hx).2⟩, apart := h.apart }
theorem NetIn.keep {w0 w w2 : World} {X : List Nat} {N : Nat} {P : Nat → Nat → Bool} {st : Nat → Nat → Ses} (h : NetIn w0 X w N P st) (hk : Kept w w2) : NetIn w0 X w2 N P st := by
  obtain ⟨M, k, S, F, h⟩ := h; exact ⟨M, k, S, F, h.keep hk⟩
/-- A block of X turns. -/
theorem NetF.but {w0 w w2 : World} {X : List Nat} {N M k : Nat} {S : Who} {F : Nat → Nat → List Nat} {P : Nat → Nat → Bool} {st : Nat → Nat → Ses} (h : NetF w0 X w N M k S F P st) (hk : But X w w2) : NetF w0 X w2 N M k S F P st :=
  { net := h.net.but hk (fun hx => (h.lX N hx).2.1 rfl), map := h.map.but hk (fun hx => (h.lX M hx).2.2 rfl), many := h.many, ne := h.ne, nN := h.nN, nM := h.nM, lN := Nat.lt_of_lt_of_le h.lN hk.size, lX := fun x hx => ⟨Nat.lt_of_lt_of_le (h.lX x hx).1 hk.size, (h.lX x hx).2⟩, who := h.who,
    ses := fun a c s ha hc hs => (h.ses a c s ha hc hs).but hk (fun x hx => (h.own a c s ha hc hs x hx).2.2.2.2), own := fun a c s ha hc hs x hx => ⟨Nat.lt_of_lt_of_le (h.own a c s ha hc hs x hx).1 hk.size, (h.own a c s ha hc hs x hx).2⟩, apart := h.apart }
theorem NetIn.but {w0 w w2 : World} {X : List Nat} {N : Nat} {P : Nat → Nat → Bool} {st : Nat → Nat → Ses} (h : NetIn w0 X w N P st) (hk : But X w w2) : NetIn w0 X w2 N P st := by
  obtain ⟨M, k, S, F, h⟩ := h; exact ⟨M, k, S, F, h.but hk⟩
/-- One block more is seen to be apart: it has come later. -/
theorem NetF.more {w0 w w2 : World} {X : List Nat} {N M k : Nat} {S : Who} {F : Nat → Nat → List Nat} {P : Nat → Nat → Bool} {st : Nat → Nat → Ses} (h : NetF w0 X w N M k S F P st) (hk : Kept w w2) (y : Nat) (h1 : w.heap.size ≤ y) (h2 : y < w2.heap.size) : NetF w0 (y :: X) w2 N M k S F P st :=
  { h.keep hk with
    lX := fun x hx => by
      rcases List.mem_cons.1 hx with rfl | hx
      · exact ⟨h2, by have := h.lN; omega, by have := h.map.lt; omega⟩
      · exact (h.keep hk).lX x hx
    own := fun a c s ha hc hs x hx => by
      obtain ⟨o1, o2, o3, o4, o5⟩ := h.own a c s ha hc hs x hx
      exact ⟨Nat.lt_of_lt_of_le o1 hk.size, o2, o3, o4, by simp only [List.mem_cons, not_or]; exact ⟨by omega, o5⟩⟩ }
theorem NetIn.more {w0 w w2 : World} {X : List Nat} {N : Nat} {P : Nat → Nat → Bool} {st : Nat → Nat → Ses} (h : NetIn w0 X w N P st) (hk : Kept w w2) (y : Nat) (h1 : w.heap.size ≤ y) (h2 : y < w2.heap.size) : NetIn w0 (y :: X) w2 N P st := by
  obtain ⟨M, k, S, F, h⟩ := h; exact ⟨M, k, S, F, h.more hk y h1 h2⟩
/-- What is told behind an operation at one session. -/
def NetTo (w0 : World) (X : List Nat) (w w' : World) (N : Nat) (P : Nat → Nat → Bool) (st : Nat → Nat → Ses) : Prop := NetIn w0 X w' N P st ∧ Kept w0 w' ∧ w.heap.size ≤ w'.heap.size ∧ ∀ x ∈ X, w'.heap[x]? = w.heap[x]?
theorem NetTo.keep {w0 w w1 w' : World} {X : List Nat} {N : Nat} {P : Nat → Nat → Bool} {st : Nat → Nat → Ses} (h : NetTo w0 X w w1 N P st) (hk : Kept w1 w') : NetTo w0 X w w' N P st :=
  ⟨h.1.keep hk, h.2.1.call hk, Nat.le_trans h.2.2.1 hk.size, fun x hx => by
    obtain ⟨M, k, S, F, hF⟩ := h.1
    rw [hk.block x (hF.lX x hx).1, h.2.2.2 x hx]⟩
theorem NetIn.to {w0 w w' : World} {X : List Nat} {N : Nat} {P : Nat → Nat → Bool} {st : Nat → Nat → Ses} (h : NetIn w0 X w N P st) (h0 : Kept w0 w) (hk : Kept w w') : NetTo w0 X w w' N P st :=
  ⟨h.keep hk, h0.call hk, hk.size, fun x hx => by
    obtain ⟨M, k, S, F, hF⟩ := h
    exact hk.block x (hF.lX x hx).1⟩
theorem NetF.step {w0 w w' : World} {X : List Nat} {N M k : Nat} {S : Who} {F : Nat → Nat → List Nat} {P : Nat → Nat → Bool} {st : Nat → Nat → Ses} (h : NetF w0 X w N M k S F P st) (h0 : Kept w0 w) {a c s : Nat} (ha : a < 6) (hc : c < 6) (hs : S a c = some s) (x : Ses)
    (ht : SessTo w w' (F a c) s x.T x.lo x.way) : NetTo w0 X w w' N P (setS st a c x) := by
  obtain ⟨F', h1, h2, h3⟩ := ht
  have hown := h.own a c s ha hc hs
  have hz := h2.size
  have hF'lt : ∀ y ∈ F', y < w'.heap.size := by
    obtain ⟨_, _, _, _, _, _, _, h4, _⟩ := h1
    exact h4
  refine ⟨⟨M, k, S, fun i j => if i = a ∧ j = c then F' else F i j, ?_⟩, h0.but h2 fun y hy => (hown y hy).2.1, hz, fun y hy => h2.block y (h.lX y hy).1 fun hm => (hown y hm).2.2.2.2 hy⟩
  have hNn : N ∉ F a c := fun hm => (hown N hm).2.2.1 rfl
  have hMn : M ∉ F a c := fun hm => (hown M hm).2.2.2.1 rfl
  refine { net := h.net.but h2 hNn, map := h.map.but h2 hMn, many := h.many, ne := h.ne, nN := h.nN, nM := h.nM, lN := Nat.lt_of_lt_of_le h.lN hz, lX := fun y hy => ⟨Nat.lt_of_lt_of_le (h.lX y hy).1 hz, (h.lX y hy).2⟩, who := h.who, ses := ?_, own := ?_, apart := ?_ }
  · intro a' c' s' ha' hc' hs'
    by_cases e : a' = a ∧ c' = c
    · obtain ⟨rfl, rfl⟩ := e
      rw [hs] at hs'
      injection hs' with hs'
      subst hs'
      simp only [and_self, if_true, setS_same]
      exact h1
    · have e2 : a' ≠ a ∨ c' ≠ c := by by_cases h : a' = a; exact .inr fun g => e ⟨h, g⟩; exact .inl h
      simp only [if_neg e, setS_other e2]
      exact (h.ses a' c' s' ha' hc' hs').but h2 fun y hy hy' => h.apart a' c' s' a c s ha' hc' hs' ha hc hs (by rcases e2 with e | e; exact .inl e.symm; exact .inr e.symm) y hy hy'
  · intro a' c' s' ha' hc' hs' y hy
    by_cases e : a' = a ∧ c' = c
    · simp only [if_pos e] at hy
      rcases h3 y hy with hy' | hy'
      · obtain ⟨o1, o2⟩ := hown y hy'
        exact ⟨Nat.lt_of_lt_of_le o1 hz, o2⟩
      · exact ⟨hF'lt y hy, Nat.le_trans h0.size hy', by have := h.lN; omega, by have := h.map.lt; omega, fun hx => by have := (h.lX y hx).1; omega⟩
    · simp only [if_neg e] at hy
      obtain ⟨o1, o2⟩ := h.own a' c' s' ha' hc' hs' y hy
      exact ⟨Nat.lt_of_lt_of_le o1 hz, o2⟩
  · intro a1 c1 s1 a2 c2 s2 ha1 hc1 hs1 ha2 hc2 hs2 hne y hy hy2
    by_cases e1 : a1 = a ∧ c1 = c
    · have e2 : ¬ (a2 = a ∧ c2 = c) := fun e => by obtain ⟨rfl, rfl⟩ := e1; obtain ⟨rfl, rfl⟩ := e; rcases hne with h | h <;> exact h rfl
      simp only [if_pos e1] at hy
      simp only [if_neg e2] at hy2
      rcases h3 y hy with hy' | hy'
      · obtain ⟨rfl, rfl⟩ := e1
        exact h.apart _ _ _ _ _ _ ha1 hc1 hs1 ha2 hc2 hs2 hne y hy' hy2
      · have := (h.own a2 c2 s2 ha2 hc2 hs2 y hy2).1; omega
    · simp only [if_neg e1] at hy
      by_cases e2 : a2 = a ∧ c2 = c
      · simp only [if_pos e2] at hy2
        rcases h3 y hy2 with hy' | hy'
        · obtain ⟨rfl, rfl⟩ := e2
          exact h.apart _ _ _ _ _ _ ha1 hc1 hs1 ha2 hc2 hs2 hne y hy hy'
        · have := (h.own a1 c1 s1 ha1 hc1 hs1 y hy).1; omega
      · simp only [if_neg e2] at hy2
        exact h.apart _ _ _ _ _ _ ha1 hc1 hs1 ha2 hc2 hs2 hne y hy hy2
/-- A session more is put into the map. -/
theorem NetF.put {w0 w w' : World} {X : List Nat} {N M k : Nat} {S : Who} {F : Nat → Nat → List Nat} {P : Nat → Nat → Bool} {st : Nat → Nat → Ses} (h : NetF w0 X w N M k S F P st) (h0 : Kept w0 w) {w1 : World} (k1 : Kept w w1) {a c s : Nat} (ha : a < 6) (hc : c < 6) (Fn : List Nat) (x : Ses)
    (hS : Sess w1 Fn s x.T x.lo x.way) (hnew : ∀ y ∈ Fn, w.heap.size ≤ y) (hkm : k < 36) (hp : PM w' M (k + 1) (upd S a c s)) (hg : w1.grownBy w' (some M)) : NetF w0 X w' N M (k + 1) (upd S a c s) (fun i j => if i = a ∧ j = c then Fn else F i j) (fun i j => P i j || (decide (i = a) && decide (j = c))) (setS st a c x) ∧ But [M] w w' := by
  have hbt : But [M] w1 w' := (But.refl [M] w1).grown hg (fun g hg => by injection hg with hg; exact .inl (by simp [hg]))
  have hbw : But [M] w w' := (But.of_kept k1).trans hbt
  have hz := hbw.size
  have hM := h.map.lt
  have hlt1 : ∀ y ∈ Fn, y < w1.heap.size := by
    obtain ⟨_, _, _, _, _, _, _, h4, _⟩ := hS
    exact h4
  have hup : ∀ i j t, upd S a c s i j = some t → (i = a ∧ j = c ∧ t = s) ∨ (¬ (i = a ∧ j = c) ∧ S i j = some t) := by
    intro i j t ht
    unfold upd at ht
    by_cases e : i = a ∧ j = c
    · rw [if_pos e] at ht; injection ht with ht; exact .inl ⟨e.1, e.2, ht.symm⟩
    · rw [if_neg e] at ht; exact .inr ⟨e, ht⟩
  refine ⟨{ net := h.net.but hbw (by simp; exact h.ne), map := hp, many := hkm, ne := h.ne, nN := h.nN, nM := h.nM, lN := Nat.lt_of_lt_of_le h.lN hz, lX := fun y hy => ⟨Nat.lt_of_lt_of_le (h.lX y hy).1 hz, (h.lX y hy).2⟩, who := ?_, ses := ?_, own := ?_, apart := ?_ }, hbw⟩
  · intro i j hi hj
    unfold upd
    by_cases e : i = a ∧ j = c
    · obtain ⟨rfl, rfl⟩ := e; simp
    · rw [if_neg e]
      have : (decide (i = a) && decide (j = c)) = false := by
        rw [Bool.eq_false_iff]; intro g; simp at g; exact e g
      rw [this, Bool.or_false]
      exact h.who i j hi hj
  · intro i j t hi hj ht
    rcases hup i j t ht with ⟨rfl, rfl, rfl⟩ | ⟨e, ht⟩
    · simp only [and_self, if_true, setS_same]
      exact hS.but hbt (fun y hy => by simp; rintro rfl; have := hnew _ hy; omega)
    · have e2 : i ≠ a ∨ j ≠ c := by by_cases h : i = a; exact .inr fun g => e ⟨h, g⟩; exact .inl h
      simp only [if_neg e, setS_other e2]
      exact (h.ses i j t hi hj ht).but hbw (fun y hy => by simp; exact (h.own i j t hi hj ht y hy).2.2.2.1)
  · intro i j t hi hj ht y hy
    rcases hup i j t ht with ⟨rfl, rfl, rfl⟩ | ⟨e, ht⟩
    · simp only [and_self, if_true] at hy
      have h1 := hnew y hy
      have h2 := hlt1 y hy
      exact ⟨Nat.lt_of_lt_of_le h2 hbt.size, Nat.le_trans h0.size h1, by have := h.lN; omega, by omega, fun hx => by have := (h.lX y hx).1; omega⟩
    · simp only [if_neg e] at hy
      obtain ⟨o1, o2⟩ := h.own i j t hi hj ht y hy
      exact ⟨Nat.lt_of_lt_of_le o1 hz, o2⟩
  · intro i j t i' j' t' hi hj ht hi' hj' ht' hne y hy hy2
    rcases hup i j t ht with ⟨rfl, rfl, rfl⟩ | ⟨e, ht0⟩
    · simp only [and_self, if_true] at hy
      rcases hup i' j' t' ht' with ⟨rfl, rfl, rfl⟩ | ⟨e', ht'⟩
      · rcases hne with h | h <;> exact h rfl
      · simp only [if_neg e'] at hy2
        have := (h.own i' j' t' hi' hj' ht' y hy2).1
        have := hnew y hy
        omega
    · simp only [if_neg e] at hy
      rcases hup i' j' t' ht' with ⟨rfl, rfl, rfl⟩ | ⟨e', ht'⟩
      · simp only [and_self, if_true] at hy2
        have := (h.own i j t hi hj ht0 y hy).1
        have := hnew y hy2
        omega
      · simp only [if_neg e'] at hy2
        exact h.apart i j t i' j' t' hi hj ht0 hi' hj' ht' hne y hy hy2
end Go.Proofs.Ytbofoafcglmboaa
