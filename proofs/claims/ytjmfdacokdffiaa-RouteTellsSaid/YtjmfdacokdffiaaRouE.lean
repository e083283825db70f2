/- Where labels go, in plain Lean: the open list over a tree. -/
import Derived.Test.YtjmfdacokdffiaaRouC
import Derived.Test.YtjmfdacokdffiaaTreeV
set_option linter.unusedSimpArgs false
set_option linter.unusedVariables false
namespace Go.Proofs.Ytjmfdacokdffiaa
open Go.RowKit

/-- c comes ahead of x on the way from f (-1: x is f). -/
def Pv (ps : List Int) (f x : Nat) (c : Int) : Prop := (x = f ∧ c = -1) ∨ ∃ (y : Nat) (t : List Nat), wk ps x f = x :: y :: t ∧ c = y
theorem Pv.one {ps : List Int} (hp : IsTree ps) {f x : Nat} (hf : f < ps.length) {c d : Int} (h : Pv ps f x c) (k : Pv ps f x d) : c = d := by
  rcases h with ⟨h1, h2⟩ | ⟨y, t, h1, h2⟩ <;> rcases k with ⟨k1, k2⟩ | ⟨z, s, k1, k2⟩
  · rw [h2, k2]
  · subst h1
    rw [wk_self hp hf] at k1
    cases k1
  · subst k1
    rw [wk_self hp hf] at h1
    cases h1
  · rw [h1] at k1
    have e : y = z := by injection k1 with _ e; injection e
    rw [h2, k2, e]
theorem Pv.step {ps : List Int} (hp : IsTree ps) {f x s : Nat} (hf : f < ps.length) (hx : x < ps.length) (hs : s < ps.length) {c : Int} (h : Pv ps f x c) (hn : Nr ps x s) (hne : (s : Int) ≠ c) : Pv ps f s x := by
  obtain ⟨h1, h2, h3⟩ := wk_spec hp hx hf
  obtain ⟨t, ht⟩ := wk_cons hp hx hf
  rw [ht] at h1 h3
  have hw : W ps (s :: x :: t) := h1.cons hs hn.symm (by
    intro e
    rcases h with ⟨g1, g2⟩ | ⟨y, r, g1, g2⟩
    · subst g1
      rw [wk_self hp hf] at ht
      injection ht with _ ht
      subst ht
      cases e
    · rw [ht] at g1
      injection g1 with _ g1
      subst g1
      simp at e
      omega)
  have he := wk_is hp hw (a := s) (b := f) ⟨rfl, by rwa [List.getLast?_cons_cons]⟩
  exact .inr ⟨x, t, he, rfl⟩
/-- What is gone to lies near, and not back. -/
structure Goes (ps : List Int) (N : Int → Int → List Nat) : Prop where
  near : ∀ (c a : Int) (s : Nat), s ∈ N c a → ∃ x : Nat, a = x ∧ x < ps.length ∧ s < ps.length ∧ Nr ps x s ∧ (s : Int) ≠ c
  nd : ∀ c a, (N c a).Nodup
/-- What is known of the open list. -/
structure QI (ps : List Int) (N : Int → Int → List Nat) (f i : Nat) (L : List Pr) : Prop where
  site : ∀ c a, (c, a) ∈ L → ∃ x : Nat, a = x ∧ x < ps.length ∧ Pv ps f x c
  from_ : ∀ (t : Nat) (c a : Int), L[t]? = some (c, a) → (t = 0 ∧ c = -1 ∧ a = f) ∨ ∃ (j : Nat) (d : Int) (s : Nat), j < i ∧ j < t ∧ L[j]? = some (d, c) ∧ a = s ∧ s ∈ N d c
  nd : (L.map Prod.snd).Nodup
theorem snd_one {L : List Pr} (h : (L.map Prod.snd).Nodup) {i j : Nat} {c d a : Int} (hi : L[i]? = some (c, a)) (hj : L[j]? = some (d, a)) : i = j := by
  have key : ∀ (i j : Nat) (c d : Int), i < j → L[i]? = some (c, a) → L[j]? = some (d, a) → False := by
    intro i j c d hij hi hj
    obtain ⟨h1, e1⟩ := List.getElem?_eq_some_iff.1 hi
    obtain ⟨h2, e2⟩ := List.getElem?_eq_some_iff.1 hj
    refine List.pairwise_iff_getElem.1 h i j (by simpa using h1) (by simpa using h2) hij ?_
    rw [List.getElem_map, List.getElem_map, e1, e2]
  rcases Nat.lt_trichotomy i j with g | g | g
  · exact (key i j c d g hi hj).elim
  · exact g
  · exact (key j i d c g hj hi).elim
theorem QI.next {ps : List Int} {N : Int → Int → List Nat} (hp : IsTree ps) {f i : Nat} (hf : f < ps.length) (hN : Goes ps N) (h : QI ps N f i (qs N f i)) : QI ps N f (i + 1) (qs N f (i + 1)) := by
  rcases Nat.lt_or_ge i (qs N f i).length with hi | hi
  · obtain ⟨⟨c, a⟩, hca⟩ : ∃ x, (qs N f i)[i]? = some x := ⟨_, List.getElem?_eq_getElem hi⟩
    rw [qs_step hca]
    generalize qs N f i = L at *
    obtain ⟨x, ha, hx, hpv⟩ := h.site c a (List.mem_of_getElem? hca)
    have new : ∀ s, s ∈ N c a → s < ps.length ∧ Pv ps f s a := fun s hs => by
      obtain ⟨x', e1, _, h2, h3, h4⟩ := hN.near c a s hs
      have : x' = x := by omega
      subst this
      exact ⟨h2, ha ▸ hpv.step hp hf hx h2 h3 h4⟩
    refine ⟨fun d b hm => ?_, fun t d b ht => ?_, ?_⟩
    · rcases List.mem_append.1 hm with hm | hm
      · exact h.site d b hm
      · obtain ⟨s, hs, e⟩ := List.mem_map.1 hm
        injection e with e1 e2
        subst e1
        obtain ⟨h1, h2⟩ := new s hs
        exact ⟨s, e2.symm, h1, h2⟩
    · rcases Nat.lt_or_ge t L.length with g | g
      · rw [List.getElem?_append_left g] at ht
        rcases h.from_ t d b ht with h1 | ⟨j, e, s, h1, h2, h3, h4⟩
        · exact .inl h1
        · exact .inr ⟨j, e, s, by omega, h2, by rw [List.getElem?_append_left (by omega)]; exact h3, h4⟩
      · rw [List.getElem?_append_right g] at ht
        obtain ⟨s, hs, e⟩ := List.mem_map.1 (List.mem_of_getElem? ht)
        injection e with e1 e2
        subst e1
        exact .inr ⟨i, c, s, by omega, by omega, by rw [List.getElem?_append_left hi]; exact hca, e2.symm, hs⟩
    · rw [List.map_append, List.map_map, List.nodup_append]
      refine ⟨h.nd, List.Pairwise.map _ (fun p q hpq => by intro e; simp at e; omega) (hN.nd c a), fun u hu v hv e => ?_⟩
      subst e
      obtain ⟨s, hs, e⟩ := List.mem_map.1 hv
      simp at e
      obtain ⟨⟨d, b⟩, hm, e2⟩ := List.mem_map.1 hu
      simp at e2
      subst e2
      obtain ⟨t, ht⟩ := List.getElem?_of_mem hm
      obtain ⟨y, g1, g2, g3⟩ := h.site d b hm
      have hsy : s = y := by omega
      subst hsy
      have hda : d = a := g3.one hp hf (new s hs).2
      subst hda
      rcases h.from_ t d b ht with ⟨_, k2, _⟩ | ⟨j, e, r, k1, _, k3, _⟩
      · omega
      · have := snd_one h.nd hca k3
        omega
  · rw [qs_stop hi]
    exact ⟨h.site, fun t c a ht => (h.from_ t c a ht).imp id (fun ⟨j, d, s, h1, h2⟩ => ⟨j, d, s, by omega, h2⟩), h.nd⟩
theorem QI.all {ps : List Int} {N : Int → Int → List Nat} (hp : IsTree ps) {f : Nat} (hf : f < ps.length) (hN : Goes ps N) : ∀ i, QI ps N f i (qs N f i)
  | 0 => by
    refine ⟨fun c a hm => ?_, fun t c a ht => ?_, by simp [qs]⟩
    · simp [qs] at hm
      exact ⟨f, hm.2, hf, .inl ⟨rfl, hm.1⟩⟩
    · cases t with
      | zero => simp [qs] at ht; exact .inl ⟨rfl, ht.1.symm, ht.2.symm⟩
      | succ t => simp [qs] at ht
  | i + 1 => (QI.all hp hf hN i).next hp hf hN
theorem QI.len {ps : List Int} {N : Int → Int → List Nat} {f i : Nat} {L : List Pr} (h : QI ps N f i L) : L.length ≤ ps.length := by
  have h1 : (L.map fun x => x.2.toNat).Nodup := by
    rw [show (L.map fun x => x.2.toNat) = (L.map Prod.snd).map Int.toNat by simp]
    refine List.pairwise_map.2 (List.Pairwise.imp_of_mem (fun {u v} hu hv hne e => hne ?_) h.nd)
    obtain ⟨⟨c, a⟩, hm, rfl⟩ := List.mem_map.1 hu
    obtain ⟨⟨d, b⟩, hm2, rfl⟩ := List.mem_map.1 hv
    obtain ⟨x, e1, _⟩ := h.site c a hm
    obtain ⟨y, e2, _⟩ := h.site d b hm2
    simp at e ⊢
    omega
  have h2 := nodup_lt ps.length _ h1 (fun x hx => by
    obtain ⟨⟨c, a⟩, hm, rfl⟩ := List.mem_map.1 hx
    obtain ⟨x, e1, h1, _⟩ := h.site c a hm
    simp
    omega)
  simpa using h2
theorem small_tree {ps : List Int} {N : Int → Int → List Nat} (hp : IsTree ps) (hN : Goes ps N) (f : Int) : Small N f := by
  intro i
  have h6 : ps.length ≤ 6 := hp.choose_spec.six
  by_cases hf : 0 ≤ f ∧ f < ps.length
  · obtain ⟨g, rfl⟩ : ∃ g : Nat, f = g := ⟨f.toNat, by omega⟩
    have := (QI.all hp (show g < ps.length by omega) hN i).len
    omega
  · have : qs N f i = [(-1, f)] := by
      induction i with
      | zero => rfl
      | succ i ih =>
        rw [qs, ih]
        cases i with
        | zero =>
          have : N (-1) f = [] := by
            refine List.eq_nil_iff_forall_not_mem.2 fun s hs => ?_
            obtain ⟨x, h1, h2, _⟩ := hN.near _ _ s hs
            omega
          simp [this]
        | succ i => simp
    rw [this]
    simp
/-- What is in it is gone through. -/
theorem all_closed {ps : List Int} {N : Int → Int → List Nat} (hp : IsTree ps) {f : Nat} (hf : f < ps.length) (hN : Goes ps N) {c a : Int} (h : (c, a) ∈ allQ N f) {s : Nat} (hs : s ∈ N c a) : (a, (s : Int)) ∈ allQ N f := by
  have h6 : ps.length ≤ 6 := hp.choose_spec.six
  obtain ⟨t, ht⟩ := List.getElem?_of_mem h
  have hl := (QI.all hp hf hN 7).len
  have htl := (List.getElem?_eq_some_iff.1 ht).1
  unfold allQ at ht htl ⊢
  have sub : ∀ i k, i ≤ k → ∃ r, qs N f k = qs N f i ++ r := by
    intro i k hk
    obtain ⟨d, rfl⟩ : ∃ d, k = i + d := ⟨k - i, by omega⟩
    induction d with
    | zero => exact ⟨[], by simp⟩
    | succ d ih =>
      obtain ⟨r, hr⟩ := ih (by omega)
      rw [← Nat.add_assoc, qs, hr]
      exact ⟨_, List.append_assoc _ _ _⟩
  have htt : t < (qs N f t).length := by
    rcases Nat.lt_or_ge t (qs N f t).length with g | g
    · exact g
    · have := qs_stay g 7 (by omega)
      rw [this] at htl
      omega
  obtain ⟨r, hr⟩ := sub t 7 (by omega)
  rw [hr, List.getElem?_append_left htt] at ht
  obtain ⟨r2, hr2⟩ := sub (t + 1) 7 (by omega)
  rw [hr2, qs_step ht]
  refine List.mem_append_left _ (List.mem_append_right _ (List.mem_map.2 ⟨s, hs, rfl⟩))
theorem all_start (N : Int → Int → List Nat) (f : Int) : ∃ t, allQ N f = (-1, f) :: t := qs_pos N f 7
end Go.Proofs.Ytjmfdacokdffiaa
