/- Where labels go, in plain Lean: to the owners, and to all that lies between. -/
import Derived.Test.YtjmfdacokdffiaaRouE
set_option linter.unusedSimpArgs false
set_option linter.unusedVariables false
namespace Go.Proofs.Ytjmfdacokdffiaa
open Go.RowKit

theorem and_bits_all : ∀ x : Fin 64, ∀ y : Fin 64, (bits .and .i64 ((x : Nat) : Int) ((y : Nat) : Int) == 0) = !((List.range 6).any fun k => (decide ((x : Nat) / 2 ^ k % 2 = 1) && decide ((y : Nat) / 2 ^ k % 2 = 1))) := of_decide_eq_true (by kernel_rfl)
/-- Has a mask's bit. -/
theorem side_bit (p : List Int) (a b : Int) : ∀ (n k : Nat), sideTo p a b n / 2 ^ k % 2 = 1 ↔ k < n ∧ firstIs p a b k = true
  | 0, k => by simp [sideTo]
  | n + 1, k => by
    have hlt := sideTo_lt p a b n
    have ih := side_bit p a b n k
    unfold sideTo
    cases hf : firstIs p a b n with
    | false =>
      simp only [Bool.false_eq_true, if_false, Nat.add_zero]
      rw [ih]
      refine ⟨fun h => ⟨by omega, h.2⟩, fun h => ⟨?_, h.2⟩⟩
      rcases Nat.lt_or_ge k n with g | g
      · exact g
      · have : k = n := by omega
        subst this
        rw [hf] at h
        cases h.2
    | true =>
      simp only [if_true]
      rcases Nat.lt_trichotomy k n with g | g | g
      · obtain ⟨d, rfl⟩ : ∃ d, n = k + 1 + d := ⟨n - k - 1, by omega⟩
        rw [show sideTo p a b (k + 1 + d) + 2 ^ (k + 1 + d) = sideTo p a b (k + 1 + d) + 2 ^ k * (2 * 2 ^ d) by rw [Nat.pow_add, Nat.pow_succ, Nat.mul_assoc], Nat.add_mul_div_left _ _ (Nat.pow_pos (by omega)), Nat.add_mul_mod_self_left, ih]
        exact ⟨fun h => ⟨by omega, h.2⟩, fun h => ⟨by omega, h.2⟩⟩
      · subst g
        have e : (sideTo p a b k + 2 ^ k) / 2 ^ k = 1 := by
          rw [Nat.add_div_right _ (Nat.pow_pos (by omega)), Nat.div_eq_of_lt hlt]
        rw [e]
        simp [hf]
      · have hp : 2 ^ (n + 1) ≤ 2 ^ k := Nat.pow_le_pow_right (by omega) g
        have e : (sideTo p a b n + 2 ^ n) / 2 ^ k = 0 := Nat.div_eq_of_lt (by rw [Nat.pow_succ] at hp; omega)
        rw [e]
        exact ⟨fun h => by omega, fun h => by omega⟩
/-- Is there an owner behind? -/
def Behind (ps : List Int) (o : Int) (a : Int) (s : Nat) : Prop := ∃ k : Nat, k < ps.length ∧ bitB o k = true ∧ firstIs ps a s k = true
theorem bitB_nat {o : Int} (h0 : 0 ≤ o) (k : Nat) (hk : k < 6) : bitB o k = decide (o.toNat / 2 ^ k % 2 = 1) := by
  obtain ⟨m, rfl⟩ := Int.eq_ofNat_of_zero_le h0
  unfold bitB
  rw [Int.toNat_natCast, Int.toNat_natCast]
  have e : ((m : Int) / 2 ^ k % 2 = 1) ↔ (m / 2 ^ k % 2 = 1) := by
    rw [show ((2 : Int) ^ k) = ((2 ^ k : Nat) : Int) by simp, ← Int.natCast_ediv]
    omega
  have h1 : decide ((0 : Int) ≤ (k : Nat)) = true := by simp
  have h2 : decide (((k : Nat) : Int) < 6) = true := by simp; omega
  rw [h1, h2]
  simp [e]
theorem meet_iff {ps : List Int} (hp : IsTree ps) {o : Int} (h0 : 0 ≤ o) (h1 : o < 64) (a : Int) (s : Nat) : (bits .and .i64 (sideTo ps a s ps.length : Nat) o == 0) = false ↔ Behind ps o a s := by
  have h6 : ps.length ≤ 6 := hp.choose_spec.six
  have hs := sideTo_lt ps a s ps.length
  have hs64 : sideTo ps a s ps.length < 64 := Nat.lt_of_lt_of_le hs (two_le h6)
  obtain ⟨m, rfl⟩ := Int.eq_ofNat_of_zero_le h0
  have e := and_bits_all ⟨sideTo ps a s ps.length, hs64⟩ ⟨m, by omega⟩
  simp only at e
  rw [e, Bool.not_eq_false', List.any_eq_true]
  constructor
  · rintro ⟨k, hk, hb⟩
    have hk6 := List.mem_range.1 hk
    rw [Bool.and_eq_true, decide_eq_true_eq, decide_eq_true_eq] at hb
    obtain ⟨g1, g2⟩ := (side_bit ps a s _ k).1 hb.1
    refine ⟨k, g1, ?_, g2⟩
    rw [bitB_nat (by omega) k hk6]
    simpa using hb.2
  · rintro ⟨k, g1, g2, g3⟩
    refine ⟨k, List.mem_range.2 (by omega), ?_⟩
    rw [bitB_nat (by omega) k (by omega)] at g2
    rw [Bool.and_eq_true, decide_eq_true_eq]
    exact ⟨(side_bit ps a s _ k).2 ⟨g1, g3⟩, by simpa using g2⟩
theorem nxt_mem {ps : List Int} (hp : IsTree ps) {o : Int} (h0 : 0 ≤ o) (h1 : o < 64) (c a : Int) (s : Nat) : s ∈ nxt ps ps.length o c a ↔ ∃ x : Nat, a = x ∧ x < ps.length ∧ s < ps.length ∧ Nr ps x s ∧ (s : Int) ≠ c ∧ Behind ps o a s := by
  unfold nxt keepL
  rw [List.mem_filter]
  unfold delB
  rw [Bool.not_eq_true', Bool.or_eq_false_iff, meet_iff hp h0 h1]
  unfold nearOf
  constructor
  · rintro ⟨g1, g2, g3⟩
    split at g1
    · rename_i g
      obtain ⟨n1, n2⟩ := near_mem.1 g1
      exact ⟨a.toNat, by omega, by omega, n1, n2, by simpa using g2, g3⟩
    · cases g1
  · rintro ⟨x, rfl, g1, g2, g3, g4, g5⟩
    rw [if_pos ⟨hp, by omega, by omega⟩]
    exact ⟨near_mem.2 ⟨g2, by simpa using g3⟩, by simpa using g4, g5⟩
theorem nxt_goes {ps : List Int} (hp : IsTree ps) {o : Int} (h0 : 0 ≤ o) (h1 : o < 64) : Goes ps (nxt ps ps.length o) := by
  refine ⟨fun c a s hs => ?_, fun c a => ?_⟩
  · obtain ⟨x, g1, g2, g3, g4, g5, _⟩ := (nxt_mem hp h0 h1 c a s).1 hs
    exact ⟨x, g1, g2, g3, g4, g5⟩
  · unfold nxt keepL nearOf
    refine List.Nodup.sublist List.filter_sublist ?_
    split
    · exact near_nodup _ _ _
    · exact List.nodup_nil
/-- Is a site come to? -/
def Came (ps : List Int) (o : Int) (f s : Nat) : Prop := ∃ c, (c, (s : Int)) ∈ allQ (nxt ps ps.length o) f
theorem came_start (ps : List Int) (o : Int) (f : Nat) : Came ps o f f := by
  obtain ⟨t, ht⟩ := all_start (nxt ps ps.length o) f
  exact ⟨-1, by rw [ht]; simp⟩
theorem wk_drop {ps : List Int} (hp : IsTree ps) {f k i x : Nat} (hf : f < ps.length) (hk : k < ps.length) (hx : (wk ps f k)[i]? = some x) : wk ps x k = (wk ps f k).drop i := by
  obtain ⟨h1, _, h3⟩ := wk_spec hp hf hk
  have hlt := (List.getElem?_eq_some_iff.1 hx).1
  refine wk_is hp (h1.sub ((wk ps f k).take i) [] (by simp)) ⟨?_, ?_⟩
  · rw [List.head?_drop]; exact hx
  · rw [List.getLast?_drop, if_neg (by omega)]; exact h3
theorem wk_take {ps : List Int} (hp : IsTree ps) {f k i x : Nat} (hf : f < ps.length) (hk : k < ps.length) (hx : (wk ps f k)[i]? = some x) : wk ps x f = ((wk ps f k).take (i + 1)).reverse := by
  obtain ⟨h1, h2, _⟩ := wk_spec hp hf hk
  obtain ⟨hlt, he⟩ := List.getElem?_eq_some_iff.1 hx
  refine wk_is hp (W.rev (h1.sub [] ((wk ps f k).drop (i + 1)) (by simp))) ⟨?_, ?_⟩
  · rw [List.head?_reverse, List.take_succ_eq_append_getElem hlt, he]; simp
  · rw [List.getLast?_reverse]
    cases hw : wk ps f k with
    | nil => rw [hw] at hlt; simp at hlt
    | cons u t => rw [hw] at h2; simpa using h2
/-- All that lies on the way to an owner is come to. -/
theorem came_way {ps : List Int} (hp : IsTree ps) {o : Int} (h0 : 0 ≤ o) (h1 : o < 64) {f k : Nat} (hf : f < ps.length) (hk : k < ps.length) (hb : bitB o k = true) : ∀ (i x : Nat), (wk ps f k)[i]? = some x → Came ps o f x
  | 0, x, hx => by
    obtain ⟨t, ht⟩ := wk_cons hp hf hk
    rw [ht] at hx
    obtain rfl : f = x := by simpa using hx
    exact came_start ps o f
  | i + 1, y, hy => by
    have hlt := (List.getElem?_eq_some_iff.1 hy).1
    obtain ⟨x, hx⟩ : ∃ x, (wk ps f k)[i]? = some x := ⟨_, List.getElem?_eq_getElem (by omega)⟩
    obtain ⟨c, hc⟩ := came_way hp h0 h1 hf hk hb i x hx
    obtain ⟨hw, _, _⟩ := wk_spec hp hf hk
    have hN := nxt_goes hp h0 h1 (ps := ps)
    obtain ⟨x', e, _, hpv⟩ := (QI.all hp hf hN 7).site c x hc
    have : x' = x := by omega
    subst this
    have hyl := hw.lt _ _ hy
    have hxl := hw.lt _ _ hx
    refine ⟨x', all_closed hp hf hN hc ((nxt_mem hp h0 h1 c x' y).2 ⟨x', rfl, hxl, hyl, hw.nr i x' y hx hy, ?_, k, hk, hb, ?_⟩)⟩
    · have ht := wk_take hp hf hk hx
      intro ec
      rcases hpv with ⟨_, g2⟩ | ⟨z, t, g1, g2⟩
      · omega
      · rw [ht] at g1
        cases i with
        | zero =>
          have hl : ((wk ps f k).take (0 + 1)).reverse.length ≤ 1 := by simp; omega
          rw [g1] at hl
          simp at hl
        | succ j =>
          obtain ⟨u, hu⟩ : ∃ u, (wk ps f k)[j]? = some u := ⟨_, List.getElem?_eq_getElem (by omega)⟩
          have hgt : (((wk ps f k).take (j + 1 + 1)).reverse)[1]? = some u := by
            rw [List.getElem?_reverse (by simp; omega), List.length_take, Nat.min_eq_left (by omega), List.getElem?_take_of_lt (by omega)]
            exact hu
          rw [g1] at hgt
          obtain rfl : z = u := by simpa using hgt
          exact hw.nb j z y hu (by simpa [Nat.add_assoc] using hy) (by omega)
    · rw [first_iff hp y hxl hk, wk_drop hp hf hk hx, List.getElem?_drop]
      exact hy
/-- What is come to lies on the way to an owner. -/
theorem way_behind {ps : List Int} (hp : IsTree ps) {o : Int} (h0 : 0 ≤ o) (h1 : o < 64) {f : Nat} (hf : f < ps.length) {c a : Int} (h : (c, a) ∈ allQ (nxt ps ps.length o) f) : (c = -1 ∧ a = f) ∨ ∃ (x s : Nat), c = x ∧ a = s ∧ x < ps.length ∧ s < ps.length ∧ Nr ps x s ∧ Behind ps o c s ∧ Pv ps f s c := by
  have hN := nxt_goes hp h0 h1 (ps := ps)
  have hq := QI.all hp hf hN 7
  obtain ⟨t, ht⟩ := List.getElem?_of_mem h
  rcases hq.from_ t c a ht with ⟨_, g1, g2⟩ | ⟨j, d, s, _, _, g3, g4, g5⟩
  · exact .inl ⟨g1, g2⟩
  · obtain ⟨x, e1, e2, e3, e4, e5, e6⟩ := (nxt_mem hp h0 h1 d c s).1 g5
    obtain ⟨s', k1, _, k3⟩ := hq.site c a h
    have : s' = s := by omega
    subst this
    exact .inr ⟨x, s', e1, g4, e2, e3, e4, e6, k3⟩
theorem came_iff {ps : List Int} (hp : IsTree ps) {o : Int} (h0 : 0 ≤ o) (h1 : o < 64) {f : Nat} (hf : f < ps.length) (s : Nat) : Came ps o f s ↔ s = f ∨ ∃ k, k < ps.length ∧ bitB o k = true ∧ s ∈ wk ps f k := by
  constructor
  · rintro ⟨c, hc⟩
    rcases way_behind hp h0 h1 hf hc with ⟨_, g⟩ | ⟨x, s', e1, e2, e3, e4, e5, ⟨k, k1, k2, k3⟩, e7⟩
    · exact .inl (by omega)
    · have : s' = s := by omega
      subst this
      refine .inr ⟨k, k1, k2, ?_⟩
      subst e1
      rcases e7 with ⟨_, g⟩ | ⟨y, t, g1, g2⟩
      · omega
      · have : x = y := by omega
        subst this
        rw [first_iff hp s' e3 k1] at k3
        obtain ⟨r, hr⟩ := wk_cons hp e3 k1
        rw [hr] at k3
        cases r with
        | nil => simp at k3
        | cons v r =>
          obtain rfl : v = s' := by simpa using k3
          obtain ⟨a1, _, a3⟩ := wk_spec hp e3 k1
          rw [hr] at a1 a3
          obtain ⟨b1, _, b3⟩ := wk_spec hp e4 hf
          rw [g1] at b1 b3
          have b1' := b1.rev
          rw [show (v :: x :: t).reverse = (t.reverse ++ [x]) ++ [v] by simp] at b1'
          have hw := W.glue a1 t.reverse b1'.init (fun p q hp2 hq => by
            intro e
            subst e
            simp at hq
            subst hq
            rw [List.getLast?_reverse] at hp2
            cases t with
            | nil => cases hp2
            | cons z t =>
              simp at hp2
              exact b1.nb 0 v z rfl (by simp) hp2.symm)
          have := wk_is hp hw (a := f) (b := k) ⟨by
            cases t with
            | nil => simp at b3 ⊢; exact b3
            | cons z t =>
              rw [List.getLast?_cons_cons, List.getLast?_cons_cons] at b3
              rw [List.head?_append, List.head?_reverse, b3]
              rfl, by rw [List.getLast?_append, a3]; rfl⟩
          rw [this]
          simp
  · rintro (rfl | ⟨k, k1, k2, k3⟩)
    · exact came_start ps o s
    · obtain ⟨i, hi⟩ := List.getElem?_of_mem k3
      exact came_way hp h0 h1 hf k1 k2 i s hi
end Go.Proofs.Ytjmfdacokdffiaa
