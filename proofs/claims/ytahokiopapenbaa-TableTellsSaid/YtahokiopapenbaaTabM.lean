/- Rows of ranges: Whole, Find, by the program and by the document. -/
import Derived.Test.YtahokiopapenbaaTabK
set_option linter.unusedSimpArgs false
set_option linter.unusedVariables false
namespace Go.Proofs.Ytahokiopapenbaa
open Go.RowKit

abbrev Rg := ByteArray × ByteArray
def rg (rs : List Rg) (i : Nat) : Rg := rs[i]?.getD (nil, nil)
def RowS (w : World) (A : Option Addr) (n c : Nat) (rs : List Rg) : Prop :=
  rs.length = n ∧ n ≤ c ∧ c ≤ maxLen ∧ (A = none → n = 0 ∧ c = 0) ∧ (0 < n → ∃ b off, A = some ⟨b, off, none⟩ ∧ ∀ i, i < n → w.cell? ⟨b, off + i * 2, none⟩ = some (.string (rg rs i).1) ∧ w.cell? ⟨b, off + i * 2 + 1, none⟩ = some (.string (rg rs i).2))
theorem RowS.keep {w w2 : World} {A : Option Addr} {n c : Nat} {rs : List Rg} (h : RowS w A n c rs) (hk : Kept w w2) : RowS w2 A n c rs := by
  obtain ⟨h1, h2, h3, h4, h5⟩ := h
  refine ⟨h1, h2, h3, h4, fun h0 => ?_⟩
  obtain ⟨b, off, rfl, hc⟩ := h5 h0
  exact ⟨b, off, rfl, fun i hi => ⟨hk.at_ (hc i hi).1, hk.at_ (hc i hi).2⟩⟩
def rgs (es : List Nat) : List Rg := (List.range (es.length + 1)).map fun i => (fr es i, to es i)
theorem rgs_len (es : List Nat) : (rgs es).length = es.length + 1 := by simp [rgs]
theorem rgs_at {es : List Nat} {i : Nat} (hi : i ≤ es.length) : rg (rgs es) i = (fr es i, to es i) := by
  unfold rg rgs
  rw [List.getElem?_map, List.getElem?_range (by omega)]
  rfl
/-- The first one that has a key, or -1. -/
def FirstIs (rs : List Rg) (k : ByteArray) (r : Int) : Prop := (r = -1 ∧ ∀ i, i < rs.length → hasB (rg rs i).1 (rg rs i).2 k = false) ∨ ∃ i : Nat, r = i ∧ i < rs.length ∧ hasB (rg rs i).1 (rg rs i).2 k = true ∧ ∀ j, j < i → hasB (rg rs j).1 (rg rs j).2 k = false
theorem first_rgs {es : List Nat} (hu : Up es) {k : ByteArray} {r : Int} (h : FirstIs (rgs es) k r) : r = findI es (hv k) := by
  have hle := find_le es (hv k)
  rcases h with ⟨_, h⟩ | ⟨i, rfl, hi, h, _⟩
  · have := h (findI es (hv k)) (by rw [rgs_len]; omega)
    rw [rgs_at hle, has_iff hu hle, decide_eq_true rfl] at this
    cases this
  · rw [rgs_len] at hi
    rw [rgs_at (by omega), has_iff hu (by omega)] at h
    have := of_decide_eq_true h
    omega
theorem fr_plain {es : List Nat} (hu : Up es) {i : Nat} (hi : i ≤ es.length) : Plain (fr es i) := by
  unfold fr
  split
  · exact .inl rfl
  · have := hu.rng (i - 1) (by omega)
    exact .inr ⟨_, rfl, by omega, by omega⟩
theorem to_plain {es : List Nat} (hu : Up es) {i : Nat} (hi : i ≤ es.length) : Plain (to es i) := by
  unfold to
  split
  · have := hu.rng i (by omega)
    exact .inr ⟨_, rfl, by omega, by omega⟩
  · exact .inl rfl
theorem fr_to {es : List Nat} (hu : Up es) {i : Nat} (hi : i ≤ es.length) : to es i = nil ∨ Op.bytesLess (fr es i).toList (to es i).toList = true := by
  unfold to
  split
  · rename_i h
    have h1 := hu.rng i h
    right
    rw [less_ch _ (by omega)]
    unfold fr
    split
    · rw [hv_nil]; simp; omega
    · have h2 := hu.rng (i - 1) (by omega)
      have h3 := hu.up (i - 1) i (by omega) h
      rw [hv_ch (by omega)]
      simp
      omega
  · exact .inl rfl
/-- Where the next one must begin. -/
theorem fr_next (es : List Nat) {i : Nat} (hi : i < es.length) : fr es (i + 1) = to es i := by
  unfold fr to
  rw [if_neg (by omega), if_pos hi]
  rfl
theorem to_last (es : List Nat) : to es es.length = nil := by unfold to; rw [if_neg (by omega)]
theorem fr_zero (es : List Nat) : fr es 0 = nil := rfl
theorem fr_some {es : List Nat} {i : Nat} (hi : 0 < i) : (fr es i).toList.isEmpty = false := by
  unfold fr
  rw [if_neg (by omega), ch_toList]
  rfl
set_option maxHeartbeats 2000000 in
theorem whole_any (A : Option Addr) (n c : Nat) (es : List Nat) (w : World) (hx : RowS w A n c (rgs es)) (hu : Up es) :
    Calls Try.prog 32 #[.slice A n c] w fun e w' => e = .returned (.bool true) ∧ Kept w w' := by
  have hn : es.length + 1 = n := by have := hx.1; rwa [rgs_len] at this
  have h6 := hu.six
  obtain ⟨b, off, rfl, hc⟩ := hx.2.2.2.2 (by omega)
  have hcc : n ≤ c ∧ c ≤ 9223372036854775807 := by have h1 := hx.2.1; have h2 := hx.2.2.1; unfold maxLen at h2; omega
  have HU := Lib.hid hu
  have HC : Hid (∀ i, i < n → w.cell? ⟨b, off + i * 2, none⟩ = some (.string (fr es i)) ∧ w.cell? ⟨b, off + i * 2 + 1, none⟩ = some (.string (to es i))) := fun i hi => by
    have := hc i hi
    rwa [rgs_at (by omega)] at this
  clear hx hc hu
  have hz := Lib.hid (fr_zero es)
  go_enter Try.func32, Try.ntmps32
  go_wp2_with fail
  go_loopw [3, 8] (fun av iv wr => ∃ i : Nat, i ≤ n ∧ av = .string (if i < n then fr es i else nil) ∧ iv = .int .i64 i ∧ Kept w wr) (fun _ iv _ => n - (intOf iv).toNat)
  case atStart => exact ⟨0, by omega, by rw [if_pos (by omega), hz.out]; rfl, rfl, by repeat (first | exact Kept.refl _ | assumption | (refine Kept.alloc ?_ _) | (refine Kept.setCell ?_ (by first | omega | (simp; omega) | simp) _) | refine Kept.drew ?_ | refine Kept.drewN ?_ _ | (apply Kept.call; rotate_left; assumption))⟩
  case round =>
    obtain ⟨i, hi, rfl, rfl, kr⟩ := hrel
    by_cases hlt : i < n
    · obtain ⟨c1, c2⟩ := HC.out i hlt
      have c1 := kr.at_ c1
      have c2 := kr.at_ c2
      rw [if_pos hlt]
      have hg := Lib.hid (good_any (fr es i) (to es i) · (fr_plain HU.out (by omega)) (to_plain HU.out (by omega)) (fr_to HU.out (by omega)))
      have hnx : Hid ((if i + 1 < n then fr es (i + 1) else nil) = to es i) := by
        unfold Hid
        split
        · exact fr_next es (by omega)
        · rw [show i = es.length by omega, to_last]
      rcases Nat.eq_zero_or_pos i with h0 | h0
      · have d0 : decide ((0 : Int) < (i : Int)) = false := by simp; omega
        have d1 : decide (0 < i) = false := by simp; omega
        clear h0
        generalize fr es i = f at *
        generalize to es i = t at *
        go_wp2_with fail
        refine (hg.out _).mono ?_
        rintro e w2 ⟨rfl, k2⟩
        have K2 : Kept w w2 := Kept.call (by repeat (first | exact Kept.refl _ | assumption | (refine Kept.alloc ?_ _) | (refine Kept.setCell ?_ (by first | omega | (simp; omega) | simp) _) | refine Kept.drew ?_ | refine Kept.drewN ?_ _ | (apply Kept.call; rotate_left; assumption))) k2
        have c3 : w2.cell? ⟨wr.heap.size, 0, none⟩ = some (.string f) := k2.at_ (by go_simp)
        have c4 : w2.cell? ⟨wr.heap.size, 1, none⟩ = some (.string t) := k2.at_ (by go_simp)
        go_wp2_with fail
        go_roundw
        case rel => first | exact ⟨i + 1, by omega, by rw [hnx.out], by go_num, K2⟩ | ((repeat apply Exists.intro); exact ⟨⟨i + 1, by omega, by rw [hnx.out], by go_num, K2⟩, rfl⟩)
        case measure => simp [intOf]; omega
      · have hse := fr_some (es := es) h0
        have d0 : decide ((0 : Int) < (i : Int)) = true := by simp; omega
        have d1 : decide (0 < i) = true := by simp; omega
        clear h0
        generalize fr es i = f at *
        generalize to es i = t at *
        go_wp2_with fail
        refine (hg.out _).mono ?_
        rintro e w2 ⟨rfl, k2⟩
        have K2 : Kept w w2 := Kept.call (by repeat (first | exact Kept.refl _ | assumption | (refine Kept.alloc ?_ _) | (refine Kept.setCell ?_ (by first | omega | (simp; omega) | simp) _) | refine Kept.drew ?_ | refine Kept.drewN ?_ _ | (apply Kept.call; rotate_left; assumption))) k2
        have c3 : w2.cell? ⟨wr.heap.size, 0, none⟩ = some (.string f) := k2.at_ (by go_simp)
        have c4 : w2.cell? ⟨wr.heap.size, 1, none⟩ = some (.string t) := k2.at_ (by go_simp)
        go_wp2_with fail
        go_roundw
        case rel => first | exact ⟨i + 1, by omega, by rw [hnx.out], by go_num, K2⟩ | ((repeat apply Exists.intro); exact ⟨⟨i + 1, by omega, by rw [hnx.out], by go_num, K2⟩, rfl⟩)
        case measure => simp [intOf]; omega
    · obtain rfl : i = n := by omega
      rw [if_neg (by omega)]
      have hne : nil.toList.isEmpty = true := by rw [nil_toList]; rfl
      generalize nil = z at *
      go_wp2_with fail
      go_ret
      exact ⟨by first | rfl | exact ret_bool (by simp; omega), kr⟩
end Go.Proofs.Ytahokiopapenbaa
