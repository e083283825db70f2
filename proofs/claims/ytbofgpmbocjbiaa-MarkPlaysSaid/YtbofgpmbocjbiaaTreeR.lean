/- The document's own Check of parents. -/
import Derived.Test.YtbofgpmbocjbiaaTreeM
set_option linter.unusedSimpArgs false
set_option linter.unusedVariables false
namespace Go.Proofs.Ytbofgpmbocjbiaa
open Go.RowKit

theorem it_more (p : List Int) (x : Int) (k : Nat) : ∀ m, k ≤ m → it p k x = -1 → it p m x = -1
  | 0, h, g => by obtain rfl : k = 0 := by omega
                  exact g
  | m + 1, h, g => by
    rcases Nat.lt_or_ge k (m + 1) with h2 | h2
    · exact it_stay p m x (it_more p x k m (by omega) g)
    · obtain rfl : k = m + 1 := by omega
      exact g
theorem roots_le (p : List Int) : ∀ j, rootsTo p j ≤ j
  | 0 => Nat.le_refl _
  | j + 1 => by have := roots_le p j; unfold rootsTo; split <;> omega

set_option maxHeartbeats 2000000 in
theorem rtree_check (A : Option Addr) (n c : Nat) (p : List Int) (w : World) (hx : IntsAt w A n c p) :
    Calls Try.prog 26 #[.slice A n c] w (BoolIs (IsTree p) w) := by
  obtain ⟨x1, x2, x3, x4, x5⟩ := hx
  unfold maxLen at x3
  have HX5 := Lib.hid x5
  have HX1 := Lib.hid x1
  clear x4 x5 x1
  rcases Nat.lt_or_ge n 1 with h1 | h1
  · have hn : Hid (¬ IsTree p) := fun h => by have := ((tree_iff p).1 h).1; have := HX1.out; omega
    have d1 : decide ((n : Int) < 1) = true := by simp; omega
    go_enter Try.func26, Try.ntmps26
    go_wp2_with fail
    go_ret
    exact boolNo rfl hn.out (by repeat (first | exact Kept.refl _ | assumption | (refine Kept.alloc ?_ _) | (refine Kept.setCell ?_ (by first | omega | (simp; omega) | simp) _) | refine Kept.drew ?_ | refine Kept.drewN ?_ _ | (apply Kept.call; rotate_left; assumption)))
  rcases Nat.lt_or_ge 6 n with h6 | h6
  · have hn : Hid (¬ IsTree p) := fun h => by have := ((tree_iff p).1 h).2.1; have := HX1.out; omega
    have d1 : decide ((n : Int) < 1) = false := by simp; omega
    have d6 : decide ((6 : Int) < (n : Int)) = true := by simp; omega
    go_enter Try.func26, Try.ntmps26
    go_wp2_with fail
    go_ret
    exact boolNo rfl hn.out (by repeat (first | exact Kept.refl _ | assumption | (refine Kept.alloc ?_ _) | (refine Kept.setCell ?_ (by first | omega | (simp; omega) | simp) _) | refine Kept.drew ?_ | refine Kept.drewN ?_ _ | (apply Kept.call; rotate_left; assumption)))
  have d1 : decide ((n : Int) < 1) = false := by simp; omega
  have d6 : decide ((6 : Int) < (n : Int)) = false := by simp; omega
  go_enter Try.func26, Try.ntmps26
  go_wp2_with fail
  go_loopw [3, 4] (fun r i wr => ∃ j : Nat, j ≤ n ∧ r = .int .i64 (rootsTo p j : Nat) ∧ i = .int .i64 j ∧ Kept w wr ∧ Hid (∀ x, x < j → (-1 ≤ pa p x ∧ pa p x < n) ∧ it p 7 x = -1)) (fun _ i _ => n - (intOf i).toNat)
  case atStart => exact ⟨0, by omega, rfl, rfl, by repeat (first | exact Kept.refl _ | assumption | (refine Kept.alloc ?_ _) | (refine Kept.setCell ?_ (by first | omega | (simp; omega) | simp) _) | refine Kept.drew ?_ | refine Kept.drewN ?_ _ | (apply Kept.call; rotate_left; assumption)), fun i hi => by omega⟩
  case round =>
    obtain ⟨j, hj, rfl, rfl, kr, hall⟩ := hrel
    obtain ⟨b, off, rfl, hc⟩ := HX5.out (by omega)
    by_cases hlt : j < n
    · have c1 : wr.cell? ⟨b, off + j, none⟩ = some (.int .i64 (pa p j)) := kr.at_ (hc j hlt)
      have HC := Lib.hid hc
      clear hc
      by_cases hrg : -1 ≤ pa p j ∧ pa p j < n
      · obtain ⟨g1, g2⟩ := hrg
        have hroots : rootsTo p (j + 1) = rootsTo p j + if pa p j = -1 then 1 else 0 := rfl
        by_cases hv : pa p j = -1
        · rw [if_pos hv] at hroots
          rw [hv] at c1
          have hrl := roots_le p j
          have HR := Lib.hid hroots
          have HRG : Hid (-1 ≤ pa p j ∧ pa p j < n) := ⟨g1, g2⟩
          clear hroots hv
          generalize rootsTo p j = r at *
          go_wp2_with fail
          go_loopw [5, 6] (fun at_ st wr2 => ∃ k : Nat, k ≤ 7 ∧ at_ = .int .i64 (it p k j) ∧ st = .int .i64 k ∧ Kept w wr2 ∧ -1 ≤ it p k j ∧ it p k j < n) (fun _ st _ => 7 - (intOf st).toNat)
          case atStart => exact ⟨0, by omega, rfl, rfl, by repeat (first | exact Kept.refl _ | assumption | (refine Kept.alloc ?_ _) | (refine Kept.setCell ?_ (by first | omega | (simp; omega) | simp) _) | refine Kept.drew ?_ | refine Kept.drewN ?_ _ | (apply Kept.call; rotate_left; assumption)), by show -1 ≤ (j : Int); omega, by show (j : Int) < n; omega⟩
          case round =>
            obtain ⟨k, hk, rfl, rfl, kr2, i1, i2⟩ := hrel
            by_cases hgo : k < 7 ∧ 0 ≤ it p k j
            · obtain ⟨hk7, hi0⟩ := hgo
              have hnext := it_next p k j hi0
              obtain ⟨y, hy⟩ : ∃ y : Nat, it p k j = y := ⟨(it p k j).toNat, by omega⟩
              rw [hy, Int.toNat_natCast] at hnext
              have hyn : y < n := by omega
              have c2 : wr.cell? ⟨b, off + y, none⟩ = some (.int .i64 (pa p y)) := kr2.at_ (HC.out y hyn)
              have HN := Lib.hid hnext
              have HY := Lib.hid hy
              rw [hy]
              clear hnext
              by_cases hbad : -1 ≤ pa p y ∧ pa p y < n
              · obtain ⟨g3, g4⟩ := hbad
                clear hy
                generalize pa p y = z at *
                go_wp2_with fail
                go_roundw
                case rel => exact ⟨k + 1, by omega, by rw [HN.out], by go_num, by repeat (first | exact Kept.refl _ | assumption | (refine Kept.alloc ?_ _) | (refine Kept.setCell ?_ (by first | omega | (simp; omega) | simp) _) | refine Kept.drew ?_ | refine Kept.drewN ?_ _ | (apply Kept.call; rotate_left; assumption)), by rw [HN.out]; exact g3, by rw [HN.out]; exact g4⟩
                case measure => simp [intOf]; omega
              · have hno : Hid (¬ IsTree p) := fun h => hbad (by have := ((tree_iff p).1 h).2.2.1 y (by rw [HX1.out]; exact hyn); rwa [HX1.out] at this)
                clear hy
                generalize pa p y = z at *
                rcases Int.lt_or_le z (-1) with g3 | g3
                · go_wp2_with fail
                  go_ret
                  exact boolNo rfl hno.out (by repeat (first | exact Kept.refl _ | assumption | (refine Kept.alloc ?_ _) | (refine Kept.setCell ?_ (by first | omega | (simp; omega) | simp) _) | refine Kept.drew ?_ | refine Kept.drewN ?_ _ | (apply Kept.call; rotate_left; assumption)))
                · have g4 : (n : Int) ≤ z := by omega
                  clear hbad
                  go_wp2_with fail
                  go_ret
                  exact boolNo rfl hno.out (by repeat (first | exact Kept.refl _ | assumption | (refine Kept.alloc ?_ _) | (refine Kept.setCell ?_ (by first | omega | (simp; omega) | simp) _) | refine Kept.drew ?_ | refine Kept.drewN ?_ _ | (apply Kept.call; rotate_left; assumption)))
            · by_cases hz : it p k j = -1
              · have h7 : Hid (∀ x, x < j + 1 → (-1 ≤ pa p x ∧ pa p x < n) ∧ it p 7 x = -1) := fun x hx => by
                  rcases Nat.lt_or_ge x j with g | g
                  · exact hall x g
                  · obtain rfl : x = j := by omega
                    exact ⟨HRG.out, it_more p x k 7 hk hz⟩
                rw [hz]
                have hk0 : (k : Int) ≤ 7 := by omega
                clear hgo i1 i2 hz
                by_cases hk7 : k < 7
                · go_wp2_with fail
                  go_roundw
                  case rel => exact ⟨j + 1, by omega, by rw [HR.out]; go_num, by go_num, by repeat (first | exact Kept.refl _ | assumption | (refine Kept.alloc ?_ _) | (refine Kept.setCell ?_ (by first | omega | (simp; omega) | simp) _) | refine Kept.drew ?_ | refine Kept.drewN ?_ _ | (apply Kept.call; rotate_left; assumption)), h7⟩
                  case measure => simp [intOf]; omega
                · go_wp2_with fail
                  go_roundw
                  case rel => exact ⟨j + 1, by omega, by rw [HR.out]; go_num, by go_num, by repeat (first | exact Kept.refl _ | assumption | (refine Kept.alloc ?_ _) | (refine Kept.setCell ?_ (by first | omega | (simp; omega) | simp) _) | refine Kept.drew ?_ | refine Kept.drewN ?_ _ | (apply Kept.call; rotate_left; assumption)), h7⟩
                  case measure => simp [intOf]; omega
              · obtain rfl : k = 7 := by omega
                have hno : Hid (¬ IsTree p) := fun h => hz (((tree_iff p).1 h).2.2.2.2 j (by rw [HX1.out]; exact hlt))
                have hz2 : (it p 7 j != -1) = true := by simpa using hz
                clear hgo hz
                generalize it p 7 j = z at *
                go_wp2_with fail
                go_ret
                exact boolNo rfl hno.out (by repeat (first | exact Kept.refl _ | assumption | (refine Kept.alloc ?_ _) | (refine Kept.setCell ?_ (by first | omega | (simp; omega) | simp) _) | refine Kept.drew ?_ | refine Kept.drewN ?_ _ | (apply Kept.call; rotate_left; assumption)))
        · rw [if_neg hv, Nat.add_zero] at hroots
          have hv2 : (pa p j == -1) = false := by simpa using hv
          have hrl := roots_le p j
          have HR := Lib.hid hroots
          have HRG : Hid (-1 ≤ pa p j ∧ pa p j < n) := ⟨g1, g2⟩
          clear hroots hv
          generalize rootsTo p j = r at *
          go_wp2_with fail
          go_loopw [5, 6] (fun at_ st wr2 => ∃ k : Nat, k ≤ 7 ∧ at_ = .int .i64 (it p k j) ∧ st = .int .i64 k ∧ Kept w wr2 ∧ -1 ≤ it p k j ∧ it p k j < n) (fun _ st _ => 7 - (intOf st).toNat)
          case atStart => exact ⟨0, by omega, rfl, rfl, by repeat (first | exact Kept.refl _ | assumption | (refine Kept.alloc ?_ _) | (refine Kept.setCell ?_ (by first | omega | (simp; omega) | simp) _) | refine Kept.drew ?_ | refine Kept.drewN ?_ _ | (apply Kept.call; rotate_left; assumption)), by show -1 ≤ (j : Int); omega, by show (j : Int) < n; omega⟩
          case round =>
            obtain ⟨k, hk, rfl, rfl, kr2, i1, i2⟩ := hrel
            by_cases hgo : k < 7 ∧ 0 ≤ it p k j
            · obtain ⟨hk7, hi0⟩ := hgo
              have hnext := it_next p k j hi0
              obtain ⟨y, hy⟩ : ∃ y : Nat, it p k j = y := ⟨(it p k j).toNat, by omega⟩
              rw [hy, Int.toNat_natCast] at hnext
              have hyn : y < n := by omega
              have c2 : wr.cell? ⟨b, off + y, none⟩ = some (.int .i64 (pa p y)) := kr2.at_ (HC.out y hyn)
              have HN := Lib.hid hnext
              have HY := Lib.hid hy
              rw [hy]
              clear hnext
              by_cases hbad : -1 ≤ pa p y ∧ pa p y < n
              · obtain ⟨g3, g4⟩ := hbad
                clear hy
                generalize pa p y = z at *
                go_wp2_with fail
                go_roundw
                case rel => exact ⟨k + 1, by omega, by rw [HN.out], by go_num, by repeat (first | exact Kept.refl _ | assumption | (refine Kept.alloc ?_ _) | (refine Kept.setCell ?_ (by first | omega | (simp; omega) | simp) _) | refine Kept.drew ?_ | refine Kept.drewN ?_ _ | (apply Kept.call; rotate_left; assumption)), by rw [HN.out]; exact g3, by rw [HN.out]; exact g4⟩
                case measure => simp [intOf]; omega
              · have hno : Hid (¬ IsTree p) := fun h => hbad (by have := ((tree_iff p).1 h).2.2.1 y (by rw [HX1.out]; exact hyn); rwa [HX1.out] at this)
                clear hy
                generalize pa p y = z at *
                rcases Int.lt_or_le z (-1) with g3 | g3
                · go_wp2_with fail
                  go_ret
                  exact boolNo rfl hno.out (by repeat (first | exact Kept.refl _ | assumption | (refine Kept.alloc ?_ _) | (refine Kept.setCell ?_ (by first | omega | (simp; omega) | simp) _) | refine Kept.drew ?_ | refine Kept.drewN ?_ _ | (apply Kept.call; rotate_left; assumption)))
                · have g4 : (n : Int) ≤ z := by omega
                  clear hbad
                  go_wp2_with fail
                  go_ret
                  exact boolNo rfl hno.out (by repeat (first | exact Kept.refl _ | assumption | (refine Kept.alloc ?_ _) | (refine Kept.setCell ?_ (by first | omega | (simp; omega) | simp) _) | refine Kept.drew ?_ | refine Kept.drewN ?_ _ | (apply Kept.call; rotate_left; assumption)))
            · by_cases hz : it p k j = -1
              · have h7 : Hid (∀ x, x < j + 1 → (-1 ≤ pa p x ∧ pa p x < n) ∧ it p 7 x = -1) := fun x hx => by
                  rcases Nat.lt_or_ge x j with g | g
                  · exact hall x g
                  · obtain rfl : x = j := by omega
                    exact ⟨HRG.out, it_more p x k 7 hk hz⟩
                rw [hz]
                have hk0 : (k : Int) ≤ 7 := by omega
                clear hgo i1 i2 hz
                by_cases hk7 : k < 7
                · go_wp2_with fail
                  go_roundw
                  case rel => exact ⟨j + 1, by omega, by rw [HR.out]; rfl, by go_num, by repeat (first | exact Kept.refl _ | assumption | (refine Kept.alloc ?_ _) | (refine Kept.setCell ?_ (by first | omega | (simp; omega) | simp) _) | refine Kept.drew ?_ | refine Kept.drewN ?_ _ | (apply Kept.call; rotate_left; assumption)), h7⟩
                  case measure => simp [intOf]; omega
                · go_wp2_with fail
                  go_roundw
                  case rel => exact ⟨j + 1, by omega, by rw [HR.out]; rfl, by go_num, by repeat (first | exact Kept.refl _ | assumption | (refine Kept.alloc ?_ _) | (refine Kept.setCell ?_ (by first | omega | (simp; omega) | simp) _) | refine Kept.drew ?_ | refine Kept.drewN ?_ _ | (apply Kept.call; rotate_left; assumption)), h7⟩
                  case measure => simp [intOf]; omega
              · obtain rfl : k = 7 := by omega
                have hno : Hid (¬ IsTree p) := fun h => hz (((tree_iff p).1 h).2.2.2.2 j (by rw [HX1.out]; exact hlt))
                have hz2 : (it p 7 j != -1) = true := by simpa using hz
                clear hgo hz
                generalize it p 7 j = z at *
                go_wp2_with fail
                go_ret
                exact boolNo rfl hno.out (by repeat (first | exact Kept.refl _ | assumption | (refine Kept.alloc ?_ _) | (refine Kept.setCell ?_ (by first | omega | (simp; omega) | simp) _) | refine Kept.drew ?_ | refine Kept.drewN ?_ _ | (apply Kept.call; rotate_left; assumption)))
      · have hno : Hid (¬ IsTree p) := fun h => hrg (by have := ((tree_iff p).1 h).2.2.1 j (by rw [HX1.out]; exact hlt); rwa [HX1.out] at this)
        rcases Int.lt_or_le (pa p j) (-1) with g3 | g3
        · clear hrg
          generalize pa p j = v at *
          go_wp2_with fail
          go_ret
          exact boolNo rfl hno.out (by repeat (first | exact Kept.refl _ | assumption | (refine Kept.alloc ?_ _) | (refine Kept.setCell ?_ (by first | omega | (simp; omega) | simp) _) | refine Kept.drew ?_ | refine Kept.drewN ?_ _ | (apply Kept.call; rotate_left; assumption)))
        · have g4 : (n : Int) ≤ pa p j := by omega
          clear hrg
          generalize pa p j = v at *
          go_wp2_with fail
          go_ret
          exact boolNo rfl hno.out (by repeat (first | exact Kept.refl _ | assumption | (refine Kept.alloc ?_ _) | (refine Kept.setCell ?_ (by first | omega | (simp; omega) | simp) _) | refine Kept.drew ?_ | refine Kept.drewN ?_ _ | (apply Kept.call; rotate_left; assumption)))
    · obtain rfl : j = n := by omega
      have hiff : Hid (rootsTo p j = 1 ↔ IsTree p) := by
        refine (Iff.trans ⟨fun h => ?_, fun h => ?_⟩ (tree_iff p).symm)
        · have e := HX1.out
          exact ⟨by omega, by omega, fun x hx => by rw [e] at hx ⊢; exact (hall x hx).1, by rw [e]; exact h, fun x hx => by rw [e] at hx; exact (hall x hx).2⟩
        · have := h.2.2.2.1
          rwa [HX1.out] at this
      have hrl := roots_le p j
      generalize rootsTo p j = r at *
      go_wp2_with fail
      go_ret
      refine ⟨_, rfl, ?_, by repeat (first | exact Kept.refl _ | assumption | (refine Kept.alloc ?_ _) | (refine Kept.setCell ?_ (by first | omega | (simp; omega) | simp) _) | refine Kept.drew ?_ | refine Kept.drewN ?_ _ | (apply Kept.call; rotate_left; assumption))⟩
      rw [← hiff.out]
      simp
      omega
end Go.Proofs.Ytbofgpmbocjbiaa
