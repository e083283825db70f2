/- The document's Whole, Check, Owners and Meet, at rows that fit. -/
import Derived.Test.YtjmfdacokdffiaaRouJ
set_option linter.unusedSimpArgs false
set_option linter.unusedVariables false
namespace Go.Proofs.Ytjmfdacokdffiaa
open Go.RowKit

set_option maxRecDepth 20000 in
set_option maxHeartbeats 4000000 in
theorem rwhole_any (A : Option Addr) (n c : Nat) (es : List Nat) (w : World) (hx : RowS w A n c (rgs es)) (hu : Up es) :
    Calls Try.prog 46 #[.slice A n c] w fun e w' => e = .returned (.bool true) ∧ Kept w w' := by
  have hn : es.length + 1 = n := by have := hx.1; rwa [rgs_len] at this
  have h6 := hu.six
  obtain ⟨b, off, rfl, hc⟩ := hx.2.2.2.2 (by omega)
  have hcc : n ≤ c ∧ c ≤ 9223372036854775807 := by have h1 := hx.2.1; have h2 := hx.2.2.1; unfold maxLen at h2; omega
  have HU := Lib.hid hu
  have HC : Hid (∀ i, i < n → w.cell? ⟨b, off + i * 2, none⟩ = some (.string (fr es i)) ∧ w.cell? ⟨b, off + i * 2 + 1, none⟩ = some (.string (to es i))) := fun i hi => by
    have := hc i hi
    rwa [rgs_at (by omega)] at this
  clear hx hc hu
  go_enter Try.func46, Try.ntmps46
  go_wp2_with fail
  go_loopw [3] (fun iv wr => ∃ i : Nat, i ≤ n ∧ iv = .int .i64 i ∧ Kept w wr) (fun iv _ => n - (intOf iv).toNat)
  case atStart => exact ⟨0, by omega, rfl, by repeat (first | exact Kept.refl _ | assumption | (refine Kept.alloc ?_ _) | (refine Kept.setCell ?_ (by first | omega | (simp; omega) | simp) _) | refine Kept.drew ?_ | refine Kept.drewN ?_ _ | (apply Kept.call; rotate_left; assumption))⟩
  case round =>
    obtain ⟨i, hi, rfl, kr⟩ := hrel
    by_cases hlt : i < n
    · obtain ⟨c1, c2⟩ := HC.out i hlt
      have c1 := kr.at_ c1
      have c2 := kr.at_ c2
      have hg := Lib.hid (rgood_any (fr es i) (to es i) · (fr_plain HU.out (by omega)) (to_plain HU.out (by omega)) (fr_to HU.out (by omega)))
      rcases Nat.eq_zero_or_pos i with h0 | h0
      · subst h0
        have hz : (fr es 0).toList.isEmpty = true := by rw [fr_zero, nil_toList]; rfl
        generalize fr es 0 = f at *
        generalize to es 0 = t at *
        simp only [Nat.zero_mul, Nat.add_zero] at c1 c2
        go_wp2_with fail
        refine (hg.out _).mono ?_
        rintro e w2 ⟨rfl, k2⟩
        have K2 := kr.call k2
        have c1 := k2.at_ c1
        have c2 := k2.at_ c2
        go_wp2_with fail
        refine wp_region_text keepsOne (fun wB => Kept w wB ∧ wB.cell? ⟨b, off, none⟩ = some (.string f) ∧ wB.cell? ⟨b, off + 1, none⟩ = some (.string t)) ?_ (by kernel_rfl) (by kernel_rfl) _ (by (try simp only [List.append_eq, List.cons_append, List.nil_append, List.toList_toArray]); exact rfl) ?_
        · exact ⟨by repeat (first | exact Kept.refl _ | assumption | (refine Kept.alloc ?_ _) | (refine Kept.setCell ?_ (by first | omega | (simp; omega) | simp) _) | refine Kept.drew ?_ | refine Kept.drewN ?_ _ | (apply Kept.call; rotate_left; assumption)), by first | assumption | go_simp, by first | assumption | go_simp⟩
        rintro wB ⟨hkB, sB1, sB2⟩
        repeat (first | (apply DW.det; (focus (intro wd hI; have td1 := hI.at_ sB1; have td2 := hI.at_ sB2; skip; go_wp2_with (fail); refine StepPost.mk _ rfl ⟨rfl, ?_⟩; repeat (first | exact Kept.refl _ | assumption | (refine Kept.alloc ?_ _) | (refine Kept.setCell ?_ (by first | omega | (simp; omega) | simp) _) | refine Kept.drew ?_ | refine Kept.drewN ?_ _ | (apply Kept.call; rotate_left; assumption)))); simp only [Act.put, List.setIfInBounds_toArray, List.set_cons_succ, List.set_cons_zero]) | (refine DW.loud (by kernel_rfl) ?_; intro wd hI; have td1 := hI.at_ sB1; have td2 := hI.at_ sB2; skip; go_wp2_with (fail); refine StepPost.loud _ rfl (by repeat (first | exact Kept.refl _ | assumption | (refine Kept.alloc ?_ _) | (refine Kept.setCell ?_ (by first | omega | (simp; omega) | simp) _) | refine Kept.drew ?_ | refine Kept.drewN ?_ _ | (apply Kept.call; rotate_left; assumption))) (fun hkL => ?_); have hkL := hI.call hkL; have hkB := hkB.call hkL; have sB1 := hkL.at_ sB1; have sB2 := hkL.at_ sB2; simp only [Act.put, List.setIfInBounds_toArray, List.set_cons_succ, List.set_cons_zero]))
        refine DW.nil ?_
        intro wd hI
        have hkd := hkB.call hI
        have td1 := hI.at_ sB1; have td2 := hI.at_ sB2
        go_wp2_with fail
        go_roundw
        case rel => first | exact ⟨1, by omega, by go_num, hkd⟩ | ((repeat apply Exists.intro); exact ⟨⟨1, by omega, by go_num, hkd⟩, rfl⟩)
        case measure => first | (simp [intOf]; done) | (simp [intOf]; omega)
      · obtain ⟨p, rfl⟩ : ∃ p, i = p + 1 := ⟨i - 1, by omega⟩
        have hse := fr_some (es := es) h0
        obtain ⟨c3, c4⟩ := HC.out p (by omega)
        have c4 := kr.at_ c4
        rw [← fr_next es (by omega)] at c4
        have d0 : ((((p + 1 : Nat)) : Int) == 0) = false := by first | (simp; done) | (simp; omega)
        have d1 : (((p : Int) + 1) == 0) = false := by first | (simp; done) | (simp; omega)
        have d2 : decide ((0 : Int) < (p : Int) + 1) = true := by first | (simp; done) | (simp; omega)
        generalize fr es (p + 1) = f at *
        generalize to es (p + 1) = t at *
        go_wp2_with fail
        refine (hg.out _).mono ?_
        rintro e w2 ⟨rfl, k2⟩
        have K2 := kr.call k2
        have c1 := k2.at_ c1
        have c2 := k2.at_ c2
        have c4 := k2.at_ c4
        go_wp2_with fail
        refine wp_region_text keepsOne (fun wB => Kept w wB ∧ wB.cell? ⟨b, off + (p + 1) * 2, none⟩ = some (.string f) ∧ wB.cell? ⟨b, off + (p + 1) * 2 + 1, none⟩ = some (.string t) ∧ wB.cell? ⟨b, off + p * 2 + 1, none⟩ = some (.string f)) ?_ (by kernel_rfl) (by kernel_rfl) _ (by (try simp only [List.append_eq, List.cons_append, List.nil_append, List.toList_toArray]); exact rfl) ?_
        · exact ⟨by repeat (first | exact Kept.refl _ | assumption | (refine Kept.alloc ?_ _) | (refine Kept.setCell ?_ (by first | omega | (simp; omega) | simp) _) | refine Kept.drew ?_ | refine Kept.drewN ?_ _ | (apply Kept.call; rotate_left; assumption)), by first | assumption | go_simp, by first | assumption | go_simp, by first | assumption | go_simp⟩
        rintro wB ⟨hkB, sB1, sB2, sB3⟩
        repeat (first | (apply DW.det; (focus (intro wd hI; have td1 := hI.at_ sB1; have td2 := hI.at_ sB2; have td3 := hI.at_ sB3; skip; go_wp2_with (fail); refine StepPost.mk _ rfl ⟨rfl, ?_⟩; repeat (first | exact Kept.refl _ | assumption | (refine Kept.alloc ?_ _) | (refine Kept.setCell ?_ (by first | omega | (simp; omega) | simp) _) | refine Kept.drew ?_ | refine Kept.drewN ?_ _ | (apply Kept.call; rotate_left; assumption)))); simp only [Act.put, List.setIfInBounds_toArray, List.set_cons_succ, List.set_cons_zero]) | (refine DW.loud (by kernel_rfl) ?_; intro wd hI; have td1 := hI.at_ sB1; have td2 := hI.at_ sB2; have td3 := hI.at_ sB3; skip; go_wp2_with (fail); refine StepPost.loud _ rfl (by repeat (first | exact Kept.refl _ | assumption | (refine Kept.alloc ?_ _) | (refine Kept.setCell ?_ (by first | omega | (simp; omega) | simp) _) | refine Kept.drew ?_ | refine Kept.drewN ?_ _ | (apply Kept.call; rotate_left; assumption))) (fun hkL => ?_); have hkL := hI.call hkL; have hkB := hkB.call hkL; have sB1 := hkL.at_ sB1; have sB2 := hkL.at_ sB2; have sB3 := hkL.at_ sB3; simp only [Act.put, List.setIfInBounds_toArray, List.set_cons_succ, List.set_cons_zero]))
        refine DW.nil ?_
        intro wd hI
        have hkd := hkB.call hI
        have td1 := hI.at_ sB1; have td2 := hI.at_ sB2; have td3 := hI.at_ sB3
        go_wp2_with fail
        go_roundw
        case rel => first | exact ⟨p + 1 + 1, by omega, by go_num, hkd⟩ | ((repeat apply Exists.intro); exact ⟨⟨p + 1 + 1, by omega, by go_num, hkd⟩, rfl⟩)
        case measure => first | (simp [intOf]; done) | (simp [intOf]; omega)
    · obtain rfl : i = n := by omega
      obtain ⟨p, rfl⟩ : ∃ p, i = p + 1 := ⟨i - 1, by omega⟩
      obtain ⟨c3, c4⟩ := HC.out p (by omega)
      have c4 := kr.at_ c4
      have hne : (to es p).toList.isEmpty = true := by rw [show p = es.length by omega, to_last, nil_toList]; rfl
      have d2 : decide ((0 : Int) < (p : Int) + 1) = true := by first | (simp; done) | (simp; omega)
      generalize to es p = t at *
      go_wp2_with fail
      go_ret
      exact ⟨rfl, kr⟩
def Meets (a b : Nat) : Prop := ∃ k, a / 2 ^ k % 2 = 1 ∧ b / 2 ^ k % 2 = 1
theorem meets_step (a b : Nat) : Meets a b ↔ (a % 2 = 1 ∧ b % 2 = 1) ∨ Meets (a / 2) (b / 2) := by
  have key : ∀ x k : Nat, x / 2 / 2 ^ k = x / 2 ^ (k + 1) := fun x k => by rw [Nat.div_div_eq_div_mul, Nat.pow_succ, Nat.mul_comm]
  constructor
  · rintro ⟨k, h1, h2⟩
    cases k with
    | zero => left; exact ⟨by simpa using h1, by simpa using h2⟩
    | succ k => right; exact ⟨k, by rw [key]; exact h1, by rw [key]; exact h2⟩
  · rintro (⟨h1, h2⟩ | ⟨k, h1, h2⟩)
    · exact ⟨0, by simpa using h1, by simpa using h2⟩
    · exact ⟨k + 1, by rw [← key]; exact h1, by rw [← key]; exact h2⟩
theorem meets_zero {a b : Nat} (h : a = 0 ∨ b = 0) : ¬ Meets a b := by
  rintro ⟨k, h1, h2⟩
  rcases h with rfl | rfl
  · simp at h1
  · simp at h2
theorem rmeet_any (a b : Nat) (w : World) (ha : a < 64) (hb : b < 64) :
    Calls Try.prog 13 #[.int .i64 a, .int .i64 b] w (BoolIs (Meets a b) w) := by
  go_enter Try.func13, Try.ntmps13
  go_wp2_with fail
  go_loopw [0, 1] (fun av bv wr => ∃ x y : Nat, x < 64 ∧ y < 64 ∧ av = .int .i64 x ∧ bv = .int .i64 y ∧ Hid (Meets a b ↔ Meets x y) ∧ Kept w wr) (fun av _ _ => (intOf av).toNat)
  case atStart => exact ⟨a, b, ha, hb, rfl, rfl, Iff.rfl, Kept.refl _⟩
  case round =>
    obtain ⟨x, y, hx, hy, rfl, rfl, hm, kr⟩ := hrel
    have hst := Lib.hid (meets_step x y)
    have hzz := Lib.hid (meets_zero (a := x) (b := y))
    by_cases h0 : 0 < x ∧ 0 < y
    · have d1 : decide ((0 : Int) < (x : Int)) = true := by simp; omega
      have d2 : decide ((0 : Int) < (y : Int)) = true := by simp; omega
      have hx2 : ((x : Nat) : Int).tdiv 2 = ((x / 2 : Nat) : Int) := by rw [Int.tdiv_eq_ediv_of_nonneg (by omega)]; omega
      have hy2 : ((y : Nat) : Int).tdiv 2 = ((y / 2 : Nat) : Int) := by rw [Int.tdiv_eq_ediv_of_nonneg (by omega)]; omega
      have hx3 : ((x : Nat) : Int).tmod 2 = ((x % 2 : Nat) : Int) := by rw [Int.tmod_eq_emod_of_nonneg (by omega)]; omega
      have hy3 : ((y : Nat) : Int).tmod 2 = ((y % 2 : Nat) : Int) := by rw [Int.tmod_eq_emod_of_nonneg (by omega)]; omega
      have hlx : x / 2 < x := by omega
      have hly : y / 2 < y := by omega
      by_cases hb1 : x % 2 = 1 ∧ y % 2 = 1
      · have hyes : Hid (Meets a b) := hm.out.2 (hst.out.2 (.inl hb1))
        rw [hb1.1] at hx3
        rw [hb1.2] at hy3
        have hx4 : ((x : Nat) : Int).tmod 2 = 1 := hx3
        have hy4 : ((y : Nat) : Int).tmod 2 = 1 := hy3
        clear hx3 hy3 hx2 hy2
        go_wp2_with fail
        go_ret
        exact boolYes rfl hyes.out kr
      · have hnx : Hid (Meets a b ↔ Meets (x / 2) (y / 2)) := hm.out.trans (hst.out.trans (or_iff_right hb1))
        generalize x / 2 = x2 at *
        generalize y / 2 = y2 at *
        rcases Nat.mod_two_eq_zero_or_one x with h1 | h1
        · rw [h1] at hx3
          have hx4 : ((x : Nat) : Int).tmod 2 = 0 := hx3
          clear hx3 hy3
          go_wp2_with fail
          go_roundw
          case rel => first | exact ⟨x2, y2, by omega, by omega, rfl, rfl, hnx, kr⟩ | ((repeat apply Exists.intro); exact ⟨⟨x2, y2, by omega, by omega, rfl, rfl, hnx, kr⟩, rfl⟩)
          case measure => first | (simp [intOf]; done) | (simp [intOf]; omega)
        · have h2 : y % 2 = 0 := by
            rcases Nat.mod_two_eq_zero_or_one y with h2 | h2
            · exact h2
            · exact absurd ⟨h1, h2⟩ hb1
          rw [h1] at hx3
          rw [h2] at hy3
          have hx4 : ((x : Nat) : Int).tmod 2 = 1 := hx3
          have hy4 : ((y : Nat) : Int).tmod 2 = 0 := hy3
          clear hx3 hy3
          go_wp2_with fail
          go_roundw
          case rel => first | exact ⟨x2, y2, by omega, by omega, rfl, rfl, hnx, kr⟩ | ((repeat apply Exists.intro); exact ⟨⟨x2, y2, by omega, by omega, rfl, rfl, hnx, kr⟩, rfl⟩)
          case measure => first | (simp [intOf]; done) | (simp [intOf]; omega)
    · have hno : Hid (¬ Meets a b) := fun h => hzz.out (by omega) (hm.out.1 h)
      by_cases hx0 : 0 < x
      · have d1 : decide ((0 : Int) < (x : Int)) = true := by simp; omega
        have d2 : decide ((0 : Int) < (y : Int)) = false := by simp; omega
        go_wp2_with fail
        go_ret
        exact boolNo rfl hno.out kr
      · have d1 : decide ((0 : Int) < (x : Int)) = false := by simp; omega
        go_wp2_with fail
        go_ret
        exact boolNo rfl hno.out kr
end Go.Proofs.Ytjmfdacokdffiaa
