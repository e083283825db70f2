/- Rows of numbers in memory, and the walks of the small functions on trees. -/
import Derived.Test.YtjmfdacokdffiaaTreeC
import Derived.Test.YtjmfdacokdffiaaInts
import Derived.Test.YtjmfdacokdffiaaDet
set_option linter.unusedSimpArgs false
set_option linter.unusedVariables false
namespace Go.Proofs.Ytjmfdacokdffiaa
open Go.RowKit

set_option maxHeartbeats 1000000 in
theorem same_any (A B : Option Addr) (n m c d : Nat) (xs ys : List Int) (w : World) (hx : IntsAt w A n c xs) (hy : IntsAt w B m d ys) :
    Calls Try.prog 20 #[.slice A n c, .slice B m d] w fun e w' => e = .returned (.bool (decide (xs = ys))) ∧ Kept w w' := by
  obtain ⟨x1, x2, x3, x4, x5⟩ := hx
  obtain ⟨y1, y2, y3, y4, y5⟩ := hy
  unfold maxLen at x3 y3
  have HX5 := Lib.hid x5
  have HY5 := Lib.hid y5
  have HX1 := Lib.hid x1
  have HY1 := Lib.hid y1
  clear x4 y4 x5 y5 x1 y1
  by_cases hnm : n = m
  · subst hnm
    go_enter Try.func20, Try.ntmps20
    go_wp2_with fail
    go_loopw [5] (fun i wr => ∃ j : Nat, j ≤ n ∧ i = .int .i64 j ∧ Kept w wr ∧ Hid (∀ i, i < j → xs[i]?.getD (-2) = ys[i]?.getD (-2))) (fun i _ => n - (intOf i).toNat)
    case atStart => exact ⟨0, by omega, rfl, by repeat (first | exact Kept.refl _ | assumption | (refine Kept.alloc ?_ _) | (refine Kept.setCell ?_ (by first | omega | (simp; omega) | simp) _) | refine Kept.drew ?_ | refine Kept.drewN ?_ _ | (apply Kept.call; rotate_left; assumption)), fun i hi => by omega⟩
    case round =>
      obtain ⟨j, hj, rfl, kr, hall⟩ := hrel
      by_cases hlt : j < n
      · obtain ⟨b, off, rfl, hc⟩ := HX5.out (by omega)
        obtain ⟨b2, off2, rfl, hc2⟩ := HY5.out (by omega)
        have c1 := kr.at_ (hc j hlt)
        have c2 := kr.at_ (hc2 j hlt)
        have HC := Lib.hid hc
        have HC2 := Lib.hid hc2
        clear hc hc2
        by_cases he : xs[j]?.getD (-2) = ys[j]?.getD (-2)
        · have hall2 : Hid (∀ i, i < j + 1 → xs[i]?.getD (-2) = ys[i]?.getD (-2)) := fun i hi => by
            rcases Nat.lt_or_ge i j with g | g
            · exact hall i g
            · obtain rfl : i = j := by omega
              exact he
          rw [he] at c1
          clear he
          generalize ys[j]?.getD (-2) = v at *
          go_wp2_with fail
          refine wp_region_text keepsOne (fun wB => Kept w wB ∧ wB.cell? ⟨b, off + j, none⟩ = some (.int .i64 v) ∧ wB.cell? ⟨b2, off2 + j, none⟩ = some (.int .i64 v)) ?_ (by kernel_rfl) (by kernel_rfl) _ (by (try simp only [List.append_eq, List.cons_append, List.nil_append, List.toList_toArray]); exact rfl) ?_
          · exact ⟨by repeat (first | exact Kept.refl _ | assumption | (refine Kept.alloc ?_ _) | (refine Kept.setCell ?_ (by first | omega | (simp; omega) | simp) _) | refine Kept.drew ?_ | refine Kept.drewN ?_ _ | (apply Kept.call; rotate_left; assumption)), by first | assumption | go_simp, by first | assumption | go_simp⟩
          rintro wB ⟨hkB, sB1, sB2⟩
          repeat (first | (apply DW.det; (focus (intro wd hI; have td1 := hI.at_ sB1; have td2 := hI.at_ sB2; skip; go_wp2_with (fail); refine StepPost.mk _ rfl ⟨rfl, ?_⟩; repeat (first | exact Kept.refl _ | assumption | (refine Kept.alloc ?_ _) | (refine Kept.setCell ?_ (by first | omega | (simp; omega) | simp) _) | refine Kept.drew ?_ | refine Kept.drewN ?_ _ | (apply Kept.call; rotate_left; assumption)))); simp only [Act.put, List.setIfInBounds_toArray, List.set_cons_succ, List.set_cons_zero]) | (refine DW.loud (by kernel_rfl) ?_; intro wd hI; have td1 := hI.at_ sB1; have td2 := hI.at_ sB2; skip; go_wp2_with (fail); refine StepPost.loud _ rfl (by repeat (first | exact Kept.refl _ | assumption | (refine Kept.alloc ?_ _) | (refine Kept.setCell ?_ (by first | omega | (simp; omega) | simp) _) | refine Kept.drew ?_ | refine Kept.drewN ?_ _ | (apply Kept.call; rotate_left; assumption))) (fun hkL => ?_); have hkL := hI.call hkL; have hkB := hkB.call hkL; have sB1 := hkL.at_ sB1; have sB2 := hkL.at_ sB2; simp only [Act.put, List.setIfInBounds_toArray, List.set_cons_succ, List.set_cons_zero]))
          refine DW.nil ?_
          intro wd hI
          have hkd := hkB.call hI
          have td1 := hI.at_ sB1; have td2 := hI.at_ sB2
          go_wp2_with fail
          go_roundw
          case rel => exact ⟨j + 1, by omega, by go_num, hkd, hall2⟩
          case measure => simp [intOf]; omega
        · have hne : Hid (¬ xs = ys) := fun h => he (by rw [h])
          have hv : (xs[j]?.getD (-2) != ys[j]?.getD (-2)) = true := by simpa using he
          clear he
          generalize xs[j]?.getD (-2) = u at *
          generalize ys[j]?.getD (-2) = v at *
          go_wp2_with fail
          refine wp_region_text keepsOne (fun wB => Kept w wB ∧ wB.cell? ⟨b, off + j, none⟩ = some (.int .i64 u) ∧ wB.cell? ⟨b2, off2 + j, none⟩ = some (.int .i64 v)) ?_ (by kernel_rfl) (by kernel_rfl) _ (by (try simp only [List.append_eq, List.cons_append, List.nil_append, List.toList_toArray]); exact rfl) ?_
          · exact ⟨by repeat (first | exact Kept.refl _ | assumption | (refine Kept.alloc ?_ _) | (refine Kept.setCell ?_ (by first | omega | (simp; omega) | simp) _) | refine Kept.drew ?_ | refine Kept.drewN ?_ _ | (apply Kept.call; rotate_left; assumption)), by first | assumption | go_simp, by first | assumption | go_simp⟩
          rintro wB ⟨hkB, sB1, sB2⟩
          repeat (first | (apply DW.det; (focus (intro wd hI; have td1 := hI.at_ sB1; have td2 := hI.at_ sB2; skip; go_wp2_with (fail); refine StepPost.mk _ rfl ⟨rfl, ?_⟩; repeat (first | exact Kept.refl _ | assumption | (refine Kept.alloc ?_ _) | (refine Kept.setCell ?_ (by first | omega | (simp; omega) | simp) _) | refine Kept.drew ?_ | refine Kept.drewN ?_ _ | (apply Kept.call; rotate_left; assumption)))); simp only [Act.put, List.setIfInBounds_toArray, List.set_cons_succ, List.set_cons_zero]) | (refine DW.loud (by kernel_rfl) ?_; intro wd hI; have td1 := hI.at_ sB1; have td2 := hI.at_ sB2; skip; go_wp2_with (fail); refine StepPost.loud _ rfl (by repeat (first | exact Kept.refl _ | assumption | (refine Kept.alloc ?_ _) | (refine Kept.setCell ?_ (by first | omega | (simp; omega) | simp) _) | refine Kept.drew ?_ | refine Kept.drewN ?_ _ | (apply Kept.call; rotate_left; assumption))) (fun hkL => ?_); have hkL := hI.call hkL; have hkB := hkB.call hkL; have sB1 := hkL.at_ sB1; have sB2 := hkL.at_ sB2; simp only [Act.put, List.setIfInBounds_toArray, List.set_cons_succ, List.set_cons_zero]))
          refine DW.nil ?_
          intro wd hI
          have hkd := hkB.call hI
          have td1 := hI.at_ sB1; have td2 := hI.at_ sB2
          go_wp2_with fail
          go_ret
          exact ⟨ret_bool (decide_eq_false hne.out).symm, hkd⟩
      · obtain rfl : j = n := by omega
        have heq : Hid (xs = ys) := by
          apply List.ext_getElem?
          intro i
          rcases Nat.lt_or_ge i j with g | g
          · have := hall i g
            have e1 := HX1.out
            have e2 := HY1.out
            rw [List.getElem?_eq_getElem (by omega), List.getElem?_eq_getElem (by omega)] at this ⊢
            simpa using this
          · rw [List.getElem?_eq_none (by have := HX1.out; omega), List.getElem?_eq_none (by have := HY1.out; omega)]
        go_wp2_with fail
        go_ret
        refine ⟨ret_bool (decide_eq_true heq.out).symm, ?_⟩
        repeat (first | exact Kept.refl _ | assumption | (refine Kept.alloc ?_ _) | (refine Kept.setCell ?_ (by first | omega | (simp; omega) | simp) _) | refine Kept.drew ?_ | refine Kept.drewN ?_ _ | (apply Kept.call; rotate_left; assumption))
  · have hne : Hid (¬ xs = ys) := fun h => hnm (by rw [← HX1.out, ← HY1.out, h])
    have hv : (((n : Nat) : Int) != (m : Int)) = true := by simp; omega
    go_enter Try.func20, Try.ntmps20
    go_wp2_with fail
    go_ret
    refine ⟨ret_bool (decide_eq_false hne.out).symm, ?_⟩
    repeat (first | exact Kept.refl _ | assumption | (refine Kept.alloc ?_ _) | (refine Kept.setCell ?_ (by first | omega | (simp; omega) | simp) _) | refine Kept.drew ?_ | refine Kept.drewN ?_ _ | (apply Kept.call; rotate_left; assumption))
end Go.Proofs.Ytjmfdacokdffiaa
