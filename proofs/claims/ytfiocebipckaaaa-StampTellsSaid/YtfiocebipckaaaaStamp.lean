/- The walks of the stamp functions: what Less, Check, Next and Max return, for every input. -/
import Derived.Test.YtfiocebipckaaaaKit
set_option linter.unusedSimpArgs false
set_option linter.unusedVariables false
namespace Go.Proofs.Ytfiocebipckaaaa
open Go.RowKit

def lessB (n s m t : Int) : Bool := decide (n < m ∨ (n = m ∧ s < t))
def checkB (n s : Int) : Bool := decide (1 ≤ n ∧ n ≤ 1099511627776 ∧ 0 ≤ s ∧ s < 6)

set_option maxHeartbeats 400000 in
theorem less_any (n s m t : Int) (w : World) :
    Calls Try.prog 12 #[.agg #[.int .i64 n, .int .i64 s], .agg #[.int .i64 m, .int .i64 t]] w fun e w' => e = .returned (.bool (lessB n s m t)) ∧ Kept w w' := by
  go_enter Try.func12, Try.ntmps12
  go_wp2
  all_goals
    go_ret
    refine ⟨ret_bool (by unfold lessB; rw [Bool.eq_iff_iff]; simp; omega), ?_⟩
    repeat (first | exact Kept.refl _ | assumption | (refine Kept.alloc ?_ _) | (refine Kept.setCell ?_ (by first | omega | (simp; omega) | simp) _) | refine Kept.drew ?_ | refine Kept.drewN ?_ _ | (apply Kept.call; rotate_left; assumption))

theorem less_is (n s m t : Int) (B : Bool) (w : World) (h : lessB n s m t = B) :
    Calls Try.prog 12 #[.agg #[.int .i64 n, .int .i64 s], .agg #[.int .i64 m, .int .i64 t]] w fun e w' => e = .returned (.bool B) ∧ Kept w w' := by
  subst h; exact less_any n s m t w
theorem less_yes (n s m t : Int) (w : World) (h : n < m ∨ (n = m ∧ s < t)) :
    Calls Try.prog 12 #[.agg #[.int .i64 n, .int .i64 s], .agg #[.int .i64 m, .int .i64 t]] w fun e w' => e = .returned (.bool true) ∧ Kept w w' :=
  (less_any n s m t w).mono fun _ _ ⟨he, hw⟩ => ⟨by rw [he]; exact ret_bool (decide_eq_true h), hw⟩
theorem less_no (n s m t : Int) (w : World) (h : ¬ (n < m ∨ (n = m ∧ s < t))) :
    Calls Try.prog 12 #[.agg #[.int .i64 n, .int .i64 s], .agg #[.int .i64 m, .int .i64 t]] w fun e w' => e = .returned (.bool false) ∧ Kept w w' :=
  (less_any n s m t w).mono fun _ _ ⟨he, hw⟩ => ⟨by rw [he]; exact ret_bool (decide_eq_false h), hw⟩

set_option maxHeartbeats 400000 in
theorem check_any (n s : Int) (w : World) :
    Calls Try.prog 13 #[.agg #[.int .i64 n, .int .i64 s]] w fun e w' => e = .returned (.bool (checkB n s)) ∧ Kept w w' := by
  go_enter Try.func13, Try.ntmps13
  go_wp2
  all_goals
    go_ret
    refine ⟨ret_bool (by unfold checkB; rw [Bool.eq_iff_iff]; simp; omega), ?_⟩
    repeat (first | exact Kept.refl _ | assumption | (refine Kept.alloc ?_ _) | (refine Kept.setCell ?_ (by first | omega | (simp; omega) | simp) _) | refine Kept.drew ?_ | refine Kept.drewN ?_ _ | (apply Kept.call; rotate_left; assumption))

theorem check_yes (n s : Int) (w : World) (h : 1 ≤ n ∧ n ≤ 1099511627776 ∧ 0 ≤ s ∧ s < 6) :
    Calls Try.prog 13 #[.agg #[.int .i64 n, .int .i64 s]] w fun e w' => e = .returned (.bool true) ∧ Kept w w' :=
  (check_any n s w).mono fun _ _ ⟨he, hw⟩ => ⟨by rw [he]; exact ret_bool (decide_eq_true h), hw⟩
theorem check_no (n s : Int) (w : World) (h : ¬ (1 ≤ n ∧ n ≤ 1099511627776 ∧ 0 ≤ s ∧ s < 6)) :
    Calls Try.prog 13 #[.agg #[.int .i64 n, .int .i64 s]] w fun e w' => e = .returned (.bool false) ∧ Kept w w' :=
  (check_any n s w).mono fun _ _ ⟨he, hw⟩ => ⟨by rw [he]; exact ret_bool (decide_eq_false h), hw⟩

set_option maxHeartbeats 400000 in
theorem next_bad (n s k : Int) (w : World) (h : k < 0 ∨ 6 ≤ k) :
    Calls Try.prog 11 #[.agg #[.int .i64 n, .int .i64 s], .int .i64 k] w fun e w' => e = .returned (.tuple #[.agg #[.int .i64 0, .int .i64 0], .int .i64 1]) ∧ Kept w w' := by
  rcases h with h | h
  all_goals
    go_enter Try.func11, Try.ntmps11
    go_wp2
    refine bodyPost_ret (v := .tuple #[.agg #[.int .i64 0, .int .i64 0], .int .i64 1]) (by simp [results, Try.results11, go_sem]) rfl ⟨rfl, ?_⟩
    repeat (first | exact Kept.refl _ | assumption | (refine Kept.alloc ?_ _) | (refine Kept.setCell ?_ (by first | omega | (simp; omega) | simp) _) | refine Kept.drew ?_ | refine Kept.drewN ?_ _ | (apply Kept.call; rotate_left; assumption))

set_option maxHeartbeats 400000 in
theorem next_over (n s k : Int) (w : World) (h1 : 0 ≤ k) (h2 : k < 6) (h : 1099511627776 ≤ n) :
    Calls Try.prog 11 #[.agg #[.int .i64 n, .int .i64 s], .int .i64 k] w fun e w' => e = .returned (.tuple #[.agg #[.int .i64 0, .int .i64 0], .int .i64 18]) ∧ Kept w w' := by
  go_enter Try.func11, Try.ntmps11
  go_wp2
  refine bodyPost_ret (v := .tuple #[.agg #[.int .i64 0, .int .i64 0], .int .i64 18]) (by simp [results, Try.results11, go_sem]) rfl ⟨rfl, ?_⟩
  repeat (first | exact Kept.refl _ | assumption | (refine Kept.alloc ?_ _) | (refine Kept.setCell ?_ (by first | omega | (simp; omega) | simp) _) | refine Kept.drew ?_ | refine Kept.drewN ?_ _ | (apply Kept.call; rotate_left; assumption))

set_option maxHeartbeats 400000 in
theorem next_ok (n s k r : Int) (w : World) (h1 : 0 ≤ k) (h2 : k < 6) (h : n < 1099511627776) (hr : r = max n 0 + 1) :
    Calls Try.prog 11 #[.agg #[.int .i64 n, .int .i64 s], .int .i64 k] w fun e w' => e = .returned (.tuple #[.agg #[.int .i64 r, .int .i64 k], .int .i64 0]) ∧ Kept w w' := by
  have HR := Lib.hid hr
  clear hr
  go_enter Try.func11, Try.ntmps11
  go_wp2
  all_goals
    have hr := HR.out
    refine bodyPost_ret (v := .tuple #[.agg #[.int .i64 r, .int .i64 k], .int .i64 0]) (by simp [results, Try.results11, go_sem]; omega) rfl ⟨rfl, ?_⟩
    repeat (first | exact Kept.refl _ | assumption | (refine Kept.alloc ?_ _) | (refine Kept.setCell ?_ (by first | omega | (simp; omega) | simp) _) | refine Kept.drew ?_ | refine Kept.drewN ?_ _ | (apply Kept.call; rotate_left; assumption))

set_option maxHeartbeats 400000 in
theorem awake_any (w : World) :
    Calls Try.prog 10 #[] w fun e w' => e = .returned (.bool true) ∧ Kept w w' := by
  have hl : lessB 0 0 4 1 = true := by decide
  have hk : checkB 4 1 = true := by decide
  go_enter Try.func10, Try.ntmps10
  go_wp2_with (first | (go_at_call 11; refine (next_ok 3 2 1 4 _ (by omega) (by omega) (by omega) (by omega)).mono ?_; rintro e w1 ⟨rfl, hb1⟩; have hc1 := hb1.cell; have hf1 := hb1.frozen; have hz1 := hb1.size; (try simp only [World.size_alloc, World.size_setCell, World.size_drew] at hz1 hc1 hf1)) | (go_at_call 13; refine (check_any _ _ _).mono ?_; rintro e w2 ⟨rfl, hb2⟩; have hc2 := hb2.cell; have hf2 := hb2.frozen; have hz2 := hb2.size; (try simp only [World.size_alloc, World.size_setCell, World.size_drew] at hz2 hc2 hf2)) | (go_at_call 12; refine (less_any _ _ _ _ _).mono ?_; rintro e w3 ⟨rfl, hb3⟩; have hc3 := hb3.cell; have hf3 := hb3.frozen; have hz3 := hb3.size; (try simp only [World.size_alloc, World.size_setCell, World.size_drew] at hz3 hc3 hf3)))
  go_ret
  refine ⟨rfl, ?_⟩
  repeat (first | exact Kept.refl _ | assumption | (refine Kept.alloc ?_ _) | (refine Kept.setCell ?_ (by first | omega | (simp; omega) | simp) _) | refine Kept.drew ?_ | refine Kept.drewN ?_ _ | (apply Kept.call; rotate_left; assumption))
end Go.Proofs.Ytfiocebipckaaaa
