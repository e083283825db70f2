/- The walk of the law NetNil: it returns true for every number. -/
import Derived.Test.YtbofoafcglmboaaNetG
set_option linter.unusedSimpArgs false
set_option linter.unusedVariables false
namespace Go.Proofs.Ytbofoafcglmboaa
open Go.RowKit Go.Maps

theorem netNil_walk (n : Int) (w : World) (_ : (Lit.int .i64 n).wf = true) :
    Calls Try.prog 5 #[.int .i64 n] w fun e w' => e = .returned (.bool true) ∧ Kept w w' := by
  by_cases h1 : n < 1
  · have e1 : decide (1 ≤ n) = false := decide_eq_false (by omega)
    go_enter Try.func5, Try.ntmps5
    go_wp2_with (go_at_call 10; refine (new_no n _ (.inl h1)).mono ?_; rintro e w1 ⟨rfl, k1⟩)
    go_wp2_with (go_at_call 13; refine (npick_none none 0 1 0 0 _ (fun w2 _ => of_nil 0 1 w2)).mono ?_; rintro e w2 ⟨rfl, k2⟩)
    go_wp2_with (first | (go_at_call 9; refine (awake_any _).mono ?_; rintro e w3 ⟨rfl, hb3⟩) | (go_at_call 11; refine (nsend_none none 0 1 _ _ (fun w2 _ => of_nil 0 1 w2)).mono ?_; rintro e w4 ⟨rfl, hb4⟩) | (go_at_call 12; refine (nagain_none none 0 1 _ (fun w2 _ => of_nil 0 1 w2)).mono ?_; rintro e w5 ⟨rfl, hb5⟩) | (go_at_call 14; refine (nopen_none none 0 1 _ (fun w2 _ => of_nil 0 1 w2)).mono ?_; rintro e w6 ⟨rfl, hb6⟩) | (go_at_call 15; refine (nflying_none none 0 1 _ (fun w2 _ => of_nil 0 1 w2)).mono ?_; rintro e w7 ⟨rfl, hb7⟩) | (go_at_call 16; refine (nidle_nil _).mono ?_; rintro e w8 ⟨rfl, hb8⟩))
    go_ret
    exact ⟨rfl, by repeat (first | exact Kept.refl _ | assumption | (refine Kept.alloc ?_ _) | (refine Kept.setCell ?_ (by first | omega | (simp; omega) | simp) _) | refine Kept.drew ?_ | refine Kept.drewN ?_ _ | (apply Kept.call; rotate_left; assumption))⟩
  · by_cases h6 : 6 < n
    · have e1 : decide (1 ≤ n) = true := decide_eq_true (by omega)
      have e2 : decide (n ≤ 6) = false := decide_eq_false (by omega)
      go_enter Try.func5, Try.ntmps5
      go_wp2_with (go_at_call 10; refine (new_no n _ (.inr h6)).mono ?_; rintro e w1 ⟨rfl, k1⟩)
      go_wp2_with (go_at_call 13; refine (npick_none none 0 1 0 0 _ (fun w2 _ => of_nil 0 1 w2)).mono ?_; rintro e w2 ⟨rfl, k2⟩)
      go_wp2_with (first | (go_at_call 9; refine (awake_any _).mono ?_; rintro e w3 ⟨rfl, hb3⟩) | (go_at_call 11; refine (nsend_none none 0 1 _ _ (fun w2 _ => of_nil 0 1 w2)).mono ?_; rintro e w4 ⟨rfl, hb4⟩) | (go_at_call 12; refine (nagain_none none 0 1 _ (fun w2 _ => of_nil 0 1 w2)).mono ?_; rintro e w5 ⟨rfl, hb5⟩) | (go_at_call 14; refine (nopen_none none 0 1 _ (fun w2 _ => of_nil 0 1 w2)).mono ?_; rintro e w6 ⟨rfl, hb6⟩) | (go_at_call 15; refine (nflying_none none 0 1 _ (fun w2 _ => of_nil 0 1 w2)).mono ?_; rintro e w7 ⟨rfl, hb7⟩) | (go_at_call 16; refine (nidle_nil _).mono ?_; rintro e w8 ⟨rfl, hb8⟩))
      go_ret
      exact ⟨rfl, by repeat (first | exact Kept.refl _ | assumption | (refine Kept.alloc ?_ _) | (refine Kept.setCell ?_ (by first | omega | (simp; omega) | simp) _) | refine Kept.drew ?_ | refine Kept.drewN ?_ _ | (apply Kept.call; rotate_left; assumption))⟩
    · obtain ⟨m, rfl⟩ : ∃ m : Nat, n = m := ⟨n.toNat, by omega⟩
      have e1 : decide (1 ≤ (m : Int)) = true := decide_eq_true (by omega)
      have e2 : decide ((m : Int) ≤ 6) = true := decide_eq_true (by omega)
      go_enter Try.func5, Try.ntmps5
      go_wp2_with (go_at_call 10; refine (new_any m _ (by omega) (by omega)).mono ?_; rintro e w1 ⟨N, rfl, _, k1⟩)
      go_wp2_with (go_at_call 13; refine (npick_none none 0 1 0 0 _ (fun w2 _ => of_nil 0 1 w2)).mono ?_; rintro e w2 ⟨rfl, k2⟩)
      go_wp2_with (first | (go_at_call 9; refine (awake_any _).mono ?_; rintro e w3 ⟨rfl, hb3⟩) | (go_at_call 11; refine (nsend_none none 0 1 _ _ (fun w2 _ => of_nil 0 1 w2)).mono ?_; rintro e w4 ⟨rfl, hb4⟩) | (go_at_call 12; refine (nagain_none none 0 1 _ (fun w2 _ => of_nil 0 1 w2)).mono ?_; rintro e w5 ⟨rfl, hb5⟩) | (go_at_call 14; refine (nopen_none none 0 1 _ (fun w2 _ => of_nil 0 1 w2)).mono ?_; rintro e w6 ⟨rfl, hb6⟩) | (go_at_call 15; refine (nflying_none none 0 1 _ (fun w2 _ => of_nil 0 1 w2)).mono ?_; rintro e w7 ⟨rfl, hb7⟩) | (go_at_call 16; refine (nidle_nil _).mono ?_; rintro e w8 ⟨rfl, hb8⟩))
      go_ret
      exact ⟨rfl, by repeat (first | exact Kept.refl _ | assumption | (refine Kept.alloc ?_ _) | (refine Kept.setCell ?_ (by first | omega | (simp; omega) | simp) _) | refine Kept.drew ?_ | refine Kept.drewN ?_ _ | (apply Kept.call; rotate_left; assumption))⟩
end Go.Proofs.Ytbofoafcglmboaa
