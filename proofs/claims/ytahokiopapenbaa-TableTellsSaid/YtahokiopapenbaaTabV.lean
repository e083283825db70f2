/- The program's Many, at masks below 128. -/
import Derived.Test.YtahokiopapenbaaTabU
set_option linter.unusedSimpArgs false
set_option linter.unusedVariables false
namespace Go.Proofs.Ytahokiopapenbaa
open Go.RowKit

def pop (x : Nat) : Nat := x % 2 + x / 2 % 2 + x / 4 % 2 + x / 8 % 2 + x / 16 % 2 + x / 32 % 2 + x / 64 % 2
set_option maxHeartbeats 2000000 in
theorem ones64 (x : Nat) (w : World) (h : x < 128) :
    Calls Try.prog 38 #[.int .u64 (x : Int)] w fun e w' => e = .returned (.int .i64 (pop x : Nat)) ∧ Kept w w' := by
  go_enter Try.func38, Try.ntmps38
  go_wp2_with fail
  go_ret
  refine ⟨?_, by repeat (first | exact Kept.refl _ | assumption | (refine Kept.alloc ?_ _) | (refine Kept.setCell ?_ (by first | omega | (simp; omega) | simp) _) | refine Kept.drew ?_ | refine Kept.drewN ?_ _ | (apply Kept.call; rotate_left; assumption))⟩
  refine congrArg (fun z => Ending.returned (.int .i64 z)) ?_
  clear w
  revert h
  revert x
  exact of_decide_eq_true (by kernel_rfl)
theorem ones_any (x : Nat) (w : World) (h : x < 128) :
    Calls Try.prog 29 #[.int .u64 (x : Int)] w fun e w' => e = .returned (.int .i64 (pop x : Nat)) ∧ Kept w w' := by
  go_enter Try.func29, Try.ntmps29
  go_wp2_with fail
  refine (ones64 x _ h).mono ?_
  rintro e w2 ⟨rfl, k2⟩
  go_wp2_with fail
  go_ret
  exact ⟨rfl, k2⟩
theorem many_yes (x : Nat) (w : World) (h : x < 128) :
    Calls Try.prog 10 #[.int .i64 (x : Int)] w fun e w' => e = .returned (.int .i64 (pop x : Nat)) ∧ Kept w w' := by
  have hm : max (x : Int) 0 = x := by omega
  have hw : IntKind.u64.wrap (x : Int) = x := by rw [IntKind.wrap_u64]; omega
  go_enter Try.func10, Try.ntmps10
  go_wp2_with fail
  all_goals refine (ones_any x _ h).mono ?_
  all_goals rintro e w2 ⟨rfl, k2⟩
  all_goals go_wp2_with fail
  all_goals go_ret
  all_goals exact ⟨rfl, k2⟩
theorem many_no (x : Int) (w : World) (h : x < 0) :
    Calls Try.prog 10 #[.int .i64 x] w fun e w' => e = .returned (.int .i64 0) ∧ Kept w w' := by
  have hm : max x 0 = 0 := by omega
  have hw : IntKind.u64.wrap (0 : Int) = ((0 : Nat) : Int) := by rw [IntKind.wrap_u64]; omega
  go_enter Try.func10, Try.ntmps10
  go_wp2_with fail
  refine (ones_any 0 _ (by omega)).mono ?_
  rintro e w2 ⟨rfl, k2⟩
  go_wp2_with fail
  go_ret
  exact ⟨rfl, k2⟩
end Go.Proofs.Ytahokiopapenbaa
