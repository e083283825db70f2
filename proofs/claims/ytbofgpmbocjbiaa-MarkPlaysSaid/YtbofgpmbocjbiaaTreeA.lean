/- The program's small functions on trees: near, slices.Index. -/
import Derived.Test.YtbofgpmbocjbiaaTreeS
set_option linter.unusedSimpArgs false
set_option linter.unusedVariables false
namespace Go.Proofs.Ytbofgpmbocjbiaa
open Go.RowKit

set_option maxHeartbeats 1000000 in
theorem near_any (A : Option Addr) (n c : Nat) (p : List Int) (x y : Nat) (w : World) (hx : IntsAt w A n c p) (h1 : x < n) (h2 : y < n) :
    Calls Try.prog 39 #[.slice A n c, .int .i64 x, .int .i64 y] w fun e w' => e = .returned (.bool (nearB p x y)) ∧ Kept w w' := by
  obtain ⟨b, off, rfl, hc⟩ := hx.2.2.2.2 (by omega)
  have c1 : w.cell? ⟨b, off + x, none⟩ = some (.int .i64 (pa p x)) := hc x h1
  have c2 : w.cell? ⟨b, off + y, none⟩ = some (.int .i64 (pa p y)) := hc y h2
  have hm := hx.2.2.1
  have hnc := hx.2.1
  unfold maxLen at hm
  clear hc hx
  have hv : Hid (nearB p x y = (decide (pa p x = y) || decide (pa p y = x))) := rfl
  generalize pa p x = u at *
  generalize pa p y = v at *
  by_cases e1 : u = y
  · have d1 : (u == (y : Int)) = true := by simpa using e1
    have hv2 : Hid (nearB p x y = true) := by unfold Hid; rw [hv.out]; simp [e1]
    clear e1
    go_enter Try.func39, Try.ntmps39
    go_wp2_with fail
    go_ret
    exact ⟨by rw [hv2.out]; rfl, by repeat (first | exact Kept.refl _ | assumption | (refine Kept.alloc ?_ _) | (refine Kept.setCell ?_ (by first | omega | (simp; omega) | simp) _) | refine Kept.drew ?_ | refine Kept.drewN ?_ _ | (apply Kept.call; rotate_left; assumption))⟩
  · have d1 : (u == (y : Int)) = false := by simpa using e1
    by_cases e2 : v = x
    · have d2 : (v == (x : Int)) = true := by simpa using e2
      have hv2 : Hid (nearB p x y = true) := by unfold Hid; rw [hv.out]; simp [e2]
      clear e1 e2
      go_enter Try.func39, Try.ntmps39
      go_wp2_with fail
      go_ret
      exact ⟨by rw [hv2.out]; rfl, by repeat (first | exact Kept.refl _ | assumption | (refine Kept.alloc ?_ _) | (refine Kept.setCell ?_ (by first | omega | (simp; omega) | simp) _) | refine Kept.drew ?_ | refine Kept.drewN ?_ _ | (apply Kept.call; rotate_left; assumption))⟩
    · have d2 : (v == (x : Int)) = false := by simpa using e2
      have hv2 : Hid (nearB p x y = false) := by unfold Hid; rw [hv.out]; simp [e1, e2]
      clear e1 e2
      go_enter Try.func39, Try.ntmps39
      go_wp2_with fail
      go_ret
      exact ⟨by rw [hv2.out]; rfl, by repeat (first | exact Kept.refl _ | assumption | (refine Kept.alloc ?_ _) | (refine Kept.setCell ?_ (by first | omega | (simp; omega) | simp) _) | refine Kept.drew ?_ | refine Kept.drewN ?_ _ | (apply Kept.call; rotate_left; assumption))⟩
end Go.Proofs.Ytbofgpmbocjbiaa
