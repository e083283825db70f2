/- The laws' awake. -/
import Derived.Test.YtahokiopapenbaaTabV
set_option linter.unusedSimpArgs false
set_option linter.unusedVariables false
namespace Go.Proofs.Ytahokiopapenbaa
open Go.RowKit

def es0 : List Nat := [109]
theorem up0 : Up es0 := ⟨by decide, by decide, fun i j h1 h2 => by simp [es0] at h2; omega⟩
theorem fit0 : Fit es0 [3, 2] 2 := ⟨up0, rfl, by decide, by decide, by decide⟩
theorem hv_a : findI es0 (hv ⟨#[97]⟩) = 0 := by rw [show (⟨#[97]⟩ : ByteArray) = ch 97 from rfl, hv_ch (by decide)]; decide
theorem hv_z : findI es0 (hv ⟨#[122]⟩) = 1 := by rw [show (⟨#[122]⟩ : ByteArray) = ch 122 from rfl, hv_ch (by decide)]; decide
theorem first2 {r : Int} (h : FirstB 2 r) : r = 1 := by
  have b0 : bitB 2 ((0 : Nat) : Int) = false := by decide
  have b1 : bitB 2 ((1 : Nat) : Int) = true := by decide
  rcases h with ⟨_, h⟩ | ⟨i, rfl, _, h1, h2⟩
  · have := h 1 (by omega)
    rw [b1] at this; cases this
  · rcases i with _ | _ | i
    · rw [b0] at h1; cases h1
    · rfl
    · have := h2 1 (by omega)
      rw [b1] at this; cases this
theorem ints_two (w : World) (x y : Int) (b : Nat) (h : w.cell? ⟨b, 0, none⟩ = some (.int .i64 x)) (h2 : w.cell? ⟨b, 1, none⟩ = some (.int .i64 y)) : IntsAt w (some ⟨b, 0, none⟩) 2 2 [x, y] :=
  ⟨rfl, Nat.le_refl _, by unfold maxLen; omega, (fun h => by cases h), fun _ => ⟨_, 0, rfl, fun i hi => by
    rcases i with _ | _ | i
    · exact h
    · exact h2
    · omega⟩⟩
theorem row0 (w : World) (o : Obj) : RowW ((((w.alloc (.cells #[.string ⟨#[]⟩, .string ⟨#[109]⟩, .string ⟨#[109]⟩, .string ⟨#[]⟩] 35)).alloc (.cells #[.int .i64 3, .int .i64 2] 3)).alloc (.cells #[.int .i64 (-1), .int .i64 0] 3)).alloc o) (some ⟨w.heap.size, 0, none⟩) 2 2 (some ⟨w.heap.size + 1, 0, none⟩) 2 2 (some ⟨w.heap.size + 1 + 1, 0, none⟩) 2 2 (rgs es0) [3, 2] [-1, 0] := by
  refine ⟨⟨rfl, Nat.le_refl _, by unfold maxLen; omega, (fun h => by cases h), fun _ => ⟨_, 0, rfl, fun i hi => ?_⟩⟩, ints_two _ _ _ _ (by go_simp) (by go_simp), ints_two _ _ _ _ (by go_simp) (by go_simp)⟩
  rcases i with _ | _ | i
  · exact ⟨by go_simp; rfl, by go_simp; rfl⟩
  · exact ⟨by go_simp; rfl, by go_simp; rfl⟩
  · omega
set_option maxHeartbeats 2000000 in
theorem awake_any (w : World) : Calls Try.prog 9 #[] w fun e w' => e = .returned (.bool true) ∧ Kept w w' := by
  go_enter Try.func9, Try.ntmps9
  go_wp2_with fail
  have R0 := Lib.hid (row0 w)
  have F0 := Lib.hid fit0
  refine (tcheck_yes _ _ _ 2 2 2 2 2 2 es0 [3, 2] [-1, 0] _ (R0.out _) F0.out).mono ?_
  rintro e w1 ⟨rfl, k1⟩
  have K1 : Kept w w1 := Kept.call (by repeat (first | exact Kept.refl _ | assumption | (refine Kept.alloc ?_ _) | (refine Kept.setCell ?_ (by first | omega | (simp; omega) | simp) _) | refine Kept.drew ?_ | refine Kept.drewN ?_ _ | (apply Kept.call; rotate_left; assumption))) k1
  have R1 := Lib.hid ((R0.out _).keep k1)
  have a0 : w1.cell? ⟨w.heap.size + 1 + 1 + 1, 0, none⟩ = some (.slice (some ⟨w.heap.size, 0, none⟩) 2 2) := k1.at_ (by go_simp)
  have a1 : w1.cell? ⟨w.heap.size + 1 + 1 + 1, 1, none⟩ = some (.slice (some ⟨w.heap.size + 1, 0, none⟩) 2 2) := k1.at_ (by go_simp)
  have a2 : w1.cell? ⟨w.heap.size + 1 + 1 + 1, 2, none⟩ = some (.slice (some ⟨w.heap.size + 1 + 1, 0, none⟩) 2 2) := k1.at_ (by go_simp)
  clear R0
  go_wp2_with fail
  refine (towners_yes _ _ _ 2 2 2 2 2 2 es0 [3, 2] [-1, 0] ⟨#[97]⟩ _ R1.out F0.out).mono ?_
  rintro e w2 ⟨rfl, k2⟩
  rw [hv_a, show oa [3, 2] 0 = 3 from rfl]
  have K2 := K1.call k2
  have R2 := Lib.hid (R1.out.keep k2)
  have a0 := k2.at_ a0
  have a1 := k2.at_ a1
  have a2 := k2.at_ a2
  go_wp2_with fail
  refine (towners_yes _ _ _ 2 2 2 2 2 2 es0 [3, 2] [-1, 0] ⟨#[122]⟩ _ R2.out F0.out).mono ?_
  rintro e w3 ⟨rfl, k3⟩
  rw [hv_z, show oa [3, 2] 1 = 2 from rfl]
  have K3 := K2.call k3
  have R3 := Lib.hid (R2.out.keep k3)
  have a0 := k3.at_ a0
  have a1 := k3.at_ a1
  have a2 := k3.at_ a2
  go_wp2_with fail
  refine (tfirst_yes _ _ _ 2 2 2 2 2 2 es0 [3, 2] [-1, 0] ⟨#[122]⟩ _ R3.out F0.out).mono ?_
  rintro e w4 ⟨r, rfl, hr, k4⟩
  rw [hv_z, show oa [3, 2] 1 = 2 from rfl] at hr
  obtain rfl := first2 hr
  have K4 := K3.call k4
  clear hr
  go_wp2_with fail
  refine (many_yes 7 _ (by omega)).mono ?_
  rintro e w5 ⟨rfl, k5⟩
  rw [show pop 7 = 3 from rfl]
  go_wp2_with fail
  go_ret
  exact ⟨rfl, K4.call k5⟩
end Go.Proofs.Ytahokiopapenbaa
