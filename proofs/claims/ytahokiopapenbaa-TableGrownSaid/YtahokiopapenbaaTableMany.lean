/- The law TableMany: bits are counted: of a mask and its other bits they are six; twice a mask has as many. -/
import Derived.Test.YtahokiopapenbaaTabW
set_option linter.unusedSimpArgs false
set_option linter.unusedVariables false
namespace Go.Proofs.Ytahokiopapenbaa
open Go.RowKit

theorem pop_laws : ∀ m : Fin 64, pop m + pop (63 - m) = 6 ∧ pop (2 * m) = pop m ∧ pop (2 * m + 1) = pop m + 1 ∧ pop m ≤ 6 ∧ pop (63 - m) ≤ 6 := of_decide_eq_true (by kernel_rfl)
theorem many_is (x : Int) (n v : Nat) (w : World) (hx : x = n) (h : n < 128) (hv : pop n = v) :
    Calls Try.prog 10 #[.int .i64 x] w fun e w' => e = .returned (.int .i64 (v : Nat)) ∧ Kept w w' := by
  subst hx hv
  exact many_yes n w h
set_option maxHeartbeats 1000000 in
theorem tableMany_walk (q : Int) (w : World) (_h : (Lit.int .i64 q).wf = true) :
    Calls Try.prog 3 #[.int .i64 q] w fun e w' => e = .returned (.bool true) ∧ Kept w w' := by
  clear _h
  obtain ⟨h1, h2⟩ := and_bd q 63 (by omega) (by omega)
  obtain ⟨m, hm⟩ := Int.eq_ofNat_of_zero_le h1
  have hm6 : m < 64 := by omega
  obtain ⟨p1, p2, p3, p4, p5⟩ := pop_laws ⟨m, hm6⟩
  simp only at p1 p2 p3 p4 p5
  obtain ⟨a, ha⟩ : ∃ a, pop m = a := ⟨_, rfl⟩
  obtain ⟨b, hb⟩ : ∃ b, pop (63 - m) = b := ⟨_, rfl⟩
  rw [ha] at p1 p2 p3 p4
  rw [hb] at p1 p5
  have HA := Lib.hid ha
  have HB := Lib.hid hb
  have H2 := Lib.hid p2
  have H3 := Lib.hid p3
  clear h1 h2 ha hb p2 p3
  go_enter Try.func3, Try.ntmps3
  go_wp2_with fail
  refine (awake_any _).mono ?_
  rintro e w1 ⟨rfl, k1⟩
  go_wp2_with fail
  refine (many_is _ m a _ (by omega) (by omega) HA.out).mono ?_
  rintro e w2 ⟨rfl, k2⟩
  go_wp2_with fail
  refine (many_is _ (63 - m) b _ (by omega) (by omega) HB.out).mono ?_
  rintro e w3 ⟨rfl, k3⟩
  go_wp2_with fail
  refine (many_is _ (2 * m) a _ (by omega) (by omega) H2.out).mono ?_
  rintro e w4 ⟨rfl, k4⟩
  go_wp2_with fail
  refine (many_is _ m a _ (by omega) (by omega) HA.out).mono ?_
  rintro e w5 ⟨rfl, k5⟩
  go_wp2_with fail
  refine (many_is _ (2 * m + 1) (a + 1) _ (by omega) (by omega) H3.out).mono ?_
  rintro e w6 ⟨rfl, k6⟩
  go_wp2_with fail
  refine (many_is _ m a _ (by omega) (by omega) HA.out).mono ?_
  rintro e w7 ⟨rfl, k7⟩
  go_wp2_with fail
  refine (many_no _ _ (by omega)).mono ?_
  rintro e w8 ⟨rfl, k8⟩
  go_wp2_with fail
  refine (many_is _ 0 0 _ rfl (by omega) rfl).mono ?_
  rintro e w9 ⟨rfl, k9⟩
  go_wp2_with fail
  go_ret
  exact ⟨by first | rfl | exact ret_bool (by simp; omega), (((((((k1.call k2).call k3).call k4).call k5).call k6).call k7).call k8).call k9⟩
end Go.Proofs.Ytahokiopapenbaa
