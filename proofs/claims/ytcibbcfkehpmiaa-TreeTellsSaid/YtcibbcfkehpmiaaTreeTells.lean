/- The law TreeTells: the program and the document answer alike. -/
import Derived.Test.YtcibbcfkehpmiaaTreeG
set_option linter.unusedSimpArgs false
set_option linter.unusedVariables false
namespace Go.Proofs.Ytcibbcfkehpmiaa
open Go.RowKit

set_option maxHeartbeats 2000000 in
theorem treeTells_walk (A : Option Addr) (n c : Nat) (x : Nat → Int) (a b : Int) (w : World) (r : RowAt w A n c 1 (fun i => [.int .i64 (x i)])) (_r2 : ∀ i, i < n → (Lit.int .i64 (x i)).wf = true) (_wa : (Lit.int .i64 a).wf = true) (_wb : (Lit.int .i64 b).wf = true) :
    Calls Try.prog 6 #[.slice A n c, .int .i64 a, .int .i64 b] w fun e w' => e = .returned (.bool true) ∧ Kept w w' := by
  have HX := Lib.hid (IntsAt.of_row r)
  clear r _r2 _wa _wb
  generalize (List.range n).map x = p1 at *
  go_enter Try.func6, Try.ntmps6
  go_wp2_with fail
  refine (awake_any _).mono ?_
  rintro e w1 ⟨rfl, k1⟩
  go_wp2_with fail
  refine (few_any A n c p1 _ (HX.out.keep k1)).mono ?_
  rintro e w2 ⟨m, rfl, h2, k2⟩
  have K2 : Kept w w2 := k1.call k2
  have H2 := Lib.hid h2
  clear h2 HX
  generalize fewOf p1 = p at *
  go_wp2_with fail
  refine (tnear A m c p a _ H2.out).mono ?_
  rintro e w3 ⟨A3, c3, rfl, h3, k3⟩
  have H3 := Lib.hid h3
  have P3 := Lib.hid (H2.out.keep k3)
  have K3 := K2.call k3
  clear h3
  go_wp2_with fail
  refine (rnear A m c p a _ P3.out).mono ?_
  rintro e w4 ⟨A4, c4, rfl, h4, k4⟩
  have H4 := Lib.hid h4
  have H34 := Lib.hid (H3.out.keep k4)
  have P4 := Lib.hid (P3.out.keep k4)
  have K4 := K3.call k4
  clear h4
  go_wp2_with fail
  refine (same_any A3 A4 _ _ c3 c4 _ _ _ H34.out H4.out).mono ?_
  rintro e w5 ⟨rfl, k5⟩
  rw [decide_eq_true (rfl : ints (nearOf p a) = ints (nearOf p a))]
  have P5 := Lib.hid (P4.out.keep k5)
  have K5 := K4.call k5
  go_wp2_with fail
  refine (tpath A m c p a b _ P5.out).mono ?_
  rintro e w6 ⟨A6, c6, rfl, h6, k6⟩
  have H6 := Lib.hid h6
  have P6 := Lib.hid (P5.out.keep k6)
  have K6 := K5.call k6
  clear h6
  go_wp2_with fail
  refine (rpath A m c p a b _ P6.out).mono ?_
  rintro e w7 ⟨A7, c7, rfl, h7, k7⟩
  have H7 := Lib.hid h7
  have H67 := Lib.hid (H6.out.keep k7)
  have P7 := Lib.hid (P6.out.keep k7)
  have K7 := K6.call k7
  clear h7
  go_wp2_with fail
  refine (same_any A6 A7 _ _ c6 c7 _ _ _ H67.out H7.out).mono ?_
  rintro e w8 ⟨rfl, k8⟩
  rw [decide_eq_true (rfl : ints (pathOf p a b) = ints (pathOf p a b))]
  have P8 := Lib.hid (P7.out.keep k8)
  have K8 := K7.call k8
  go_wp2_with fail
  refine (check_any A m c p _ P8.out).mono ?_
  rintro e w9 ⟨B9, rfl, h9, k9⟩
  have H9 := Lib.hid h9
  have P9 := Lib.hid (P8.out.keep k9)
  have K9 := K8.call k9
  clear h9
  go_wp2_with fail
  refine (rtree_check A m c p _ P9.out).mono ?_
  rintro e w10 ⟨B10, rfl, h10, k10⟩
  have hBB : B9 = B10 := by
    cases B9
    · cases B10
      · rfl
      · exact H9.out.2 (h10.1 rfl)
    · exact (h10.2 (H9.out.1 rfl)).symm
  have P10 := Lib.hid (P9.out.keep k10)
  have K10 := K9.call k10
  clear h10 H9
  subst hBB
  go_wp2_with fail
  refine (tside A m c p a b _ P10.out).mono ?_
  rintro e w11 ⟨rfl, k11⟩
  have P11 := Lib.hid (P10.out.keep k11)
  have K11 := K10.call k11
  go_wp2_with fail
  refine (rside A m c p a b _ P11.out).mono ?_
  rintro e w12 ⟨rfl, k12⟩
  have P12 := Lib.hid (P11.out.keep k12)
  have K12 := K11.call k12
  go_wp2_with fail
  refine (tfar A m c p a b _ P12.out).mono ?_
  rintro e w13 ⟨rfl, k13⟩
  have P13 := Lib.hid (P12.out.keep k13)
  have K13 := K12.call k13
  go_wp2_with fail
  refine (rfar A m c p a b _ P13.out).mono ?_
  rintro e w14 ⟨rfl, k14⟩
  go_wp2_with fail
  go_ret
  exact ⟨by first | rfl | exact ret_bool (by simp), K13.call k14⟩
end Go.Proofs.Ytcibbcfkehpmiaa
