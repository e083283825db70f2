/- The walk of the law VaryWrites: it returns true for every number, text and row. -/
import Derived.Test.YthceenheaegdbaaVaryRef
import Derived.Test.YthceenheaegdbaaVarySplit
set_option linter.unusedSimpArgs false
set_option linter.unusedVariables false
namespace Go.Proofs.Ythceenheaegdbaa
open Go.RowKit

set_option maxHeartbeats 4000000 in
set_option maxRecDepth 100000 in
theorem varyWrites_walk (n : Int) (s0 : ByteArray) (A : Option Addr) (cnt c : Nat) (x : Nat → Int) (w : World) (hn : (Lit.int .u64 n).wf = true) (hs : s0.size ≤ maxLen) (hr : RowAt w A cnt c 1 (fun i => [.int .u64 (x i)])) (hx : ∀ i, i < cnt → (Lit.int .u64 (x i)).wf = true) :
    Calls Try.prog 7 #[.int .u64 n, .string s0, .slice A cnt c] w fun e w' => e = .returned (.bool true) ∧ Kept w w' := by
  unfold maxLen at hs
  have hbn := bounds_u64 hn
  obtain ⟨N, rfl⟩ := Int.eq_ofNat_of_zero_le hbn.1
  have hN : N < 18446744073709551616 := by have := hbn.2; omega
  have HN := Lib.hid hN
  have HS := Lib.hid hs
  have HX := Lib.hid hx
  have HR := Lib.hid hr
  have hnc := hr.1
  have hcm := hr.2.1
  unfold maxLen at hcm
  obtain ⟨ln, hln⟩ : ∃ l, (enc N).length = l := ⟨_, rfl⟩
  have hzn : (num N).size = ln := hln
  have HLN := Lib.hid hln
  clear hn hbn hN hs hr hx hln
  rcases Nat.lt_or_ge 10 cnt with h12 | h12
  · obtain ⟨b0, o0, rfl, _⟩ := HR.out.2.2.2 (by omega)
    generalize hAA : (some ⟨b0, o0, none⟩ : Option Addr) = A at *
    have HAA := Lib.hid hAA
    clear hAA
    have hR := R64.of_row (10) (by omega) HR.out HX.out
    have hSm := firsts_small x cnt (10) (by omega) HX.out
    obtain ⟨xs, hxs⟩ : ∃ xs, xs = firsts x (10) := ⟨_, rfl⟩
    rw [← hxs] at hR hSm
    have HR6 := Lib.hid hR
    have HSM := Lib.hid hSm
    clear hxs hR hSm
    go_enter Try.func7, Try.ntmps7
    go_wp2_with fail
    refine (awake_any _).mono ?_
    rintro e w1 ⟨rfl, k1⟩
    go_wp2_with fail
    refine (short_any s0 300 300 _ rfl HS.out).mono ?_
    rintro e w2 ⟨rfl, k2⟩
    have K2 := k1.call k2
    have hz := sh_size s0 300
    generalize sh s0 300 = s at *
    go_wp2_with fail
    refine (number_any N _ HN.out).mono ?_
    rintro e w3 ⟨rfl, k3⟩
    go_wp2_with fail
    refine (rnumber_any N _ HN.out).mono ?_
    rintro e w4 ⟨rfl, k4⟩
    go_wp2_with fail
    refine (text_any s _ (by omega)).mono ?_
    rintro e w5 ⟨rfl, k5⟩
    go_wp2_with fail
    refine (rtext_any s _ (by omega)).mono ?_
    rintro e w6 ⟨rfl, k6⟩
    have K6 := (((K2.call k3).call k4).call k5).call k6
    go_wp2_with fail
    refine (long_any N ln _ HN.out HLN.out.symm).mono ?_
    rintro e w7 ⟨rfl, k7⟩
    go_wp2_with fail
    refine (rnumber_any N _ HN.out).mono ?_
    rintro e w8 ⟨rfl, k8⟩
    have K8 := (K6.call k7).call k8
    go_wp2_with fail
    refine (join_any A (10) c xs _ HR6.out.1 (by omega) HR6.out.2.1 HSM.out (fun h0 => (HR6.out.kept K8).2.2.2 h0)).mono ?_
    rintro e w9 ⟨rfl, k9⟩
    have K9 := K8.call k9
    go_wp2_with fail
    refine (rjoin_any A (10) c xs _ (HR6.out.kept K9) HSM.out (by omega)).mono ?_
    rintro e w10 ⟨rfl, k10⟩
    go_wp2_with fail
    go_ret
    exact ⟨by first | rfl | exact ret_bool (by simp), K9.call k10⟩
  · skip
    have hR := R64.of_row (cnt) (by omega) HR.out HX.out
    have hSm := firsts_small x cnt (cnt) (by omega) HX.out
    obtain ⟨xs, hxs⟩ : ∃ xs, xs = firsts x (cnt) := ⟨_, rfl⟩
    rw [← hxs] at hR hSm
    have HR6 := Lib.hid hR
    have HSM := Lib.hid hSm
    clear hxs hR hSm
    go_enter Try.func7, Try.ntmps7
    go_wp2_with fail
    refine (awake_any _).mono ?_
    rintro e w1 ⟨rfl, k1⟩
    go_wp2_with fail
    refine (short_any s0 300 300 _ rfl HS.out).mono ?_
    rintro e w2 ⟨rfl, k2⟩
    have K2 := k1.call k2
    have hz := sh_size s0 300
    generalize sh s0 300 = s at *
    go_wp2_with fail
    refine (number_any N _ HN.out).mono ?_
    rintro e w3 ⟨rfl, k3⟩
    go_wp2_with fail
    refine (rnumber_any N _ HN.out).mono ?_
    rintro e w4 ⟨rfl, k4⟩
    go_wp2_with fail
    refine (text_any s _ (by omega)).mono ?_
    rintro e w5 ⟨rfl, k5⟩
    go_wp2_with fail
    refine (rtext_any s _ (by omega)).mono ?_
    rintro e w6 ⟨rfl, k6⟩
    have K6 := (((K2.call k3).call k4).call k5).call k6
    go_wp2_with fail
    refine (long_any N ln _ HN.out HLN.out.symm).mono ?_
    rintro e w7 ⟨rfl, k7⟩
    go_wp2_with fail
    refine (rnumber_any N _ HN.out).mono ?_
    rintro e w8 ⟨rfl, k8⟩
    have K8 := (K6.call k7).call k8
    go_wp2_with fail
    refine (join_any A (cnt) c xs _ HR6.out.1 (by omega) HR6.out.2.1 HSM.out (fun h0 => (HR6.out.kept K8).2.2.2 h0)).mono ?_
    rintro e w9 ⟨rfl, k9⟩
    have K9 := K8.call k9
    go_wp2_with fail
    refine (rjoin_any A (cnt) c xs _ (HR6.out.kept K9) HSM.out (by omega)).mono ?_
    rintro e w10 ⟨rfl, k10⟩
    go_wp2_with fail
    go_ret
    exact ⟨by first | rfl | exact ret_bool (by simp), K9.call k10⟩
end Go.Proofs.Ythceenheaegdbaa
