/- The walk of the law VaryPrefix: it returns true for every two numbers. -/
import Derived.Test.YthceenheaegdbaaVaryOnly
set_option linter.unusedSimpArgs false
set_option linter.unusedVariables false
namespace Go.Proofs.Ythceenheaegdbaa
open Go.RowKit

/-- Do m's bytes begin those of n? -/
def begB (m n : Nat) : Bool := ((num n).extract 0 (num m).size).toList == (num m).toList

set_option maxHeartbeats 2000000 in
set_option maxRecDepth 100000 in
theorem varyPrefix_walk (m n : Int) (w : World) (hm : (Lit.int .u64 m).wf = true) (hn : (Lit.int .u64 n).wf = true) :
    Calls Try.prog 4 #[.int .u64 m, .int .u64 n] w fun e w' => e = .returned (.bool true) ∧ Kept w w' := by
  have hbm := bounds_u64 hm
  have hbn := bounds_u64 hn
  obtain ⟨M, rfl⟩ := Int.eq_ofNat_of_zero_le hbm.1
  obtain ⟨N, rfl⟩ := Int.eq_ofNat_of_zero_le hbn.1
  have hM : M < 18446744073709551616 := by have := hbm.2; omega
  have hN : N < 18446744073709551616 := by have := hbn.2; omega
  have HM := Lib.hid hM
  have HN := Lib.hid hN
  clear hm hn hbm hbn hM hN
  have hl1 := enc_ten M HM.out
  have hl2 := enc_ten N HN.out
  obtain ⟨lm, hlm⟩ : ∃ l, (enc M).length = l := ⟨_, rfl⟩
  obtain ⟨ln, hln⟩ : ∃ l, (enc N).length = l := ⟨_, rfl⟩
  rw [hlm] at hl1
  rw [hln] at hl2
  have hzm : (num M).size = lm := hlm
  have hzn : (num N).size = ln := hln
  have HLM := Lib.hid hlm
  have HLN := Lib.hid hln
  clear hlm hln
  go_enter Try.func4, Try.ntmps4
  go_wp2_with fail
  refine (awake_any _).mono ?_
  rintro e w1 ⟨rfl, k1⟩
  go_wp2_with fail
  refine (number_any M w1 HM.out).mono ?_
  rintro e w2 ⟨rfl, k2⟩
  go_wp2_with fail
  refine (number_any N w2 HN.out).mono ?_
  rintro e w3 ⟨rfl, k3⟩
  have K3 := (k1.call k2).call k3
  by_cases h1 : M = N
  · subst h1
    have hex : Hid ((num M).extract 0 lm = num M) := by
      unfold Hid
      have := num_of_prefix (num M) M (List.prefix_refl _)
      rwa [HLM.out] at this
    have h2 := hex.out
    go_wp2_with fail
    go_ret
    exact ⟨by first | rfl | exact ret_bool (by simp), K3⟩
  · have hne : Hid (lm ≤ ln → ¬ (num N).extract 0 lm = num M) := by
      unfold Hid
      intro hle he
      have h2 : ((num N).extract 0 lm).data.toList = (num M).data.toList := by rw [he]
      rw [ext_take] at h2
      have h3 : enc M <+: enc N := by
        have h4 : (enc N).take lm = enc M := h2
        rw [← h4]; exact List.take_prefix _ _
      exact h1 (enc_prefix M N (enc N) h3 (List.prefix_refl _))
    have hmono : M < N → lm ≤ ln := fun h => by
      have := enc_mono M N (by omega)
      rw [HLM.out, HLN.out] at this
      exact this
    rcases Nat.lt_or_ge ln lm with h2 | h2
    · have h3 : N < M := by
        rcases Nat.lt_or_ge M N with h | h
        · have := hmono h; omega
        · omega
      have h4 : ((M : Int) == (N : Int)) = false := by simp; omega
      clear hmono
      go_wp2_with fail
      go_ret
      exact ⟨by first | rfl | exact ret_bool (by simp), K3⟩
    · have h4 : ((M : Int) == (N : Int)) = false := by simp; omega
      have h5 := hne.out h2
      have h6 := str_ne h5
      have H5 := Lib.hid h5
      clear h5 hmono
      go_wp2_with fail
      all_goals
        go_ret
        exact ⟨by first | rfl | exact ret_bool (by simp), K3⟩
end Go.Proofs.Ythceenheaegdbaa
