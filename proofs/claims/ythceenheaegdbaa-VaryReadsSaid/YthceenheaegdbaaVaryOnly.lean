/- The walk of the law VaryOnly: it returns true for every text and every number. -/
import Derived.Test.YthceenheaegdbaaVaryS
import Derived.OpenShut
set_option linter.unusedSimpArgs false
set_option linter.unusedVariables false
namespace Go.Proofs.Ythceenheaegdbaa
open Go.RowKit

theorem take_of_prefix {l m : List UInt8} (h : l <+: m) : m.take l.length = l := (List.prefix_iff_eq_take.1 h).symm
theorem ext_take (s : ByteArray) (k : Nat) : (s.extract 0 k).data.toList = s.data.toList.take k := by simp [ByteArray.data_extract]
theorem num_of_prefix (s : ByteArray) (m : Nat) (h : enc m <+: s.data.toList) : s.extract 0 (enc m).length = num m := by
  have h1 : (s.extract 0 (enc m).length).data.toList = (num m).data.toList := by rw [ext_take, take_of_prefix h]; rfl
  ext1
  exact Array.toList_inj.1 h1

set_option maxHeartbeats 2000000 in
set_option maxRecDepth 100000 in
theorem varyOnly_walk (s0 : ByteArray) (n : Int) (w : World) (hs : s0.size ≤ maxLen) (hn : (Lit.int .u64 n).wf = true) :
    Calls Try.prog 3 #[.string s0, .int .u64 n] w fun e w' => e = .returned (.bool true) ∧ Kept w w' := by
  unfold maxLen at hs
  have hb := bounds_u64 hn
  obtain ⟨N, rfl⟩ := Int.eq_ofNat_of_zero_le hb.1
  have hN : N < 18446744073709551616 := by have := hb.2; omega
  have HN := Lib.hid hN
  have HS := Lib.hid hs
  clear hn hb hN hs
  go_enter Try.func3, Try.ntmps3
  go_wp2_with fail
  refine (awake_any _).mono ?_
  rintro e w1 ⟨rfl, k1⟩
  go_wp2_with fail
  refine (short_any s0 12 12 _ rfl HS.out).mono ?_
  rintro e w2 ⟨rfl, k2⟩
  have hz := sh_size s0 12
  generalize sh s0 12 = s at *
  have cut : ∀ m, m < 18446744073709551616 → ¬ enc m <+: ((num N).extract 0 ((enc N).length - 1)).data.toList := fun m _ h => by
    rw [ext_take] at h
    exact enc_cut m N h
  obtain ⟨len, hlen⟩ : ∃ len, (enc N).length = len := ⟨_, rfl⟩
  have hl1 := enc_pos N
  have hl2 := enc_ten N HN.out
  rw [hlen] at hl1 hl2
  have hnz : (num N).size = len := hlen
  rw [hlen] at cut
  have e1 : (max ((len : Int) - 1) 0).toNat = len - 1 := by omega
  rw [← e1] at cut
  have hcz : Hid (((num N).extract 0 (max ((len : Int) - 1) 0).toNat).size ≤ 1099511627776) := by
    unfold Hid; rw [ByteArray.size_extract, hnz]; omega
  have CUT := Lib.hid cut
  have HLEN := Lib.hid hlen
  clear hlen cut e1
  by_cases hex : ∃ m, m < 18446744073709551616 ∧ enc m <+: s.data.toList
  · obtain ⟨m, hm, hp⟩ := hex
    have hle := hp.length_le
    have hmp := enc_pos m
    have hex := num_of_prefix s m hp
    have hsz : s.data.toList.length = s.size := rfl
    rw [hsz] at hle
    have HP := Lib.hid hp
    have HM := Lib.hid hm
    clear hp hm hsz
    obtain ⟨l2, hl⟩ : ∃ l2, (enc m).length = l2 := ⟨_, rfl⟩
    rw [hl] at hle hmp hex
    have HL := Lib.hid hl
    clear hl
    go_wp2_with fail
    refine (read_yes s 0 0 m l2 w2 (by omega) rfl HM.out (by rw [List.drop_zero]; exact HP.out) HL.out.symm).mono ?_
    rintro e w3 ⟨rfl, k3⟩
    have K3 : Kept w w3 := (k1.call k2).call k3
    go_wp2_with fail
    refine wp_region_text keepsOne (fun wB => Kept w wB) ?_ (by kernel_rfl) (by kernel_rfl) _ rfl ?_
    · exact (by repeat (first | exact Kept.refl _ | assumption | (refine Kept.alloc ?_ _) | (refine Kept.setCell ?_ (by first | omega | (simp; omega) | simp) _) | refine Kept.drew ?_ | refine Kept.drewN ?_ _ | (apply Kept.call; rotate_left; assumption)))
    rintro wB hkB
    repeat (first | (apply DW.det; (focus (intro wd hI; skip; go_wp2_with (first | (go_at_call 14; refine (number_any m _ HM.out).mono ?_; rintro e w5 ⟨rfl, hb5⟩)); refine StepPost.mk _ rfl ⟨rfl, ?_⟩; repeat (first | exact Kept.refl _ | assumption | (refine Kept.alloc ?_ _) | (refine Kept.setCell ?_ (by first | omega | (simp; omega) | simp) _) | refine Kept.drew ?_ | refine Kept.drewN ?_ _ | (apply Kept.call; rotate_left; assumption)))); simp only [Act.put, List.setIfInBounds_toArray, List.set_cons_succ, List.set_cons_zero]) | (refine DW.loud (by kernel_rfl) ?_; intro wd hI; skip; go_wp2_with (first | (go_at_call 14; refine (number_any m _ HM.out).mono ?_; rintro e w5 ⟨rfl, hb5⟩)); refine StepPost.loud _ rfl (by repeat (first | exact Kept.refl _ | assumption | (refine Kept.alloc ?_ _) | (refine Kept.setCell ?_ (by first | omega | (simp; omega) | simp) _) | refine Kept.drew ?_ | refine Kept.drewN ?_ _ | (apply Kept.call; rotate_left; assumption))) (fun hkL => ?_); have hkL := hI.call hkL; have hkB := hkB.call hkL; simp only [Act.put, List.setIfInBounds_toArray, List.set_cons_succ, List.set_cons_zero]))
    refine DW.nil ?_
    intro wd hI
    have hkd := hkB.call hI
    skip
    go_wp2_with fail
    refine (number_any N _ HN.out).mono ?_
    rintro e w4 ⟨rfl, k4⟩
    go_wp2_with fail
    refine (read_no _ 0 w4 hcz.out (fun _ => CUT.out)).mono ?_
    rintro e w5 ⟨rfl, k5⟩
    go_wp2_with fail
    go_ret
    exact ⟨ret_bool (by simp; omega), (hkd.call k4).call k5⟩
  · have hno : ∀ m, m < 18446744073709551616 → ¬ enc m <+: s.data.toList := fun m hm hp => hex ⟨m, hm, hp⟩
    have HNO := Lib.hid hno
    clear hex hno
    go_wp2_with fail
    refine (read_no s 0 w2 (by omega) (fun _ => HNO.out)).mono ?_
    rintro e w3 ⟨rfl, k3⟩
    have K3 : Kept w w3 := (k1.call k2).call k3
    go_wp2_with fail
    refine wp_region_text keepsOne (fun wB => Kept w wB) ?_ (by kernel_rfl) (by kernel_rfl) _ rfl ?_
    · exact (by repeat (first | exact Kept.refl _ | assumption | (refine Kept.alloc ?_ _) | (refine Kept.setCell ?_ (by first | omega | (simp; omega) | simp) _) | refine Kept.drew ?_ | refine Kept.drewN ?_ _ | (apply Kept.call; rotate_left; assumption)))
    rintro wB hkB
    repeat (first | (apply DW.det; (focus (intro wd hI; skip; go_wp2_with (fail); refine StepPost.mk _ rfl ⟨rfl, ?_⟩; repeat (first | exact Kept.refl _ | assumption | (refine Kept.alloc ?_ _) | (refine Kept.setCell ?_ (by first | omega | (simp; omega) | simp) _) | refine Kept.drew ?_ | refine Kept.drewN ?_ _ | (apply Kept.call; rotate_left; assumption)))); simp only [Act.put, List.setIfInBounds_toArray, List.set_cons_succ, List.set_cons_zero]) | (refine DW.loud (by kernel_rfl) ?_; intro wd hI; skip; go_wp2_with (fail); refine StepPost.loud _ rfl (by repeat (first | exact Kept.refl _ | assumption | (refine Kept.alloc ?_ _) | (refine Kept.setCell ?_ (by first | omega | (simp; omega) | simp) _) | refine Kept.drew ?_ | refine Kept.drewN ?_ _ | (apply Kept.call; rotate_left; assumption))) (fun hkL => ?_); have hkL := hI.call hkL; have hkB := hkB.call hkL; simp only [Act.put, List.setIfInBounds_toArray, List.set_cons_succ, List.set_cons_zero]))
    refine DW.nil ?_
    intro wd hI
    have hkd := hkB.call hI
    skip
    go_wp2_with fail
    refine (number_any N _ HN.out).mono ?_
    rintro e w4 ⟨rfl, k4⟩
    go_wp2_with fail
    refine (read_no _ 0 w4 hcz.out (fun _ => CUT.out)).mono ?_
    rintro e w5 ⟨rfl, k5⟩
    go_wp2_with fail
    go_ret
    exact ⟨ret_bool (by simp; omega), (hkd.call k4).call k5⟩
end Go.Proofs.Ythceenheaegdbaa
