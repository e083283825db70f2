/- The document's Check and Owners, at any row. -/
import Derived.Test.YtahokiopapenbaaTabE
set_option linter.unusedSimpArgs false
set_option linter.unusedVariables false
namespace Go.Proofs.Ytahokiopapenbaa
open Go.RowKit

theorem rtwo_any (n : Nat) (w : World) (h : n ≤ 6) :
    Calls Try.prog 36 #[.int .i64 n] w fun e w' => e = .returned (.int .i64 ((2 ^ n : Nat) : Int)) ∧ Kept w w' := by
  go_enter Try.func36, Try.ntmps36
  go_wp2_with fail
  go_loopw [3, 4] (fun av kv w9 => ∃ k : Nat, k ≤ n ∧ av = .int .i64 ((2 ^ k : Nat) : Int) ∧ kv = .int .i64 k ∧ Kept w w9) (fun _ kv _ => n - (intOf kv).toNat)
  case atStart => exact ⟨0, by omega, rfl, rfl, Kept.refl _⟩
  case round =>
    obtain ⟨k, hk, rfl, rfl, kr⟩ := hrel
    by_cases hkn : k < n
    · have hp1 := two_le (n := k) (by omega)
      have hp2 : Hid (2 ^ (k + 1) = 2 * 2 ^ k) := by unfold Hid; rw [Nat.pow_succ, Nat.mul_comm]
      generalize 2 ^ k = t at *
      go_wp2_with fail
      go_roundw
      case rel => first | exact ⟨k + 1, by omega, by rw [hp2.out]; go_num, by go_num, kr⟩ | ((repeat apply Exists.intro); exact ⟨⟨k + 1, by omega, by rw [hp2.out]; go_num, by go_num, kr⟩, rfl⟩)
      case measure => simp [intOf]; omega
    · obtain rfl : k = n := by omega
      obtain ⟨t, ht⟩ : ∃ t, 2 ^ k = t := ⟨_, rfl⟩
      have HT := Lib.hid ht
      rw [ht]
      go_wp2_with fail
      go_ret
      exact ⟨by rw [HT.out]; rfl, kr⟩
theorem rbit_any (M s : Nat) (w : World) (h0 : M < 64) (hs : s < 6) :
    Calls Try.prog 34 #[.int .i64 M, .int .i64 s] w fun e w' => e = .returned (.bool (decide (M / 2 ^ s % 2 = 1))) ∧ Kept w w' := by
  have hp : 0 < 2 ^ s := Nat.pow_pos (by omega)
  have hp1 := two_le (n := s) (by omega)
  have hr := rtwo_any s w (by omega)
  have HQ : Hid (∀ q : Nat, q = M / 2 ^ s → ((M : Int).tdiv ((2 ^ s : Nat) : Int)) = q) := fun q hq => by
    rw [Int.tdiv_eq_ediv_of_nonneg (by omega), ← Int.natCast_ediv, hq]
  have hdl : M / 2 ^ s ≤ M := Nat.div_le_self _ _
  generalize 2 ^ s = t at *
  have hq := HQ.out _ rfl
  generalize M / t = q at *
  have hne : ((t : Int) == 0) = false := by simp; omega
  go_enter Try.func34, Try.ntmps34
  go_wp2_with fail
  refine hr.mono ?_
  rintro e w1 ⟨rfl, k1⟩
  rcases Nat.mod_two_eq_zero_or_one q with hm | hm
  · have hm2 : ((q : Nat) : Int).tmod 2 = 0 := by rw [Int.tmod_eq_emod_of_nonneg (by omega)]; omega
    go_wp2_with fail
    go_ret
    exact ⟨by rw [hm]; rfl, k1⟩
  · have hm2 : ((q : Nat) : Int).tmod 2 = 1 := by rw [Int.tmod_eq_emod_of_nonneg (by omega)]; omega
    go_wp2_with fail
    go_ret
    exact ⟨by rw [hm]; rfl, k1⟩
set_option maxRecDepth 20000 in
set_option maxHeartbeats 4000000 in
theorem r7check_g (A B C : Option Addr) (n1 c1 n2 c2 n3 c3 : Nat) (rs : List Rg) (os ps : List Int) (w : World) (hr : RowW w A n1 c1 B n2 c2 C n3 c3 rs os ps) (hs : Small rs) :
    Calls Try.prog 22 #[.agg #[.slice A n1 c1, .slice B n2 c2, .slice C n3 c3]] w fun e w' => e = .returned (.bool (fitB rs os n3)) ∧ Kept w w' := by
  have HR := Lib.hid hr
  have HS := Lib.hid hs
  have H1 := Lib.hid hr.rs.1
  have H2 := Lib.hid hr.os.1
  obtain ⟨b1, b2, b3⟩ := hr.bd
  have hb1 : n1 ≤ c1 ∧ c1 ≤ 9223372036854775807 := by have h1 := hr.rs.2.1; have h2 := hr.rs.2.2.1; unfold maxLen at h2; omega
  have hb2 : n2 ≤ c2 ∧ c2 ≤ 9223372036854775807 := by have h1 := hr.os.2.1; have h2 := hr.os.2.2.1; unfold maxLen at h2; omega
  obtain ⟨wb, hwb⟩ : ∃ wb, wholeB rs = wb := ⟨_, rfl⟩
  have HWB := Lib.hid hwb
  clear hr hs hwb
  by_cases g : wb = true ∧ n1 ≤ 8 ∧ n2 = n1 ∧ 1 ≤ n3 ∧ n3 ≤ 6
  · obtain ⟨rfl, g8, rfl, g1, g6⟩ := g
    have hn0 : 1 ≤ n2 := by have := ((wholeB_iff _).1 HWB.out).2.1; rw [H1.out] at this; exact this
    obtain ⟨ob, oo, rfl, hoc⟩ := HR.out.os.2.2.2.2 (by omega)
    have HOC : Hid (∀ i, i < n2 → w.cell? ⟨ob, oo + i, none⟩ = some (.int .i64 (oa os i))) := hoc
    have HT := Lib.hid (fun w => rtwo_any n3 w g6)
    have h2l := two_le g6
    have HFIT : Hid ((∀ i, i < n2 → 1 ≤ oa os i ∧ oa os i < ((2 ^ n3 : Nat) : Int)) → fitB rs os n3 = true) := fun h => (fitB_iff _ _ _).2 ⟨g1, g6, by rw [H1.out]; exact g8, by rw [H1.out, H2.out], HWB.out, fun j hj => h j (by rw [H2.out] at hj; exact hj)⟩
    have HBAD : Hid (∀ i, i < n2 → ¬ (1 ≤ oa os i ∧ oa os i < ((2 ^ n3 : Nat) : Int)) → fitB rs os n3 = false) := fun i hlt h => fitB_no fun hh => h (hh.2.2.2.2.2 i (by rw [H2.out]; exact hlt))
    clear hoc
    generalize 2 ^ n3 = T at *
    have d1 : decide ((8 : Int) < (n2 : Int)) = false := by simp; omega
    have d2 : decide ((n3 : Int) < 1) = false := by simp; omega
    have d3 : decide ((6 : Int) < (n3 : Int)) = false := by simp; omega
    go_enter Try.func22, Try.ntmps22
    go_wp2_with fail
    refine (rwhole_g A n2 c1 rs _ (HR.out.rs.keep (by repeat (first | exact Kept.refl _ | assumption | (refine Kept.alloc ?_ _) | (refine Kept.setCell ?_ (by first | omega | (simp; omega) | simp) _) | refine Kept.drew ?_ | refine Kept.drewN ?_ _ | (apply Kept.call; rotate_left; assumption)))) HS.out).mono ?_
    rintro e w1 ⟨rfl, k1⟩
    rw [HWB.out]
    have K1 : Kept w w1 := Kept.call (by repeat (first | exact Kept.refl _ | assumption | (refine Kept.alloc ?_ _) | (refine Kept.setCell ?_ (by first | omega | (simp; omega) | simp) _) | refine Kept.drew ?_ | refine Kept.drewN ?_ _ | (apply Kept.call; rotate_left; assumption))) k1
    have e0 : w1.cell? ⟨w.heap.size, 0, none⟩ = some (.slice A n2 c1) := k1.at_ (by go_simp)
    have e1 : w1.cell? ⟨w.heap.size, 1, none⟩ = some (.slice (some ⟨ob, oo, none⟩) n2 c2) := k1.at_ (by go_simp)
    go_wp2_with fail
    go_loopw [5] (fun iv wr => ∃ i : Nat, i ≤ n2 ∧ iv = .int .i64 i ∧ Hid (∀ j, j < i → 1 ≤ oa os j ∧ oa os j < (T : Int)) ∧ Kept w1 wr) (fun iv _ => n2 - (intOf iv).toNat)
    case atStart => exact ⟨0, by omega, rfl, fun j hj => by omega, Kept.refl _⟩
    case round =>
      obtain ⟨i, hi, rfl, HA, kr⟩ := hrel
      have e1 := kr.at_ e1
      by_cases hlt : i < n2
      · have co := kr.at_ (K1.at_ (HOC.out i hlt))
        have hbad := Lib.hid (HBAD.out i hlt)
        have HA2 : Hid ((1 ≤ oa os i ∧ oa os i < (T : Int)) → ∀ j, j < i + 1 → 1 ≤ oa os j ∧ oa os j < (T : Int)) := fun h j hj => by
          rcases Nat.lt_or_ge j i with g | g
          · exact HA.out j g
          · obtain rfl : j = i := by omega
            exact h
        generalize oa os i = o at *
        by_cases ho1 : 1 ≤ o
        · have d4 : decide (o < 1) = false := by simp; omega
          by_cases ho2 : o < (T : Int)
          · have hok := Lib.hid (HA2.out ⟨ho1, ho2⟩)
            have d5 : decide ((T : Int) ≤ o) = false := by simp; omega
            clear hbad HA2
            go_wp2_with fail
            refine wp_region_text keepsOne (fun wB => Kept w1 wB ∧ wB.cell? ⟨w.heap.size, 1, none⟩ = some (.slice (some ⟨ob, oo, none⟩) n2 c2) ∧ wB.cell? ⟨ob, oo + i, none⟩ = some (.int .i64 o)) ?_ (by kernel_rfl) (by kernel_rfl) _ (by (try simp only [List.append_eq, List.cons_append, List.nil_append, List.toList_toArray]); exact rfl) ?_
            · exact ⟨by repeat (first | exact Kept.refl _ | assumption | (refine Kept.alloc ?_ _) | (refine Kept.setCell ?_ (by first | omega | (simp; omega) | simp) _) | refine Kept.drew ?_ | refine Kept.drewN ?_ _ | (apply Kept.call; rotate_left; assumption)), by first | assumption | go_simp, by first | assumption | go_simp⟩
            rintro wB ⟨hkB, sB1, sB2⟩
            repeat (first | (apply DW.det; (focus (intro wd hI; have td1 := hI.at_ sB1; have td2 := hI.at_ sB2; skip; go_wp2_with (first | (go_at_call 36; refine (HT.out _).mono ?_; rintro e w6 ⟨rfl, hb6⟩)); refine StepPost.mk _ rfl ⟨rfl, ?_⟩; repeat (first | exact Kept.refl _ | assumption | (refine Kept.alloc ?_ _) | (refine Kept.setCell ?_ (by first | omega | (simp; omega) | simp) _) | refine Kept.drew ?_ | refine Kept.drewN ?_ _ | (apply Kept.call; rotate_left; assumption)))); simp only [Act.put, List.setIfInBounds_toArray, List.set_cons_succ, List.set_cons_zero]) | (refine DW.loud (by kernel_rfl) ?_; intro wd hI; have td1 := hI.at_ sB1; have td2 := hI.at_ sB2; skip; go_wp2_with (first | (go_at_call 36; refine (HT.out _).mono ?_; rintro e w6 ⟨rfl, hb6⟩)); refine StepPost.loud _ rfl (by repeat (first | exact Kept.refl _ | assumption | (refine Kept.alloc ?_ _) | (refine Kept.setCell ?_ (by first | omega | (simp; omega) | simp) _) | refine Kept.drew ?_ | refine Kept.drewN ?_ _ | (apply Kept.call; rotate_left; assumption))) (fun hkL => ?_); have hkL := hI.call hkL; have hkB := hkB.call hkL; have sB1 := hkL.at_ sB1; have sB2 := hkL.at_ sB2; simp only [Act.put, List.setIfInBounds_toArray, List.set_cons_succ, List.set_cons_zero]))
            refine DW.nil ?_
            intro wd hI
            have hkd := hkB.call hI
            have td1 := hI.at_ sB1; have td2 := hI.at_ sB2
            go_wp2_with fail
            go_roundw
            case rel => first | exact ⟨i + 1, by omega, by go_num, hok, hkd⟩ | ((repeat apply Exists.intro); exact ⟨⟨i + 1, by omega, by go_num, hok, hkd⟩, rfl⟩)
            case measure => first | (simp [intOf]; done) | (simp [intOf]; omega)
          · have hf := Lib.hid (hbad.out fun h => ho2 h.2)
            have d5 : decide ((T : Int) ≤ o) = true := by simp; omega
            clear hbad HA2
            go_wp2_with fail
            refine wp_region_text keepsOne (fun wB => Kept w1 wB ∧ wB.cell? ⟨w.heap.size, 1, none⟩ = some (.slice (some ⟨ob, oo, none⟩) n2 c2) ∧ wB.cell? ⟨ob, oo + i, none⟩ = some (.int .i64 o)) ?_ (by kernel_rfl) (by kernel_rfl) _ (by (try simp only [List.append_eq, List.cons_append, List.nil_append, List.toList_toArray]); exact rfl) ?_
            · exact ⟨by repeat (first | exact Kept.refl _ | assumption | (refine Kept.alloc ?_ _) | (refine Kept.setCell ?_ (by first | omega | (simp; omega) | simp) _) | refine Kept.drew ?_ | refine Kept.drewN ?_ _ | (apply Kept.call; rotate_left; assumption)), by first | assumption | go_simp, by first | assumption | go_simp⟩
            rintro wB ⟨hkB, sB1, sB2⟩
            repeat (first | (apply DW.det; (focus (intro wd hI; have td1 := hI.at_ sB1; have td2 := hI.at_ sB2; skip; go_wp2_with (first | (go_at_call 36; refine (HT.out _).mono ?_; rintro e w6 ⟨rfl, hb6⟩)); refine StepPost.mk _ rfl ⟨rfl, ?_⟩; repeat (first | exact Kept.refl _ | assumption | (refine Kept.alloc ?_ _) | (refine Kept.setCell ?_ (by first | omega | (simp; omega) | simp) _) | refine Kept.drew ?_ | refine Kept.drewN ?_ _ | (apply Kept.call; rotate_left; assumption)))); simp only [Act.put, List.setIfInBounds_toArray, List.set_cons_succ, List.set_cons_zero]) | (refine DW.loud (by kernel_rfl) ?_; intro wd hI; have td1 := hI.at_ sB1; have td2 := hI.at_ sB2; skip; go_wp2_with (first | (go_at_call 36; refine (HT.out _).mono ?_; rintro e w6 ⟨rfl, hb6⟩)); refine StepPost.loud _ rfl (by repeat (first | exact Kept.refl _ | assumption | (refine Kept.alloc ?_ _) | (refine Kept.setCell ?_ (by first | omega | (simp; omega) | simp) _) | refine Kept.drew ?_ | refine Kept.drewN ?_ _ | (apply Kept.call; rotate_left; assumption))) (fun hkL => ?_); have hkL := hI.call hkL; have hkB := hkB.call hkL; have sB1 := hkL.at_ sB1; have sB2 := hkL.at_ sB2; simp only [Act.put, List.setIfInBounds_toArray, List.set_cons_succ, List.set_cons_zero]))
            refine DW.nil ?_
            intro wd hI
            have hkd := hkB.call hI
            have td1 := hI.at_ sB1; have td2 := hI.at_ sB2
            go_wp2_with fail
            go_ret
            exact ⟨ret_bool hf.out.symm, K1.call hkd⟩
        · have hf := Lib.hid (hbad.out fun h => ho1 h.1)
          have d4 : decide (o < 1) = true := by simp; omega
          clear hbad HA2
          go_wp2_with fail
          refine wp_region_text keepsOne (fun wB => Kept w1 wB ∧ wB.cell? ⟨w.heap.size, 1, none⟩ = some (.slice (some ⟨ob, oo, none⟩) n2 c2) ∧ wB.cell? ⟨ob, oo + i, none⟩ = some (.int .i64 o)) ?_ (by kernel_rfl) (by kernel_rfl) _ (by (try simp only [List.append_eq, List.cons_append, List.nil_append, List.toList_toArray]); exact rfl) ?_
          · exact ⟨by repeat (first | exact Kept.refl _ | assumption | (refine Kept.alloc ?_ _) | (refine Kept.setCell ?_ (by first | omega | (simp; omega) | simp) _) | refine Kept.drew ?_ | refine Kept.drewN ?_ _ | (apply Kept.call; rotate_left; assumption)), by first | assumption | go_simp, by first | assumption | go_simp⟩
          rintro wB ⟨hkB, sB1, sB2⟩
          repeat (first | (apply DW.det; (focus (intro wd hI; have td1 := hI.at_ sB1; have td2 := hI.at_ sB2; skip; go_wp2_with (first | (go_at_call 36; refine (HT.out _).mono ?_; rintro e w6 ⟨rfl, hb6⟩)); refine StepPost.mk _ rfl ⟨rfl, ?_⟩; repeat (first | exact Kept.refl _ | assumption | (refine Kept.alloc ?_ _) | (refine Kept.setCell ?_ (by first | omega | (simp; omega) | simp) _) | refine Kept.drew ?_ | refine Kept.drewN ?_ _ | (apply Kept.call; rotate_left; assumption)))); simp only [Act.put, List.setIfInBounds_toArray, List.set_cons_succ, List.set_cons_zero]) | (refine DW.loud (by kernel_rfl) ?_; intro wd hI; have td1 := hI.at_ sB1; have td2 := hI.at_ sB2; skip; go_wp2_with (first | (go_at_call 36; refine (HT.out _).mono ?_; rintro e w6 ⟨rfl, hb6⟩)); refine StepPost.loud _ rfl (by repeat (first | exact Kept.refl _ | assumption | (refine Kept.alloc ?_ _) | (refine Kept.setCell ?_ (by first | omega | (simp; omega) | simp) _) | refine Kept.drew ?_ | refine Kept.drewN ?_ _ | (apply Kept.call; rotate_left; assumption))) (fun hkL => ?_); have hkL := hI.call hkL; have hkB := hkB.call hkL; have sB1 := hkL.at_ sB1; have sB2 := hkL.at_ sB2; simp only [Act.put, List.setIfInBounds_toArray, List.set_cons_succ, List.set_cons_zero]))
          refine DW.nil ?_
          intro wd hI
          have hkd := hkB.call hI
          have td1 := hI.at_ sB1; have td2 := hI.at_ sB2
          go_wp2_with fail
          go_ret
          exact ⟨ret_bool hf.out.symm, K1.call hkd⟩
      · obtain rfl : i = n2 := by omega
        have hf := Lib.hid (HFIT.out HA.out)
        go_wp2_with fail
        go_ret
        exact ⟨ret_bool hf.out.symm, K1.call kr⟩
  · have hf : Hid (fitB rs os n3 = false) := fitB_no fun h => g ⟨by have := h.2.2.2.2.1; rw [HWB.out] at this; exact this, by have := h.2.2.1; rw [H1.out] at this; exact this, by have := h.2.2.2.1; rw [H1.out, H2.out] at this; exact this, h.1, h.2.1⟩
    have hcase : wb = false ∨ (wb = true ∧ 8 < n1) ∨ (wb = true ∧ ¬ 8 < n1 ∧ n2 ≠ n1) ∨ (wb = true ∧ ¬ 8 < n1 ∧ n2 = n1 ∧ n3 < 1) ∨ (wb = true ∧ ¬ 8 < n1 ∧ n2 = n1 ∧ ¬ n3 < 1 ∧ 6 < n3) := by
      cases wb
      · exact .inl rfl
      · have g' : ¬ (n1 ≤ 8 ∧ n2 = n1 ∧ 1 ≤ n3 ∧ n3 ≤ 6) := fun h => g ⟨rfl, h⟩
        simp only [true_and, Bool.true_eq_false, false_or]
        omega
    clear g
    rcases hcase with rfl | ⟨rfl, h1⟩ | ⟨rfl, h1, h2⟩ | ⟨rfl, h1, rfl, h3⟩ | ⟨rfl, h1, rfl, h3, h4⟩
    · have d0 : True := trivial
      go_enter Try.func22, Try.ntmps22
      go_wp2_with fail
      refine (rwhole_g A n1 c1 rs _ (HR.out.rs.keep (by repeat (first | exact Kept.refl _ | assumption | (refine Kept.alloc ?_ _) | (refine Kept.setCell ?_ (by first | omega | (simp; omega) | simp) _) | refine Kept.drew ?_ | refine Kept.drewN ?_ _ | (apply Kept.call; rotate_left; assumption)))) HS.out).mono ?_
      rintro e w1 ⟨rfl, k1⟩
      rw [HWB.out]
      have K1 : Kept w w1 := Kept.call (by repeat (first | exact Kept.refl _ | assumption | (refine Kept.alloc ?_ _) | (refine Kept.setCell ?_ (by first | omega | (simp; omega) | simp) _) | refine Kept.drew ?_ | refine Kept.drewN ?_ _ | (apply Kept.call; rotate_left; assumption))) k1
      have e0 : w1.cell? ⟨w.heap.size, 0, none⟩ = some (.slice A n1 c1) := k1.at_ (by go_simp)
      have e1 : w1.cell? ⟨w.heap.size, 1, none⟩ = some (.slice B n2 c2) := k1.at_ (by go_simp)
      go_wp2_with fail
      go_ret
      exact ⟨ret_bool hf.out.symm, K1⟩
    · have d1 : decide ((8 : Int) < (n1 : Int)) = true := by simp; omega
      go_enter Try.func22, Try.ntmps22
      go_wp2_with fail
      refine (rwhole_g A n1 c1 rs _ (HR.out.rs.keep (by repeat (first | exact Kept.refl _ | assumption | (refine Kept.alloc ?_ _) | (refine Kept.setCell ?_ (by first | omega | (simp; omega) | simp) _) | refine Kept.drew ?_ | refine Kept.drewN ?_ _ | (apply Kept.call; rotate_left; assumption)))) HS.out).mono ?_
      rintro e w1 ⟨rfl, k1⟩
      rw [HWB.out]
      have K1 : Kept w w1 := Kept.call (by repeat (first | exact Kept.refl _ | assumption | (refine Kept.alloc ?_ _) | (refine Kept.setCell ?_ (by first | omega | (simp; omega) | simp) _) | refine Kept.drew ?_ | refine Kept.drewN ?_ _ | (apply Kept.call; rotate_left; assumption))) k1
      have e0 : w1.cell? ⟨w.heap.size, 0, none⟩ = some (.slice A n1 c1) := k1.at_ (by go_simp)
      have e1 : w1.cell? ⟨w.heap.size, 1, none⟩ = some (.slice B n2 c2) := k1.at_ (by go_simp)
      go_wp2_with fail
      go_ret
      exact ⟨ret_bool hf.out.symm, K1⟩
    · have d1 : decide ((8 : Int) < (n1 : Int)) = false := by simp; omega
      have d2 : ((n2 : Int) != (n1 : Int)) = true := by simp; omega
      go_enter Try.func22, Try.ntmps22
      go_wp2_with fail
      refine (rwhole_g A n1 c1 rs _ (HR.out.rs.keep (by repeat (first | exact Kept.refl _ | assumption | (refine Kept.alloc ?_ _) | (refine Kept.setCell ?_ (by first | omega | (simp; omega) | simp) _) | refine Kept.drew ?_ | refine Kept.drewN ?_ _ | (apply Kept.call; rotate_left; assumption)))) HS.out).mono ?_
      rintro e w1 ⟨rfl, k1⟩
      rw [HWB.out]
      have K1 : Kept w w1 := Kept.call (by repeat (first | exact Kept.refl _ | assumption | (refine Kept.alloc ?_ _) | (refine Kept.setCell ?_ (by first | omega | (simp; omega) | simp) _) | refine Kept.drew ?_ | refine Kept.drewN ?_ _ | (apply Kept.call; rotate_left; assumption))) k1
      have e0 : w1.cell? ⟨w.heap.size, 0, none⟩ = some (.slice A n1 c1) := k1.at_ (by go_simp)
      have e1 : w1.cell? ⟨w.heap.size, 1, none⟩ = some (.slice B n2 c2) := k1.at_ (by go_simp)
      go_wp2_with fail
      go_ret
      exact ⟨ret_bool hf.out.symm, K1⟩
    · have d1 : decide ((8 : Int) < (n2 : Int)) = false := by simp; omega
      have d3 : decide ((n3 : Int) < 1) = true := by simp; omega
      go_enter Try.func22, Try.ntmps22
      go_wp2_with fail
      refine (rwhole_g A n2 c1 rs _ (HR.out.rs.keep (by repeat (first | exact Kept.refl _ | assumption | (refine Kept.alloc ?_ _) | (refine Kept.setCell ?_ (by first | omega | (simp; omega) | simp) _) | refine Kept.drew ?_ | refine Kept.drewN ?_ _ | (apply Kept.call; rotate_left; assumption)))) HS.out).mono ?_
      rintro e w1 ⟨rfl, k1⟩
      rw [HWB.out]
      have K1 : Kept w w1 := Kept.call (by repeat (first | exact Kept.refl _ | assumption | (refine Kept.alloc ?_ _) | (refine Kept.setCell ?_ (by first | omega | (simp; omega) | simp) _) | refine Kept.drew ?_ | refine Kept.drewN ?_ _ | (apply Kept.call; rotate_left; assumption))) k1
      have e0 : w1.cell? ⟨w.heap.size, 0, none⟩ = some (.slice A n2 c1) := k1.at_ (by go_simp)
      have e1 : w1.cell? ⟨w.heap.size, 1, none⟩ = some (.slice B n2 c2) := k1.at_ (by go_simp)
      go_wp2_with fail
      go_ret
      exact ⟨ret_bool hf.out.symm, K1⟩
    · have d1 : decide ((8 : Int) < (n2 : Int)) = false := by simp; omega
      have d3 : decide ((n3 : Int) < 1) = false := by simp; omega
      have d4 : decide ((6 : Int) < (n3 : Int)) = true := by simp; omega
      go_enter Try.func22, Try.ntmps22
      go_wp2_with fail
      refine (rwhole_g A n2 c1 rs _ (HR.out.rs.keep (by repeat (first | exact Kept.refl _ | assumption | (refine Kept.alloc ?_ _) | (refine Kept.setCell ?_ (by first | omega | (simp; omega) | simp) _) | refine Kept.drew ?_ | refine Kept.drewN ?_ _ | (apply Kept.call; rotate_left; assumption)))) HS.out).mono ?_
      rintro e w1 ⟨rfl, k1⟩
      rw [HWB.out]
      have K1 : Kept w w1 := Kept.call (by repeat (first | exact Kept.refl _ | assumption | (refine Kept.alloc ?_ _) | (refine Kept.setCell ?_ (by first | omega | (simp; omega) | simp) _) | refine Kept.drew ?_ | refine Kept.drewN ?_ _ | (apply Kept.call; rotate_left; assumption))) k1
      have e0 : w1.cell? ⟨w.heap.size, 0, none⟩ = some (.slice A n2 c1) := k1.at_ (by go_simp)
      have e1 : w1.cell? ⟨w.heap.size, 1, none⟩ = some (.slice B n2 c2) := k1.at_ (by go_simp)
      go_wp2_with fail
      go_ret
      exact ⟨ret_bool hf.out.symm, K1⟩
set_option maxHeartbeats 2000000 in
theorem rowners_g (A B C : Option Addr) (n1 c1 n2 c2 n3 c3 : Nat) (rs : List Rg) (os ps : List Int) (k : ByteArray) (w : World) (hr : RowW w A n1 c1 B n2 c2 C n3 c3 rs os ps) (hs : Small rs) :
    Calls Try.prog 24 #[.agg #[.slice A n1 c1, .slice B n2 c2, .slice C n3 c3], .string k] w fun e w' => ∃ o, e = .returned (.int .i64 o) ∧ OwnR rs os n3 k o ∧ Kept w w' := by
  have HR := Lib.hid hr
  have HS := Lib.hid hs
  have H1 := Lib.hid hr.rs.1
  have H2 := Lib.hid hr.os.1
  have hb := hr.bd
  obtain ⟨fb, hfb⟩ : ∃ fb, fitB rs os n3 = fb := ⟨_, rfl⟩
  have HFB := Lib.hid hfb
  clear hr hs hfb
  go_enter Try.func24, Try.ntmps24
  go_wp2_with fail
  refine (r7check_g A B C n1 c1 n2 c2 n3 c3 rs os ps _ (HR.out.keep (by repeat (first | exact Kept.refl _ | assumption | (refine Kept.alloc ?_ _) | (refine Kept.setCell ?_ (by first | omega | (simp; omega) | simp) _) | refine Kept.drew ?_ | refine Kept.drewN ?_ _ | (apply Kept.call; rotate_left; assumption)))) HS.out).mono ?_
  rintro e w1 ⟨rfl, k1⟩
  rw [HFB.out]
  have K1 : Kept w w1 := Kept.call (by repeat (first | exact Kept.refl _ | assumption | (refine Kept.alloc ?_ _) | (refine Kept.setCell ?_ (by first | omega | (simp; omega) | simp) _) | refine Kept.drew ?_ | refine Kept.drewN ?_ _ | (apply Kept.call; rotate_left; assumption))) k1
  have e0 : w1.cell? ⟨w.heap.size, 0, none⟩ = some (.slice A n1 c1) := k1.at_ (by go_simp)
  have e1 : w1.cell? ⟨w.heap.size, 1, none⟩ = some (.slice B n2 c2) := k1.at_ (by go_simp)
  cases fb
  · go_wp2_with fail
    go_ret
    exact ⟨0, rfl, .inl ⟨HFB.out, rfl⟩, K1⟩
  · go_wp2_with fail
    refine (rfind_any A n1 c1 rs k _ (HR.out.rs.keep K1)).mono ?_
    rintro e w2 ⟨r, rfl, hfi, k2⟩
    have HFI := Lib.hid hfi
    have K2 := K1.call k2
    have e1 := k2.at_ e1
    rcases firstIs_cases hfi with rfl | ⟨i, rfl, hi⟩
    · clear hfi
      go_wp2_with fail
      go_ret
      exact ⟨0, rfl, .inr ⟨HFB.out, -1, HFI.out, .inl ⟨rfl, rfl⟩⟩, K2⟩
    · have hfit := (fitB_iff _ _ _).1 HFB.out
      have hi2 : i < n2 := by have := hfit.2.2.2.1; rw [H2.out] at this; omega
      have HIL := Lib.hid hi
      obtain ⟨ob, oo, rfl, hoc⟩ := HR.out.os.2.2.2.2 (by omega)
      have co : w2.cell? ⟨ob, oo + i, none⟩ = some (.int .i64 (oa os i)) := K2.at_ (hoc i hi2)
      have hc2 : n2 ≤ c2 := HR.out.os.2.1
      obtain ⟨o, ho⟩ : ∃ o, oa os i = o := ⟨_, rfl⟩
      have HO := Lib.hid ho
      rw [ho] at co
      have d1 : decide ((i : Int) < 0) = false := by simp
      clear hfi hoc hfit ho hi
      go_wp2_with fail
      go_ret
      exact ⟨o, rfl, .inr ⟨HFB.out, i, HFI.out, .inr ⟨i, rfl, HIL.out, HO.out.symm⟩⟩, K2⟩
end Go.Proofs.Ytahokiopapenbaa
