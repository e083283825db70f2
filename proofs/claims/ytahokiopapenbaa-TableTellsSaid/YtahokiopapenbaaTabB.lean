/- Check, Good and Whole of both at any ranges. -/
import Derived.Test.YtahokiopapenbaaTabJ
import Derived.Test.YtahokiopapenbaaTabF
set_option linter.unusedSimpArgs false
set_option linter.unusedVariables false
namespace Go.Proofs.Ytahokiopapenbaa
open Go.RowKit

set_option maxHeartbeats 1000000 in
theorem rcheckk (s : ByteArray) (w : World) (hz : s.size ≤ 4294967296) :
    Calls Try.prog 46 #[.string s] w fun e w' => e = .returned (.bool (checkB s)) ∧ Kept w w' := by
  obtain ⟨R, hR⟩ : ∃ R, runesI s = R := ⟨_, rfl⟩
  have HRR := Lib.hid hR
  clear hR
  go_enter Try.func46, Try.ntmps46
  go_wp2_with (go_at_call 48; refine (rrunes s _ hz).mono ?_; rintro e w1 ⟨rfl, k1⟩; rw [HRR.out])
  go_loopw [4] (fun iv wr => ∃ i : Nat, i ≤ s.size ∧ iv = .int .i64 i ∧ Hid (∀ j, j < i → 33 ≤ by_ s j) ∧ Kept w1 wr) (fun iv _ => s.size - (intOf iv).toNat)
  case atStart => exact ⟨0, by omega, rfl, fun j hj => by omega, Kept.refl _⟩
  case round =>
    obtain ⟨i, hi, rfl, HA, kr⟩ := hrel
    by_cases hp : i < s.size
    · have e1 : decide ((i : Int) < (s.size : Int)) = true := by simp; omega
      have hix := fun w => index_at (P := Try.prog) 9 Try.underlying9 hp w
      obtain ⟨b, hb⟩ : ∃ b, by_ s i = b := ⟨_, rfl⟩
      have HB := Lib.hid hb
      rw [hb] at hix
      clear hb
      rcases Nat.lt_or_ge b 33 with g | g
      · have hf : Hid (checkB s = false) := checkB_no fun h => by have := h.2.2 i hp; rw [HB.out] at this; omega
        have d1 : decide ((b : Int) < 33) = true := by simp; omega
        go_wp2_with fail
        go_ret
        exact ⟨ret_bool hf.out.symm, k1.call kr⟩
      · have HA2 : Hid (∀ j, j < i + 1 → 33 ≤ by_ s j) := fun j hj => by
          rcases Nat.lt_or_ge j i with g2 | g2
          · exact HA.out j g2
          · obtain rfl : j = i := by omega
            rw [HB.out]; exact g
        have d1 : decide ((b : Int) < 33) = false := by simp; omega
        go_wp2_with fail
        go_roundw
        case rel => first | exact ⟨i + 1, by omega, by go_num, HA2, kr⟩ | ((repeat apply Exists.intro); exact ⟨⟨i + 1, by omega, by go_num, HA2, kr⟩, rfl⟩)
        case measure => simp [intOf]; omega
    · have e1 : decide ((i : Int) < (s.size : Int)) = false := by simp; omega
      by_cases hr : 1 ≤ R ∧ R ≤ 8
      · obtain ⟨hr1, hr8⟩ := hr
        have d1 : decide (1 ≤ R) = true := by simpa using hr1
        have d2 : decide (R ≤ 8) = true := by simpa using hr8
        have hf : Hid (checkB s = true) := (checkB_iff s).2 ⟨by rw [HRR.out]; exact hr1, by rw [HRR.out]; exact hr8, fun j hj => HA.out j (by omega)⟩
        go_wp2_with fail
        go_ret
        exact ⟨ret_bool hf.out.symm, k1.call kr⟩
      · have hf : Hid (checkB s = false) := checkB_no fun h => hr ⟨by rw [← HRR.out]; exact h.1, by rw [← HRR.out]; exact h.2.1⟩
        have hcase : decide (1 ≤ R) = false ∨ (decide (1 ≤ R) = true ∧ decide (R ≤ 8) = false) := by
          simp only [decide_eq_true_eq, decide_eq_false_iff_not]
          omega
        clear hr
        rcases hcase with d1 | ⟨d1, d2⟩
        all_goals
          (go_wp2_with fail
           go_ret
           exact ⟨ret_bool hf.out.symm, k1.call kr⟩)
/-- A bound may be nothing, or a key. -/
noncomputable def mayB (s : ByteArray) : Bool := s.toList.isEmpty || checkB s
noncomputable def goodB (f t : ByteArray) : Bool := mayB f && (mayB t && (t.toList.isEmpty || Op.bytesLess f.toList t.toList))
theorem mayB_is (s : ByteArray) : mayB s = (s.toList.isEmpty || checkB s) := rfl
theorem goodB_is (f t : ByteArray) : goodB f t = (mayB f && (mayB t && (t.toList.isEmpty || Op.bytesLess f.toList t.toList))) := rfl
theorem mayg (s : ByteArray) (w : World) (hz : s.size ≤ 4294967296) :
    Calls Try.prog 44 #[.string s] w fun e w' => e = .returned (.bool (mayB s)) ∧ Kept w w' := by
  have HM := Lib.hid (mayB_is s)
  cases he : s.toList.isEmpty
  · rw [he] at HM
    go_enter Try.func44, Try.ntmps44
    go_wp2_with (go_at_call 45; refine (check_any s _ hz).mono ?_; rintro e w1 ⟨rfl, k1⟩)
    go_ret
    exact ⟨by rw [HM.out]; simp, k1⟩
  · rw [he] at HM
    go_enter Try.func44, Try.ntmps44
    go_wp2_with fail
    go_ret
    exact ⟨by rw [HM.out]; rfl, by repeat (first | exact Kept.refl _ | assumption | (refine Kept.alloc ?_ _) | (refine Kept.setCell ?_ (by first | omega | (simp; omega) | simp) _) | refine Kept.drew ?_ | refine Kept.drewN ?_ _ | (apply Kept.call; rotate_left; assumption))⟩
set_option maxHeartbeats 1000000 in
theorem goodg (f t : ByteArray) (w : World) (hf : f.size ≤ 4294967296) (ht : t.size ≤ 4294967296) :
    Calls Try.prog 39 #[.agg #[.string f, .string t]] w fun e w' => e = .returned (.bool (goodB f t)) ∧ Kept w w' := by
  have hmf : ∀ fn first cap w, (Instr.makeFunc fn first cap).run Try.prog w = .ok (.func fn first cap) w := fun _ _ _ _ => rfl
  have HG := Lib.hid (goodB_is f t)
  obtain ⟨mf, hmf2⟩ : ∃ mf, mayB f = mf := ⟨_, rfl⟩
  obtain ⟨mt, hmt2⟩ : ∃ mt, mayB t = mt := ⟨_, rfl⟩
  have HMF := Lib.hid hmf2
  have HMT := Lib.hid hmt2
  rw [hmf2, hmt2] at HG
  clear hmf2 hmt2
  cases mf
  · go_enter Try.func39, Try.ntmps39
    go_wp2_with fail
    refine (mayg f _ hf).mono ?_
    rintro e w1 ⟨rfl, k1⟩
    rw [HMF.out]
    have K1 : Kept w w1 := Kept.call (by repeat (first | exact Kept.refl _ | assumption | (refine Kept.alloc ?_ _) | (refine Kept.setCell ?_ (by first | omega | (simp; omega) | simp) _) | refine Kept.drew ?_ | refine Kept.drewN ?_ _ | (apply Kept.call; rotate_left; assumption))) k1
    go_wp2_with fail
    go_ret
    exact ⟨by rw [HG.out]; rfl, K1⟩
  · cases mt
    · go_enter Try.func39, Try.ntmps39
      go_wp2_with fail
      refine (mayg f _ hf).mono ?_
      rintro e w1 ⟨rfl, k1⟩
      rw [HMF.out]
      have K1 : Kept w w1 := Kept.call (by repeat (first | exact Kept.refl _ | assumption | (refine Kept.alloc ?_ _) | (refine Kept.setCell ?_ (by first | omega | (simp; omega) | simp) _) | refine Kept.drew ?_ | refine Kept.drewN ?_ _ | (apply Kept.call; rotate_left; assumption))) k1
      have c0 : w1.cell? ⟨w.heap.size, 0, none⟩ = some (.string f) := k1.at_ (by go_simp)
      have c1 : w1.cell? ⟨w.heap.size, 1, none⟩ = some (.string t) := k1.at_ (by go_simp)
      go_wp2_with fail
      refine (mayg t _ ht).mono ?_
      rintro e w2 ⟨rfl, k2⟩
      rw [HMT.out]
      have K2 := K1.call k2
      go_wp2_with fail
      go_ret
      exact ⟨by rw [HG.out]; rfl, K2⟩
    · cases he : t.toList.isEmpty <;> cases hl : Op.bytesLess f.toList t.toList
      all_goals
        (rw [he, hl] at HG
         go_enter Try.func39, Try.ntmps39
         go_wp2_with fail
         refine (mayg f _ hf).mono ?_
         rintro e w1 ⟨rfl, k1⟩
         rw [HMF.out]
         have K1 : Kept w w1 := Kept.call (by repeat (first | exact Kept.refl _ | assumption | (refine Kept.alloc ?_ _) | (refine Kept.setCell ?_ (by first | omega | (simp; omega) | simp) _) | refine Kept.drew ?_ | refine Kept.drewN ?_ _ | (apply Kept.call; rotate_left; assumption))) k1
         have c0 : w1.cell? ⟨w.heap.size, 0, none⟩ = some (.string f) := k1.at_ (by go_simp)
         have c1 : w1.cell? ⟨w.heap.size, 1, none⟩ = some (.string t) := k1.at_ (by go_simp)
         go_wp2_with fail
         refine (mayg t _ ht).mono ?_
         rintro e w2 ⟨rfl, k2⟩
         rw [HMT.out]
         have K2 := K1.call k2
         have c0 := k2.at_ c0
         have c1 := k2.at_ c1
         go_wp2_with fail
         go_ret
         exact ⟨by rw [HG.out]; rfl, K2⟩)
set_option maxHeartbeats 2000000 in
theorem rgood (f t : ByteArray) (w : World) (hf : f.size ≤ 4294967296) (ht : t.size ≤ 4294967296) :
    Calls Try.prog 43 #[.agg #[.string f, .string t]] w fun e w' => e = .returned (.bool (goodB f t)) ∧ Kept w w' := by
  have HG : Hid (goodB f t = ((f.toList.isEmpty || checkB f) && ((t.toList.isEmpty || checkB t) && (t.toList.isEmpty || Op.bytesLess f.toList t.toList)))) := rfl
  obtain ⟨cf, hcf⟩ : ∃ cf, checkB f = cf := ⟨_, rfl⟩
  obtain ⟨ct, hct⟩ : ∃ ct, checkB t = ct := ⟨_, rfl⟩
  have HCF := Lib.hid hcf
  have HCT := Lib.hid hct
  rw [hcf, hct] at HG
  clear hcf hct
  cases cf <;> cases ct <;> cases hfe : f.toList.isEmpty <;> cases he : t.toList.isEmpty <;> cases hl : Op.bytesLess f.toList t.toList
  all_goals
    (rw [hfe, he, hl] at HG
     go_enter Try.func43, Try.ntmps43
     go_wp2_with fail
     refine (rcheckk f _ hf).mono ?_
     rintro e w1 ⟨rfl, k1⟩
     rw [HCF.out]
     have K1 : Kept w w1 := Kept.call (by repeat (first | exact Kept.refl _ | assumption | (refine Kept.alloc ?_ _) | (refine Kept.setCell ?_ (by first | omega | (simp; omega) | simp) _) | refine Kept.drew ?_ | refine Kept.drewN ?_ _ | (apply Kept.call; rotate_left; assumption))) k1
     have c0 : w1.cell? ⟨w.heap.size, 0, none⟩ = some (.string f) := k1.at_ (by go_simp)
     have c1 : w1.cell? ⟨w.heap.size, 1, none⟩ = some (.string t) := k1.at_ (by go_simp)
     go_wp2_with fail
     refine (rcheckk t _ ht).mono ?_
     rintro e w2 ⟨rfl, k2⟩
     rw [HCT.out]
     have K2 := K1.call k2
     have c0 := k2.at_ c0
     have c1 := k2.at_ c1
     go_wp2_with fail
     go_ret
     exact ⟨by rw [HG.out]; rfl, K2⟩)
end Go.Proofs.Ytahokiopapenbaa
