/- The document's Check and Owners, at rows that fit. -/
import Derived.Test.YtjmfdacokdffiaaRouK
set_option linter.unusedSimpArgs false
set_option linter.unusedVariables false
namespace Go.Proofs.Ytjmfdacokdffiaa
open Go.RowKit

set_option maxRecDepth 20000 in
set_option maxHeartbeats 4000000 in
theorem r7check_yes (A B C : Option Addr) (n1 c1 n2 c2 n3 c3 : Nat) (es : List Nat) (os ps : List Int) (w : World) (hr : RowW w A n1 c1 B n2 c2 C n3 c3 (rgs es) os ps) (hf : Fit es os n3) :
    Calls Try.prog 31 #[.agg #[.slice A n1 c1, .slice B n2 c2, .slice C n3 c3]] w fun e w' => e = .returned (.bool true) ∧ Kept w w' := by
  have HR := Lib.hid hr
  have HF := Lib.hid hf
  have h1 : n1 = es.length + 1 := by have := hr.rs.1; rw [rgs_len] at this; omega
  have h2 : n2 = n1 := by have := hr.os.1; have := hf.len; omega
  subst h2
  have h6 := hf.up.six
  have ho := hf.one
  have hs := hf.six
  have hb := hr.bd
  have hc2 : n2 ≤ c2 ∧ c2 ≤ 9223372036854775807 := by have h1 := hr.os.2.1; have h2 := hr.os.2.2.1; unfold maxLen at h2; omega
  obtain ⟨ob, oo, rfl, hoc⟩ := hr.os.2.2.2.2 (by omega)
  have HOC : Hid (∀ i, i < n2 → w.cell? ⟨ob, oo + i, none⟩ = some (.int .i64 (oa os i)) ∧ 1 ≤ oa os i ∧ oa os i < ((2 ^ n3 : Nat) : Int)) := fun i hi => ⟨hoc i hi, hf.own i (by omega)⟩
  have h8 : 1 ≤ n2 ∧ n2 ≤ 7 := by omega
  have HT := Lib.hid (fun w => rtwo_any n3 w hs)
  have h2l := two_le hs
  clear hr hf hoc h1 h6
  generalize 2 ^ n3 = T at *
  go_enter Try.func31, Try.ntmps31
  go_wp2_with fail
  refine (rwhole_any A n2 c1 es _ (HR.out.rs.keep (by repeat (first | exact Kept.refl _ | assumption | (refine Kept.alloc ?_ _) | (refine Kept.setCell ?_ (by first | omega | (simp; omega) | simp) _) | refine Kept.drew ?_ | refine Kept.drewN ?_ _ | (apply Kept.call; rotate_left; assumption)))) HF.out.up).mono ?_
  rintro e w1 ⟨rfl, k1⟩
  have K1 : Kept w w1 := Kept.call (by repeat (first | exact Kept.refl _ | assumption | (refine Kept.alloc ?_ _) | (refine Kept.setCell ?_ (by first | omega | (simp; omega) | simp) _) | refine Kept.drew ?_ | refine Kept.drewN ?_ _ | (apply Kept.call; rotate_left; assumption))) k1
  have e0 : w1.cell? ⟨w.heap.size, 0, none⟩ = some (.slice A n2 c1) := k1.at_ (by go_simp)
  have e1 : w1.cell? ⟨w.heap.size, 1, none⟩ = some (.slice (some ⟨ob, oo, none⟩) n2 c2) := k1.at_ (by go_simp)
  have d1 : decide ((8 : Int) < (n2 : Int)) = false := by simp; omega
  have d2 : decide ((n3 : Int) < 1) = false := by simp; omega
  have d3 : decide ((6 : Int) < (n3 : Int)) = false := by simp; omega
  go_wp2_with fail
  go_loopw [5] (fun iv wr => ∃ i : Nat, i ≤ n2 ∧ iv = .int .i64 i ∧ Kept w1 wr) (fun iv _ => n2 - (intOf iv).toNat)
  case atStart => exact ⟨0, by omega, rfl, Kept.refl _⟩
  case round =>
    obtain ⟨i, hi, rfl, kr⟩ := hrel
    have e1 := kr.at_ e1
    by_cases hlt : i < n2
    · obtain ⟨co, hp1, hp2⟩ := HOC.out i hlt
      have co := kr.at_ (K1.at_ co)
      generalize oa os i = o at *
      have d4 : decide (o < 1) = false := by simp; omega
      have d5 : decide ((T : Int) ≤ o) = false := by simp; omega
      go_wp2_with fail
      refine wp_region_text keepsOne (fun wB => Kept w1 wB ∧ wB.cell? ⟨w.heap.size, 1, none⟩ = some (.slice (some ⟨ob, oo, none⟩) n2 c2) ∧ wB.cell? ⟨ob, oo + i, none⟩ = some (.int .i64 o)) ?_ (by kernel_rfl) (by kernel_rfl) _ (by (try simp only [List.append_eq, List.cons_append, List.nil_append, List.toList_toArray]); exact rfl) ?_
      · exact ⟨by repeat (first | exact Kept.refl _ | assumption | (refine Kept.alloc ?_ _) | (refine Kept.setCell ?_ (by first | omega | (simp; omega) | simp) _) | refine Kept.drew ?_ | refine Kept.drewN ?_ _ | (apply Kept.call; rotate_left; assumption)), by first | assumption | go_simp, by first | assumption | go_simp⟩
      rintro wB ⟨hkB, sB1, sB2⟩
      repeat (first | (apply DW.det; (focus (intro wd hI; have td1 := hI.at_ sB1; have td2 := hI.at_ sB2; skip; go_wp2_with (first | (go_at_call 33; refine (HT.out _).mono ?_; rintro e w6 ⟨rfl, hb6⟩)); refine StepPost.mk _ rfl ⟨rfl, ?_⟩; repeat (first | exact Kept.refl _ | assumption | (refine Kept.alloc ?_ _) | (refine Kept.setCell ?_ (by first | omega | (simp; omega) | simp) _) | refine Kept.drew ?_ | refine Kept.drewN ?_ _ | (apply Kept.call; rotate_left; assumption)))); simp only [Act.put, List.setIfInBounds_toArray, List.set_cons_succ, List.set_cons_zero]) | (refine DW.loud (by kernel_rfl) ?_; intro wd hI; have td1 := hI.at_ sB1; have td2 := hI.at_ sB2; skip; go_wp2_with (first | (go_at_call 33; refine (HT.out _).mono ?_; rintro e w6 ⟨rfl, hb6⟩)); refine StepPost.loud _ rfl (by repeat (first | exact Kept.refl _ | assumption | (refine Kept.alloc ?_ _) | (refine Kept.setCell ?_ (by first | omega | (simp; omega) | simp) _) | refine Kept.drew ?_ | refine Kept.drewN ?_ _ | (apply Kept.call; rotate_left; assumption))) (fun hkL => ?_); have hkL := hI.call hkL; have hkB := hkB.call hkL; have sB1 := hkL.at_ sB1; have sB2 := hkL.at_ sB2; simp only [Act.put, List.setIfInBounds_toArray, List.set_cons_succ, List.set_cons_zero]))
      refine DW.nil ?_
      intro wd hI
      have hkd := hkB.call hI
      have td1 := hI.at_ sB1; have td2 := hI.at_ sB2
      go_wp2_with fail
      go_roundw
      case rel => first | exact ⟨i + 1, by omega, by go_num, hkd⟩ | ((repeat apply Exists.intro); exact ⟨⟨i + 1, by omega, by go_num, hkd⟩, rfl⟩)
      case measure => first | (simp [intOf]; done) | (simp [intOf]; omega)
    · obtain rfl : i = n2 := by omega
      go_wp2_with fail
      go_ret
      exact ⟨rfl, K1.call kr⟩
set_option maxHeartbeats 1000000 in
theorem rowners_yes (A B C : Option Addr) (n1 c1 n2 c2 n3 c3 : Nat) (es : List Nat) (os ps : List Int) (k : ByteArray) (w : World) (hr : RowW w A n1 c1 B n2 c2 C n3 c3 (rgs es) os ps) (hf : Fit es os n3) :
    Calls Try.prog 11 #[.agg #[.slice A n1 c1, .slice B n2 c2, .slice C n3 c3], .string k] w fun e w' => e = .returned (.int .i64 (oa os (findI es (hv k)))) ∧ Kept w w' := by
  have HR := Lib.hid hr
  have HF := Lib.hid hf
  have hle := find_le es (hv k)
  have h2 : n2 = es.length + 1 := by have := hr.os.1; have := hf.len; omega
  obtain ⟨ob, oo, rfl, hoc⟩ := hr.os.2.2.2.2 (by omega)
  have HOC := Lib.hid (hoc (findI es (hv k)) (by omega))
  have hb := hr.bd
  clear hr hf hoc
  obtain ⟨r0, hr0⟩ : ∃ r0, findI es (hv k) = r0 := ⟨_, rfl⟩
  have HR0 := Lib.hid hr0
  rw [hr0] at hle HOC ⊢
  obtain ⟨o, ho⟩ : ∃ o, oa os r0 = o := ⟨_, rfl⟩
  have HOC : Hid (w.cell? ⟨ob, oo + r0, none⟩ = some (.int .i64 o)) := by have := HOC.out; unfold oa at ho; rwa [ho] at this
  rw [ho]
  have hlt : r0 < n2 := by omega
  have hc2 : n2 ≤ c2 := HR.out.os.2.1
  clear hr0 ho h2 hle
  go_enter Try.func11, Try.ntmps11
  go_wp2_with fail
  refine (r7check_yes A _ C n1 c1 n2 c2 n3 c3 es os ps _ (HR.out.keep (by repeat (first | exact Kept.refl _ | assumption | (refine Kept.alloc ?_ _) | (refine Kept.setCell ?_ (by first | omega | (simp; omega) | simp) _) | refine Kept.drew ?_ | refine Kept.drewN ?_ _ | (apply Kept.call; rotate_left; assumption)))) HF.out).mono ?_
  rintro e w1 ⟨rfl, k1⟩
  have K1 : Kept w w1 := Kept.call (by repeat (first | exact Kept.refl _ | assumption | (refine Kept.alloc ?_ _) | (refine Kept.setCell ?_ (by first | omega | (simp; omega) | simp) _) | refine Kept.drew ?_ | refine Kept.drewN ?_ _ | (apply Kept.call; rotate_left; assumption))) k1
  have e0 : w1.cell? ⟨w.heap.size, 0, none⟩ = some (.slice A n1 c1) := k1.at_ (by go_simp)
  have e1 : w1.cell? ⟨w.heap.size, 1, none⟩ = some (.slice (some ⟨ob, oo, none⟩) n2 c2) := k1.at_ (by go_simp)
  go_wp2_with fail
  refine (rfind_any A n1 c1 (rgs es) k _ (HR.out.rs.keep K1)).mono ?_
  rintro e w2 ⟨r, rfl, hfi, k2⟩
  have hrr : r = (r0 : Int) := by rw [first_rgs HF.out.up hfi, HR0.out]
  clear hfi
  subst hrr
  have K2 := K1.call k2
  have e1 := k2.at_ e1
  have c1 : w2.cell? ⟨ob, oo + r0, none⟩ = some (.int .i64 o) := K2.at_ HOC.out
  have d9 : decide ((r0 : Int) < 0) = false := by first | (simp; done) | (simp; omega)
  go_wp2_with fail
  go_ret
  exact ⟨rfl, K2⟩
end Go.Proofs.Ytjmfdacokdffiaa
