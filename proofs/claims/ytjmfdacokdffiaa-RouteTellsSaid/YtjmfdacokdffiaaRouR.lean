/- The document's Next, at rows that fit over a tree. -/
import Derived.Test.YtjmfdacokdffiaaRouQ
set_option linter.unusedSimpArgs false
set_option linter.unusedVariables false
namespace Go.Proofs.Ytjmfdacokdffiaa
open Go.RowKit

set_option maxRecDepth 20000 in
set_option maxHeartbeats 4000000 in
theorem r9next_any (A B C : Option Addr) (n1 c1 n2 c2 n3 c3 : Nat) (es : List Nat) (os ps : List Int) (a f : Int) (k : ByteArray) (w : World) (hr : RowW w A n1 c1 B n2 c2 C n3 c3 (rgs es) os ps) (hf : FitT es os ps n3) :
    Calls Try.prog 21 #[.agg #[.slice A n1 c1, .slice B n2 c2, .slice C n3 c3], .int .i64 a, .int .i64 f, .string k] w (RowNew (keepL (delB ps n3 a f (oa os (findI es (hv k)))) (nearOf ps a)) w) := by
  obtain ⟨i0, hi, hz0, hz1, hz2⟩ := info_parts infoInt
  have HI := Lib.hid hi
  have HR := Lib.hid hr
  have HF := Lib.hid hf
  obtain ⟨O, hO, hO64⟩ : ∃ O : Nat, oa os (findI es (hv k)) = O ∧ O < 64 := by
    have h := oa_bd hf.fit (find_le es (hv k))
    exact ⟨(oa os (findI es (hv k))).toNat, by omega, by omega⟩
  have HOW : Hid (∀ w2, Kept w w2 → Calls Try.prog 11 #[.agg #[.slice A n1 c1, .slice B n2 c2, .slice C n3 c3], .string k] w2 fun e w' => e = .returned (.int .i64 (O : Int)) ∧ Kept w2 w') := fun w2 h2 => by
    rw [← hO]
    exact rowners_yes A B C n1 c1 n2 c2 n3 c3 es os ps k w2 (HR.out.keep h2) HF.out.fit
  have hb := hr.bd
  have h3c : n3 ≤ c3 := hr.ps.2.1
  have HS6 : Hid (n3 ≤ 6) := hf.fit.six
  rw [hO]
  clear hr hf hi hO
  go_enter Try.func21, Try.ntmps21
  go_wp2_with fail
  refine (r9check_is A B C n1 c1 n2 c2 n3 c3 es os ps _ (HR.out.keep (by repeat (first | exact Kept.refl _ | assumption | (refine Kept.alloc ?_ _) | (refine Kept.setCell ?_ (by first | omega | (simp; omega) | simp) _) | refine Kept.drew ?_ | refine Kept.drewN ?_ _ | (apply Kept.call; rotate_left; assumption)))) HF.out.fit).mono ?_
  rintro e w1 ⟨rfl, k1⟩
  rw [treeB_yes HF.out.tree]
  have K1 : Kept w w1 := Kept.call (by repeat (first | exact Kept.refl _ | assumption | (refine Kept.alloc ?_ _) | (refine Kept.setCell ?_ (by first | omega | (simp; omega) | simp) _) | refine Kept.drew ?_ | refine Kept.drewN ?_ _ | (apply Kept.call; rotate_left; assumption))) k1
  have x0 : w1.cell? ⟨w.heap.size, 0, none⟩ = some (.slice A n1 c1) := k1.at_ (by go_simp)
  have x1 : w1.cell? ⟨w.heap.size, 1, none⟩ = some (.slice B n2 c2) := k1.at_ (by go_simp)
  have x2 : w1.cell? ⟨w.heap.size, 2, none⟩ = some (.slice C n3 c3) := k1.at_ (by go_simp)
  go_wp2_with fail
  refine (rnear C n3 c3 ps a _ (HR.out.ps.keep K1)).mono ?_
  rintro e w2 ⟨A2, e2, rfl, hia, k2⟩
  have K2 := K1.call k2
  have x0 := k2.at_ x0
  have x1 := k2.at_ x1
  have x2 := k2.at_ x2
  have hD : Hid (∀ s : Nat, delB ps n3 a f O s = ((((s : Nat) : Int) == f) || (bits .and .i64 (sideTo ps a s n3 : Nat) O == 0))) := fun s => rfl
  have hM7 : (nearOf ps a).length ≤ 6 := by
    have h6 : ps.length ≤ 6 := HF.out.tree.choose_spec.six
    unfold nearOf
    split
    · exact Nat.le_trans (nearTo_len _ _ _) h6
    · simp
  generalize delB ps n3 a f O = D at *
  generalize nearOf ps a = NS at *
  obtain ⟨M, hM⟩ : ∃ M, NS.length = M := ⟨_, rfl⟩
  have HM := Lib.hid hM
  rw [hM] at hia hM7 ⊢
  have hmc : M ≤ e2 ∧ e2 ≤ 9223372036854775807 := by have h1 := hia.2.1; have h2 := hia.2.2.1; unfold maxLen at h2; omega
  have hM6 : Hid (∀ i, (keepL D (NS.take i)).length ≤ i) := fun i => Nat.le_trans (List.length_filter_le _ _) (by rw [List.length_take]; omega)
  have HIA := Lib.hid hia
  have hww2 := K2.size
  clear hia hM
  go_wp2_with fail
  go_loopw [10, 12] (fun ov iv wr => ∃ (i l : Nat) (v : Value), ov = v ∧ i ≤ M ∧ iv = .int .i64 i ∧ Hid ((keepL D (NS.take i)).length = l) ∧ Hid (wr.ownsRow w2.heap.size 3 1 v l (natC (keepL D (NS.take i)))) ∧ Kept w2 wr) (fun _ iv _ => M - (intOf iv).toNat)
  case atStart => exact ⟨0, 0, _, rfl, by omega, rfl, rfl, World.ownsRow_nil _ _ _ _, Kept.refl _⟩
  case round =>
    obtain ⟨i, l, v, rfl, hi, rfl, HL, HO, kr⟩ := hrel
    have hli : l ≤ i := by rw [← HL.out]; exact hM6.out i
    by_cases hlt : i < M
    · obtain ⟨s, hs⟩ : ∃ s, NS[i]? = some s := ⟨_, List.getElem?_eq_getElem (by rw [HM.out]; exact hlt)⟩
      obtain ⟨b, off, rfl, hcc⟩ := HIA.out.2.2.2.2 (by omega)
      have q1 : wr.cell? ⟨b, off + i, none⟩ = some (.int .i64 (s : Nat)) := by rw [kr.at_ (hcc i hlt), ints_get hs]
      have y0 := kr.at_ x0
      have y1 := kr.at_ x1
      have y2 := kr.at_ x2
      have hs64 : sideTo ps a s n3 < 64 := Nat.lt_of_lt_of_le (sideTo_lt ps a s n3) (two_le HS6.out)
      have HME := Lib.hid (fun w9 => rmeet_is (sideTo ps a s n3) O w9 hs64 hO64)
      have hDs := hD.out s
      have HSD : Hid (∀ w9, Kept w w9 → Calls Try.prog 14 #[.slice C n3 c3, .int .i64 a, .int .i64 s] w9 fun e w' => e = .returned (.int .i64 (sideTo ps a s n3 : Nat)) ∧ Kept w9 w') := fun w9 h9 => rside C n3 c3 ps a s w9 (HR.out.ps.keep h9)
      have hsn := Lib.hid (keepL_snoc (D := D) hs)
      have hHS : Hid (n3 = n3) := rfl
      clear hcc hs hs64
      cases hsf : (((s : Nat) : Int) == f)
      · rw [hsf, Bool.false_or] at hDs
        cases hg : (bits .and .i64 (sideTo ps a s n3 : Nat) O == 0)
        · rw [hg] at hDs HME
          have hsn2 : Hid (keepL D (NS.take (i + 1)) = keepL D (NS.take i) ++ [s]) := by unfold Hid; rw [hsn.out, hDs]; rfl
          have hln2 : Hid ((keepL D (NS.take (i + 1))).length = l + 1) := by unfold Hid; rw [hsn2.out, List.length_append, HL.out]; rfl
          have hol : Hid ((natC (keepL D (NS.take i))).length = l * 1) := by unfold Hid; rw [natC_len, HL.out, Nat.mul_one]
          have hdf : ((((s : Nat) : Int)) != f) = true := by rw [bne, hsf]; rfl
          clear hg hDs hsn hsf hD
          generalize sideTo ps a s n3 = M9 at *
          go_wp2_with fail
          refine wp_region_text keepsOne (fun wB => Kept w2 wB ∧ Kept wr wB ∧ wB.cell? ⟨w.heap.size, 0, none⟩ = some (.slice A n1 c1) ∧ wB.cell? ⟨w.heap.size, 1, none⟩ = some (.slice B n2 c2) ∧ wB.cell? ⟨w.heap.size, 2, none⟩ = some (.slice C n3 c3) ∧ wB.cell? ⟨b, off + i, none⟩ = some (.int .i64 (s : Nat))) ?_ (by kernel_rfl) (by kernel_rfl) _ (by (try simp only [List.append_eq, List.cons_append, List.nil_append, List.toList_toArray]); exact rfl) ?_
          · exact ⟨by repeat (first | exact Kept.refl _ | assumption | (refine Kept.alloc ?_ _) | (refine Kept.setCell ?_ (by first | omega | (simp; omega) | simp) _) | refine Kept.drew ?_ | refine Kept.drewN ?_ _ | (apply Kept.call; rotate_left; assumption)), by repeat (first | exact Kept.refl _ | assumption | (refine Kept.alloc ?_ _) | (refine Kept.setCell ?_ (by first | omega | (simp; omega) | simp) _) | refine Kept.drew ?_ | refine Kept.drewN ?_ _ | (apply Kept.call; rotate_left; assumption)), by first | assumption | go_simp, by first | assumption | go_simp, by first | assumption | go_simp, by first | assumption | go_simp⟩
          rintro wB ⟨hkB, hkB1, sB1, sB2, sB3, sB4⟩
          repeat (first | (apply DW.det; (focus (intro wd hI; have hkd1 := hkB1.call hI; have td1 := hI.at_ sB1; have td2 := hI.at_ sB2; have td3 := hI.at_ sB3; have td4 := hI.at_ sB4; skip; go_wp2_with (first | (go_at_call 14; refine (HSD.out _ (K2.call (hkB.call hI))).mono ?_; rintro e w6 ⟨rfl, hb6⟩) | (go_at_call 11; refine (HOW.out _ (K2.call (hkB.call hI))).mono ?_; rintro e w7 ⟨rfl, hb7⟩) | (go_at_call 13; refine (HME.out _).mono ?_; rintro e w8 ⟨rfl, hb8⟩)); refine StepPost.mk _ rfl ⟨rfl, ?_⟩; repeat (first | exact Kept.refl _ | assumption | (refine Kept.alloc ?_ _) | (refine Kept.setCell ?_ (by first | omega | (simp; omega) | simp) _) | refine Kept.drew ?_ | refine Kept.drewN ?_ _ | (apply Kept.call; rotate_left; assumption)))); simp only [Act.put, List.setIfInBounds_toArray, List.set_cons_succ, List.set_cons_zero]) | (refine DW.loud (by kernel_rfl) ?_; intro wd hI; have hkd1 := hkB1.call hI; have td1 := hI.at_ sB1; have td2 := hI.at_ sB2; have td3 := hI.at_ sB3; have td4 := hI.at_ sB4; skip; go_wp2_with (first | (go_at_call 14; refine (HSD.out _ (K2.call (hkB.call hI))).mono ?_; rintro e w6 ⟨rfl, hb6⟩) | (go_at_call 11; refine (HOW.out _ (K2.call (hkB.call hI))).mono ?_; rintro e w7 ⟨rfl, hb7⟩) | (go_at_call 13; refine (HME.out _).mono ?_; rintro e w8 ⟨rfl, hb8⟩)); refine StepPost.loud _ rfl (by repeat (first | exact Kept.refl _ | assumption | (refine Kept.alloc ?_ _) | (refine Kept.setCell ?_ (by first | omega | (simp; omega) | simp) _) | refine Kept.drew ?_ | refine Kept.drewN ?_ _ | (apply Kept.call; rotate_left; assumption))) (fun hkL => ?_); have hkL := hI.call hkL; have hkB := hkB.call hkL; have hkB1 := hkB1.call hkL; have sB1 := hkL.at_ sB1; have sB2 := hkL.at_ sB2; have sB3 := hkL.at_ sB3; have sB4 := hkL.at_ sB4; simp only [Act.put, List.setIfInBounds_toArray, List.set_cons_succ, List.set_cons_zero]))
          refine DW.nil ?_
          intro wd hI
          have hkd := hkB.call hI
          have hkd1 := hkB1.call hI; have td1 := hI.at_ sB1; have td2 := hI.at_ sB2; have td3 := hI.at_ sB3; have td4 := hI.at_ sB4
          have HO2 := Lib.hid (Kept.own HO.out (show Kept wr wd from hkd1))
          have td4 := td4
          have hwd := hkd.size
          go_wp2_with (at_builtin; refine wpList_append_own_at _ rfl _ _ 22 rfl w2.heap.size 3 i0 (.int .i64 0) 1 8 Try.underlying22 HI.out hz0 hz1 hz2 rfl (by decide) _ l _ rfl (HO2.out.alloc _) ⟨wd.heap.size, 0, none⟩ 1 1 [.int .i64 (s : Nat)] rfl rfl (cell_one_new _ _ _) (by simp [Value.oneCell']) (by unfold maxLen; omega) (by omega) (by simp only [World.size_alloc]; omega) ?_; intro v3 w3 hown3 hgrow3 _ _; rw [natC_snoc, ← hsn2.out] at hown3; have HL3 := HO2.out.lt; have K3 : Kept w2 w3 := (hkd.alloc _).grown hgrow3 (fun g hg => (HL3 g hg).1); have HO3 := Lib.hid hown3; clear hown3 hgrow3)
          go_roundw
          case rel => first | exact ⟨i + 1, l + 1, _, rfl, by omega, by go_num, hln2, HO3, K3⟩ | ((repeat apply Exists.intro); exact ⟨⟨i + 1, l + 1, _, rfl, by omega, by go_num, hln2, HO3, K3⟩, rfl⟩)
          case measure => simp [intOf]; omega
        · rw [hg] at hDs HME
          have hsn2 : Hid (keepL D (NS.take (i + 1)) = keepL D (NS.take i)) := by unfold Hid; rw [hsn.out, hDs]; simp
          have hdf : ((((s : Nat) : Int)) != f) = true := by rw [bne, hsf]; rfl
          clear hg hDs hsn hsf hD
          generalize sideTo ps a s n3 = M9 at *
          go_wp2_with fail
          refine wp_region_text keepsOne (fun wB => Kept w2 wB ∧ Kept wr wB ∧ wB.cell? ⟨w.heap.size, 0, none⟩ = some (.slice A n1 c1) ∧ wB.cell? ⟨w.heap.size, 1, none⟩ = some (.slice B n2 c2) ∧ wB.cell? ⟨w.heap.size, 2, none⟩ = some (.slice C n3 c3) ∧ wB.cell? ⟨b, off + i, none⟩ = some (.int .i64 (s : Nat))) ?_ (by kernel_rfl) (by kernel_rfl) _ (by (try simp only [List.append_eq, List.cons_append, List.nil_append, List.toList_toArray]); exact rfl) ?_
          · exact ⟨by repeat (first | exact Kept.refl _ | assumption | (refine Kept.alloc ?_ _) | (refine Kept.setCell ?_ (by first | omega | (simp; omega) | simp) _) | refine Kept.drew ?_ | refine Kept.drewN ?_ _ | (apply Kept.call; rotate_left; assumption)), by repeat (first | exact Kept.refl _ | assumption | (refine Kept.alloc ?_ _) | (refine Kept.setCell ?_ (by first | omega | (simp; omega) | simp) _) | refine Kept.drew ?_ | refine Kept.drewN ?_ _ | (apply Kept.call; rotate_left; assumption)), by first | assumption | go_simp, by first | assumption | go_simp, by first | assumption | go_simp, by first | assumption | go_simp⟩
          rintro wB ⟨hkB, hkB1, sB1, sB2, sB3, sB4⟩
          repeat (first | (apply DW.det; (focus (intro wd hI; have hkd1 := hkB1.call hI; have td1 := hI.at_ sB1; have td2 := hI.at_ sB2; have td3 := hI.at_ sB3; have td4 := hI.at_ sB4; skip; go_wp2_with (first | (go_at_call 14; refine (HSD.out _ (K2.call (hkB.call hI))).mono ?_; rintro e w6 ⟨rfl, hb6⟩) | (go_at_call 11; refine (HOW.out _ (K2.call (hkB.call hI))).mono ?_; rintro e w7 ⟨rfl, hb7⟩) | (go_at_call 13; refine (HME.out _).mono ?_; rintro e w8 ⟨rfl, hb8⟩)); refine StepPost.mk _ rfl ⟨rfl, ?_⟩; repeat (first | exact Kept.refl _ | assumption | (refine Kept.alloc ?_ _) | (refine Kept.setCell ?_ (by first | omega | (simp; omega) | simp) _) | refine Kept.drew ?_ | refine Kept.drewN ?_ _ | (apply Kept.call; rotate_left; assumption)))); simp only [Act.put, List.setIfInBounds_toArray, List.set_cons_succ, List.set_cons_zero]) | (refine DW.loud (by kernel_rfl) ?_; intro wd hI; have hkd1 := hkB1.call hI; have td1 := hI.at_ sB1; have td2 := hI.at_ sB2; have td3 := hI.at_ sB3; have td4 := hI.at_ sB4; skip; go_wp2_with (first | (go_at_call 14; refine (HSD.out _ (K2.call (hkB.call hI))).mono ?_; rintro e w6 ⟨rfl, hb6⟩) | (go_at_call 11; refine (HOW.out _ (K2.call (hkB.call hI))).mono ?_; rintro e w7 ⟨rfl, hb7⟩) | (go_at_call 13; refine (HME.out _).mono ?_; rintro e w8 ⟨rfl, hb8⟩)); refine StepPost.loud _ rfl (by repeat (first | exact Kept.refl _ | assumption | (refine Kept.alloc ?_ _) | (refine Kept.setCell ?_ (by first | omega | (simp; omega) | simp) _) | refine Kept.drew ?_ | refine Kept.drewN ?_ _ | (apply Kept.call; rotate_left; assumption))) (fun hkL => ?_); have hkL := hI.call hkL; have hkB := hkB.call hkL; have hkB1 := hkB1.call hkL; have sB1 := hkL.at_ sB1; have sB2 := hkL.at_ sB2; have sB3 := hkL.at_ sB3; have sB4 := hkL.at_ sB4; simp only [Act.put, List.setIfInBounds_toArray, List.set_cons_succ, List.set_cons_zero]))
          refine DW.nil ?_
          intro wd hI
          have hkd := hkB.call hI
          have hkd1 := hkB1.call hI; have td1 := hI.at_ sB1; have td2 := hI.at_ sB2; have td3 := hI.at_ sB3; have td4 := hI.at_ sB4
          go_wp2_with fail
          have HO2 := Lib.hid (Kept.own HO.out (show Kept wr wd from hkd1))
          go_roundw
          case rel => first | exact ⟨i + 1, l, _, rfl, by omega, by go_num, by rw [hsn2.out]; exact HL, by rw [hsn2.out]; exact HO2, hkd⟩ | ((repeat apply Exists.intro); exact ⟨⟨i + 1, l, _, rfl, by omega, by go_num, by rw [hsn2.out]; exact HL, by rw [hsn2.out]; exact HO2, hkd⟩, rfl⟩)
          case measure => simp [intOf]; omega
      · rw [hsf, Bool.true_or] at hDs
        have hsn2 : Hid (keepL D (NS.take (i + 1)) = keepL D (NS.take i)) := by unfold Hid; rw [hsn.out, hDs]; simp
        have hdf : ((((s : Nat) : Int)) != f) = false := by rw [bne, hsf]; rfl
        clear hDs hsn hsf hD
        generalize sideTo ps a s n3 = M9 at *
        go_wp2_with fail
        refine wp_region_text keepsOne (fun wB => Kept w2 wB ∧ Kept wr wB ∧ wB.cell? ⟨w.heap.size, 0, none⟩ = some (.slice A n1 c1) ∧ wB.cell? ⟨w.heap.size, 1, none⟩ = some (.slice B n2 c2) ∧ wB.cell? ⟨w.heap.size, 2, none⟩ = some (.slice C n3 c3) ∧ wB.cell? ⟨b, off + i, none⟩ = some (.int .i64 (s : Nat))) ?_ (by kernel_rfl) (by kernel_rfl) _ (by (try simp only [List.append_eq, List.cons_append, List.nil_append, List.toList_toArray]); exact rfl) ?_
        · exact ⟨by repeat (first | exact Kept.refl _ | assumption | (refine Kept.alloc ?_ _) | (refine Kept.setCell ?_ (by first | omega | (simp; omega) | simp) _) | refine Kept.drew ?_ | refine Kept.drewN ?_ _ | (apply Kept.call; rotate_left; assumption)), by repeat (first | exact Kept.refl _ | assumption | (refine Kept.alloc ?_ _) | (refine Kept.setCell ?_ (by first | omega | (simp; omega) | simp) _) | refine Kept.drew ?_ | refine Kept.drewN ?_ _ | (apply Kept.call; rotate_left; assumption)), by first | assumption | go_simp, by first | assumption | go_simp, by first | assumption | go_simp, by first | assumption | go_simp⟩
        rintro wB ⟨hkB, hkB1, sB1, sB2, sB3, sB4⟩
        repeat (first | (apply DW.det; (focus (intro wd hI; have hkd1 := hkB1.call hI; have td1 := hI.at_ sB1; have td2 := hI.at_ sB2; have td3 := hI.at_ sB3; have td4 := hI.at_ sB4; skip; go_wp2_with (first | (go_at_call 14; refine (HSD.out _ (K2.call (hkB.call hI))).mono ?_; rintro e w6 ⟨rfl, hb6⟩) | (go_at_call 11; refine (HOW.out _ (K2.call (hkB.call hI))).mono ?_; rintro e w7 ⟨rfl, hb7⟩) | (go_at_call 13; refine (HME.out _).mono ?_; rintro e w8 ⟨rfl, hb8⟩)); refine StepPost.mk _ rfl ⟨rfl, ?_⟩; repeat (first | exact Kept.refl _ | assumption | (refine Kept.alloc ?_ _) | (refine Kept.setCell ?_ (by first | omega | (simp; omega) | simp) _) | refine Kept.drew ?_ | refine Kept.drewN ?_ _ | (apply Kept.call; rotate_left; assumption)))); simp only [Act.put, List.setIfInBounds_toArray, List.set_cons_succ, List.set_cons_zero]) | (refine DW.loud (by kernel_rfl) ?_; intro wd hI; have hkd1 := hkB1.call hI; have td1 := hI.at_ sB1; have td2 := hI.at_ sB2; have td3 := hI.at_ sB3; have td4 := hI.at_ sB4; skip; go_wp2_with (first | (go_at_call 14; refine (HSD.out _ (K2.call (hkB.call hI))).mono ?_; rintro e w6 ⟨rfl, hb6⟩) | (go_at_call 11; refine (HOW.out _ (K2.call (hkB.call hI))).mono ?_; rintro e w7 ⟨rfl, hb7⟩) | (go_at_call 13; refine (HME.out _).mono ?_; rintro e w8 ⟨rfl, hb8⟩)); refine StepPost.loud _ rfl (by repeat (first | exact Kept.refl _ | assumption | (refine Kept.alloc ?_ _) | (refine Kept.setCell ?_ (by first | omega | (simp; omega) | simp) _) | refine Kept.drew ?_ | refine Kept.drewN ?_ _ | (apply Kept.call; rotate_left; assumption))) (fun hkL => ?_); have hkL := hI.call hkL; have hkB := hkB.call hkL; have hkB1 := hkB1.call hkL; have sB1 := hkL.at_ sB1; have sB2 := hkL.at_ sB2; have sB3 := hkL.at_ sB3; have sB4 := hkL.at_ sB4; simp only [Act.put, List.setIfInBounds_toArray, List.set_cons_succ, List.set_cons_zero]))
        refine DW.nil ?_
        intro wd hI
        have hkd := hkB.call hI
        have hkd1 := hkB1.call hI; have td1 := hI.at_ sB1; have td2 := hI.at_ sB2; have td3 := hI.at_ sB3; have td4 := hI.at_ sB4
        go_wp2_with fail
        have HO2 := Lib.hid (Kept.own HO.out (show Kept wr wd from hkd1))
        go_roundw
        case rel => first | exact ⟨i + 1, l, _, rfl, by omega, by go_num, by rw [hsn2.out]; exact HL, by rw [hsn2.out]; exact HO2, hkd⟩ | ((repeat apply Exists.intro); exact ⟨⟨i + 1, l, _, rfl, by omega, by go_num, by rw [hsn2.out]; exact HL, by rw [hsn2.out]; exact HO2, hkd⟩, rfl⟩)
        case measure => simp [intOf]; omega
    · obtain rfl : i = M := by omega
      have hall : Hid (keepL D (NS.take i) = keepL D NS) := by unfold Hid; rw [List.take_of_length_le (by rw [HM.out]; exact Nat.le_refl _)]
      rw [hall.out] at HL HO
      obtain ⟨A5, c5, rfl, hia⟩ := IntsAt.of_own HO.out
      have HIA5 := Lib.hid hia
      have HFR : Hid (∀ b off, A5 = some ⟨b, off, none⟩ → w.heap.size ≤ b) := fun b off e => by
        have := (HO.out.lt b (by rw [e]; rfl)).1
        omega
      clear hia
      go_wp2_with fail
      go_ret
      exact ⟨A5, c5, by rw [HL.out]; rfl, by rw [HL.out]; exact HIA5.out, HFR.out, K2.call kr⟩
end Go.Proofs.Ytjmfdacokdffiaa
