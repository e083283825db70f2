/- The walk of the law MarkPlays: it returns true for every script. -/
import Derived.Test.YtbofgpmbocjbiaaMrkX
import Derived.Outline
set_option linter.unusedSimpArgs false
set_option linter.unusedVariables false
namespace Go.Proofs.Ytbofgpmbocjbiaa
open Go.RowKit Go.Maps
set_option maxHeartbeats 8000000 in
set_option maxRecDepth 20000 in
theorem markPlays_walk (A1 : Option Addr) (m1 c1 : Nat) (x : Nat → Int) (A : Option Addr) (n c : Nat) (xs : Nat → OpV) (w : World) (r : RowAt w A1 m1 c1 1 (fun i => [.int .i64 (x i)])) (_r2 : ∀ i, i < m1 → (Lit.int .i64 (x i)).wf = true) (hr : RowAt w A n c 5 (fun i => opCells (xs i))) (hx : ∀ i, i < n → OpOk (xs i)) :
    Calls Try.prog 5 #[.slice A1 m1 c1, .slice A n c] w fun e w' => e = .returned (.bool true) ∧ Kept w w' := by
  have hl := IntsAt.of_row r
  generalize (List.range m1).map x = l at hl
  have HL := Lib.hid hl
  have HR := Lib.hid hr
  have hnc := hr.1
  have hcm := hr.2.1
  unfold maxLen at hcm
  clear hr hx hl r _r2
  have hz0 := zeroRd
  have hz1 := zsRd_ne
  go_enter Try.func5, Try.ntmps5
  go_wp2_with (first | (go_at_call 8; refine (awake_any _).mono ?_; rintro e w1 ⟨rfl, k1⟩) | (go_at_call 9; refine (made_any A1 m1 c1 l _ (HL.out.keep k1)).mono ?_; rintro e w2 ⟨p, g, N, cp, rfl, hia, ht, hN, hg, k2⟩; have HIA := Lib.hid hia; have HT := Lib.hid ht; have HN := Lib.hid hN; clear hia ht hN) | (go_at_call 10; refine (newM _ N cp p w2 _ HIA.out HT.out (Kept.refl _)).mono ?_; rintro e w3 ⟨D, rfl, h3, _, _⟩; have H3 := Lib.hid h3; clear h3))
  have hN6 : N ≤ 6 := by have := H3.out.dr.bd.2.2; have := HN.out; omega
  have hN1 : 1 ≤ N := by have := H3.out.dr.bd.2.1; have := HN.out; omega
  have KW2 : Hid (Kept w w2) := k1.call k2
  clear k1 k2 hg
  have hcg : g < w2.heap.size := by
    obtain ⟨b', off, e', hc⟩ := HIA.out.2.2.2.2 (by omega)
    injection e' with e'
    injection e' with e1 e2
    subst e1 e2
    exact World.block_lt_of_cell? w2 _ (hc 0 (by omega))
  have HJ0 : Hid (J2 w2 (w3.alloc (.cells (zsRd.setIfInBounds 0 (.slice (some ⟨g, 0, none⟩) N cp)) 49)) D w3.heap.size p dst0 dst0) := rd_new H3.out (HIA.out.keep H3.out.kept) hcg (zsRd_set _) _
  generalize w3.alloc (.cells (zsRd.setIfInBounds 0 (.slice (some ⟨g, 0, none⟩) N cp)) 49) = W4 at *
  generalize w3.heap.size = R at *
  clear H3 hz0 hz1
  go_loopw [9] (fun iv wr => ∃ (i : Nat) (st : DSt), i ≤ n ∧ i ≤ 60 ∧ iv = .int .i64 i ∧ Hid (J2 w2 wr D R p st st)) (fun iv _ => 60 - (intOf iv).toNat)
  case atStart => exact ⟨0, dst0, by omega, by omega, rfl, HJ0⟩
  case round =>
    clear HJ0
    obtain ⟨i, st, hi, hi60, rfl, HM⟩ := hrel
    by_cases hgo : i < n ∧ i < 60
    · have e1 : decide ((i : Int) < n) = true := by simp; omega
      have e2 : decide ((i : Int) < 60) = true := by simp; omega
      have KW : Hid (Kept w wr) := KW2.out.call HM.out.k0
      obtain ⟨b, off, rfl, hbl, hc⟩ := ops_at HR.out (by omega)
      obtain ⟨z0, z1, z2, z3, z4⟩ := hc i hgo.1
      have z0 := KW.out.at_ z0
      have z1 := KW.out.at_ z1
      have z2 := KW.out.at_ z2
      have z3 := KW.out.at_ z3
      have z4 := KW.out.at_ z4
      have hbw : b < wr.heap.size := World.block_lt_of_cell? wr _ z0
      clear hc
      generalize (xs i).kind = kd at *
      generalize (xs i).a = ao at *
      generalize (xs i).b = bo at *
      generalize (xs i).stops = so at *
      generalize (xs i).text = to at *
      have hk7 := and_bd kd 7 (by omega) (by omega)
      obtain ⟨k7, hkd⟩ : ∃ k7 : Int, bits .and .i64 kd 7 = k7 := ⟨_, rfl⟩
      obtain ⟨az, haz, haz2, haz3, haz4, av, hav, ga⟩ := site8 ao
      obtain ⟨bz, hbz, hbz2, hbz3, hbz4, bv, hbv, gb⟩ := site8 bo
      obtain ⟨ha1, ha2⟩ := id ga
      obtain ⟨hb1, hb2⟩ := id gb
      have hA := tmod_bd ao 8 (by omega)
      have hB := tmod_bd bo 8 (by omega)
      have HJ3 : Hid (J3 w2 (wr.alloc (.cells #[.int .i64 kd, .int .i64 ao, .int .i64 bo, .bool so, .string to] 29)) D R wr.heap.size p st st) := HM.out.j3 _
      have HM2 := Lib.hid HJ3.out.j2
      rcases Decidable.em (k7 = 4) with h4 | h4
      · subst h4
        cases so
        · go_wp2_with fail
          have HJ := HM2
          generalize wr.alloc (.cells #[.int .i64 kd, .int .i64 ao, .int .i64 bo, .bool false, .string to] 29) = WC at *
          have HRC := Lib.hid (mkJR HJ.out)
          have c79 := HRC.out
          obtain ⟨LL, hLL⟩ : ∃ LL, ((st).W (av, bv)).length = LL := ⟨_, rfl⟩
          have HLL := Lib.hid hLL
          obtain ⟨KK, hKK⟩ : ∃ KK, (st).k = KK := ⟨_, rfl⟩
          have HKK := Lib.hid hKK
          obtain ⟨BB, hBB⟩ : ∃ BB, allB p (st) = BB := ⟨_, rfl⟩
          have HBB := Lib.hid hBB
          have hLb : LL ≤ 1000 := by have := HJ.out.mi.len (av, bv); omega
          rw [hKK] at c79
          have hRR := World.block_lt_of_cell? _ _ c79
          clear hLL hKK hBB HRC
          (try go_wp2_with fail)
          refine wp_region_text keepsOne (fun wB => Kept WC wB ∧ wB.cell? ⟨R, 79, none⟩ = some (.int .i64 (KK : Int))) ?_ (by kernel_rfl) (by kernel_rfl) _ (by (try simp only [List.append_eq, List.cons_append, List.nil_append, List.toList_toArray]); exact rfl) ?_
          · exact ⟨by repeat (first | exact Kept.refl _ | assumption | (refine Kept.alloc ?_ _) | (refine Kept.setCell ?_ (by first | omega | (simp; omega) | simp) _) | refine Kept.drew ?_ | refine Kept.drewN ?_ _ | (apply Kept.call; rotate_left; assumption)), by first | assumption | go_simp⟩
          rintro wB ⟨hkB, sB1⟩
          repeat (first | (apply DW.det; (focus (intro wd hI; have td1 := hI.at_ sB1; skip; go_wp2_with (first | (go_at_call 17; refine (flyJD (HJ.out.kept (hkB.call hI)) ga gb).mono ?_; rintro e w15 ⟨rfl, hb15⟩; rw [HLL.out]) | (go_at_call 21; refine (flyJR (HJ.out.kept (hkB.call hI)) ga gb).mono ?_; rintro e w16 ⟨rfl, hb16⟩; rw [HLL.out]) | (go_at_call 22; refine (mkJD (HJ.out.kept (hkB.call hI))).mono ?_; rintro e w17 ⟨rfl, hb17⟩; rw [HKK.out]) | (go_at_call 23; refine (allJD (HJ.out.kept (hkB.call hI))).mono ?_; rintro e w18 ⟨rfl, hb18⟩; rw [HBB.out]) | (go_at_call 24; refine (allJR (HJ.out.kept (hkB.call hI))).mono ?_; rintro e w19 ⟨rfl, hb19⟩; rw [HBB.out])); refine StepPost.mk _ rfl ⟨rfl, ?_⟩; repeat (first | exact Kept.refl _ | assumption | (refine Kept.alloc ?_ _) | (refine Kept.setCell ?_ (by first | omega | (simp; omega) | simp) _) | refine Kept.drew ?_ | refine Kept.drewN ?_ _ | (apply Kept.call; rotate_left; assumption)))); simp only [Act.put, List.setIfInBounds_toArray, List.set_cons_succ, List.set_cons_zero]) | (refine DW.loud (by kernel_rfl) ?_; intro wd hI; have td1 := hI.at_ sB1; skip; go_wp2_with (first | (go_at_call 17; refine (flyJD (HJ.out.kept (hkB.call hI)) ga gb).mono ?_; rintro e w15 ⟨rfl, hb15⟩; rw [HLL.out]) | (go_at_call 21; refine (flyJR (HJ.out.kept (hkB.call hI)) ga gb).mono ?_; rintro e w16 ⟨rfl, hb16⟩; rw [HLL.out]) | (go_at_call 22; refine (mkJD (HJ.out.kept (hkB.call hI))).mono ?_; rintro e w17 ⟨rfl, hb17⟩; rw [HKK.out]) | (go_at_call 23; refine (allJD (HJ.out.kept (hkB.call hI))).mono ?_; rintro e w18 ⟨rfl, hb18⟩; rw [HBB.out]) | (go_at_call 24; refine (allJR (HJ.out.kept (hkB.call hI))).mono ?_; rintro e w19 ⟨rfl, hb19⟩; rw [HBB.out])); refine StepPost.loud _ rfl (by repeat (first | exact Kept.refl _ | assumption | (refine Kept.alloc ?_ _) | (refine Kept.setCell ?_ (by first | omega | (simp; omega) | simp) _) | refine Kept.drew ?_ | refine Kept.drewN ?_ _ | (apply Kept.call; rotate_left; assumption))) (fun hkL => ?_); have hkL := hI.call hkL; have hkB := hkB.call hkL; have sB1 := hkL.at_ sB1; simp only [Act.put, List.setIfInBounds_toArray, List.set_cons_succ, List.set_cons_zero]))
          refine DW.nil ?_
          intro wd hI
          have hkd := hkB.call hI
          have td1 := hI.at_ sB1
          have HJ2 := Lib.hid (HJ.out.kept hkd)
          clear HJ HLL HKK HBB
          go_wp2_with fail
          go_loopw [19] (fun sv w9 => ∃ s : Int, -1 ≤ s ∧ s ≤ 7 ∧ sv = .int .i64 s ∧ Hid (J2 w2 w9 D R p (st) (st))) (fun sv _ => (7 - intOf sv).toNat)
          case atStart => exact ⟨-1, by omega, by omega, rfl, HJ2⟩
          case round =>
            clear HJ2
            obtain ⟨s, hs1, hs7, rfl, HJ2⟩ := hrel
            have gs : gd s ∨ s = 7 := by unfold gd; omega
            rcases gs with gs | gs
            · obtain ⟨gs1, gs2⟩ := id gs
              have d1 : decide (s < 7) = true := by simp; omega
              obtain ⟨DB, hDB⟩ : ∃ DB, doneB p (st) s = DB := ⟨_, rfl⟩
              have HDB := Lib.hid hDB
              clear hDB
              rcases hin : inB p.length s with _ | _
              · have HIN := Lib.hid hin
                have hno : ¬ (0 ≤ s ∧ s < N) := fun h => by
                  have := (inB_iff p.length s).2 ⟨h.1, by rw [HN.out]; exact h.2⟩
                  rw [this] at hin; cases hin
                have hcase : decide (0 ≤ s) = false ∨ (decide (0 ≤ s) = true ∧ decide (s < (N : Int)) = false) := by
                  simp only [decide_eq_true_eq, decide_eq_false_iff_not]
                  omega
                clear hin hno
                rcases hcase with d2 | ⟨d2, d3⟩
                all_goals
                  (go_wp2_with (first | (go_at_call 14; refine (stoppedJD HJ2.out gs).mono ?_; rintro e w21 ⟨rfl, k21⟩; rw [HIN.out]; have HJ21 := Lib.hid (HJ2.out.kept k21)) | (go_at_call 12; refine (doneJD HJ21.out gs).mono ?_; rintro e w22 ⟨rfl, k22⟩; rw [HDB.out]; have HJ22 := Lib.hid (HJ21.out.kept k22)) | (go_at_call 25; refine (doneJR HJ22.out gs).mono ?_; rintro e w23 ⟨rfl, k23⟩; rw [HDB.out]; have HJ23 := Lib.hid (HJ22.out.kept k23)))
                   go_roundw
                   case rel => first | exact ⟨s + 1, by omega, by omega, by go_num, HJ23⟩ | ((repeat apply Exists.intro); exact ⟨⟨s + 1, by omega, by omega, by go_num, HJ23⟩, rfl⟩)
                   case measure => simp [intOf]; omega)
              · have HIN := Lib.hid hin
                obtain ⟨h0, h1⟩ := (inB_iff _ _).1 hin
                obtain ⟨y, rfl⟩ := Int.eq_ofNat_of_zero_le h0
                have hyN : y < N := by have := HN.out; omega
                have cs := stJR HJ2.out (s := y) (by omega)
                have hRw := World.block_lt_of_cell? _ _ cs
                obtain ⟨SB, hSB⟩ : ∃ SB, (st).S (y : Int) = SB := ⟨_, rfl⟩
                rw [hSB] at cs
                have HSB := Lib.hid hSB
                have d2 : decide ((0 : Int) ≤ (y : Int)) = true := by simp
                have d3 : decide ((y : Int) < (N : Int)) = true := by simp; omega
                clear hin hSB
                go_wp2_with (first | (go_at_call 14; refine (stoppedJD HJ2.out gs).mono ?_; rintro e w21 ⟨rfl, k21⟩; rw [HIN.out, HSB.out, Bool.true_and]; have HJ21 := Lib.hid (HJ2.out.kept k21)) | (go_at_call 12; refine (doneJD HJ21.out gs).mono ?_; rintro e w22 ⟨rfl, k22⟩; rw [HDB.out]; have HJ22 := Lib.hid (HJ21.out.kept k22)) | (go_at_call 25; refine (doneJR HJ22.out gs).mono ?_; rintro e w23 ⟨rfl, k23⟩; rw [HDB.out]; have HJ23 := Lib.hid (HJ22.out.kept k23)))
                go_roundw
                case rel => first | exact ⟨(y : Int) + 1, by omega, by omega, by go_num, HJ23⟩ | ((repeat apply Exists.intro); exact ⟨⟨(y : Int) + 1, by omega, by omega, by go_num, HJ23⟩, rfl⟩)
                case measure => simp [intOf]; omega
            · subst gs
              go_wp2_with fail
              go_roundw
              case rel => first | exact ⟨i + 1, _, by omega, by omega, by go_num, HJ2⟩ | ((repeat apply Exists.intro); exact ⟨⟨i + 1, _, by omega, by omega, by go_num, HJ2⟩, rfl⟩)
              case measure => simp [intOf]; omega
        · obtain ⟨RV, hRV⟩ : ∃ RV, stopR p st av = RV := ⟨_, rfl⟩
          have HRV := Lib.hid hRV
          clear hRV
          go_wp2_with (first | (go_at_call 11; refine (stopJD HM2.out ga).mono ?_; rintro e w5 ⟨rfl, h5⟩; rw [HRV.out]; have HJ5 := Lib.hid h5; clear h5) | (go_at_call 18; refine (stopJR HJ5.out ga).mono ?_; rintro e w6 ⟨rfl, h6⟩; rw [HRV.out]; have HJ := Lib.hid h6; clear h6))
          clear HJ5 HJ3 HM2
          have HRC := Lib.hid (mkJR HJ.out)
          have c79 := HRC.out
          obtain ⟨LL, hLL⟩ : ∃ LL, ((stopD p st av).W (av, bv)).length = LL := ⟨_, rfl⟩
          have HLL := Lib.hid hLL
          obtain ⟨KK, hKK⟩ : ∃ KK, (stopD p st av).k = KK := ⟨_, rfl⟩
          have HKK := Lib.hid hKK
          obtain ⟨BB, hBB⟩ : ∃ BB, allB p (stopD p st av) = BB := ⟨_, rfl⟩
          have HBB := Lib.hid hBB
          have hLb : LL ≤ 1000 := by have := HJ.out.mi.len (av, bv); omega
          rw [hKK] at c79
          have hRR := World.block_lt_of_cell? _ _ c79
          clear hLL hKK hBB HRC
          (try go_wp2_with fail)
          refine wp_region_text keepsOne (fun wB => Kept w6 wB ∧ wB.cell? ⟨R, 79, none⟩ = some (.int .i64 (KK : Int))) ?_ (by kernel_rfl) (by kernel_rfl) _ (by (try simp only [List.append_eq, List.cons_append, List.nil_append, List.toList_toArray]); exact rfl) ?_
          · exact ⟨by repeat (first | exact Kept.refl _ | assumption | (refine Kept.alloc ?_ _) | (refine Kept.setCell ?_ (by first | omega | (simp; omega) | simp) _) | refine Kept.drew ?_ | refine Kept.drewN ?_ _ | (apply Kept.call; rotate_left; assumption)), by first | assumption | go_simp⟩
          rintro wB ⟨hkB, sB1⟩
          repeat (first | (apply DW.det; (focus (intro wd hI; have td1 := hI.at_ sB1; skip; go_wp2_with (first | (go_at_call 17; refine (flyJD (HJ.out.kept (hkB.call hI)) ga gb).mono ?_; rintro e w15 ⟨rfl, hb15⟩; rw [HLL.out]) | (go_at_call 21; refine (flyJR (HJ.out.kept (hkB.call hI)) ga gb).mono ?_; rintro e w16 ⟨rfl, hb16⟩; rw [HLL.out]) | (go_at_call 22; refine (mkJD (HJ.out.kept (hkB.call hI))).mono ?_; rintro e w17 ⟨rfl, hb17⟩; rw [HKK.out]) | (go_at_call 23; refine (allJD (HJ.out.kept (hkB.call hI))).mono ?_; rintro e w18 ⟨rfl, hb18⟩; rw [HBB.out]) | (go_at_call 24; refine (allJR (HJ.out.kept (hkB.call hI))).mono ?_; rintro e w19 ⟨rfl, hb19⟩; rw [HBB.out])); refine StepPost.mk _ rfl ⟨rfl, ?_⟩; repeat (first | exact Kept.refl _ | assumption | (refine Kept.alloc ?_ _) | (refine Kept.setCell ?_ (by first | omega | (simp; omega) | simp) _) | refine Kept.drew ?_ | refine Kept.drewN ?_ _ | (apply Kept.call; rotate_left; assumption)))); simp only [Act.put, List.setIfInBounds_toArray, List.set_cons_succ, List.set_cons_zero]) | (refine DW.loud (by kernel_rfl) ?_; intro wd hI; have td1 := hI.at_ sB1; skip; go_wp2_with (first | (go_at_call 17; refine (flyJD (HJ.out.kept (hkB.call hI)) ga gb).mono ?_; rintro e w15 ⟨rfl, hb15⟩; rw [HLL.out]) | (go_at_call 21; refine (flyJR (HJ.out.kept (hkB.call hI)) ga gb).mono ?_; rintro e w16 ⟨rfl, hb16⟩; rw [HLL.out]) | (go_at_call 22; refine (mkJD (HJ.out.kept (hkB.call hI))).mono ?_; rintro e w17 ⟨rfl, hb17⟩; rw [HKK.out]) | (go_at_call 23; refine (allJD (HJ.out.kept (hkB.call hI))).mono ?_; rintro e w18 ⟨rfl, hb18⟩; rw [HBB.out]) | (go_at_call 24; refine (allJR (HJ.out.kept (hkB.call hI))).mono ?_; rintro e w19 ⟨rfl, hb19⟩; rw [HBB.out])); refine StepPost.loud _ rfl (by repeat (first | exact Kept.refl _ | assumption | (refine Kept.alloc ?_ _) | (refine Kept.setCell ?_ (by first | omega | (simp; omega) | simp) _) | refine Kept.drew ?_ | refine Kept.drewN ?_ _ | (apply Kept.call; rotate_left; assumption))) (fun hkL => ?_); have hkL := hI.call hkL; have hkB := hkB.call hkL; have sB1 := hkL.at_ sB1; simp only [Act.put, List.setIfInBounds_toArray, List.set_cons_succ, List.set_cons_zero]))
          refine DW.nil ?_
          intro wd hI
          have hkd := hkB.call hI
          have td1 := hI.at_ sB1
          have HJ2 := Lib.hid (HJ.out.kept hkd)
          clear HJ HLL HKK HBB
          go_wp2_with fail
          go_loopw [19] (fun sv w9 => ∃ s : Int, -1 ≤ s ∧ s ≤ 7 ∧ sv = .int .i64 s ∧ Hid (J2 w2 w9 D R p (stopD p st av) (stopD p st av))) (fun sv _ => (7 - intOf sv).toNat)
          case atStart => exact ⟨-1, by omega, by omega, rfl, HJ2⟩
          case round =>
            clear HJ2
            obtain ⟨s, hs1, hs7, rfl, HJ2⟩ := hrel
            have gs : gd s ∨ s = 7 := by unfold gd; omega
            rcases gs with gs | gs
            · obtain ⟨gs1, gs2⟩ := id gs
              have d1 : decide (s < 7) = true := by simp; omega
              obtain ⟨DB, hDB⟩ : ∃ DB, doneB p (stopD p st av) s = DB := ⟨_, rfl⟩
              have HDB := Lib.hid hDB
              clear hDB
              rcases hin : inB p.length s with _ | _
              · have HIN := Lib.hid hin
                have hno : ¬ (0 ≤ s ∧ s < N) := fun h => by
                  have := (inB_iff p.length s).2 ⟨h.1, by rw [HN.out]; exact h.2⟩
                  rw [this] at hin; cases hin
                have hcase : decide (0 ≤ s) = false ∨ (decide (0 ≤ s) = true ∧ decide (s < (N : Int)) = false) := by
                  simp only [decide_eq_true_eq, decide_eq_false_iff_not]
                  omega
                clear hin hno
                rcases hcase with d2 | ⟨d2, d3⟩
                all_goals
                  (go_wp2_with (first | (go_at_call 14; refine (stoppedJD HJ2.out gs).mono ?_; rintro e w21 ⟨rfl, k21⟩; rw [HIN.out]; have HJ21 := Lib.hid (HJ2.out.kept k21)) | (go_at_call 12; refine (doneJD HJ21.out gs).mono ?_; rintro e w22 ⟨rfl, k22⟩; rw [HDB.out]; have HJ22 := Lib.hid (HJ21.out.kept k22)) | (go_at_call 25; refine (doneJR HJ22.out gs).mono ?_; rintro e w23 ⟨rfl, k23⟩; rw [HDB.out]; have HJ23 := Lib.hid (HJ22.out.kept k23)))
                   go_roundw
                   case rel => first | exact ⟨s + 1, by omega, by omega, by go_num, HJ23⟩ | ((repeat apply Exists.intro); exact ⟨⟨s + 1, by omega, by omega, by go_num, HJ23⟩, rfl⟩)
                   case measure => simp [intOf]; omega)
              · have HIN := Lib.hid hin
                obtain ⟨h0, h1⟩ := (inB_iff _ _).1 hin
                obtain ⟨y, rfl⟩ := Int.eq_ofNat_of_zero_le h0
                have hyN : y < N := by have := HN.out; omega
                have cs := stJR HJ2.out (s := y) (by omega)
                have hRw := World.block_lt_of_cell? _ _ cs
                obtain ⟨SB, hSB⟩ : ∃ SB, (stopD p st av).S (y : Int) = SB := ⟨_, rfl⟩
                rw [hSB] at cs
                have HSB := Lib.hid hSB
                have d2 : decide ((0 : Int) ≤ (y : Int)) = true := by simp
                have d3 : decide ((y : Int) < (N : Int)) = true := by simp; omega
                clear hin hSB
                go_wp2_with (first | (go_at_call 14; refine (stoppedJD HJ2.out gs).mono ?_; rintro e w21 ⟨rfl, k21⟩; rw [HIN.out, HSB.out, Bool.true_and]; have HJ21 := Lib.hid (HJ2.out.kept k21)) | (go_at_call 12; refine (doneJD HJ21.out gs).mono ?_; rintro e w22 ⟨rfl, k22⟩; rw [HDB.out]; have HJ22 := Lib.hid (HJ21.out.kept k22)) | (go_at_call 25; refine (doneJR HJ22.out gs).mono ?_; rintro e w23 ⟨rfl, k23⟩; rw [HDB.out]; have HJ23 := Lib.hid (HJ22.out.kept k23)))
                go_roundw
                case rel => first | exact ⟨(y : Int) + 1, by omega, by omega, by go_num, HJ23⟩ | ((repeat apply Exists.intro); exact ⟨⟨(y : Int) + 1, by omega, by omega, by go_num, HJ23⟩, rfl⟩)
                case measure => simp [intOf]; omega
            · subst gs
              go_wp2_with fail
              go_roundw
              case rel => first | exact ⟨i + 1, _, by omega, by omega, by go_num, HJ2⟩ | ((repeat apply Exists.intro); exact ⟨⟨i + 1, _, by omega, by omega, by go_num, HJ2⟩, rfl⟩)
              case measure => simp [intOf]; omega
      · by_cases h57 : k7 = 5 ∨ k7 = 6 ∨ k7 = 7
        · obtain ⟨sx, mx, ix, hpv, hpt⟩ := pick_two st av bv
          have HPV := Lib.hid hpv
          have HPT := Lib.hid hpt
          clear hpv hpt
          rcases h57 with rfl | rfl | rfl
          all_goals
            (go_wp2_with (first | (go_at_call 13; refine (pickJD HM2.out ga gb).mono ?_; rintro e w5 ⟨rfl, h5⟩; rw [HPV.out]; have HJ5 := Lib.hid h5; clear h5) | (go_at_call 19; refine (pickJR HJ5.out ga gb).mono ?_; rintro e w6 ⟨rfl, h6⟩; rw [HPT.out]; have HJ6 := Lib.hid h6; clear h6))
             have HJ : Hid (J2 w2 (w6.alloc (.cells #[.string sx, .bool mx] 51)) D R p (pickD p st av bv) (pickD p st av bv)) := HJ6.out.kept ((Kept.refl _).alloc _)
             clear HJ5 HJ3 HM2 HJ6
             generalize w6.alloc (.cells #[.string sx, .bool mx] 51) = WC at *
             have HRC := Lib.hid (mkJR HJ.out)
             have c79 := HRC.out
             obtain ⟨LL, hLL⟩ : ∃ LL, ((pickD p st av bv).W (av, bv)).length = LL := ⟨_, rfl⟩
             have HLL := Lib.hid hLL
             obtain ⟨KK, hKK⟩ : ∃ KK, (pickD p st av bv).k = KK := ⟨_, rfl⟩
             have HKK := Lib.hid hKK
             obtain ⟨BB, hBB⟩ : ∃ BB, allB p (pickD p st av bv) = BB := ⟨_, rfl⟩
             have HBB := Lib.hid hBB
             have hLb : LL ≤ 1000 := by have := HJ.out.mi.len (av, bv); omega
             rw [hKK] at c79
             have hRR := World.block_lt_of_cell? _ _ c79
             clear hLL hKK hBB HRC
             (try go_wp2_with fail)
             refine wp_region_text keepsOne (fun wB => Kept WC wB ∧ wB.cell? ⟨R, 79, none⟩ = some (.int .i64 (KK : Int))) ?_ (by kernel_rfl) (by kernel_rfl) _ (by (try simp only [List.append_eq, List.cons_append, List.nil_append, List.toList_toArray]); exact rfl) ?_
             · exact ⟨by repeat (first | exact Kept.refl _ | assumption | (refine Kept.alloc ?_ _) | (refine Kept.setCell ?_ (by first | omega | (simp; omega) | simp) _) | refine Kept.drew ?_ | refine Kept.drewN ?_ _ | (apply Kept.call; rotate_left; assumption)), by first | assumption | go_simp⟩
             rintro wB ⟨hkB, sB1⟩
             repeat (first | (apply DW.det; (focus (intro wd hI; have td1 := hI.at_ sB1; skip; go_wp2_with (first | (go_at_call 17; refine (flyJD (HJ.out.kept (hkB.call hI)) ga gb).mono ?_; rintro e w15 ⟨rfl, hb15⟩; rw [HLL.out]) | (go_at_call 21; refine (flyJR (HJ.out.kept (hkB.call hI)) ga gb).mono ?_; rintro e w16 ⟨rfl, hb16⟩; rw [HLL.out]) | (go_at_call 22; refine (mkJD (HJ.out.kept (hkB.call hI))).mono ?_; rintro e w17 ⟨rfl, hb17⟩; rw [HKK.out]) | (go_at_call 23; refine (allJD (HJ.out.kept (hkB.call hI))).mono ?_; rintro e w18 ⟨rfl, hb18⟩; rw [HBB.out]) | (go_at_call 24; refine (allJR (HJ.out.kept (hkB.call hI))).mono ?_; rintro e w19 ⟨rfl, hb19⟩; rw [HBB.out])); refine StepPost.mk _ rfl ⟨rfl, ?_⟩; repeat (first | exact Kept.refl _ | assumption | (refine Kept.alloc ?_ _) | (refine Kept.setCell ?_ (by first | omega | (simp; omega) | simp) _) | refine Kept.drew ?_ | refine Kept.drewN ?_ _ | (apply Kept.call; rotate_left; assumption)))); simp only [Act.put, List.setIfInBounds_toArray, List.set_cons_succ, List.set_cons_zero]) | (refine DW.loud (by kernel_rfl) ?_; intro wd hI; have td1 := hI.at_ sB1; skip; go_wp2_with (first | (go_at_call 17; refine (flyJD (HJ.out.kept (hkB.call hI)) ga gb).mono ?_; rintro e w15 ⟨rfl, hb15⟩; rw [HLL.out]) | (go_at_call 21; refine (flyJR (HJ.out.kept (hkB.call hI)) ga gb).mono ?_; rintro e w16 ⟨rfl, hb16⟩; rw [HLL.out]) | (go_at_call 22; refine (mkJD (HJ.out.kept (hkB.call hI))).mono ?_; rintro e w17 ⟨rfl, hb17⟩; rw [HKK.out]) | (go_at_call 23; refine (allJD (HJ.out.kept (hkB.call hI))).mono ?_; rintro e w18 ⟨rfl, hb18⟩; rw [HBB.out]) | (go_at_call 24; refine (allJR (HJ.out.kept (hkB.call hI))).mono ?_; rintro e w19 ⟨rfl, hb19⟩; rw [HBB.out])); refine StepPost.loud _ rfl (by repeat (first | exact Kept.refl _ | assumption | (refine Kept.alloc ?_ _) | (refine Kept.setCell ?_ (by first | omega | (simp; omega) | simp) _) | refine Kept.drew ?_ | refine Kept.drewN ?_ _ | (apply Kept.call; rotate_left; assumption))) (fun hkL => ?_); have hkL := hI.call hkL; have hkB := hkB.call hkL; have sB1 := hkL.at_ sB1; simp only [Act.put, List.setIfInBounds_toArray, List.set_cons_succ, List.set_cons_zero]))
             refine DW.nil ?_
             intro wd hI
             have hkd := hkB.call hI
             have td1 := hI.at_ sB1
             have HJ2 := Lib.hid (HJ.out.kept hkd)
             clear HJ HLL HKK HBB
             go_wp2_with fail
             go_loopw [19] (fun sv w9 => ∃ s : Int, -1 ≤ s ∧ s ≤ 7 ∧ sv = .int .i64 s ∧ Hid (J2 w2 w9 D R p (pickD p st av bv) (pickD p st av bv))) (fun sv _ => (7 - intOf sv).toNat)
             case atStart => exact ⟨-1, by omega, by omega, rfl, HJ2⟩
             case round =>
               clear HJ2
               obtain ⟨s, hs1, hs7, rfl, HJ2⟩ := hrel
               have gs : gd s ∨ s = 7 := by unfold gd; omega
               rcases gs with gs | gs
               · obtain ⟨gs1, gs2⟩ := id gs
                 have d1 : decide (s < 7) = true := by simp; omega
                 obtain ⟨DB, hDB⟩ : ∃ DB, doneB p (pickD p st av bv) s = DB := ⟨_, rfl⟩
                 have HDB := Lib.hid hDB
                 clear hDB
                 rcases hin : inB p.length s with _ | _
                 · have HIN := Lib.hid hin
                   have hno : ¬ (0 ≤ s ∧ s < N) := fun h => by
                     have := (inB_iff p.length s).2 ⟨h.1, by rw [HN.out]; exact h.2⟩
                     rw [this] at hin; cases hin
                   have hcase : decide (0 ≤ s) = false ∨ (decide (0 ≤ s) = true ∧ decide (s < (N : Int)) = false) := by
                     simp only [decide_eq_true_eq, decide_eq_false_iff_not]
                     omega
                   clear hin hno
                   rcases hcase with d2 | ⟨d2, d3⟩
                   all_goals
                     (go_wp2_with (first | (go_at_call 14; refine (stoppedJD HJ2.out gs).mono ?_; rintro e w21 ⟨rfl, k21⟩; rw [HIN.out]; have HJ21 := Lib.hid (HJ2.out.kept k21)) | (go_at_call 12; refine (doneJD HJ21.out gs).mono ?_; rintro e w22 ⟨rfl, k22⟩; rw [HDB.out]; have HJ22 := Lib.hid (HJ21.out.kept k22)) | (go_at_call 25; refine (doneJR HJ22.out gs).mono ?_; rintro e w23 ⟨rfl, k23⟩; rw [HDB.out]; have HJ23 := Lib.hid (HJ22.out.kept k23)))
                      go_roundw
                      case rel => first | exact ⟨s + 1, by omega, by omega, by go_num, HJ23⟩ | ((repeat apply Exists.intro); exact ⟨⟨s + 1, by omega, by omega, by go_num, HJ23⟩, rfl⟩)
                      case measure => simp [intOf]; omega)
                 · have HIN := Lib.hid hin
                   obtain ⟨h0, h1⟩ := (inB_iff _ _).1 hin
                   obtain ⟨y, rfl⟩ := Int.eq_ofNat_of_zero_le h0
                   have hyN : y < N := by have := HN.out; omega
                   have cs := stJR HJ2.out (s := y) (by omega)
                   have hRw := World.block_lt_of_cell? _ _ cs
                   obtain ⟨SB, hSB⟩ : ∃ SB, (pickD p st av bv).S (y : Int) = SB := ⟨_, rfl⟩
                   rw [hSB] at cs
                   have HSB := Lib.hid hSB
                   have d2 : decide ((0 : Int) ≤ (y : Int)) = true := by simp
                   have d3 : decide ((y : Int) < (N : Int)) = true := by simp; omega
                   clear hin hSB
                   go_wp2_with (first | (go_at_call 14; refine (stoppedJD HJ2.out gs).mono ?_; rintro e w21 ⟨rfl, k21⟩; rw [HIN.out, HSB.out, Bool.true_and]; have HJ21 := Lib.hid (HJ2.out.kept k21)) | (go_at_call 12; refine (doneJD HJ21.out gs).mono ?_; rintro e w22 ⟨rfl, k22⟩; rw [HDB.out]; have HJ22 := Lib.hid (HJ21.out.kept k22)) | (go_at_call 25; refine (doneJR HJ22.out gs).mono ?_; rintro e w23 ⟨rfl, k23⟩; rw [HDB.out]; have HJ23 := Lib.hid (HJ22.out.kept k23)))
                   go_roundw
                   case rel => first | exact ⟨(y : Int) + 1, by omega, by omega, by go_num, HJ23⟩ | ((repeat apply Exists.intro); exact ⟨⟨(y : Int) + 1, by omega, by omega, by go_num, HJ23⟩, rfl⟩)
                   case measure => simp [intOf]; omega
               · subst gs
                 go_wp2_with fail
                 go_roundw
                 case rel => first | exact ⟨i + 1, _, by omega, by omega, by go_num, HJ2⟩ | ((repeat apply Exists.intro); exact ⟨⟨i + 1, _, by omega, by omega, by go_num, HJ2⟩, rfl⟩)
                 case measure => simp [intOf]; omega
             )
        · have q5 : (k7 == 5) = false := by simp; omega
          have q6 : (k7 == 6) = false := by simp; omega
          have q7 : (k7 == 7) = false := by simp; omega
          have q4 : (k7 == 4) = false := by simp; omega
          obtain ⟨RV, hRV⟩ : ∃ RV, sendR p st av bv = RV := ⟨_, rfl⟩
          have HRV := Lib.hid hRV
          have y4 : (wr.alloc (.cells #[.int .i64 kd, .int .i64 ao, .int .i64 bo, .bool so, .string to] 29)).cell? ⟨wr.heap.size, 4, none⟩ = some (.string to) := by go_simp
          have hQQ : wr.heap.size ∈ [wr.heap.size] := by simp
          clear hRV h57 h4
          go_wp2_with fail
          (try simp only [haz, hbz])
          (try simp only [haz2, hbz2])
          refine wp_region_dw (keepsOn ([wr.heap.size])) [0, 1, 2, 3, 4, 6, 7, 8, 9, 10, 5, 11, 12, 13] (fun wB => On ([wr.heap.size]) (wr.alloc (.cells #[.int .i64 kd, .int .i64 ao, .int .i64 bo, .bool so, .string to] 29)) wB ∧ wB.cell? ⟨wr.heap.size, 4, none⟩ = some (.string to) ∧ Hid (J3 w2 wB D R wr.heap.size p st st)) ?_ (by kernel_rfl) (by kernel_rfl) _ (by (try simp only [List.append_eq, List.cons_append, List.nil_append, List.toList_toArray]); exact rfl) ?_
          · exact ⟨by first | exact On.refl _ _ | assumption | exact On.of_kept (by assumption), by first | assumption | go_simp, by first | assumption | skip⟩
          rintro wB ⟨hkB, sB1, HX⟩
          simp only [List.map_cons, List.map_nil, List.toList_toArray, List.getElem?_cons_zero, List.getElem?_cons_succ, Option.getD_some]
          iterate 11 (first | (apply DW.det; (focus (intro wd hI; have hkd := hkB.trans hI; have td1 := hI.at_ sB1 (by assumption); go_wp2_with (fail); refine StepPost.mk _ rfl ⟨rfl, ?_⟩; repeat (first | exact Kept.refl _ | assumption | (refine Kept.alloc ?_ _) | (refine Kept.setCell ?_ (by first | omega | (simp; omega) | simp) _) | refine Kept.drew ?_ | refine Kept.drewN ?_ _ | (apply Kept.call; rotate_left; assumption)))); simp only [Act.put, List.setIfInBounds_toArray, List.set_cons_succ, List.set_cons_zero]) | (refine DW.loud (by kernel_rfl) ?_; intro wd hI; have hkd := hkB.trans (On.of_kept hI); have td1 := hI.at_ sB1; go_wp2_with (go_at_call 15; refine (sendJD (HX.out.kept hI) ga gb to).mono ?_; rintro e w5 ⟨rfl, h5, hon⟩; rw [HRV.out]; have HJ5 := Lib.hid h5; have hon5 : On [wr.heap.size] wd w5 := hon); refine StepPost.loud _ rfl (by first | exact On.refl _ _ | assumption | exact On.of_kept (by assumption)) (fun hkL => ?_); have hkL2 := (On.of_kept (L := [wr.heap.size]) hI).trans hkL; have hkB := hkB.trans hkL2; have sB1 := hkL2.at_ sB1 (by assumption); (first | have HX := Lib.hid (HX.out.kept (Kept.call hI (Kept.as1 hkL))) | have HX := Lib.hid (HX.out.kept (Kept.call hI (Kept.as0 hkL))) | skip); simp only [Act.put, List.setIfInBounds_toArray, List.set_cons_succ, List.set_cons_zero]))
          refine DW.tail (by kernel_rfl) ?_
          intro wd hI
          have hkd := hkB.trans (On.of_kept hI); have td1 := hI.at_ sB1
          have HJ6 := Lib.hid (HJ5.out.kept hI)
          clear HJ5 HX HJ3 HM2
          go_wp2_with (go_at_call 20; refine (sendJR HJ6.out ga gb to).mono ?_; rintro e w6 ⟨rfl, h6⟩; rw [HRV.out]; have HJ := Lib.hid h6; clear h6 HJ6)
          have HRC := Lib.hid (mkJR HJ.out)
          have c79 := HRC.out
          obtain ⟨LL, hLL⟩ : ∃ LL, ((sendD p st av bv to).W (av, bv)).length = LL := ⟨_, rfl⟩
          have HLL := Lib.hid hLL
          obtain ⟨KK, hKK⟩ : ∃ KK, (sendD p st av bv to).k = KK := ⟨_, rfl⟩
          have HKK := Lib.hid hKK
          obtain ⟨BB, hBB⟩ : ∃ BB, allB p (sendD p st av bv to) = BB := ⟨_, rfl⟩
          have HBB := Lib.hid hBB
          have hLb : LL ≤ 1000 := by have := HJ.out.mi.len (av, bv); omega
          rw [hKK] at c79
          have hRR := World.block_lt_of_cell? _ _ c79
          clear hLL hKK hBB HRC
          (try go_wp2_with fail)
          refine wp_region_text keepsOne (fun wB => Kept w6 wB ∧ wB.cell? ⟨R, 79, none⟩ = some (.int .i64 (KK : Int))) ?_ (by kernel_rfl) (by kernel_rfl) _ (by (try simp only [List.append_eq, List.cons_append, List.nil_append, List.toList_toArray]); exact rfl) ?_
          · exact ⟨by repeat (first | exact Kept.refl _ | assumption | (refine Kept.alloc ?_ _) | (refine Kept.setCell ?_ (by first | omega | (simp; omega) | simp) _) | refine Kept.drew ?_ | refine Kept.drewN ?_ _ | (apply Kept.call; rotate_left; assumption)), by first | assumption | go_simp⟩
          rintro wB ⟨hkB, sB1⟩
          repeat (first | (apply DW.det; (focus (intro wd hI; have td1 := hI.at_ sB1; skip; go_wp2_with (first | (go_at_call 17; refine (flyJD (HJ.out.kept (hkB.call hI)) ga gb).mono ?_; rintro e w15 ⟨rfl, hb15⟩; rw [HLL.out]) | (go_at_call 21; refine (flyJR (HJ.out.kept (hkB.call hI)) ga gb).mono ?_; rintro e w16 ⟨rfl, hb16⟩; rw [HLL.out]) | (go_at_call 22; refine (mkJD (HJ.out.kept (hkB.call hI))).mono ?_; rintro e w17 ⟨rfl, hb17⟩; rw [HKK.out]) | (go_at_call 23; refine (allJD (HJ.out.kept (hkB.call hI))).mono ?_; rintro e w18 ⟨rfl, hb18⟩; rw [HBB.out]) | (go_at_call 24; refine (allJR (HJ.out.kept (hkB.call hI))).mono ?_; rintro e w19 ⟨rfl, hb19⟩; rw [HBB.out])); refine StepPost.mk _ rfl ⟨rfl, ?_⟩; repeat (first | exact Kept.refl _ | assumption | (refine Kept.alloc ?_ _) | (refine Kept.setCell ?_ (by first | omega | (simp; omega) | simp) _) | refine Kept.drew ?_ | refine Kept.drewN ?_ _ | (apply Kept.call; rotate_left; assumption)))); simp only [Act.put, List.setIfInBounds_toArray, List.set_cons_succ, List.set_cons_zero]) | (refine DW.loud (by kernel_rfl) ?_; intro wd hI; have td1 := hI.at_ sB1; skip; go_wp2_with (first | (go_at_call 17; refine (flyJD (HJ.out.kept (hkB.call hI)) ga gb).mono ?_; rintro e w15 ⟨rfl, hb15⟩; rw [HLL.out]) | (go_at_call 21; refine (flyJR (HJ.out.kept (hkB.call hI)) ga gb).mono ?_; rintro e w16 ⟨rfl, hb16⟩; rw [HLL.out]) | (go_at_call 22; refine (mkJD (HJ.out.kept (hkB.call hI))).mono ?_; rintro e w17 ⟨rfl, hb17⟩; rw [HKK.out]) | (go_at_call 23; refine (allJD (HJ.out.kept (hkB.call hI))).mono ?_; rintro e w18 ⟨rfl, hb18⟩; rw [HBB.out]) | (go_at_call 24; refine (allJR (HJ.out.kept (hkB.call hI))).mono ?_; rintro e w19 ⟨rfl, hb19⟩; rw [HBB.out])); refine StepPost.loud _ rfl (by repeat (first | exact Kept.refl _ | assumption | (refine Kept.alloc ?_ _) | (refine Kept.setCell ?_ (by first | omega | (simp; omega) | simp) _) | refine Kept.drew ?_ | refine Kept.drewN ?_ _ | (apply Kept.call; rotate_left; assumption))) (fun hkL => ?_); have hkL := hI.call hkL; have hkB := hkB.call hkL; have sB1 := hkL.at_ sB1; simp only [Act.put, List.setIfInBounds_toArray, List.set_cons_succ, List.set_cons_zero]))
          refine DW.nil ?_
          intro wd hI
          have hkd := hkB.call hI
          have td1 := hI.at_ sB1
          have HJ2 := Lib.hid (HJ.out.kept hkd)
          clear HJ HLL HKK HBB
          go_wp2_with fail
          go_loopw [19] (fun sv w9 => ∃ s : Int, -1 ≤ s ∧ s ≤ 7 ∧ sv = .int .i64 s ∧ Hid (J2 w2 w9 D R p (sendD p st av bv to) (sendD p st av bv to))) (fun sv _ => (7 - intOf sv).toNat)
          case atStart => exact ⟨-1, by omega, by omega, rfl, HJ2⟩
          case round =>
            clear HJ2
            obtain ⟨s, hs1, hs7, rfl, HJ2⟩ := hrel
            have gs : gd s ∨ s = 7 := by unfold gd; omega
            rcases gs with gs | gs
            · obtain ⟨gs1, gs2⟩ := id gs
              have d1 : decide (s < 7) = true := by simp; omega
              obtain ⟨DB, hDB⟩ : ∃ DB, doneB p (sendD p st av bv to) s = DB := ⟨_, rfl⟩
              have HDB := Lib.hid hDB
              clear hDB
              rcases hin : inB p.length s with _ | _
              · have HIN := Lib.hid hin
                have hno : ¬ (0 ≤ s ∧ s < N) := fun h => by
                  have := (inB_iff p.length s).2 ⟨h.1, by rw [HN.out]; exact h.2⟩
                  rw [this] at hin; cases hin
                have hcase : decide (0 ≤ s) = false ∨ (decide (0 ≤ s) = true ∧ decide (s < (N : Int)) = false) := by
                  simp only [decide_eq_true_eq, decide_eq_false_iff_not]
                  omega
                clear hin hno
                rcases hcase with d2 | ⟨d2, d3⟩
                all_goals
                  (go_wp2_with (first | (go_at_call 14; refine (stoppedJD HJ2.out gs).mono ?_; rintro e w21 ⟨rfl, k21⟩; rw [HIN.out]; have HJ21 := Lib.hid (HJ2.out.kept k21)) | (go_at_call 12; refine (doneJD HJ21.out gs).mono ?_; rintro e w22 ⟨rfl, k22⟩; rw [HDB.out]; have HJ22 := Lib.hid (HJ21.out.kept k22)) | (go_at_call 25; refine (doneJR HJ22.out gs).mono ?_; rintro e w23 ⟨rfl, k23⟩; rw [HDB.out]; have HJ23 := Lib.hid (HJ22.out.kept k23)))
                   go_roundw
                   case rel => first | exact ⟨s + 1, by omega, by omega, by go_num, HJ23⟩ | ((repeat apply Exists.intro); exact ⟨⟨s + 1, by omega, by omega, by go_num, HJ23⟩, rfl⟩)
                   case measure => simp [intOf]; omega)
              · have HIN := Lib.hid hin
                obtain ⟨h0, h1⟩ := (inB_iff _ _).1 hin
                obtain ⟨y, rfl⟩ := Int.eq_ofNat_of_zero_le h0
                have hyN : y < N := by have := HN.out; omega
                have cs := stJR HJ2.out (s := y) (by omega)
                have hRw := World.block_lt_of_cell? _ _ cs
                obtain ⟨SB, hSB⟩ : ∃ SB, (sendD p st av bv to).S (y : Int) = SB := ⟨_, rfl⟩
                rw [hSB] at cs
                have HSB := Lib.hid hSB
                have d2 : decide ((0 : Int) ≤ (y : Int)) = true := by simp
                have d3 : decide ((y : Int) < (N : Int)) = true := by simp; omega
                clear hin hSB
                go_wp2_with (first | (go_at_call 14; refine (stoppedJD HJ2.out gs).mono ?_; rintro e w21 ⟨rfl, k21⟩; rw [HIN.out, HSB.out, Bool.true_and]; have HJ21 := Lib.hid (HJ2.out.kept k21)) | (go_at_call 12; refine (doneJD HJ21.out gs).mono ?_; rintro e w22 ⟨rfl, k22⟩; rw [HDB.out]; have HJ22 := Lib.hid (HJ21.out.kept k22)) | (go_at_call 25; refine (doneJR HJ22.out gs).mono ?_; rintro e w23 ⟨rfl, k23⟩; rw [HDB.out]; have HJ23 := Lib.hid (HJ22.out.kept k23)))
                go_roundw
                case rel => first | exact ⟨(y : Int) + 1, by omega, by omega, by go_num, HJ23⟩ | ((repeat apply Exists.intro); exact ⟨⟨(y : Int) + 1, by omega, by omega, by go_num, HJ23⟩, rfl⟩)
                case measure => simp [intOf]; omega
            · subst gs
              go_wp2_with fail
              go_roundw
              case rel => first | exact ⟨i + 1, _, by omega, by omega, by go_num, HJ2⟩ | ((repeat apply Exists.intro); exact ⟨⟨i + 1, _, by omega, by omega, by go_num, HJ2⟩, rfl⟩)
              case measure => simp [intOf]; omega
    · have hcase : decide ((i : Int) < n) = false ∨ (decide ((i : Int) < n) = true ∧ decide ((i : Int) < 60) = false) := by
        by_cases h : i < n
        · exact .inr ⟨by simp; omega, by simp; omega⟩
        · exact .inl (by simp; omega)
      rcases hcase with e1 | ⟨e1, e2⟩
      all_goals
        (go_wp2_with fail
         all_goals go_ret
         all_goals exact ⟨rfl, KW2.out.call HM.out.k0⟩)
end Go.Proofs.Ytbofgpmbocjbiaa
