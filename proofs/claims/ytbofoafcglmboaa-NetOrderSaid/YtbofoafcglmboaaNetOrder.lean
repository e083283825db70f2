/- The walk of the law NetOrder: it returns true for every script. -/
import Derived.Test.YtbofoafcglmboaaNetI
set_option linter.unusedSimpArgs false
set_option linter.unusedVariables false
namespace Go.Proofs.Ytbofoafcglmboaa
open Go.RowKit Go.Maps
theorem third (x : Int) : ∃ r : Nat, (x.tmod 3 + 3).tmod 3 = (r : Int) ∧ r < 3 := by
  have h1 := tmod_bd x 3 (by omega)
  have h2 := Int.tmod_nonneg (3 : Int) (show 0 ≤ x.tmod 3 + 3 by omega)
  have h3 := Int.tmod_lt_of_pos (x.tmod 3 + 3) (show (0 : Int) < 3 by omega)
  exact ⟨((x.tmod 3 + 3).tmod 3).toNat, by omega, by omega⟩
theorem full3 {a b : Nat} (ha : a < 3) (hb : b < 3) (h : a ≠ b) : fullP 3 a b = true := by simp [fullP, ha, hb, h]
theorem full3_no (a : Nat) : fullP 3 a a = false := by simp [fullP]
set_option maxHeartbeats 4000000 in
set_option maxRecDepth 20000 in
theorem netOrder_walk (A : Option Addr) (n c : Nat) (xs : Nat → OpV) (w : World) (hr : RowAt w A n c 6 (fun i => opCells (xs i))) (hx : ∀ i, i < n → OpOk (xs i)) :
    Calls Try.prog 3 #[.slice A n c] w fun e w' => e = .returned (.bool true) ∧ Kept w w' := by
  have HR := Lib.hid hr
  have hnc := hr.1
  have hcm := hr.2.1
  unfold maxLen at hcm
  clear hr hx
  go_enter Try.func3, Try.ntmps3
  go_wp2_with (first | (go_at_call 9; refine (awake_any _).mono ?_; rintro e w1 ⟨rfl, hb1⟩) | (go_at_call 10; refine (new_any 3 _ (by omega) (by omega)).mono ?_; rintro e w2 ⟨N, rfl, hN, k2⟩))
  have HO0 := Lib.hid (Ord.start (t := 27) (hN.under hb1) (hb1.call k2))
  clear hN hb1 k2
  generalize (w2.alloc (.cells #[.string ⟨#[]⟩, .string ⟨#[]⟩, .string ⟨#[]⟩, .string ⟨#[]⟩, .string ⟨#[]⟩, .string ⟨#[]⟩, .string ⟨#[]⟩, .string ⟨#[]⟩, .string ⟨#[]⟩] 27)).alloc (.cells #[.string ⟨#[]⟩, .string ⟨#[]⟩, .string ⟨#[]⟩, .string ⟨#[]⟩, .string ⟨#[]⟩, .string ⟨#[]⟩, .string ⟨#[]⟩, .string ⟨#[]⟩, .string ⟨#[]⟩] 27) = W2 at HO0 ⊢
  generalize w2.heap.size + 1 = Q2 at *
  generalize w2.heap.size = Q1 at *
  go_loopw [7] (fun iv wr => ∃ (i : Nat) (st : Nat → Nat → Ses) (SN TD : Nat → Nat → List UInt8), i ≤ n ∧ i ≤ 60 ∧ iv = .int .i64 i ∧ Hid (Ord w N Q1 Q2 wr st SN TD) ∧ Hid (Fit3 i st SN TD)) (fun iv _ => 60 - (intOf iv).toNat)
  case atStart => exact ⟨0, st0, _, _, by omega, by omega, rfl, HO0, Fit3.zero⟩
  case round =>
    obtain ⟨i, st, SN, TD, hi, hi60, rfl, HO, HF⟩ := hrel
    by_cases hgo : i < n ∧ i < 60
    · have e1 : decide ((i : Int) < n) = true := by simp; omega
      have e2 : decide ((i : Int) < 60) = true := by simp; omega
      have kr := HO.out.kept
      obtain ⟨b, off, rfl, hbl, hc⟩ := ops_at HR.out (by omega)
      obtain ⟨z0, z1, z2, z3, z4, z5⟩ := hc i hgo.1
      have z0 := kr.at_ z0
      have z1 := kr.at_ z1
      have z2 := kr.at_ z2
      have z3 := kr.at_ z3
      have z4 := kr.at_ z4
      have z5 := kr.at_ z5
      have hbw : b < wr.heap.size := World.block_lt_of_cell? wr _ z0
      clear hc kr
      generalize (xs i).kind = kd at *
      generalize (xs i).a = ao at *
      generalize (xs i).b = bo at *
      generalize (xs i).at_ = ato at *
      generalize (xs i).how = ho at *
      generalize (xs i).text = to at *
      obtain ⟨P, hP, hP3⟩ := third ao
      obtain ⟨R, hR, hR3⟩ := third bo
      have ht1 := tmod_bd ao 3 (by omega)
      have ht2 := tmod_bd bo 3 (by omega)
      obtain ⟨ev, hev⟩ : ∃ ev : Int, bits .and .i64 ato 7 = ev := ⟨_, rfl⟩
      obtain ⟨k3, hkd⟩ : ∃ k3 : Int, bits .and .i64 kd 3 = k3 := ⟨_, rfl⟩
      have HKD := Lib.hid hkd
      have HTT : Hid ((st P R).T.length ≤ 1000 ∧ (st P R).way.length ≤ 1000) := by have := HF.out.bd P R hP3 hR3; have h1 := this.T; have h2 := this.op; have h3 := this.way; exact ⟨by omega, by omega⟩
      have HOA := Lib.hid (HO.out.keep ((Kept.refl wr).alloc (.cells #[.int .i64 kd, .int .i64 ao, .int .i64 bo, .int .i64 ato, .int .i64 ho, .string to] 29)))
      have HOB := fun o => Lib.hid (HOA.out.keep ((Kept.refl _).alloc o))
      have hq1 := HO.out.l1
      have hq2 := HO.out.l2
      rcases Decidable.em (P = R) with hPR | hPR
      · subst hPR
        have HFN := Lib.hid (HF.out.mono (j := i + 1) (by omega))
        rcases Decidable.em (k3 = 0) with h0 | h0
        · subst h0
          obtain ⟨r, hr, hr26⟩ : ∃ r : Nat, (i : Int).tmod 26 = (r : Int) ∧ r < 26 := ⟨i % 26, rfl, by omega⟩
          have hcv := conv_chB (wr.alloc (.cells #[.int .i64 kd, .int .i64 ao, .int .i64 bo, .int .i64 ato, .int .i64 ho, .string to] 29)) r
          rw [World.size_alloc] at hcv
          go_wp2_with (first | (go_at_call 11; refine (sendN_none w _ N (fullP 3) st P P P P _ (HOB _).out.net (HOB _).out.kept rfl rfl (by omega) (by omega) (chB (97 + r)) (full3_no P)).mono ?_; rintro e w3 ⟨rfl, h3⟩; have H3 := Lib.hid ((HOB _).out.op h3); clear h3; obtain ⟨s1, s2⟩ := H3.out.facts0 HFN.out hP3) | (go_at_call 14; refine (openN_none w _ N (fullP 3) st P P P P _ H3.out.net rfl rfl (by omega) (by omega) (full3_no P)).mono ?_; rintro e w9 ⟨rfl, k9⟩; have H9 := Lib.hid (H3.out.keep k9)))
          go_roundw
          case rel => first | exact ⟨i + 1, st, SN, TD, by omega, by omega, by go_num, H9, HFN⟩ | ((repeat apply Exists.intro); exact ⟨⟨i + 1, st, SN, TD, by omega, by omega, by go_num, H9, HFN⟩, rfl⟩)
          case measure => simp [intOf]; omega
        · rcases Decidable.em (k3 = 3) with h3' | h3'
          · subst h3'
            go_wp2_with (first | (go_at_call 12; refine (againN_none w _ N (fullP 3) st P P P P _ HOA.out.net HOA.out.kept rfl rfl (by omega) (by omega) (full3_no P)).mono ?_; rintro e w3 ⟨rfl, h3⟩; have H3 := Lib.hid (HOA.out.op h3); clear h3; obtain ⟨s1, s2⟩ := H3.out.facts0 HFN.out hP3) | (go_at_call 14; refine (openN_none w _ N (fullP 3) st P P P P _ H3.out.net rfl rfl (by omega) (by omega) (full3_no P)).mono ?_; rintro e w9 ⟨rfl, k9⟩; have H9 := Lib.hid (H3.out.keep k9)))
            go_roundw
            case rel => first | exact ⟨i + 1, st, SN, TD, by omega, by omega, by go_num, H9, HFN⟩ | ((repeat apply Exists.intro); exact ⟨⟨i + 1, st, SN, TD, by omega, by omega, by go_num, H9, HFN⟩, rfl⟩)
            case measure => simp [intOf]; omega
          · go_wp2_with (first | (go_at_call 13; refine (pickN_none w _ N (fullP 3) st P P P P _ HOA.out.net HOA.out.kept rfl rfl (by omega) (by omega) ev ho (full3_no P)).mono ?_; rintro e w3 ⟨rfl, h3⟩; unfold told; (try simp only [Bool.false_eq_true, if_false]); have H3 := Lib.hid (HOA.out.op h3); clear h3; obtain ⟨s1, s2⟩ := H3.out.facts0 HFN.out hP3) | (go_at_call 14; refine (openN_none w _ N (fullP 3) st P P P P _ H3.out.net rfl rfl (by omega) (by omega) (full3_no P)).mono ?_; rintro e w9 ⟨rfl, k9⟩; have H9 := Lib.hid (H3.out.keep k9)))
            go_roundw
            case rel => first | exact ⟨i + 1, st, SN, TD, by omega, by omega, by go_num, H9, HFN⟩ | ((repeat apply Exists.intro); exact ⟨⟨i + 1, st, SN, TD, by omega, by omega, by go_num, H9, HFN⟩, rfl⟩)
            case measure => simp [intOf]; omega
      · have hne : ¬ (P : Int) = (R : Int) := by omega
        have hBD := HF.out.bd P R hP3 hR3
        have HBD := Lib.hid hBD
        have hok : SesOk (st P R) := HO.out.net.sesOk (by omega) (by omega) (full3 hP3 hR3 hPR)
        have HOK := Lib.hid hok
        clear hBD hok
        rcases Decidable.em (k3 = 0) with h0 | h0
        · subst h0
          obtain ⟨r, hr, hr26⟩ : ∃ r : Nat, (i : Int).tmod 26 = (r : Int) ∧ r < 26 := ⟨i % 26, rfl, by omega⟩
          have hcv := conv_chB (wr.alloc (.cells #[.int .i64 kd, .int .i64 ao, .int .i64 bo, .int .i64 ato, .int .i64 ho, .string to] 29)) r
          rw [World.size_alloc] at hcv
          rcases Decidable.em ((st P R).T.length - (st P R).lo < 8) with h8 | h8
          · have hse : sendE (st P R) = 0 := by simp [sendE, h8]
            have HSE := Lib.hid hse
            have hss : sendS (st P R) (chB (97 + r)) = ⟨(st P R).T ++ [chB (97 + r)], (st P R).lo, (st P R).way ++ [(st P R).T.length]⟩ := by simp [sendS, h8]
            have HFN : Hid (Fit3 (i + 1) (setS st P R (sendS (st P R) (chB (97 + r)))) (updF SN P R (SN P R ++ [UInt8.ofNat (97 + r)])) TD) := by
              have := HF.out.step (a := P) (b := R) hPR (x := sendS (st P R) (chB (97 + r))) (sn := SN P R ++ [UInt8.ofNat (97 + r)]) (td := TD P R) (by rw [hss, List.map_append, ← HF.out.T P R hP3 hR3]; rfl) (by
                rw [hss, HF.out.td P R hP3 hR3]
                have h1 := congrArg List.length (HF.out.T P R hP3 hR3)
                rw [List.length_map] at h1
                rw [List.take_append_of_le_length (by have := HBD.out.lo; simp only; omega)]) (HBD.out.send _)
              rwa [updF_id] at this
            clear hse hss
            go_wp2_with (first | (go_at_call 11; refine (sendN w _ N (fullP 3) st P R P R _ (HOB _).out.net (HOB _).out.kept rfl rfl (by omega) (by omega) (chB (97 + r)) (full3 hP3 hR3 hPR) HTT.out.1 HTT.out.2).mono ?_; rintro e w3 ⟨rfl, h3⟩; rw [HSE.out]; have H3 := Lib.hid ((HOB _).out.op h3); clear h3))
            have c1 := H3.out.sent P R hP3 hR3
            obtain ⟨sx0, hsx⟩ : ∃ sx0, txt (SN P R) = sx0 := ⟨_, rfl⟩
            have HSX := Lib.hid hsx
            rw [hsx] at c1
            have hq1 := H3.out.l1
            clear hsx
            have hbig : ¬ 9223372036854775807 < sx0.size + (chB (97 + r)).size := by
              have h1 := (HF.out.check hP3 hR3).2.2.2.1
              rw [← HSX.out, chB_one, one, txt_size, txt_size]
              simp
              omega
            refine wp_region_text keepsOne (fun wB => Kept w3 wB ∧ wB.cell? ⟨Q1, P * 3 + R, none⟩ = some (.string sx0)) ?_ (by kernel_rfl) (by kernel_rfl) _ (by (try simp only [List.append_eq, List.cons_append, List.nil_append, List.toList_toArray]); exact rfl) ?_
            · exact ⟨by repeat (first | exact Kept.refl _ | assumption | (refine Kept.alloc ?_ _) | (refine Kept.setCell ?_ (by first | omega | (simp; omega) | simp) _) | refine Kept.drew ?_ | refine Kept.drewN ?_ _ | (apply Kept.call; rotate_left; assumption)), by first | assumption | go_simp⟩
            rintro wB ⟨hkB, sB1⟩
            repeat (first | (apply DW.det; (focus (intro wd hI; have td1 := hI.at_ sB1; skip; go_wp2_with fail; refine StepPost.mk _ rfl ⟨rfl, ?_⟩; repeat (first | exact Kept.refl _ | assumption | (refine Kept.alloc ?_ _) | (refine Kept.setCell ?_ (by first | omega | (simp; omega) | simp) _) | refine Kept.drew ?_ | refine Kept.drewN ?_ _ | (apply Kept.call; rotate_left; assumption)))); simp only [Act.put, List.setIfInBounds_toArray, List.set_cons_succ, List.set_cons_zero]) | (refine DW.loud (by kernel_rfl) ?_; intro wd hI; have td1 := hI.at_ sB1; skip; go_wp2_with fail; refine StepPost.loud _ rfl (by repeat (first | exact Kept.refl _ | assumption | (refine Kept.alloc ?_ _) | (refine Kept.setCell ?_ (by first | omega | (simp; omega) | simp) _) | refine Kept.drew ?_ | refine Kept.drewN ?_ _ | (apply Kept.call; rotate_left; assumption))) (fun hkL => ?_); have hkL := hI.call hkL; have hkB := hkB.call hkL; have sB1 := hkL.at_ sB1; simp only [Act.put, List.setIfInBounds_toArray, List.set_cons_succ, List.set_cons_zero]))
            refine DW.tail (by kernel_rfl) ?_
            intro wd hI
            have hkd := hkB.call hI
            have td1 := hI.at_ sB1
            have H4 := Lib.hid (H3.out.keep hkd)
            have y2 := H4.out.f1 (P * 3 + R)
            have hap : sx0 ++ chB (97 + r) = txt (SN P R ++ [UInt8.ofNat (97 + r)]) := by rw [← HSX.out, chB_one]; exact txt_app _ _
            obtain ⟨sz, hz⟩ : ∃ sz, sx0 ++ chB (97 + r) = sz := ⟨_, rfl⟩
            have H5 : Hid (Ord w N Q1 Q2 (wd.setCell ⟨Q1, P * 3 + R, none⟩ (.string sz)) (setS st P R (sendS (st P R) (chB (97 + r)))) (updF SN P R (SN P R ++ [UInt8.ofNat (97 + r)])) TD) := by rw [← hz, hap]; exact H4.out.set1 hP3 hR3 _
            obtain ⟨sx, sy, n1, n2, s1, s2, g1, g2, g3, g4, g5, g6, g7, g8⟩ := H5.out.facts HFN.out (by omega) hP3 hR3; have G7 := Lib.hid g7; have G8 := Lib.hid g8; clear g7 g8
            have hxz : sx = sz := by
              have h := s1
              rw [World.cell?_setCell_same _ _ _ (H4.out.sent P R hP3 hR3)] at h
              injection h with h
              injection h with h
              exact h.symm
            subst hxz
            clear hap
            go_wp2_with (first | (go_at_call 14; refine (openN w _ N (fullP 3) _ P R P R _ H5.out.net rfl rfl (by omega) (by omega) (full3 hP3 hR3 hPR) (by have := (HFN.out.bd P R hP3 hR3).T; omega)).mono ?_; rintro e w9 ⟨rfl, k9⟩; rw [G7.out, G8.out]; have H9 := Lib.hid (H5.out.keep k9)))
            go_roundw
            case rel => first | exact ⟨i + 1, _, _, _, by omega, by omega, by go_num, H9, HFN⟩ | ((repeat apply Exists.intro); exact ⟨⟨i + 1, _, _, _, by omega, by omega, by go_num, H9, HFN⟩, rfl⟩)
            case measure => simp [intOf]; omega
          · have hse : sendE (st P R) = 15 := by simp [sendE, h8]
            have HSE := Lib.hid hse
            have HFN : Hid (Fit3 (i + 1) (setS st P R (sendS (st P R) (chB (97 + r)))) SN TD) := HF.out.same hP3 hR3 hPR (by simp [sendS, h8]) (by simp [sendS, h8]) (HBD.out.send _)
            clear hse
            go_wp2_with (first | (go_at_call 11; refine (sendN w _ N (fullP 3) st P R P R _ (HOB _).out.net (HOB _).out.kept rfl rfl (by omega) (by omega) (chB (97 + r)) (full3 hP3 hR3 hPR) HTT.out.1 HTT.out.2).mono ?_; rintro e w3 ⟨rfl, h3⟩; rw [HSE.out]; have H3 := Lib.hid ((HOB _).out.op h3); clear h3; obtain ⟨sx, sy, n1, n2, s1, s2, g1, g2, g3, g4, g5, g6, g7, g8⟩ := H3.out.facts HFN.out (by omega) hP3 hR3; have G7 := Lib.hid g7; have G8 := Lib.hid g8; clear g7 g8) | (go_at_call 14; refine (openN w _ N (fullP 3) _ P R P R _ H3.out.net rfl rfl (by omega) (by omega) (full3 hP3 hR3 hPR) (by have := (HFN.out.bd P R hP3 hR3).T; omega)).mono ?_; rintro e w9 ⟨rfl, k9⟩; rw [G7.out, G8.out]; have H9 := Lib.hid (H3.out.keep k9)))
            go_roundw
            case rel => first | exact ⟨i + 1, _, _, _, by omega, by omega, by go_num, H9, HFN⟩ | ((repeat apply Exists.intro); exact ⟨⟨i + 1, _, _, _, by omega, by omega, by go_num, H9, HFN⟩, rfl⟩)
            case measure => simp [intOf]; omega
        · rcases Decidable.em (k3 = 3) with h3' | h3'
          · subst h3'
            have HFN : Hid (Fit3 (i + 1) (setS st P R (agS (st P R))) SN TD) := HF.out.same hP3 hR3 hPR rfl rfl (HBD.out.ag.mono (by omega))
            go_wp2_with (first | (go_at_call 12; refine (againN w _ N (fullP 3) st P R P R _ HOA.out.net HOA.out.kept rfl rfl (by omega) (by omega) (full3 hP3 hR3 hPR) HTT.out.1 HTT.out.2).mono ?_; rintro e w3 ⟨rfl, h3⟩; have H3 := Lib.hid (HOA.out.op h3); clear h3; obtain ⟨sx, sy, n1, n2, s1, s2, g1, g2, g3, g4, g5, g6, g7, g8⟩ := H3.out.facts HFN.out (by omega) hP3 hR3; have G7 := Lib.hid g7; have G8 := Lib.hid g8; clear g7 g8) | (go_at_call 14; refine (openN w _ N (fullP 3) _ P R P R _ H3.out.net rfl rfl (by omega) (by omega) (full3 hP3 hR3 hPR) (by have := (HFN.out.bd P R hP3 hR3).T; omega)).mono ?_; rintro e w9 ⟨rfl, k9⟩; rw [G7.out, G8.out]; have H9 := Lib.hid (H3.out.keep k9)))
            go_roundw
            case rel => first | exact ⟨i + 1, _, _, _, by omega, by omega, by go_num, H9, HFN⟩ | ((repeat apply Exists.intro); exact ⟨⟨i + 1, _, _, _, by omega, by omega, by go_num, H9, HFN⟩, rfl⟩)
            case measure => simp [intOf]; omega
          · obtain ⟨hb3, hhb⟩ : ∃ hb3, bits .and .i64 ho 3 = hb3 := ⟨_, rfl⟩
            have HHB := Lib.hid hhb
            clear hhb
            have hpick : (pickB (st P R) ev hb3 = false) ∨ (pickB (st P R) ev hb3 = true) := by cases pickB (st P R) ev hb3 <;> simp
            rcases hpick with hpb | hpb
            · have HPB := Lib.hid hpb
              obtain ⟨q1, q2⟩ := pick_same hpb
              have HFN : Hid (Fit3 (i + 1) (setS st P R (pickS (st P R) ev hb3)) SN TD) := HF.out.same hP3 hR3 hPR q1 q2 ((HBD.out.pick HOK.out _ _).mono (by omega))
              clear q1 q2 hpb
              go_wp2_with (first | (go_at_call 13; refine (pickN w _ N (fullP 3) st P R P R _ HOA.out.net HOA.out.kept rfl rfl (by omega) (by omega) ev ho (full3 hP3 hR3 hPR) HTT.out.1 HTT.out.2).mono ?_; rintro e w3 ⟨rfl, h3⟩; rw [HHB.out] at h3; rw [HHB.out, HPB.out]; unfold told; (try simp only [Bool.false_eq_true, if_false]); have H3 := Lib.hid (HOA.out.op h3); clear h3; obtain ⟨sx, sy, n1, n2, s1, s2, g1, g2, g3, g4, g5, g6, g7, g8⟩ := H3.out.facts HFN.out (by omega) hP3 hR3; have G7 := Lib.hid g7; have G8 := Lib.hid g8; clear g7 g8) | (go_at_call 14; refine (openN w _ N (fullP 3) _ P R P R _ H3.out.net rfl rfl (by omega) (by omega) (full3 hP3 hR3 hPR) (by have := (HFN.out.bd P R hP3 hR3).T; omega)).mono ?_; rintro e w9 ⟨rfl, k9⟩; rw [G7.out, G8.out]; have H9 := Lib.hid (H3.out.keep k9)))
              go_roundw
              case rel => first | exact ⟨i + 1, _, _, _, by omega, by omega, by go_num, H9, HFN⟩ | ((repeat apply Exists.intro); exact ⟨⟨i + 1, _, _, _, by omega, by omega, by go_num, H9, HFN⟩, rfl⟩)
              case measure => simp [intOf]; omega
            · have HPB := Lib.hid hpb
              obtain ⟨q1, q2, q3⟩ := pick_told HOK.out hpb
              obtain ⟨cc, q4, q5⟩ := HF.out.more hP3 hR3 q3
              have Q4 := Lib.hid q4
              have HFN : Hid (Fit3 (i + 1) (setS st P R (pickS (st P R) ev hb3)) SN (updF TD P R (TD P R ++ [cc]))) := by
                have := HF.out.step (a := P) (b := R) hPR (x := pickS (st P R) ev hb3) (sn := SN P R) (td := TD P R ++ [cc]) (by rw [q1, HF.out.T P R hP3 hR3]) (by rw [q2, q5]) ((HBD.out.pick HOK.out _ _).mono (by omega))
                rwa [updF_id] at this
              clear q1 q2 q3 q4 q5 hpb
              go_wp2_with (first | (go_at_call 13; refine (pickN w _ N (fullP 3) st P R P R _ HOA.out.net HOA.out.kept rfl rfl (by omega) (by omega) ev ho (full3 hP3 hR3 hPR) HTT.out.1 HTT.out.2).mono ?_; rintro e w3 ⟨rfl, h3⟩; rw [HHB.out] at h3; rw [HHB.out, HPB.out, Q4.out]; unfold told; (try simp only [if_true]); have H3 := Lib.hid (HOA.out.op h3); clear h3))
              have c1 := H3.out.told P R hP3 hR3
              obtain ⟨sx0, hsx⟩ : ∃ sx0, txt (TD P R) = sx0 := ⟨_, rfl⟩
              have HSX := Lib.hid hsx
              rw [hsx] at c1
              have hq2 := H3.out.l2
              clear hsx
              have hbig : ¬ 9223372036854775807 < sx0.size + (one cc).size := by
                have h1 := (HF.out.check hP3 hR3).2.2.2.1
                have h2 := (HF.out.check hP3 hR3).2.2.1
                rw [← HSX.out, one, txt_size, txt_size]
                simp
                omega
              refine wp_region_text keepsOne (fun wB => Kept w3 wB ∧ wB.cell? ⟨Q2, P * 3 + R, none⟩ = some (.string sx0)) ?_ (by kernel_rfl) (by kernel_rfl) _ (by (try simp only [List.append_eq, List.cons_append, List.nil_append, List.toList_toArray]); exact rfl) ?_
              · exact ⟨by repeat (first | exact Kept.refl _ | assumption | (refine Kept.alloc ?_ _) | (refine Kept.setCell ?_ (by first | omega | (simp; omega) | simp) _) | refine Kept.drew ?_ | refine Kept.drewN ?_ _ | (apply Kept.call; rotate_left; assumption)), by first | assumption | go_simp⟩
              rintro wB ⟨hkB, sB1⟩
              repeat (first | (apply DW.det; (focus (intro wd hI; have td1 := hI.at_ sB1; skip; go_wp2_with fail; refine StepPost.mk _ rfl ⟨rfl, ?_⟩; repeat (first | exact Kept.refl _ | assumption | (refine Kept.alloc ?_ _) | (refine Kept.setCell ?_ (by first | omega | (simp; omega) | simp) _) | refine Kept.drew ?_ | refine Kept.drewN ?_ _ | (apply Kept.call; rotate_left; assumption)))); simp only [Act.put, List.setIfInBounds_toArray, List.set_cons_succ, List.set_cons_zero]) | (refine DW.loud (by kernel_rfl) ?_; intro wd hI; have td1 := hI.at_ sB1; skip; go_wp2_with fail; refine StepPost.loud _ rfl (by repeat (first | exact Kept.refl _ | assumption | (refine Kept.alloc ?_ _) | (refine Kept.setCell ?_ (by first | omega | (simp; omega) | simp) _) | refine Kept.drew ?_ | refine Kept.drewN ?_ _ | (apply Kept.call; rotate_left; assumption))) (fun hkL => ?_); have hkL := hI.call hkL; have hkB := hkB.call hkL; have sB1 := hkL.at_ sB1; simp only [Act.put, List.setIfInBounds_toArray, List.set_cons_succ, List.set_cons_zero]))
              refine DW.tail (by kernel_rfl) ?_
              intro wd hI
              have hkd := hkB.call hI
              have td1 := hI.at_ sB1
              have H4 := Lib.hid (H3.out.keep hkd)
              have y2 := H4.out.f2 (P * 3 + R)
              have hap : sx0 ++ one cc = txt (TD P R ++ [cc]) := by rw [← HSX.out]; exact txt_app _ _
              obtain ⟨sz, hz⟩ : ∃ sz, sx0 ++ one cc = sz := ⟨_, rfl⟩
              have H5 : Hid (Ord w N Q1 Q2 (wd.setCell ⟨Q2, P * 3 + R, none⟩ (.string sz)) (setS st P R (pickS (st P R) ev hb3)) SN (updF TD P R (TD P R ++ [cc]))) := by rw [← hz, hap]; exact H4.out.set2 hP3 hR3 _
              obtain ⟨sx, sy, n1, n2, s1, s2, g1, g2, g3, g4, g5, g6, g7, g8⟩ := H5.out.facts HFN.out (by omega) hP3 hR3; have G7 := Lib.hid g7; have G8 := Lib.hid g8; clear g7 g8
              have hxz : sy = sz := by
                have h := s2
                rw [World.cell?_setCell_same _ _ _ (H4.out.told P R hP3 hR3)] at h
                injection h with h
                injection h with h
                exact h.symm
              subst hxz
              clear hap
              go_wp2_with (first | (go_at_call 14; refine (openN w _ N (fullP 3) _ P R P R _ H5.out.net rfl rfl (by omega) (by omega) (full3 hP3 hR3 hPR) (by have := (HFN.out.bd P R hP3 hR3).T; omega)).mono ?_; rintro e w9 ⟨rfl, k9⟩; rw [G7.out, G8.out]; have H9 := Lib.hid (H5.out.keep k9)))
              go_roundw
              case rel => first | exact ⟨i + 1, _, _, _, by omega, by omega, by go_num, H9, HFN⟩ | ((repeat apply Exists.intro); exact ⟨⟨i + 1, _, _, _, by omega, by omega, by go_num, H9, HFN⟩, rfl⟩)
              case measure => simp [intOf]; omega
    · have hcase : decide ((i : Int) < n) = false ∨ (decide ((i : Int) < n) = true ∧ decide ((i : Int) < 60) = false) := by
        by_cases h : i < n
        · exact .inr ⟨by simp; omega, by simp; omega⟩
        · exact .inl (by simp; omega)
      rcases hcase with e1 | ⟨e1, e2⟩
      all_goals
        (go_wp2_with fail
         all_goals (go_ret; exact ⟨rfl, HO.out.kept⟩))
end Go.Proofs.Ytbofoafcglmboaa
