/- The walk of the law MarkSafe: it returns true for every script. -/
import Derived.Test.YtbofgpmbocjbiaaMrkR
import Derived.Test.YtbofgpmbocjbiaaTreeN
import Derived.Outline
set_option linter.unusedSimpArgs false
set_option linter.unusedVariables false
namespace Go.Proofs.Ytbofgpmbocjbiaa
open Go.RowKit Go.Maps
set_option maxHeartbeats 4000000 in
set_option maxRecDepth 20000 in
theorem markSafe_walk (A1 : Option Addr) (m1 c1 : Nat) (x : Nat → Int) (A : Option Addr) (n c : Nat) (xs : Nat → OpV) (w : World) (r : RowAt w A1 m1 c1 1 (fun i => [.int .i64 (x i)])) (_r2 : ∀ i, i < m1 → (Lit.int .i64 (x i)).wf = true) (hr : RowAt w A n c 5 (fun i => opCells (xs i))) (hx : ∀ i, i < n → OpOk (xs i)) :
    Calls Try.prog 3 #[.slice A1 m1 c1, .slice A n c] w fun e w' => e = .returned (.bool true) ∧ Kept w w' := by
  have hl := IntsAt.of_row r
  generalize (List.range m1).map x = l at hl
  have HL := Lib.hid hl
  have HR := Lib.hid hr
  have hnc := hr.1
  have hcm := hr.2.1
  unfold maxLen at hcm
  clear hr hx hl r _r2
  go_enter Try.func3, Try.ntmps3
  go_wp2_with (first | (go_at_call 8; refine (awake_any _).mono ?_; rintro e w1 ⟨rfl, k1⟩) | (go_at_call 9; refine (made_any A1 m1 c1 l _ (HL.out.keep k1)).mono ?_; rintro e w2 ⟨p, g, N, cp, rfl, hia, ht, hN, hg, k2⟩; have HIA := Lib.hid hia; have HT := Lib.hid ht; have HN := Lib.hid hN; clear hia ht hN) | (go_at_call 10; refine (newM _ N cp p w2 _ HIA.out HT.out (Kept.refl _)).mono ?_; rintro e w3 ⟨D, rfl, h3, _, _⟩; have H3 := Lib.hid h3; clear h3))
  have hN6 : N ≤ 6 := by have := H3.out.dr.bd.2.2; have := HN.out; omega
  have hN1 : 1 ≤ N := by have := H3.out.dr.bd.2.1; have := HN.out; omega
  have KW2 : Hid (Kept w w2) := k1.call k2
  clear k1 k2 hg
  go_loopw [9] (fun iv wr => ∃ (i : Nat) (st : DSt), i ≤ n ∧ i ≤ 60 ∧ iv = .int .i64 i ∧ Hid (MK w2 [] wr D p st)) (fun iv _ => 60 - (intOf iv).toNat)
  case atStart => exact ⟨0, dst0, by omega, by omega, rfl, H3⟩
  case round =>
    clear H3
    obtain ⟨i, st, hi, hi60, rfl, HM⟩ := hrel
    by_cases hgo : i < n ∧ i < 60
    · have e1 : decide ((i : Int) < n) = true := by simp; omega
      have e2 : decide ((i : Int) < 60) = true := by simp; omega
      have KW : Hid (Kept w wr) := KW2.out.call HM.out.kept
      obtain ⟨b, off, rfl, hbl, hc⟩ := ops_at HR.out (by omega)
      obtain ⟨z0, z1, z2, z3, z4⟩ := hc i hgo.1
      have z0 := KW.out.at_ z0
      have z1 := KW.out.at_ z1
      have z2 := KW.out.at_ z2
      have z3 := KW.out.at_ z3
      have z4 := KW.out.at_ z4
      have hbw : b < wr.heap.size := World.block_lt_of_cell? wr _ z0
      clear hc
      generalize (xs i).kind = kd at *
      generalize (xs i).a = ao at *
      generalize (xs i).b = bo at *
      generalize (xs i).stops = so at *
      generalize (xs i).text = to at *
      have hk7 := and_bd kd 7 (by omega) (by omega)
      obtain ⟨k7, hkd⟩ : ∃ k7 : Int, bits .and .i64 kd 7 = k7 := ⟨_, rfl⟩
      obtain ⟨av, hav, hav2⟩ := site_is ao N hN1
      obtain ⟨bv, hbv, hbv2⟩ := site_is bo N hN1
      have hA := tmod_bd ao N (by omega)
      have hB := tmod_bd bo N (by omega)
      have hne0 : ((N : Int) == 0) = false := by simp; omega
      have HM2 : Hid (MK w2 [] (wr.alloc (.cells #[.int .i64 kd, .int .i64 ao, .int .i64 bo, .bool so, .string to] 29)) D p st) := HM.out.keep ((Kept.refl wr).alloc _)
      rcases Decidable.em (k7 = 4) with h4 | h4
      · subst h4
        cases so
        · go_wp2_with fail
          go_roundw
          case rel => first | exact ⟨i + 1, st, by omega, by omega, by go_num, HM2⟩ | ((repeat apply Exists.intro); exact ⟨⟨i + 1, st, by omega, by omega, by go_num, HM2⟩, rfl⟩)
          case measure => simp [intOf]; omega
        · go_wp2_with (go_at_call 11; refine (stopM HM2.out (gdn hav2 hN6)).mono ?_; rintro e w5 ⟨rfl, h5, _⟩; have H5 := Lib.hid h5; clear h5 HM2)
          go_roundw
          case rel => first | exact ⟨i + 1, _, by omega, by omega, by go_num, H5⟩ | ((repeat apply Exists.intro); exact ⟨⟨i + 1, _, by omega, by omega, by go_num, H5⟩, rfl⟩)
          case measure => simp [intOf]; omega
      · by_cases h57 : k7 = 5 ∨ k7 = 6 ∨ k7 = 7
        · rcases hd : doneB p st (bv : Nat) with _ | _
          · have HDN := Lib.hid hd
            obtain ⟨sx, mx, ix, hpv, _⟩ := pickV_is st (av : Nat) (bv : Nat)
            have HPV := Lib.hid hpv
            clear hd hpv
            rcases h57 with rfl | rfl | rfl
            all_goals
              (skip
               go_wp2_with (first | (go_at_call 12; refine (done_any w2 [] D p st _ _ HM2.out.dr (gdn hbv2 hN6)).mono ?_; rintro e w5 ⟨rfl, k5⟩; rw [HDN.out]; have H5 := Lib.hid (HM2.out.keep k5); clear HM2) | (go_at_call 13; refine (pickM H5.out (gdn hav2 hN6) (gdn hbv2 hN6)).mono ?_; rintro e w6 ⟨rfl, h6, _⟩; rw [HPV.out]; have H6 := Lib.hid h6; clear h6 H5))
               all_goals go_roundw
               all_goals try (case rel => first | exact ⟨i + 1, _, by omega, by omega, by go_num, H6⟩ | ((repeat apply Exists.intro); exact ⟨⟨i + 1, _, by omega, by omega, by go_num, H6⟩, rfl⟩))
               all_goals try (case measure => simp [intOf]; omega)
              )
          · have hemp := HM.out.mi.done HM.out.tree (a := (av : Nat)) (b := (bv : Nat)) hd
            have HDN := Lib.hid hd
            obtain ⟨sx, mx, ix, hpv, hix⟩ := pickV_is st (av : Nat) (bv : Nat)
            obtain rfl := hix hemp
            have HPV := Lib.hid hpv
            clear hd hpv hemp hix
            rcases h57 with rfl | rfl | rfl
            all_goals
              (skip
               go_wp2_with (first | (go_at_call 12; refine (done_any w2 [] D p st _ _ HM2.out.dr (gdn hbv2 hN6)).mono ?_; rintro e w5 ⟨rfl, k5⟩; rw [HDN.out]; have H5 := Lib.hid (HM2.out.keep k5); clear HM2) | (go_at_call 13; refine (pickM H5.out (gdn hav2 hN6) (gdn hbv2 hN6)).mono ?_; rintro e w6 ⟨rfl, h6, _⟩; rw [HPV.out]; have H6 := Lib.hid h6; clear h6 H5))
               all_goals go_roundw
               all_goals try (case rel => first | exact ⟨i + 1, _, by omega, by omega, by go_num, H6⟩ | ((repeat apply Exists.intro); exact ⟨⟨i + 1, _, by omega, by omega, by go_num, H6⟩, rfl⟩))
               all_goals try (case measure => simp [intOf]; omega)
              )
        · have q5 : (k7 == 5) = false := by simp; omega
          have q6 : (k7 == 6) = false := by simp; omega
          have q7 : (k7 == 7) = false := by simp; omega
          have q4 : (k7 == 4) = false := by simp; omega
          have y4 : (wr.alloc (.cells #[.int .i64 kd, .int .i64 ao, .int .i64 bo, .bool so, .string to] 29)).cell? ⟨wr.heap.size, 4, none⟩ = some (.string to) := by go_simp
          obtain ⟨rv, hrv⟩ : ∃ rv, sendR p st (av : Nat) (bv : Nat) = rv := ⟨_, rfl⟩
          have HRV := Lib.hid hrv
          by_cases hr0 : rv = 0
          · subst hr0
            obtain ⟨hnb, hS, _⟩ := sendR_ok hrv
            have hsd : Hid (doneB p (sendD p st (av : Nat) (bv : Nat) to) (bv : Nat) = false) := HM.out.mi.sendDone HM.out.tree hrv
            have HSS : Hid ((inB p.length (av : Nat) && st.S (av : Nat)) = false) := by unfold Hid; rw [hS]; simp
            clear hrv hnb hS h57 h4
            go_wp2_with (first | (go_at_call 14; refine (stopped_any w2 [] D p st _ _ HM2.out.dr (gdn hav2 hN6)).mono ?_; rintro e w5 ⟨rfl, k5⟩; rw [HSS.out]; have y4 := k5.at_ y4; have H5 := Lib.hid (HM2.out.keep k5); clear HM2) | (go_at_call 15; refine (sendM H5.out (gdn hav2 hN6) (gdn hbv2 hN6) to).mono ?_; rintro e w6 ⟨rfl, h6, _⟩; rw [HRV.out]; have H6 := Lib.hid h6; clear h6 H5) | (go_at_call 12; refine (done_any w2 [] D p _ _ _ H6.out.dr (gdn hbv2 hN6)).mono ?_; rintro e w7 ⟨rfl, k7⟩; rw [hsd.out]; have H7 := Lib.hid (H6.out.keep k7)))
            go_roundw
            case rel => first | exact ⟨i + 1, _, by omega, by omega, by go_num, H7⟩ | ((repeat apply Exists.intro); exact ⟨⟨i + 1, _, by omega, by omega, by go_num, H7⟩, rfl⟩)
            case measure => simp [intOf]; omega
          · have qr : (rv == 0) = false := by simpa using hr0
            obtain ⟨sv, hsv⟩ : ∃ sv, (inB p.length (av : Nat) && st.S (av : Nat)) = sv := ⟨_, rfl⟩
            have HSS := Lib.hid hsv
            clear hrv hr0 h57 h4 hsv
            cases sv
            all_goals
              (go_wp2_with (first | (go_at_call 14; refine (stopped_any w2 [] D p st _ _ HM2.out.dr (gdn hav2 hN6)).mono ?_; rintro e w5 ⟨rfl, k5⟩; rw [HSS.out]; have y4 := k5.at_ y4; have H5 := Lib.hid (HM2.out.keep k5); clear HM2) | (go_at_call 15; refine (sendM H5.out (gdn hav2 hN6) (gdn hbv2 hN6) to).mono ?_; rintro e w6 ⟨rfl, h6, _⟩; rw [HRV.out]; have H6 := Lib.hid h6; clear h6 H5))
               go_roundw
               case rel => first | exact ⟨i + 1, _, by omega, by omega, by go_num, H6⟩ | ((repeat apply Exists.intro); exact ⟨⟨i + 1, _, by omega, by omega, by go_num, H6⟩, rfl⟩)
               case measure => simp [intOf]; omega)
    · have hcase : decide ((i : Int) < n) = false ∨ (decide ((i : Int) < n) = true ∧ decide ((i : Int) < 60) = false) := by
        by_cases h : i < n
        · exact .inr ⟨by simp; omega, by simp; omega⟩
        · exact .inl (by simp; omega)
      rcases hcase with e1 | ⟨e1, e2⟩
      all_goals
        (go_wp2_with fail
         all_goals
           (skip
            go_loopw [19] (fun sv wr => ∃ s : Nat, s ≤ N ∧ sv = .int .i64 s ∧ Hid (MK w2 [] wr D p st)) (fun sv _ => N - (intOf sv).toNat)
            case atStart => exact ⟨0, by omega, rfl, HM⟩
            case round =>
              clear HM
              obtain ⟨s, hs, rfl, HM⟩ := hrel
              by_cases hsN : s < N
              · have d1 : decide ((s : Int) < N) = true := by simp; omega
                go_wp2_with (go_at_call 16; refine (rnear _ N cp p _ _ (HIA.out.keep HM.out.kept)).mono ?_; rintro e w5 ⟨A5, c5, rfl, h5, k5⟩; have H5 := Lib.hid h5; have HM5 := Lib.hid (HM.out.keep k5); clear h5)
                have hnl := near_len HT.out (s : Nat)
                obtain ⟨q, hq⟩ : ∃ q, nearOf p (s : Nat) = q := ⟨_, rfl⟩
                have HQ := Lib.hid hq
                rw [hq] at H5 hnl ⊢
                obtain ⟨ql, hql⟩ : ∃ ql, q.length = ql := ⟨_, rfl⟩
                have HQL := Lib.hid hql
                rw [hql] at H5 hnl ⊢
                clear hq hql
                go_loopw [21] (fun kv wr => ∃ k : Nat, k ≤ ql ∧ kv = .int .i64 k ∧ Kept w5 wr) (fun kv _ => ql - (intOf kv).toNat)
                case atStart => exact ⟨0, by omega, rfl, Kept.refl _⟩
                case round =>
                  obtain ⟨k, hk, rfl, kr⟩ := hrel
                  by_cases hkl : k < ql
                  · have d2 : decide ((k : Int) < ql) = true := by simp; omega
                    obtain ⟨y, hy⟩ : ∃ y, q[k]? = some y := ⟨_, List.getElem?_eq_getElem (by rw [HQL.out]; exact hkl)⟩
                    obtain ⟨b', off, rfl, hc⟩ := H5.out.2.2.2.2 (by omega)
                    have cy : wr.cell? ⟨b', off + k, none⟩ = some (.int .i64 (y : Nat)) := kr.at_ (by
                      have := hc k hkl
                      rwa [ints_get hy] at this)
                    have hy6 : y ≤ 6 := by
                      have := near_six HT.out (a := (s : Nat)) (y := y) (by rw [HQ.out]; exact List.mem_of_getElem? hy)
                      omega
                    clear hc hy
                    rcases hd : doneB p st (s : Nat) with _ | _
                    · have HDN := Lib.hid hd
                      clear hd
                      go_wp2_with (go_at_call 12; refine (done_any w2 [] D p st _ _ (HM5.out.keep kr).dr (gdn hsN hN6)).mono ?_; rintro e w6 ⟨rfl, k6⟩; rw [HDN.out])
                      go_roundw
                      case rel => first | exact ⟨k + 1, by omega, by go_num, kr.call k6⟩ | ((repeat apply Exists.intro); exact ⟨⟨k + 1, by omega, by go_num, kr.call k6⟩, rfl⟩)
                      case measure => simp [intOf]; omega
                    · have hemp := HM5.out.mi.done HT.out (a := (y : Nat)) (b := (s : Nat)) hd
                      have HDN := Lib.hid hd
                      have HEM : Hid ((st.W ((y : Nat), (s : Nat))).length = 0) := by unfold Hid; rw [hemp]; rfl
                      clear hd hemp
                      go_wp2_with (first | (go_at_call 12; refine (done_any w2 [] D p st _ _ (HM5.out.keep kr).dr (gdn hsN hN6)).mono ?_; rintro e w6 ⟨rfl, k6⟩; rw [HDN.out]; have cy := k6.at_ cy) | (go_at_call 17; refine (flying_any w2 [] D p st _ _ _ (HM5.out.keep (kr.call k6)).dr (gd_nat hy6) (gdn hsN hN6)).mono ?_; rintro e w7 ⟨rfl, k7⟩; rw [HEM.out]))
                      go_roundw
                      case rel => first | exact ⟨k + 1, by omega, by go_num, (kr.call k6).call k7⟩ | ((repeat apply Exists.intro); exact ⟨⟨k + 1, by omega, by go_num, (kr.call k6).call k7⟩, rfl⟩)
                      case measure => simp [intOf]; omega
                  · obtain rfl : k = ql := by omega
                    have d2 : decide ((k : Int) < k) = false := by simp
                    go_wp2_with fail
                    go_roundw
                    case rel => first | exact ⟨s + 1, by omega, by go_num, Lib.hid (HM5.out.keep kr)⟩ | ((repeat apply Exists.intro); exact ⟨⟨s + 1, by omega, by go_num, Lib.hid (HM5.out.keep kr)⟩, rfl⟩)
                    case measure => simp [intOf]; omega
              · obtain rfl : s = N := by omega
                have d1 : decide ((s : Int) < s) = false := by simp
                go_wp2_with fail
                go_ret
                exact ⟨rfl, KW2.out.call HM.out.kept⟩
           ))
end Go.Proofs.Ytbofgpmbocjbiaa
