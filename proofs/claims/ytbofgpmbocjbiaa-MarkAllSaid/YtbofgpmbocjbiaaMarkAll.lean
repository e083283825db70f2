/- The walk of the law MarkAll: it returns true for every script. -/
import Derived.Test.YtbofgpmbocjbiaaMrkR
import Derived.Test.YtbofgpmbocjbiaaMrkS
set_option linter.unusedSimpArgs false
set_option linter.unusedVariables false
namespace Go.Proofs.Ytbofgpmbocjbiaa
open Go.RowKit Go.Maps
set_option maxHeartbeats 8000000 in
set_option maxRecDepth 20000 in
theorem markAll_walk (A1 : Option Addr) (m1 c1 : Nat) (x : Nat → Int) (A : Option Addr) (n c : Nat) (xs : Nat → OpV) (who : Int) (w : World) (r : RowAt w A1 m1 c1 1 (fun i => [.int .i64 (x i)])) (_r2 : ∀ i, i < m1 → (Lit.int .i64 (x i)).wf = true) (hr : RowAt w A n c 5 (fun i => opCells (xs i))) (hx : ∀ i, i < n → OpOk (xs i)) (_w : (Lit.int .i64 who).wf = true) :
    Calls Try.prog 6 #[.slice A1 m1 c1, .slice A n c, .int .i64 who] w fun e w' => e = .returned (.bool true) ∧ Kept w w' := by
  have hl := IntsAt.of_row r
  generalize (List.range m1).map x = l at hl
  have HL := Lib.hid hl
  have HR := Lib.hid hr
  have hnc := hr.1
  have hcm := hr.2.1
  unfold maxLen at hcm
  clear hr hx hl r _r2 _w
  go_enter Try.func6, Try.ntmps6
  go_wp2_with (first | (go_at_call 8; refine (awake_any _).mono ?_; rintro e w1 ⟨rfl, k1⟩) | (go_at_call 9; refine (made_any A1 m1 c1 l _ (HL.out.keep k1)).mono ?_; rintro e w2 ⟨p, g, N, cp, rfl, hia, ht, hN, hg, k2⟩; have HIA := Lib.hid hia; have HT := Lib.hid ht; have HN := Lib.hid hN; clear hia ht hN) | (go_at_call 10; refine (newM _ N cp p w2 _ HIA.out HT.out (Kept.refl _)).mono ?_; rintro e w3 ⟨D, rfl, h3, _, _⟩; have H3 := Lib.hid h3; clear h3))
  have hN6 : N ≤ 6 := by have := H3.out.dr.bd.2.2; have := HN.out; omega
  have hN1 : 1 ≤ N := by have := H3.out.dr.bd.2.1; have := HN.out; omega
  have KW2 : Hid (Kept w w2) := k1.call k2
  clear k1 k2 hg
  go_loopw [11] (fun iv wr => ∃ (i : Nat) (st : DSt), i ≤ n ∧ i ≤ 40 ∧ iv = .int .i64 i ∧ Hid (NS st) ∧ Hid (MK w2 [] wr D p st)) (fun iv _ => 40 - (intOf iv).toNat)
  case atStart => exact ⟨0, dst0, by omega, by omega, rfl, NS.zero, H3⟩
  case round =>
    clear H3
    obtain ⟨i, st, hi, hi40, rfl, HNS, HM⟩ := hrel
    by_cases hgo : i < n ∧ i < 40
    · have e1 : decide ((i : Int) < n) = true := by simp; omega
      have e2 : decide ((i : Int) < 40) = true := by simp; omega
      have KW : Hid (Kept w wr) := KW2.out.call HM.out.kept
      obtain ⟨b, off, rfl, hbl, hc⟩ := ops_at HR.out (by omega)
      obtain ⟨z0, z1, z2, z3, z4⟩ := hc i hgo.1
      have z0 := KW.out.at_ z0
      have z1 := KW.out.at_ z1
      have z2 := KW.out.at_ z2
      have z3 := KW.out.at_ z3
      have z4 := KW.out.at_ z4
      have hbw : b < wr.heap.size := World.block_lt_of_cell? wr _ z0
      clear hc
      generalize (xs i).kind = kd at *
      generalize (xs i).a = ao at *
      generalize (xs i).b = bo at *
      generalize (xs i).stops = so at *
      generalize (xs i).text = to at *
      have hk7 := and_bd kd 7 (by omega) (by omega)
      obtain ⟨k7, hkd⟩ : ∃ k7 : Int, bits .and .i64 kd 7 = k7 := ⟨_, rfl⟩
      obtain ⟨av, hav, hav2⟩ := site_is ao N hN1
      obtain ⟨bv, hbv, hbv2⟩ := site_is bo N hN1
      have hA := tmod_bd ao N (by omega)
      have hB := tmod_bd bo N (by omega)
      have hne0 : ((N : Int) == 0) = false := by simp; omega
      have HM2 : Hid (MK w2 [] (wr.alloc (.cells #[.int .i64 kd, .int .i64 ao, .int .i64 bo, .bool so, .string to] 29)) D p st) := HM.out.keep ((Kept.refl wr).alloc _)
      rcases Nat.lt_or_ge 4 k7.toNat with h4 | h4
      · have q4 : decide (4 < k7) = true := by simp; omega
        obtain ⟨sx, mx, ix, hpv, _⟩ := pickV_is st (av : Nat) (bv : Nat)
        have HPV := Lib.hid hpv
        have HN2 := Lib.hid (HNS.out.pick (ps := p) HM.out.mi (av : Nat) (bv : Nat))
        clear hpv
        go_wp2_with (go_at_call 13; refine (pickM HM2.out (gdn hav2 hN6) (gdn hbv2 hN6)).mono ?_; rintro e w6 ⟨rfl, h6, _⟩; rw [HPV.out]; have H6 := Lib.hid h6; clear h6 HM2)
        go_roundw
        case rel => first | exact ⟨i + 1, _, by omega, by omega, by go_num, HN2, H6⟩ | ((repeat apply Exists.intro); exact ⟨⟨i + 1, _, by omega, by omega, by go_num, HN2, H6⟩, rfl⟩)
        case measure => simp [intOf]; omega
      · have q4 : decide (4 < k7) = false := by simp; omega
        have HN2 := Lib.hid (HNS.out.send (ps := p) (av : Nat) (bv : Nat) to)
        go_wp2_with (go_at_call 15; refine (sendM HM2.out (gdn hav2 hN6) (gdn hbv2 hN6) to).mono ?_; rintro e w6 ⟨rfl, h6, _⟩; have H6 := Lib.hid h6; clear h6 HM2)
        go_roundw
        case rel => first | exact ⟨i + 1, _, by omega, by omega, by go_num, HN2, H6⟩ | ((repeat apply Exists.intro); exact ⟨⟨i + 1, _, by omega, by omega, by go_num, HN2, H6⟩, rfl⟩)
        case measure => simp [intOf]; omega
    · have hcase : decide ((i : Int) < n) = false ∨ (decide ((i : Int) < n) = true ∧ decide ((i : Int) < 40) = false) := by
        by_cases h : i < n
        · exact .inr ⟨by simp; omega, by simp; omega⟩
        · exact .inl (by simp; omega)
      obtain ⟨q, hq, hq2⟩ := site_is who N hN1
      have hQ := tmod_bd who N (by omega)
      have hne0 : ((N : Int) == 0) = false := by simp; omega
      have hqp : q < p.length := by rw [HN.out]; exact hq2
      have HFL : Hid (FL p (stopD p st (q : Nat)) 0) := FL.stop hqp
      have HR0 : Hid (stopR p st (q : Nat) = 0) := by
        unfold Hid stopR
        rw [(inB_iff _ _).2 ⟨by omega, by omega⟩, HNS.out]
        rfl
      rcases hcase with e1 | ⟨e1, e2⟩
      all_goals
        (go_wp2_with (go_at_call 11; refine (stopM HM.out (gdn hq2 hN6)).mono ?_; rintro e w4 ⟨rfl, h4, _⟩; rw [HR0.out]; have H4 := Lib.hid h4; clear h4 HM)
         all_goals
          (skip
           go_loopw [16] (fun rv wr => ∃ (r : Nat) (st : DSt), r ≤ 6 ∧ rv = .int .i64 r ∧ Hid (FL p st r) ∧ Hid (6 ≤ r → (∀ i, i < p.length → st.S (i : Int) = true) ∧ Fin6 p st) ∧ Hid (MK w2 [] wr D p st)) (fun rv _ => 6 - (intOf rv).toNat)
           case atStart => exact ⟨0, _, by omega, rfl, HFL, fun h => by omega, H4⟩
           case round =>
             clear HFL H4
             obtain ⟨r, st0, hr, rfl, HFL, HF6, HM⟩ := hrel
             by_cases hr6 : r < 6
             · have d1 : decide ((r : Int) < 6) = true := by simp; omega
               go_wp2_with fail
               go_loopw [17] (fun av wr => ∃ (a : Nat) (st : DSt), a ≤ N ∧ av = .int .i64 a ∧ Hid (Rd p st0 st a 0) ∧ Hid (MK w2 [] wr D p st)) (fun av _ => N - (intOf av).toNat)
               case atStart => exact ⟨0, st0, by omega, rfl, Rd.start st0, HM⟩
               case round =>
                 clear HM HF6
                 obtain ⟨a, st, ha, rfl, HRD, HM⟩ := hrel
                 by_cases haN : a < N
                 · have d2 : decide ((a : Int) < N) = true := by simp; omega
                   go_wp2_with fail
                   go_loopw [18] (fun bv wr => ∃ (b : Nat) (st : DSt), b ≤ N ∧ bv = .int .i64 b ∧ Hid (Rd p st0 st a b) ∧ Hid (MK w2 [] wr D p st)) (fun bv _ => N - (intOf bv).toNat)
                   case atStart => exact ⟨0, st, by omega, rfl, HRD, HM⟩
                   case round =>
                     clear HM HRD
                     obtain ⟨b, st, hb, rfl, HRD, HM⟩ := hrel
                     by_cases hbN : b < N
                     · have d3 : decide ((b : Int) < N) = true := by simp; omega
                       have hl0 := HM.out.mi.len ((a : Nat), (b : Nat))
                       go_wp2_with fail
                       go_loopw [19] (fun kv wr => ∃ (k : Nat) (st : DSt), k ≤ 33 ∧ kv = .int .i64 k ∧ (st.W ((a : Nat), (b : Nat))).length + k ≤ 33 ∧ Hid (Rd p st0 st a b) ∧ Hid (MK w2 [] wr D p st)) (fun kv _ => 40 - (intOf kv).toNat)
                       case atStart => exact ⟨0, st, by omega, rfl, by omega, HRD, HM⟩
                       case round =>
                         clear HM HRD hl0
                         obtain ⟨k, st, hk, rfl, hlk, HRD, HM⟩ := hrel
                         have d4 : decide ((k : Int) < 40) = true := by simp; omega
                         rcases hw : st.W ((a : Nat), (b : Nat)) with _ | ⟨t, q⟩
                         · have HN2 := Lib.hid (HRD.out.next HM.out.mi hw)
                           have HZ : Hid ((st.W ((a : Nat), (b : Nat))).length = 0) := by unfold Hid; rw [hw]; rfl
                           clear hw hlk
                           go_wp2_with (go_at_call 17; refine (flying_any w2 [] D p st _ _ _ HM.out.dr (gdn haN hN6) (gdn hbN hN6)).mono ?_; rintro e w5 ⟨rfl, k5⟩; rw [HZ.out]; have H5 := Lib.hid (HM.out.keep k5))
                           go_roundw
                           case rel => first | exact ⟨b + 1, st, by omega, by go_num, HN2, H5⟩ | ((repeat apply Exists.intro); exact ⟨⟨b + 1, st, by omega, by go_num, HN2, H5⟩, rfl⟩)
                           case measure => simp [intOf]; omega
                         · obtain ⟨L, hL⟩ : ∃ L, q.length = L := ⟨_, rfl⟩
                           have HZ : Hid ((st.W ((a : Nat), (b : Nat))).length = L + 1) := by unfold Hid; rw [hw, ← hL]; rfl
                           have HL2 : Hid (((pickD p st (a : Nat) (b : Nat)).W ((a : Nat), (b : Nat))).length = L) := by unfold Hid; rw [pick_less HM.out.mi HM.out.tree hw, hL]
                           have hlk2 : L + 1 + k ≤ 33 := by rw [← HZ.out]; exact hlk
                           have HL3 : Hid (((pickD p st (a : Nat) (b : Nat)).W ((a : Nat), (b : Nat))).length + (k + 1) ≤ 33) := by unfold Hid; rw [HL2.out]; omega
                           have HR2 := Lib.hid (HRD.out.pick (a : Nat) (b : Nat))
                           obtain ⟨sx, mx, ix, hpv, _⟩ := pickV_is st (a : Nat) (b : Nat)
                           have HPV := Lib.hid hpv
                           clear hw hL hlk hpv
                           go_wp2_with (first | (go_at_call 17; refine (flying_any w2 [] D p st _ _ _ HM.out.dr (gdn haN hN6) (gdn hbN hN6)).mono ?_; rintro e w5 ⟨rfl, k5⟩; rw [HZ.out]; have H5 := Lib.hid (HM.out.keep k5)) | (go_at_call 13; refine (pickM H5.out (gdn haN hN6) (gdn hbN hN6)).mono ?_; rintro e w6 ⟨rfl, h6, _⟩; rw [HPV.out]; have H6 := Lib.hid h6; clear h6 H5))
                           go_roundw
                           case rel => first | exact ⟨k + 1, _, by omega, by go_num, HL3.out, HR2, H6⟩ | ((repeat apply Exists.intro); exact ⟨⟨k + 1, _, by omega, by go_num, HL3.out, HR2, H6⟩, rfl⟩)
                           case measure => simp [intOf]; omega
                     · obtain rfl : b = N := by omega
                       have d3 : decide ((b : Int) < b) = false := by simp
                       have HN2 := Lib.hid (HRD.out.row HM.out.tree (by rw [HN.out]; exact Nat.le_refl _))
                       go_wp2_with fail
                       go_roundw
                       case rel => first | exact ⟨a + 1, st, by omega, by go_num, HN2, HM⟩ | ((repeat apply Exists.intro); exact ⟨⟨a + 1, st, by omega, by go_num, HN2, HM⟩, rfl⟩)
                       case measure => simp [intOf]; omega
                 · obtain rfl : a = N := by omega
                   have d2 : decide ((a : Int) < a) = false := by simp
                   have hrd := HRD.out
                   rw [← HN.out] at hrd
                   obtain ⟨f1, f2⟩ := HFL.out.round hrd HM.out.cs HM.out.tree
                   have F1 := Lib.hid f1
                   have F2 : Hid (6 ≤ r + 1 → (∀ i, i < p.length → st.S (i : Int) = true) ∧ Fin6 p st) := fun h6 => by
                     obtain rfl : r = 5 := by omega
                     have h5 := HFL.out.all HM.out.tree
                     exact ⟨fun i hi => hrd.up _ (h5 i hi), f2 h5⟩
                   clear hrd f1 f2
                   go_wp2_with fail
                   go_roundw
                   case rel => first | exact ⟨r + 1, st, by omega, by go_num, F1, F2, HM⟩ | ((repeat apply Exists.intro); exact ⟨⟨r + 1, st, by omega, by go_num, F1, F2, HM⟩, rfl⟩)
                   case measure => simp [intOf]; omega
             · obtain rfl : r = 6 := by omega
               have d1 : decide ((6 : Int) < 6) = false := by simp
               obtain ⟨f1, f2⟩ := HF6.out (Nat.le_refl _)
               obtain ⟨g1, g2, g3⟩ := f2.done HM.out.mi HM.out.ks HM.out.tree f1
               rw [HN.out] at g3
               have HW := Lib.hid g1
               have HALL := Lib.hid g2
               have HK2 := Lib.hid g3
               clear f1 f2 g1 g2 g3 HFL HF6
               go_wp2_with fail
               go_loopw [20] (fun av wr => ∃ a : Nat, a ≤ N ∧ av = .int .i64 a ∧ Hid (MK w2 [] wr D p st0)) (fun av _ => N - (intOf av).toNat)
               case atStart => exact ⟨0, by omega, rfl, HM⟩
               case round =>
                 clear HM
                 obtain ⟨a, ha, rfl, HM⟩ := hrel
                 by_cases haN : a < N
                 · have d2 : decide ((a : Int) < N) = true := by simp; omega
                   go_wp2_with fail
                   go_loopw [21] (fun bv wr => ∃ b : Nat, b ≤ N ∧ bv = .int .i64 b ∧ Hid (MK w2 [] wr D p st0)) (fun bv _ => N - (intOf bv).toNat)
                   case atStart => exact ⟨0, by omega, rfl, HM⟩
                   case round =>
                     clear HM
                     obtain ⟨b, hb, rfl, HM⟩ := hrel
                     by_cases hbN : b < N
                     · have d3 : decide ((b : Int) < N) = true := by simp; omega
                       have HZ : Hid ((st0.W ((a : Nat), (b : Nat))).length = 0) := by unfold Hid; rw [HW.out a b]; rfl
                       go_wp2_with (go_at_call 17; refine (flying_any w2 [] D p st0 _ _ _ HM.out.dr (gdn haN hN6) (gdn hbN hN6)).mono ?_; rintro e w5 ⟨rfl, k5⟩; rw [HZ.out]; have H5 := Lib.hid (HM.out.keep k5))
                       go_roundw
                       case rel => first | exact ⟨b + 1, by omega, by go_num, H5⟩ | ((repeat apply Exists.intro); exact ⟨⟨b + 1, by omega, by go_num, H5⟩, rfl⟩)
                       case measure => simp [intOf]; omega
                     · obtain rfl : b = N := by omega
                       have d3 : decide ((b : Int) < b) = false := by simp
                       go_wp2_with fail
                       go_roundw
                       case rel => first | exact ⟨a + 1, by omega, by go_num, HM⟩ | ((repeat apply Exists.intro); exact ⟨⟨a + 1, by omega, by go_num, HM⟩, rfl⟩)
                       case measure => simp [intOf]; omega
                 · obtain rfl : a = N := by omega
                   have d2 : decide ((a : Int) < a) = false := by simp
                   go_wp2_with (first | (go_at_call 23; refine (all_any w2 [] D p st0 _ HM.out.dr).mono ?_; rintro e w5 ⟨rfl, k5⟩; rw [HALL.out]; have H5 := Lib.hid (HM.out.keep k5)) | (go_at_call 22; refine (markers_any w2 [] D p st0 _ H5.out.dr).mono ?_; rintro e w6 ⟨rfl, k6⟩; rw [HK2.out]; have H6 := Lib.hid (H5.out.keep k6)))
                   go_ret
                   exact ⟨rfl, KW2.out.call H6.out.kept⟩
          ))
end Go.Proofs.Ytbofgpmbocjbiaa
