/- The walk of the law LinkOnce: it returns true for all texts and all numbers. -/
import Derived.Test.YtgcbadlajmbdhaaLinkOnceK
import Derived.Deep.CutBlock
import Derived.Deep.DeepCutAuto
set_option linter.unusedSimpArgs false
set_option linter.unusedVariables false
namespace Go.Proofs.Ytgcbadlajmbdhaa
open Go.RowKit

set_option maxHeartbeats 4000000 in
set_option maxRecDepth 20000 in
theorem linkOnce_walk (A : Option Addr) (n c : Nat) (x : Nat → Int) (A2 : Option Addr) (n2 c2 : Nat) (x2 : Nat → Int) (w : World) (hr : RowAt w A n c 1 (fun i => [.int .u8 (x i)])) (hx : ∀ i, i < n → (Lit.int .u8 (x i)).wf = true)
    (hr2 : RowAt w A2 n2 c2 1 (fun i => [.int .i64 (x2 i)])) (hx2 : ∀ i, i < n2 → (Lit.int .i64 (x2 i)).wf = true) :
    Calls Try.prog 4 #[.slice A n c, .slice A2 n2 c2] w fun e w' => e = .returned (.bool true) ∧ Kept w w' := by
  have kc := fun (w : World) (c : Int) => conv_chr w w.heap.size c rfl
  obtain ⟨i0, hi, hz0, hz1, hz2⟩ := info_parts infoPk
  have HI := Lib.hid hi
  clear hi
  go_enter Try.func4, Try.ntmps4
  go_wp2_with fail
  refine (awake_any _).mono ?_
  rintro e w1 ⟨rfl, k1⟩
  have z1 := k1.size
  go_wp2_with fail
  refine (newSenderX w w1 k1).mono ?_
  rintro e w2 ⟨rfl, k2, S2⟩
  go_wp2_with fail
  refine (newReceiver_any w2).mono ?_
  rintro e w3 ⟨rfl, k3, R3⟩
  have S3 := S2.more k3 w2.heap.size (Nat.le_refl _) R3.lt
  have K3 : Kept w w3 := (k1.call k2).call k3
  have z2 : w.heap.size ≤ w2.heap.size := (k1.call k2).size
  have O3 : On w w3 w1.heap.size w2.heap.size 0 0 [] (.slice none 0 0) 0 [] := ⟨none, S3, .inl ⟨rfl, rfl⟩, R3, by simp, by simp, z2, rfl⟩
  clear S2 S3 R3
  have hnn := hr2.2.1
  have hnc := hr2.1
  have hmm := hr.2.1
  have hmc := hr.1
  unfold maxLen at hnn hmm
  go_wp2_with fail
  go_loopw [8, 9, 10, 11, 12] (fun sv tv wv kv iv wr => ∃ (j k T : Nat) (ss : List ByteArray) (tb wb : ByteArray), j ≤ n2 ∧ j ≤ 60 ∧ k ≤ j ∧ k ≤ 20 ∧ k ≤ n ∧ T ≤ k ∧ k ≤ T + 8 ∧ iv = .int .i64 j ∧ kv = .int .i64 k ∧ tv = .string tb ∧ wv = .string wb ∧ ss.length = k ∧ (∀ d ∈ ss, d.size = 1) ∧ tb = cat (ss.take T) ∧ wb = cat ss ∧ Kept w wr ∧ On w wr w1.heap.size w2.heap.size T T (ss.drop T) sv k ss) (fun _ _ _ _ i _ => 60 - (intOf i).toNat)
  case atStart => exact ⟨0, 0, 0, [], _, _, by omega, by omega, by omega, by omega, by omega, by omega, by omega, rfl, rfl, rfl, rfl, rfl, by simp, rfl, rfl, K3, O3⟩
  case round =>
    clear O3
    obtain ⟨j, k, T, ss, tb, wb, hj2, hj60, hkj, hk20, hkn, hTk, hk8, rfl, rfl, rfl, rfl, hss, hs1, htb, hwb, kr, Or⟩ := hrel
    have HSS := Lib.hid hss
    have HS1 := Lib.hid hs1
    have HTB := Lib.hid htb
    have HWB := Lib.hid hwb
    clear hss hs1 htb hwb
    obtain ⟨SA, sc, rfl⟩ := Or.form
    have hwz : wb.size ≤ 20 := by rw [HWB.out, cat_size _ HS1.out, HSS.out]; exact hk20
    by_cases h12 : j < n2 ∧ j < 60
    · obtain ⟨h1, h2⟩ := h12
      obtain ⟨b2, off2, rfl, hb2, hc2⟩ := hr2.one (by omega)
      have CJ := Lib.hid (hc2 j h1)
      have cj := kr.at_ CJ.out
      clear hc2
      go_upto_region 13 with fail
      have hbp : Hid (wr = wr) := rfl
      go_cut [52] (fun v wx => wr = wx ∧ ∃ bb : Bool, v = .bool bb ∧ (bb = true → k < n ∧ k < 20))
      case first =>
        by_cases hkk : k < n ∧ k < 20
        · obtain ⟨hk1, hk2⟩ := hkk
          go_wp2_with fail
          go_meet
          case rel => exact ⟨rfl, _, rfl, fun _ => ⟨hk1, hk2⟩⟩
        · have hor : ¬ k < n ∨ (k < n ∧ ¬ k < 20) := by omega
          rcases hor with hk1 | ⟨hk1, hk2⟩
          · go_wp2_with fail
            go_meet
            case rel => exact ⟨rfl, _, rfl, fun h => by cases h⟩
          · go_wp2_with fail
            go_meet
            case rel => exact ⟨rfl, _, rfl, fun h => by cases h⟩
      case rest =>
        obtain ⟨hw, bb, rfl, hbb⟩ := hcut
        subst hw
        go_upto_if 52 with fail
        go_cut [8, 10, 11] (fun sv wv kv wx => ∃ (k : Nat) (ss : List ByteArray) (wb : ByteArray), k ≤ j + 1 ∧ k ≤ 20 ∧ k ≤ n ∧ T ≤ k ∧ k ≤ T + 8 ∧ kv = .int .i64 k ∧ wv = .string wb ∧ ss.length = k ∧ (∀ d ∈ ss, d.size = 1) ∧ tb = cat (ss.take T) ∧ wb = cat ss ∧ Kept w wx ∧ On w wx w1.heap.size w2.heap.size T T (ss.drop T) sv k ss)
        case first =>
          cases bb
          · go_wp2_with fail
            go_meet
            case rel => exact ⟨k, ss, wb, by omega, hk20, hkn, hTk, hk8, rfl, rfl, HSS.out, HS1.out, HTB.out, HWB.out, kr, Or⟩
          · obtain ⟨hk1, hk2⟩ := hbb rfl
            obtain ⟨b, off, rfl, hb, hc⟩ := hr.one (by omega)
            have CK := Lib.hid (hc k hk1)
            have ck := kr.at_ CK.out
            clear hc
            go_wp2_with fail
            have ka : Kept w (wr.alloc (.cells #[.int .u8 (x k)] 5)) := kr.alloc _
            have Oa := Or.kept ((Kept.refl wr).alloc (.cells #[.int .u8 (x k)] 5))
            have hlen : Hid ((ss.drop T).length = k - T) := by unfold Hid; rw [List.length_drop, HSS.out]
            by_cases h8 : k < T + 8
            · refine (onSend (chr (x k)) (k : Int) Oa ka (by rw [hlen.out]; omega) (by rw [hlen.out]; omega) (by rw [hlen.out]; omega)).mono ?_
              rintro e w4 ⟨rfl, O4, k4⟩
              have k5 : Kept w4 (w4.alloc (.cells #[.int .i64 k, .string (chr (x k))] 23)) := (Kept.refl _).alloc _
              have C5 := heap_alloc_new w4 (.cells #[.int .i64 k, .string (chr (x k))] 23)
              have O6 := (O4.kept k5).kept ((Kept.refl (w4.alloc (.cells #[.int .i64 k, .string (chr (x k))] 23))).alloc (.cells #[.int .i64 k, .string (chr (x k))] 23))
              have C6 := heap_alloc_new (w4.alloc (.cells #[.int .i64 k, .string (chr (x k))] 23)) (.cells #[.int .i64 k, .string (chr (x k))] 23)
              rw [World.size_alloc] at C6
              have K6 := (k4.call k5).alloc (.cells #[.int .i64 k, .string (chr (x k))] 23)
              obtain ⟨H, a1, a2, a3, a4, a5, a6, a7⟩ := O6
              have A7 := Lib.hid a7
              have CC6 := Lib.hid C6
              have hcz : (chr (x k)).size ≤ 1 := Nat.le_refl _
              have hol : Hid ((pk 0 ss).length = k * 2) := by unfold Hid; rw [pk_len, HSS.out]
              clear O4 Or Oa a7 C6
              go_wp2_with (at_builtin; refine append_open _ rfl _ _ 35 rfl 23 i0 (.agg #[.int .i64 0, .string ⟨#[]⟩]) 24 Try.underlying35 HI.out hz0 hz1 hz2 rfl H _ k (pk 0 ss) a2 hol.out rfl ⟨w4.heap.size + 1, 0, none⟩ 1 [.int .i64 k, .string (chr (x k))] rfl rfl (news_two CC6.out) (one_two _ _) (by unfold maxLen; omega) (by omega) ?_; intro v6 w6 H6 hb6 O6 hH6; have OK6 := Lib.hid (On.push a1 a3 a4 a5 a6 A7.out K6 hb6 (by rw [pk_snoc, HSS.out, Nat.zero_add]; exact O6) hH6); have ck6 := OK6.out.2.at_ CK.out; clear O6)
              go_meet
              case rel =>
                have e1 : (ss ++ [chr (x k)]).length = k + 1 := by rw [List.length_append, HSS.out]; rfl
                refine ⟨k + 1, ss ++ [chr (x k)], _, by omega, by omega, by omega, by omega, by omega, by go_num, rfl, e1, ?_, ?_, ?_, OK6.out.2.call (by repeat (first | exact Kept.refl _ | assumption | (refine Kept.alloc ?_ _) | (refine Kept.setCell ?_ (by first | omega | (simp; omega) | simp) _) | refine Kept.drew ?_ | refine Kept.drewN ?_ _ | (apply Kept.call; rotate_left; assumption))), ?_⟩
                · intro d hd
                  rcases List.mem_append.1 hd with hd | hd
                  · exact HS1.out d hd
                  · simp only [List.mem_singleton] at hd; rw [hd]; rfl
                · rw [List.take_append_of_le_length (by rw [HSS.out]; exact hTk)]; exact HTB.out
                · rw [cat_snoc, ← HWB.out]
                · rw [List.drop_append_of_le_length (by rw [HSS.out]; exact hTk)]
                  exact OK6.out.1.kept (by repeat (first | exact Kept.refl _ | assumption | (refine Kept.alloc ?_ _) | (refine Kept.setCell ?_ (by first | omega | (simp; omega) | simp) _) | refine Kept.drew ?_ | refine Kept.drewN ?_ _ | (apply Kept.call; rotate_left; assumption)))
            · refine (onSend_full (chr (x k)) Oa (by rw [hlen.out]; omega)).mono ?_
              rintro e w4 ⟨rfl, k4⟩
              go_wp2_with fail
              go_meet
              case rel => exact ⟨k, ss, wb, by omega, hk20, hkn, hTk, hk8, rfl, rfl, HSS.out, HS1.out, HTB.out, HWB.out, Kept.call (ka.call k4) (by repeat (first | exact Kept.refl _ | assumption | (refine Kept.alloc ?_ _) | (refine Kept.setCell ?_ (by first | omega | (simp; omega) | simp) _) | refine Kept.drew ?_ | refine Kept.drewN ?_ _ | (apply Kept.call; rotate_left; assumption))), (Oa.kept k4).kept (by repeat (first | exact Kept.refl _ | assumption | (refine Kept.alloc ?_ _) | (refine Kept.setCell ?_ (by first | omega | (simp; omega) | simp) _) | refine Kept.drew ?_ | refine Kept.drewN ?_ _ | (apply Kept.call; rotate_left; assumption)))⟩
        case rest =>
          clear Or HSS HS1 HWB hk20 hkn hTk hk8 HTB kr hbb hbp
          obtain ⟨k, ss, wb, hkj, hk20, hkn, hTk, hk8, rfl, rfl, hss, hs1, htb, hwb, kr, Or⟩ := hcut
          have HSS := Lib.hid hss
          have HS1 := Lib.hid hs1
          have HTB := Lib.hid htb
          have HWB := Lib.hid hwb
          clear hss hs1 htb hwb
          obtain ⟨SA, sc, rfl⟩ := Or.form
          have cj := kr.at_ CJ.out
          have hwz : wb.size ≤ 20 := by rw [HWB.out, cat_size _ HS1.out, HSS.out]; exact hk20
          have htz : tb.size ≤ 20 := by rw [HTB.out, cat_size _ (fun d hd => HS1.out d (List.mem_of_mem_take hd)), List.length_take, HSS.out]; omega
          go_upto_if 82 with fail
          go_cut [9] (fun tv wx => ∃ (T : Nat) (tb : ByteArray), T ≤ k ∧ k ≤ T + 8 ∧ tv = .string tb ∧ tb = cat (ss.take T) ∧ Kept w wx ∧ On w wx w1.heap.size w2.heap.size T T (ss.drop T) (.slice SA k sc) k ss)
          case first =>
            rcases Nat.eq_zero_or_pos k with hk0 | hk0
            · replace hk0 : k ≤ 0 := by omega
              go_wp2_with fail
              go_meet
              case rel => exact ⟨T, tb, hTk, hk8, rfl, HTB.out, kr, Or⟩
            · obtain ⟨bs, os, rfl, _, hsc1, hsc2, hbs, hcs⟩ := Or.cells hk0
              unfold maxLen at hsc2
              obtain ⟨kk, hkk, hidx⟩ := place_of (x2 j / 2) k hk0 (by omega)
              obtain ⟨sc0, sc1⟩ := hcs kk hkk
              clear hcs
              have hD : ∃ d, d = ss[kk]?.getD ⟨#[]⟩ := ⟨_, rfl⟩
              obtain ⟨d, hd⟩ := hD
              rw [← hd] at sc1
              have hdz : d.size ≤ 1 := by
                rw [hd, List.getElem?_eq_getElem (by rw [HSS.out]; exact hkk)]
                exact Nat.le_of_eq (HS1.out _ (List.getElem_mem _))
              have HD := Lib.hid hd
              clear hd
              go_wp2_with fail
              by_cases hkT : kk = T
              · subst hkT
                refine (onTake_yes (kk : Int) d Or kr rfl (by omega)).mono ?_
                rintro e w4 ⟨rfl, O4, k4⟩
                go_wp2_with fail
                refine (onWaits O4).mono ?_
                rintro e w5 ⟨rfl, k5⟩
                have hlen : Hid ((ss.drop kk).length = k - kk) := by unfold Hid; rw [List.length_drop, HSS.out]
                go_wp2_with fail
                refine (onAnswer _ 1 1 (O4.kept k5) (k4.call k5) (by rw [hlen.out]; omega) (by rw [hlen.out]; omega) (by omega) (by omega)).mono ?_
                rintro e w6 ⟨rfl, O6, k6⟩
                go_wp2_with fail
                go_meet
                case rel =>
                  refine ⟨kk + 1, _, by omega, by omega, rfl, ?_, k6, by rw [← List.drop_drop]; exact O6⟩
                  rw [List.take_add_one, List.getElem?_eq_getElem (by rw [HSS.out]; exact hkk), Option.toList_some, cat_snoc, HTB.out, HD.out, List.getElem?_eq_getElem (by rw [HSS.out]; exact hkk)]
                  rfl
              · refine (onTake_no (kk : Int) d Or (by omega)).mono ?_
                rintro e w4 ⟨rfl, k4⟩
                go_wp2_with fail
                go_meet
                case rel => exact ⟨T, tb, hTk, hk8, rfl, HTB.out, kr.call k4, Or.kept k4⟩
          case rest =>
            clear Or HTB hTk hk8 kr htz
            obtain ⟨T, tb, hTk, hk8, rfl, htb, kr, Or⟩ := hcut
            have HTB := Lib.hid htb
            clear htb
            have htz : Hid (tb.size = T) := by unfold Hid; rw [HTB.out, cat_size _ (fun d hd => HS1.out d (List.mem_of_mem_take hd)), List.length_take, HSS.out]; omega
            have hwz : Hid (wb.size = k) := by unfold Hid; rw [HWB.out, cat_size _ HS1.out, HSS.out]
            have hex : Hid (wb.extract 0 T = tb) := by unfold Hid; rw [HWB.out, HTB.out]; exact cat_take ss HS1.out T (by rw [HSS.out]; exact hTk)
            have e1 := htz.out
            have e2 := hwz.out
            have e3 := hex.out
            go_wp2_with fail
            refine (onWaits Or).mono ?_
            rintro e w5 ⟨rfl, k5⟩
            have hlen : Hid ((ss.drop T).length = k - T) := by unfold Hid; rw [List.length_drop, HSS.out]
            go_wp2_with fail
            refine (onOpen (k - T) (Or.kept k5) hlen.out.symm (by omega)).mono ?_
            rintro e w6 ⟨A6, c6, rfl, k6⟩
            have e4 : ((k - T : Nat) : Int) = (k : Int) - (T : Int) := by omega
            go_wp2_with fail
            go_roundw
            case rel => first | exact ⟨j + 1, k, T, ss, tb, wb, by omega, by omega, hkj, hk20, hkn, hTk, hk8, by go_num, rfl, rfl, rfl, HSS.out, HS1.out, HTB.out, HWB.out, (kr.call k5).call k6, (Or.kept k5).kept k6⟩ | ((repeat apply Exists.intro); exact ⟨⟨j + 1, k, T, ss, tb, wb, by omega, by omega, hkj, hk20, hkn, hTk, hk8, by go_num, rfl, rfl, rfl, HSS.out, HS1.out, HTB.out, HWB.out, (kr.call k5).call k6, (Or.kept k5).kept k6⟩, rfl⟩)
            case measure => simp [intOf]; omega
    · have hex : j = n2 ∨ (j < n2 ∧ j = 60) := by omega
      rcases hex with rfl | ⟨h1, rfl⟩
      · go_wp2_with fail
        go_ret
        exact ⟨rfl, kr⟩
      · go_wp2_with fail
        go_ret
        exact ⟨rfl, kr⟩
end Go.Proofs.Ytgcbadlajmbdhaa
