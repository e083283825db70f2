/- The walk of the law NetTakes: it returns true for every script and every place. -/
import Derived.Test.YtbofoafcglmboaaNetH
set_option linter.unusedSimpArgs false
set_option linter.unusedVariables false
namespace Go.Proofs.Ytbofoafcglmboaa
open Go.RowKit Go.Maps
theorem Kept.ownN {w w2 : World} {base e k n : Nat} {v : Value} {xs : List Value} (h : w.ownsRow base e k v n xs) (hk : Kept w w2) : w2.ownsRow base e k v n xs := by
  refine ⟨h.1, h.2.imp id ?_⟩
  rintro ⟨g, cap, cur, h1, h2, h3, h4⟩
  exact ⟨g, cap, cur, h1, h2, hk.heap h3, h4⟩
theorem pick_yes {x : Ses} {i : Int} (hok : SesOk x) (h : pickB x i 0 = true) : (pickS x i 0).T = x.T ∧ (pickS x i 0).lo = x.lo + 1 ∧ x.lo < x.T.length := by
  unfold pickB at h
  have h := of_decide_eq_true h
  have hm := pickQ_mem h.1
  have := hok.way x.lo hm.1
  unfold pickS
  rw [h.1]
  simp
  exact this
set_option maxHeartbeats 4000000 in
set_option maxRecDepth 20000 in
theorem netTakes_walk (A : Option Addr) (n c : Nat) (xs : Nat → OpV) (at_ : Int) (w : World) (hr : RowAt w A n c 6 (fun i => opCells (xs i))) (hx : ∀ i, i < n → OpOk (xs i)) (_ : (Lit.int .i64 at_).wf = true) :
    Calls Try.prog 8 #[.slice A n c, .int .i64 at_] w fun e w' => e = .returned (.bool true) ∧ Kept w w' := by
  have HR := Lib.hid hr
  have hnc := hr.1
  have hcm := hr.2.1
  unfold maxLen at hcm
  obtain ⟨d, hd, hd15⟩ : ∃ d : Nat, bits .and .i64 at_ 15 = (d : Int) ∧ d ≤ 15 := by
    have := and_bd at_ 15 (by omega) (by omega)
    exact ⟨(bits .and .i64 at_ 15).toNat, by omega, by omega⟩
  clear hr hx
  go_enter Try.func8, Try.ntmps8
  go_wp2_with (first | (go_at_call 9; refine (awake_any _).mono ?_; rintro e w1 ⟨rfl, hb1⟩) | (go_at_call 10; refine (new_any 2 _ (by omega) (by omega)).mono ?_; rintro e w2 ⟨N, rfl, hN, k2⟩))
  have HN0 : Hid (NetIn w [] w2 N (fullP 2) (setS st0 0 1 ses0)) := by
    rw [show setS st0 0 1 ses0 = st0 by funext i j; unfold setS; split <;> rfl]
    exact hN.under hb1
  have K2 : Kept w w2 := hb1.call k2
  clear hN hb1 k2
  go_loopw [7] (fun iv wr => ∃ (i : Nat) (x : Ses), i ≤ n ∧ i ≤ 40 ∧ iv = .int .i64 i ∧ Hid (Bd i x) ∧ Hid (NetIn w [] wr N (fullP 2) (setS st0 0 1 x)) ∧ Kept w wr) (fun iv _ => 40 - (intOf iv).toNat)
  case atStart => exact ⟨0, ses0, by omega, by omega, rfl, Bd.zero, HN0, K2⟩
  case round =>
    obtain ⟨i, x, hi, hi40, rfl, HB, HI, kr⟩ := hrel
    by_cases hgo : i < n ∧ i < 40
    · have e1 : decide ((i : Int) < n) = true := by simp; omega
      have e2 : decide ((i : Int) < 40) = true := by simp; omega
      obtain ⟨b, off, rfl, hbl, hc⟩ := ops_at HR.out (by omega)
      obtain ⟨z0, z1, z2, z3, z4, z5⟩ := hc i hgo.1
      have z0 := kr.at_ z0
      have z1 := kr.at_ z1
      have z2 := kr.at_ z2
      have z3 := kr.at_ z3
      have z4 := kr.at_ z4
      have z5 := kr.at_ z5
      have hbw : b < wr.heap.size := World.block_lt_of_cell? wr _ z0
      clear hc
      have hT : x.T.length ≤ 1000 := by have := HB.out.T; omega
      have hW : x.way.length ≤ 1000 := by have := HB.out.way; have := HB.out.op; omega
      have HT := Lib.hid hT
      have HW := Lib.hid hW
      clear hT hW
      generalize (xs i).kind = kd at *
      generalize (xs i).a = ao at *
      generalize (xs i).b = bo at *
      generalize (xs i).at_ = ato at *
      generalize (xs i).how = ho at *
      generalize (xs i).text = to at *
      have hk3 := and_bd kd 3 (by omega) (by omega)
      obtain ⟨ev, hev⟩ : ∃ ev : Int, bits .and .i64 ato 7 = ev := ⟨_, rfl⟩
      obtain ⟨k3, hkd⟩ : ∃ k3 : Int, bits .and .i64 kd 3 = k3 := ⟨_, rfl⟩
      have HKD := Lib.hid hkd
      clear hk3
      rcases Decidable.em (k3 = 0) with h0 | h0
      · subst h0
        obtain ⟨r, hr, hr26⟩ : ∃ r : Nat, (i : Int).tmod 26 = (r : Int) ∧ r < 26 := ⟨i % 26, rfl, by omega⟩
        have hcv := conv_chB (wr.alloc (.cells #[.int .i64 kd, .int .i64 ao, .int .i64 bo, .int .i64 ato, .int .i64 ho, .string to] 29)) r
        rw [World.size_alloc] at hcv
        go_wp2_with (go_at_call 11; refine (sendN w [] N (fullP 2) _ 0 1 0 1 _ (HI.out.keep (((Kept.refl _).alloc _).alloc _)) (kr.call (((Kept.refl _).alloc _).alloc _)) rfl rfl (by omega) (by omega) (chB (97 + r)) full01 (by rw [setS_same]; exact HT.out) (by rw [setS_same]; exact HW.out)).mono ?_; rintro e w3 ⟨rfl, h3⟩; rw [setS_same, setS_twice] at h3; rw [setS_same]; have H3 := Lib.hid h3; clear h3)
        go_roundw
        case rel => first | exact ⟨i + 1, sendS x (chB (97 + r)), by omega, by omega, by go_num, HB.out.send _, H3.out.1, H3.out.2.1⟩ | ((repeat apply Exists.intro); exact ⟨⟨i + 1, sendS x (chB (97 + r)), by omega, by omega, by go_num, HB.out.send _, H3.out.1, H3.out.2.1⟩, rfl⟩)
        case measure => simp [intOf]; omega
      · rcases Decidable.em (k3 = 3) with h3' | h3'
        · subst h3'
          go_wp2_with (go_at_call 12; refine (againN w [] N (fullP 2) _ 0 1 0 1 _ (HI.out.keep ((Kept.refl _).alloc _)) (kr.call ((Kept.refl _).alloc _)) rfl rfl (by omega) (by omega) full01 (by rw [setS_same]; exact HT.out) (by rw [setS_same]; exact HW.out)).mono ?_; rintro e w3 ⟨rfl, h3⟩; rw [setS_same, setS_twice] at h3; rw [setS_same]; have H3 := Lib.hid h3; clear h3)
          go_roundw
          case rel => first | exact ⟨i + 1, agS x, by omega, by omega, by go_num, HB.out.ag.mono (by omega), H3.out.1, H3.out.2.1⟩ | ((repeat apply Exists.intro); exact ⟨⟨i + 1, agS x, by omega, by omega, by go_num, HB.out.ag.mono (by omega), H3.out.1, H3.out.2.1⟩, rfl⟩)
          case measure => simp [intOf]; omega
        · have hok : SesOk x := by have := HI.out.sesOk (a := 0) (c := 1) (by omega) (by omega) full01; rw [setS_same] at this; exact this
          have HOK := Lib.hid hok
          clear hok
          go_wp2_with (go_at_call 13; refine (pickN w [] N (fullP 2) _ 0 1 0 1 _ (HI.out.keep ((Kept.refl _).alloc _)) (kr.call ((Kept.refl _).alloc _)) rfl rfl (by omega) (by omega) ev ho full01 (by rw [setS_same]; exact HT.out) (by rw [setS_same]; exact HW.out)).mono ?_; rintro e w3 ⟨rfl, h3⟩; rw [setS_same, setS_twice] at h3; rw [setS_same]; unfold told; have H3 := Lib.hid h3; clear h3)
          go_roundw
          case rel => first | exact ⟨i + 1, pickS x ev (bits .and .i64 ho 3), by omega, by omega, by go_num, (HB.out.pick HOK.out _ _).mono (by omega), H3.out.1, H3.out.2.1⟩ | ((repeat apply Exists.intro); exact ⟨⟨i + 1, pickS x ev (bits .and .i64 ho 3), by omega, by omega, by go_num, (HB.out.pick HOK.out _ _).mono (by omega), H3.out.1, H3.out.2.1⟩, rfl⟩)
          case measure => simp [intOf]; omega
    · have hT : x.T.length ≤ 1000 := by have := HB.out.T; omega
      have hW : x.way.length ≤ 1000 := by have := HB.out.way; have := HB.out.op; omega
      have HT := Lib.hid hT
      have HW := Lib.hid hW
      clear hT hW
      have hok : SesOk x := by have := HI.out.sesOk (a := 0) (c := 1) (by omega) (by omega) full01; rw [setS_same] at this; exact this
      have HOK := Lib.hid hok
      clear hok
      have hcase : decide ((i : Int) < n) = false ∨ (decide ((i : Int) < n) = true ∧ decide ((i : Int) < 40) = false) := by
        by_cases h : i < n
        · exact .inr ⟨by simp; omega, by simp; omega⟩
        · exact .inl (by simp; omega)
      have hpick : (pickB x (d : Int) 0 = false) ∨ (pickB x (d : Int) 0 = true) := by cases pickB x (d : Int) 0 <;> simp
      rcases hcase with e1 | ⟨e1, e2⟩ <;> rcases hpick with hpb | hpb
      all_goals
        (have HPB := Lib.hid hpb
         go_wp2_with (go_at_call 15; refine (flyingN w [] N (fullP 2) _ 0 1 0 1 _ HI.out rfl rfl (by omega) (by omega) full01 (by rw [setS_same]; exact HW.out)).mono ?_; rintro e w3 ⟨⟨v3, rfl, o3⟩, k3⟩; rw [setS_same] at o3; obtain ⟨A3, c3, rfl⟩ := own_slice o3; have H3 := Lib.hid (HI.out.keep k3); have K3 := kr.call k3; have O3 := Lib.hid o3; clear o3)
         go_wp2_with (go_at_call 14; refine (openN w [] N (fullP 2) _ 0 1 0 1 _ H3.out rfl rfl (by omega) (by omega) full01 (by rw [setS_same]; exact HT.out)).mono ?_; rintro e w4 ⟨rfl, k4⟩; rw [setS_same]; have H4 := Lib.hid (H3.out.keep k4); have K4 := K3.call k4; have O4 := Lib.hid (Kept.ownN O3.out k4))
         go_wp2_with (go_at_call 17; refine (takesN w [] N (fullP 2) _ 0 1 0 1 _ H4.out rfl rfl (by omega) (by omega) d full01 (by rw [setS_same]; exact HW.out)).mono ?_; rintro e w5 ⟨rfl, k5⟩; rw [setS_same, HPB.out]; unfold told; (try simp only [if_true, Bool.false_eq_true, if_false]); have H5 := Lib.hid (H4.out.keep k5); have K5 := K4.call k5; have O5 := Lib.hid (Kept.ownN O4.out k5))
         go_wp2_with (go_at_call 15; refine (flyingN w [] N (fullP 2) _ 0 1 0 1 _ H5.out rfl rfl (by omega) (by omega) full01 (by rw [setS_same]; exact HW.out)).mono ?_; rintro e w6 ⟨⟨v6, rfl, o6⟩, k6⟩; rw [setS_same] at o6; obtain ⟨A6, c6, rfl⟩ := own_slice o6; have H6 := Lib.hid (H5.out.keep k6); have K6 := K5.call k6; have O6 := Lib.hid (Kept.ownN O5.out k6); have P6 := Lib.hid o6; clear o6)
         go_wp2_with (go_at_call 18; refine (same_packets _ _ _ _ _ _ _ _ _ _ x.way _ rfl O6.out P6.out (by have := HW.out; omega)).mono ?_; rintro e w7 ⟨rfl, k7⟩; have H7 := Lib.hid (H6.out.keep k7); have K7 := K6.call k7)
         go_wp2_with (go_at_call 14; refine (openN w [] N (fullP 2) _ 0 1 0 1 _ H7.out rfl rfl (by omega) (by omega) full01 (by rw [setS_same]; exact HT.out)).mono ?_; rintro e w8 ⟨rfl, k8⟩; rw [setS_same]; have H8 := Lib.hid (H7.out.keep k8); have K8 := K7.call k8)
         go_wp2_with (go_at_call 13; refine (pickN w [] N (fullP 2) _ 0 1 0 1 _ H8.out K8 rfl rfl (by omega) (by omega) d 0 full01 (by rw [setS_same]; exact HT.out) (by rw [setS_same]; exact HW.out)).mono ?_; rintro e w9 ⟨rfl, h9⟩; rw [setS_same, bits0, setS_twice] at h9; rw [setS_same, bits0, HPB.out]; unfold told; (try simp only [if_true, Bool.false_eq_true, if_false]); have H9 := Lib.hid h9; clear h9))
      all_goals first
        | (go_ret; exact ⟨rfl, H9.out.2.1⟩)
        | (obtain ⟨y1, y2, y3⟩ := pick_yes HOK.out HPB.out
           have Y1 := Lib.hid y1
           have Y2 := Lib.hid y2
           have hop : ((x.T.length - (x.lo + 1) : Nat) : Int) = ((x.T.length - x.lo : Nat) : Int) - 1 := by omega
           have HOP := Lib.hid hop
           have hT2 := HT.out
           clear y1 y2 hop
           go_wp2_with (go_at_call 14; refine (openN w [] N (fullP 2) _ 0 1 0 1 _ H9.out.1 rfl rfl (by omega) (by omega) full01 (by rw [setS_same, Y1.out]; exact HT.out)).mono ?_; rintro e w10 ⟨rfl, k10⟩; rw [setS_same, Y1.out, Y2.out, HOP.out])
           all_goals (go_ret; exact ⟨rfl, H9.out.2.1.call k10⟩))
end Go.Proofs.Ytbofoafcglmboaa
