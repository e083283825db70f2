/- The walk of the law NetAll: it returns true for every script. -/
import Derived.Test.YtbofoafcglmboaaNetH
set_option linter.unusedSimpArgs false
set_option linter.unusedVariables false
namespace Go.Proofs.Ytbofoafcglmboaa
open Go.RowKit Go.Maps
/-- The packets from lo on, in order. -/
def fromLo (x : Ses) : List Nat := (List.range (x.T.length - x.lo)).map fun i => x.lo + i
theorem ag_from {x : Ses} (hw : x.way = []) (h8 : x.T.length ≤ x.lo + 8) : (agS x).way = fromLo x := by
  show agWay _ _ _ = _
  unfold agWay agK fromLo
  rw [hw]
  rw [show min (x.T.length - x.lo) (32 - ([] : List Nat).length) = x.T.length - x.lo by simp; omega]
  rfl
theorem from_cons {x : Ses} (h : x.lo < x.T.length) : fromLo x = x.lo :: fromLo ⟨x.T, x.lo + 1, x.way⟩ := by
  unfold fromLo
  simp only
  rw [show x.T.length - x.lo = (x.T.length - (x.lo + 1)) + 1 by omega, List.range_succ_eq_map]
  simp [Function.comp_def, Nat.add_assoc, Nat.add_comm 1]
/-- The first packet is picked: one less is on its way; it is told just if it is the one that is waited for. -/
theorem pick_first {x : Ses} {q : Nat} {l : List Nat} (h : x.way = q :: l) : pickB x 0 0 = decide (q = x.lo) ∧ pickS x 0 0 = ⟨x.T, x.lo + (if q = x.lo then 1 else 0), l⟩ := by
  have hq : pickQ x 0 = some q := by simp [pickQ, h]
  refine ⟨by simp [pickB, hq], ?_⟩
  unfold pickS
  rw [hq]
  simp only [show ¬ ((0 : Int) = 2) by omega, show ¬ ((0 : Int) = 1) by omega, if_false]
  split <;> simp [h]
/-- What holds in a round: r: which; lo0: how many had been told ahead of all rounds. -/
structure Rd (r lo0 t : Nat) (x : Ses) : Prop where
  T : x.T.length ≤ 30
  lo : x.lo ≤ x.T.length
  op : x.T.length ≤ x.lo + 8
  way : x.way.length ≤ t
  from_ : 1 ≤ r → x.way = fromLo x
theorem Rd.pick {r lo0 t q : Nat} {x : Ses} {l : List Nat} (h : Rd r lo0 (t + 1) x) (hok : SesOk x) (hw : x.way = q :: l) : Rd r lo0 t (pickS x 0 0) ∧ (pickS x 0 0).lo = x.lo + (if q = x.lo then 1 else 0) ∧ (pickS x 0 0).T = x.T := by
  obtain ⟨h1, h2, h3, h4, h5⟩ := h
  rw [(pick_first hw).2]
  have hq := hok.way q (by rw [hw]; simp)
  rw [hw] at h4
  simp at h4
  refine ⟨⟨h1, ?_, ?_, by simpa using h4, fun hr => ?_⟩, rfl, rfl⟩
  · simp only; split <;> omega
  · simp only; split <;> omega
  · have hf := h5 hr
    rw [hw] at hf
    have hlt : x.lo < x.T.length := by
      rcases Nat.lt_or_ge x.lo x.T.length with h | h
      · exact h
      · rw [show fromLo x = [] by unfold fromLo; rw [show x.T.length - x.lo = 0 by omega]; rfl] at hf; cases hf
    rw [from_cons hlt] at hf
    injection hf with e1 e2
    subst e1
    simp only [if_true]
    rw [e2]
    rfl
theorem Rd.again {r lo0 t : Nat} {x : Ses} (h : Rd r lo0 t x) (hw : x.way = []) : Rd (r + 1) lo0 40 (agS x) ∧ (agS x).lo = x.lo ∧ (agS x).T = x.T ∧ (1 ≤ r → x.T.length = x.lo) := by
  obtain ⟨h1, h2, h3, h4, h5⟩ := h
  have e := ag_from hw h3
  refine ⟨⟨h1, h2, h3, ?_, fun _ => e⟩, rfl, rfl, fun hr => ?_⟩
  · rw [e]; unfold fromLo; simp; omega
  · have := h5 hr
    rw [hw] at this
    have hl := congrArg List.length this
    unfold fromLo at hl
    simp at hl
    omega
theorem ofBd {x : Ses} (h : Bd 30 x) : Rd 0 x.lo 40 x := ⟨h.T, h.lo, h.op, by have := h.way; have := h.op; omega, fun g => by omega⟩
set_option maxHeartbeats 4000000 in
set_option maxRecDepth 20000 in
theorem netAll_walk (A : Option Addr) (n c : Nat) (xs : Nat → OpV) (w : World) (hr : RowAt w A n c 6 (fun i => opCells (xs i))) (hx : ∀ i, i < n → OpOk (xs i)) :
    Calls Try.prog 4 #[.slice A n c] w fun e w' => e = .returned (.bool true) ∧ Kept w w' := by
  have HR := Lib.hid hr
  have hnc := hr.1
  have hcm := hr.2.1
  unfold maxLen at hcm
  clear hr hx
  go_enter Try.func4, Try.ntmps4
  go_wp2_with (first | (go_at_call 9; refine (awake_any _).mono ?_; rintro e w1 ⟨rfl, hb1⟩) | (go_at_call 10; refine (new_any 2 _ (by omega) (by omega)).mono ?_; rintro e w2 ⟨N, rfl, hN, k2⟩))
  have HN0 : Hid (NetIn w [] w2 N (fullP 2) (setS st0 0 1 ses0)) := by
    rw [show setS st0 0 1 ses0 = st0 by funext i j; unfold setS; split <;> rfl]
    exact hN.under hb1
  have K2 : Kept w w2 := hb1.call k2
  clear hN hb1 k2
  go_loopw [5] (fun iv wr => ∃ (i : Nat) (x : Ses), i ≤ n ∧ i ≤ 30 ∧ iv = .int .i64 i ∧ Hid (Bd i x) ∧ Hid (NetIn w [] wr N (fullP 2) (setS st0 0 1 x)) ∧ Kept w wr) (fun iv _ => 30 - (intOf iv).toNat)
  case atStart => exact ⟨0, ses0, by omega, by omega, rfl, Bd.zero, HN0, K2⟩
  case round =>
    obtain ⟨i, x, hi, hi40, rfl, HB, HI, kr⟩ := hrel
    by_cases hgo : i < n ∧ i < 30
    · have e1 : decide ((i : Int) < n) = true := by simp; omega
      have e2 : decide ((i : Int) < 30) = true := by simp; omega
      obtain ⟨b, off, rfl, hbl, hc⟩ := ops_at HR.out (by omega)
      obtain ⟨z0, z1, z2, z3, z4, z5⟩ := hc i hgo.1
      have z0 := kr.at_ z0
      have z1 := kr.at_ z1
      have z2 := kr.at_ z2
      have z3 := kr.at_ z3
      have z4 := kr.at_ z4
      have z5 := kr.at_ z5
      have hbw : b < wr.heap.size := World.block_lt_of_cell? wr _ z0
      clear hc
      have hT : x.T.length ≤ 1000 := by have := HB.out.T; omega
      have hW : x.way.length ≤ 1000 := by have := HB.out.way; have := HB.out.op; omega
      have HT := Lib.hid hT
      have HW := Lib.hid hW
      clear hT hW
      generalize (xs i).kind = kd at *
      generalize (xs i).a = ao at *
      generalize (xs i).b = bo at *
      generalize (xs i).at_ = ato at *
      generalize (xs i).how = ho at *
      generalize (xs i).text = to at *
      have hk3 := and_bd kd 3 (by omega) (by omega)
      obtain ⟨ev, hev⟩ : ∃ ev : Int, bits .and .i64 ato 7 = ev := ⟨_, rfl⟩
      obtain ⟨k3, hkd⟩ : ∃ k3 : Int, bits .and .i64 kd 3 = k3 := ⟨_, rfl⟩
      have HKD := Lib.hid hkd
      clear hk3
      rcases Decidable.em (k3 = 0) with h0 | h0
      · subst h0
        go_wp2_with (go_at_call 11; refine (sendN w [] N (fullP 2) _ 0 1 0 1 _ (HI.out.keep ((Kept.refl _).alloc _)) (kr.call ((Kept.refl _).alloc _)) rfl rfl (by omega) (by omega) xT full01 (by rw [setS_same]; exact HT.out) (by rw [setS_same]; exact HW.out)).mono ?_; rintro e w3 ⟨rfl, h3⟩; rw [setS_same, setS_twice] at h3; rw [setS_same]; have H3 := Lib.hid h3; clear h3)
        go_roundw
        case rel => first | exact ⟨i + 1, sendS x xT, by omega, by omega, by go_num, HB.out.send _, H3.out.1, H3.out.2.1⟩ | ((repeat apply Exists.intro); exact ⟨⟨i + 1, sendS x xT, by omega, by omega, by go_num, HB.out.send _, H3.out.1, H3.out.2.1⟩, rfl⟩)
        case measure => simp [intOf]; omega
      · rcases Decidable.em (k3 = 3) with h3' | h3'
        · subst h3'
          go_wp2_with (go_at_call 12; refine (againN w [] N (fullP 2) _ 0 1 0 1 _ (HI.out.keep ((Kept.refl _).alloc _)) (kr.call ((Kept.refl _).alloc _)) rfl rfl (by omega) (by omega) full01 (by rw [setS_same]; exact HT.out) (by rw [setS_same]; exact HW.out)).mono ?_; rintro e w3 ⟨rfl, h3⟩; rw [setS_same, setS_twice] at h3; rw [setS_same]; have H3 := Lib.hid h3; clear h3)
          go_roundw
          case rel => first | exact ⟨i + 1, agS x, by omega, by omega, by go_num, HB.out.ag.mono (by omega), H3.out.1, H3.out.2.1⟩ | ((repeat apply Exists.intro); exact ⟨⟨i + 1, agS x, by omega, by omega, by go_num, HB.out.ag.mono (by omega), H3.out.1, H3.out.2.1⟩, rfl⟩)
          case measure => simp [intOf]; omega
        · have hok : SesOk x := by have := HI.out.sesOk (a := 0) (c := 1) (by omega) (by omega) full01; rw [setS_same] at this; exact this
          have HOK := Lib.hid hok
          clear hok
          go_wp2_with (go_at_call 13; refine (pickN w [] N (fullP 2) _ 0 1 0 1 _ (HI.out.keep ((Kept.refl _).alloc _)) (kr.call ((Kept.refl _).alloc _)) rfl rfl (by omega) (by omega) ev ho full01 (by rw [setS_same]; exact HT.out) (by rw [setS_same]; exact HW.out)).mono ?_; rintro e w3 ⟨rfl, h3⟩; rw [setS_same, setS_twice] at h3; rw [setS_same]; unfold told; have H3 := Lib.hid h3; clear h3)
          go_roundw
          case rel => first | exact ⟨i + 1, pickS x ev (bits .and .i64 ho 3), by omega, by omega, by go_num, (HB.out.pick HOK.out _ _).mono (by omega), H3.out.1, H3.out.2.1⟩ | ((repeat apply Exists.intro); exact ⟨⟨i + 1, pickS x ev (bits .and .i64 ho 3), by omega, by omega, by go_num, (HB.out.pick HOK.out _ _).mono (by omega), H3.out.1, H3.out.2.1⟩, rfl⟩)
          case measure => simp [intOf]; omega
    · have HRD := Lib.hid (ofBd (HB.out.mono hi40))
      have hT : x.T.length ≤ 1000 := by have := HB.out.T; omega
      have HT := Lib.hid hT
      clear hT
      have hcase : decide ((i : Int) < n) = false ∨ (decide ((i : Int) < n) = true ∧ decide ((i : Int) < 30) = false) := by
        by_cases h : i < n
        · exact .inr ⟨by simp; omega, by simp; omega⟩
        · exact .inl (by simp; omega)
      clear HB
      rcases hcase with e1 | ⟨e1, e2⟩
      all_goals
        (go_wp2_with (go_at_call 14; refine (openN w [] N (fullP 2) _ 0 1 0 1 _ HI.out rfl rfl (by omega) (by omega) full01 (by rw [setS_same]; exact HT.out)).mono ?_; rintro e w4 ⟨rfl, k4⟩; rw [setS_same]; have H4 := Lib.hid (HI.out.keep k4); have K4 := kr.call k4))
      all_goals
        (obtain ⟨P0, hP0⟩ : ∃ P0, x.T.length - x.lo = P0 := ⟨_, rfl⟩
         have HP0 := Lib.hid hP0
         obtain ⟨lo0, hlo0⟩ : ∃ lo0, x.lo = lo0 := ⟨_, rfl⟩
         obtain ⟨t0, ht0⟩ : ∃ t0, x.T.length = t0 := ⟨_, rfl⟩
         have HLO := Lib.hid hlo0
         have HTL := Lib.hid ht0
         have hPB : P0 ≤ 8 := by have := HRD.out.op; omega
         rw [hlo0, ht0] at hP0
         rw [HP0.out]
         rw [HLO.out] at HRD
         clear hlo0 ht0
         have h0 : Hid (lo0 ≤ t0) := by have := HRD.out.lo; have := HTL.out; have := HLO.out; unfold Hid; omega
         go_loopw [8, 9] (fun cv rv wr => ∃ (r C : Nat) (y : Ses), r ≤ 10 ∧ C ≤ P0 ∧ cv = .int .i64 C ∧ rv = .int .i64 r ∧ Hid (Rd r lo0 40 y) ∧ Hid (y.T.length = t0) ∧ Hid (lo0 + C = y.lo) ∧ Hid (2 ≤ r → y.T.length = y.lo) ∧ Hid (NetIn w [] wr N (fullP 2) (setS st0 0 1 y)) ∧ Kept w wr) (fun _ rv _ => 10 - (intOf rv).toNat)
         case atStart => exact ⟨0, 0, x, by omega, by omega, rfl, rfl, HRD, HTL, by have := HLO.out; unfold Hid; omega, fun h => by omega, H4, K4⟩
         case round =>
           clear HI kr HRD HT H4 K4 HP0 HLO HTL
           obtain ⟨r, C, y, hr, hC, rfl, rfl, HRD, HTL, HLO, HEN, HI, kr⟩ := hrel
           by_cases hr10 : r < 10
           · have d1 : decide ((r : Int) < 10) = true := by simp; omega
             go_wp2_with fail
             go_loopw [8, 10] (fun cv kv wr => ∃ (k C : Nat) (y : Ses), k ≤ 40 ∧ C ≤ P0 ∧ cv = .int .i64 C ∧ kv = .int .i64 k ∧ Hid (Rd r lo0 (40 - k) y) ∧ Hid (y.T.length = t0) ∧ Hid (lo0 + C = y.lo) ∧ Hid (NetIn w [] wr N (fullP 2) (setS st0 0 1 y)) ∧ Kept w wr) (fun _ kv _ => 40 - (intOf kv).toNat)
             case atStart => exact ⟨0, C, y, by omega, hC, rfl, rfl, HRD, HTL, HLO, HI, kr⟩
             case round =>
               clear HRD HTL HLO HI kr
               obtain ⟨k, C, y, hk, hC, rfl, rfl, HRD, HTL, HLO, HI, kr⟩ := hrel
               have hT : Hid (y.T.length ≤ 1000) := by have := HRD.out.T; unfold Hid; omega
               have hW : Hid (y.way.length ≤ 1000) := by have := HRD.out.way; unfold Hid; omega
               by_cases hk40 : k < 40
               · have d2 : decide ((k : Int) < 40) = true := by simp; omega
                 obtain ⟨L, hL⟩ : ∃ L, y.way.length = L := ⟨_, rfl⟩
                 have HL := Lib.hid hL
                 have hL1 : L ≤ 1000 := by have := hW.out; omega
                 clear hL
                 rcases Nat.eq_zero_or_pos L with hz | hz
                 · subst hz
                   have hnil : y.way = [] := List.eq_nil_of_length_eq_zero HL.out
                   have HNIL := Lib.hid hnil
                   clear hnil
                   go_wp2_with (go_at_call 15; refine (flyingN w [] N (fullP 2) _ 0 1 0 1 _ HI.out rfl rfl (by omega) (by omega) full01 (by rw [setS_same]; exact hW.out)).mono ?_; rintro e w3 ⟨⟨v3, rfl, o3⟩, k3⟩; rw [setS_same, HL.out] at o3; obtain ⟨A3, c3, rfl⟩ := own_slice o3; have H3 := Lib.hid (HI.out.keep k3); have K3 := kr.call k3; clear o3)
                   obtain ⟨g1, g2, g3, g4⟩ := HRD.out.again HNIL.out
                   have G1 := Lib.hid g1
                   have G2 := Lib.hid g2
                   have G3 := Lib.hid g3
                   have G4 := Lib.hid g4
                   clear g1 g2 g3 g4
                   go_wp2_with (go_at_call 12; refine (againN w [] N (fullP 2) _ 0 1 0 1 _ H3.out K3 rfl rfl (by omega) (by omega) full01 (by rw [setS_same]; exact hT.out) (by rw [setS_same]; exact hW.out)).mono ?_; rintro e w5 ⟨rfl, h5⟩; rw [setS_same, setS_twice] at h5; rw [setS_same]; have H5 := Lib.hid h5; clear h5)
                   go_roundw
                   case rel => first | exact ⟨r + 1, C, agS y, by omega, hC, by go_num, by go_num, G1, Lib.hid (by rw [G3.out]; exact HTL.out), Lib.hid (by rw [G2.out]; exact HLO.out), fun h2 => by rw [G3.out, G2.out]; exact G4.out (by omega), H5.out.1, H5.out.2.1⟩ | ((repeat apply Exists.intro); exact ⟨⟨r + 1, C, agS y, by omega, hC, by go_num, by go_num, G1, Lib.hid (by rw [G3.out]; exact HTL.out), Lib.hid (by rw [G2.out]; exact HLO.out), fun h2 => by rw [G3.out, G2.out]; exact G4.out (by omega), H5.out.1, H5.out.2.1⟩, rfl⟩)
                   case measure => simp [intOf]; omega
                 · have d3 : decide ((0 : Int) < L) = true := by simp; omega
                   have hok : SesOk y := by have := HI.out.sesOk (a := 0) (c := 1) (by omega) (by omega) full01; rw [setS_same] at this; exact this
                   have HOK := Lib.hid hok
                   clear hok
                   obtain ⟨q, l, hql⟩ : ∃ q l, y.way = q :: l := by
                     have := HL.out
                     cases hy : y.way with
                     | nil => rw [hy] at this; simp at this; omega
                     | cons q l => exact ⟨q, l, rfl⟩
                   obtain ⟨p1, p2⟩ := pick_first hql
                   have hrd := HRD.out
                   rw [show 40 - k = (40 - (k + 1)) + 1 by omega] at hrd
                   obtain ⟨p3, p4, p5⟩ := hrd.pick HOK.out hql
                   have P1 := Lib.hid p1
                   have P3 := Lib.hid p3
                   have P4 := Lib.hid p4
                   have P5 := Lib.hid p5
                   have P6 := Lib.hid p3.lo
                   clear p1 p2 p3 p4 p5 hrd hql
                   have hq2 : q = y.lo ∨ ¬ q = y.lo := Decidable.em _
                   rcases hq2 with hq2 | hq2
                   · rw [decide_eq_true hq2] at P1
                     rw [if_pos hq2] at P4
                     clear hq2
                     have hC2 : C + 1 ≤ P0 := by have := HLO.out; have := P4.out; have := congrArg List.length P5.out; have := P6.out; have := HTL.out; omega
                     go_wp2_with (first | (go_at_call 15; refine (flyingN w [] N (fullP 2) _ 0 1 0 1 _ HI.out rfl rfl (by omega) (by omega) full01 (by rw [setS_same]; exact hW.out)).mono ?_; rintro e w3 ⟨⟨v3, rfl, o3⟩, k3⟩; rw [setS_same, HL.out] at o3; obtain ⟨A3, c3, rfl⟩ := own_slice o3; have H3 := Lib.hid (HI.out.keep k3); have K3 := kr.call k3; clear o3) | (go_at_call 13; refine (pickN w [] N (fullP 2) _ 0 1 0 1 _ H3.out K3 rfl rfl (by omega) (by omega) 0 0 full01 (by rw [setS_same]; exact hT.out) (by rw [setS_same]; exact hW.out)).mono ?_; rintro e w5 ⟨rfl, h5⟩; rw [setS_same, bits0, setS_twice] at h5; rw [setS_same, bits0, P1.out]; unfold told; have H5 := Lib.hid h5; clear h5))
                     go_roundw
                     case rel => first | exact ⟨k + 1, C + 1, pickS y 0 0, by omega, hC2, by go_num, by go_num, P3, Lib.hid (P5.out ▸ HTL.out), Lib.hid (by have := HLO.out; have := P4.out; omega), H5.out.1, H5.out.2.1⟩ | ((repeat apply Exists.intro); exact ⟨⟨k + 1, C + 1, pickS y 0 0, by omega, hC2, by go_num, by go_num, P3, Lib.hid (by rw [P5.out]; exact HTL.out), Lib.hid (by have := HLO.out; have := P4.out; omega), H5.out.1, H5.out.2.1⟩, rfl⟩)
                     case measure => simp [intOf]; omega
                   · rw [decide_eq_false hq2] at P1
                     rw [if_neg hq2] at P4
                     clear hq2
                     go_wp2_with (first | (go_at_call 15; refine (flyingN w [] N (fullP 2) _ 0 1 0 1 _ HI.out rfl rfl (by omega) (by omega) full01 (by rw [setS_same]; exact hW.out)).mono ?_; rintro e w3 ⟨⟨v3, rfl, o3⟩, k3⟩; rw [setS_same, HL.out] at o3; obtain ⟨A3, c3, rfl⟩ := own_slice o3; have H3 := Lib.hid (HI.out.keep k3); have K3 := kr.call k3; clear o3) | (go_at_call 13; refine (pickN w [] N (fullP 2) _ 0 1 0 1 _ H3.out K3 rfl rfl (by omega) (by omega) 0 0 full01 (by rw [setS_same]; exact hT.out) (by rw [setS_same]; exact hW.out)).mono ?_; rintro e w5 ⟨rfl, h5⟩; rw [setS_same, bits0, setS_twice] at h5; rw [setS_same, bits0, P1.out]; unfold told; have H5 := Lib.hid h5; clear h5))
                     go_roundw
                     case rel => first | exact ⟨k + 1, C, pickS y 0 0, by omega, hC, by go_num, by go_num, P3, Lib.hid (by rw [P5.out]; exact HTL.out), Lib.hid (by have := HLO.out; have := P4.out; omega), H5.out.1, H5.out.2.1⟩ | ((repeat apply Exists.intro); exact ⟨⟨k + 1, C, pickS y 0 0, by omega, hC, by go_num, by go_num, P3, Lib.hid (by rw [P5.out]; exact HTL.out), Lib.hid (by have := HLO.out; have := P4.out; omega), H5.out.1, H5.out.2.1⟩, rfl⟩)
                     case measure => simp [intOf]; omega
               · obtain rfl : k = 40 := by omega
                 have d2 : decide ((40 : Int) < 40) = false := by simp
                 have hnil : y.way = [] := List.eq_nil_of_length_eq_zero (by have := HRD.out.way; omega)
                 have HNIL := Lib.hid hnil
                 clear hnil
                 obtain ⟨g1, g2, g3, g4⟩ := HRD.out.again HNIL.out
                 have G1 := Lib.hid g1
                 have G2 := Lib.hid g2
                 have G3 := Lib.hid g3
                 have G4 := Lib.hid g4
                 clear g1 g2 g3 g4
                 go_wp2_with (go_at_call 12; refine (againN w [] N (fullP 2) _ 0 1 0 1 _ HI.out kr rfl rfl (by omega) (by omega) full01 (by rw [setS_same]; exact hT.out) (by rw [setS_same]; exact hW.out)).mono ?_; rintro e w5 ⟨rfl, h5⟩; rw [setS_same, setS_twice] at h5; rw [setS_same]; have H5 := Lib.hid h5; clear h5)
                 go_roundw
                 case rel => first | exact ⟨r + 1, C, agS y, by omega, hC, by go_num, by go_num, G1, Lib.hid (by rw [G3.out]; exact HTL.out), Lib.hid (by rw [G2.out]; exact HLO.out), fun h2 => by rw [G3.out, G2.out]; exact G4.out (by omega), H5.out.1, H5.out.2.1⟩ | ((repeat apply Exists.intro); exact ⟨⟨r + 1, C, agS y, by omega, hC, by go_num, by go_num, G1, Lib.hid (by rw [G3.out]; exact HTL.out), Lib.hid (by rw [G2.out]; exact HLO.out), fun h2 => by rw [G3.out, G2.out]; exact G4.out (by omega), H5.out.1, H5.out.2.1⟩, rfl⟩)
                 case measure => simp [intOf]; omega
           · obtain rfl : r = 10 := by omega
             have d1 : decide ((10 : Int) < 10) = false := by simp
             have hfin := HEN.out (by omega)
             have hCP : C = P0 := by have := HLO.out; have := HTL.out; omega
             subst hCP
             have HFIN := Lib.hid hfin
             have HT := Lib.hid HRD.out.T
             have hz : Hid (y.T.length - y.lo = 0) := by unfold Hid; omega
             clear hfin
             go_wp2_with (first | (go_at_call 16; refine (nidle_any w [] N (fullP 2) _ _ HI.out (by intro a c _ _ _; have := HT.out; unfold setS; split <;> simp [st0, ses0] <;> omega)).mono ?_; rintro e w7 ⟨⟨B, rfl, hB⟩, k7⟩; obtain rfl : B = true := hB.2 (by intro a c _ _ _; have := HFIN.out; unfold setS; split <;> simp [st0, ses0] <;> omega); have H7 := Lib.hid (HI.out.keep k7); have K7 := kr.call k7) | (go_at_call 14; refine (openN w [] N (fullP 2) _ 0 1 0 1 _ H7.out rfl rfl (by omega) (by omega) full01 (by rw [setS_same]; have := HT.out; omega)).mono ?_; rintro e w8 ⟨rfl, k8⟩; rw [setS_same, hz.out]))
             all_goals (go_ret; exact ⟨rfl, K7.call k8⟩))
end Go.Proofs.Ytbofoafcglmboaa
