/- The walk of the law NetDrops: it returns true for every number and every numbers that tell what is dropped. -/
import Derived.Test.YtbofoafcglmboaaNetG
import Derived.Test.YtbofoafcglmboaaRow
set_option linter.unusedSimpArgs false
set_option linter.unusedVariables false
namespace Go.Proofs.Ytbofoafcglmboaa
open Go.RowKit Go.Maps

def dT : ByteArray := ⟨#[100]⟩
def dS (i : Nat) : Ses := ⟨List.replicate i dT, 0, List.range i⟩
theorem dS_send (i : Nat) (h : i < 8) : sendS (dS i) dT = dS (i + 1) ∧ sendE (dS i) = 0 := by
  have e : (dS i).T.length - (dS i).lo < 8 := by simp [dS]; omega
  refine ⟨?_, by simp [sendE, e]⟩
  unfold sendS
  rw [if_pos e]
  simp [dS, List.replicate_succ', List.range_succ]
theorem st10 (x : Ses) : setS st0 0 1 x 1 0 = ses0 := rfl
theorem dS_zero : setS st0 0 1 (dS 0) = st0 := by
  funext i j; unfold setS; split <;> rfl
theorem pick_drop (M : Nat) (way : List Nat) (d : Nat) : ∃ way', pickS ⟨List.replicate M dT, 0, way⟩ d 1 = ⟨List.replicate M dT, 0, way'⟩ ∧ way'.length = (if d < way.length then way.length - 1 else way.length) := by
  unfold pickS pickQ
  rw [if_neg (by omega)]
  simp only [Int.toNat_natCast]
  by_cases h : d < way.length
  · rw [List.getElem?_eq_getElem h, if_pos h]
    exact ⟨_, rfl, by rw [List.length_eraseIdx, if_pos h]⟩
  · rw [List.getElem?_eq_none (by omega), if_neg h]
    exact ⟨_, rfl, rfl⟩
theorem pickB_drop (x : Ses) (i : Int) : pickB x i 1 = false := by simp [pickB]
theorem ag_drop (M : Nat) (way : List Nat) (hM : M ≤ 8) (hl : way.length ≤ M) : agK (List.replicate M dT) 0 way = M ∧ ((agS ⟨List.replicate M dT, 0, way⟩).way).length = way.length + M := by
  have e : agK (List.replicate M dT) 0 way = M := by simp [agK]; omega
  refine ⟨e, ?_⟩
  show (agWay _ _ _).length = _
  unfold agWay
  rw [List.length_append, List.length_map, List.length_range, e]
set_option maxHeartbeats 4000000 in
set_option maxRecDepth 20000 in
theorem netDrops_walk (n : Int) (A : Option Addr) (m c : Nat) (x : Nat → Int) (w : World) (_ : (Lit.int .i64 n).wf = true) (r : RowAt w A m c 1 (fun i => [.int .i64 (x i)])) (_r2 : ∀ i, i < m → (Lit.int .i64 (x i)).wf = true) :
    Calls Try.prog 6 #[.int .i64 n, .slice A m c] w fun e w' => e = .returned (.bool true) ∧ Kept w w' := by
  have HR := Lib.hid r
  have hmb := r.2.1
  have hmc := r.1
  unfold maxLen at hmb
  obtain ⟨M, hM, hM8⟩ : ∃ M : Nat, bits .and .i64 n 7 = (M : Int) ∧ M ≤ 7 := by
    have := and_bd n 7 (by omega) (by omega)
    exact ⟨(bits .and .i64 n 7).toNat, by omega, by omega⟩
  clear r
  go_enter Try.func6, Try.ntmps6
  go_wp2_with (first | (go_at_call 9; refine (awake_any _).mono ?_; rintro e w1 ⟨rfl, hb1⟩) | (go_at_call 10; refine (new_any 2 _ (by omega) (by omega)).mono ?_; rintro e w2 ⟨N, rfl, hN, k2⟩))
  have HN0 : Hid (NetIn w [] w2 N (fullP 2) (setS st0 0 1 (dS 0))) := by
    rw [dS_zero]
    exact hN.under hb1
  have K2 : Kept w w2 := hb1.call k2
  clear hN hb1 k2
  go_loopw [8] (fun iv wr => ∃ i : Nat, i ≤ 1 + M ∧ iv = .int .i64 i ∧ Hid (NetIn w [] wr N (fullP 2) (setS st0 0 1 (dS i))) ∧ Kept w wr) (fun iv _ => 1 + M - (intOf iv).toNat)
  case atStart => exact ⟨0, by omega, rfl, HN0, K2⟩
  case round =>
    obtain ⟨i, hi, rfl, HI, kr⟩ := hrel
    by_cases hlt : i < 1 + M
    · have e1 : decide ((i : Int) < 1 + M) = true := by simp; omega
      obtain ⟨s1, s2⟩ := dS_send i (by omega)
      have HS1 := Lib.hid s1
      have HS2 := Lib.hid s2
      clear s1 s2
      go_wp2_with (go_at_call 11; refine (sendN w [] N (fullP 2) _ 0 1 0 1 _ HI.out kr rfl rfl (by omega) (by omega) dT full01 (by rw [setS_same]; simp [dS]; omega) (by rw [setS_same]; simp [dS]; omega)).mono ?_; rintro e w3 ⟨rfl, h3⟩; rw [setS_same, setS_twice, HS1.out] at h3; rw [setS_same, HS2.out]; have H3 := Lib.hid h3; clear h3)
      go_roundw
      case rel => exact ⟨i + 1, by omega, by go_num, Lib.hid H3.out.1, H3.out.2.1⟩
      case measure => simp [intOf]; omega
    · obtain rfl : i = 1 + M := by omega
      have e1 : decide ((1 + M : Int) < 1 + M) = false := by simp
      clear HN0 K2 w2
      go_wp2_with fail
      go_loopw [9, 10] (fun lv iv wr => ∃ (i L : Nat) (way : List Nat), i ≤ 10 ∧ i ≤ m ∧ L ≤ 1 + M ∧ lv = .int .i64 L ∧ iv = .int .i64 i ∧ Hid (way.length = L) ∧ Hid (NetIn w [] wr N (fullP 2) (setS st0 0 1 ⟨List.replicate (1 + M) dT, 0, way⟩)) ∧ Kept w wr) (fun _ iv _ => 10 - (intOf iv).toNat)
      case atStart => exact ⟨0, 1 + M, List.range (1 + M), by omega, by omega, by omega, by go_num, rfl, List.length_range, HI, kr⟩
      case round =>
        clear HI kr
        obtain ⟨i, L, way, hi, him, hL, rfl, rfl, hwl, HI, kr⟩ := hrel
        by_cases hgo : i < m ∧ i < 10
        · have e2 : decide ((i : Int) < m) = true := by simp; omega
          have e3 : decide ((i : Int) < 10) = true := by simp; omega
          obtain ⟨b, off, rfl, hbl, hc⟩ := HR.out.2.2.2 (by omega)
          have cw : w.cell? ⟨b, off + i, none⟩ = some (.int .i64 (x i)) := by
            have := hc i hgo.1 0 _ rfl
            simpa using this
          have cx := kr.at_ cw
          have hbw : b < wr.heap.size := World.block_lt_of_cell? wr _ cx
          clear hc
          generalize x i = y at *
          have CW := Lib.hid cw
          clear cw
          obtain ⟨d, hd, hd7⟩ : ∃ d : Nat, bits .and .i64 y 7 = (d : Int) ∧ d ≤ 7 := by
            have := and_bd y 7 (by omega) (by omega)
            exact ⟨(bits .and .i64 y 7).toNat, by omega, by omega⟩
          obtain ⟨way', hp1, hp2⟩ := pick_drop (1 + M) way d
          rw [hwl.out] at hp2
          have HP1 := Lib.hid hp1
          have HP2 := Lib.hid hp2
          clear hp1 hp2
          by_cases hdl : d < L
          · have e4 : decide ((d : Int) < L) = true := by simp; omega
            go_wp2_with (go_at_call 13; refine (pickN w [] N (fullP 2) _ 0 1 0 1 _ HI.out kr rfl rfl (by omega) (by omega) d 1 full01 (by rw [setS_same]; simp; omega) (by rw [setS_same]; simp; have := hwl.out; omega)).mono ?_; rintro e w3 ⟨rfl, h3⟩; rw [setS_same, bits1, setS_twice, HP1.out] at h3; rw [setS_same, bits1, pickB_drop]; unfold told; have H3 := Lib.hid h3; have cx := h3.2.1.at_ CW.out; clear h3)
            go_roundw
            case rel => first | exact ⟨i + 1, L - 1, way', by omega, by omega, by omega, by go_num, by go_num, Lib.hid (by rw [HP2.out, if_pos hdl]), Lib.hid H3.out.1, H3.out.2.1⟩ | ((repeat apply Exists.intro); exact ⟨⟨i + 1, L - 1, way', by omega, by omega, by omega, by go_num, by go_num, Lib.hid (by rw [HP2.out, if_pos hdl]), Lib.hid H3.out.1, H3.out.2.1⟩, rfl⟩)
            case measure => simp [intOf]; omega
          · have e4 : decide ((d : Int) < L) = false := by simp; omega
            go_wp2_with (go_at_call 13; refine (pickN w [] N (fullP 2) _ 0 1 0 1 _ HI.out kr rfl rfl (by omega) (by omega) d 1 full01 (by rw [setS_same]; simp; omega) (by rw [setS_same]; simp; have := hwl.out; omega)).mono ?_; rintro e w3 ⟨rfl, h3⟩; rw [setS_same, bits1, setS_twice, HP1.out] at h3; rw [setS_same, bits1, pickB_drop]; unfold told; have H3 := Lib.hid h3; have cx := h3.2.1.at_ CW.out; clear h3)
            go_roundw
            case rel => first | exact ⟨i + 1, L, way', by omega, by omega, by omega, by go_num, by go_num, Lib.hid (by rw [HP2.out, if_neg hdl]), Lib.hid H3.out.1, H3.out.2.1⟩ | ((repeat apply Exists.intro); exact ⟨⟨i + 1, L, way', by omega, by omega, by omega, by go_num, by go_num, Lib.hid (by rw [HP2.out, if_neg hdl]), Lib.hid H3.out.1, H3.out.2.1⟩, rfl⟩)
            case measure => simp [intOf]; omega
        · obtain ⟨a1, a2⟩ := ag_drop (1 + M) way (by omega) (by rw [hwl.out]; exact hL)
          rw [hwl.out] at a2
          have A1 := Lib.hid a1
          have A2 := Lib.hid a2
          clear a1 a2
          have eL : ((L + (1 + M) : Nat) : Int) = (L : Int) + (1 + M) := by omega
          have EL := Lib.hid eL
          clear eL
          have hcase : decide ((i : Int) < m) = false ∨ (decide ((i : Int) < m) = true ∧ decide ((i : Int) < 10) = false) := by
            by_cases h : i < m
            · exact .inr ⟨by simp; omega, by simp; omega⟩
            · exact .inl (by simp; omega)
          rcases hcase with e2 | ⟨e2, e3⟩
          all_goals
            (go_wp2_with (go_at_call 15; refine (flyingN w [] N (fullP 2) _ 0 1 0 1 _ HI.out rfl rfl (by omega) (by omega) full01 (by rw [setS_same]; have := hwl.out; simp; omega)).mono ?_; rintro e w3 ⟨⟨v3, rfl, o3⟩, k3⟩; rw [setS_same] at o3; obtain ⟨A3, c3, rfl⟩ := own_slice o3; (try simp only [hwl.out]); have H3 := Lib.hid (HI.out.keep k3); have K3 := kr.call k3; clear o3)
             go_wp2_with (go_at_call 14; refine (openN w [] N (fullP 2) _ 0 1 0 1 _ H3.out rfl rfl (by omega) (by omega) full01 (by rw [setS_same]; simp; omega)).mono ?_; rintro e w4 ⟨rfl, k4⟩; rw [setS_same]; simp only [List.length_replicate, Nat.sub_zero]; have H4 := Lib.hid (H3.out.keep k4); have K4 := K3.call k4)
             go_wp2_with (go_at_call 12; refine (againN w [] N (fullP 2) _ 0 1 0 1 _ H4.out K4 rfl rfl (by omega) (by omega) full01 (by rw [setS_same]; simp; omega) (by rw [setS_same]; have := hwl.out; simp; omega)).mono ?_; rintro e w5 ⟨rfl, h5⟩; rw [setS_same, setS_twice] at h5; rw [setS_same]; simp only [A1.out]; have H5 := Lib.hid h5; clear h5)
             go_wp2_with (go_at_call 15; refine (flyingN w [] N (fullP 2) _ 0 1 0 1 _ H5.out.1 rfl rfl (by omega) (by omega) full01 (by rw [setS_same, A2.out]; omega)).mono ?_; rintro e w6 ⟨⟨v6, rfl, o6⟩, k6⟩; rw [setS_same, A2.out] at o6; obtain ⟨A6, c6, rfl⟩ := own_slice o6; have H6 := Lib.hid (H5.out.1.keep k6); have K6 := H5.out.2.1.call k6; clear o6)
             go_wp2_with (go_at_call 16; refine (nidle_any w [] N (fullP 2) _ _ H6.out (by intro a c _ _ _; unfold setS; split <;> simp [agS, st0, ses0] <;> omega)).mono ?_; rintro e w7 ⟨⟨B, rfl, hB⟩, k7⟩; obtain rfl : B = false := Bool.eq_false_iff.2 (fun hB1 => absurd (hB.1 hB1 0 1 (by omega) (by omega) full01) (by rw [setS_same]; simp [agS])); have H7 := Lib.hid (H6.out.keep k7); have K7 := K6.call k7)
             go_wp2_with (go_at_call 14; (refine (openN w [] N (fullP 2) _ 1 0 1 0 _ H7.out rfl rfl (by omega) (by omega) full10 (by rw [st10]; simp [ses0])).mono ?_; rintro e w8 ⟨rfl, k8⟩; rw [st10]; simp only [ses0, List.length_nil, Nat.sub_zero]))
             all_goals (go_ret; exact ⟨rfl, K7.call k8⟩))
end Go.Proofs.Ytbofoafcglmboaa
