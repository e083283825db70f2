/- The walk of the law NetRoom: it returns true for every two numbers. -/
import Derived.Test.YtbofoafcglmboaaNetG
set_option linter.unusedSimpArgs false
set_option linter.unusedVariables false
namespace Go.Proofs.Ytbofoafcglmboaa
open Go.RowKit Go.Maps

def dT : ByteArray := ⟨#[100]⟩
def dS (i : Nat) : Ses := ⟨List.replicate i dT, 0, List.range i⟩
theorem dS_send (i : Nat) (h : i < 8) : sendS (dS i) dT = dS (i + 1) ∧ sendE (dS i) = 0 := by
  have e : (dS i).T.length - (dS i).lo < 8 := by simp [dS]; omega
  refine ⟨?_, by simp [sendE, e]⟩
  unfold sendS
  rw [if_pos e]
  simp [dS, List.replicate_succ', List.range_succ]
theorem dS_zero : setS st0 1 0 (dS 0) = st0 := by
  funext i j; unfold setS; split <;> rfl
/-- A session of M texts, of which none was told, W packets on their way. -/
def Rm (M W : Nat) (x : Ses) : Prop := x.T = List.replicate M dT ∧ x.lo = 0 ∧ x.way.length = W ∧ (0 < W → ∀ q ∈ x.way, q < M)
theorem Rm.again {M W : Nat} {x : Ses} (h : Rm M W x) : agK x.T x.lo x.way = min M (32 - W) ∧ Rm M (W + min M (32 - W)) (agS x) := by
  obtain ⟨h1, h2, h3, h4⟩ := h
  have e : agK x.T x.lo x.way = min M (32 - W) := by simp [agK, h1, h2, h3]
  refine ⟨e, h1, h2, ?_, ?_⟩
  · show (agWay _ _ _).length = _
    unfold agWay
    rw [List.length_append, List.length_map, List.length_range, e, h3]
  · intro _ q hq
    have hq : q ∈ agWay x.T x.lo x.way := hq
    unfold agWay at hq
    rw [e] at hq
    rcases List.mem_append.1 hq with hq | hq
    · refine h4 ?_ q hq
      rw [← h3]; exact List.length_pos_of_mem hq
    · obtain ⟨i, hi, rfl⟩ := List.mem_map.1 hq
      have := List.mem_range.1 hi
      rw [h2]; omega
theorem Rm.double {M W : Nat} {x : Ses} (h : Rm M W x) (hW : 0 < W) : Rm M (if W < 32 then W + 1 else W) (pickS x 0 2) := by
  obtain ⟨h1, h2, h3, h4⟩ := h
  have hq : pickQ x 0 = some (x.way[0]'(by omega)) := by
    unfold pickQ
    rw [if_neg (by omega)]
    exact List.getElem?_eq_getElem (by omega)
  unfold pickS
  rw [hq]
  simp only [if_true, h3]
  by_cases h32 : W < 32
  · rw [if_pos h32, if_pos h32]
    refine ⟨h1, h2, by simp [h3], fun _ q hq => ?_⟩
    rcases List.mem_append.1 hq with hq | hq
    · exact h4 hW q hq
    · have : q = x.way[0]'(by omega) := by simpa using hq
      rw [this]; exact h4 hW _ (List.getElem_mem _)
  · rw [if_neg h32, if_neg h32]
    exact ⟨h1, h2, h3, h4⟩
theorem dS_rm (M : Nat) : Rm M M (dS M) := ⟨rfl, rfl, by simp [dS], fun _ q hq => by simpa [dS] using hq⟩
theorem pickB_double (x : Ses) (i : Int) : pickB x i 2 = false := by simp [pickB]
set_option maxHeartbeats 4000000 in
set_option maxRecDepth 20000 in
theorem netRoom_walk (n a : Int) (w : World) (_ : (Lit.int .i64 n).wf = true) (_ : (Lit.int .i64 a).wf = true) :
    Calls Try.prog 7 #[.int .i64 n, .int .i64 a] w fun e w' => e = .returned (.bool true) ∧ Kept w w' := by
  obtain ⟨M, hM, hM8⟩ : ∃ M : Nat, bits .and .i64 n 7 = (M : Int) ∧ M ≤ 7 := by
    have := and_bd n 7 (by omega) (by omega)
    exact ⟨(bits .and .i64 n 7).toNat, by omega, by omega⟩
  obtain ⟨R, hR, hR15⟩ : ∃ R : Nat, bits .and .i64 a 15 = (R : Int) ∧ R ≤ 15 := by
    have := and_bd a 15 (by omega) (by omega)
    exact ⟨(bits .and .i64 a 15).toNat, by omega, by omega⟩
  go_enter Try.func7, Try.ntmps7
  go_wp2_with (first | (go_at_call 9; refine (awake_any _).mono ?_; rintro e w1 ⟨rfl, hb1⟩) | (go_at_call 10; refine (new_any 2 _ (by omega) (by omega)).mono ?_; rintro e w2 ⟨N, rfl, hN, k2⟩))
  have HN0 : Hid (NetIn w [] w2 N (fullP 2) (setS st0 1 0 (dS 0))) := by
    rw [dS_zero]
    exact hN.under hb1
  have K2 : Kept w w2 := hb1.call k2
  clear hN hb1 k2
  go_loopw [8] (fun iv wr => ∃ i : Nat, i ≤ 1 + M ∧ iv = .int .i64 i ∧ Hid (NetIn w [] wr N (fullP 2) (setS st0 1 0 (dS i))) ∧ Kept w wr) (fun iv _ => 1 + M - (intOf iv).toNat)
  case atStart => exact ⟨0, by omega, rfl, HN0, K2⟩
  case round =>
    obtain ⟨i, hi, rfl, HI, kr⟩ := hrel
    by_cases hlt : i < 1 + M
    · have e1 : decide ((i : Int) < 1 + M) = true := by simp; omega
      obtain ⟨s1, s2⟩ := dS_send i (by omega)
      have HS1 := Lib.hid s1
      have HS2 := Lib.hid s2
      clear s1 s2
      go_wp2_with (go_at_call 11; refine (sendN w [] N (fullP 2) _ 1 0 1 0 _ HI.out kr rfl rfl (by omega) (by omega) dT full10 (by rw [setS_same]; simp [dS]; omega) (by rw [setS_same]; simp [dS]; omega)).mono ?_; rintro e w3 ⟨rfl, h3⟩; rw [setS_same, setS_twice, HS1.out] at h3; rw [setS_same, HS2.out]; have H3 := Lib.hid h3; clear h3)
      go_roundw
      case rel => first | exact ⟨i + 1, by omega, by go_num, Lib.hid H3.out.1, H3.out.2.1⟩ | ((repeat apply Exists.intro); exact ⟨⟨i + 1, by omega, by go_num, Lib.hid H3.out.1, H3.out.2.1⟩, rfl⟩)
      case measure => simp [intOf]; omega
    · obtain rfl : i = 1 + M := by omega
      have e1 : decide ((1 + M : Int) < 1 + M) = false := by simp
      clear HN0 K2 w2
      have HD := Lib.hid (dS_rm (1 + M))
      obtain ⟨x0, hx0⟩ : ∃ x0, dS (1 + M) = x0 := ⟨_, rfl⟩
      rw [hx0] at HD HI
      clear hx0
      go_wp2_with fail
      go_loopw [9, 10] (fun lv iv wr => ∃ (i W : Nat) (x : Ses), i ≤ R ∧ 1 + M ≤ W ∧ W ≤ 32 ∧ lv = .int .i64 W ∧ iv = .int .i64 i ∧ Hid (Rm (1 + M) W x) ∧ Hid (NetIn w [] wr N (fullP 2) (setS st0 1 0 x)) ∧ Kept w wr) (fun _ iv _ => R - (intOf iv).toNat)
      case atStart => exact ⟨0, 1 + M, x0, by omega, by omega, by omega, by go_num, rfl, HD, HI, kr⟩
      case round =>
        clear HI kr HD
        obtain ⟨i, W, x, hi, hW1, hW2, rfl, rfl, HX, HI, kr⟩ := hrel
        have hT : x.T.length ≤ 1000 := by rw [HX.out.1]; simp; omega
        have hw : x.way.length ≤ 1000 := by rw [HX.out.2.2.1]; omega
        have HT := Lib.hid hT
        have HW := Lib.hid hw
        clear hT hw
        by_cases hgo : i < R
        · have e2 : decide ((i : Int) < R) = true := by simp; omega
          obtain ⟨a1, a2⟩ := HX.out.again
          have A1 := Lib.hid a1
          have A2 := Lib.hid a2
          clear a1 a2
          by_cases hroom : (1 + M : Int) < 32 - W
          · have hk : Hid (min (1 + M) (32 - W) = 1 + M) := by unfold Hid; omega
            have e3 : decide ((1 + M : Int) < 32 - W) = true := decide_eq_true hroom
            go_wp2_with (go_at_call 12; refine (againN w [] N (fullP 2) _ 1 0 1 0 _ HI.out kr rfl rfl (by omega) (by omega) full10 (by rw [setS_same]; exact HT.out) (by rw [setS_same]; exact HW.out)).mono ?_; rintro e w5 ⟨rfl, h5⟩; rw [setS_same, setS_twice] at h5; rw [setS_same]; simp only [A1.out, hk.out]; have H5 := Lib.hid h5; clear h5)
            all_goals
              (go_roundw
               case rel => first | exact ⟨i + 1, W + (1 + M), agS x, by omega, by omega, by omega, by go_num, by go_num, by have := A2.out; rw [hk.out] at this; exact this, H5.out.1, H5.out.2.1⟩ | ((repeat apply Exists.intro); exact ⟨⟨i + 1, W + (1 + M), agS x, by omega, by omega, by omega, by go_num, by go_num, by have := A2.out; rw [hk.out] at this; exact this, H5.out.1, H5.out.2.1⟩, rfl⟩)
               case measure => simp [intOf]; omega)
          · have hk : Hid (min (1 + M) (32 - W) = 32 - W) := by unfold Hid; omega
            have e3 : decide ((1 + M : Int) < 32 - W) = false := decide_eq_false hroom
            have e4 : (((32 - W : Nat) : Int)) = 32 - (W : Int) := by omega
            have E4 := Lib.hid e4
            clear e4
            go_wp2_with (go_at_call 12; refine (againN w [] N (fullP 2) _ 1 0 1 0 _ HI.out kr rfl rfl (by omega) (by omega) full10 (by rw [setS_same]; exact HT.out) (by rw [setS_same]; exact HW.out)).mono ?_; rintro e w5 ⟨rfl, h5⟩; rw [setS_same, setS_twice] at h5; rw [setS_same]; simp only [A1.out, hk.out, E4.out]; have H5 := Lib.hid h5; clear h5)
            all_goals
              (go_roundw
               case rel => first | exact ⟨i + 1, W + (32 - W), agS x, by omega, by omega, by omega, by go_num, by go_num, by have := A2.out; rw [hk.out] at this; exact this, H5.out.1, H5.out.2.1⟩ | ((repeat apply Exists.intro); exact ⟨⟨i + 1, W + (32 - W), agS x, by omega, by omega, by omega, by go_num, by go_num, by have := A2.out; rw [hk.out] at this; exact this, H5.out.1, H5.out.2.1⟩, rfl⟩)
               case measure => simp [intOf]; omega)
        · have e2 : decide ((i : Int) < R) = false := by simp; omega
          have d1 := HX.out.double (by omega)
          rcases Nat.lt_or_ge W 32 with h32 | h32
          all_goals
            (first | rw [if_pos h32] at d1 | rw [if_neg (by omega)] at d1
             have D1 := Lib.hid d1
             clear d1
             have e5 : (decide ((W : Int) < 32) = true ∧ W < 32) ∨ (decide ((W : Int) < 32) = false ∧ ¬ W < 32) := by
               by_cases h : W < 32
               · exact .inl ⟨by simp; omega, h⟩
               · exact .inr ⟨by simp; omega, h⟩
             go_wp2_with (go_at_call 13; refine (pickN w [] N (fullP 2) _ 1 0 1 0 _ HI.out kr rfl rfl (by omega) (by omega) 0 2 full10 (by rw [setS_same]; exact HT.out) (by rw [setS_same]; exact HW.out)).mono ?_; rintro e w3 ⟨rfl, h3⟩; rw [setS_same, bits2, setS_twice] at h3; rw [setS_same, bits2, pickB_double]; unfold told; have H3 := Lib.hid h3; clear h3)
             all_goals (try (exfalso; omega))
             go_wp2_with (go_at_call 15; refine (flyingN w [] N (fullP 2) _ 1 0 1 0 _ H3.out.1 rfl rfl (by omega) (by omega) full10 (by rw [setS_same, D1.out.2.2.1]; omega)).mono ?_; rintro e w6 ⟨⟨v6, rfl, o6⟩, k6⟩; rw [setS_same, D1.out.2.2.1] at o6; obtain ⟨A6, c6, rfl⟩ := own_slice o6; have H6 := Lib.hid (H3.out.1.keep k6); have K6 := H3.out.2.1.call k6; clear o6)
             go_wp2_with (go_at_call 14; refine (openN w [] N (fullP 2) _ 1 0 1 0 _ H6.out rfl rfl (by omega) (by omega) full10 (by rw [setS_same, D1.out.1]; simp; omega)).mono ?_; rintro e w8 ⟨rfl, k8⟩; rw [setS_same, D1.out.1, D1.out.2.1]; simp only [List.length_replicate, Nat.sub_zero])
             all_goals (go_ret; exact ⟨rfl, K6.call k8⟩))
end Go.Proofs.Ytbofoafcglmboaa
