/- The law TreeTwo: the two sides of a step have all sites, none twice. -/
import Derived.Test.YtcibbcfkehpmiaaTreeH
set_option linter.unusedSimpArgs false
set_option linter.unusedVariables false
namespace Go.Proofs.Ytcibbcfkehpmiaa
open Go.RowKit

theorem path_wk2 {p : List Int} (hp : IsTree p) {a b : Nat} (ha : a < p.length) (hb : b < p.length) : pathOf p a b = wk p a b := by
  unfold pathOf
  rw [if_pos ⟨hp, ⟨by omega, by omega⟩, by omega, by omega⟩, Int.toNat_natCast, Int.toNat_natCast]
theorem first_iff {p : List Int} (hp : IsTree p) {a i : Nat} (b : Nat) (ha : a < p.length) (hi : i < p.length) : firstIs p a b i = true ↔ (wk p a i)[1]? = some b := by
  unfold firstIs
  rw [path_wk2 hp ha hi]
  cases h : (wk p a i)[1]? with
  | none => simp
  | some x => simp; omega
theorem wk_self {p : List Int} (hp : IsTree p) {a : Nat} (ha : a < p.length) : wk p a a = [a] := wk_is hp (W.one ha) ⟨rfl, rfl⟩
theorem wk_cons {p : List Int} (hp : IsTree p) {a b : Nat} (ha : a < p.length) (hb : b < p.length) : ∃ t, wk p a b = a :: t := by
  obtain ⟨_, h2, _⟩ := wk_spec hp ha hb
  cases h : wk p a b with
  | nil => rw [h] at h2; cases h2
  | cons u t => rw [h] at h2; obtain rfl : u = a := by simpa using h2
                exact ⟨t, rfl⟩
/-- Of two near each other just one is on the way from the other one. -/
theorem first_one {p : List Int} (hp : IsTree p) {a b i : Nat} (ha : a < p.length) (hb : b < p.length) (hi : i < p.length) (hn : Nr p a b) : firstIs p a b i = !firstIs p b a i := by
  obtain ⟨t, ht⟩ := wk_cons hp ha hi
  obtain ⟨h1, h2, h3⟩ := wk_spec hp ha hi
  rw [ht] at h1 h3
  cases hf : firstIs p b a i with
  | false =>
    rw [Bool.not_false, first_iff hp b ha hi, ht]
    refine Classical.byContradiction fun hc => ?_
    have hw : W p (b :: a :: t) := h1.cons hb hn.symm (by
      intro e
      rw [List.head?_eq_getElem?] at e
      exact hc (by simpa using e))
    have e := wk_is hp hw (a := b) (b := i) ⟨rfl, by rwa [List.getLast?_cons_cons]⟩
    have : firstIs p b a i = true := by rw [first_iff hp a hb hi, e]; rfl
    rw [hf] at this
    cases this
  | true =>
    rw [Bool.not_true, Bool.eq_false_iff]
    intro hc
    rw [first_iff hp b ha hi, ht] at hc
    rw [first_iff hp a hb hi] at hf
    cases t with
    | nil => simp at hc
    | cons u t =>
      obtain rfl : u = b := by simpa using hc
      have e := wk_is hp h1.tail (a := u) (b := i) ⟨rfl, by rwa [List.getLast?_cons_cons] at h3⟩
      rw [e] at hf
      exact h1.nb 0 a a rfl (by simpa using hf) rfl
theorem first_self {p : List Int} (hp : IsTree p) {a : Nat} (b : Nat) (ha : a < p.length) : firstIs p a b a = false := by
  rw [Bool.eq_false_iff]
  intro h
  rw [first_iff hp b ha ha, wk_self hp ha] at h
  simp at h
theorem side_two {p : List Int} (hp : IsTree p) {a b : Nat} (ha : a < p.length) (hb : b < p.length) (hn : Nr p a b) : ∀ j, j ≤ p.length → sideTo p a b j + sideTo p b a j + 1 = 2 ^ j
  | 0, _ => rfl
  | j + 1, hj => by
    have ih := side_two hp ha hb hn j (by omega)
    have h1 := first_one hp ha hb (i := j) (by omega) hn
    unfold sideTo
    rw [h1, Nat.pow_succ]
    cases firstIs p b a j <;> simp <;> omega
theorem side_pos {p : List Int} {a b : Int} {i : Nat} (h : firstIs p a b i = true) : ∀ j, i < j → 0 < sideTo p a b j
  | 0, hj => by omega
  | j + 1, hj => by
    unfold sideTo
    rcases Nat.lt_or_ge i j with g | g
    · have := side_pos h j g
      omega
    · obtain rfl : i = j := by omega
      rw [h, if_pos rfl]
      have : 0 < 2 ^ i := Nat.pow_pos (by omega)
      omega
theorem both_all : ∀ n : Fin 7, ∀ x : Fin 64, (x : Nat) < 2 ^ (n : Nat) → bits .and .i64 ((x : Nat) : Int) (((2 ^ (n : Nat) - 1 - (x : Nat) : Nat)) : Int) = 0 ∧ bits .or .i64 ((x : Nat) : Int) (((2 ^ (n : Nat) - 1 - (x : Nat) : Nat)) : Int) = ((2 ^ (n : Nat) - 1 : Nat) : Int) := of_decide_eq_true (by kernel_rfl)
theorem both (n x y : Nat) (hn : n ≤ 6) (h : x + y + 1 = 2 ^ n) : bits .and .i64 (x : Int) (y : Int) = 0 ∧ bits .or .i64 (x : Int) (y : Int) = (2 ^ n : Nat) - 1 := by
  have h2 : 2 ^ n ≤ 2 ^ 6 := Nat.pow_le_pow_right (by omega) hn
  have := both_all ⟨n, by omega⟩ ⟨x, by omega⟩ (by show x < 2 ^ n; omega)
  simp only at this
  rw [show 2 ^ n - 1 - x = y by omega] at this
  refine ⟨this.1, this.2.trans ?_⟩
  omega
set_option maxRecDepth 100000 in
set_option maxHeartbeats 4000000 in
theorem treeTwo_walk (A : Option Addr) (m c : Nat) (x : Nat → Int) (tn q0 : Int) (w : World) (r : RowAt w A m c 1 (fun i => [.int .i64 (x i)])) (_r2 : ∀ i, i < m → (Lit.int .i64 (x i)).wf = true) (_wt : (Lit.int .i64 tn).wf = true) (_wa : (Lit.int .i64 q0).wf = true) :
    Calls Try.prog 5 #[.slice A m c, .int .i64 tn, .int .i64 q0] w fun e w' => e = .returned (.bool true) ∧ Kept w w' := by
  have HX := Lib.hid (IntsAt.of_row r)
  clear r _r2 _wa _wt
  generalize (List.range m).map x = l at *
  go_enter Try.func5, Try.ntmps5
  go_wp2_with fail
  refine (awake_any _).mono ?_
  rintro e w1 ⟨rfl, k1⟩
  go_wp2_with fail
  refine (made_any A m c l tn _ (HX.out.keep k1)).mono ?_
  rintro e w2 ⟨p, n, t, g, hn, _, _, rfl, hg, hp, hm, k2⟩
  have K2 : Kept w w2 := k1.call k2
  have HP := Lib.hid hp
  have HM := Lib.hid hm
  have h1 := hm.one
  have h6 := hm.six
  have HT := Lib.hid hm.tree
  have hb0 := tmod_bd q0 (n : Int) (by omega)
  obtain ⟨b, hb1, hb2⟩ : ∃ d : Nat, (q0.tmod n + n).tmod n = d ∧ d < n := by
    have h2 := Int.tmod_nonneg (n : Int) (show 0 ≤ q0.tmod n + n by omega)
    have h3 := Int.tmod_lt_of_pos (q0.tmod n + n) (show 0 < (n : Int) by omega)
    exact ⟨_, (Int.toNat_of_nonneg h2).symm, by omega⟩
  obtain ⟨gb, gf, e, hpc⟩ := hp.2.2.2.2 (by omega)
  cases e
  have cp : w2.cell? ⟨g, b, none⟩ = some (.int .i64 (pa p b)) := by have := hpc b hb2; rwa [Nat.zero_add] at this
  have hlen := hm.len
  have hrng : -1 ≤ pa p b ∧ pa p b < n := by
    obtain ⟨R, hR⟩ := hm.tree
    have := hR.rng b (by omega)
    rwa [hlen] at this
  clear hp hm hn hpc
  have HL := Lib.hid hlen
  clear hlen
  rcases Int.lt_or_le (pa p b) 0 with hneg | hpos
  · generalize pa p b = a at *
    go_wp2_with fail
    refine (check_any _ _ _ p _ HP.out).mono ?_
    rintro e w3 ⟨B, rfl, hB, k3⟩
    obtain rfl : B = true := hB.2 HT.out
    clear hB
    go_wp2_with fail
    go_ret
    exact ⟨rfl, K2.call k3⟩
  · obtain ⟨a, ha⟩ := Int.eq_ofNat_of_zero_le hpos
    have ha2 : a < n := by omega
    have hnr : Hid (Nr p a b) := .inr ha
    rw [ha] at cp
    have d0 : decide (((a : Nat) : Int) < 0) = false := by simp
    have hS : Hid (sideTo p a b n + sideTo p b a n + 1 = 2 ^ n) := side_two HT.out (by rw [HL.out]; exact ha2) (by rw [HL.out]; exact hb2) hnr.out n (by rw [HL.out]; exact Nat.le_refl _)
    have hX : Hid (0 < sideTo p a b n) := by
      refine side_pos (i := b) ?_ n hb2
      rw [first_one HT.out (by rw [HL.out]; exact ha2) (by rw [HL.out]; exact hb2) (by rw [HL.out]; exact hb2) hnr.out, first_self HT.out a (by rw [HL.out]; exact hb2)]
      rfl
    have hY : Hid (0 < sideTo p b a n) := by
      refine side_pos (i := a) ?_ n ha2
      rw [first_one HT.out (by rw [HL.out]; exact hb2) (by rw [HL.out]; exact ha2) (by rw [HL.out]; exact ha2) hnr.out.symm, first_self HT.out b (by rw [HL.out]; exact ha2)]
      rfl
    clear ha hpos hrng
    go_wp2_with fail
    refine (tside _ n n p a b _ HP.out).mono ?_
    rintro e w3 ⟨rfl, k3⟩
    have K3 := K2.call k3
    have HP3 := Lib.hid (HP.out.keep k3)
    go_wp2_with fail
    refine (tside _ n n p b a _ HP3.out).mono ?_
    rintro e w4 ⟨rfl, k4⟩
    have K4 := K3.call k4
    obtain ⟨bo1, bo2⟩ := both n _ _ h6 hS.out
    have hx0 := hX.out
    have hy0 := hY.out
    have hs := hS.out
    generalize sideTo p a b n = X at *
    generalize sideTo p b a n = Y at *
    go_wp2_with fail
    go_loopw [14, 15] (fun av iv wr => ∃ j : Nat, j ≤ n ∧ av = .int .i64 ((2 ^ j : Nat) : Int) ∧ iv = .int .i64 j ∧ Kept w4 wr) (fun _ iv _ => n - (intOf iv).toNat)
    case atStart => exact ⟨0, by omega, rfl, rfl, Kept.refl _⟩
    case round =>
      obtain ⟨j, hj, rfl, rfl, kr⟩ := hrel
      by_cases hlt : j < n
      · have hp1 : 2 ^ j ≤ 2 ^ 6 := Nat.pow_le_pow_right (by omega) (by omega)
        have hp2 : Hid (2 ^ (j + 1) = 2 * 2 ^ j) := by unfold Hid; rw [Nat.pow_succ, Nat.mul_comm]
        clear bo2
        generalize 2 ^ j = t at *
        go_wp2_with fail
        go_roundw
        case rel => first | exact ⟨j + 1, by omega, by rw [hp2.out]; go_num, by go_num, kr⟩ | ((repeat apply Exists.intro); exact ⟨⟨j + 1, by omega, by rw [hp2.out]; go_num, by go_num, kr⟩, rfl⟩)
        case measure => simp [intOf]; omega
      · obtain rfl : j = n := by omega
        have hp1 : 2 ^ j ≤ 2 ^ 6 := Nat.pow_le_pow_right (by omega) (by omega)
        have hp0 : 0 < 2 ^ j := Nat.pow_pos (by omega)
        generalize 2 ^ j = t at *
        have dx : decide ((0 : Int) < (X : Int)) = true := by simp; omega
        have dy : decide ((0 : Int) < (Y : Int)) = true := by simp; omega
        go_wp2_with fail
        all_goals go_ret
        all_goals exact ⟨by first | rfl | exact ret_bool (by simp; omega), K4.call kr⟩
end Go.Proofs.Ytcibbcfkehpmiaa
