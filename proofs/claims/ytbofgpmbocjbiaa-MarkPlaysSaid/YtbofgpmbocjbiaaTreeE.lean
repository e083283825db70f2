/- The program's there, Near, Path, Side and Far. -/
import Derived.Test.YtbofgpmbocjbiaaTreeD
set_option linter.unusedSimpArgs false
set_option linter.unusedVariables false
namespace Go.Proofs.Ytbofgpmbocjbiaa
open Go.RowKit

def inB (n : Nat) (a : Int) : Bool := decide (0 ≤ a) && decide (a < n)
theorem inB_iff (n : Nat) (a : Int) : inB n a = true ↔ 0 ≤ a ∧ a < n := by simp [inB]
set_option maxHeartbeats 1000000 in
theorem there_in (A : Option Addr) (n c : Nat) (a : Int) (P : Nat) (w : World) (hn : n ≤ 9223372036854775807) (cP : w.cell? ⟨P, 0, none⟩ = some (.slice A n c)) :
    Calls Try.prog 43 #[.int .i64 a, .pointer (some ⟨P, 0, none⟩)] w fun e w' => e = .returned (.bool (!inB n a)) ∧ Kept w w' := by
  rcases Int.lt_or_le a 0 with h0 | h0
  · have hb : Hid (inB n a = false) := by unfold Hid inB; simp; omega
    go_enter Try.func43, Try.ntmps43
    go_wp2_with fail
    go_ret
    exact ⟨by rw [hb.out]; rfl, by repeat (first | exact Kept.refl _ | assumption | (refine Kept.alloc ?_ _) | (refine Kept.setCell ?_ (by first | omega | (simp; omega) | simp) _) | refine Kept.drew ?_ | refine Kept.drewN ?_ _ | (apply Kept.call; rotate_left; assumption))⟩
  · rcases Int.lt_or_le a n with h1 | h1
    · have hb : Hid (inB n a = true) := by unfold Hid inB; simp; omega
      have d0 : decide (a < 0) = false := by simp; omega
      have d : decide ((n : Int) ≤ a) = false := by simp; omega
      go_enter Try.func43, Try.ntmps43
      go_wp2_with fail
      go_ret
      exact ⟨by rw [hb.out]; rfl, by repeat (first | exact Kept.refl _ | assumption | (refine Kept.alloc ?_ _) | (refine Kept.setCell ?_ (by first | omega | (simp; omega) | simp) _) | refine Kept.drew ?_ | refine Kept.drewN ?_ _ | (apply Kept.call; rotate_left; assumption))⟩
    · have hb : Hid (inB n a = false) := by unfold Hid inB; simp; omega
      have d : decide ((n : Int) ≤ a) = true := by simp; omega
      go_enter Try.func43, Try.ntmps43
      go_wp2_with fail
      go_ret
      exact ⟨by rw [hb.out]; rfl, by repeat (first | exact Kept.refl _ | assumption | (refine Kept.alloc ?_ _) | (refine Kept.setCell ?_ (by first | omega | (simp; omega) | simp) _) | refine Kept.drew ?_ | refine Kept.drewN ?_ _ | (apply Kept.call; rotate_left; assumption))⟩
def allIn (n : Nat) (xs : List Int) : Prop := ∀ i, i < xs.length → inB n (pa xs i) = true
set_option maxHeartbeats 1000000 in
theorem indexf_any (A : Option Addr) (n c : Nat) (P : Nat) (B : Option Addr) (m d : Nat) (xs : List Int) (w : World) (hn : n ≤ 9223372036854775807) (cP : w.cell? ⟨P, 0, none⟩ = some (.slice A n c)) (hx : IntsAt w B m d xs) :
    Calls Try.prog 44 #[.slice B m d, .func (.func 43) #[] #[.pointer (some ⟨P, 0, none⟩)]] w fun e w' => ∃ r : Int, e = .returned (.int .i64 r) ∧ -1 ≤ r ∧ r ≤ m ∧ (r < 0 ↔ allIn n xs) ∧ Kept w w' := by
  have hm : m ≤ 9223372036854775807 := by have h1 := hx.2.1; have h2 := hx.2.2.1; unfold maxLen at h2; omega
  have HX := Lib.hid hx
  clear hx
  go_enter Try.func44, Try.ntmps44
  go_wp2_with fail
  go_loopw [8] (fun iv wr => ∃ j : Nat, j ≤ m ∧ iv = .int .i64 j ∧ Kept w wr ∧ Hid (∀ i, i < j → inB n (pa xs i) = true)) (fun iv _ => m - (intOf iv).toNat)
  case atStart => exact ⟨0, by omega, rfl, by repeat (first | exact Kept.refl _ | assumption | (refine Kept.alloc ?_ _) | (refine Kept.setCell ?_ (by first | omega | (simp; omega) | simp) _) | refine Kept.drew ?_ | refine Kept.drewN ?_ _ | (apply Kept.call; rotate_left; assumption)), fun i hi => by omega⟩
  case round =>
    obtain ⟨j, hj, rfl, kr, hall⟩ := hrel
    by_cases hlt : j < m
    · obtain ⟨b, off, rfl, hc⟩ := HX.out.2.2.2.2 (by omega)
      have c1 : wr.cell? ⟨b, off + j, none⟩ = some (.int .i64 (pa xs j)) := kr.at_ (hc j hlt)
      have HV : Hid (∃ v, v = pa xs j) := ⟨_, rfl⟩
      clear hc
      cases hv : inB n (pa xs j)
      · have HB := Lib.hid hv
        clear hv
        go_wp2_with fail
        refine (there_in A n c (pa xs j) P wr hn (kr.at_ cP)).mono ?_
        rintro e w2 ⟨rfl, k2⟩
        have K2 := kr.call k2
        rw [HB.out]
        go_wp2_with fail
        go_ret
        refine ⟨_, rfl, by omega, by omega, ⟨fun h => absurd h (by omega), fun h => ?_⟩, K2⟩
        have := h j (by rw [HX.out.1]; exact hlt)
        rw [HB.out] at this
        cases this
      · have hall2 : Hid (∀ i, i < j + 1 → inB n (pa xs i) = true) := fun i hi => by
          rcases Nat.lt_or_ge i j with g | g
          · exact hall.out i g
          · obtain rfl : i = j := by omega
            exact hv
        have HB := Lib.hid hv
        clear hv
        go_wp2_with fail
        refine (there_in A n c (pa xs j) P wr hn (kr.at_ cP)).mono ?_
        rintro e w2 ⟨rfl, k2⟩
        have K2 := kr.call k2
        rw [HB.out]
        go_wp2_with fail
        go_roundw
        case rel => first | exact ⟨j + 1, by omega, by go_num, K2, hall2⟩ | ((repeat apply Exists.intro); exact ⟨⟨j + 1, by omega, by go_num, K2, hall2⟩, rfl⟩)
        case measure => simp [intOf]; omega
    · obtain rfl : j = m := by omega
      go_wp2_with fail
      go_ret
      exact ⟨-1, rfl, by omega, by omega, ⟨fun _ i hi => hall.out i (by rw [HX.out.1] at hi; exact hi), fun _ => by omega⟩, kr⟩
theorem contf_any (A : Option Addr) (n c : Nat) (P : Nat) (B : Option Addr) (m d : Nat) (xs : List Int) (w : World) (hn : n ≤ 9223372036854775807) (cP : w.cell? ⟨P, 0, none⟩ = some (.slice A n c)) (hx : IntsAt w B m d xs) :
    Calls Try.prog 42 #[.slice B m d, .func (.func 43) #[] #[.pointer (some ⟨P, 0, none⟩)]] w (BoolIs (¬ allIn n xs) w) := by
  have HX := Lib.hid hx
  clear hx
  go_enter Try.func42, Try.ntmps42
  go_wp2_with fail
  refine (indexf_any A n c P B m d xs w hn cP HX.out).mono ?_
  rintro e w2 ⟨r, rfl, h1, h2, h3, k2⟩
  have H3 := Lib.hid h3
  clear h3
  go_wp2_with fail
  go_ret
  refine ⟨_, rfl, ?_, k2⟩
  rw [← H3.out]
  simp
set_option maxHeartbeats 1000000 in
theorem there_any (A : Option Addr) (n c : Nat) (p : List Int) (B : Option Addr) (m d : Nat) (xs : List Int) (w : World) (hp : IntsAt w A n c p) (hx : IntsAt w B m d xs) :
    Calls Try.prog 38 #[.slice A n c, .slice B m d] w (BoolIs (IsTree p ∧ allIn n xs) w) := by
  have hn : n ≤ 9223372036854775807 := by have h1 := hp.2.1; have h2 := hp.2.2.1; unfold maxLen at h2; omega
  have hmf : ∀ fn first cap w, (Instr.makeFunc fn first cap).run Try.prog w = .ok (.func fn first cap) w := fun _ _ _ _ => rfl
  have HX := Lib.hid hx
  have HP := Lib.hid hp
  clear hx hp
  go_enter Try.func38, Try.ntmps38
  go_wp2_with fail
  refine (check_any A n c p _ (HP.out.keep (by repeat (first | exact Kept.refl _ | assumption | (refine Kept.alloc ?_ _) | (refine Kept.setCell ?_ (by first | omega | (simp; omega) | simp) _) | refine Kept.drew ?_ | refine Kept.drewN ?_ _ | (apply Kept.call; rotate_left; assumption))))).mono ?_
  rintro e w2 ⟨C, rfl, hC, k2⟩
  have HC := Lib.hid hC
  have cP : w2.cell? ⟨w.heap.size, 0, none⟩ = some (.slice A n c) := k2.at_ (by go_simp)
  have K2 : Kept w w2 := Kept.call (by repeat (first | exact Kept.refl _ | assumption | (refine Kept.alloc ?_ _) | (refine Kept.setCell ?_ (by first | omega | (simp; omega) | simp) _) | refine Kept.drew ?_ | refine Kept.drewN ?_ _ | (apply Kept.call; rotate_left; assumption))) k2
  clear hC
  cases C
  · go_wp2_with fail
    go_ret
    exact boolNo rfl (fun h => by have := HC.out.2 h.1; cases this) K2
  · have ht : Hid (IsTree p) := HC.out.1 rfl
    go_wp2_with fail
    refine (contf_any A n c w.heap.size B m d xs _ hn cP (HX.out.keep K2)).mono ?_
    rintro e w3 ⟨D, rfl, hD, k3⟩
    have K3 := K2.call k3
    have HD := Lib.hid hD
    clear hD
    cases D
    · go_wp2_with fail
      go_ret
      exact boolYes rfl ⟨ht.out, Classical.byContradiction fun h => by have := HD.out.2 h; cases this⟩ K3
    · go_wp2_with fail
      go_ret
      exact boolNo rfl (fun h => (HD.out.1 (by simp)) h.2) K3

theorem ints_one (w : World) (x : Int) (b : Nat) (h : w.cell? ⟨b, 0, none⟩ = some (.int .i64 x)) : IntsAt w (some ⟨b, 0, none⟩) 1 1 [x] :=
  ⟨rfl, Nat.le_refl _, by unfold maxLen; omega, (fun h => by cases h), fun _ => ⟨_, 0, rfl, fun i hi => by
    obtain rfl : i = 0 := by omega
    exact h⟩⟩
theorem ints_two (w : World) (x y : Int) (b : Nat) (h : w.cell? ⟨b, 0, none⟩ = some (.int .i64 x)) (h2 : w.cell? ⟨b, 1, none⟩ = some (.int .i64 y)) : IntsAt w (some ⟨b, 0, none⟩) 2 2 [x, y] :=
  ⟨rfl, Nat.le_refl _, by unfold maxLen; omega, (fun h => by cases h), fun _ => ⟨_, 0, rfl, fun i hi => by
    rcases i with _ | _ | i
    · exact h
    · exact h2
    · omega⟩⟩
theorem allIn_one (n : Nat) (x : Int) : allIn n [x] ↔ 0 ≤ x ∧ x < n := by
  constructor
  · intro h; exact (inB_iff n x).1 (h 0 (by simp))
  · intro h i hi
    obtain rfl : i = 0 := by simp at hi; exact hi
    exact (inB_iff n x).2 h
theorem allIn_two (n : Nat) (x y : Int) : allIn n [x, y] ↔ (0 ≤ x ∧ x < n) ∧ (0 ≤ y ∧ y < n) := by
  constructor
  · intro h; exact ⟨(inB_iff n x).1 (h 0 (by simp)), (inB_iff n y).1 (h 1 (by simp))⟩
  · rintro ⟨h1, h2⟩ i hi
    rcases i with _ | _ | i
    · exact (inB_iff n x).2 h1
    · exact (inB_iff n y).2 h2
    · simp at hi; omega
end Go.Proofs.Ytbofgpmbocjbiaa
