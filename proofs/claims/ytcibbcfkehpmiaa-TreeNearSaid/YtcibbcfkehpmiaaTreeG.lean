/- The laws' small functions: awake, few; the statement's argument. -/
import Derived.Test.YtcibbcfkehpmiaaTreeF
import Derived.Test.YtcibbcfkehpmiaaRow
set_option linter.unusedSimpArgs false
set_option linter.unusedVariables false
namespace Go.Proofs.Ytcibbcfkehpmiaa
open Go.RowKit

theorem path_eq {p : List Int} (hp : IsTree p) {a b : Nat} {l : List Nat} (ha : a < p.length) (hb : b < p.length) (h : W p l) (he : Ends l a b) : pathOf p a b = l := by
  unfold pathOf
  rw [if_pos ⟨hp, ⟨by omega, by omega⟩, by omega, by omega⟩, Int.toNat_natCast, Int.toNat_natCast]
  exact wk_is hp h he
def p0 : List Int := [-1, 0, 0, 1]
theorem t0 : IsTree p0 := tree_of (by decide) (by decide) (by decide) (by decide) (by decide)
theorem w2 : W p0 [2] := W.one (by decide)
theorem w02 : W p0 [0, 2] := W.cons (a := 0) (y := 2) (t := []) w2 (by decide) (.inr rfl) (by decide)
theorem w102 : W p0 [1, 0, 2] := W.cons (a := 1) (y := 0) (t := [2]) w02 (by decide) (.inl rfl) (by decide)
theorem w3102 : W p0 [3, 1, 0, 2] := W.cons (a := 3) (y := 1) (t := [0, 2]) w102 (by decide) (.inl rfl) (by decide)
theorem w3 : W p0 [3] := W.one (by decide)
theorem w13 : W p0 [1, 3] := W.cons (a := 1) (y := 3) (t := []) w3 (by decide) (.inr rfl) (by decide)
theorem w013 : W p0 [0, 1, 3] := W.cons (a := 0) (y := 1) (t := [3]) w13 (by decide) (.inr rfl) (by decide)
theorem w01 : W p0 [0, 1] := W.cons (a := 0) (y := 1) (t := []) (W.one (by decide)) (by decide) (.inr rfl) (by decide)
theorem path0 : pathOf p0 3 2 = [3, 1, 0, 2] := path_eq t0 (a := 3) (b := 2) (by decide) (by decide) w3102 ⟨rfl, rfl⟩
theorem path00 : pathOf p0 0 0 = [0] := path_eq t0 (a := 0) (b := 0) (by decide) (by decide) (W.one (by decide)) ⟨rfl, rfl⟩
theorem path01 : pathOf p0 0 1 = [0, 1] := path_eq t0 (a := 0) (b := 1) (by decide) (by decide) w01 ⟨rfl, rfl⟩
theorem path02 : pathOf p0 0 2 = [0, 2] := path_eq t0 (a := 0) (b := 2) (by decide) (by decide) w02 ⟨rfl, rfl⟩
theorem path03 : pathOf p0 0 3 = [0, 1, 3] := path_eq t0 (a := 0) (b := 3) (by decide) (by decide) w013 ⟨rfl, rfl⟩
theorem side0 : sideTo p0 0 1 4 = 10 := by
  have e0 : firstIs p0 0 1 0 = false := by unfold firstIs; rw [show ((0 : Nat) : Int) = 0 from rfl, path00]; rfl
  have e1 : firstIs p0 0 1 1 = true := by unfold firstIs; rw [show ((1 : Nat) : Int) = 1 from rfl, path01]; rfl
  have e2 : firstIs p0 0 1 2 = false := by unfold firstIs; rw [show ((2 : Nat) : Int) = 2 from rfl, path02]; rfl
  have e3 : firstIs p0 0 1 3 = true := by unfold firstIs; rw [show ((3 : Nat) : Int) = 3 from rfl, path03]; rfl
  simp [sideTo, e0, e1, e2, e3]
theorem ints_four (w : World) (a b c d : Int) (k : Nat) (h0 : w.cell? ⟨k, 0, none⟩ = some (.int .i64 a)) (h1 : w.cell? ⟨k, 1, none⟩ = some (.int .i64 b)) (h2 : w.cell? ⟨k, 2, none⟩ = some (.int .i64 c)) (h3 : w.cell? ⟨k, 3, none⟩ = some (.int .i64 d)) : IntsAt w (some ⟨k, 0, none⟩) 4 4 [a, b, c, d] :=
  ⟨rfl, Nat.le_refl _, by unfold maxLen; omega, (fun h => by cases h), fun _ => ⟨_, 0, rfl, fun i hi => by
    rcases i with _ | _ | _ | _ | i
    · exact h0
    · exact h1
    · exact h2
    · exact h3
    · omega⟩⟩
set_option maxHeartbeats 2000000 in
theorem awake_any (w : World) : Calls Try.prog 9 #[] w fun e w' => e = .returned (.bool true) ∧ Kept w w' := by
  go_enter Try.func9, Try.ntmps9
  go_wp2_with fail
  have hp := Lib.hid (ints_four (w.alloc (.cells #[.int .i64 (-1), .int .i64 0, .int .i64 0, .int .i64 1] 3)) (-1) 0 0 1 w.heap.size (by go_simp) (by go_simp) (by go_simp) (by go_simp))
  refine (tpath _ 4 4 p0 3 2 _ hp.out).mono ?_
  rintro e w1 ⟨A1, c1, rfl, h1, k1⟩
  rw [path0] at h1 ⊢
  have H1 := Lib.hid h1
  have K1 : Kept w w1 := Kept.call (by repeat (first | exact Kept.refl _ | assumption | (refine Kept.alloc ?_ _) | (refine Kept.setCell ?_ (by first | omega | (simp; omega) | simp) _) | refine Kept.drew ?_ | refine Kept.drewN ?_ _ | (apply Kept.call; rotate_left; assumption))) k1
  have hp1 := Lib.hid (hp.out.keep k1)
  clear h1
  simp only [List.length_cons, List.length_nil]
  go_wp2_with fail
  refine (same_any _ _ 4 4 _ _ _ _ _ (H1.out.keep (by repeat (first | exact Kept.refl _ | assumption | (refine Kept.alloc ?_ _) | (refine Kept.setCell ?_ (by first | omega | (simp; omega) | simp) _) | refine Kept.drew ?_ | refine Kept.drewN ?_ _ | (apply Kept.call; rotate_left; assumption)))) (ints_four _ 3 1 0 2 w1.heap.size (by go_simp) (by go_simp) (by go_simp) (by go_simp))).mono ?_
  rintro e w2 ⟨rfl, k2⟩
  have K2 : Kept w1 w2 := Kept.call (by repeat (first | exact Kept.refl _ | assumption | (refine Kept.alloc ?_ _) | (refine Kept.setCell ?_ (by first | omega | (simp; omega) | simp) _) | refine Kept.drew ?_ | refine Kept.drewN ?_ _ | (apply Kept.call; rotate_left; assumption))) k2
  have hp2 := Lib.hid (hp1.out.keep K2)
  rw [show decide (ints [3, 1, 0, 2] = [3, 1, 0, 2]) = true from rfl]
  go_wp2_with fail
  refine (tside _ 4 4 p0 0 1 _ hp2.out).mono ?_
  rintro e w3 ⟨rfl, k3⟩
  have hp3 := Lib.hid (hp2.out.keep k3)
  rw [side0]
  go_wp2_with fail
  refine (check_any _ 4 4 p0 _ hp3.out).mono ?_
  rintro e w4 ⟨B, rfl, hB, k4⟩
  obtain rfl : B = true := hB.2 t0
  have hp4 := Lib.hid (hp3.out.keep k4)
  clear hB
  go_wp2_with fail
  refine (tfar _ 4 4 p0 3 2 _ hp4.out).mono ?_
  rintro e w5 ⟨rfl, k5⟩
  rw [path0]
  go_wp2_with fail
  go_ret
  exact ⟨rfl, (((K1.call K2).call k3).call k4).call k5⟩
theorem IntsAt.take8 {w : World} {A : Option Addr} {n c : Nat} {p : List Int} (h : IntsAt w A n c p) (h8 : 8 < n) : IntsAt w A 8 c (p.take 8) := by
  obtain ⟨h1, h2, h3, h4, h5⟩ := h
  refine ⟨by simp; omega, by omega, h3, fun h => by have := (h4 h).1; omega, fun _ => ?_⟩
  obtain ⟨b, off, rfl, hc⟩ := h5 (by omega)
  refine ⟨b, off, rfl, fun i hi => ?_⟩
  rw [hc i (by omega), List.getElem?_take_of_lt hi]
def fewOf (p : List Int) : List Int := if 8 < p.length then p.take 8 else p
theorem few_any (A : Option Addr) (n c : Nat) (p : List Int) (w : World) (hx : IntsAt w A n c p) :
    Calls Try.prog 15 #[.slice A n c] w fun e w' => ∃ m, e = .returned (.slice A m c) ∧ IntsAt w' A m c (fewOf p) ∧ Kept w w' := by
  have HX := Lib.hid hx
  have hn : n ≤ 9223372036854775807 := by have h1 := hx.2.1; have h2 := hx.2.2.1; unfold maxLen at h2; omega
  rcases Nat.lt_or_ge 8 n with h8 | h8
  · have hf : Hid (fewOf p = p.take 8) := by unfold Hid fewOf; rw [if_pos (by rw [HX.out.1]; exact h8)]
    have hnc : n ≤ c := hx.2.1
    obtain ⟨b, off, rfl, _⟩ := hx.2.2.2.2 (by omega)
    have d : decide ((8 : Int) < n) = true := by simp; omega
    clear hx
    go_enter Try.func15, Try.ntmps15
    go_wp2_with fail
    go_ret
    exact ⟨8, rfl, by rw [hf.out]; exact (HX.out.take8 h8).keep (by repeat (first | exact Kept.refl _ | assumption | (refine Kept.alloc ?_ _) | (refine Kept.setCell ?_ (by first | omega | (simp; omega) | simp) _) | refine Kept.drew ?_ | refine Kept.drewN ?_ _ | (apply Kept.call; rotate_left; assumption))), by repeat (first | exact Kept.refl _ | assumption | (refine Kept.alloc ?_ _) | (refine Kept.setCell ?_ (by first | omega | (simp; omega) | simp) _) | refine Kept.drew ?_ | refine Kept.drewN ?_ _ | (apply Kept.call; rotate_left; assumption))⟩
  · have hf : Hid (fewOf p = p) := by unfold Hid fewOf; rw [if_neg (by rw [HX.out.1]; omega)]
    have d : decide ((8 : Int) < n) = false := by simp; omega
    clear hx
    go_enter Try.func15, Try.ntmps15
    go_wp2_with fail
    go_ret
    exact ⟨n, rfl, by rw [hf.out]; exact HX.out.keep (by repeat (first | exact Kept.refl _ | assumption | (refine Kept.alloc ?_ _) | (refine Kept.setCell ?_ (by first | omega | (simp; omega) | simp) _) | refine Kept.drew ?_ | refine Kept.drewN ?_ _ | (apply Kept.call; rotate_left; assumption))), by repeat (first | exact Kept.refl _ | assumption | (refine Kept.alloc ?_ _) | (refine Kept.setCell ?_ (by first | omega | (simp; omega) | simp) _) | refine Kept.drew ?_ | refine Kept.drewN ?_ _ | (apply Kept.call; rotate_left; assumption))⟩
/-- The statement's row. -/
theorem IntsAt.of_row {w : World} {A : Option Addr} {n c : Nat} {x : Nat → Int} (h : RowAt w A n c 1 (fun i => [.int .i64 (x i)])) : IntsAt w A n c ((List.range n).map x) := by
  refine ⟨by simp, h.1, h.2.1, h.2.2.1, fun h0 => ?_⟩
  obtain ⟨b, off, h1, _, h2⟩ := RowAt.one h h0
  exact ⟨b, off, h1, fun i hi => by rw [h2 i hi]; simp [List.getElem?_map, List.getElem?_range hi]⟩
end Go.Proofs.Ytcibbcfkehpmiaa
