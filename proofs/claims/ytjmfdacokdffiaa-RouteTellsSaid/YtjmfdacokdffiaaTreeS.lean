/- The document's Side and Far. -/
import Derived.Test.YtjmfdacokdffiaaTreeQ
set_option linter.unusedSimpArgs false
set_option linter.unusedVariables false
namespace Go.Proofs.Ytjmfdacokdffiaa
open Go.RowKit

noncomputable def firstIs (p : List Int) (a b : Int) (i : Nat) : Bool := ((pathOf p a (i : Int))[1]? : Option Nat).any fun x => decide ((x : Int) = b)
noncomputable def sideTo (p : List Int) (a b : Int) : Nat → Nat
  | 0 => 0
  | j + 1 => sideTo p a b j + if firstIs p a b j then 2 ^ j else 0
theorem sideTo_lt (p : List Int) (a b : Int) : ∀ j, sideTo p a b j < 2 ^ j
  | 0 => by simp [sideTo]
  | j + 1 => by
    have := sideTo_lt p a b j
    unfold sideTo
    rw [Nat.pow_succ]
    split <;> omega
theorem side_no {p : List Int} (h : ¬ IsTree p) (a b : Int) : ∀ j, sideTo p a b j = 0
  | 0 => rfl
  | j + 1 => by
    have e : firstIs p a b j = false := by unfold firstIs; rw [path_no (fun g => h g.1)]; rfl
    unfold sideTo
    rw [side_no h a b j, e]
    rfl
set_option maxHeartbeats 2000000 in
theorem rside (A : Option Addr) (n c : Nat) (p : List Int) (a b : Int) (w : World) (hx : IntsAt w A n c p) :
    Calls Try.prog 14 #[.slice A n c, .int .i64 a, .int .i64 b] w fun e w' => e = .returned (.int .i64 (sideTo p a b n : Nat)) ∧ Kept w w' := by
  have HX := Lib.hid hx
  clear hx
  go_enter Try.func14, Try.ntmps14
  go_wp2_with fail
  refine (rtree_check A n c p w HX.out).mono ?_
  rintro e w1 ⟨B, rfl, hB, k1⟩
  have HB := Lib.hid hB
  clear hB
  cases B
  · have hno : Hid (sideTo p a b n = 0) := side_no (fun h => by have := HB.out.2 h; cases this) a b n
    go_wp2_with fail
    go_ret
    exact ⟨by rw [hno.out]; rfl, k1⟩
  · have n6 : n ≤ 6 := by have := ((tree_iff p).1 (HB.out.1 rfl)).2.1; rw [HX.out.1] at this; exact this
    go_wp2_with fail
    go_loopw [8, 9, 10] (fun nv bv iv wr => ∃ j : Nat, j ≤ n ∧ nv = .int .i64 (sideTo p a b j : Nat) ∧ bv = .int .i64 ((2 ^ j : Nat) : Int) ∧ iv = .int .i64 j ∧ Kept w wr) (fun _ _ iv _ => n - (intOf iv).toNat)
    case atStart => exact ⟨0, by omega, rfl, rfl, rfl, k1⟩
    case round =>
      obtain ⟨j, hj, rfl, rfl, rfl, kr⟩ := hrel
      by_cases hlt : j < n
      · have hs1 := sideTo_lt p a b j
        have hp1 : 2 ^ j ≤ 2 ^ 6 := Nat.pow_le_pow_right (by omega) (by omega)
        have hp2 : Hid (2 ^ (j + 1) = 2 * 2 ^ j) := by unfold Hid; rw [Nat.pow_succ, Nat.mul_comm]
        have hnx : Hid (sideTo p a b (j + 1) = sideTo p a b j + if firstIs p a b j then 2 ^ j else 0) := rfl
        have hfi : Hid (firstIs p a b j = ((pathOf p a (j : Int))[1]? : Option Nat).any fun x => decide ((x : Int) = b)) := rfl
        generalize 2 ^ j = t at *
        generalize sideTo p a b j = r at *
        go_wp2_with fail
        refine (rpath A n c p a j _ (HX.out.keep kr)).mono ?_
        rintro e w2 ⟨B, bc, rfl, hB, k2⟩
        have K2 := kr.call k2
        have HBB := Lib.hid hB
        have b1 := hB.2.1
        have b2 := hB.2.2.1
        unfold maxLen at b2
        clear hB
        rcases hl : pathOf p a (j : Int) with _ | ⟨z0, _ | ⟨z1, rest⟩⟩
        · have hf : Hid (sideTo p a b (j + 1) = r) := by unfold Hid; rw [hnx.out, hfi.out, hl]; rfl
          go_wp2_with fail
          go_roundw
          case rel => first | exact ⟨j + 1, by omega, by rw [hf.out], by rw [hp2.out]; go_num, by go_num, K2⟩ | ((repeat apply Exists.intro); exact ⟨⟨j + 1, by omega, by rw [hf.out], by rw [hp2.out]; go_num, by go_num, K2⟩, rfl⟩)
          case measure => simp [intOf]; omega
        · have hf : Hid (sideTo p a b (j + 1) = r) := by unfold Hid; rw [hnx.out, hfi.out, hl]; rfl
          go_wp2_with fail
          go_roundw
          case rel => first | exact ⟨j + 1, by omega, by rw [hf.out], by rw [hp2.out]; go_num, by go_num, K2⟩ | ((repeat apply Exists.intro); exact ⟨⟨j + 1, by omega, by rw [hf.out], by rw [hp2.out]; go_num, by go_num, K2⟩, rfl⟩)
          case measure => simp [intOf]; omega
        · rw [hl] at b1
          simp only [List.length_cons] at b1
          have hlen : Hid ((z0 :: z1 :: rest).length = rest.length + 2) := rfl
          obtain ⟨bb, bo, rfl, hbc⟩ := HBB.out.2.2.2.2 (by rw [hl]; simp)
          have c1 : w2.cell? ⟨bb, bo + 1, none⟩ = some (.int .i64 z1) := by rw [hbc 1 (by rw [hl]; simp), hl]; rfl
          clear hbc
          by_cases hb : (z1 : Int) = b
          · have hf : Hid (sideTo p a b (j + 1) = r + t) := by unfold Hid; rw [hnx.out, hfi.out, hl]; simp [hb]
            have d : ((z1 : Int) == b) = true := by simpa using hb
            clear hb
            go_wp2_with fail
            go_roundw
            case rel => first | exact ⟨j + 1, by omega, by rw [hf.out]; go_num, by rw [hp2.out]; go_num, by go_num, K2⟩ | ((repeat apply Exists.intro); exact ⟨⟨j + 1, by omega, by rw [hf.out]; go_num, by rw [hp2.out]; go_num, by go_num, K2⟩, rfl⟩)
            case measure => simp [intOf]; omega
          · have hf : Hid (sideTo p a b (j + 1) = r) := by unfold Hid; rw [hnx.out, hfi.out, hl]; simp [hb]
            have d : ((z1 : Int) == b) = false := by simpa using hb
            clear hb
            go_wp2_with fail
            go_roundw
            case rel => first | exact ⟨j + 1, by omega, by rw [hf.out], by rw [hp2.out]; go_num, by go_num, K2⟩ | ((repeat apply Exists.intro); exact ⟨⟨j + 1, by omega, by rw [hf.out], by rw [hp2.out]; go_num, by go_num, K2⟩, rfl⟩)
            case measure => simp [intOf]; omega
      · obtain rfl : j = n := by omega
        go_wp2_with fail
        go_ret
        exact ⟨rfl, kr⟩
end Go.Proofs.Ytjmfdacokdffiaa
