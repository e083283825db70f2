/- The walk of the law LinkAnswers: it returns true for every number and every row. -/
import Derived.Test.YtgcbadlajmbdhaaLinkX
import Derived.Test.YtgcbadlajmbdhaaRow
set_option linter.unusedSimpArgs false
set_option linter.unusedVariables false
namespace Go.Proofs.Ytgcbadlajmbdhaa
open Go.RowKit

def ys (k : Nat) : List ByteArray := List.replicate k ⟨#[120]⟩
theorem ys_len (k : Nat) : (ys k).length = k := by simp [ys]
theorem ys_snoc (k : Nat) : ys k ++ [⟨#[120]⟩] = ys (k + 1) := by simp [ys, List.replicate_succ']
theorem ys_drop (k j : Nat) : (ys k).drop j = ys (k - j) := by simp [ys]

set_option maxHeartbeats 1000000 in
theorem linkAnswers_walk (a : Int) (A : Option Addr) (n c : Nat) (x : Nat → Int) (w : World) (_ : (Lit.int .i64 a).wf = true) (hr : RowAt w A n c 1 (fun i => [.int .i64 (x i)])) (hx : ∀ i, i < n → (Lit.int .i64 (x i)).wf = true) :
    Calls Try.prog 6 #[.int .i64 a, .slice A n c] w fun e w' => e = .returned (.bool true) ∧ Kept w w' := by
  go_enter Try.func6, Try.ntmps6
  go_wp2_with fail
  refine (awake_any _).mono ?_
  rintro e w1 ⟨rfl, k1⟩
  go_wp2_with fail
  refine (newSenderX w w1 k1).mono ?_
  rintro e w2 ⟨rfl, k2, S2⟩
  go_wp2_with fail
  obtain ⟨M, hM, hM7⟩ : ∃ M : Nat, bits .and .i64 a 7 = (M : Int) ∧ M ≤ 7 := by
    obtain ⟨h1, h2⟩ := and_bd a 7 (by omega) (by omega)
    exact ⟨(bits .and .i64 a 7).toNat, by omega, by omega⟩
  rw [hM]
  go_loopw [8] (fun i wr => ∃ k : Nat, k ≤ M ∧ i = .int .i64 k ∧ Kept w wr ∧ SndX w [] wr w1.heap.size 0 (ys k)) (fun i _ => 21 - (intOf i).toNat)
  case atStart => exact ⟨0, by omega, rfl, k1.call k2, S2⟩
  case round =>
    obtain ⟨k, hk, rfl, kr, Sr⟩ := hrel
    by_cases hlt : (k : Int) < (M : Int)
    · go_wp2_with fail
      refine (sendX w [] w1.heap.size 0 (ys k) ⟨#[120]⟩ k _ Sr kr (by rw [ys_len]; omega) (by rw [ys_len]; omega) (by rw [ys_len]; simp)).mono ?_
      rintro e w3 ⟨rfl, S3, K3, _, _⟩
      rw [ys_snoc] at S3
      have S4 := Lib.hid S3
      clear S3
      go_wp2
      go_roundw
      case rel => first | exact ⟨k + 1, by omega, by go_num, by repeat (first | exact Kept.refl _ | assumption | (refine Kept.alloc ?_ _) | (refine Kept.setCell ?_ (by first | omega | (simp; omega) | simp) _) | refine Kept.drew ?_ | refine Kept.drewN ?_ _ | (apply Kept.call; rotate_left; assumption)), S4.out.kept (by repeat (first | exact Kept.refl _ | assumption | (refine Kept.alloc ?_ _) | (refine Kept.setCell ?_ (by first | omega | (simp; omega) | simp) _) | refine Kept.drew ?_ | refine Kept.drewN ?_ _ | (apply Kept.call; rotate_left; assumption)))⟩ | ((repeat apply Exists.intro); exact ⟨⟨k + 1, by omega, by go_num, by repeat (first | exact Kept.refl _ | assumption | (refine Kept.alloc ?_ _) | (refine Kept.setCell ?_ (by first | omega | (simp; omega) | simp) _) | refine Kept.drew ?_ | refine Kept.drewN ?_ _ | (apply Kept.call; rotate_left; assumption)), S4.out.kept (by repeat (first | exact Kept.refl _ | assumption | (refine Kept.alloc ?_ _) | (refine Kept.setCell ?_ (by first | omega | (simp; omega) | simp) _) | refine Kept.drew ?_ | refine Kept.drewN ?_ _ | (apply Kept.call; rotate_left; assumption)))⟩, rfl⟩)
      case measure => simp [intOf]; omega
    · obtain rfl : M = k := by omega
      clear hlt hk
      go_wp2
      go_loopw [9, 10] (fun at' i wr => ∃ T j : Nat, T ≤ M ∧ j ≤ 10 ∧ j ≤ n ∧ at' = .int .i64 T ∧ i = .int .i64 j ∧ Kept w wr ∧ SndX w [] wr w1.heap.size T (ys (M - T))) (fun _ i _ => 10 - (intOf i).toNat)
      case atStart => exact ⟨0, 0, by omega, by omega, by omega, rfl, rfl, by repeat (first | exact Kept.refl _ | assumption | (refine Kept.alloc ?_ _) | (refine Kept.setCell ?_ (by first | omega | (simp; omega) | simp) _) | refine Kept.drew ?_ | refine Kept.drewN ?_ _ | (apply Kept.call; rotate_left; assumption)), Sr.kept (by repeat (first | exact Kept.refl _ | assumption | (refine Kept.alloc ?_ _) | (refine Kept.setCell ?_ (by first | omega | (simp; omega) | simp) _) | refine Kept.drew ?_ | refine Kept.drewN ?_ _ | (apply Kept.call; rotate_left; assumption)))⟩
      case round =>
        obtain ⟨T, j, hT, hj10, hjn, rfl, rfl, kr, Sr⟩ := hrel
        by_cases h1 : j < n
        · have hnn := hr.2.1
          have hnc := hr.1
          unfold maxLen at hnn
          by_cases h2 : j < 10
          · obtain ⟨b, off, rfl, hb, hc⟩ := (hr.kept kr).one (by omega)
            have hcj := hc j h1
            clear hc
            obtain ⟨hx1, hx2⟩ := tmod_bd (x j) 12 (by omega)
            have hX : ∃ X : Int, (x j).tmod 12 - 2 = X := ⟨_, rfl⟩
            obtain ⟨X, hX⟩ := hX
            go_wp2_with fail
            rcases Int.lt_or_le (M : Int) X with hXM | hXM
            · refine (answerX_above w [] w1.heap.size T (ys (M - T)) X _ Sr (by rw [ys_len]; omega)).mono ?_
              rintro e w3 ⟨rfl, k3⟩
              have S3 := Sr.kept k3
              have K3 := kr.call k3
              go_wp2_with fail
              refine (openX w [] w1.heap.size (T) (M - (T)) (ys (M - (T))) _ S3 (ys_len _).symm (by omega)).mono ?_
              rintro e w4 ⟨A4, c4, rfl, R4, k4⟩
              have S5 := Lib.hid (S3.kept k4)
              clear Sr S3
              by_cases hz : M - (T) = 0
              · go_wp2_with fail
                go_roundw
                case rel => first | exact ⟨T, j + 1, by omega, by omega, by omega, by go_num, by go_num, by repeat (first | exact Kept.refl _ | assumption | (refine Kept.alloc ?_ _) | (refine Kept.setCell ?_ (by first | omega | (simp; omega) | simp) _) | refine Kept.drew ?_ | refine Kept.drewN ?_ _ | (apply Kept.call; rotate_left; assumption)), S5.out.kept (by repeat (first | exact Kept.refl _ | assumption | (refine Kept.alloc ?_ _) | (refine Kept.setCell ?_ (by first | omega | (simp; omega) | simp) _) | refine Kept.drew ?_ | refine Kept.drewN ?_ _ | (apply Kept.call; rotate_left; assumption)))⟩ | ((repeat apply Exists.intro); exact ⟨⟨T, j + 1, by omega, by omega, by omega, by go_num, by go_num, by repeat (first | exact Kept.refl _ | assumption | (refine Kept.alloc ?_ _) | (refine Kept.setCell ?_ (by first | omega | (simp; omega) | simp) _) | refine Kept.drew ?_ | refine Kept.drewN ?_ _ | (apply Kept.call; rotate_left; assumption)), S5.out.kept (by repeat (first | exact Kept.refl _ | assumption | (refine Kept.alloc ?_ _) | (refine Kept.setCell ?_ (by first | omega | (simp; omega) | simp) _) | refine Kept.drew ?_ | refine Kept.drewN ?_ _ | (apply Kept.call; rotate_left; assumption)))⟩, rfl⟩)
                case measure => simp [intOf]; omega
              · obtain ⟨g, rfl, hg, hc⟩ := R4.2.2 (by omega)
                have hc0 := (hc 0 (by omega)).1
                simp only [Nat.zero_mul, Nat.zero_add, Nat.add_zero] at hc0
                have hpos : (0 : Int) < ((M - (T) : Nat) : Int) := by omega
                clear hc R4
                go_wp2_with fail
                go_roundw
                case rel => first | exact ⟨T, j + 1, by omega, by omega, by omega, by go_num, by go_num, by repeat (first | exact Kept.refl _ | assumption | (refine Kept.alloc ?_ _) | (refine Kept.setCell ?_ (by first | omega | (simp; omega) | simp) _) | refine Kept.drew ?_ | refine Kept.drewN ?_ _ | (apply Kept.call; rotate_left; assumption)), S5.out.kept (by repeat (first | exact Kept.refl _ | assumption | (refine Kept.alloc ?_ _) | (refine Kept.setCell ?_ (by first | omega | (simp; omega) | simp) _) | refine Kept.drew ?_ | refine Kept.drewN ?_ _ | (apply Kept.call; rotate_left; assumption)))⟩ | ((repeat apply Exists.intro); exact ⟨⟨T, j + 1, by omega, by omega, by omega, by go_num, by go_num, by repeat (first | exact Kept.refl _ | assumption | (refine Kept.alloc ?_ _) | (refine Kept.setCell ?_ (by first | omega | (simp; omega) | simp) _) | refine Kept.drew ?_ | refine Kept.drewN ?_ _ | (apply Kept.call; rotate_left; assumption)), S5.out.kept (by repeat (first | exact Kept.refl _ | assumption | (refine Kept.alloc ?_ _) | (refine Kept.setCell ?_ (by first | omega | (simp; omega) | simp) _) | refine Kept.drew ?_ | refine Kept.drewN ?_ _ | (apply Kept.call; rotate_left; assumption)))⟩, rfl⟩)
                case measure => simp [intOf]; omega
            · rcases Int.lt_or_le (T : Int) X with hXT | hXT
              · obtain ⟨U, rfl⟩ : ∃ U : Nat, X = (U : Int) := ⟨X.toNat, by omega⟩
                have hTU : T < U := by omega
                have hUM : U ≤ M := by omega
                refine (answerX w [] w1.heap.size T (ys (M - T)) U (U - T) ((U : Int) - (T : Int)) _ Sr kr (by rw [ys_len]; omega) (by rw [ys_len]; omega) (by omega) (by omega) (by omega)).mono ?_
                rintro e w3 ⟨rfl, S3, K3, _, _⟩
                rw [ys_drop, show M - T - (U - T) = M - U by omega, show T + (U - T) = U by omega] at S3
                clear hXT hXM
                go_wp2_with fail
                refine (openX w [] w1.heap.size (U) (M - (U)) (ys (M - (U))) _ S3 (ys_len _).symm (by omega)).mono ?_
                rintro e w4 ⟨A4, c4, rfl, R4, k4⟩
                have S5 := Lib.hid (S3.kept k4)
                clear Sr S3
                by_cases hz : M - (U) = 0
                · go_wp2_with fail
                  go_roundw
                  case rel => first | exact ⟨U, j + 1, by omega, by omega, by omega, rfl, by go_num, by repeat (first | exact Kept.refl _ | assumption | (refine Kept.alloc ?_ _) | (refine Kept.setCell ?_ (by first | omega | (simp; omega) | simp) _) | refine Kept.drew ?_ | refine Kept.drewN ?_ _ | (apply Kept.call; rotate_left; assumption)), S5.out.kept (by repeat (first | exact Kept.refl _ | assumption | (refine Kept.alloc ?_ _) | (refine Kept.setCell ?_ (by first | omega | (simp; omega) | simp) _) | refine Kept.drew ?_ | refine Kept.drewN ?_ _ | (apply Kept.call; rotate_left; assumption)))⟩ | ((repeat apply Exists.intro); exact ⟨⟨U, j + 1, by omega, by omega, by omega, rfl, by go_num, by repeat (first | exact Kept.refl _ | assumption | (refine Kept.alloc ?_ _) | (refine Kept.setCell ?_ (by first | omega | (simp; omega) | simp) _) | refine Kept.drew ?_ | refine Kept.drewN ?_ _ | (apply Kept.call; rotate_left; assumption)), S5.out.kept (by repeat (first | exact Kept.refl _ | assumption | (refine Kept.alloc ?_ _) | (refine Kept.setCell ?_ (by first | omega | (simp; omega) | simp) _) | refine Kept.drew ?_ | refine Kept.drewN ?_ _ | (apply Kept.call; rotate_left; assumption)))⟩, rfl⟩)
                  case measure => simp [intOf]; omega
                · obtain ⟨g, rfl, hg, hc⟩ := R4.2.2 (by omega)
                  have hc0 := (hc 0 (by omega)).1
                  simp only [Nat.zero_mul, Nat.zero_add, Nat.add_zero] at hc0
                  have hpos : (0 : Int) < ((M - (U) : Nat) : Int) := by omega
                  clear hc R4
                  go_wp2_with fail
                  go_roundw
                  case rel => first | exact ⟨U, j + 1, by omega, by omega, by omega, rfl, by go_num, by repeat (first | exact Kept.refl _ | assumption | (refine Kept.alloc ?_ _) | (refine Kept.setCell ?_ (by first | omega | (simp; omega) | simp) _) | refine Kept.drew ?_ | refine Kept.drewN ?_ _ | (apply Kept.call; rotate_left; assumption)), S5.out.kept (by repeat (first | exact Kept.refl _ | assumption | (refine Kept.alloc ?_ _) | (refine Kept.setCell ?_ (by first | omega | (simp; omega) | simp) _) | refine Kept.drew ?_ | refine Kept.drewN ?_ _ | (apply Kept.call; rotate_left; assumption)))⟩ | ((repeat apply Exists.intro); exact ⟨⟨U, j + 1, by omega, by omega, by omega, rfl, by go_num, by repeat (first | exact Kept.refl _ | assumption | (refine Kept.alloc ?_ _) | (refine Kept.setCell ?_ (by first | omega | (simp; omega) | simp) _) | refine Kept.drew ?_ | refine Kept.drewN ?_ _ | (apply Kept.call; rotate_left; assumption)), S5.out.kept (by repeat (first | exact Kept.refl _ | assumption | (refine Kept.alloc ?_ _) | (refine Kept.setCell ?_ (by first | omega | (simp; omega) | simp) _) | refine Kept.drew ?_ | refine Kept.drewN ?_ _ | (apply Kept.call; rotate_left; assumption)))⟩, rfl⟩)
                  case measure => simp [intOf]; omega
              · refine (answerX w [] w1.heap.size T (ys (M - T)) X 0 0 _ Sr kr (by rw [ys_len]; omega) (by omega) (by omega) (by omega) rfl).mono ?_
                rintro e w3 ⟨rfl, S3, K3, _, _⟩
                simp only [List.drop_zero, Nat.add_zero] at S3
                go_wp2_with fail
                refine (openX w [] w1.heap.size (T) (M - (T)) (ys (M - (T))) _ S3 (ys_len _).symm (by omega)).mono ?_
                rintro e w4 ⟨A4, c4, rfl, R4, k4⟩
                have S5 := Lib.hid (S3.kept k4)
                clear Sr S3
                by_cases hz : M - (T) = 0
                · go_wp2_with fail
                  go_roundw
                  case rel => first | exact ⟨T, j + 1, by omega, by omega, by omega, by go_num, by go_num, by repeat (first | exact Kept.refl _ | assumption | (refine Kept.alloc ?_ _) | (refine Kept.setCell ?_ (by first | omega | (simp; omega) | simp) _) | refine Kept.drew ?_ | refine Kept.drewN ?_ _ | (apply Kept.call; rotate_left; assumption)), S5.out.kept (by repeat (first | exact Kept.refl _ | assumption | (refine Kept.alloc ?_ _) | (refine Kept.setCell ?_ (by first | omega | (simp; omega) | simp) _) | refine Kept.drew ?_ | refine Kept.drewN ?_ _ | (apply Kept.call; rotate_left; assumption)))⟩ | ((repeat apply Exists.intro); exact ⟨⟨T, j + 1, by omega, by omega, by omega, by go_num, by go_num, by repeat (first | exact Kept.refl _ | assumption | (refine Kept.alloc ?_ _) | (refine Kept.setCell ?_ (by first | omega | (simp; omega) | simp) _) | refine Kept.drew ?_ | refine Kept.drewN ?_ _ | (apply Kept.call; rotate_left; assumption)), S5.out.kept (by repeat (first | exact Kept.refl _ | assumption | (refine Kept.alloc ?_ _) | (refine Kept.setCell ?_ (by first | omega | (simp; omega) | simp) _) | refine Kept.drew ?_ | refine Kept.drewN ?_ _ | (apply Kept.call; rotate_left; assumption)))⟩, rfl⟩)
                  case measure => simp [intOf]; omega
                · obtain ⟨g, rfl, hg, hc⟩ := R4.2.2 (by omega)
                  have hc0 := (hc 0 (by omega)).1
                  simp only [Nat.zero_mul, Nat.zero_add, Nat.add_zero] at hc0
                  have hpos : (0 : Int) < ((M - (T) : Nat) : Int) := by omega
                  clear hc R4
                  go_wp2_with fail
                  go_roundw
                  case rel => first | exact ⟨T, j + 1, by omega, by omega, by omega, by go_num, by go_num, by repeat (first | exact Kept.refl _ | assumption | (refine Kept.alloc ?_ _) | (refine Kept.setCell ?_ (by first | omega | (simp; omega) | simp) _) | refine Kept.drew ?_ | refine Kept.drewN ?_ _ | (apply Kept.call; rotate_left; assumption)), S5.out.kept (by repeat (first | exact Kept.refl _ | assumption | (refine Kept.alloc ?_ _) | (refine Kept.setCell ?_ (by first | omega | (simp; omega) | simp) _) | refine Kept.drew ?_ | refine Kept.drewN ?_ _ | (apply Kept.call; rotate_left; assumption)))⟩ | ((repeat apply Exists.intro); exact ⟨⟨T, j + 1, by omega, by omega, by omega, by go_num, by go_num, by repeat (first | exact Kept.refl _ | assumption | (refine Kept.alloc ?_ _) | (refine Kept.setCell ?_ (by first | omega | (simp; omega) | simp) _) | refine Kept.drew ?_ | refine Kept.drewN ?_ _ | (apply Kept.call; rotate_left; assumption)), S5.out.kept (by repeat (first | exact Kept.refl _ | assumption | (refine Kept.alloc ?_ _) | (refine Kept.setCell ?_ (by first | omega | (simp; omega) | simp) _) | refine Kept.drew ?_ | refine Kept.drewN ?_ _ | (apply Kept.call; rotate_left; assumption)))⟩, rfl⟩)
                  case measure => simp [intOf]; omega
          · obtain rfl : j = 10 := by omega
            go_wp2_with (first | (go_at_call 18; refine (nextX w [] w1.heap.size T (ys (M - T)) M _ Sr (by rw [ys_len]; omega)).mono ?_; rintro e w6 ⟨rfl, hb6⟩))
            go_ret
            exact ⟨by first | rfl | exact ret_bool (by simp; omega), kr.call hb6⟩
        · obtain rfl : j = n := by omega
          go_wp2_with (first | (go_at_call 18; refine (nextX w [] w1.heap.size T (ys (M - T)) M _ Sr (by rw [ys_len]; omega)).mono ?_; rintro e w6 ⟨rfl, hb6⟩))
          go_ret
          exact ⟨by first | rfl | exact ret_bool (by simp; omega), kr.call hb6⟩
end Go.Proofs.Ytgcbadlajmbdhaa
