/- The walk of the law LinkFull: it returns true for every two numbers. -/
import Derived.Test.YtgcbadlajmbdhaaLinkX
set_option linter.unusedSimpArgs false
set_option linter.unusedVariables false
namespace Go.Proofs.Ytgcbadlajmbdhaa
open Go.RowKit

def xs (k : Nat) : List ByteArray := List.replicate k ⟨#[120]⟩
theorem xs_len (k : Nat) : (xs k).length = k := by simp [xs]
theorem xs_snoc (k : Nat) : xs k ++ [⟨#[120]⟩] = xs (k + 1) := by simp [xs, List.replicate_succ']
theorem xs_drop (k j : Nat) : (xs k).drop j = xs (k - j) := by simp [xs]

set_option maxHeartbeats 1000000 in
theorem linkFull_walk (n a : Int) (w : World) (_ : (Lit.int .i64 n).wf = true) (_ : (Lit.int .i64 a).wf = true) :
    Calls Try.prog 5 #[.int .i64 n, .int .i64 a] w fun e w' => e = .returned (.bool true) ∧ Kept w w' := by
  obtain ⟨ha1, ha2⟩ := tmod_bd n 21 (by omega)
  obtain ⟨hb1, hb2⟩ := tmod_bd a 9 (by omega)
  go_enter Try.func5, Try.ntmps5
  go_wp2_with fail
  refine (awake_any _).mono ?_
  rintro e w1 ⟨rfl, k1⟩
  go_wp2_with fail
  refine (newSenderX w w1 k1).mono ?_
  rintro e w2 ⟨rfl, k2, S2⟩
  go_wp2_with fail
  simp only [show (n.tmod 21 + 21) % 21 = n.tmod 21 % 21 by omega]
  go_loopw [8] (fun i wr => ∃ k : Nat, (k : Int) ≤ n.tmod 21 % 21 ∧ i = .int .i64 k ∧ Kept w wr ∧ SndX w [] wr w1.heap.size 0 (xs (min k 8))) (fun i _ => 21 - (intOf i).toNat)
  case atStart => exact ⟨0, by omega, rfl, k1.call k2, S2⟩
  case round =>
    obtain ⟨k, hk, rfl, kr, Sr⟩ := hrel
    by_cases hlt : (k : Int) < n.tmod 21 % 21
    · by_cases h8 : k < 8
      · have e8 : min k 8 = k := by omega
        have e9 : min (k + 1) 8 = k + 1 := by omega
        rw [e8] at Sr
        clear e8
        go_wp2_with fail
        refine (sendX w [] w1.heap.size 0 (xs k) ⟨#[120]⟩ k _ Sr kr (by rw [xs_len]; exact h8) (by rw [xs_len]; omega) (by rw [xs_len]; simp)).mono ?_
        rintro e w3 ⟨rfl, S3, K3, _, _⟩
        rw [xs_snoc, ← e9] at S3
        have S4 := Lib.hid S3
        clear S3 e9
        go_wp2
        go_roundw
        case rel => first | exact ⟨k + 1, by omega, by go_num, by repeat (first | exact Kept.refl _ | assumption | (refine Kept.alloc ?_ _) | (refine Kept.setCell ?_ (by first | omega | (simp; omega) | simp) _) | refine Kept.drew ?_ | refine Kept.drewN ?_ _ | (apply Kept.call; rotate_left; assumption)), S4.out.kept (by repeat (first | exact Kept.refl _ | assumption | (refine Kept.alloc ?_ _) | (refine Kept.setCell ?_ (by first | omega | (simp; omega) | simp) _) | refine Kept.drew ?_ | refine Kept.drewN ?_ _ | (apply Kept.call; rotate_left; assumption)))⟩ | ((repeat apply Exists.intro); exact ⟨⟨k + 1, by omega, by go_num, by repeat (first | exact Kept.refl _ | assumption | (refine Kept.alloc ?_ _) | (refine Kept.setCell ?_ (by first | omega | (simp; omega) | simp) _) | refine Kept.drew ?_ | refine Kept.drewN ?_ _ | (apply Kept.call; rotate_left; assumption)), S4.out.kept (by repeat (first | exact Kept.refl _ | assumption | (refine Kept.alloc ?_ _) | (refine Kept.setCell ?_ (by first | omega | (simp; omega) | simp) _) | refine Kept.drew ?_ | refine Kept.drewN ?_ _ | (apply Kept.call; rotate_left; assumption)))⟩, rfl⟩)
        case measure => simp [intOf]; omega
      · have e8 : min k 8 = 8 := by omega
        have e9 : min (k + 1) 8 = 8 := by omega
        rw [e8] at Sr
        go_wp2_with fail
        refine (sendX_full w [] w1.heap.size 0 (xs 8) ⟨#[120]⟩ _ Sr (by rw [xs_len]; omega)).mono ?_
        rintro e w3 ⟨rfl, K3⟩
        have S4 := Lib.hid Sr
        have E9 := Lib.hid e9
        clear Sr e8 e9
        go_wp2
        go_roundw
        case rel => first | exact ⟨k + 1, by omega, by go_num, by repeat (first | exact Kept.refl _ | assumption | (refine Kept.alloc ?_ _) | (refine Kept.setCell ?_ (by first | omega | (simp; omega) | simp) _) | refine Kept.drew ?_ | refine Kept.drewN ?_ _ | (apply Kept.call; rotate_left; assumption)), by rw [E9.out]; exact (S4.out.kept K3).kept (by repeat (first | exact Kept.refl _ | assumption | (refine Kept.alloc ?_ _) | (refine Kept.setCell ?_ (by first | omega | (simp; omega) | simp) _) | refine Kept.drew ?_ | refine Kept.drewN ?_ _ | (apply Kept.call; rotate_left; assumption)))⟩ | ((repeat apply Exists.intro); exact ⟨⟨k + 1, by omega, by go_num, by repeat (first | exact Kept.refl _ | assumption | (refine Kept.alloc ?_ _) | (refine Kept.setCell ?_ (by first | omega | (simp; omega) | simp) _) | refine Kept.drew ?_ | refine Kept.drewN ?_ _ | (apply Kept.call; rotate_left; assumption)), by rw [E9.out]; exact (S4.out.kept K3).kept (by repeat (first | exact Kept.refl _ | assumption | (refine Kept.alloc ?_ _) | (refine Kept.setCell ?_ (by first | omega | (simp; omega) | simp) _) | refine Kept.drew ?_ | refine Kept.drewN ?_ _ | (apply Kept.call; rotate_left; assumption)))⟩, rfl⟩)
        case measure => simp [intOf]; omega
    · obtain ⟨K, hK1, hK2⟩ : ∃ K : Nat, (K : Int) ≤ a.tmod 9 % 9 ∧ a.tmod 9 % 9 ≤ (K : Int) := ⟨(a.tmod 9 % 9).toNat, by omega, by omega⟩
      by_cases h8 : 8 < n.tmod 21 % 21
      · have e8 : min k 8 = 8 := by omega
        rw [e8] at Sr
        clear e8
        go_wp2_with fail
        (try simp only [show (a.tmod 9 + 9) % 9 = a.tmod 9 % 9 by omega])
        refine (answerX w [] w1.heap.size 0 (xs 8) (a.tmod 9 % 9) K (a.tmod 9 % 9) _ Sr kr (by rw [xs_len]; omega) (by rw [xs_len]; omega) (by omega) (by omega) (by omega)).mono ?_
        rintro e w3 ⟨rfl, S3, K3, _, _⟩
        rw [xs_drop] at S3
        go_wp2_with fail
        refine (openX w [] w1.heap.size (0 + K) (8 - K) (xs (8 - K)) _ S3 (xs_len _).symm (by omega)).mono ?_
        rintro e w4 ⟨A, c, rfl, R4, k4⟩
        have S5 := S3.kept k4
        clear Sr S3
        have hNx : (8 : Int) = ((0 + K + (xs (8 - K)).length : Nat) : Int) := by rw [xs_len]; omega
        have HNx := Lib.hid hNx
        clear hNx
        by_cases hz : 8 - K = 0
        · go_wp2_with (first | (go_at_call 18; refine (nextX w [] w1.heap.size (0 + K) (xs (8 - K)) _ _ S5 HNx.out).mono ?_; rintro e w6 ⟨rfl, hb6⟩))
          go_ret
          exact ⟨rfl, (K3.call k4).call hb6⟩
        · obtain ⟨g, rfl, hg, hc⟩ := R4.2.2 (by omega)
          have hc0 := (hc 0 (by omega)).1
          simp only [Nat.zero_mul, Nat.zero_add, Nat.add_zero] at hc0
          have hpos : (0 : Int) < ((8 - K : Nat) : Int) := by omega
          clear hc R4
          go_wp2_with ((go_at_call 18; refine (nextX w [] w1.heap.size (0 + K) (xs (8 - K)) _ _ S5 HNx.out).mono ?_; rintro e w6 ⟨rfl, hb6⟩); (have hd6 : w6.cell? _ = _ := hb6.at_ hc0))
          go_ret
          exact ⟨by first | rfl | exact ret_bool (by simp; omega), (K3.call k4).call hb6⟩
      · have e8 : min k 8 = k := by omega
        rw [e8] at Sr
        clear e8
        by_cases hKk : K ≤ k
        · skip
          go_wp2_with fail
          (try simp only [show (a.tmod 9 + 9) % 9 = a.tmod 9 % 9 by omega])
          refine (answerX w [] w1.heap.size 0 (xs k) (a.tmod 9 % 9) K (a.tmod 9 % 9) _ Sr kr (by rw [xs_len]; omega) (by rw [xs_len]; omega) (by omega) (by omega) (by omega)).mono ?_
          rintro e w3 ⟨rfl, S3, K3, _, _⟩
          rw [xs_drop] at S3
          go_wp2_with fail
          refine (openX w [] w1.heap.size (0 + K) (k - K) (xs (k - K)) _ S3 (xs_len _).symm (by omega)).mono ?_
          rintro e w4 ⟨A, c, rfl, R4, k4⟩
          have S5 := S3.kept k4
          clear Sr S3
          have hNx : (n.tmod 21 % 21 : Int) = ((0 + K + (xs (k - K)).length : Nat) : Int) := by rw [xs_len]; omega
          have HNx := Lib.hid hNx
          clear hNx
          by_cases hz : k - K = 0
          · go_wp2_with (first | (go_at_call 18; refine (nextX w [] w1.heap.size (0 + K) (xs (k - K)) _ _ S5 HNx.out).mono ?_; rintro e w6 ⟨rfl, hb6⟩))
            go_ret
            exact ⟨rfl, (K3.call k4).call hb6⟩
          · obtain ⟨g, rfl, hg, hc⟩ := R4.2.2 (by omega)
            have hc0 := (hc 0 (by omega)).1
            simp only [Nat.zero_mul, Nat.zero_add, Nat.add_zero] at hc0
            have hpos : (0 : Int) < ((k - K : Nat) : Int) := by omega
            clear hc R4
            go_wp2_with ((go_at_call 18; refine (nextX w [] w1.heap.size (0 + K) (xs (k - K)) _ _ S5 HNx.out).mono ?_; rintro e w6 ⟨rfl, hb6⟩); (have hd6 : w6.cell? _ = _ := hb6.at_ hc0))
            go_ret
            exact ⟨by first | rfl | exact ret_bool (by simp; omega), (K3.call k4).call hb6⟩
        · skip
          go_wp2_with fail
          (try simp only [show (a.tmod 9 + 9) % 9 = a.tmod 9 % 9 by omega])
          refine (answerX_above w [] w1.heap.size 0 (xs k) (a.tmod 9 % 9) _ Sr (by rw [xs_len]; omega)).mono ?_
          rintro e w3 ⟨rfl, k3⟩
          have S3 := Sr.kept k3
          have K3 := kr.call k3
          go_wp2_with fail
          refine (openX w [] w1.heap.size 0 k (xs k) _ S3 (xs_len _).symm (by omega)).mono ?_
          rintro e w4 ⟨A, c, rfl, R4, k4⟩
          have S5 := S3.kept k4
          clear Sr S3
          have hNx : (n.tmod 21 % 21 : Int) = ((0 + (xs k).length : Nat) : Int) := by rw [xs_len]; omega
          have HNx := Lib.hid hNx
          clear hNx
          by_cases hz : k = 0
          · go_wp2_with (first | (go_at_call 18; refine (nextX w [] w1.heap.size 0 (xs k) _ _ S5 HNx.out).mono ?_; rintro e w6 ⟨rfl, hb6⟩))
            go_ret
            exact ⟨by first | rfl | exact ret_bool (by simp; omega), (K3.call k4).call hb6⟩
          · obtain ⟨g, rfl, hg, hc⟩ := R4.2.2 (by omega)
            have hc0 := (hc 0 (by omega)).1
            simp only [Nat.zero_mul, Nat.zero_add, Nat.add_zero] at hc0
            have hpos : (0 : Int) < ((k : Nat) : Int) := by omega
            clear hc R4
            go_wp2_with ((go_at_call 18; refine (nextX w [] w1.heap.size 0 (xs k) _ _ S5 HNx.out).mono ?_; rintro e w6 ⟨rfl, hb6⟩); (have hd6 : w6.cell? _ = _ := hb6.at_ hc0))
            go_ret
            exact ⟨by first | rfl | exact ret_bool (by simp; omega), (K3.call k4).call hb6⟩
end Go.Proofs.Ytgcbadlajmbdhaa
