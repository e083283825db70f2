/- The walk of the law VaryLong: it returns true for every number. -/
import Derived.Test.YthceenheaegdbaaVaryPrefix
set_option linter.unusedSimpArgs false
set_option linter.unusedVariables false
namespace Go.Proofs.Ythceenheaegdbaa
open Go.RowKit

/-- A number between two powers of two: how many bytes. -/
theorem len_bits (n k : Nat) (h1 : 2 ^ k ≤ n) (h2 : n < 2 ^ (k + 1)) : (enc n).length = k / 7 + 1 := by
  have a : (enc n).length ≤ k / 7 + 1 := by
    rw [enc_len]
    have e : 128 ^ (k / 7 + 1) = 2 ^ (7 * (k / 7 + 1)) := by rw [Nat.pow_mul]
    rw [e]
    exact Nat.lt_of_lt_of_le h2 (Nat.pow_le_pow_right (by omega) (by omega))
  rcases Nat.eq_zero_or_pos (k / 7) with h | h
  · have := enc_pos n; omega
  · obtain ⟨j, hj⟩ : ∃ j, k / 7 = j + 1 := ⟨k / 7 - 1, by omega⟩
    have b : ¬ (enc n).length ≤ j + 1 := by
      rw [enc_len]
      have e : 128 ^ (j + 1) = 2 ^ (7 * (j + 1)) := by rw [Nat.pow_mul]
      rw [e]
      have := Nat.le_trans (Nat.pow_le_pow_right (show 0 < 2 by omega) (show 7 * (j + 1) ≤ k by omega)) h1
      omega
    omega

theorem ofNat64 (m : Nat) (hm : m < 18446744073709551616) : (BitVec.ofInt 64 (m : Int)).toNat = m := by
  rw [BitVec.ofInt_natCast, BitVec.toNat_ofNat]; exact Nat.mod_eq_of_lt (by omega)
theorem and_u64 (a b : Nat) (ha : a < 18446744073709551616) (hb : b < 18446744073709551616) : bits .and .u64 (a : Int) (b : Int) = ((a &&& b : Nat) : Int) := by
  show IntKind.u64.wrap ((BitVec.ofInt 64 (a : Int) &&& BitVec.ofInt 64 (b : Int)).toNat : Int) = _
  rw [BitVec.toNat_and, ofNat64 a ha, ofNat64 b hb, IntKind.wrap_u64]
  have : a &&& b ≤ a := Nat.and_le_left
  omega
theorem or_u64 (a b c : Nat) (ha : a < 18446744073709551616) (hb : b < 18446744073709551616) (hc : a ||| b = c) (hcc : c < 18446744073709551616) : bits .or .u64 (a : Int) (b : Int) = (c : Int) := by
  show IntKind.u64.wrap ((BitVec.ofInt 64 (a : Int) ||| BitVec.ofInt 64 (b : Int)).toNat : Int) = _
  rw [BitVec.toNat_or, ofNat64 a ha, ofNat64 b hb, hc, IntKind.wrap_u64]
  omega
theorem mixed (K L : Nat) (hK : K ≤ 63) (hL : L < 18446744073709551616) : ∃ N : Nat, bits .or .u64 (IntKind.u64.wrap (2 ^ K)) (bits .and .u64 (L : Int) (IntKind.u64.wrap (IntKind.u64.wrap (2 ^ K) - 1))) = (N : Int) ∧ 2 ^ K ≤ N ∧ N < 2 ^ (K + 1) := by
  have hp : 2 ^ K ≤ 2 ^ 63 := Nat.pow_le_pow_right (by omega) hK
  have hp0 : 0 < 2 ^ K := Nat.pow_pos (by omega)
  have e0 : ((2 : Int) ^ K) = ((2 ^ K : Nat) : Int) := by simp
  have e1 : IntKind.u64.wrap (2 ^ K) = ((2 ^ K : Nat) : Int) := by
    rw [e0, IntKind.wrap_u64]
    omega
  have e2 : IntKind.u64.wrap (((2 ^ K : Nat) : Int) - 1) = ((2 ^ K - 1 : Nat) : Int) := by
    rw [IntKind.wrap_u64]
    omega
  rw [e1, e2, and_u64 L (2 ^ K - 1) hL (by omega), Nat.and_two_pow_sub_one_eq_mod]
  have hm : L % 2 ^ K < 2 ^ K := Nat.mod_lt _ hp0
  refine ⟨2 ^ K + L % 2 ^ K, or_u64 _ _ _ (by omega) (by omega) ?_ (by omega), by omega, by rw [Nat.pow_succ]; omega⟩
  have := Nat.two_pow_add_eq_or_of_lt hm 1
  rw [Nat.mul_one] at this
  exact this.symm
theorem div7 (K len : Nat) (h : len = K / 7 + 1) : (len : Int) = (K : Int) / 7 + 1 := by omega

set_option maxHeartbeats 2000000 in
set_option maxRecDepth 100000 in
theorem varyLong_walk (bit low : Int) (w : World) (hb : (Lit.int .i64 bit).wf = true) (hl : (Lit.int .u64 low).wf = true) :
    Calls Try.prog 6 #[.int .i64 bit, .int .u64 low] w fun e w' => e = .returned (.bool true) ∧ Kept w w' := by
  obtain ⟨K, hK, hK2⟩ : ∃ K : Nat, bits .and .i64 bit 63 = (K : Int) ∧ K ≤ 63 := by
    obtain ⟨h1, h2⟩ := and_bd bit 63 (by omega) (by omega)
    exact ⟨(bits .and .i64 bit 63).toNat, by omega, by omega⟩
  have hbl := bounds_u64 hl
  obtain ⟨L, rfl⟩ := Int.eq_ofNat_of_zero_le hbl.1
  obtain ⟨N, hN, hN1, hN2⟩ := mixed K L hK2 (by have := hbl.2; omega)
  have hlen := len_bits N K hN1 hN2
  have hN64 : N < 18446744073709551616 := by
    have : 2 ^ (K + 1) ≤ 2 ^ 64 := Nat.pow_le_pow_right (by omega) (by omega)
    omega
  obtain ⟨len, hl0⟩ : ∃ l, (enc N).length = l := ⟨_, rfl⟩
  rw [hl0] at hlen
  have h1 := div7 K len hlen
  have hnz : (num N).size = len := hl0
  have h0 : (enc 0).length = 1 := by rw [enc_lo (by omega)]; rfl
  have H0 := Lib.hid h0
  have HL0 := Lib.hid hl0
  have HN64 := Lib.hid hN64
  clear hb hl hbl hN1 hN2 hlen hl0 h0 hN64
  go_enter Try.func6, Try.ntmps6
  go_wp2_with fail
  refine (awake_any _).mono ?_
  rintro e w1 ⟨rfl, k1⟩
  go_wp2_with fail
  refine (long_any N len _ HN64.out HL0.out.symm).mono ?_
  rintro e w2 ⟨rfl, k2⟩
  go_wp2_with fail
  refine (number_any N _ HN64.out).mono ?_
  rintro e w3 ⟨rfl, k3⟩
  go_wp2_with fail
  refine (long_any 0 1 _ (by omega) H0.out.symm).mono ?_
  rintro e w4 ⟨rfl, k4⟩
  go_wp2_with fail
  go_ret
  exact ⟨by first | rfl | exact ret_bool (by simp), ((k1.call k2).call k3).call k4⟩
end Go.Proofs.Ythceenheaegdbaa
