/- Many of both, at any mask. -/
import Derived.Test.YtahokiopapenbaaTabP
import Derived.Test.YtahokiopapenbaaTabO
import Derived.Laws.Bits128
set_option linter.unusedSimpArgs false
set_option linter.unusedVariables false
namespace Go.Proofs.Ytahokiopapenbaa
open Go.RowKit

theorem band (y k : Nat) (K : Int) (hK : K = (k : Int)) (hy : y < 18446744073709551616) (hk : k < 18446744073709551616) : bits .and .u64 (y : Int) K = ((y &&& k : Nat) : Int) := by rw [hK]; exact bits_and_u64_nat y k hy hk
theorem bandd (y k d : Nat) (K D : Int) (hK : K = (k : Int)) (hD : D = (d : Int)) (hy : y < 18446744073709551616) (hk : k < 18446744073709551616) : bits .and .u64 ((y : Int) / D) K = ((y / d &&& k : Nat) : Int) := by
  rw [hK, hD, ← Int.natCast_ediv]
  exact bits_and_u64_nat _ k (Nat.lt_of_le_of_lt (Nat.div_le_self _ _) hy) hk
theorem uwrap (x : Nat) (h : x < 18446744073709551616) : IntKind.u64.wrap (x : Int) = (x : Int) := by rw [IntKind.wrap_u64]; omega
theorem A_sum (x : Nat) (h : x < 9223372036854775808) : ∃ r1 r2 r3 y : Nat, A3 (A2 (A1 x)) = y ∧ r1 = y + y / 256 ∧ r2 = r1 + r1 / 65536 ∧ r3 = r2 + r2 / 4294967296 ∧ r3 < 9223372036854775808 ∧ r2 < 9223372036854775808 ∧ r1 < 9223372036854775808 ∧ y < 9223372036854775808 ∧ r3 % 128 = bct 64 x := by
  have hA := A_all x (by omega)
  have hS := bct_digs 8 x
  rw [show 8 * 8 = 64 from rfl] at hS
  have hq : ∀ i, bct 8 i ≤ 8 := bct_le 8
  simp only [digs, List.map_cons, List.map_nil, List.sum_cons, List.sum_nil, bct8] at hA hS
  simp only [valB] at hA
  have i0 := hq x
  have i1 := hq (x / 256)
  have i2 := hq (x / 256 / 256)
  have i3 := hq (x / 256 / 256 / 256)
  have i4 := hq (x / 256 / 256 / 256 / 256)
  have i5 := hq (x / 256 / 256 / 256 / 256 / 256)
  have i6 := hq (x / 256 / 256 / 256 / 256 / 256 / 256)
  have i7 := hq (x / 256 / 256 / 256 / 256 / 256 / 256 / 256)
  generalize A3 (A2 (A1 x)) = y at *
  generalize bct 64 x = S at *
  generalize bct 8 (x / 256 / 256 / 256 / 256 / 256 / 256 / 256) = q7 at *
  generalize bct 8 (x / 256 / 256 / 256 / 256 / 256 / 256) = q6 at *
  generalize bct 8 (x / 256 / 256 / 256 / 256 / 256) = q5 at *
  generalize bct 8 (x / 256 / 256 / 256 / 256) = q4 at *
  generalize bct 8 (x / 256 / 256 / 256) = q3 at *
  generalize bct 8 (x / 256 / 256) = q2 at *
  generalize bct 8 (x / 256) = q1 at *
  generalize bct 8 x = q0 at *
  clear hq h
  obtain ⟨r1, r2, r3, e1, e2, e3, l3, l2, l1, l0, e4⟩ := fin8 q0 q1 q2 q3 q4 q5 q6 q7 y i0 i1 i2 i3 i4 i5 i6 i7 (by clear hS; omega)
  exact ⟨r1, r2, r3, y, rfl, e1, e2, e3, l3, l2, l1, l0, by rw [e4, hS]; clear e1 e2 e3 hA; omega⟩
theorem ones_chain (x : Nat) (h : x < 9223372036854775808) : ∃ p1 p2 y1 q1 q2 y2 z y r1 r2 r3 : Nat,
    bits .and .u64 ((x : Int) / 2) 6148914691236517205 = (p1 : Int) ∧ bits .and .u64 (x : Int) 6148914691236517205 = (p2 : Int) ∧ IntKind.u64.wrap ((p1 : Int) + p2) = (y1 : Int) ∧
    bits .and .u64 ((y1 : Int) / 4) 3689348814741910323 = (q1 : Int) ∧ bits .and .u64 (y1 : Int) 3689348814741910323 = (q2 : Int) ∧ IntKind.u64.wrap ((q1 : Int) + q2) = (y2 : Int) ∧
    IntKind.u64.wrap ((y2 : Int) / 16 + y2) = (z : Int) ∧ bits .and .u64 (z : Int) 1085102592571150095 = (y : Int) ∧
    IntKind.u64.wrap ((y : Int) + (y : Int) / 256) = (r1 : Int) ∧ IntKind.u64.wrap ((r1 : Int) + (r1 : Int) / 65536) = (r2 : Int) ∧ IntKind.u64.wrap ((r2 : Int) + (r2 : Int) / 4294967296) = (r3 : Int) ∧
    wrap64 (r3 : Int) = (r3 : Int) ∧ bits .and .i64 (r3 : Int) 127 = ((bct 64 x : Nat) : Int) := by
  obtain ⟨r1, r2, r3, y, hA, e1, e2, e3, l3, l2, l1, l0, e4⟩ := A_sum x h
  have g1 : (x / 2 &&& 6148914691236517205) ≤ 6148914691236517205 := Nat.and_le_right
  have g2 : (x &&& 6148914691236517205) ≤ 6148914691236517205 := Nat.and_le_right
  have f1 : A1 x = (x / 2 &&& 6148914691236517205) + (x &&& 6148914691236517205) := rfl
  have hb1 := bandd x 6148914691236517205 2 6148914691236517205 2 rfl rfl (by omega) (by omega)
  have hb2 := band x 6148914691236517205 6148914691236517205 rfl (by omega) (by omega)
  generalize (x / 2 &&& 6148914691236517205) = p1 at *
  generalize (x &&& 6148914691236517205) = p2 at *
  generalize A1 x = y1 at *
  have g3 : (y1 / 4 &&& 3689348814741910323) ≤ 3689348814741910323 := Nat.and_le_right
  have g4 : (y1 &&& 3689348814741910323) ≤ 3689348814741910323 := Nat.and_le_right
  have f2 : A2 y1 = (y1 / 4 &&& 3689348814741910323) + (y1 &&& 3689348814741910323) := rfl
  have hb3 := bandd y1 3689348814741910323 4 3689348814741910323 4 rfl rfl (by omega) (by omega)
  have hb4 := band y1 3689348814741910323 3689348814741910323 rfl (by omega) (by omega)
  generalize (y1 / 4 &&& 3689348814741910323) = q1 at *
  generalize (y1 &&& 3689348814741910323) = q2 at *
  generalize A2 y1 = y2 at *
  have f3 : A3 y2 = (y2 / 16 + y2) &&& 1085102592571150095 := rfl
  have hb5 := band (y2 / 16 + y2) 1085102592571150095 1085102592571150095 rfl (by omega) (by omega)
  rw [hA] at f3
  rw [← f3] at hb5
  clear f3 hA
  refine ⟨p1, p2, y1, q1, q2, y2, y2 / 16 + y2, y, r1, r2, r3, hb1, hb2, ?_, hb3, hb4, ?_, ?_, hb5, ?_, ?_, ?_, ?_, ?_⟩
  · rw [f1, ← Int.natCast_add]; exact uwrap _ (by clear f2 e1 e2 e3 e4; omega)
  · rw [f2, ← Int.natCast_add]; exact uwrap _ (by clear f1 e1 e2 e3 e4; omega)
  · rw [show (y2 : Int) / 16 + (y2 : Int) = ((y2 / 16 + y2 : Nat) : Int) by rw [Int.natCast_add, Int.natCast_ediv]; rfl]; exact uwrap _ (by clear f1 e1 e2 e3 e4; omega)
  · rw [show (y : Int) + (y : Int) / 256 = ((y + y / 256 : Nat) : Int) by rw [Int.natCast_add, Int.natCast_ediv]; rfl, ← e1]; exact uwrap _ (by omega)
  · rw [show (r1 : Int) + (r1 : Int) / 65536 = ((r1 + r1 / 65536 : Nat) : Int) by rw [Int.natCast_add, Int.natCast_ediv]; rfl, ← e2]; exact uwrap _ (by omega)
  · rw [show (r2 : Int) + (r2 : Int) / 4294967296 = ((r2 + r2 / 4294967296 : Nat) : Int) by rw [Int.natCast_add, Int.natCast_ediv]; rfl, ← e3]; exact uwrap _ (by omega)
  · unfold wrap64; omega
  · rw [i64_and127, ← e4]; rfl
theorem bct64_le (x : Nat) : bct 64 x ≤ 64 := bct_le 64 x
set_option maxHeartbeats 2000000 in
theorem ones64_g (x : Nat) (w : World) (h : x < 9223372036854775808) :
    Calls Try.prog 38 #[.int .u64 (x : Int)] w fun e w' => e = .returned (.int .i64 (bct 64 x : Nat)) ∧ Kept w w' := by
  obtain ⟨p1, p2, y1, q1, q2, y2, z, y, r1, r2, r3, h1, h2, h3, h4, h5, h6, h7, h8, h9, h10, h11, h12, h13⟩ := ones_chain x h
  clear h
  go_enter Try.func38, Try.ntmps38
  go_wp2_with fail
  go_ret
  exact ⟨rfl, by repeat (first | exact Kept.refl _ | assumption | (refine Kept.alloc ?_ _) | (refine Kept.setCell ?_ (by first | omega | (simp; omega) | simp) _) | refine Kept.drew ?_ | refine Kept.drewN ?_ _ | (apply Kept.call; rotate_left; assumption))⟩
theorem ones_g (x : Nat) (w : World) (h : x < 9223372036854775808) :
    Calls Try.prog 29 #[.int .u64 (x : Int)] w fun e w' => e = .returned (.int .i64 (bct 64 x : Nat)) ∧ Kept w w' := by
  go_enter Try.func29, Try.ntmps29
  go_wp2_with fail
  refine (ones64_g x _ h).mono ?_
  rintro e w2 ⟨rfl, k2⟩
  go_wp2_with fail
  go_ret
  exact ⟨rfl, k2⟩
/-- How many bits of a mask are 1; none of one below 0. -/
def many (m : Int) : Nat := bct 64 m.toNat
theorem tmany_g (m : Int) (w : World) (h : m ≤ 9223372036854775807) :
    Calls Try.prog 10 #[.int .i64 m] w fun e w' => e = .returned (.int .i64 (many m : Nat)) ∧ Kept w w' := by
  rcases Int.lt_or_le m 0 with h0 | h0
  · have he : Hid (many m = 0) := by
      unfold many Hid
      rw [show m.toNat = 0 by omega, bct_zero]
    rw [he.out]
    exact many_no m w h0
  · obtain ⟨x, rfl⟩ := Int.eq_ofNat_of_zero_le h0
    have hm : max (x : Int) 0 = x := by omega
    have hw : IntKind.u64.wrap (x : Int) = x := by rw [IntKind.wrap_u64]; omega
    have hc := Lib.hid (fun w => ones_g x w (by omega))
    have he : Hid (bct 64 x = many x) := rfl
    generalize many (x : Int) = b at *
    go_enter Try.func10, Try.ntmps10
    go_wp2_with fail
    all_goals refine (hc.out _).mono ?_
    all_goals rintro e w2 ⟨rfl, k2⟩
    all_goals rw [he.out]
    all_goals clear he hc
    all_goals go_wp2_with fail
    all_goals go_ret
    all_goals exact ⟨rfl, k2⟩
theorem bct_end {k x : Nat} (hk : k ≤ 64) (h : x / 2 ^ k = 0) : bct 64 x = bct k x := by
  have e : 64 = k + (64 - k) := by omega
  rw [e, bct_add, h, bct_zero]
  rfl
set_option maxHeartbeats 1000000 in
theorem rmany_g (m : Int) (w : World) (h : m ≤ 9223372036854775807) :
    Calls Try.prog 27 #[.int .i64 m] w fun e w' => e = .returned (.int .i64 (many m : Nat)) ∧ Kept w w' := by
  rcases Int.lt_or_le 0 m with h0 | h0
  · obtain ⟨x, rfl⟩ := Int.eq_ofNat_of_zero_le (show 0 ≤ m by omega)
    have hm : Hid (many (x : Int) = bct 64 x) := rfl
    go_enter Try.func27, Try.ntmps27
    go_wp2_with fail
    go_loopw [3, 4] (fun nv mv wr => ∃ k c y : Nat, k ≤ 63 ∧ c ≤ k ∧ nv = .int .i64 c ∧ mv = .int .i64 y ∧ Hid (c = bct k x ∧ y = x / 2 ^ k) ∧ Kept w wr) (fun _ mv _ => (intOf mv).toNat)
    case atStart => exact ⟨0, 0, x, by omega, by omega, rfl, rfl, ⟨rfl, by simp⟩, by repeat (first | exact Kept.refl _ | assumption | (refine Kept.alloc ?_ _) | (refine Kept.setCell ?_ (by first | omega | (simp; omega) | simp) _) | refine Kept.drew ?_ | refine Kept.drewN ?_ _ | (apply Kept.call; rotate_left; assumption))⟩
    case round =>
      obtain ⟨k, c, y, hk, hc, rfl, rfl, hcy, kr⟩ := hrel
      rcases Nat.eq_zero_or_pos y with hy | hy
      · have hb : Hid (bct 64 x = c) := by
          have := hcy.out
          rw [this.1]
          exact bct_end (by omega) (by rw [← this.2, hy])
        subst hy
        clear hcy
        go_wp2_with fail
        go_ret
        exact ⟨by rw [hm.out, hb.out]; rfl, kr⟩
      · have hk2 : k < 63 := by
          rcases Nat.lt_or_ge k 63 with g | g
          · exact g
          · exfalso
            obtain rfl : k = 63 := by omega
            have := hcy.out.2
            rw [show (2 : Nat) ^ 63 = 9223372036854775808 from rfl] at this
            omega
        have hn : Hid (c + y % 2 = bct (k + 1) x ∧ y / 2 = x / 2 ^ (k + 1)) := by
          have := hcy.out
          refine ⟨by rw [bct_snoc, this.1, this.2], ?_⟩
          rw [this.2, Nat.div_div_eq_div_mul, Nat.pow_succ]
        have d : decide ((0 : Int) < (y : Int)) = true := by simp; omega
        have hyl : y < 9223372036854775808 := by
          have := hcy.out.2
          have := Nat.div_le_self x (2 ^ k)
          omega
        have ht : (y : Int).tmod 2 = ((y % 2 : Nat) : Int) := by rw [Int.tmod_eq_emod_of_nonneg (by omega)]; omega
        have hq : (y : Int).tdiv 2 = ((y / 2 : Nat) : Int) := by rw [Int.tdiv_eq_ediv_of_nonneg (by omega)]; omega
        have hr : y % 2 < 2 := Nat.mod_lt _ (by omega)
        have hs : y / 2 < y := by omega
        clear hcy
        generalize y % 2 = r at *
        generalize y / 2 = z at *
        go_wp2_with fail
        go_roundw
        case rel => exact ⟨k + 1, c + r, z, by omega, by omega, by go_num, by go_num, hn, kr⟩
        case measure => simp [intOf]; omega
  · have hm : Hid (many m = 0) := by
      unfold many Hid
      rw [show m.toNat = 0 by omega, bct_zero]
    have d : decide ((0 : Int) < m) = false := by simp; omega
    go_enter Try.func27, Try.ntmps27
    go_wp2_with fail
    go_loopw [3, 4] (fun nv mv wr => nv = .int .i64 0 ∧ mv = .int .i64 m ∧ Kept w wr) (fun _ _ _ => 0)
    case atStart => exact ⟨rfl, rfl, by repeat (first | exact Kept.refl _ | assumption | (refine Kept.alloc ?_ _) | (refine Kept.setCell ?_ (by first | omega | (simp; omega) | simp) _) | refine Kept.drew ?_ | refine Kept.drewN ?_ _ | (apply Kept.call; rotate_left; assumption))⟩
    case round =>
      obtain ⟨rfl, rfl, kr⟩ := hrel
      go_wp2_with fail
      all_goals go_ret
      all_goals exact ⟨by rw [hm.out]; rfl, kr⟩
end Go.Proofs.Ytahokiopapenbaa
