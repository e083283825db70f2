/- The walks of vary's Read, ReadText, Split, Long. -/
import Derived.Test.YtfiocebipckaaaaVaryP
import Derived.WalkMore
set_option linter.unusedSimpArgs false
set_option linter.unusedVariables false
namespace Go.Proofs.Ytfiocebipckaaaa
open Go.RowKit

theorem andNot128 : ∀ x : Nat, x < 256 → bits .andNot .u64 (x : Int) 128 = ((x % 128 : Nat) : Int) := by
  intro x hx
  have h : ∀ y : Fin 256, bits .andNot .u64 ((y.val : Nat) : Int) 128 = ((y.val % 128 : Nat) : Int) := by decide +kernel
  exact h ⟨x, hx⟩

theorem pow7 (j : Nat) : (2 : Int) ^ (7 * j) = ((128 ^ j : Nat) : Int) := by
  rw [Int.pow_mul]; simp
theorem shl_fit (lo j : Nat) (h : lo * 128 ^ j < 18446744073709551616) : IntKind.u64.wrap ((lo : Int) * 2 ^ (7 * j)) = ((lo * 128 ^ j : Nat) : Int) := by
  rw [pow7, ← Int.natCast_mul, IntKind.wrap_u64]
  omega
theorem shr_fit (lo j : Nat) : ((lo * 128 ^ j : Nat) : Int) / 2 ^ (7 * j) = (lo : Int) := by
  rw [pow7, ← Int.natCast_ediv, Nat.mul_div_cancel _ (Nat.pow_pos (by omega))]
theorem shr_big (lo j : Nat) (h : 18446744073709551616 ≤ lo * 128 ^ j) : ∃ q : Nat, IntKind.u64.wrap ((lo : Int) * 2 ^ (7 * j)) / 2 ^ (7 * j) = (q : Int) ∧ q ≠ lo := by
  rw [pow7, ← Int.natCast_mul, IntKind.wrap_u64]
  refine ⟨(lo * 128 ^ j) % 18446744073709551616 / 128 ^ j, by simp, fun e => ?_⟩
  have h1 := Nat.div_mul_le_self ((lo * 128 ^ j) % 18446744073709551616) (128 ^ j)
  rw [e] at h1
  have := Nat.mod_lt (lo * 128 ^ j) (show 0 < 18446744073709551616 by omega)
  omega
theorem or_add (n lo j : Nat) (h1 : n < 128 ^ j) (h2 : n + lo * 128 ^ j < 18446744073709551616) : bits .or .u64 (n : Int) ((lo * 128 ^ j : Nat) : Int) = ((n + lo * 128 ^ j : Nat) : Int) := by
  have e : ∀ m : Nat, m < 18446744073709551616 → (BitVec.ofInt 64 (m : Int)).toNat = m := fun m hm => by
    rw [BitVec.ofInt_natCast, BitVec.toNat_ofNat]; exact Nat.mod_eq_of_lt (by omega)
  show IntKind.u64.wrap ((BitVec.ofInt 64 (n : Int) ||| BitVec.ofInt 64 ((lo * 128 ^ j : Nat) : Int)).toNat : Int) = _
  rw [BitVec.toNat_or, e n (by omega), e (lo * 128 ^ j) (by omega), IntKind.wrap_u64]
  have h3 : n ||| lo * 128 ^ j = n + lo * 128 ^ j := by
    have e2 : 128 ^ j = 2 ^ (7 * j) := by rw [Nat.pow_mul]
    rw [e2] at h1 ⊢
    rw [Nat.or_comm, Nat.mul_comm, ← Nat.two_pow_add_eq_or_of_lt h1, Nat.add_comm]
  rw [h3]
  omega
theorem pow_le (j : Nat) (h : j ≤ 8) : 128 ^ j ≤ 72057594037927936 := by
  have := Nat.pow_le_pow_right (show 0 < 128 by omega) h
  omega

/-- What Read hands back. -/
def Rd (L : List UInt8) (a : Int) (n : Nat) (e : Int) (ok : Bool) : Prop :=
  (ok = true ∧ n < 18446744073709551616 ∧ 0 ≤ a ∧ enc n <+: L.drop a.toNat ∧ e = a + ((enc n).length : Nat)) ∨
  (ok = false ∧ n = 0 ∧ e = 0 ∧ (0 ≤ a → ∀ m, m < 18446744073709551616 → ¬ enc m <+: L.drop a.toNat))
def RdPost (s : ByteArray) (a : Int) (w : World) (e : Ending) (w' : World) : Prop :=
  ∃ (n : Nat) (en : Int) (ok : Bool), e = .returned (.tuple #[.int .u64 n, .int .i64 en, .bool ok]) ∧ Rd s.data.toList a n en ok ∧ Kept w w'
set_option maxHeartbeats 2000000 in
set_option maxRecDepth 100000 in
theorem read_rel (s : ByteArray) (a : Int) (w : World) (hs : s.size ≤ 1099511627776) :
    Calls Try.prog 24 #[.string s, .int .i64 a] w (RdPost s a w) := by
  rcases Int.lt_or_le a 0 with h0 | h0
  · go_enter Try.func24, Try.ntmps24
    go_wp2
    go_step3
    go_wp2_with fail
    try rw [Exit.noGoto_ret]
    go_ret3
    exact ⟨0, 0, false, rfl, .inr ⟨rfl, rfl, rfl, fun h => absurd h (by omega)⟩, by repeat (first | exact Kept.refl _ | assumption | (refine Kept.alloc ?_ _) | (refine Kept.setCell ?_ (by first | omega | (simp; omega) | simp) _) | refine Kept.drew ?_ | refine Kept.drewN ?_ _ | (apply Kept.call; rotate_left; assumption))⟩
  · obtain ⟨k, rfl⟩ := Int.eq_ofNat_of_zero_le h0
    rcases Nat.lt_or_ge k s.size with h1 | h1
    · clear h0
      have e1 : decide (s.size ≤ k) = false := by simp; (try omega)
      have e2 : decide ((k : Int) < 0) = false := by simp; (try omega)
      go_enter Try.func24, Try.ntmps24
      go_wp2
      go_step3
      go_wp2
      go_step3
      go_wp2
      go_loopw [4, 7] (fun nv iv wr => ∃ (j n : Nat), j ≤ 10 ∧ k + j ≤ s.size ∧ nv = .int .u64 n ∧ iv = .int .i64 ((k + j : Nat) : Int) ∧ Half (s.data.toList.drop k) j n ∧ Kept w wr) (fun _ i _ => s.size - (intOf i).toNat)
      case atStart => exact ⟨0, 0, by omega, by omega, rfl, rfl, Half.zero _, Kept.refl _⟩
      case round =>
        obtain ⟨j, n, hj, hkj, rfl, rfl, hh, kr⟩ := hrel
        by_cases hlt : k + j < s.size
        · obtain ⟨c, hc⟩ : ∃ c, s[k + j].toNat = c := ⟨_, rfl⟩
          have hc2 : c < 256 := by rw [← hc]; exact UInt8.toNat_lt _
          have hget : Hid ((s.data.toList.drop k)[j]? = some s[k + j]) := by
            unfold Hid
            rw [List.getElem?_drop, Array.getElem?_toList, Array.getElem?_eq_getElem hlt]; rfl
          have HC := Lib.hid hc
          have hlow := andNot128 c hc2
          obtain ⟨lo, hlo⟩ : ∃ lo, c % 128 = lo := ⟨_, rfl⟩
          rw [hlo] at hlow
          have hlo2 : lo ≤ 127 := by omega
          have HLO := Lib.hid hlo
          have HH := Lib.hid hh
          clear hh hlo
          have hcu : (c : Int) < 256 := by omega
          rcases Nat.lt_or_ge j 10 with hj10 | hj10
          · rcases Nat.lt_or_ge (lo * 128 ^ j) 18446744073709551616 with hfit | hbig
            · have hlt128 := HH.out.1
              obtain ⟨sh, hsh⟩ : ∃ sh, lo * 128 ^ j = sh := ⟨_, rfl⟩
              have r1 := shl_fit lo j hfit
              have r2 := shr_fit lo j
              rw [hsh] at r1 r2
              have HSH := Lib.hid hsh
              have HFIT := Lib.hid hfit
              clear hsh hfit
              by_cases hz : c = 0 ∧ 0 < j
              · obtain ⟨hz1, hz2⟩ := hz
                have hz3 : ((c : Int) == 0) = true := by simp [hz1]
                have HZ1 := Lib.hid hz1
                clear hz1
                go_wp2_with fail
                (try rw [Exit.noGoto_ret])
                go_ret3
                exact ⟨0, 0, false, rfl, .inr ⟨rfl, rfl, rfl, fun _ m _ => HH.out.bad hget.out (by rw [HC.out]; exact HZ1.out) hz2 m⟩, kr⟩
              · have hz4 : ((c : Int) == 0 && decide ((k : Int) < (k : Int) + (j : Int))) = false := by
                  rw [Bool.and_eq_false_iff]
                  by_cases h1 : c = 0
                  · right; simp; omega
                  · left; simp; omega
                have HZ := Lib.hid hz
                clear hz
                have hsum : n + sh < 18446744073709551616 := by
                  have h1 := HSH.out
                  have h2 := HFIT.out
                  rcases Nat.lt_or_ge j 9 with h9 | h9
                  · have h3 := pow_le j (by omega)
                    have h4 : lo * 128 ^ j ≤ 127 * 72057594037927936 := Nat.mul_le_mul hlo2 h3
                    omega
                  · obtain rfl : j = 9 := by omega
                    simp only [Nat.reducePow] at h1 h2 hlt128
                    omega
                have r3 : bits .or .u64 (n : Int) (sh : Int) = ((n + sh : Nat) : Int) := by
                  rw [← HSH.out]; exact or_add n lo j hlt128 (by rw [HSH.out]; exact hsum)
                have HSUM := Lib.hid hsum
                clear hsum hlt128
                have hz5 : c = 0 ∨ 0 < c := by omega
                obtain ⟨m, hm⟩ : ∃ m, n + sh = m := ⟨_, rfl⟩
                rw [hm] at r3
                have HM := Lib.hid hm
                clear hm
                have done : c < 128 → enc m <+: s.data.toList.drop k ∧ m < 18446744073709551616 ∧ (enc m).length = j + 1 := by
                  intro h128
                  have h0 : 0 < j → 0 < c := fun hj0 => by
                    rcases hz5 with h | h
                    · exact absurd ⟨h, hj0⟩ HZ.out
                    · exact h
                  have h1 := HH.out.done hget.out (by rw [HC.out]; exact h128) (by rw [HC.out]; exact h0)
                  rw [HC.out] at h1
                  have h2 : n + c * 128 ^ j = m := by
                    rw [← HM.out, ← HSH.out, ← HLO.out, Nat.mod_eq_of_lt h128]
                  rw [h2] at h1
                  exact ⟨(h1 m).2 rfl, by rw [← HM.out]; exact HSUM.out, HH.out.len c m h128 h0 h2⟩
                have DONE := Lib.hid done
                have next : 128 ≤ c → Half (s.data.toList.drop k) (j + 1) m := by
                  intro h128
                  have h1 := HH.out.next hget.out (by rw [HC.out]; exact h128)
                  rw [HC.out] at h1
                  have h2 : c - 128 = lo := by rw [← HLO.out]; omega
                  rw [h2, HSH.out, HM.out] at h1
                  exact h1
                have NEXT := Lib.hid next
                clear done next hz5
                rcases hzc : ((c : Int) == 0) with _ | _
                · rcases Nat.lt_or_ge c 128 with h128 | h128
                  · obtain ⟨d1, d2, d3⟩ := DONE.out h128
                    have D1 := Lib.hid d1
                    have D2 := Lib.hid d2
                    have D3 := Lib.hid d3
                    clear d1 d2 d3
                    go_wp2_with fail
                    (try rw [Exit.noGoto_ret])
                    go_ret3
                    exact ⟨m, _, true, rfl, .inl ⟨rfl, D2.out, by omega, D1.out, by rw [D3.out]; omega⟩, kr⟩
                  · have D1 := Lib.hid (NEXT.out h128)
                    go_wp2_with fail
                    go_roundw
                    case rel => first | exact ⟨j + 1, m, by omega, by omega, rfl, by go_num, D1.out, kr⟩ | ((repeat apply Exists.intro); exact ⟨⟨j + 1, m, by omega, by omega, rfl, by go_num, D1.out, kr⟩, rfl⟩)
                    case measure => simp [intOf]; omega
                · have hj0 : j ≤ 0 := by
                    have h1 : c = 0 := by simpa using hzc
                    rcases Nat.eq_zero_or_pos j with h | h
                    · omega
                    · exact absurd ⟨h1, h⟩ HZ.out
                  have hz6 : decide ((k : Int) < (k : Int) + (j : Int)) = false := by simp; omega
                  have h128 : c < 128 := by have h1 : c = 0 := by simpa using hzc
                                            omega
                  obtain ⟨d1, d2, d3⟩ := DONE.out h128
                  have D1 := Lib.hid d1
                  have D2 := Lib.hid d2
                  have D3 := Lib.hid d3
                  clear d1 d2 d3
                  go_wp2_with fail
                  (try rw [Exit.noGoto_ret])
                  go_ret3
                  exact ⟨m, _, true, rfl, .inl ⟨rfl, D2.out, by omega, D1.out, by rw [D3.out]; omega⟩, kr⟩
            · obtain ⟨q, hq1, hq2⟩ := shr_big lo j hbig
              have hq3 : ((q : Int) == (lo : Int)) = false := by simp; omega
              have hq4 : ((q : Int) != (lo : Int)) = true := by simp; omega
              have HBIG := Lib.hid hbig
              clear hbig
              go_wp2_with fail
              (try rw [Exit.noGoto_ret])
              go_ret3
              exact ⟨0, 0, false, rfl, .inr ⟨rfl, rfl, rfl, fun _ m hm => HH.out.big hget.out _ (by rw [HC.out, HLO.out]; exact HBIG.out) m hm⟩, kr⟩
          · obtain rfl : j = 10 := by omega
            go_wp2_with fail
            (try rw [Exit.noGoto_ret])
            go_ret3
            exact ⟨0, 0, false, rfl, .inr ⟨rfl, rfl, rfl, fun _ m hm => HH.out.long m hm⟩, kr⟩
        · have HH := Lib.hid hh
          clear hh
          go_wp2_with fail
          (try rw [Exit.noGoto_ret])
          go_ret3
          exact ⟨0, 0, false, rfl, .inr ⟨rfl, rfl, rfl, fun _ m hm => HH.out.over (by simp; omega) m⟩, kr⟩
    · go_enter Try.func24, Try.ntmps24
      go_wp2
      go_step3
      go_wp2_with fail
      (try rw [Exit.noGoto_ret])
      go_ret3
      exact ⟨0, 0, false, rfl, .inr ⟨rfl, rfl, rfl, fun _ m hm => by
        have e : s.data.toList.drop (k : Int).toNat = [] := List.drop_eq_nil_of_le (by simpa using h1)
        rw [e]; exact enc_at_nil m⟩, by repeat (first | exact Kept.refl _ | assumption | (refine Kept.alloc ?_ _) | (refine Kept.setCell ?_ (by first | omega | (simp; omega) | simp) _) | refine Kept.drew ?_ | refine Kept.drewN ?_ _ | (apply Kept.call; rotate_left; assumption))⟩

theorem Rd.ok {L : List UInt8} {a : Int} {n m : Nat} {e : Int} {ok : Bool} (h : Rd L a n e ok) (h0 : 0 ≤ a) (hm : m < 18446744073709551616) (hp : enc m <+: L.drop a.toNat) : n = m ∧ e = a + ((enc m).length : Nat) ∧ ok = true := by
  rcases h with ⟨rfl, _, _, h1, rfl⟩ | ⟨_, _, _, h1⟩
  · have := enc_prefix n m _ h1 hp
    subst this
    exact ⟨rfl, rfl, rfl⟩
  · exact absurd hp (h1 h0 m hm)
theorem Rd.no {L : List UInt8} {a : Int} {n : Nat} {e : Int} {ok : Bool} (h : Rd L a n e ok) (hp : 0 ≤ a → ∀ m, m < 18446744073709551616 → ¬ enc m <+: L.drop a.toNat) : n = 0 ∧ e = 0 ∧ ok = false := by
  rcases h with ⟨rfl, h2, h3, h1, rfl⟩ | ⟨h2, h3, h4, h1⟩
  · exact absurd h1 (hp h3 n h2)
  · exact ⟨h3, h4, h2⟩
theorem read_yes (s : ByteArray) (a : Int) (k m len : Nat) (w : World) (hs : s.size ≤ 1099511627776) (ha : a = (k : Int)) (hm : m < 18446744073709551616) (hp : enc m <+: s.data.toList.drop k) (hl : len = (enc m).length) :
    Calls Try.prog 24 #[.string s, .int .i64 a] w fun e w' => e = .returned (.tuple #[.int .u64 m, .int .i64 ((k : Int) + (len : Int)), .bool true]) ∧ Kept w w' := by
  subst ha hl
  refine (read_rel s k w hs).mono ?_
  rintro e w' ⟨n, en, ok, rfl, hr, hk⟩
  obtain ⟨rfl, rfl, rfl⟩ := hr.ok (by omega) hm hp
  exact ⟨rfl, hk⟩
theorem read_no (s : ByteArray) (a : Int) (w : World) (hs : s.size ≤ 1099511627776) (hp : 0 ≤ a → ∀ m, m < 18446744073709551616 → ¬ enc m <+: s.data.toList.drop a.toNat) :
    Calls Try.prog 24 #[.string s, .int .i64 a] w fun e w' => e = .returned (.tuple #[.int .u64 0, .int .i64 0, .bool false]) ∧ Kept w w' := by
  refine (read_rel s a w hs).mono ?_
  rintro e w' ⟨n, en, ok, rfl, hr, hk⟩
  obtain ⟨rfl, rfl, rfl⟩ := hr.no hp
  exact ⟨rfl, hk⟩

end Go.Proofs.Ytfiocebipckaaaa
