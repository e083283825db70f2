/- Vary: the chapter's example, short texts, ReadText. -/
import Derived.Test.YthceenheaegdbaaVaryR
import Derived.Lib.Bytes
set_option linter.unusedSimpArgs false
set_option linter.unusedVariables false
namespace Go.Proofs.Ythceenheaegdbaa
open Go.RowKit

theorem str_ne {a b : ByteArray} (h : ¬ a = b) : (a.toList == b.toList) = false := by
  rw [beq_eq_false_iff_ne, Lib.toList_data, Lib.toList_data]
  intro h2
  apply h
  ext1
  exact Array.toList_inj.1 h2
/-- A text of at most n bytes. -/
def sh (s : ByteArray) (n : Nat) : ByteArray := if n < s.size then s.extract 0 n else s
theorem sh_size (s : ByteArray) (n : Nat) : (sh s n).size ≤ n := by
  unfold sh
  split
  · simp [ByteArray.size_extract]; exact Nat.min_le_left _ _
  · omega
set_option maxHeartbeats 2000000 in
theorem short_any (s : ByteArray) (q : Int) (n : Nat) (w : World) (hq : q = (n : Int)) (hs : s.size ≤ 9223372036854775807) :
    Calls Try.prog 12 #[.string s, .int .i64 q] w fun e w' => e = .returned (.string (sh s n)) ∧ Kept w w' := by
  subst hq
  rcases Nat.lt_or_ge n s.size with h | h
  · have hsh : Hid (sh s n = s.extract 0 n) := by unfold Hid sh; rw [if_pos h]
    go_enter Try.func12, Try.ntmps12
    go_wp2_with fail
    go_ret
    exact ⟨by rw [hsh.out]; rfl, by repeat (first | exact Kept.refl _ | assumption | (refine Kept.alloc ?_ _) | (refine Kept.setCell ?_ (by first | omega | (simp; omega) | simp) _) | refine Kept.drew ?_ | refine Kept.drewN ?_ _ | (apply Kept.call; rotate_left; assumption))⟩
  · have hsh : Hid (sh s n = s) := by unfold Hid sh; rw [if_neg (by omega)]
    go_enter Try.func12, Try.ntmps12
    go_wp2_with fail
    go_ret
    exact ⟨by rw [hsh.out]; rfl, by repeat (first | exact Kept.refl _ | assumption | (refine Kept.alloc ?_ _) | (refine Kept.setCell ?_ (by first | omega | (simp; omega) | simp) _) | refine Kept.drew ?_ | refine Kept.drewN ?_ _ | (apply Kept.call; rotate_left; assumption))⟩

theorem enc300 : enc 300 = [172, 2] := by rw [enc_hi (by omega), enc_lo (by omega)]; rfl
theorem num_size (n : Nat) : (num n).size = (enc n).length := rfl
set_option maxHeartbeats 2000000 in
theorem awake_any (w : World) :
    Calls Try.prog 11 #[] w fun e w' => e = .returned (.bool true) ∧ Kept w w' := by
  have hn : Hid (num 300 = ⟨#[172, 2]⟩) := by unfold Hid num; rw [enc300]
  go_enter Try.func11, Try.ntmps11
  go_wp2_with fail
  refine (read_no ⟨#[128, 0]⟩ 0 w (by decide) (fun _ m _ h => ?_)).mono ?_
  · obtain ⟨k, _, h1, h2⟩ := (enc_at_hi m 128 [0] (by decide)).1 h
    have h3 := (enc_at_lo k 0 [] (by decide)).1 h2
    have h4 : (0 : UInt8).toNat = 0 := rfl
    omega
  rintro e w1 ⟨rfl, k1⟩
  go_wp2_with fail
  refine (read_yes ⟨#[120, 172, 2]⟩ 1 1 300 2 w1 (by decide) rfl (by decide) (by rw [enc300]; exact List.prefix_refl _) (by rw [enc300]; rfl)).mono ?_
  rintro e w2 ⟨rfl, k2⟩
  go_wp2_with fail
  refine (number_any 300 w2 (by decide)).mono ?_
  rintro e w3 ⟨rfl, k3⟩
  rw [hn.out]
  go_wp2_with fail
  go_ret
  exact ⟨rfl, (k1.call k2).call k3⟩

/-- What ReadText hands back, of what Read does. -/
def rtOk (s : ByteArray) (n : Nat) (en : Int) (ok : Bool) (most : Int) : Bool := ok && decide (0 ≤ most) && decide ((n : Int) ≤ most) && decide ((n : Int) ≤ (s.size : Int) - en)
def rtS (s : ByteArray) (n : Nat) (en : Int) (ok : Bool) (most : Int) : ByteArray := if rtOk s n en ok most then s.extract en.toNat (en.toNat + n) else ⟨#[]⟩
def rtE (s : ByteArray) (n : Nat) (en : Int) (ok : Bool) (most : Int) : Int := if rtOk s n en ok most then en + n else 0
def RtPost (s : ByteArray) (a most : Int) (w : World) (e : Ending) (w' : World) : Prop :=
  ∃ (n : Nat) (en : Int) (ok : Bool), e = .returned (.tuple #[.string (rtS s n en ok most), .int .i64 (rtE s n en ok most), .bool (rtOk s n en ok most)]) ∧ Rd s.data.toList a n en ok ∧ Kept w w'
theorem rd_end {s : ByteArray} {a : Int} {n : Nat} {en : Int} {ok : Bool} (h : Rd s.data.toList a n en ok) : 0 ≤ en ∧ en ≤ (s.size : Int) := by
  rcases h with ⟨_, _, h1, h2, rfl⟩ | ⟨_, _, rfl, _⟩
  · have h3 := h2.length_le
    have h5 := enc_pos n
    rw [List.length_drop] at h3
    have h4 : s.data.toList.length = s.size := rfl
    omega
  · omega
set_option maxHeartbeats 2000000 in
set_option maxRecDepth 100000 in
theorem readText_rel (s : ByteArray) (a most : Int) (w : World) (hs : s.size ≤ 1099511627776) (hm1 : -9223372036854775808 ≤ most) (hm2 : most ≤ 9223372036854775807) :
    Calls Try.prog 16 #[.string s, .int .i64 a, .int .i64 most] w (RtPost s a most w) := by
  have HM1 := Lib.hid hm1
  have HM2 := Lib.hid hm2
  clear hm1 hm2
  go_enter Try.func16, Try.ntmps16
  go_wp2_with fail
  refine (read_rel s a w hs).mono ?_
  rintro e w1 ⟨n, en, ok, rfl, hr, k1⟩
  obtain ⟨he1, he2⟩ := rd_end hr
  have HR := Lib.hid hr
  clear hr
  cases ok
  · have ho : rtOk s n en false most = false := rfl
    go_wp2_with fail
    go_ret3
    exact ⟨n, en, false, by rw [rtS, rtE, ho]; rfl, HR.out, k1⟩
  · rcases Int.lt_or_le most 0 with h1 | h1
    · have ho : Hid (rtOk s n en true most = false) := by unfold Hid rtOk; simp; omega
      go_wp2_with fail
      go_ret3
      exact ⟨n, en, true, by rw [rtS, rtE, ho.out]; rfl, HR.out, k1⟩
    · have hm2 := HM2.out
      rcases Int.lt_or_le most (n : Int) with h2 | h2
      · have ho : Hid (rtOk s n en true most = false) := by unfold Hid rtOk; simp; omega
        go_wp2_with fail
        go_ret3
        exact ⟨n, en, true, by rw [rtS, rtE, ho.out]; rfl, HR.out, k1⟩
      · rcases Int.lt_or_le ((s.size : Int) - en) (n : Int) with h3 | h3
        · have ho : Hid (rtOk s n en true most = false) := by unfold Hid rtOk; simp; omega
          go_wp2_with fail
          go_ret3
          exact ⟨n, en, true, by rw [rtS, rtE, ho.out]; rfl, HR.out, k1⟩
        · have ho : Hid (rtOk s n en true most = true) := by unfold Hid rtOk; simp; omega
          obtain ⟨k, rfl⟩ := Int.eq_ofNat_of_zero_le he1
          go_wp2_with fail
          go_ret3
          exact ⟨n, (k : Int), true, by rw [rtS, rtE, ho.out]; rfl, HR.out, k1⟩
theorem rt_yes (s : ByteArray) (a most : Int) (k m len : Nat) (w : World) (hs : s.size ≤ 1099511627776) (ha : a = (k : Int)) (hm1 : (m : Int) ≤ most) (hm2 : most ≤ 9223372036854775807) (hp : enc m <+: s.data.toList.drop k) (hl : len = (enc m).length) (hz : k + len + m ≤ s.size) (d : ByteArray) (hd : d = s.extract (k + len) (k + len + m)) (E : Int) (hE : E = ((k + len + m : Nat) : Int)) :
    Calls Try.prog 16 #[.string s, .int .i64 a, .int .i64 most] w fun e w' => e = .returned (.tuple #[.string d, .int .i64 E, .bool true]) ∧ Kept w w' := by
  subst ha hl hd hE
  refine (readText_rel s k most w hs (by omega) hm2).mono ?_
  rintro e w' ⟨n, en, ok, rfl, hr, hk⟩
  obtain ⟨rfl, rfl, rfl⟩ := hr.ok (by omega) (by omega) hp
  have ho : rtOk s n ((k : Int) + ((enc n).length : Nat)) true most = true := by unfold rtOk; simp; omega
  have e1 : ((k : Int) + ((enc n).length : Nat)).toNat = k + (enc n).length := by omega
  have e2 : rtS s n ((k : Int) + ((enc n).length : Nat)) true most = s.extract (k + (enc n).length) (k + (enc n).length + n) := by rw [rtS, ho, if_pos rfl, e1]
  have e3 : rtE s n ((k : Int) + ((enc n).length : Nat)) true most = ((k + (enc n).length + n : Nat) : Int) := by rw [rtE, ho, if_pos rfl]; omega
  rw [e2, e3, ho]
  exact ⟨rfl, hk⟩
theorem rt_less (s : ByteArray) (a most : Int) (k m : Nat) (w : World) (hs : s.size ≤ 1099511627776) (ha : a = (k : Int)) (hm0 : -9223372036854775808 ≤ most) (hm1 : most < (m : Int)) (hm : m < 18446744073709551616) (hp : enc m <+: s.data.toList.drop k) (hm2 : most ≤ 9223372036854775807) :
    Calls Try.prog 16 #[.string s, .int .i64 a, .int .i64 most] w fun e w' => e = .returned (.tuple #[.string ⟨#[]⟩, .int .i64 0, .bool false]) ∧ Kept w w' := by
  subst ha
  refine (readText_rel s k most w hs hm0 hm2).mono ?_
  rintro e w' ⟨n, en, ok, rfl, hr, hk⟩
  obtain ⟨rfl, rfl, rfl⟩ := hr.ok (by omega) hm hp
  have ho : rtOk s n ((k : Int) + ((enc n).length : Nat)) true most = false := by unfold rtOk; simp; omega
  rw [rtS, rtE, ho]
  exact ⟨rfl, hk⟩
end Go.Proofs.Ythceenheaegdbaa
