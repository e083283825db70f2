/- The program's table, at rows that fit. -/
import Derived.Test.YtahokiopapenbaaTabF
import Derived.Test.YtahokiopapenbaaInts
set_option linter.unusedSimpArgs false
set_option linter.unusedVariables false
namespace Go.Proofs.Ytahokiopapenbaa
open Go.RowKit

def oa (os : List Int) (i : Nat) : Int := os[i]?.getD (-2)
structure Fit (es : List Nat) (os : List Int) (n : Nat) : Prop where
  up : Up es
  len : os.length = es.length + 1
  own : ∀ i, i < es.length + 1 → 1 ≤ oa os i ∧ oa os i < ((2 ^ n : Nat) : Int)
  one : 1 ≤ n
  six : n ≤ 6
theorem two_le {n : Nat} (h : n ≤ 6) : 2 ^ n ≤ 64 := Nat.pow_le_pow_right (n := 2) (by omega) h
structure RowW (w : World) (A : Option Addr) (n1 c1 : Nat) (B : Option Addr) (n2 c2 : Nat) (C : Option Addr) (n3 c3 : Nat) (rs : List Rg) (os ps : List Int) : Prop where
  rs : RowS w A n1 c1 rs
  os : IntsAt w B n2 c2 os
  ps : IntsAt w C n3 c3 ps
theorem RowW.keep {w w2 : World} {A B C : Option Addr} {n1 c1 n2 c2 n3 c3 : Nat} {rs : List Rg} {os ps : List Int} (h : RowW w A n1 c1 B n2 c2 C n3 c3 rs os ps) (hk : Kept w w2) : RowW w2 A n1 c1 B n2 c2 C n3 c3 rs os ps := ⟨h.rs.keep hk, h.os.keep hk, h.ps.keep hk⟩
theorem RowW.bd {w : World} {A B C : Option Addr} {n1 c1 n2 c2 n3 c3 : Nat} {rs : List Rg} {os ps : List Int} (h : RowW w A n1 c1 B n2 c2 C n3 c3 rs os ps) : n1 ≤ 9223372036854775807 ∧ n2 ≤ 9223372036854775807 ∧ n3 ≤ 9223372036854775807 := by
  have a1 := h.rs.2.1
  have a2 := h.rs.2.2.1
  have b1 := h.os.2.1
  have b2 := h.os.2.2.1
  have d1 := h.ps.2.1
  have d2 := h.ps.2.2.1
  unfold maxLen at a2 b2 d2
  omega
theorem sites_any (X Y : Value) (C : Option Addr) (n3 c3 : Nat) (w : World) (h : n3 ≤ 9223372036854775807) (hX : ∃ A n1 c1, X = .slice A n1 c1) (hY : ∃ B n2 c2, Y = .slice B n2 c2) :
    Calls Try.prog 23 #[.agg #[X, Y, .slice C n3 c3]] w fun e w' => e = .returned (.int .i64 n3) ∧ Kept w w' := by
  obtain ⟨A, n1, c1, rfl⟩ := hX
  obtain ⟨B, n2, c2, rfl⟩ := hY
  go_enter Try.func23, Try.ntmps23
  go_wp2_with fail
  go_ret
  exact ⟨rfl, by repeat (first | exact Kept.refl _ | assumption | (refine Kept.alloc ?_ _) | (refine Kept.setCell ?_ (by first | omega | (simp; omega) | simp) _) | refine Kept.drew ?_ | refine Kept.drewN ?_ _ | (apply Kept.call; rotate_left; assumption))⟩
set_option maxHeartbeats 2000000 in
theorem tcheck_yes (A B C : Option Addr) (n1 c1 n2 c2 n3 c3 : Nat) (es : List Nat) (os ps : List Int) (w : World) (hr : RowW w A n1 c1 B n2 c2 C n3 c3 (rgs es) os ps) (hf : Fit es os n3) :
    Calls Try.prog 14 #[.agg #[.slice A n1 c1, .slice B n2 c2, .slice C n3 c3]] w fun e w' => e = .returned (.bool true) ∧ Kept w w' := by
  have h1 : n1 = es.length + 1 := by have := hr.rs.1; rw [rgs_len] at this; omega
  have h2 : n2 = es.length + 1 := by have := hr.os.1; have := hf.len; omega
  have hl6 := hf.up.six
  have h31 := hf.one
  have h36 := hf.six
  obtain ⟨ob, oo, rfl, hoc⟩ := hr.os.2.2.2.2 (by omega)
  have HR := Lib.hid hr
  have HF := Lib.hid hf
  have HOC : Hid (∀ i, i < n2 → w.cell? ⟨ob, oo + i, none⟩ = some (.int .i64 (oa os i))) := hoc
  have hc2 : n2 ≤ c2 ∧ c2 ≤ 9223372036854775807 := by have a := hr.os.2.1; have b := hr.os.2.2.1; unfold maxLen at b; omega
  obtain ⟨L, hL⟩ : ∃ L, es.length = L := ⟨_, rfl⟩
  have HL := Lib.hid hL
  rw [hL] at h1 h2 hl6
  clear hr hf hoc hL
  subst h1 h2
  have d1 : decide ((n3 : Int) < 1) = false := by simp; omega
  have d2 : decide ((6 : Int) < (n3 : Int)) = false := by simp; omega
  have d3 : decide ((8 : Int) < (L : Int) + 1) = false := by simp; omega
  go_enter Try.func14, Try.ntmps14
  go_wp2_with fail
  refine (sites_any _ _ C n3 c3 _ (by omega) ⟨_, _, _, rfl⟩ ⟨_, _, _, rfl⟩).mono ?_
  rintro e w1 ⟨rfl, k1⟩
  have K1 : Kept w w1 := Kept.call (by repeat (first | exact Kept.refl _ | assumption | (refine Kept.alloc ?_ _) | (refine Kept.setCell ?_ (by first | omega | (simp; omega) | simp) _) | refine Kept.drew ?_ | refine Kept.drewN ?_ _ | (apply Kept.call; rotate_left; assumption))) k1
  have e0 : w1.cell? ⟨w.heap.size, 0, none⟩ = some (.slice A (L + 1) c1) := k1.at_ (by go_simp)
  have e1 : w1.cell? ⟨w.heap.size, 1, none⟩ = some (.slice (some ⟨ob, oo, none⟩) (L + 1) c2) := k1.at_ (by go_simp)
  go_wp2_with fail
  refine (whole_any A (L + 1) c1 es _ (HR.out.rs.keep K1) HF.out.up).mono ?_
  rintro e w2 ⟨rfl, k2⟩
  have K2 := K1.call k2
  have e1 := k2.at_ e1
  go_wp2_with fail
  go_loopw [38] (fun iv wr => ∃ i : Nat, i ≤ L + 1 ∧ iv = .int .i64 i ∧ Kept w wr) (fun iv _ => L + 1 - (intOf iv).toNat)
  case atStart => exact ⟨0, by omega, rfl, K2⟩
  case round =>
    obtain ⟨i, hi, rfl, kr⟩ := hrel
    by_cases hlt : i < L + 1
    · have c1 := kr.at_ (HOC.out i hlt)
      obtain ⟨o1, o2⟩ := HF.out.own i (by rw [HL.out]; exact hlt)
      have hpow : ((2 ^ n3 : Nat) : Int) = (2 : Int) ^ n3 := by simp
      have hsh : oa os i / (2 : Int) ^ n3 = 0 := by rw [← hpow]; exact Int.ediv_eq_zero_of_lt (by omega) o2
      have h64 : oa os i < 64 := by have := two_le h36; omega
      have d5 : decide (oa os i < 1) = false := by simp; omega
      clear o2 hpow
      generalize oa os i = o at *
      go_wp2_with fail
      go_roundw
      case rel => first | exact ⟨i + 1, by omega, by go_num, kr⟩ | ((repeat apply Exists.intro); exact ⟨⟨i + 1, by omega, by go_num, kr⟩, rfl⟩)
      case measure => simp [intOf]; omega
    · obtain rfl : i = L + 1 := by omega
      go_wp2_with fail
      go_ret
      exact ⟨rfl, kr⟩
set_option maxHeartbeats 1000000 in
/-- More sites than six, or more or fewer owners than ranges. -/
theorem tcheck_no (A B C : Option Addr) (n1 c1 n2 c2 n3 c3 : Nat) (w : World) (b1 : n1 ≤ 9223372036854775807) (b2 : n2 ≤ 9223372036854775807) (b3 : n3 ≤ 9223372036854775807) (h : 6 < n3 ∨ (1 ≤ n3 ∧ n3 ≤ 6 ∧ n1 ≤ 8 ∧ n1 ≠ n2)) :
    Calls Try.prog 14 #[.agg #[.slice A n1 c1, .slice B n2 c2, .slice C n3 c3]] w fun e w' => e = .returned (.bool false) ∧ Kept w w' := by
  rcases h with h | ⟨h1, h2, h3, h4⟩
  · have d1 : decide ((n3 : Int) < 1) = false := by simp; omega
    have d2 : decide ((6 : Int) < (n3 : Int)) = true := by simp; omega
    go_enter Try.func14, Try.ntmps14
    go_wp2_with fail
    refine (sites_any _ _ C n3 c3 _ (by omega) ⟨_, _, _, rfl⟩ ⟨_, _, _, rfl⟩).mono ?_
    rintro e w1 ⟨rfl, k1⟩
    have K1 : Kept w w1 := Kept.call (by repeat (first | exact Kept.refl _ | assumption | (refine Kept.alloc ?_ _) | (refine Kept.setCell ?_ (by first | omega | (simp; omega) | simp) _) | refine Kept.drew ?_ | refine Kept.drewN ?_ _ | (apply Kept.call; rotate_left; assumption))) k1
    go_wp2_with fail
    go_ret
    exact ⟨rfl, K1⟩
  · have d1 : decide ((n3 : Int) < 1) = false := by simp; omega
    have d2 : decide ((6 : Int) < (n3 : Int)) = false := by simp; omega
    have d3 : decide ((8 : Int) < (n1 : Int)) = false := by simp; omega
    have d4 : ((n2 : Int) != (n1 : Int)) = true := by simp; omega
    go_enter Try.func14, Try.ntmps14
    go_wp2_with fail
    refine (sites_any _ _ C n3 c3 _ (by omega) ⟨_, _, _, rfl⟩ ⟨_, _, _, rfl⟩).mono ?_
    rintro e w1 ⟨rfl, k1⟩
    have K1 : Kept w w1 := Kept.call (by repeat (first | exact Kept.refl _ | assumption | (refine Kept.alloc ?_ _) | (refine Kept.setCell ?_ (by first | omega | (simp; omega) | simp) _) | refine Kept.drew ?_ | refine Kept.drewN ?_ _ | (apply Kept.call; rotate_left; assumption))) k1
    have e0 : w1.cell? ⟨w.heap.size, 0, none⟩ = some (.slice A n1 c1) := k1.at_ (by go_simp)
    have e1 : w1.cell? ⟨w.heap.size, 1, none⟩ = some (.slice B n2 c2) := k1.at_ (by go_simp)
    go_wp2_with fail
    go_ret
    exact ⟨rfl, K1⟩
set_option maxHeartbeats 1000000 in
theorem towners_yes (A B C : Option Addr) (n1 c1 n2 c2 n3 c3 : Nat) (es : List Nat) (os ps : List Int) (k : ByteArray) (w : World) (hr : RowW w A n1 c1 B n2 c2 C n3 c3 (rgs es) os ps) (hf : Fit es os n3) :
    Calls Try.prog 17 #[.agg #[.slice A n1 c1, .slice B n2 c2, .slice C n3 c3], .string k] w fun e w' => e = .returned (.int .i64 (oa os (findI es (hv k)))) ∧ Kept w w' := by
  have HR := Lib.hid hr
  have HF := Lib.hid hf
  have hle := find_le es (hv k)
  have h2 : n2 = es.length + 1 := by have := hr.os.1; have := hf.len; omega
  obtain ⟨ob, oo, rfl, hoc⟩ := hr.os.2.2.2.2 (by omega)
  have HOC := Lib.hid (hoc (findI es (hv k)) (by omega))
  have hb := hr.bd
  clear hr hf hoc
  obtain ⟨r0, hr0⟩ : ∃ r0, findI es (hv k) = r0 := ⟨_, rfl⟩
  have HR0 := Lib.hid hr0
  rw [hr0] at hle HOC ⊢
  obtain ⟨o, ho⟩ : ∃ o, oa os r0 = o := ⟨_, rfl⟩
  have HOC : Hid (w.cell? ⟨ob, oo + r0, none⟩ = some (.int .i64 o)) := by have := HOC.out; unfold oa at ho; rwa [ho] at this
  rw [ho]
  have hlt : r0 < n2 := by omega
  have hc2 : n2 ≤ c2 := HR.out.os.2.1
  clear hr0 ho h2 hle
  go_enter Try.func17, Try.ntmps17
  go_wp2_with fail
  refine (tcheck_yes A _ C n1 c1 n2 c2 n3 c3 es os ps _ (HR.out.keep (by repeat (first | exact Kept.refl _ | assumption | (refine Kept.alloc ?_ _) | (refine Kept.setCell ?_ (by first | omega | (simp; omega) | simp) _) | refine Kept.drew ?_ | refine Kept.drewN ?_ _ | (apply Kept.call; rotate_left; assumption)))) HF.out).mono ?_
  rintro e w1 ⟨rfl, k1⟩
  have K1 : Kept w w1 := Kept.call (by repeat (first | exact Kept.refl _ | assumption | (refine Kept.alloc ?_ _) | (refine Kept.setCell ?_ (by first | omega | (simp; omega) | simp) _) | refine Kept.drew ?_ | refine Kept.drewN ?_ _ | (apply Kept.call; rotate_left; assumption))) k1
  have e0 : w1.cell? ⟨w.heap.size, 0, none⟩ = some (.slice A n1 c1) := k1.at_ (by go_simp)
  have e1 : w1.cell? ⟨w.heap.size, 1, none⟩ = some (.slice (some ⟨ob, oo, none⟩) n2 c2) := k1.at_ (by go_simp)
  go_wp2_with fail
  refine (find_any A n1 c1 (rgs es) k _ (HR.out.rs.keep K1)).mono ?_
  rintro e w2 ⟨r, rfl, hfi, k2⟩
  have hrr : r = (r0 : Int) := by rw [first_rgs HF.out.up hfi, HR0.out]
  clear hfi
  subst hrr
  have K2 := K1.call k2
  have e1 := k2.at_ e1
  have c1 : w2.cell? ⟨ob, oo + r0, none⟩ = some (.int .i64 o) := K2.at_ HOC.out
  go_wp2_with fail
  go_ret
  exact ⟨rfl, K2⟩
set_option maxHeartbeats 1000000 in
theorem towners_no (A B C : Option Addr) (n1 c1 n2 c2 n3 c3 : Nat) (k : ByteArray) (w : World) (b1 : n1 ≤ 9223372036854775807) (b2 : n2 ≤ 9223372036854775807) (b3 : n3 ≤ 9223372036854775807) (h : 6 < n3 ∨ (1 ≤ n3 ∧ n3 ≤ 6 ∧ n1 ≤ 8 ∧ n1 ≠ n2)) :
    Calls Try.prog 17 #[.agg #[.slice A n1 c1, .slice B n2 c2, .slice C n3 c3], .string k] w fun e w' => e = .returned (.int .i64 0) ∧ Kept w w' := by
  go_enter Try.func17, Try.ntmps17
  go_wp2_with fail
  refine (tcheck_no A B C n1 c1 n2 c2 n3 c3 _ b1 b2 b3 h).mono ?_
  rintro e w1 ⟨rfl, k1⟩
  go_wp2_with fail
  go_ret
  exact ⟨rfl, Kept.call (by repeat (first | exact Kept.refl _ | assumption | (refine Kept.alloc ?_ _) | (refine Kept.setCell ?_ (by first | omega | (simp; omega) | simp) _) | refine Kept.drew ?_ | refine Kept.drewN ?_ _ | (apply Kept.call; rotate_left; assumption))) k1⟩
/-- A site's bit in a mask. -/
def bitB (m : Int) (s : Int) : Bool := decide (0 ≤ s) && decide (s < 6) && decide (m / 2 ^ s.toNat % 2 = 1)
theorem and_one_all : ∀ x : Fin 64, bits .and .i64 ((x : Nat) : Int) 1 = (((x : Nat) % 2 : Nat) : Int) := of_decide_eq_true (by kernel_rfl)
theorem and_one (x : Int) (h0 : 0 ≤ x) (h : x < 64) : bits .and .i64 x 1 = x % 2 := by
  obtain ⟨n, rfl⟩ := Int.eq_ofNat_of_zero_le h0
  have := and_one_all ⟨n, by omega⟩
  rw [show ((n : Int)) = (((⟨n, by omega⟩ : Fin 64) : Nat) : Int) from rfl, this]
  simp
set_option maxHeartbeats 1000000 in
theorem thas (m s : Int) (w : World) (h0 : 0 ≤ m) (h1 : m < 64) :
    Calls Try.prog 31 #[.int .i64 m, .int .i64 s] w fun e w' => e = .returned (.bool (bitB m s)) ∧ Kept w w' := by
  rcases Int.lt_or_le s 0 with g0 | g0
  · have hb : Hid (bitB m s = false) := by unfold Hid bitB; simp; omega
    have d1 : decide ((0 : Int) ≤ s) = false := by simp; omega
    go_enter Try.func31, Try.ntmps31
    go_wp2_with fail
    go_ret
    exact ⟨by rw [hb.out]; rfl, by repeat (first | exact Kept.refl _ | assumption | (refine Kept.alloc ?_ _) | (refine Kept.setCell ?_ (by first | omega | (simp; omega) | simp) _) | refine Kept.drew ?_ | refine Kept.drewN ?_ _ | (apply Kept.call; rotate_left; assumption))⟩
  · have d1 : decide ((0 : Int) ≤ s) = true := by simp; omega
    rcases Int.lt_or_le s 6 with g1 | g1
    · have d2 : decide (s < (6 : Int)) = true := by simp; omega
      have hb : Hid (bitB m s = decide (m / 2 ^ s.toNat % 2 = 1)) := by unfold Hid bitB; rw [d1, d2]; rfl
      have hq0 : 0 ≤ m / 2 ^ s.toNat := Int.ediv_nonneg h0 (Int.le_of_lt (Int.pow_pos (by omega)))
      have hq1 : m / 2 ^ s.toNat ≤ m := Int.ediv_le_self _ h0
      have hq := and_one (m / 2 ^ s.toNat) hq0 (by omega)
      clear hq0 hq1
      have HQ := Lib.hid hq
      clear hq
      go_enter Try.func31, Try.ntmps31
      go_wp2_with fail
      go_ret
      refine ⟨?_, by repeat (first | exact Kept.refl _ | assumption | (refine Kept.alloc ?_ _) | (refine Kept.setCell ?_ (by first | omega | (simp; omega) | simp) _) | refine Kept.drew ?_ | refine Kept.drewN ?_ _ | (apply Kept.call; rotate_left; assumption))⟩
      rw [hb.out]
      refine ret_bool ?_
      rw [HQ.out, Bool.eq_iff_iff]
      simp
    · have hb : Hid (bitB m s = false) := by unfold Hid bitB; simp; omega
      have d2 : decide (s < (6 : Int)) = false := by simp; omega
      go_enter Try.func31, Try.ntmps31
      go_wp2_with fail
      go_ret
      exact ⟨by rw [hb.out]; rfl, by repeat (first | exact Kept.refl _ | assumption | (refine Kept.alloc ?_ _) | (refine Kept.setCell ?_ (by first | omega | (simp; omega) | simp) _) | refine Kept.drew ?_ | refine Kept.drewN ?_ _ | (apply Kept.call; rotate_left; assumption))⟩
theorem oa_bd {es : List Nat} {os : List Int} {n : Nat} (hf : Fit es os n) {i : Nat} (hi : i ≤ es.length) : 0 ≤ oa os i ∧ oa os i < 64 := by
  have := hf.own i (by omega)
  have := two_le hf.six
  omega
set_option maxHeartbeats 1000000 in
theorem towns_yes (A B C : Option Addr) (n1 c1 n2 c2 n3 c3 : Nat) (es : List Nat) (os ps : List Int) (s : Int) (k : ByteArray) (w : World) (hr : RowW w A n1 c1 B n2 c2 C n3 c3 (rgs es) os ps) (hf : Fit es os n3) :
    Calls Try.prog 13 #[.agg #[.slice A n1 c1, .slice B n2 c2, .slice C n3 c3], .int .i64 s, .string k] w fun e w' => e = .returned (.bool (bitB (oa os (findI es (hv k))) s)) ∧ Kept w w' := by
  have HR := Lib.hid hr
  have HF := Lib.hid hf
  have hb := oa_bd hf (find_le es (hv k))
  clear hr hf
  obtain ⟨o, ho⟩ : ∃ o, oa os (findI es (hv k)) = o := ⟨_, rfl⟩
  rw [ho] at hb ⊢
  have HO := Lib.hid ho
  clear ho
  go_enter Try.func13, Try.ntmps13
  go_wp2_with fail
  refine (towners_yes A B C n1 c1 n2 c2 n3 c3 es os ps k _ (HR.out.keep (by repeat (first | exact Kept.refl _ | assumption | (refine Kept.alloc ?_ _) | (refine Kept.setCell ?_ (by first | omega | (simp; omega) | simp) _) | refine Kept.drew ?_ | refine Kept.drewN ?_ _ | (apply Kept.call; rotate_left; assumption)))) HF.out).mono ?_
  rintro e w1 ⟨rfl, k1⟩
  rw [HO.out]
  go_wp2_with fail
  refine (thas o s _ hb.1 hb.2).mono ?_
  rintro e w2 ⟨rfl, k2⟩
  go_wp2_with fail
  go_ret
  exact ⟨rfl, (Kept.call (by repeat (first | exact Kept.refl _ | assumption | (refine Kept.alloc ?_ _) | (refine Kept.setCell ?_ (by first | omega | (simp; omega) | simp) _) | refine Kept.drew ?_ | refine Kept.drewN ?_ _ | (apply Kept.call; rotate_left; assumption))) k1).call k2⟩
set_option maxHeartbeats 1000000 in
theorem towns_no (A B C : Option Addr) (n1 c1 n2 c2 n3 c3 : Nat) (s : Int) (k : ByteArray) (w : World) (b1 : n1 ≤ 9223372036854775807) (b2 : n2 ≤ 9223372036854775807) (b3 : n3 ≤ 9223372036854775807) (h : 6 < n3 ∨ (1 ≤ n3 ∧ n3 ≤ 6 ∧ n1 ≤ 8 ∧ n1 ≠ n2)) :
    Calls Try.prog 13 #[.agg #[.slice A n1 c1, .slice B n2 c2, .slice C n3 c3], .int .i64 s, .string k] w fun e w' => e = .returned (.bool (bitB 0 s)) ∧ Kept w w' := by
  go_enter Try.func13, Try.ntmps13
  go_wp2_with fail
  refine (towners_no A B C n1 c1 n2 c2 n3 c3 k _ b1 b2 b3 h).mono ?_
  rintro e w1 ⟨rfl, k1⟩
  go_wp2_with fail
  refine (thas 0 s _ (by omega) (by omega)).mono ?_
  rintro e w2 ⟨rfl, k2⟩
  go_wp2_with fail
  go_ret
  exact ⟨rfl, (Kept.call (by repeat (first | exact Kept.refl _ | assumption | (refine Kept.alloc ?_ _) | (refine Kept.setCell ?_ (by first | omega | (simp; omega) | simp) _) | refine Kept.drew ?_ | refine Kept.drewN ?_ _ | (apply Kept.call; rotate_left; assumption))) k1).call k2⟩
end Go.Proofs.Ytahokiopapenbaa
