/- The walk of the law StampBack: it returns true for every stamp, whatever lies ahead and behind. -/
import Derived.Test.YtfiocebipckaaaaStampV
set_option linter.unusedSimpArgs false
set_option linter.unusedVariables false
namespace Go.Proofs.Ytfiocebipckaaaa
open Go.RowKit

theorem sread_yes (s : ByteArray) (a : Int) (k n m len : Nat) (w : World) (hs : s.size ≤ 1099511627776) (ha : a = (k : Int)) (h1 : 1 ≤ n) (h2 : n ≤ 1099511627776) (h3 : m < 6) (hp : pairB n m <+: s.data.toList.drop k) (hl : len = (pairB n m).length) :
    Calls Try.prog 16 #[.string s, .int .i64 a] w fun e w' => e = .returned (.tuple #[.agg #[.int .i64 n, .int .i64 m], .int .i64 ((k : Int) + (len : Int)), .bool true]) ∧ Kept w w' := by
  subst ha hl
  refine (sread_rel s k w hs).mono ?_
  rintro e w' ⟨n', m', en, ok, rfl, hr, hk⟩
  obtain ⟨rfl, rfl, rfl, rfl⟩ := hr.same (.inl ⟨rfl, h1, h2, h3, by omega, hp, rfl⟩)
  exact ⟨rfl, hk⟩
theorem sread_no (s : ByteArray) (a : Int) (w : World) (hs : s.size ≤ 1099511627776) (hp : 0 ≤ a → ∀ m t, 1 ≤ m → m ≤ 1099511627776 → t < 6 → ¬ pairB m t <+: s.data.toList.drop a.toNat) :
    Calls Try.prog 16 #[.string s, .int .i64 a] w fun e w' => e = .returned (.tuple #[.agg #[.int .i64 0, .int .i64 0], .int .i64 0, .bool false]) ∧ Kept w w' := by
  refine (sread_rel s a w hs).mono ?_
  rintro e w' ⟨n', m', en, ok, rfl, hr, hk⟩
  obtain ⟨rfl, rfl, rfl, rfl⟩ := hr.same (.inr ⟨rfl, rfl, rfl, rfl, hp⟩)
  exact ⟨rfl, hk⟩
theorem mid_pair (a b : ByteArray) (n m : Nat) : pairB n m <+: (a ++ stB n m ++ b).data.toList.drop a.size := by
  rw [bs_app, bs_app, List.append_assoc, ← bs_len a, List.drop_left]
  exact List.prefix_append _ _

/-- The first n bytes of a text, or all of it. -/
def cutAt (s : ByteArray) (n : Nat) : ByteArray := if n < s.size then s.extract 0 n else s
theorem cutAt_size (s : ByteArray) (n : Nat) : (cutAt s n).size ≤ n := by
  unfold cutAt
  split
  · simp [ByteArray.size_extract]; exact Nat.min_le_left _ _
  · omega
set_option maxHeartbeats 4000000 in
set_option maxRecDepth 100000 in
theorem stampBack_walk (n m : Int) (a0 b0 : ByteArray) (w : World) (hn : (Lit.int .i64 n).wf = true) (hm : (Lit.int .i64 m).wf = true) (ha : a0.size ≤ maxLen) (hb : b0.size ≤ maxLen) :
    Calls Try.prog 7 #[.agg #[.int .i64 n, .int .i64 m], .string a0, .string b0] w fun e w' => e = .returned (.bool true) ∧ Kept w w' := by
  unfold maxLen at ha hb
  have HA := Lib.hid ha
  have HB := Lib.hid hb
  have C0 := heap_alloc_new w (.cells #[.int .i64 n, .int .i64 m] 24)
  have HC0 := Lib.hid C0
  clear hn hm C0
  rcases Nat.lt_or_ge 5 a0.size with h1 | h1 <;> rcases Nat.lt_or_ge 5 b0.size with h2 | h2
  · obtain ⟨a, hca⟩ : ∃ a, a0.extract 0 5 = a := ⟨_, rfl⟩
    obtain ⟨b, hcb⟩ : ∃ b, b0.extract 0 5 = b := ⟨_, rfl⟩
    have haz : a.size ≤ 5 := by rw [← hca, ByteArray.size_extract]; omega
    have hbz : b.size ≤ 5 := by rw [← hcb, ByteArray.size_extract]; omega
    go_enter Try.func7, Try.ntmps7
    go_wp2_with fail
    refine (awake_any _).mono ?_
    rintro e w1 ⟨rfl, k1⟩
    have K1 : Kept w w1 := Kept.call (by repeat (first | exact Kept.refl _ | assumption | (refine Kept.alloc ?_ _) | (refine Kept.setCell ?_ (by first | omega | (simp; omega) | simp) _) | refine Kept.drew ?_ | refine Kept.drewN ?_ _ | (apply Kept.call; rotate_left; assumption))) k1
    have C1 := k1.heap HC0.out
    have c0 : w1.cell? ⟨w.heap.size, 0, none⟩ = some (.int .i64 n) := by rw [Lib.cell_of_heap C1]; rfl
    have c1 : w1.cell? ⟨w.heap.size, 1, none⟩ = some (.int .i64 m) := by rw [Lib.cell_of_heap C1]; rfl
    have HC1 := Lib.hid C1
    clear C1
    by_cases hv : 1 ≤ n ∧ n ≤ 1099511627776 ∧ 0 ≤ m ∧ m < 6
    · obtain ⟨v1, v2, v3, v4⟩ := hv
      obtain ⟨N, hN⟩ := Int.eq_ofNat_of_zero_le (show 0 ≤ n by omega)
      obtain ⟨M, hM⟩ := Int.eq_ofNat_of_zero_le (show 0 ≤ m by omega)
      subst hN hM
      have hw := pair_len N M
      have hw1 := enc_ten N (by omega)
      have hw2 := enc_ten M (by omega)
      have hwz := stB_size N M
      obtain ⟨lw, hlw⟩ : ∃ l, (stB N M).size = l := ⟨_, rfl⟩
      have hlw2 : lw ≤ 20 := by omega
      have HLW := Lib.hid (show lw = (pairB N M).length by rw [← hlw]; rfl)
      clear hw hw1 hw2 hwz
      go_wp2_with fail
      refine (bytes_yes N M _ (by omega) (by omega) (by omega)).mono ?_
      rintro e w2 ⟨rfl, k2⟩
      have C2 := k2.heap HC1.out
      have c0 : w2.cell? ⟨w.heap.size, 0, none⟩ = some (.int .i64 N) := by rw [Lib.cell_of_heap C2]; rfl
      have c1 : w2.cell? ⟨w.heap.size, 1, none⟩ = some (.int .i64 M) := by rw [Lib.cell_of_heap C2]; rfl
      have HC2 := Lib.hid C2
      clear C2
      go_wp2_with fail
      refine (check_yes N M _ (by omega)).mono ?_
      rintro e w3 ⟨rfl, k3⟩
      have K3 := (K1.call k2).call k3
      have C3 := k3.heap HC2.out
      have hz3 : w.heap.size < w3.heap.size := (Array.getElem?_eq_some_iff.1 C3).1
      have HC3 := Lib.hid C3
      clear C3
      go_wp2_with fail
      refine (sread_yes _ a.size a.size N M lw _ (by simp only [ByteArray.size_append]; omega) rfl (by omega) (by omega) (by omega) (mid_pair a b N M) HLW.out).mono ?_
      rintro e w4 ⟨rfl, k4⟩
      have C4 := k4.heap HC3.out
      have c0 : w4.cell? ⟨w.heap.size, 0, none⟩ = some (.int .i64 N) := by rw [Lib.cell_of_heap C4]; rfl
      have c1 : w4.cell? ⟨w.heap.size, 1, none⟩ = some (.int .i64 M) := by rw [Lib.cell_of_heap C4]; rfl
      have K4 := K3.call k4
      have hz4 : w.heap.size < w4.heap.size := (Array.getElem?_eq_some_iff.1 C4).1
      clear C4
      have KE : Kept w (w4.alloc (.cells #[.int .i64 N, .int .i64 M] 24)) := K4.alloc _
      go_wp2_with fail
      go_ret
      exact ⟨by first | rfl | exact ret_bool (by simp), by repeat (first | exact Kept.refl _ | assumption | (refine Kept.alloc ?_ _) | (refine Kept.setCell ?_ (by first | omega | (simp; omega) | simp) _) | refine Kept.drew ?_ | refine Kept.drewN ?_ _ | (apply Kept.call; rotate_left; assumption))⟩
    · have HV := Lib.hid hv
      clear hv
      go_wp2_with fail
      refine (bytes_no n m _ HV.out).mono ?_
      rintro e w2 ⟨rfl, k2⟩
      have C2 := k2.heap HC1.out
      have c0 : w2.cell? ⟨w.heap.size, 0, none⟩ = some (.int .i64 n) := by rw [Lib.cell_of_heap C2]; rfl
      have c1 : w2.cell? ⟨w.heap.size, 1, none⟩ = some (.int .i64 m) := by rw [Lib.cell_of_heap C2]; rfl
      clear C2
      go_wp2_with fail
      refine (check_no n m _ HV.out).mono ?_
      rintro e w3 ⟨rfl, k3⟩
      go_wp2_with fail
      go_ret
      exact ⟨by first | rfl | exact ret_bool (by simp), (K1.call k2).call k3⟩
  · obtain ⟨a, hca⟩ : ∃ a, a0.extract 0 5 = a := ⟨_, rfl⟩
    generalize b0 = b at *
    have haz : a.size ≤ 5 := by rw [← hca, ByteArray.size_extract]; omega
    have hbz : b.size ≤ 5 := h2
    go_enter Try.func7, Try.ntmps7
    go_wp2_with fail
    refine (awake_any _).mono ?_
    rintro e w1 ⟨rfl, k1⟩
    have K1 : Kept w w1 := Kept.call (by repeat (first | exact Kept.refl _ | assumption | (refine Kept.alloc ?_ _) | (refine Kept.setCell ?_ (by first | omega | (simp; omega) | simp) _) | refine Kept.drew ?_ | refine Kept.drewN ?_ _ | (apply Kept.call; rotate_left; assumption))) k1
    have C1 := k1.heap HC0.out
    have c0 : w1.cell? ⟨w.heap.size, 0, none⟩ = some (.int .i64 n) := by rw [Lib.cell_of_heap C1]; rfl
    have c1 : w1.cell? ⟨w.heap.size, 1, none⟩ = some (.int .i64 m) := by rw [Lib.cell_of_heap C1]; rfl
    have HC1 := Lib.hid C1
    clear C1
    by_cases hv : 1 ≤ n ∧ n ≤ 1099511627776 ∧ 0 ≤ m ∧ m < 6
    · obtain ⟨v1, v2, v3, v4⟩ := hv
      obtain ⟨N, hN⟩ := Int.eq_ofNat_of_zero_le (show 0 ≤ n by omega)
      obtain ⟨M, hM⟩ := Int.eq_ofNat_of_zero_le (show 0 ≤ m by omega)
      subst hN hM
      have hw := pair_len N M
      have hw1 := enc_ten N (by omega)
      have hw2 := enc_ten M (by omega)
      have hwz := stB_size N M
      obtain ⟨lw, hlw⟩ : ∃ l, (stB N M).size = l := ⟨_, rfl⟩
      have hlw2 : lw ≤ 20 := by omega
      have HLW := Lib.hid (show lw = (pairB N M).length by rw [← hlw]; rfl)
      clear hw hw1 hw2 hwz
      go_wp2_with fail
      refine (bytes_yes N M _ (by omega) (by omega) (by omega)).mono ?_
      rintro e w2 ⟨rfl, k2⟩
      have C2 := k2.heap HC1.out
      have c0 : w2.cell? ⟨w.heap.size, 0, none⟩ = some (.int .i64 N) := by rw [Lib.cell_of_heap C2]; rfl
      have c1 : w2.cell? ⟨w.heap.size, 1, none⟩ = some (.int .i64 M) := by rw [Lib.cell_of_heap C2]; rfl
      have HC2 := Lib.hid C2
      clear C2
      go_wp2_with fail
      refine (check_yes N M _ (by omega)).mono ?_
      rintro e w3 ⟨rfl, k3⟩
      have K3 := (K1.call k2).call k3
      have C3 := k3.heap HC2.out
      have hz3 : w.heap.size < w3.heap.size := (Array.getElem?_eq_some_iff.1 C3).1
      have HC3 := Lib.hid C3
      clear C3
      go_wp2_with fail
      refine (sread_yes _ a.size a.size N M lw _ (by simp only [ByteArray.size_append]; omega) rfl (by omega) (by omega) (by omega) (mid_pair a b N M) HLW.out).mono ?_
      rintro e w4 ⟨rfl, k4⟩
      have C4 := k4.heap HC3.out
      have c0 : w4.cell? ⟨w.heap.size, 0, none⟩ = some (.int .i64 N) := by rw [Lib.cell_of_heap C4]; rfl
      have c1 : w4.cell? ⟨w.heap.size, 1, none⟩ = some (.int .i64 M) := by rw [Lib.cell_of_heap C4]; rfl
      have K4 := K3.call k4
      have hz4 : w.heap.size < w4.heap.size := (Array.getElem?_eq_some_iff.1 C4).1
      clear C4
      have KE : Kept w (w4.alloc (.cells #[.int .i64 N, .int .i64 M] 24)) := K4.alloc _
      go_wp2_with fail
      go_ret
      exact ⟨by first | rfl | exact ret_bool (by simp), by repeat (first | exact Kept.refl _ | assumption | (refine Kept.alloc ?_ _) | (refine Kept.setCell ?_ (by first | omega | (simp; omega) | simp) _) | refine Kept.drew ?_ | refine Kept.drewN ?_ _ | (apply Kept.call; rotate_left; assumption))⟩
    · have HV := Lib.hid hv
      clear hv
      go_wp2_with fail
      refine (bytes_no n m _ HV.out).mono ?_
      rintro e w2 ⟨rfl, k2⟩
      have C2 := k2.heap HC1.out
      have c0 : w2.cell? ⟨w.heap.size, 0, none⟩ = some (.int .i64 n) := by rw [Lib.cell_of_heap C2]; rfl
      have c1 : w2.cell? ⟨w.heap.size, 1, none⟩ = some (.int .i64 m) := by rw [Lib.cell_of_heap C2]; rfl
      clear C2
      go_wp2_with fail
      refine (check_no n m _ HV.out).mono ?_
      rintro e w3 ⟨rfl, k3⟩
      go_wp2_with fail
      go_ret
      exact ⟨by first | rfl | exact ret_bool (by simp), (K1.call k2).call k3⟩
  · obtain ⟨b, hcb⟩ : ∃ b, b0.extract 0 5 = b := ⟨_, rfl⟩
    generalize a0 = a at *
    have haz : a.size ≤ 5 := h1
    have hbz : b.size ≤ 5 := by rw [← hcb, ByteArray.size_extract]; omega
    go_enter Try.func7, Try.ntmps7
    go_wp2_with fail
    refine (awake_any _).mono ?_
    rintro e w1 ⟨rfl, k1⟩
    have K1 : Kept w w1 := Kept.call (by repeat (first | exact Kept.refl _ | assumption | (refine Kept.alloc ?_ _) | (refine Kept.setCell ?_ (by first | omega | (simp; omega) | simp) _) | refine Kept.drew ?_ | refine Kept.drewN ?_ _ | (apply Kept.call; rotate_left; assumption))) k1
    have C1 := k1.heap HC0.out
    have c0 : w1.cell? ⟨w.heap.size, 0, none⟩ = some (.int .i64 n) := by rw [Lib.cell_of_heap C1]; rfl
    have c1 : w1.cell? ⟨w.heap.size, 1, none⟩ = some (.int .i64 m) := by rw [Lib.cell_of_heap C1]; rfl
    have HC1 := Lib.hid C1
    clear C1
    by_cases hv : 1 ≤ n ∧ n ≤ 1099511627776 ∧ 0 ≤ m ∧ m < 6
    · obtain ⟨v1, v2, v3, v4⟩ := hv
      obtain ⟨N, hN⟩ := Int.eq_ofNat_of_zero_le (show 0 ≤ n by omega)
      obtain ⟨M, hM⟩ := Int.eq_ofNat_of_zero_le (show 0 ≤ m by omega)
      subst hN hM
      have hw := pair_len N M
      have hw1 := enc_ten N (by omega)
      have hw2 := enc_ten M (by omega)
      have hwz := stB_size N M
      obtain ⟨lw, hlw⟩ : ∃ l, (stB N M).size = l := ⟨_, rfl⟩
      have hlw2 : lw ≤ 20 := by omega
      have HLW := Lib.hid (show lw = (pairB N M).length by rw [← hlw]; rfl)
      clear hw hw1 hw2 hwz
      go_wp2_with fail
      refine (bytes_yes N M _ (by omega) (by omega) (by omega)).mono ?_
      rintro e w2 ⟨rfl, k2⟩
      have C2 := k2.heap HC1.out
      have c0 : w2.cell? ⟨w.heap.size, 0, none⟩ = some (.int .i64 N) := by rw [Lib.cell_of_heap C2]; rfl
      have c1 : w2.cell? ⟨w.heap.size, 1, none⟩ = some (.int .i64 M) := by rw [Lib.cell_of_heap C2]; rfl
      have HC2 := Lib.hid C2
      clear C2
      go_wp2_with fail
      refine (check_yes N M _ (by omega)).mono ?_
      rintro e w3 ⟨rfl, k3⟩
      have K3 := (K1.call k2).call k3
      have C3 := k3.heap HC2.out
      have hz3 : w.heap.size < w3.heap.size := (Array.getElem?_eq_some_iff.1 C3).1
      have HC3 := Lib.hid C3
      clear C3
      go_wp2_with fail
      refine (sread_yes _ a.size a.size N M lw _ (by simp only [ByteArray.size_append]; omega) rfl (by omega) (by omega) (by omega) (mid_pair a b N M) HLW.out).mono ?_
      rintro e w4 ⟨rfl, k4⟩
      have C4 := k4.heap HC3.out
      have c0 : w4.cell? ⟨w.heap.size, 0, none⟩ = some (.int .i64 N) := by rw [Lib.cell_of_heap C4]; rfl
      have c1 : w4.cell? ⟨w.heap.size, 1, none⟩ = some (.int .i64 M) := by rw [Lib.cell_of_heap C4]; rfl
      have K4 := K3.call k4
      have hz4 : w.heap.size < w4.heap.size := (Array.getElem?_eq_some_iff.1 C4).1
      clear C4
      have KE : Kept w (w4.alloc (.cells #[.int .i64 N, .int .i64 M] 24)) := K4.alloc _
      go_wp2_with fail
      go_ret
      exact ⟨by first | rfl | exact ret_bool (by simp), by repeat (first | exact Kept.refl _ | assumption | (refine Kept.alloc ?_ _) | (refine Kept.setCell ?_ (by first | omega | (simp; omega) | simp) _) | refine Kept.drew ?_ | refine Kept.drewN ?_ _ | (apply Kept.call; rotate_left; assumption))⟩
    · have HV := Lib.hid hv
      clear hv
      go_wp2_with fail
      refine (bytes_no n m _ HV.out).mono ?_
      rintro e w2 ⟨rfl, k2⟩
      have C2 := k2.heap HC1.out
      have c0 : w2.cell? ⟨w.heap.size, 0, none⟩ = some (.int .i64 n) := by rw [Lib.cell_of_heap C2]; rfl
      have c1 : w2.cell? ⟨w.heap.size, 1, none⟩ = some (.int .i64 m) := by rw [Lib.cell_of_heap C2]; rfl
      clear C2
      go_wp2_with fail
      refine (check_no n m _ HV.out).mono ?_
      rintro e w3 ⟨rfl, k3⟩
      go_wp2_with fail
      go_ret
      exact ⟨by first | rfl | exact ret_bool (by simp), (K1.call k2).call k3⟩
  · generalize a0 = a at *
    generalize b0 = b at *
    have haz : a.size ≤ 5 := h1
    have hbz : b.size ≤ 5 := h2
    go_enter Try.func7, Try.ntmps7
    go_wp2_with fail
    refine (awake_any _).mono ?_
    rintro e w1 ⟨rfl, k1⟩
    have K1 : Kept w w1 := Kept.call (by repeat (first | exact Kept.refl _ | assumption | (refine Kept.alloc ?_ _) | (refine Kept.setCell ?_ (by first | omega | (simp; omega) | simp) _) | refine Kept.drew ?_ | refine Kept.drewN ?_ _ | (apply Kept.call; rotate_left; assumption))) k1
    have C1 := k1.heap HC0.out
    have c0 : w1.cell? ⟨w.heap.size, 0, none⟩ = some (.int .i64 n) := by rw [Lib.cell_of_heap C1]; rfl
    have c1 : w1.cell? ⟨w.heap.size, 1, none⟩ = some (.int .i64 m) := by rw [Lib.cell_of_heap C1]; rfl
    have HC1 := Lib.hid C1
    clear C1
    by_cases hv : 1 ≤ n ∧ n ≤ 1099511627776 ∧ 0 ≤ m ∧ m < 6
    · obtain ⟨v1, v2, v3, v4⟩ := hv
      obtain ⟨N, hN⟩ := Int.eq_ofNat_of_zero_le (show 0 ≤ n by omega)
      obtain ⟨M, hM⟩ := Int.eq_ofNat_of_zero_le (show 0 ≤ m by omega)
      subst hN hM
      have hw := pair_len N M
      have hw1 := enc_ten N (by omega)
      have hw2 := enc_ten M (by omega)
      have hwz := stB_size N M
      obtain ⟨lw, hlw⟩ : ∃ l, (stB N M).size = l := ⟨_, rfl⟩
      have hlw2 : lw ≤ 20 := by omega
      have HLW := Lib.hid (show lw = (pairB N M).length by rw [← hlw]; rfl)
      clear hw hw1 hw2 hwz
      go_wp2_with fail
      refine (bytes_yes N M _ (by omega) (by omega) (by omega)).mono ?_
      rintro e w2 ⟨rfl, k2⟩
      have C2 := k2.heap HC1.out
      have c0 : w2.cell? ⟨w.heap.size, 0, none⟩ = some (.int .i64 N) := by rw [Lib.cell_of_heap C2]; rfl
      have c1 : w2.cell? ⟨w.heap.size, 1, none⟩ = some (.int .i64 M) := by rw [Lib.cell_of_heap C2]; rfl
      have HC2 := Lib.hid C2
      clear C2
      go_wp2_with fail
      refine (check_yes N M _ (by omega)).mono ?_
      rintro e w3 ⟨rfl, k3⟩
      have K3 := (K1.call k2).call k3
      have C3 := k3.heap HC2.out
      have hz3 : w.heap.size < w3.heap.size := (Array.getElem?_eq_some_iff.1 C3).1
      have HC3 := Lib.hid C3
      clear C3
      go_wp2_with fail
      refine (sread_yes _ a.size a.size N M lw _ (by simp only [ByteArray.size_append]; omega) rfl (by omega) (by omega) (by omega) (mid_pair a b N M) HLW.out).mono ?_
      rintro e w4 ⟨rfl, k4⟩
      have C4 := k4.heap HC3.out
      have c0 : w4.cell? ⟨w.heap.size, 0, none⟩ = some (.int .i64 N) := by rw [Lib.cell_of_heap C4]; rfl
      have c1 : w4.cell? ⟨w.heap.size, 1, none⟩ = some (.int .i64 M) := by rw [Lib.cell_of_heap C4]; rfl
      have K4 := K3.call k4
      have hz4 : w.heap.size < w4.heap.size := (Array.getElem?_eq_some_iff.1 C4).1
      clear C4
      have KE : Kept w (w4.alloc (.cells #[.int .i64 N, .int .i64 M] 24)) := K4.alloc _
      go_wp2_with fail
      go_ret
      exact ⟨by first | rfl | exact ret_bool (by simp), by repeat (first | exact Kept.refl _ | assumption | (refine Kept.alloc ?_ _) | (refine Kept.setCell ?_ (by first | omega | (simp; omega) | simp) _) | refine Kept.drew ?_ | refine Kept.drewN ?_ _ | (apply Kept.call; rotate_left; assumption))⟩
    · have HV := Lib.hid hv
      clear hv
      go_wp2_with fail
      refine (bytes_no n m _ HV.out).mono ?_
      rintro e w2 ⟨rfl, k2⟩
      have C2 := k2.heap HC1.out
      have c0 : w2.cell? ⟨w.heap.size, 0, none⟩ = some (.int .i64 n) := by rw [Lib.cell_of_heap C2]; rfl
      have c1 : w2.cell? ⟨w.heap.size, 1, none⟩ = some (.int .i64 m) := by rw [Lib.cell_of_heap C2]; rfl
      clear C2
      go_wp2_with fail
      refine (check_no n m _ HV.out).mono ?_
      rintro e w3 ⟨rfl, k3⟩
      go_wp2_with fail
      go_ret
      exact ⟨by first | rfl | exact ret_bool (by simp), (K1.call k2).call k3⟩
end Go.Proofs.Ytfiocebipckaaaa
