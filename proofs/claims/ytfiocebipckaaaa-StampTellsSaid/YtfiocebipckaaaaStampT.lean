/- The document's own stamps (archipelagoref03): Check, Less, Next, Bytes, Max, Read; the program's by the same functions. -/
import Derived.Test.YtfiocebipckaaaaStampRow
import Derived.Test.YtfiocebipckaaaaStampMaxF
set_option linter.unusedSimpArgs false
set_option linter.unusedVariables false
namespace Go.Proofs.Ytfiocebipckaaaa
open Go.RowKit

set_option maxHeartbeats 400000 in
theorem rless_any (n s m t : Int) (w : World) :
    Calls Try.prog 19 #[.agg #[.int .i64 n, .int .i64 s], .agg #[.int .i64 m, .int .i64 t]] w fun e w' => e = .returned (.bool (lessB n s m t)) ∧ Kept w w' := by
  rcases Int.lt_or_le n m with h | h
  · have h1 : (n == m) = false := by simp; omega
    have h2 : (n != m) = true := by simp; omega
    go_enter Try.func19, Try.ntmps19
    go_wp2
    go_ret
    refine ⟨ret_bool (by unfold lessB; rw [Bool.eq_iff_iff]; simp; omega), ?_⟩
    repeat (first | exact Kept.refl _ | assumption | (refine Kept.alloc ?_ _) | (refine Kept.setCell ?_ (by first | omega | (simp; omega) | simp) _) | refine Kept.drew ?_ | refine Kept.drewN ?_ _ | (apply Kept.call; rotate_left; assumption))
  · rcases Int.lt_or_le m n with g | g
    · have h1 : (n == m) = false := by simp; omega
      have h2 : (n != m) = true := by simp; omega
      go_enter Try.func19, Try.ntmps19
      go_wp2
      go_ret
      refine ⟨ret_bool (by unfold lessB; rw [Bool.eq_iff_iff]; simp; omega), ?_⟩
      repeat (first | exact Kept.refl _ | assumption | (refine Kept.alloc ?_ _) | (refine Kept.setCell ?_ (by first | omega | (simp; omega) | simp) _) | refine Kept.drew ?_ | refine Kept.drewN ?_ _ | (apply Kept.call; rotate_left; assumption))
    · obtain rfl : n = m := by omega
      clear h g
      go_enter Try.func19, Try.ntmps19
      go_wp2
      go_ret
      refine ⟨ret_bool (by unfold lessB; rw [Bool.eq_iff_iff]; simp), ?_⟩
      repeat (first | exact Kept.refl _ | assumption | (refine Kept.alloc ?_ _) | (refine Kept.setCell ?_ (by first | omega | (simp; omega) | simp) _) | refine Kept.drew ?_ | refine Kept.drewN ?_ _ | (apply Kept.call; rotate_left; assumption))
set_option maxHeartbeats 400000 in
theorem rcheck_any (n s : Int) (w : World) :
    Calls Try.prog 18 #[.agg #[.int .i64 n, .int .i64 s]] w fun e w' => e = .returned (.bool (checkB n s)) ∧ Kept w w' := by
  go_enter Try.func18, Try.ntmps18
  go_wp2
  all_goals
    go_ret
    refine ⟨ret_bool (by unfold checkB; rw [Bool.eq_iff_iff]; simp; omega), ?_⟩
    repeat (first | exact Kept.refl _ | assumption | (refine Kept.alloc ?_ _) | (refine Kept.setCell ?_ (by first | omega | (simp; omega) | simp) _) | refine Kept.drew ?_ | refine Kept.drewN ?_ _ | (apply Kept.call; rotate_left; assumption))
theorem rcheck_yes (n s : Int) (w : World) (h : 1 ≤ n ∧ n ≤ 1099511627776 ∧ 0 ≤ s ∧ s < 6) :
    Calls Try.prog 18 #[.agg #[.int .i64 n, .int .i64 s]] w fun e w' => e = .returned (.bool true) ∧ Kept w w' :=
  (rcheck_any n s w).mono fun _ _ ⟨he, hw⟩ => ⟨by rw [he]; exact ret_bool (decide_eq_true h), hw⟩
theorem rcheck_no (n s : Int) (w : World) (h : ¬ (1 ≤ n ∧ n ≤ 1099511627776 ∧ 0 ≤ s ∧ s < 6)) :
    Calls Try.prog 18 #[.agg #[.int .i64 n, .int .i64 s]] w fun e w' => e = .returned (.bool false) ∧ Kept w w' :=
  (rcheck_any n s w).mono fun _ _ ⟨he, hw⟩ => ⟨by rw [he]; exact ret_bool (decide_eq_false h), hw⟩

/-- The next stamp: its number, its site, the error. -/
def nxN (n k : Int) : Int := if k < 0 ∨ 6 ≤ k then 0 else if 1099511627776 ≤ n then 0 else max n 0 + 1
def nxS (n k : Int) : Int := if k < 0 ∨ 6 ≤ k then 0 else if 1099511627776 ≤ n then 0 else k
def nxE (n k : Int) : Int := if k < 0 ∨ 6 ≤ k then 1 else if 1099511627776 ≤ n then 18 else 0
theorem next_fn (n s k : Int) (w : World) :
    Calls Try.prog 11 #[.agg #[.int .i64 n, .int .i64 s], .int .i64 k] w fun e w' => e = .returned (.tuple #[.agg #[.int .i64 (nxN n k), .int .i64 (nxS n k)], .int .i64 (nxE n k)]) ∧ Kept w w' := by
  by_cases h : k < 0 ∨ 6 ≤ k
  · rw [nxN, nxS, nxE, if_pos h, if_pos h, if_pos h]; exact next_bad n s k w h
  · by_cases h2 : 1099511627776 ≤ n
    · rw [nxN, nxS, nxE, if_neg h, if_neg h, if_neg h, if_pos h2, if_pos h2, if_pos h2]; exact next_over n s k w (by omega) (by omega) h2
    · rw [nxN, nxS, nxE, if_neg h, if_neg h, if_neg h, if_neg h2, if_neg h2, if_neg h2]; exact next_ok n s k _ w (by omega) (by omega) (by omega) rfl
set_option maxHeartbeats 1000000 in
theorem rnext_fn (n s k : Int) (w : World) :
    Calls Try.prog 17 #[.agg #[.int .i64 n, .int .i64 s], .int .i64 k] w fun e w' => e = .returned (.tuple #[.agg #[.int .i64 (nxN n k), .int .i64 (nxS n k)], .int .i64 (nxE n k)]) ∧ Kept w w' := by
  have fin : ∀ (a b c : Int) (e : Ending), (nxN n k = a ∧ nxS n k = b ∧ nxE n k = c) → e = .returned (.tuple #[.agg #[.int .i64 a, .int .i64 b], .int .i64 c]) → e = .returned (.tuple #[.agg #[.int .i64 (nxN n k), .int .i64 (nxS n k)], .int .i64 (nxE n k)]) := fun a b c e ⟨h1, h2, h3⟩ he => by rw [h1, h2, h3]; exact he
  have FIN := Lib.hid fin
  clear fin
  rcases Int.lt_or_le k 0 with h0 | h0
  · have hv : Hid (nxN n k = 0 ∧ nxS n k = 0 ∧ nxE n k = 1) := by
      have hb : k < 0 ∨ 6 ≤ k := by omega
      unfold Hid nxN nxS nxE; rw [if_pos hb, if_pos hb, if_pos hb]; exact ⟨rfl, rfl, rfl⟩
    go_enter Try.func17, Try.ntmps17
    go_wp2
    refine bodyPost_ret (v := .tuple #[.agg #[.int .i64 0, .int .i64 0], .int .i64 1]) (by simp [results, Try.results17, go_sem]) rfl ⟨FIN.out _ _ _ _ hv.out rfl, ?_⟩
    repeat (first | exact Kept.refl _ | assumption | (refine Kept.alloc ?_ _) | (refine Kept.setCell ?_ (by first | omega | (simp; omega) | simp) _) | refine Kept.drew ?_ | refine Kept.drewN ?_ _ | (apply Kept.call; rotate_left; assumption))
  · rcases Int.lt_or_le 5 k with h5 | h5
    · have hv : Hid (nxN n k = 0 ∧ nxS n k = 0 ∧ nxE n k = 1) := by
        have hb : k < 0 ∨ 6 ≤ k := by omega
        unfold Hid nxN nxS nxE; rw [if_pos hb, if_pos hb, if_pos hb]; exact ⟨rfl, rfl, rfl⟩
      go_enter Try.func17, Try.ntmps17
      go_wp2
      refine bodyPost_ret (v := .tuple #[.agg #[.int .i64 0, .int .i64 0], .int .i64 1]) (by simp [results, Try.results17, go_sem]) rfl ⟨FIN.out _ _ _ _ hv.out rfl, ?_⟩
      repeat (first | exact Kept.refl _ | assumption | (refine Kept.alloc ?_ _) | (refine Kept.setCell ?_ (by first | omega | (simp; omega) | simp) _) | refine Kept.drew ?_ | refine Kept.drewN ?_ _ | (apply Kept.call; rotate_left; assumption))
    · rcases Int.lt_or_le n 1099511627776 with hn | hn
      · have hv : Hid (nxN n k = max n 0 + 1 ∧ nxS n k = k ∧ nxE n k = 0) := by
          have hb : ¬ (k < 0 ∨ 6 ≤ k) := by omega
          have ho : ¬ 1099511627776 ≤ n := by omega
          unfold Hid nxN nxS nxE; rw [if_neg hb, if_neg hb, if_neg hb, if_neg ho, if_neg ho, if_neg ho]; exact ⟨rfl, rfl, rfl⟩
        rcases Int.lt_or_le n 1 with h1 | h1
        · have hm : Hid (max n 0 + 1 = 1) := by unfold Hid; omega
          go_enter Try.func17, Try.ntmps17
          go_wp2
          refine bodyPost_ret (v := .tuple #[.agg #[.int .i64 1, .int .i64 k], .int .i64 0]) (by simp [results, Try.results17, go_sem]) rfl ⟨FIN.out _ _ _ _ (by rw [hm.out] at hv; exact hv.out) rfl, ?_⟩
          repeat (first | exact Kept.refl _ | assumption | (refine Kept.alloc ?_ _) | (refine Kept.setCell ?_ (by first | omega | (simp; omega) | simp) _) | refine Kept.drew ?_ | refine Kept.drewN ?_ _ | (apply Kept.call; rotate_left; assumption))
        · have hm : Hid (max n 0 + 1 = n + 1) := by unfold Hid; omega
          go_enter Try.func17, Try.ntmps17
          go_wp2
          refine bodyPost_ret (v := .tuple #[.agg #[.int .i64 (n + 1), .int .i64 k], .int .i64 0]) (by simp [results, Try.results17, go_sem]) rfl ⟨FIN.out _ _ _ _ (by rw [hm.out] at hv; exact hv.out) rfl, ?_⟩
          repeat (first | exact Kept.refl _ | assumption | (refine Kept.alloc ?_ _) | (refine Kept.setCell ?_ (by first | omega | (simp; omega) | simp) _) | refine Kept.drew ?_ | refine Kept.drewN ?_ _ | (apply Kept.call; rotate_left; assumption))
      · have hv : Hid (nxN n k = 0 ∧ nxS n k = 0 ∧ nxE n k = 18) := by
          have hb : ¬ (k < 0 ∨ 6 ≤ k) := by omega
          unfold Hid nxN nxS nxE; rw [if_neg hb, if_neg hb, if_neg hb, if_pos hn, if_pos hn, if_pos hn]; exact ⟨rfl, rfl, rfl⟩
        go_enter Try.func17, Try.ntmps17
        go_wp2
        refine bodyPost_ret (v := .tuple #[.agg #[.int .i64 0, .int .i64 0], .int .i64 18]) (by simp [results, Try.results17, go_sem]) rfl ⟨FIN.out _ _ _ _ hv.out rfl, ?_⟩
        repeat (first | exact Kept.refl _ | assumption | (refine Kept.alloc ?_ _) | (refine Kept.setCell ?_ (by first | omega | (simp; omega) | simp) _) | refine Kept.drew ?_ | refine Kept.drewN ?_ _ | (apply Kept.call; rotate_left; assumption))

/-- A stamp's bytes, or none. -/
def byF (n m : Int) : ByteArray := if 1 ≤ n ∧ n ≤ 1099511627776 ∧ 0 ≤ m ∧ m < 6 then stB n.toNat m.toNat else ⟨#[]⟩
theorem bytes_fn (n m : Int) (w : World) :
    Calls Try.prog 15 #[.agg #[.int .i64 n, .int .i64 m]] w fun e w' => e = .returned (.string (byF n m)) ∧ Kept w w' := by
  by_cases h : 1 ≤ n ∧ n ≤ 1099511627776 ∧ 0 ≤ m ∧ m < 6
  · rw [byF, if_pos h]
    have h2 := bytes_yes n.toNat m.toNat w (by omega) (by omega) (by omega)
    rwa [Int.toNat_of_nonneg (by omega), Int.toNat_of_nonneg (by omega)] at h2
  · rw [byF, if_neg h]; exact bytes_no n m w h
set_option maxHeartbeats 1000000 in
theorem rbytes_fn (n m : Int) (w : World) :
    Calls Try.prog 20 #[.agg #[.int .i64 n, .int .i64 m]] w fun e w' => e = .returned (.string (byF n m)) ∧ Kept w w' := by
  by_cases h : 1 ≤ n ∧ n ≤ 1099511627776 ∧ 0 ≤ m ∧ m < 6
  · have hb : byF n m = stB n.toNat m.toNat := by rw [byF, if_pos h]
    rw [hb]
    obtain ⟨v1, v2, v3, v4⟩ := h
    obtain ⟨N, rfl⟩ := Int.eq_ofNat_of_zero_le (show 0 ≤ n by omega)
    obtain ⟨M, rfl⟩ := Int.eq_ofNat_of_zero_le (show 0 ≤ m by omega)
    have hst : Hid (num N ++ num M = stB (N : Int).toNat (M : Int).toNat) := by
      unfold Hid
      apply bs_ext
      rw [bs_app]; rfl
    have hz1 : (num N).size ≤ 10 := enc_ten N (by omega)
    have hz2 : (num M).size ≤ 10 := enc_ten M (by omega)
    have C0 := heap_alloc_new w (.cells #[.int .i64 N, .int .i64 M] 24)
    have HC0 := Lib.hid C0
    clear C0 hb
    rw [← hst.out]
    go_enter Try.func20, Try.ntmps20
    go_wp2_with fail
    refine (rcheck_yes N M _ (by omega)).mono ?_
    rintro e w1 ⟨rfl, k1⟩
    have K1 : Kept w w1 := Kept.call (by repeat (first | exact Kept.refl _ | assumption | (refine Kept.alloc ?_ _) | (refine Kept.setCell ?_ (by first | omega | (simp; omega) | simp) _) | refine Kept.drew ?_ | refine Kept.drewN ?_ _ | (apply Kept.call; rotate_left; assumption))) k1
    have C1 := k1.heap HC0.out
    have c0 : w1.cell? ⟨w.heap.size, 0, none⟩ = some (.int .i64 N) := by rw [Lib.cell_of_heap C1]; rfl
    have c1 : w1.cell? ⟨w.heap.size, 1, none⟩ = some (.int .i64 M) := by rw [Lib.cell_of_heap C1]; rfl
    have HC1 := Lib.hid C1
    clear C1
    go_wp2_with fail
    refine wp_region_text keepsOne (fun wB => Kept w wB ∧ wB.cell? ⟨w.heap.size, 0, none⟩ = some (.int .i64 N) ∧ wB.cell? ⟨w.heap.size, 1, none⟩ = some (.int .i64 M)) ?_ (by kernel_rfl) (by kernel_rfl) _ rfl ?_
    · exact ⟨by repeat (first | exact Kept.refl _ | assumption | (refine Kept.alloc ?_ _) | (refine Kept.setCell ?_ (by first | omega | (simp; omega) | simp) _) | refine Kept.drew ?_ | refine Kept.drewN ?_ _ | (apply Kept.call; rotate_left; assumption)), by first | assumption | go_simp, by first | assumption | go_simp⟩
    rintro wB ⟨hkB, sB1, sB2⟩
    repeat (first | (apply DW.det; (focus (intro wd hI; have td1 := hI.at_ sB1; have td2 := hI.at_ sB2; skip; go_wp2_with (first | (go_at_call 25; refine (rnumber_any _ _ (by omega)).mono ?_; rintro e w5 ⟨rfl, hb5⟩)); refine StepPost.mk _ rfl ⟨rfl, ?_⟩; repeat (first | exact Kept.refl _ | assumption | (refine Kept.alloc ?_ _) | (refine Kept.setCell ?_ (by first | omega | (simp; omega) | simp) _) | refine Kept.drew ?_ | refine Kept.drewN ?_ _ | (apply Kept.call; rotate_left; assumption)))); simp only [Act.put, List.setIfInBounds_toArray, List.set_cons_succ, List.set_cons_zero]) | (refine DW.loud (by kernel_rfl) ?_; intro wd hI; have td1 := hI.at_ sB1; have td2 := hI.at_ sB2; skip; go_wp2_with (first | (go_at_call 25; refine (rnumber_any _ _ (by omega)).mono ?_; rintro e w5 ⟨rfl, hb5⟩)); refine StepPost.loud _ rfl (by repeat (first | exact Kept.refl _ | assumption | (refine Kept.alloc ?_ _) | (refine Kept.setCell ?_ (by first | omega | (simp; omega) | simp) _) | refine Kept.drew ?_ | refine Kept.drewN ?_ _ | (apply Kept.call; rotate_left; assumption))) (fun hkL => ?_); have hkL := hI.call hkL; have hkB := hkB.call hkL; have sB1 := hkL.at_ sB1; have sB2 := hkL.at_ sB2; simp only [Act.put, List.setIfInBounds_toArray, List.set_cons_succ, List.set_cons_zero]))
    refine DW.nil ?_
    intro wd hI
    have hkd := hkB.call hI
    have td1 := hI.at_ sB1; have td2 := hI.at_ sB2
    go_wp2_with fail
    go_ret
    exact ⟨rfl, hkd⟩
  · have hb : byF n m = ⟨#[]⟩ := by rw [byF, if_neg h]
    rw [hb]
    have HH := Lib.hid h
    clear h hb
    go_enter Try.func20, Try.ntmps20
    go_wp2_with fail
    refine (rcheck_no n m _ HH.out).mono ?_
    rintro e w1 ⟨rfl, k1⟩
    have K1 : Kept w w1 := Kept.call (by repeat (first | exact Kept.refl _ | assumption | (refine Kept.alloc ?_ _) | (refine Kept.setCell ?_ (by first | omega | (simp; omega) | simp) _) | refine Kept.drew ?_ | refine Kept.drewN ?_ _ | (apply Kept.call; rotate_left; assumption))) k1
    go_wp2_with fail
    go_ret
    exact ⟨rfl, K1⟩

set_option maxHeartbeats 1000000 in
theorem rmax_any (A : Option Addr) (n c : Nat) (xs : List (Int × Int)) (w : World) (h : StampsAt w A n xs) :
    Calls Try.prog 22 #[.slice A n c] w fun e w' => e = .returned (.agg #[.int .i64 (maxOf xs).1, .int .i64 (maxOf xs).2]) ∧ Kept w w' := by
  obtain ⟨hl, hn, hc⟩ := h
  unfold maxLen at hn
  have HL := Lib.hid hl
  have HC := Lib.hid hc
  clear hl hc
  go_enter Try.func22, Try.ntmps22
  go_wp2_with fail
  go_loopw [4] (fun i wr => ∃ k : Nat, k ≤ n ∧ i = .int .i64 k ∧ Kept w wr ∧ wr.heap[w.heap.size]? = some (.cells #[.int .i64 0, .int .i64 0] 24 (0, 0)) ∧ wr.heap[w.heap.size + 1]? = some (.cells #[.int .i64 (maxOf (xs.take k)).1, .int .i64 (maxOf (xs.take k)).2] 24 (0, 0))) (fun i _ => n - (intOf i).toNat)
  case atStart =>
    refine ⟨0, by omega, rfl, by repeat (first | exact Kept.refl _ | assumption | (refine Kept.alloc ?_ _) | (refine Kept.setCell ?_ (by first | omega | (simp; omega) | simp) _) | refine Kept.drew ?_ | refine Kept.drewN ?_ _ | (apply Kept.call; rotate_left; assumption)), ((Kept.refl _).alloc _).heap (heap_alloc_new w _), ?_⟩
    have := heap_alloc_new (w.alloc (.cells #[.int .i64 0, .int .i64 0] 24)) (.cells #[.int .i64 0, .int .i64 0] 24)
    rwa [World.size_alloc] at this
  case round =>
    obtain ⟨k, hk, rfl, kr, b0, b1⟩ := hrel
    have x0 : wr.cell? ⟨w.heap.size, 0, none⟩ = some (.int .i64 0) := by rw [Lib.cell_of_heap b0]; rfl
    have x1 : wr.cell? ⟨w.heap.size, 1, none⟩ = some (.int .i64 0) := by rw [Lib.cell_of_heap b0]; rfl
    have y0 : wr.cell? ⟨w.heap.size + 1, 0, none⟩ = some (.int .i64 (maxOf (xs.take k)).1) := by rw [Lib.cell_of_heap b1]; rfl
    have y1 : wr.cell? ⟨w.heap.size + 1, 1, none⟩ = some (.int .i64 (maxOf (xs.take k)).2) := by rw [Lib.cell_of_heap b1]; rfl
    have hz : w.heap.size + 1 < wr.heap.size := (Array.getElem?_eq_some_iff.1 b1).1
    have B0 := Lib.hid b0
    have B1 := Lib.hid b1
    clear b0 b1
    by_cases hlt : k < n
    · obtain ⟨b, off, rfl, hcc⟩ := HC.out (by omega)
      obtain ⟨c0, c1⟩ := hcc k hlt
      have c0 := kr.at_ c0
      have c1 := kr.at_ c1
      have hbl : b < w.heap.size := World.block_lt_of_cell? w _ (hcc k hlt).1
      clear hcc
      have hsn := maxOf_snoc xs k (by rw [HL.out]; exact hlt)
      have HSN := Lib.hid hsn
      clear hsn
      generalize xs[k]?.getD (0, 0) = x at *
      generalize maxOf (xs.take k) = m at *
      obtain ⟨m0, m1⟩ := m
      obtain ⟨x0', x1'⟩ := x
      simp only at *
      go_wp2_with fail
      refine wp_region_text keepsOne (fun wB => Kept w wB ∧ Kept wr wB ∧ wB.cell? ⟨w.heap.size + 1, 0, none⟩ = some (.int .i64 m0) ∧ wB.cell? ⟨w.heap.size + 1, 1, none⟩ = some (.int .i64 m1) ∧ wB.cell? ⟨b, off + k * 2, none⟩ = some (.int .i64 x0') ∧ wB.cell? ⟨b, off + k * 2 + 1, none⟩ = some (.int .i64 x1')) ?_ (by kernel_rfl) (by kernel_rfl) _ rfl ?_
      · exact ⟨by repeat (first | exact Kept.refl _ | assumption | (refine Kept.alloc ?_ _) | (refine Kept.setCell ?_ (by first | omega | (simp; omega) | simp) _) | refine Kept.drew ?_ | refine Kept.drewN ?_ _ | (apply Kept.call; rotate_left; assumption)), by repeat (first | exact Kept.refl _ | assumption | (refine Kept.alloc ?_ _) | (refine Kept.setCell ?_ (by first | omega | (simp; omega) | simp) _) | refine Kept.drew ?_ | refine Kept.drewN ?_ _ | (apply Kept.call; rotate_left; assumption)), by first | assumption | go_simp, by first | assumption | go_simp, by first | assumption | go_simp, by first | assumption | go_simp⟩
      rintro wB ⟨hkB, hkB1, sB1, sB2, sB3, sB4⟩
      repeat (first | (apply DW.det; (focus (intro wd hI; have hkd1 := hkB1.call hI; have td1 := hI.at_ sB1; have td2 := hI.at_ sB2; have td3 := hI.at_ sB3; have td4 := hI.at_ sB4; skip; go_wp2_with (first | (go_at_call 19; refine (rless_any _ _ _ _ _).mono ?_; rintro e w5 ⟨rfl, hb5⟩)); refine StepPost.mk _ rfl ⟨rfl, ?_⟩; repeat (first | exact Kept.refl _ | assumption | (refine Kept.alloc ?_ _) | (refine Kept.setCell ?_ (by first | omega | (simp; omega) | simp) _) | refine Kept.drew ?_ | refine Kept.drewN ?_ _ | (apply Kept.call; rotate_left; assumption)))); simp only [Act.put, List.setIfInBounds_toArray, List.set_cons_succ, List.set_cons_zero]) | (refine DW.loud (by kernel_rfl) ?_; intro wd hI; have hkd1 := hkB1.call hI; have td1 := hI.at_ sB1; have td2 := hI.at_ sB2; have td3 := hI.at_ sB3; have td4 := hI.at_ sB4; skip; go_wp2_with (first | (go_at_call 19; refine (rless_any _ _ _ _ _).mono ?_; rintro e w5 ⟨rfl, hb5⟩)); refine StepPost.loud _ rfl (by repeat (first | exact Kept.refl _ | assumption | (refine Kept.alloc ?_ _) | (refine Kept.setCell ?_ (by first | omega | (simp; omega) | simp) _) | refine Kept.drew ?_ | refine Kept.drewN ?_ _ | (apply Kept.call; rotate_left; assumption))) (fun hkL => ?_); have hkL := hI.call hkL; have hkB := hkB.call hkL; have hkB1 := hkB1.call hkL; have sB1 := hkL.at_ sB1; have sB2 := hkL.at_ sB2; have sB3 := hkL.at_ sB3; have sB4 := hkL.at_ sB4; simp only [Act.put, List.setIfInBounds_toArray, List.set_cons_succ, List.set_cons_zero]))
      refine DW.nil ?_
      intro wd hI
      have hkd := hkB.call hI
      have hkd1 := hkB1.call hI; have td1 := hI.at_ sB1; have td2 := hI.at_ sB2; have td3 := hI.at_ sB3; have td4 := hI.at_ sB4
      have D0 := hkd1.heap B0.out
      have D1 := hkd1.heap B1.out
      have f0 : wd.frozen? ⟨w.heap.size + 1, 0, none⟩ = false := Lib.frozen_of_heap D1 0
      have f1 : wd.frozen? ⟨w.heap.size + 1, 1, none⟩ = false := Lib.frozen_of_heap D1 1
      have HD0 := Lib.hid D0
      have HD1 := Lib.hid D1
      clear D0 D1
      rcases hless : lessB m0 m1 x0' x1' with _ | _
      · go_wp2_with fail
        have e1 : maxStep (m0, m1) (x0', x1') = (m0, m1) := by unfold maxStep; rw [if_neg]; simp [hless]
        rw [e1] at HSN
        go_roundw
        case rel => first | exact ⟨k + 1, by omega, by go_num, hkd, HD0.out, by rw [HSN.out]; exact HD1.out⟩ | ((repeat apply Exists.intro); exact ⟨⟨k + 1, by omega, by go_num, hkd, HD0.out, by rw [HSN.out]; exact HD1.out⟩, rfl⟩)
        case measure => simp [intOf]; omega
      · go_wp2_with fail
        have e1 : maxStep (m0, m1) (x0', x1') = (x0', x1') := by unfold maxStep; rw [if_pos]; exact hless
        rw [e1] at HSN
        go_roundw
        case rel => first | exact ⟨k + 1, by omega, by go_num, (hkd.setCell (by simp) _).setCell (by simp) _, by simp [World.setCell, Array.getElem?_modify, HD0.out], by rw [HSN.out]; simp [World.setCell, Array.getElem?_modify, HD1.out]⟩ | ((repeat apply Exists.intro); exact ⟨⟨k + 1, by omega, by go_num, (hkd.setCell (by simp) _).setCell (by simp) _, by simp [World.setCell, Array.getElem?_modify, HD0.out], by rw [HSN.out]; simp [World.setCell, Array.getElem?_modify, HD1.out]⟩, rfl⟩)
        case measure => simp [intOf]; omega
    · have hfin : Hid (maxOf (xs.take k) = maxOf xs) := by unfold Hid; rw [List.take_of_length_le (by rw [HL.out]; omega)]
      rw [hfin.out] at y0 y1
      obtain ⟨m, hm⟩ : ∃ m, maxOf xs = m := ⟨_, rfl⟩
      rw [hm] at y0 y1
      have HM := Lib.hid hm
      clear hm
      have f0 : wr.frozen? ⟨w.heap.size, 0, none⟩ = false := Lib.frozen_of_heap B0.out 0
      have f1 : wr.frozen? ⟨w.heap.size, 1, none⟩ = false := Lib.frozen_of_heap B0.out 1
      obtain ⟨m0, m1⟩ := m
      go_wp2_with fail
      have KE : Kept w ((wr.setCell ⟨w.heap.size, 0, none⟩ (.int .i64 m0)).setCell ⟨w.heap.size, 1, none⟩ (.int .i64 m1)) := (kr.setCell (by simp) _).setCell (by simp) _
      exact bodyPost_ret (v := .agg #[.int .i64 m0, .int .i64 m1]) (by simp [results, Try.results22, go_sem, x0, x1]) rfl ⟨by rw [HM.out], KE⟩
end Go.Proofs.Ytfiocebipckaaaa
