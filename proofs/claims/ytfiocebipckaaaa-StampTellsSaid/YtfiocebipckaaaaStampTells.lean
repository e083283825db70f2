/- The walk of the law StampTells: it returns true for all stamps, any site, any bytes. -/
import Derived.Test.YtfiocebipckaaaaStampT2
import Derived.Test.YtfiocebipckaaaaStampMaxW
set_option linter.unusedSimpArgs false
set_option linter.unusedVariables false
namespace Go.Proofs.Ytfiocebipckaaaa
open Go.RowKit

theorem srd_is {s : ByteArray} {n m : Nat} {en : Int} {ok : Bool} (h : SRd s.data.toList 0 n m en ok) : decide (0 < en) = ok := by
  rcases h with ⟨rfl, _, _, _, _, _, rfl⟩ | ⟨rfl, _, _, rfl, _⟩
  · have h1 := pair_len n m
    have h2 := enc_pos n
    simp; omega
  · rfl

set_option maxHeartbeats 8000000 in
set_option maxRecDepth 100000 in
theorem tells_core1 (A : Option Addr) (n0 c : Nat) (xs : List (Int × Int)) (k : Int) (s0 s : ByteArray) (w : World) (HS : Hid (StampsAt w A 6 xs)) (hnc : n0 ≤ c) (hnm : n0 ≤ 9223372036854775807) (hs : s0.size ≤ 9223372036854775807) (hsz : s.size ≤ 20) (h6 : 6 < n0) (h20 : 20 < s0.size) (hcs : s0.extract 0 20 = s) :
    Calls Try.prog 9 #[.slice A n0 c, .int .i64 k, .string s0] w fun e w' => e = .returned (.bool true) ∧ Kept w w' := by
  have d6 : decide ((6 : Int) < (n0 : Int)) = true := by simp; omega
  have d20 : decide ((20 : Int) < (s0.size : Int)) = true := by simp; omega
  go_enter Try.func9, Try.ntmps9
  go_wp2_with fail
  refine (awake_any _).mono ?_
  rintro e w1 ⟨rfl, k1⟩
  go_wp2_with fail
  go_loopw [8] (fun i wr => ∃ j : Nat, j ≤ 6 ∧ i = .int .i64 j ∧ Kept w wr) (fun i _ => 6 - (intOf i).toNat)
  case atStart => exact ⟨0, by omega, rfl, by repeat (first | exact Kept.refl _ | assumption | (refine Kept.alloc ?_ _) | (refine Kept.setCell ?_ (by first | omega | (simp; omega) | simp) _) | refine Kept.drew ?_ | refine Kept.drewN ?_ _ | (apply Kept.call; rotate_left; assumption))⟩
  case round =>
    obtain ⟨j, hj, rfl, kr⟩ := hrel
    by_cases hlt : j < 6
    · obtain ⟨b, off, HAb, hcc⟩ := HS.out.2.2 (by omega)
      obtain ⟨p0, p1⟩ := hcc 0 (by omega)
      obtain ⟨c0, c1⟩ := hcc j hlt
      have p0 := kr.at_ p0
      have p1 := kr.at_ p1
      have c0 := kr.at_ c0
      have c1 := kr.at_ c1
      clear hcc
      simp only [Nat.zero_mul, Nat.add_zero] at p0 p1
      subst HAb
      generalize xs[j]?.getD (0, 0) = x at *
      generalize xs[0]?.getD (0, 0) = y at *
      obtain ⟨m0, m1⟩ := y
      obtain ⟨x0', x1'⟩ := x
      simp only at *
      go_wp2_with fail
      refine (next_fn x0' x1' k _).mono ?_
      rintro e w2 ⟨rfl, k2⟩
      have K2 : Kept w w2 := kr.call k2
      have c0 := k2.at_ c0
      have c1 := k2.at_ c1
      have p0 := k2.at_ p0
      have p1 := k2.at_ p1
      have hz2 : b < w2.heap.size := World.block_lt_of_cell? w2 _ c0
      have hz2' := Nat.ne_of_lt hz2
      generalize hr0 : nxN x0' k = r0
      generalize hr1 : nxS x0' k = r1
      generalize hr2 : nxE x0' k = r2
      have HR : Hid (nxN x0' k = r0 ∧ nxS x0' k = r1 ∧ nxE x0' k = r2) := ⟨hr0, hr1, hr2⟩
      clear hr0 hr1 hr2
      have HX2 := Lib.hid (heap_alloc_new w2 (.cells #[.int .i64 r0, .int .i64 r1] 24))
      go_wp2_with fail
      refine (rnext_fn x0' x1' k _).mono ?_
      rintro e w3 ⟨rfl, k3⟩
      have K3 : Kept w w3 := (K2.alloc _).call k3
      have c0 := k3.at_ (((Kept.refl w2).alloc (.cells #[.int .i64 r0, .int .i64 r1] 24)).at_ c0)
      have c1 := k3.at_ (((Kept.refl w2).alloc (.cells #[.int .i64 r0, .int .i64 r1] 24)).at_ c1)
      have p0 := k3.at_ (((Kept.refl w2).alloc (.cells #[.int .i64 r0, .int .i64 r1] 24)).at_ p0)
      have p1 := k3.at_ (((Kept.refl w2).alloc (.cells #[.int .i64 r0, .int .i64 r1] 24)).at_ p1)
      have HX3 := Lib.hid (k3.heap HX2.out)
      have hz3 : w2.heap.size < w3.heap.size := (Array.getElem?_eq_some_iff.1 HX3.out).1
      have hz4 : b < w3.heap.size := by omega
      have a0 : w3.cell? ⟨w2.heap.size, 0, none⟩ = some (.int .i64 r0) := by rw [Lib.cell_of_heap HX3.out]; rfl
      have a1 : w3.cell? ⟨w2.heap.size, 1, none⟩ = some (.int .i64 r1) := by rw [Lib.cell_of_heap HX3.out]; rfl
      rw [HR.out.1, HR.out.2.1, HR.out.2.2]
      go_wp2_with fail
      have HY3 := Lib.hid (heap_alloc_new w3 (.cells #[.int .i64 r0, .int .i64 r1] 24))
      have b0 : (w3.alloc (.cells #[.int .i64 r0, .int .i64 r1] 24)).cell? ⟨w3.heap.size, 0, none⟩ = some (.int .i64 r0) := by rw [Lib.cell_of_heap HY3.out]; rfl
      have b1 : (w3.alloc (.cells #[.int .i64 r0, .int .i64 r1] 24)).cell? ⟨w3.heap.size, 1, none⟩ = some (.int .i64 r1) := by rw [Lib.cell_of_heap HY3.out]; rfl
      have EX : ∀ v, Kept w3 (w3.alloc v) := fun v => (Kept.refl w3).alloc v
      have HEX := Lib.hid EX
      have HK3 := Lib.hid K3
      clear EX
      refine wp_region_text keepsOne (fun wB => Kept w wB ∧ Kept w3 wB ∧ wB.cell? ⟨w2.heap.size, 0, none⟩ = some (.int .i64 r0) ∧ wB.cell? ⟨w2.heap.size, 1, none⟩ = some (.int .i64 r1) ∧ wB.cell? ⟨w3.heap.size, 0, none⟩ = some (.int .i64 r0) ∧ wB.cell? ⟨w3.heap.size, 1, none⟩ = some (.int .i64 r1) ∧ wB.cell? ⟨b, off + j * 2, none⟩ = some (.int .i64 x0') ∧ wB.cell? ⟨b, off + j * 2 + 1, none⟩ = some (.int .i64 x1') ∧ wB.cell? ⟨b, off, none⟩ = some (.int .i64 m0) ∧ wB.cell? ⟨b, off + 1, none⟩ = some (.int .i64 m1)) ?_ (by kernel_rfl) (by kernel_rfl) _ (by (try simp only [List.append_eq, List.cons_append, List.nil_append, List.toList_toArray]); exact rfl) ?_
      · exact ⟨by repeat (first | exact Kept.refl _ | assumption | (refine Kept.alloc ?_ _) | (refine Kept.setCell ?_ (by first | omega | (simp; omega) | simp) _) | refine Kept.drew ?_ | refine Kept.drewN ?_ _ | (apply Kept.call; rotate_left; assumption)), by repeat (first | exact Kept.refl _ | assumption | (refine Kept.alloc ?_ _) | (refine Kept.setCell ?_ (by first | omega | (simp; omega) | simp) _) | refine Kept.drew ?_ | refine Kept.drewN ?_ _ | (apply Kept.call; rotate_left; assumption)), by first | assumption | go_simp, by first | assumption | go_simp, by first | assumption | go_simp, by first | assumption | go_simp, by first | assumption | go_simp, by first | assumption | go_simp, by first | assumption | go_simp, by first | assumption | go_simp⟩
      rintro wB ⟨hkB, hkB1, sB1, sB2, sB3, sB4, sB5, sB6, sB7, sB8⟩
      repeat (first | (apply DW.det; (focus (intro wd hI; have hkd1 := hkB1.call hI; have td1 := hI.at_ sB1; have td2 := hI.at_ sB2; have td3 := hI.at_ sB3; have td4 := hI.at_ sB4; have td5 := hI.at_ sB5; have td6 := hI.at_ sB6; have td7 := hI.at_ sB7; have td8 := hI.at_ sB8; skip; go_wp2_with (first | (go_at_call 13; refine (check_any _ _ _).mono ?_; rintro e w5 ⟨rfl, hb5⟩) | (go_at_call 18; refine (rcheck_any _ _ _).mono ?_; rintro e w6 ⟨rfl, hb6⟩) | (go_at_call 12; refine (less_any _ _ _ _ _).mono ?_; rintro e w7 ⟨rfl, hb7⟩) | (go_at_call 19; refine (rless_any _ _ _ _ _).mono ?_; rintro e w8 ⟨rfl, hb8⟩) | (go_at_call 15; refine (bytes_fn _ _ _).mono ?_; rintro e w9 ⟨rfl, hb9⟩) | (go_at_call 20; refine (rbytes_fn _ _ _).mono ?_; rintro e w10 ⟨rfl, hb10⟩)); refine StepPost.mk _ rfl ⟨rfl, ?_⟩; repeat (first | exact Kept.refl _ | assumption | (refine Kept.alloc ?_ _) | (refine Kept.setCell ?_ (by first | omega | (simp; omega) | simp) _) | refine Kept.drew ?_ | refine Kept.drewN ?_ _ | (apply Kept.call; rotate_left; assumption)))); simp only [Act.put, List.setIfInBounds_toArray, List.set_cons_succ, List.set_cons_zero]) | (refine DW.loud (by kernel_rfl) ?_; intro wd hI; have hkd1 := hkB1.call hI; have td1 := hI.at_ sB1; have td2 := hI.at_ sB2; have td3 := hI.at_ sB3; have td4 := hI.at_ sB4; have td5 := hI.at_ sB5; have td6 := hI.at_ sB6; have td7 := hI.at_ sB7; have td8 := hI.at_ sB8; skip; go_wp2_with (first | (go_at_call 13; refine (check_any _ _ _).mono ?_; rintro e w5 ⟨rfl, hb5⟩) | (go_at_call 18; refine (rcheck_any _ _ _).mono ?_; rintro e w6 ⟨rfl, hb6⟩) | (go_at_call 12; refine (less_any _ _ _ _ _).mono ?_; rintro e w7 ⟨rfl, hb7⟩) | (go_at_call 19; refine (rless_any _ _ _ _ _).mono ?_; rintro e w8 ⟨rfl, hb8⟩) | (go_at_call 15; refine (bytes_fn _ _ _).mono ?_; rintro e w9 ⟨rfl, hb9⟩) | (go_at_call 20; refine (rbytes_fn _ _ _).mono ?_; rintro e w10 ⟨rfl, hb10⟩)); refine StepPost.loud _ rfl (by repeat (first | exact Kept.refl _ | assumption | (refine Kept.alloc ?_ _) | (refine Kept.setCell ?_ (by first | omega | (simp; omega) | simp) _) | refine Kept.drew ?_ | refine Kept.drewN ?_ _ | (apply Kept.call; rotate_left; assumption))) (fun hkL => ?_); have hkL := hI.call hkL; have hkB := hkB.call hkL; have hkB1 := hkB1.call hkL; have sB1 := hkL.at_ sB1; have sB2 := hkL.at_ sB2; have sB3 := hkL.at_ sB3; have sB4 := hkL.at_ sB4; have sB5 := hkL.at_ sB5; have sB6 := hkL.at_ sB6; have sB7 := hkL.at_ sB7; have sB8 := hkL.at_ sB8; simp only [Act.put, List.setIfInBounds_toArray, List.set_cons_succ, List.set_cons_zero]))
      refine DW.nil ?_
      intro wd hI
      have hkd := hkB.call hI
      have hkd1 := hkB1.call hI; have td1 := hI.at_ sB1; have td2 := hI.at_ sB2; have td3 := hI.at_ sB3; have td4 := hI.at_ sB4; have td5 := hI.at_ sB5; have td6 := hI.at_ sB6; have td7 := hI.at_ sB7; have td8 := hI.at_ sB8
      go_wp2_with fail
      go_roundw
      case rel => first | exact ⟨j + 1, by omega, by go_num, hkd⟩ | ((repeat apply Exists.intro); exact ⟨⟨j + 1, by omega, by go_num, hkd⟩, rfl⟩)
      case measure => simp [intOf]; omega
    · obtain rfl : j = 6 := by omega
      go_wp2_with fail
      refine (sread_rel s 0 _ (by omega)).mono ?_
      rintro e w2 ⟨n, m, en, ok, rfl, h1, k1⟩
      have K2 : Kept w w2 := kr.call k1
      have HX2 := Lib.hid (heap_alloc_new w2 (.cells #[.int .i64 n, .int .i64 m] 24))
      have H1 := Lib.hid h1
      clear h1
      go_wp2_with fail
      refine (rsread_rel s 0 _ (by omega)).mono ?_
      rintro e w3 ⟨n', m', en', ok', rfl, h2, k3⟩
      obtain ⟨rfl, rfl, rfl, rfl⟩ := H1.out.same h2
      clear h2
      have K3 : Kept w w3 := (K2.alloc _).call k3
      have HX3 := Lib.hid (k3.heap HX2.out)
      have hz3 : w2.heap.size < w3.heap.size := (Array.getElem?_eq_some_iff.1 HX3.out).1
      have HY3 := Lib.hid (heap_alloc_new w3 (.cells #[.int .i64 n, .int .i64 m, .int .i64 en] 40))
      have hsr := srd_is H1.out
      go_wp2_with fail
      refine (max_any _ _ _ xs _ (HS.out.keep (by repeat (first | exact Kept.refl _ | assumption | (refine Kept.alloc ?_ _) | (refine Kept.setCell ?_ (by first | omega | (simp; omega) | simp) _) | refine Kept.drew ?_ | refine Kept.drewN ?_ _ | (apply Kept.call; rotate_left; assumption))))).mono ?_
      rintro e w4 ⟨rfl, k4⟩
      have K4 : Kept w w4 := (K3.alloc _).call k4
      have HX4 := Lib.hid (k4.heap (((Kept.refl w3).alloc (.cells #[.int .i64 n, .int .i64 m, .int .i64 en] 40)).heap HX3.out))
      have HY4 := Lib.hid (k4.heap HY3.out)
      go_wp2_with fail
      refine (rmax_any _ _ _ xs _ (HS.out.keep (by repeat (first | exact Kept.refl _ | assumption | (refine Kept.alloc ?_ _) | (refine Kept.setCell ?_ (by first | omega | (simp; omega) | simp) _) | refine Kept.drew ?_ | refine Kept.drewN ?_ _ | (apply Kept.call; rotate_left; assumption))))).mono ?_
      rintro e w5 ⟨rfl, k5⟩
      have K5 : Kept w w5 := K4.call k5
      have HX5 := Lib.hid (k5.heap HX4.out)
      have HY5 := Lib.hid (k5.heap HY4.out)
      have g0 : w5.cell? ⟨w2.heap.size, 0, none⟩ = some (.int .i64 n) := by rw [Lib.cell_of_heap HX5.out]; rfl
      have g1 : w5.cell? ⟨w2.heap.size, 1, none⟩ = some (.int .i64 m) := by rw [Lib.cell_of_heap HX5.out]; rfl
      have g2 : w5.cell? ⟨w3.heap.size, 0, none⟩ = some (.int .i64 n) := by rw [Lib.cell_of_heap HY5.out]; rfl
      have g3 : w5.cell? ⟨w3.heap.size, 1, none⟩ = some (.int .i64 m) := by rw [Lib.cell_of_heap HY5.out]; rfl
      have g4 : w5.cell? ⟨w3.heap.size, 2, none⟩ = some (.int .i64 en) := by rw [Lib.cell_of_heap HY5.out]; rfl
      generalize maxOf xs = mm at *
      obtain ⟨q0, q1⟩ := mm
      simp only at *
      go_wp2_with fail
      go_ret
      exact ⟨rfl, K5⟩

set_option maxHeartbeats 8000000 in
set_option maxRecDepth 100000 in
theorem tells_core2 (A : Option Addr) (n0 c : Nat) (xs : List (Int × Int)) (k : Int) (s0 s : ByteArray) (w : World) (HS : Hid (StampsAt w A 6 xs)) (hnc : n0 ≤ c) (hnm : n0 ≤ 9223372036854775807) (hs : s0.size ≤ 9223372036854775807) (hsz : s0.size ≤ 20) (h6 : 6 < n0) (h20 : s0.size ≤ 20) :
    Calls Try.prog 9 #[.slice A n0 c, .int .i64 k, .string s0] w fun e w' => e = .returned (.bool true) ∧ Kept w w' := by
  have d6 : decide ((6 : Int) < (n0 : Int)) = true := by simp; omega
  have d20 : decide ((20 : Int) < (s0.size : Int)) = false := by simp; omega
  go_enter Try.func9, Try.ntmps9
  go_wp2_with fail
  refine (awake_any _).mono ?_
  rintro e w1 ⟨rfl, k1⟩
  go_wp2_with fail
  go_loopw [8] (fun i wr => ∃ j : Nat, j ≤ 6 ∧ i = .int .i64 j ∧ Kept w wr) (fun i _ => 6 - (intOf i).toNat)
  case atStart => exact ⟨0, by omega, rfl, by repeat (first | exact Kept.refl _ | assumption | (refine Kept.alloc ?_ _) | (refine Kept.setCell ?_ (by first | omega | (simp; omega) | simp) _) | refine Kept.drew ?_ | refine Kept.drewN ?_ _ | (apply Kept.call; rotate_left; assumption))⟩
  case round =>
    obtain ⟨j, hj, rfl, kr⟩ := hrel
    by_cases hlt : j < 6
    · obtain ⟨b, off, HAb, hcc⟩ := HS.out.2.2 (by omega)
      obtain ⟨p0, p1⟩ := hcc 0 (by omega)
      obtain ⟨c0, c1⟩ := hcc j hlt
      have p0 := kr.at_ p0
      have p1 := kr.at_ p1
      have c0 := kr.at_ c0
      have c1 := kr.at_ c1
      clear hcc
      simp only [Nat.zero_mul, Nat.add_zero] at p0 p1
      subst HAb
      generalize xs[j]?.getD (0, 0) = x at *
      generalize xs[0]?.getD (0, 0) = y at *
      obtain ⟨m0, m1⟩ := y
      obtain ⟨x0', x1'⟩ := x
      simp only at *
      go_wp2_with fail
      refine (next_fn x0' x1' k _).mono ?_
      rintro e w2 ⟨rfl, k2⟩
      have K2 : Kept w w2 := kr.call k2
      have c0 := k2.at_ c0
      have c1 := k2.at_ c1
      have p0 := k2.at_ p0
      have p1 := k2.at_ p1
      have hz2 : b < w2.heap.size := World.block_lt_of_cell? w2 _ c0
      have hz2' := Nat.ne_of_lt hz2
      generalize hr0 : nxN x0' k = r0
      generalize hr1 : nxS x0' k = r1
      generalize hr2 : nxE x0' k = r2
      have HR : Hid (nxN x0' k = r0 ∧ nxS x0' k = r1 ∧ nxE x0' k = r2) := ⟨hr0, hr1, hr2⟩
      clear hr0 hr1 hr2
      have HX2 := Lib.hid (heap_alloc_new w2 (.cells #[.int .i64 r0, .int .i64 r1] 24))
      go_wp2_with fail
      refine (rnext_fn x0' x1' k _).mono ?_
      rintro e w3 ⟨rfl, k3⟩
      have K3 : Kept w w3 := (K2.alloc _).call k3
      have c0 := k3.at_ (((Kept.refl w2).alloc (.cells #[.int .i64 r0, .int .i64 r1] 24)).at_ c0)
      have c1 := k3.at_ (((Kept.refl w2).alloc (.cells #[.int .i64 r0, .int .i64 r1] 24)).at_ c1)
      have p0 := k3.at_ (((Kept.refl w2).alloc (.cells #[.int .i64 r0, .int .i64 r1] 24)).at_ p0)
      have p1 := k3.at_ (((Kept.refl w2).alloc (.cells #[.int .i64 r0, .int .i64 r1] 24)).at_ p1)
      have HX3 := Lib.hid (k3.heap HX2.out)
      have hz3 : w2.heap.size < w3.heap.size := (Array.getElem?_eq_some_iff.1 HX3.out).1
      have hz4 : b < w3.heap.size := by omega
      have a0 : w3.cell? ⟨w2.heap.size, 0, none⟩ = some (.int .i64 r0) := by rw [Lib.cell_of_heap HX3.out]; rfl
      have a1 : w3.cell? ⟨w2.heap.size, 1, none⟩ = some (.int .i64 r1) := by rw [Lib.cell_of_heap HX3.out]; rfl
      rw [HR.out.1, HR.out.2.1, HR.out.2.2]
      go_wp2_with fail
      have HY3 := Lib.hid (heap_alloc_new w3 (.cells #[.int .i64 r0, .int .i64 r1] 24))
      have b0 : (w3.alloc (.cells #[.int .i64 r0, .int .i64 r1] 24)).cell? ⟨w3.heap.size, 0, none⟩ = some (.int .i64 r0) := by rw [Lib.cell_of_heap HY3.out]; rfl
      have b1 : (w3.alloc (.cells #[.int .i64 r0, .int .i64 r1] 24)).cell? ⟨w3.heap.size, 1, none⟩ = some (.int .i64 r1) := by rw [Lib.cell_of_heap HY3.out]; rfl
      have EX : ∀ v, Kept w3 (w3.alloc v) := fun v => (Kept.refl w3).alloc v
      have HEX := Lib.hid EX
      have HK3 := Lib.hid K3
      clear EX
      refine wp_region_text keepsOne (fun wB => Kept w wB ∧ Kept w3 wB ∧ wB.cell? ⟨w2.heap.size, 0, none⟩ = some (.int .i64 r0) ∧ wB.cell? ⟨w2.heap.size, 1, none⟩ = some (.int .i64 r1) ∧ wB.cell? ⟨w3.heap.size, 0, none⟩ = some (.int .i64 r0) ∧ wB.cell? ⟨w3.heap.size, 1, none⟩ = some (.int .i64 r1) ∧ wB.cell? ⟨b, off + j * 2, none⟩ = some (.int .i64 x0') ∧ wB.cell? ⟨b, off + j * 2 + 1, none⟩ = some (.int .i64 x1') ∧ wB.cell? ⟨b, off, none⟩ = some (.int .i64 m0) ∧ wB.cell? ⟨b, off + 1, none⟩ = some (.int .i64 m1)) ?_ (by kernel_rfl) (by kernel_rfl) _ (by (try simp only [List.append_eq, List.cons_append, List.nil_append, List.toList_toArray]); exact rfl) ?_
      · exact ⟨by repeat (first | exact Kept.refl _ | assumption | (refine Kept.alloc ?_ _) | (refine Kept.setCell ?_ (by first | omega | (simp; omega) | simp) _) | refine Kept.drew ?_ | refine Kept.drewN ?_ _ | (apply Kept.call; rotate_left; assumption)), by repeat (first | exact Kept.refl _ | assumption | (refine Kept.alloc ?_ _) | (refine Kept.setCell ?_ (by first | omega | (simp; omega) | simp) _) | refine Kept.drew ?_ | refine Kept.drewN ?_ _ | (apply Kept.call; rotate_left; assumption)), by first | assumption | go_simp, by first | assumption | go_simp, by first | assumption | go_simp, by first | assumption | go_simp, by first | assumption | go_simp, by first | assumption | go_simp, by first | assumption | go_simp, by first | assumption | go_simp⟩
      rintro wB ⟨hkB, hkB1, sB1, sB2, sB3, sB4, sB5, sB6, sB7, sB8⟩
      repeat (first | (apply DW.det; (focus (intro wd hI; have hkd1 := hkB1.call hI; have td1 := hI.at_ sB1; have td2 := hI.at_ sB2; have td3 := hI.at_ sB3; have td4 := hI.at_ sB4; have td5 := hI.at_ sB5; have td6 := hI.at_ sB6; have td7 := hI.at_ sB7; have td8 := hI.at_ sB8; skip; go_wp2_with (first | (go_at_call 13; refine (check_any _ _ _).mono ?_; rintro e w5 ⟨rfl, hb5⟩) | (go_at_call 18; refine (rcheck_any _ _ _).mono ?_; rintro e w6 ⟨rfl, hb6⟩) | (go_at_call 12; refine (less_any _ _ _ _ _).mono ?_; rintro e w7 ⟨rfl, hb7⟩) | (go_at_call 19; refine (rless_any _ _ _ _ _).mono ?_; rintro e w8 ⟨rfl, hb8⟩) | (go_at_call 15; refine (bytes_fn _ _ _).mono ?_; rintro e w9 ⟨rfl, hb9⟩) | (go_at_call 20; refine (rbytes_fn _ _ _).mono ?_; rintro e w10 ⟨rfl, hb10⟩)); refine StepPost.mk _ rfl ⟨rfl, ?_⟩; repeat (first | exact Kept.refl _ | assumption | (refine Kept.alloc ?_ _) | (refine Kept.setCell ?_ (by first | omega | (simp; omega) | simp) _) | refine Kept.drew ?_ | refine Kept.drewN ?_ _ | (apply Kept.call; rotate_left; assumption)))); simp only [Act.put, List.setIfInBounds_toArray, List.set_cons_succ, List.set_cons_zero]) | (refine DW.loud (by kernel_rfl) ?_; intro wd hI; have hkd1 := hkB1.call hI; have td1 := hI.at_ sB1; have td2 := hI.at_ sB2; have td3 := hI.at_ sB3; have td4 := hI.at_ sB4; have td5 := hI.at_ sB5; have td6 := hI.at_ sB6; have td7 := hI.at_ sB7; have td8 := hI.at_ sB8; skip; go_wp2_with (first | (go_at_call 13; refine (check_any _ _ _).mono ?_; rintro e w5 ⟨rfl, hb5⟩) | (go_at_call 18; refine (rcheck_any _ _ _).mono ?_; rintro e w6 ⟨rfl, hb6⟩) | (go_at_call 12; refine (less_any _ _ _ _ _).mono ?_; rintro e w7 ⟨rfl, hb7⟩) | (go_at_call 19; refine (rless_any _ _ _ _ _).mono ?_; rintro e w8 ⟨rfl, hb8⟩) | (go_at_call 15; refine (bytes_fn _ _ _).mono ?_; rintro e w9 ⟨rfl, hb9⟩) | (go_at_call 20; refine (rbytes_fn _ _ _).mono ?_; rintro e w10 ⟨rfl, hb10⟩)); refine StepPost.loud _ rfl (by repeat (first | exact Kept.refl _ | assumption | (refine Kept.alloc ?_ _) | (refine Kept.setCell ?_ (by first | omega | (simp; omega) | simp) _) | refine Kept.drew ?_ | refine Kept.drewN ?_ _ | (apply Kept.call; rotate_left; assumption))) (fun hkL => ?_); have hkL := hI.call hkL; have hkB := hkB.call hkL; have hkB1 := hkB1.call hkL; have sB1 := hkL.at_ sB1; have sB2 := hkL.at_ sB2; have sB3 := hkL.at_ sB3; have sB4 := hkL.at_ sB4; have sB5 := hkL.at_ sB5; have sB6 := hkL.at_ sB6; have sB7 := hkL.at_ sB7; have sB8 := hkL.at_ sB8; simp only [Act.put, List.setIfInBounds_toArray, List.set_cons_succ, List.set_cons_zero]))
      refine DW.nil ?_
      intro wd hI
      have hkd := hkB.call hI
      have hkd1 := hkB1.call hI; have td1 := hI.at_ sB1; have td2 := hI.at_ sB2; have td3 := hI.at_ sB3; have td4 := hI.at_ sB4; have td5 := hI.at_ sB5; have td6 := hI.at_ sB6; have td7 := hI.at_ sB7; have td8 := hI.at_ sB8
      go_wp2_with fail
      go_roundw
      case rel => first | exact ⟨j + 1, by omega, by go_num, hkd⟩ | ((repeat apply Exists.intro); exact ⟨⟨j + 1, by omega, by go_num, hkd⟩, rfl⟩)
      case measure => simp [intOf]; omega
    · obtain rfl : j = 6 := by omega
      go_wp2_with fail
      refine (sread_rel s0 0 _ (by omega)).mono ?_
      rintro e w2 ⟨n, m, en, ok, rfl, h1, k1⟩
      have K2 : Kept w w2 := kr.call k1
      have HX2 := Lib.hid (heap_alloc_new w2 (.cells #[.int .i64 n, .int .i64 m] 24))
      have H1 := Lib.hid h1
      clear h1
      go_wp2_with fail
      refine (rsread_rel s0 0 _ (by omega)).mono ?_
      rintro e w3 ⟨n', m', en', ok', rfl, h2, k3⟩
      obtain ⟨rfl, rfl, rfl, rfl⟩ := H1.out.same h2
      clear h2
      have K3 : Kept w w3 := (K2.alloc _).call k3
      have HX3 := Lib.hid (k3.heap HX2.out)
      have hz3 : w2.heap.size < w3.heap.size := (Array.getElem?_eq_some_iff.1 HX3.out).1
      have HY3 := Lib.hid (heap_alloc_new w3 (.cells #[.int .i64 n, .int .i64 m, .int .i64 en] 40))
      have hsr := srd_is H1.out
      go_wp2_with fail
      refine (max_any _ _ _ xs _ (HS.out.keep (by repeat (first | exact Kept.refl _ | assumption | (refine Kept.alloc ?_ _) | (refine Kept.setCell ?_ (by first | omega | (simp; omega) | simp) _) | refine Kept.drew ?_ | refine Kept.drewN ?_ _ | (apply Kept.call; rotate_left; assumption))))).mono ?_
      rintro e w4 ⟨rfl, k4⟩
      have K4 : Kept w w4 := (K3.alloc _).call k4
      have HX4 := Lib.hid (k4.heap (((Kept.refl w3).alloc (.cells #[.int .i64 n, .int .i64 m, .int .i64 en] 40)).heap HX3.out))
      have HY4 := Lib.hid (k4.heap HY3.out)
      go_wp2_with fail
      refine (rmax_any _ _ _ xs _ (HS.out.keep (by repeat (first | exact Kept.refl _ | assumption | (refine Kept.alloc ?_ _) | (refine Kept.setCell ?_ (by first | omega | (simp; omega) | simp) _) | refine Kept.drew ?_ | refine Kept.drewN ?_ _ | (apply Kept.call; rotate_left; assumption))))).mono ?_
      rintro e w5 ⟨rfl, k5⟩
      have K5 : Kept w w5 := K4.call k5
      have HX5 := Lib.hid (k5.heap HX4.out)
      have HY5 := Lib.hid (k5.heap HY4.out)
      have g0 : w5.cell? ⟨w2.heap.size, 0, none⟩ = some (.int .i64 n) := by rw [Lib.cell_of_heap HX5.out]; rfl
      have g1 : w5.cell? ⟨w2.heap.size, 1, none⟩ = some (.int .i64 m) := by rw [Lib.cell_of_heap HX5.out]; rfl
      have g2 : w5.cell? ⟨w3.heap.size, 0, none⟩ = some (.int .i64 n) := by rw [Lib.cell_of_heap HY5.out]; rfl
      have g3 : w5.cell? ⟨w3.heap.size, 1, none⟩ = some (.int .i64 m) := by rw [Lib.cell_of_heap HY5.out]; rfl
      have g4 : w5.cell? ⟨w3.heap.size, 2, none⟩ = some (.int .i64 en) := by rw [Lib.cell_of_heap HY5.out]; rfl
      generalize maxOf xs = mm at *
      obtain ⟨q0, q1⟩ := mm
      simp only at *
      go_wp2_with fail
      go_ret
      exact ⟨rfl, K5⟩

set_option maxHeartbeats 8000000 in
set_option maxRecDepth 100000 in
theorem tells_core3 (A : Option Addr) (n0 c : Nat) (xs : List (Int × Int)) (k : Int) (s0 s : ByteArray) (w : World) (HS : Hid (StampsAt w A n0 xs)) (hnc : n0 ≤ c) (hnm : n0 ≤ 9223372036854775807) (hs : s0.size ≤ 9223372036854775807) (hsz : s.size ≤ 20) (h6 : n0 ≤ 6) (h20 : 20 < s0.size) (hcs : s0.extract 0 20 = s) :
    Calls Try.prog 9 #[.slice A n0 c, .int .i64 k, .string s0] w fun e w' => e = .returned (.bool true) ∧ Kept w w' := by
  have d6 : decide ((6 : Int) < (n0 : Int)) = false := by simp; omega
  have d20 : decide ((20 : Int) < (s0.size : Int)) = true := by simp; omega
  go_enter Try.func9, Try.ntmps9
  go_wp2_with fail
  refine (awake_any _).mono ?_
  rintro e w1 ⟨rfl, k1⟩
  go_wp2_with fail
  go_loopw [8] (fun i wr => ∃ j : Nat, j ≤ n0 ∧ i = .int .i64 j ∧ Kept w wr) (fun i _ => n0 - (intOf i).toNat)
  case atStart => exact ⟨0, by omega, rfl, by repeat (first | exact Kept.refl _ | assumption | (refine Kept.alloc ?_ _) | (refine Kept.setCell ?_ (by first | omega | (simp; omega) | simp) _) | refine Kept.drew ?_ | refine Kept.drewN ?_ _ | (apply Kept.call; rotate_left; assumption))⟩
  case round =>
    obtain ⟨j, hj, rfl, kr⟩ := hrel
    by_cases hlt : j < n0
    · obtain ⟨b, off, HAb, hcc⟩ := HS.out.2.2 (by omega)
      obtain ⟨p0, p1⟩ := hcc 0 (by omega)
      obtain ⟨c0, c1⟩ := hcc j hlt
      have p0 := kr.at_ p0
      have p1 := kr.at_ p1
      have c0 := kr.at_ c0
      have c1 := kr.at_ c1
      clear hcc
      simp only [Nat.zero_mul, Nat.add_zero] at p0 p1
      subst HAb
      generalize xs[j]?.getD (0, 0) = x at *
      generalize xs[0]?.getD (0, 0) = y at *
      obtain ⟨m0, m1⟩ := y
      obtain ⟨x0', x1'⟩ := x
      simp only at *
      go_wp2_with fail
      refine (next_fn x0' x1' k _).mono ?_
      rintro e w2 ⟨rfl, k2⟩
      have K2 : Kept w w2 := kr.call k2
      have c0 := k2.at_ c0
      have c1 := k2.at_ c1
      have p0 := k2.at_ p0
      have p1 := k2.at_ p1
      have hz2 : b < w2.heap.size := World.block_lt_of_cell? w2 _ c0
      have hz2' := Nat.ne_of_lt hz2
      generalize hr0 : nxN x0' k = r0
      generalize hr1 : nxS x0' k = r1
      generalize hr2 : nxE x0' k = r2
      have HR : Hid (nxN x0' k = r0 ∧ nxS x0' k = r1 ∧ nxE x0' k = r2) := ⟨hr0, hr1, hr2⟩
      clear hr0 hr1 hr2
      have HX2 := Lib.hid (heap_alloc_new w2 (.cells #[.int .i64 r0, .int .i64 r1] 24))
      go_wp2_with fail
      refine (rnext_fn x0' x1' k _).mono ?_
      rintro e w3 ⟨rfl, k3⟩
      have K3 : Kept w w3 := (K2.alloc _).call k3
      have c0 := k3.at_ (((Kept.refl w2).alloc (.cells #[.int .i64 r0, .int .i64 r1] 24)).at_ c0)
      have c1 := k3.at_ (((Kept.refl w2).alloc (.cells #[.int .i64 r0, .int .i64 r1] 24)).at_ c1)
      have p0 := k3.at_ (((Kept.refl w2).alloc (.cells #[.int .i64 r0, .int .i64 r1] 24)).at_ p0)
      have p1 := k3.at_ (((Kept.refl w2).alloc (.cells #[.int .i64 r0, .int .i64 r1] 24)).at_ p1)
      have HX3 := Lib.hid (k3.heap HX2.out)
      have hz3 : w2.heap.size < w3.heap.size := (Array.getElem?_eq_some_iff.1 HX3.out).1
      have hz4 : b < w3.heap.size := by omega
      have a0 : w3.cell? ⟨w2.heap.size, 0, none⟩ = some (.int .i64 r0) := by rw [Lib.cell_of_heap HX3.out]; rfl
      have a1 : w3.cell? ⟨w2.heap.size, 1, none⟩ = some (.int .i64 r1) := by rw [Lib.cell_of_heap HX3.out]; rfl
      rw [HR.out.1, HR.out.2.1, HR.out.2.2]
      go_wp2_with fail
      have HY3 := Lib.hid (heap_alloc_new w3 (.cells #[.int .i64 r0, .int .i64 r1] 24))
      have b0 : (w3.alloc (.cells #[.int .i64 r0, .int .i64 r1] 24)).cell? ⟨w3.heap.size, 0, none⟩ = some (.int .i64 r0) := by rw [Lib.cell_of_heap HY3.out]; rfl
      have b1 : (w3.alloc (.cells #[.int .i64 r0, .int .i64 r1] 24)).cell? ⟨w3.heap.size, 1, none⟩ = some (.int .i64 r1) := by rw [Lib.cell_of_heap HY3.out]; rfl
      have EX : ∀ v, Kept w3 (w3.alloc v) := fun v => (Kept.refl w3).alloc v
      have HEX := Lib.hid EX
      have HK3 := Lib.hid K3
      clear EX
      refine wp_region_text keepsOne (fun wB => Kept w wB ∧ Kept w3 wB ∧ wB.cell? ⟨w2.heap.size, 0, none⟩ = some (.int .i64 r0) ∧ wB.cell? ⟨w2.heap.size, 1, none⟩ = some (.int .i64 r1) ∧ wB.cell? ⟨w3.heap.size, 0, none⟩ = some (.int .i64 r0) ∧ wB.cell? ⟨w3.heap.size, 1, none⟩ = some (.int .i64 r1) ∧ wB.cell? ⟨b, off + j * 2, none⟩ = some (.int .i64 x0') ∧ wB.cell? ⟨b, off + j * 2 + 1, none⟩ = some (.int .i64 x1') ∧ wB.cell? ⟨b, off, none⟩ = some (.int .i64 m0) ∧ wB.cell? ⟨b, off + 1, none⟩ = some (.int .i64 m1)) ?_ (by kernel_rfl) (by kernel_rfl) _ (by (try simp only [List.append_eq, List.cons_append, List.nil_append, List.toList_toArray]); exact rfl) ?_
      · exact ⟨by repeat (first | exact Kept.refl _ | assumption | (refine Kept.alloc ?_ _) | (refine Kept.setCell ?_ (by first | omega | (simp; omega) | simp) _) | refine Kept.drew ?_ | refine Kept.drewN ?_ _ | (apply Kept.call; rotate_left; assumption)), by repeat (first | exact Kept.refl _ | assumption | (refine Kept.alloc ?_ _) | (refine Kept.setCell ?_ (by first | omega | (simp; omega) | simp) _) | refine Kept.drew ?_ | refine Kept.drewN ?_ _ | (apply Kept.call; rotate_left; assumption)), by first | assumption | go_simp, by first | assumption | go_simp, by first | assumption | go_simp, by first | assumption | go_simp, by first | assumption | go_simp, by first | assumption | go_simp, by first | assumption | go_simp, by first | assumption | go_simp⟩
      rintro wB ⟨hkB, hkB1, sB1, sB2, sB3, sB4, sB5, sB6, sB7, sB8⟩
      repeat (first | (apply DW.det; (focus (intro wd hI; have hkd1 := hkB1.call hI; have td1 := hI.at_ sB1; have td2 := hI.at_ sB2; have td3 := hI.at_ sB3; have td4 := hI.at_ sB4; have td5 := hI.at_ sB5; have td6 := hI.at_ sB6; have td7 := hI.at_ sB7; have td8 := hI.at_ sB8; skip; go_wp2_with (first | (go_at_call 13; refine (check_any _ _ _).mono ?_; rintro e w5 ⟨rfl, hb5⟩) | (go_at_call 18; refine (rcheck_any _ _ _).mono ?_; rintro e w6 ⟨rfl, hb6⟩) | (go_at_call 12; refine (less_any _ _ _ _ _).mono ?_; rintro e w7 ⟨rfl, hb7⟩) | (go_at_call 19; refine (rless_any _ _ _ _ _).mono ?_; rintro e w8 ⟨rfl, hb8⟩) | (go_at_call 15; refine (bytes_fn _ _ _).mono ?_; rintro e w9 ⟨rfl, hb9⟩) | (go_at_call 20; refine (rbytes_fn _ _ _).mono ?_; rintro e w10 ⟨rfl, hb10⟩)); refine StepPost.mk _ rfl ⟨rfl, ?_⟩; repeat (first | exact Kept.refl _ | assumption | (refine Kept.alloc ?_ _) | (refine Kept.setCell ?_ (by first | omega | (simp; omega) | simp) _) | refine Kept.drew ?_ | refine Kept.drewN ?_ _ | (apply Kept.call; rotate_left; assumption)))); simp only [Act.put, List.setIfInBounds_toArray, List.set_cons_succ, List.set_cons_zero]) | (refine DW.loud (by kernel_rfl) ?_; intro wd hI; have hkd1 := hkB1.call hI; have td1 := hI.at_ sB1; have td2 := hI.at_ sB2; have td3 := hI.at_ sB3; have td4 := hI.at_ sB4; have td5 := hI.at_ sB5; have td6 := hI.at_ sB6; have td7 := hI.at_ sB7; have td8 := hI.at_ sB8; skip; go_wp2_with (first | (go_at_call 13; refine (check_any _ _ _).mono ?_; rintro e w5 ⟨rfl, hb5⟩) | (go_at_call 18; refine (rcheck_any _ _ _).mono ?_; rintro e w6 ⟨rfl, hb6⟩) | (go_at_call 12; refine (less_any _ _ _ _ _).mono ?_; rintro e w7 ⟨rfl, hb7⟩) | (go_at_call 19; refine (rless_any _ _ _ _ _).mono ?_; rintro e w8 ⟨rfl, hb8⟩) | (go_at_call 15; refine (bytes_fn _ _ _).mono ?_; rintro e w9 ⟨rfl, hb9⟩) | (go_at_call 20; refine (rbytes_fn _ _ _).mono ?_; rintro e w10 ⟨rfl, hb10⟩)); refine StepPost.loud _ rfl (by repeat (first | exact Kept.refl _ | assumption | (refine Kept.alloc ?_ _) | (refine Kept.setCell ?_ (by first | omega | (simp; omega) | simp) _) | refine Kept.drew ?_ | refine Kept.drewN ?_ _ | (apply Kept.call; rotate_left; assumption))) (fun hkL => ?_); have hkL := hI.call hkL; have hkB := hkB.call hkL; have hkB1 := hkB1.call hkL; have sB1 := hkL.at_ sB1; have sB2 := hkL.at_ sB2; have sB3 := hkL.at_ sB3; have sB4 := hkL.at_ sB4; have sB5 := hkL.at_ sB5; have sB6 := hkL.at_ sB6; have sB7 := hkL.at_ sB7; have sB8 := hkL.at_ sB8; simp only [Act.put, List.setIfInBounds_toArray, List.set_cons_succ, List.set_cons_zero]))
      refine DW.nil ?_
      intro wd hI
      have hkd := hkB.call hI
      have hkd1 := hkB1.call hI; have td1 := hI.at_ sB1; have td2 := hI.at_ sB2; have td3 := hI.at_ sB3; have td4 := hI.at_ sB4; have td5 := hI.at_ sB5; have td6 := hI.at_ sB6; have td7 := hI.at_ sB7; have td8 := hI.at_ sB8
      go_wp2_with fail
      go_roundw
      case rel => first | exact ⟨j + 1, by omega, by go_num, hkd⟩ | ((repeat apply Exists.intro); exact ⟨⟨j + 1, by omega, by go_num, hkd⟩, rfl⟩)
      case measure => simp [intOf]; omega
    · obtain rfl : j = n0 := by omega
      go_wp2_with fail
      refine (sread_rel s 0 _ (by omega)).mono ?_
      rintro e w2 ⟨n, m, en, ok, rfl, h1, k1⟩
      have K2 : Kept w w2 := kr.call k1
      have HX2 := Lib.hid (heap_alloc_new w2 (.cells #[.int .i64 n, .int .i64 m] 24))
      have H1 := Lib.hid h1
      clear h1
      go_wp2_with fail
      refine (rsread_rel s 0 _ (by omega)).mono ?_
      rintro e w3 ⟨n', m', en', ok', rfl, h2, k3⟩
      obtain ⟨rfl, rfl, rfl, rfl⟩ := H1.out.same h2
      clear h2
      have K3 : Kept w w3 := (K2.alloc _).call k3
      have HX3 := Lib.hid (k3.heap HX2.out)
      have hz3 : w2.heap.size < w3.heap.size := (Array.getElem?_eq_some_iff.1 HX3.out).1
      have HY3 := Lib.hid (heap_alloc_new w3 (.cells #[.int .i64 n, .int .i64 m, .int .i64 en] 40))
      have hsr := srd_is H1.out
      go_wp2_with fail
      refine (max_any _ _ _ xs _ (HS.out.keep (by repeat (first | exact Kept.refl _ | assumption | (refine Kept.alloc ?_ _) | (refine Kept.setCell ?_ (by first | omega | (simp; omega) | simp) _) | refine Kept.drew ?_ | refine Kept.drewN ?_ _ | (apply Kept.call; rotate_left; assumption))))).mono ?_
      rintro e w4 ⟨rfl, k4⟩
      have K4 : Kept w w4 := (K3.alloc _).call k4
      have HX4 := Lib.hid (k4.heap (((Kept.refl w3).alloc (.cells #[.int .i64 n, .int .i64 m, .int .i64 en] 40)).heap HX3.out))
      have HY4 := Lib.hid (k4.heap HY3.out)
      go_wp2_with fail
      refine (rmax_any _ _ _ xs _ (HS.out.keep (by repeat (first | exact Kept.refl _ | assumption | (refine Kept.alloc ?_ _) | (refine Kept.setCell ?_ (by first | omega | (simp; omega) | simp) _) | refine Kept.drew ?_ | refine Kept.drewN ?_ _ | (apply Kept.call; rotate_left; assumption))))).mono ?_
      rintro e w5 ⟨rfl, k5⟩
      have K5 : Kept w w5 := K4.call k5
      have HX5 := Lib.hid (k5.heap HX4.out)
      have HY5 := Lib.hid (k5.heap HY4.out)
      have g0 : w5.cell? ⟨w2.heap.size, 0, none⟩ = some (.int .i64 n) := by rw [Lib.cell_of_heap HX5.out]; rfl
      have g1 : w5.cell? ⟨w2.heap.size, 1, none⟩ = some (.int .i64 m) := by rw [Lib.cell_of_heap HX5.out]; rfl
      have g2 : w5.cell? ⟨w3.heap.size, 0, none⟩ = some (.int .i64 n) := by rw [Lib.cell_of_heap HY5.out]; rfl
      have g3 : w5.cell? ⟨w3.heap.size, 1, none⟩ = some (.int .i64 m) := by rw [Lib.cell_of_heap HY5.out]; rfl
      have g4 : w5.cell? ⟨w3.heap.size, 2, none⟩ = some (.int .i64 en) := by rw [Lib.cell_of_heap HY5.out]; rfl
      generalize maxOf xs = mm at *
      obtain ⟨q0, q1⟩ := mm
      simp only at *
      go_wp2_with fail
      go_ret
      exact ⟨rfl, K5⟩

set_option maxHeartbeats 8000000 in
set_option maxRecDepth 100000 in
theorem tells_core4 (A : Option Addr) (n0 c : Nat) (xs : List (Int × Int)) (k : Int) (s0 s : ByteArray) (w : World) (HS : Hid (StampsAt w A n0 xs)) (hnc : n0 ≤ c) (hnm : n0 ≤ 9223372036854775807) (hs : s0.size ≤ 9223372036854775807) (hsz : s0.size ≤ 20) (h6 : n0 ≤ 6) (h20 : s0.size ≤ 20) :
    Calls Try.prog 9 #[.slice A n0 c, .int .i64 k, .string s0] w fun e w' => e = .returned (.bool true) ∧ Kept w w' := by
  have d6 : decide ((6 : Int) < (n0 : Int)) = false := by simp; omega
  have d20 : decide ((20 : Int) < (s0.size : Int)) = false := by simp; omega
  go_enter Try.func9, Try.ntmps9
  go_wp2_with fail
  refine (awake_any _).mono ?_
  rintro e w1 ⟨rfl, k1⟩
  go_wp2_with fail
  go_loopw [8] (fun i wr => ∃ j : Nat, j ≤ n0 ∧ i = .int .i64 j ∧ Kept w wr) (fun i _ => n0 - (intOf i).toNat)
  case atStart => exact ⟨0, by omega, rfl, by repeat (first | exact Kept.refl _ | assumption | (refine Kept.alloc ?_ _) | (refine Kept.setCell ?_ (by first | omega | (simp; omega) | simp) _) | refine Kept.drew ?_ | refine Kept.drewN ?_ _ | (apply Kept.call; rotate_left; assumption))⟩
  case round =>
    obtain ⟨j, hj, rfl, kr⟩ := hrel
    by_cases hlt : j < n0
    · obtain ⟨b, off, HAb, hcc⟩ := HS.out.2.2 (by omega)
      obtain ⟨p0, p1⟩ := hcc 0 (by omega)
      obtain ⟨c0, c1⟩ := hcc j hlt
      have p0 := kr.at_ p0
      have p1 := kr.at_ p1
      have c0 := kr.at_ c0
      have c1 := kr.at_ c1
      clear hcc
      simp only [Nat.zero_mul, Nat.add_zero] at p0 p1
      subst HAb
      generalize xs[j]?.getD (0, 0) = x at *
      generalize xs[0]?.getD (0, 0) = y at *
      obtain ⟨m0, m1⟩ := y
      obtain ⟨x0', x1'⟩ := x
      simp only at *
      go_wp2_with fail
      refine (next_fn x0' x1' k _).mono ?_
      rintro e w2 ⟨rfl, k2⟩
      have K2 : Kept w w2 := kr.call k2
      have c0 := k2.at_ c0
      have c1 := k2.at_ c1
      have p0 := k2.at_ p0
      have p1 := k2.at_ p1
      have hz2 : b < w2.heap.size := World.block_lt_of_cell? w2 _ c0
      have hz2' := Nat.ne_of_lt hz2
      generalize hr0 : nxN x0' k = r0
      generalize hr1 : nxS x0' k = r1
      generalize hr2 : nxE x0' k = r2
      have HR : Hid (nxN x0' k = r0 ∧ nxS x0' k = r1 ∧ nxE x0' k = r2) := ⟨hr0, hr1, hr2⟩
      clear hr0 hr1 hr2
      have HX2 := Lib.hid (heap_alloc_new w2 (.cells #[.int .i64 r0, .int .i64 r1] 24))
      go_wp2_with fail
      refine (rnext_fn x0' x1' k _).mono ?_
      rintro e w3 ⟨rfl, k3⟩
      have K3 : Kept w w3 := (K2.alloc _).call k3
      have c0 := k3.at_ (((Kept.refl w2).alloc (.cells #[.int .i64 r0, .int .i64 r1] 24)).at_ c0)
      have c1 := k3.at_ (((Kept.refl w2).alloc (.cells #[.int .i64 r0, .int .i64 r1] 24)).at_ c1)
      have p0 := k3.at_ (((Kept.refl w2).alloc (.cells #[.int .i64 r0, .int .i64 r1] 24)).at_ p0)
      have p1 := k3.at_ (((Kept.refl w2).alloc (.cells #[.int .i64 r0, .int .i64 r1] 24)).at_ p1)
      have HX3 := Lib.hid (k3.heap HX2.out)
      have hz3 : w2.heap.size < w3.heap.size := (Array.getElem?_eq_some_iff.1 HX3.out).1
      have hz4 : b < w3.heap.size := by omega
      have a0 : w3.cell? ⟨w2.heap.size, 0, none⟩ = some (.int .i64 r0) := by rw [Lib.cell_of_heap HX3.out]; rfl
      have a1 : w3.cell? ⟨w2.heap.size, 1, none⟩ = some (.int .i64 r1) := by rw [Lib.cell_of_heap HX3.out]; rfl
      rw [HR.out.1, HR.out.2.1, HR.out.2.2]
      go_wp2_with fail
      have HY3 := Lib.hid (heap_alloc_new w3 (.cells #[.int .i64 r0, .int .i64 r1] 24))
      have b0 : (w3.alloc (.cells #[.int .i64 r0, .int .i64 r1] 24)).cell? ⟨w3.heap.size, 0, none⟩ = some (.int .i64 r0) := by rw [Lib.cell_of_heap HY3.out]; rfl
      have b1 : (w3.alloc (.cells #[.int .i64 r0, .int .i64 r1] 24)).cell? ⟨w3.heap.size, 1, none⟩ = some (.int .i64 r1) := by rw [Lib.cell_of_heap HY3.out]; rfl
      have EX : ∀ v, Kept w3 (w3.alloc v) := fun v => (Kept.refl w3).alloc v
      have HEX := Lib.hid EX
      have HK3 := Lib.hid K3
      clear EX
      refine wp_region_text keepsOne (fun wB => Kept w wB ∧ Kept w3 wB ∧ wB.cell? ⟨w2.heap.size, 0, none⟩ = some (.int .i64 r0) ∧ wB.cell? ⟨w2.heap.size, 1, none⟩ = some (.int .i64 r1) ∧ wB.cell? ⟨w3.heap.size, 0, none⟩ = some (.int .i64 r0) ∧ wB.cell? ⟨w3.heap.size, 1, none⟩ = some (.int .i64 r1) ∧ wB.cell? ⟨b, off + j * 2, none⟩ = some (.int .i64 x0') ∧ wB.cell? ⟨b, off + j * 2 + 1, none⟩ = some (.int .i64 x1') ∧ wB.cell? ⟨b, off, none⟩ = some (.int .i64 m0) ∧ wB.cell? ⟨b, off + 1, none⟩ = some (.int .i64 m1)) ?_ (by kernel_rfl) (by kernel_rfl) _ (by (try simp only [List.append_eq, List.cons_append, List.nil_append, List.toList_toArray]); exact rfl) ?_
      · exact ⟨by repeat (first | exact Kept.refl _ | assumption | (refine Kept.alloc ?_ _) | (refine Kept.setCell ?_ (by first | omega | (simp; omega) | simp) _) | refine Kept.drew ?_ | refine Kept.drewN ?_ _ | (apply Kept.call; rotate_left; assumption)), by repeat (first | exact Kept.refl _ | assumption | (refine Kept.alloc ?_ _) | (refine Kept.setCell ?_ (by first | omega | (simp; omega) | simp) _) | refine Kept.drew ?_ | refine Kept.drewN ?_ _ | (apply Kept.call; rotate_left; assumption)), by first | assumption | go_simp, by first | assumption | go_simp, by first | assumption | go_simp, by first | assumption | go_simp, by first | assumption | go_simp, by first | assumption | go_simp, by first | assumption | go_simp, by first | assumption | go_simp⟩
      rintro wB ⟨hkB, hkB1, sB1, sB2, sB3, sB4, sB5, sB6, sB7, sB8⟩
      repeat (first | (apply DW.det; (focus (intro wd hI; have hkd1 := hkB1.call hI; have td1 := hI.at_ sB1; have td2 := hI.at_ sB2; have td3 := hI.at_ sB3; have td4 := hI.at_ sB4; have td5 := hI.at_ sB5; have td6 := hI.at_ sB6; have td7 := hI.at_ sB7; have td8 := hI.at_ sB8; skip; go_wp2_with (first | (go_at_call 13; refine (check_any _ _ _).mono ?_; rintro e w5 ⟨rfl, hb5⟩) | (go_at_call 18; refine (rcheck_any _ _ _).mono ?_; rintro e w6 ⟨rfl, hb6⟩) | (go_at_call 12; refine (less_any _ _ _ _ _).mono ?_; rintro e w7 ⟨rfl, hb7⟩) | (go_at_call 19; refine (rless_any _ _ _ _ _).mono ?_; rintro e w8 ⟨rfl, hb8⟩) | (go_at_call 15; refine (bytes_fn _ _ _).mono ?_; rintro e w9 ⟨rfl, hb9⟩) | (go_at_call 20; refine (rbytes_fn _ _ _).mono ?_; rintro e w10 ⟨rfl, hb10⟩)); refine StepPost.mk _ rfl ⟨rfl, ?_⟩; repeat (first | exact Kept.refl _ | assumption | (refine Kept.alloc ?_ _) | (refine Kept.setCell ?_ (by first | omega | (simp; omega) | simp) _) | refine Kept.drew ?_ | refine Kept.drewN ?_ _ | (apply Kept.call; rotate_left; assumption)))); simp only [Act.put, List.setIfInBounds_toArray, List.set_cons_succ, List.set_cons_zero]) | (refine DW.loud (by kernel_rfl) ?_; intro wd hI; have hkd1 := hkB1.call hI; have td1 := hI.at_ sB1; have td2 := hI.at_ sB2; have td3 := hI.at_ sB3; have td4 := hI.at_ sB4; have td5 := hI.at_ sB5; have td6 := hI.at_ sB6; have td7 := hI.at_ sB7; have td8 := hI.at_ sB8; skip; go_wp2_with (first | (go_at_call 13; refine (check_any _ _ _).mono ?_; rintro e w5 ⟨rfl, hb5⟩) | (go_at_call 18; refine (rcheck_any _ _ _).mono ?_; rintro e w6 ⟨rfl, hb6⟩) | (go_at_call 12; refine (less_any _ _ _ _ _).mono ?_; rintro e w7 ⟨rfl, hb7⟩) | (go_at_call 19; refine (rless_any _ _ _ _ _).mono ?_; rintro e w8 ⟨rfl, hb8⟩) | (go_at_call 15; refine (bytes_fn _ _ _).mono ?_; rintro e w9 ⟨rfl, hb9⟩) | (go_at_call 20; refine (rbytes_fn _ _ _).mono ?_; rintro e w10 ⟨rfl, hb10⟩)); refine StepPost.loud _ rfl (by repeat (first | exact Kept.refl _ | assumption | (refine Kept.alloc ?_ _) | (refine Kept.setCell ?_ (by first | omega | (simp; omega) | simp) _) | refine Kept.drew ?_ | refine Kept.drewN ?_ _ | (apply Kept.call; rotate_left; assumption))) (fun hkL => ?_); have hkL := hI.call hkL; have hkB := hkB.call hkL; have hkB1 := hkB1.call hkL; have sB1 := hkL.at_ sB1; have sB2 := hkL.at_ sB2; have sB3 := hkL.at_ sB3; have sB4 := hkL.at_ sB4; have sB5 := hkL.at_ sB5; have sB6 := hkL.at_ sB6; have sB7 := hkL.at_ sB7; have sB8 := hkL.at_ sB8; simp only [Act.put, List.setIfInBounds_toArray, List.set_cons_succ, List.set_cons_zero]))
      refine DW.nil ?_
      intro wd hI
      have hkd := hkB.call hI
      have hkd1 := hkB1.call hI; have td1 := hI.at_ sB1; have td2 := hI.at_ sB2; have td3 := hI.at_ sB3; have td4 := hI.at_ sB4; have td5 := hI.at_ sB5; have td6 := hI.at_ sB6; have td7 := hI.at_ sB7; have td8 := hI.at_ sB8
      go_wp2_with fail
      go_roundw
      case rel => first | exact ⟨j + 1, by omega, by go_num, hkd⟩ | ((repeat apply Exists.intro); exact ⟨⟨j + 1, by omega, by go_num, hkd⟩, rfl⟩)
      case measure => simp [intOf]; omega
    · obtain rfl : j = n0 := by omega
      go_wp2_with fail
      refine (sread_rel s0 0 _ (by omega)).mono ?_
      rintro e w2 ⟨n, m, en, ok, rfl, h1, k1⟩
      have K2 : Kept w w2 := kr.call k1
      have HX2 := Lib.hid (heap_alloc_new w2 (.cells #[.int .i64 n, .int .i64 m] 24))
      have H1 := Lib.hid h1
      clear h1
      go_wp2_with fail
      refine (rsread_rel s0 0 _ (by omega)).mono ?_
      rintro e w3 ⟨n', m', en', ok', rfl, h2, k3⟩
      obtain ⟨rfl, rfl, rfl, rfl⟩ := H1.out.same h2
      clear h2
      have K3 : Kept w w3 := (K2.alloc _).call k3
      have HX3 := Lib.hid (k3.heap HX2.out)
      have hz3 : w2.heap.size < w3.heap.size := (Array.getElem?_eq_some_iff.1 HX3.out).1
      have HY3 := Lib.hid (heap_alloc_new w3 (.cells #[.int .i64 n, .int .i64 m, .int .i64 en] 40))
      have hsr := srd_is H1.out
      go_wp2_with fail
      refine (max_any _ _ _ xs _ (HS.out.keep (by repeat (first | exact Kept.refl _ | assumption | (refine Kept.alloc ?_ _) | (refine Kept.setCell ?_ (by first | omega | (simp; omega) | simp) _) | refine Kept.drew ?_ | refine Kept.drewN ?_ _ | (apply Kept.call; rotate_left; assumption))))).mono ?_
      rintro e w4 ⟨rfl, k4⟩
      have K4 : Kept w w4 := (K3.alloc _).call k4
      have HX4 := Lib.hid (k4.heap (((Kept.refl w3).alloc (.cells #[.int .i64 n, .int .i64 m, .int .i64 en] 40)).heap HX3.out))
      have HY4 := Lib.hid (k4.heap HY3.out)
      go_wp2_with fail
      refine (rmax_any _ _ _ xs _ (HS.out.keep (by repeat (first | exact Kept.refl _ | assumption | (refine Kept.alloc ?_ _) | (refine Kept.setCell ?_ (by first | omega | (simp; omega) | simp) _) | refine Kept.drew ?_ | refine Kept.drewN ?_ _ | (apply Kept.call; rotate_left; assumption))))).mono ?_
      rintro e w5 ⟨rfl, k5⟩
      have K5 : Kept w w5 := K4.call k5
      have HX5 := Lib.hid (k5.heap HX4.out)
      have HY5 := Lib.hid (k5.heap HY4.out)
      have g0 : w5.cell? ⟨w2.heap.size, 0, none⟩ = some (.int .i64 n) := by rw [Lib.cell_of_heap HX5.out]; rfl
      have g1 : w5.cell? ⟨w2.heap.size, 1, none⟩ = some (.int .i64 m) := by rw [Lib.cell_of_heap HX5.out]; rfl
      have g2 : w5.cell? ⟨w3.heap.size, 0, none⟩ = some (.int .i64 n) := by rw [Lib.cell_of_heap HY5.out]; rfl
      have g3 : w5.cell? ⟨w3.heap.size, 1, none⟩ = some (.int .i64 m) := by rw [Lib.cell_of_heap HY5.out]; rfl
      have g4 : w5.cell? ⟨w3.heap.size, 2, none⟩ = some (.int .i64 en) := by rw [Lib.cell_of_heap HY5.out]; rfl
      generalize maxOf xs = mm at *
      obtain ⟨q0, q1⟩ := mm
      simp only at *
      go_wp2_with fail
      go_ret
      exact ⟨rfl, K5⟩

theorem stampTells_walk (A : Option Addr) (n0 c : Nat) (xs0 : List (Int × Int)) (k : Int) (s0 : ByteArray) (w : World) (hS : StampsAt w A n0 xs0) (hn0 : A = none → c = 0) (hnc : n0 ≤ c) (hx : ∀ x ∈ xs0, (Lit.int .i64 x.1).wf = true ∧ (Lit.int .i64 x.2).wf = true) (hk : (Lit.int .i64 k).wf = true) (hs : s0.size ≤ maxLen) :
    Calls Try.prog 9 #[.slice A n0 c, .int .i64 k, .string s0] w fun e w' => e = .returned (.bool true) ∧ Kept w w' := by
  unfold maxLen at hs
  have hnm := hS.2.1
  unfold maxLen at hnm
  rcases Nat.lt_or_ge 6 n0 with h6 | h6 <;> rcases Nat.lt_or_ge 20 s0.size with h20 | h20
  · exact tells_core1 A n0 c _ k s0 _ w (hS.take 6 (by omega)) hnc hnm hs (by rw [ByteArray.size_extract]; omega) h6 h20 rfl
  · exact tells_core2 A n0 c _ k s0 s0 w (hS.take 6 (by omega)) hnc hnm hs h20 h6 h20
  · exact tells_core3 A n0 c _ k s0 _ w hS hnc hnm hs (by rw [ByteArray.size_extract]; omega) h6 h20 rfl
  · exact tells_core4 A n0 c _ k s0 s0 w hS hnc hnm hs h20 h6 h20
end Go.Proofs.Ytfiocebipckaaaa
