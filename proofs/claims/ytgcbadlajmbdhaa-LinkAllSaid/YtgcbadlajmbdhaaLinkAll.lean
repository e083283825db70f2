/- The walk of the law LinkAll: it returns true for every number and every row. -/
import Derived.Test.YtgcbadlajmbdhaaLinkY
set_option linter.unusedSimpArgs false
set_option linter.unusedVariables false
namespace Go.Proofs.Ytgcbadlajmbdhaa
open Go.RowKit

set_option maxHeartbeats 1000000 in
set_option maxRecDepth 20000 in
theorem linkAll_walk (a : Int) (A : Option Addr) (n c : Nat) (x : Nat → Int) (w : World) (_ : (Lit.int .i64 a).wf = true) (hr : RowAt w A n c 1 (fun i => [.int .i64 (x i)])) (hx : ∀ i, i < n → (Lit.int .i64 (x i)).wf = true) :
    Calls Try.prog 8 #[.int .i64 a, .slice A n c] w fun e w' => e = .returned (.bool true) ∧ Kept w w' := by
  go_enter Try.func8, Try.ntmps8
  go_wp2_with fail
  refine (awake_any _).mono ?_
  rintro e w1 ⟨rfl, k1⟩
  have z1 := k1.size
  go_wp2_with fail
  refine (newSenderX w w1 k1).mono ?_
  rintro e w2 ⟨rfl, k2, S2⟩
  go_wp2_with fail
  refine (newReceiver_any w2).mono ?_
  rintro e w3 ⟨rfl, k3, R3⟩
  have S3 := S2.more k3 w2.heap.size (Nat.le_refl _) R3.lt
  have K3 : Kept w w3 := (k1.call k2).call k3
  have z2 : w.heap.size ≤ w2.heap.size := (k1.call k2).size
  have nrs : w1.heap.size ≠ w2.heap.size := by have := S2.lt; omega
  go_wp2_with fail
  obtain ⟨M, hM, hM7⟩ : ∃ M : Nat, bits .and .i64 a 7 = (M : Int) ∧ M ≤ 7 := by
    obtain ⟨h1, h2⟩ := and_bd a 7 (by omega) (by omega)
    exact ⟨(bits .and .i64 a 7).toNat, by omega, by omega⟩
  rw [hM]
  go_loopw [9] (fun i wr => ∃ k : Nat, k ≤ M ∧ i = .int .i64 k ∧ Kept w wr ∧ SndX w [w2.heap.size] wr w1.heap.size 0 (zs k) ∧ Recv wr w2.heap.size 0) (fun i _ => 21 - (intOf i).toNat)
  case atStart => exact ⟨0, by omega, rfl, K3, S3, R3⟩
  case round =>
    obtain ⟨k, hk, rfl, kr, Sr, Rr⟩ := hrel
    by_cases hlt : (k : Int) < (M : Int)
    · go_wp2_with fail
      refine (sendX w [w2.heap.size] w1.heap.size 0 (zs k) ⟨#[120]⟩ k _ Sr kr (by rw [zs_len]; omega) (by rw [zs_len]; omega) (by rw [zs_len]; simp)).mono ?_
      rintro e w4 ⟨rfl, S4, K4, _, x4⟩
      have R4 : Recv w4 w2.heap.size 0 := (x4 _ (by simp)).trans Rr
      rw [zs_snoc] at S4
      have HS := Lib.hid S4
      have HR := Lib.hid R4
      clear S4 R4 Sr Rr
      go_wp2
      go_roundw
      case rel => first | exact ⟨k + 1, by omega, by go_num, by repeat (first | exact Kept.refl _ | assumption | (refine Kept.alloc ?_ _) | (refine Kept.setCell ?_ (by first | omega | (simp; omega) | simp) _) | refine Kept.drew ?_ | refine Kept.drewN ?_ _ | (apply Kept.call; rotate_left; assumption)), HS.out.kept (by repeat (first | exact Kept.refl _ | assumption | (refine Kept.alloc ?_ _) | (refine Kept.setCell ?_ (by first | omega | (simp; omega) | simp) _) | refine Kept.drew ?_ | refine Kept.drewN ?_ _ | (apply Kept.call; rotate_left; assumption))), HR.out.kept (by repeat (first | exact Kept.refl _ | assumption | (refine Kept.alloc ?_ _) | (refine Kept.setCell ?_ (by first | omega | (simp; omega) | simp) _) | refine Kept.drew ?_ | refine Kept.drewN ?_ _ | (apply Kept.call; rotate_left; assumption)))⟩ | ((repeat apply Exists.intro); exact ⟨⟨k + 1, by omega, by go_num, by repeat (first | exact Kept.refl _ | assumption | (refine Kept.alloc ?_ _) | (refine Kept.setCell ?_ (by first | omega | (simp; omega) | simp) _) | refine Kept.drew ?_ | refine Kept.drewN ?_ _ | (apply Kept.call; rotate_left; assumption)), HS.out.kept (by repeat (first | exact Kept.refl _ | assumption | (refine Kept.alloc ?_ _) | (refine Kept.setCell ?_ (by first | omega | (simp; omega) | simp) _) | refine Kept.drew ?_ | refine Kept.drewN ?_ _ | (apply Kept.call; rotate_left; assumption))), HR.out.kept (by repeat (first | exact Kept.refl _ | assumption | (refine Kept.alloc ?_ _) | (refine Kept.setCell ?_ (by first | omega | (simp; omega) | simp) _) | refine Kept.drew ?_ | refine Kept.drewN ?_ _ | (apply Kept.call; rotate_left; assumption)))⟩, rfl⟩)
      case measure => simp [intOf]; omega
    · obtain rfl : M = k := by omega
      clear hlt hk
      go_wp2
      go_loopw [12, 13] (fun cm rd wr => ∃ T q : Nat, T ≤ M ∧ q ≤ 9 ∧ (q = 0 ∧ T = 0 ∨ T = M) ∧ cm = .int .i64 T ∧ rd = .int .i64 q ∧ Kept w wr ∧ SndX w [w2.heap.size] wr w1.heap.size T (zs (M - T)) ∧ Recv wr w2.heap.size T) (fun _ i _ => 9 - (intOf i).toNat)
      case atStart => exact ⟨0, 0, by omega, by omega, by omega, rfl, rfl, by repeat (first | exact Kept.refl _ | assumption | (refine Kept.alloc ?_ _) | (refine Kept.setCell ?_ (by first | omega | (simp; omega) | simp) _) | refine Kept.drew ?_ | refine Kept.drewN ?_ _ | (apply Kept.call; rotate_left; assumption)), Sr.kept (by repeat (first | exact Kept.refl _ | assumption | (refine Kept.alloc ?_ _) | (refine Kept.setCell ?_ (by first | omega | (simp; omega) | simp) _) | refine Kept.drew ?_ | refine Kept.drewN ?_ _ | (apply Kept.call; rotate_left; assumption))), Rr.kept (by repeat (first | exact Kept.refl _ | assumption | (refine Kept.alloc ?_ _) | (refine Kept.setCell ?_ (by first | omega | (simp; omega) | simp) _) | refine Kept.drew ?_ | refine Kept.drewN ?_ _ | (apply Kept.call; rotate_left; assumption)))⟩
      case round =>
        obtain ⟨T, q, hTM, hq9, hqT, rfl, rfl, kr, Sr, Rr⟩ := hrel
        by_cases hq : q < 9
        · go_wp2_with fail
          refine (openX w [w2.heap.size] w1.heap.size T (M - T) (zs (M - T)) _ Sr (zs_len _).symm (by omega)).mono ?_
          rintro e w4 ⟨A4, c4, rfl, _, k4⟩
          have S4 := Sr.kept k4
          have R4 := Rr.kept k4
          have K4 := kr.call k4
          clear Sr Rr
          by_cases hT : M = T
          · subst hT
            go_wp2_with fail
            refine (openX w [w2.heap.size] w1.heap.size M 0 (zs (M - M)) _ S4 (by rw [zs_len]; omega) (by omega)).mono ?_
            rintro e w5 ⟨A5, c5, rfl, _, k5⟩
            have S5 := S4.kept k5
            have R5 := R4.kept k5
            have K5 := K4.call k5
            go_wp2_with fail
            refine (waits_any _ M _ R5).mono ?_
            rintro e w6 ⟨rfl, k6⟩
            go_wp2_with fail
            refine (nextX w [w2.heap.size] w1.heap.size M (zs (M - M)) M _ (S5.kept k6) (by rw [zs_len]; omega)).mono ?_
            rintro e w7 ⟨rfl, k7⟩
            go_wp2
            go_ret
            exact ⟨by first | rfl | exact ret_bool (by simp), (K5.call k6).call k7⟩
          · obtain ⟨rfl, rfl⟩ : q = 0 ∧ T = 0 := by omega
            go_wp2_with fail
            refine (openY w [w2.heap.size] w1.heap.size 0 M (zs M) _ S4 (zs_len _).symm (by omega)).mono ?_
            rintro e w5 ⟨A5, c5, rfl, Row5, k5, ap5⟩
            have S5 := S4.kept k5
            have R5 := R4.kept k5
            have K5 := K4.call k5
            obtain ⟨g, rfl, hg, hc⟩ := Row5.zsAt (by omega)
            have hgr : g ≠ w2.heap.size := by have := ap5 _ rfl; have := R4.lt; simp at *; omega
            clear S4 R4 ap5
            go_wp2_with fail
            go_loopw [12, 15] (fun cm id wr => ∃ V j : Nat, V ≤ M ∧ j ≤ 10 ∧ j ≤ n ∧ cm = .int .i64 V ∧ id = .int .i64 j ∧ Kept w wr ∧ SndX w [w2.heap.size] wr w1.heap.size 0 (zs M) ∧ Recv wr w2.heap.size V ∧ ∀ i, i < M → wr.cell? ⟨g, i * 2, none⟩ = some (.int .i64 ((0 + i : Nat) : Int)) ∧ wr.cell? ⟨g, i * 2 + 1, none⟩ = some (.string ⟨#[120]⟩)) (fun _ i _ => 10 - (intOf i).toNat)
            case atStart => exact ⟨0, 0, by omega, by omega, by omega, rfl, rfl, K5, S5, R5, hc⟩
            case round =>
              clear hc S5 R5
              obtain ⟨V, j, hVM, hj10, hjn, rfl, rfl, kv, Sv, Rv, hc⟩ := hrel
              have hnn := hr.2.1
              have hnc := hr.1
              unfold maxLen at hnn
              by_cases h12 : j < n ∧ j < 10
              · obtain ⟨h1, h2⟩ := h12
                · obtain ⟨b, off, rfl, hb, hcx⟩ := (hr.kept kv).one (by omega)
                  have hcj := hcx j h1
                  clear hcx
                  obtain ⟨kk, hkk, hidx⟩ := place_of (x j) M (by omega) (by omega)
                  obtain ⟨hc0, hc1⟩ := hc kk hkk
                  simp only [Nat.zero_add] at hc0
                  have HC := Lib.hid hc
                  have HS := Lib.hid Sv
                  clear hc Sv
                  go_wp2_with fail
                  by_cases hkV : kk = V
                  · subst hkV
                    refine (take_yes w2.heap.size kk ⟨#[120]⟩ _ Rv (by omega)).mono ?_
                    rintro e w6 ⟨rfl, k6, R6⟩
                    have HS := Lib.hid (HS.out.but k6 (by simp))
                    have HC := Lib.hid (fun i hi => (⟨k6.at_ (HC.out i hi).1 (by simpa using hgr), k6.at_ (HC.out i hi).2 (by simpa using hgr)⟩ : _ ∧ _))
                    have HR := Lib.hid R6
                    have K6 : Kept w w6 := kv.but k6 (by simp; omega)
                    clear Rv R6 hc0 hc1 hcj hidx
                    go_wp2
                    go_roundw
                    case rel => first | exact ⟨kk + 1, j + 1, by omega, by omega, by omega, by go_num, by go_num, by repeat (first | exact Kept.refl _ | assumption | (refine Kept.alloc ?_ _) | (refine Kept.setCell ?_ (by first | omega | (simp; omega) | simp) _) | refine Kept.drew ?_ | refine Kept.drewN ?_ _ | (apply Kept.call; rotate_left; assumption)), HS.out.kept (by repeat (first | exact Kept.refl _ | assumption | (refine Kept.alloc ?_ _) | (refine Kept.setCell ?_ (by first | omega | (simp; omega) | simp) _) | refine Kept.drew ?_ | refine Kept.drewN ?_ _ | (apply Kept.call; rotate_left; assumption))), HR.out.kept (by repeat (first | exact Kept.refl _ | assumption | (refine Kept.alloc ?_ _) | (refine Kept.setCell ?_ (by first | omega | (simp; omega) | simp) _) | refine Kept.drew ?_ | refine Kept.drewN ?_ _ | (apply Kept.call; rotate_left; assumption))), fun i hi => ⟨Kept.at_ (by repeat (first | exact Kept.refl _ | assumption | (refine Kept.alloc ?_ _) | (refine Kept.setCell ?_ (by first | omega | (simp; omega) | simp) _) | refine Kept.drew ?_ | refine Kept.drewN ?_ _ | (apply Kept.call; rotate_left; assumption))) (HC.out i hi).1, Kept.at_ (by repeat (first | exact Kept.refl _ | assumption | (refine Kept.alloc ?_ _) | (refine Kept.setCell ?_ (by first | omega | (simp; omega) | simp) _) | refine Kept.drew ?_ | refine Kept.drewN ?_ _ | (apply Kept.call; rotate_left; assumption))) (HC.out i hi).2⟩⟩ | ((repeat apply Exists.intro); exact ⟨⟨kk + 1, j + 1, by omega, by omega, by omega, by go_num, by go_num, by repeat (first | exact Kept.refl _ | assumption | (refine Kept.alloc ?_ _) | (refine Kept.setCell ?_ (by first | omega | (simp; omega) | simp) _) | refine Kept.drew ?_ | refine Kept.drewN ?_ _ | (apply Kept.call; rotate_left; assumption)), HS.out.kept (by repeat (first | exact Kept.refl _ | assumption | (refine Kept.alloc ?_ _) | (refine Kept.setCell ?_ (by first | omega | (simp; omega) | simp) _) | refine Kept.drew ?_ | refine Kept.drewN ?_ _ | (apply Kept.call; rotate_left; assumption))), HR.out.kept (by repeat (first | exact Kept.refl _ | assumption | (refine Kept.alloc ?_ _) | (refine Kept.setCell ?_ (by first | omega | (simp; omega) | simp) _) | refine Kept.drew ?_ | refine Kept.drewN ?_ _ | (apply Kept.call; rotate_left; assumption))), fun i hi => ⟨Kept.at_ (by repeat (first | exact Kept.refl _ | assumption | (refine Kept.alloc ?_ _) | (refine Kept.setCell ?_ (by first | omega | (simp; omega) | simp) _) | refine Kept.drew ?_ | refine Kept.drewN ?_ _ | (apply Kept.call; rotate_left; assumption))) (HC.out i hi).1, Kept.at_ (by repeat (first | exact Kept.refl _ | assumption | (refine Kept.alloc ?_ _) | (refine Kept.setCell ?_ (by first | omega | (simp; omega) | simp) _) | refine Kept.drew ?_ | refine Kept.drewN ?_ _ | (apply Kept.call; rotate_left; assumption))) (HC.out i hi).2⟩⟩, rfl⟩)
                    case measure => simp [intOf]; omega
                  · refine (take_no w2.heap.size V kk ⟨#[120]⟩ _ Rv (by omega)).mono ?_
                    rintro e w6 ⟨rfl, k6⟩
                    have HS := Lib.hid (HS.out.kept k6)
                    have HC := Lib.hid (fun i hi => (⟨k6.at_ (HC.out i hi).1, k6.at_ (HC.out i hi).2⟩ : _ ∧ _))
                    have HR := Lib.hid (Rv.kept k6)
                    have K6 : Kept w w6 := kv.call k6
                    clear Rv hc0 hc1 hcj hidx
                    go_wp2
                    go_roundw
                    case rel => first | exact ⟨V, j + 1, by omega, by omega, by omega, by go_num, by go_num, by repeat (first | exact Kept.refl _ | assumption | (refine Kept.alloc ?_ _) | (refine Kept.setCell ?_ (by first | omega | (simp; omega) | simp) _) | refine Kept.drew ?_ | refine Kept.drewN ?_ _ | (apply Kept.call; rotate_left; assumption)), HS.out.kept (by repeat (first | exact Kept.refl _ | assumption | (refine Kept.alloc ?_ _) | (refine Kept.setCell ?_ (by first | omega | (simp; omega) | simp) _) | refine Kept.drew ?_ | refine Kept.drewN ?_ _ | (apply Kept.call; rotate_left; assumption))), HR.out.kept (by repeat (first | exact Kept.refl _ | assumption | (refine Kept.alloc ?_ _) | (refine Kept.setCell ?_ (by first | omega | (simp; omega) | simp) _) | refine Kept.drew ?_ | refine Kept.drewN ?_ _ | (apply Kept.call; rotate_left; assumption))), fun i hi => ⟨Kept.at_ (by repeat (first | exact Kept.refl _ | assumption | (refine Kept.alloc ?_ _) | (refine Kept.setCell ?_ (by first | omega | (simp; omega) | simp) _) | refine Kept.drew ?_ | refine Kept.drewN ?_ _ | (apply Kept.call; rotate_left; assumption))) (HC.out i hi).1, Kept.at_ (by repeat (first | exact Kept.refl _ | assumption | (refine Kept.alloc ?_ _) | (refine Kept.setCell ?_ (by first | omega | (simp; omega) | simp) _) | refine Kept.drew ?_ | refine Kept.drewN ?_ _ | (apply Kept.call; rotate_left; assumption))) (HC.out i hi).2⟩⟩ | ((repeat apply Exists.intro); exact ⟨⟨V, j + 1, by omega, by omega, by omega, by go_num, by go_num, by repeat (first | exact Kept.refl _ | assumption | (refine Kept.alloc ?_ _) | (refine Kept.setCell ?_ (by first | omega | (simp; omega) | simp) _) | refine Kept.drew ?_ | refine Kept.drewN ?_ _ | (apply Kept.call; rotate_left; assumption)), HS.out.kept (by repeat (first | exact Kept.refl _ | assumption | (refine Kept.alloc ?_ _) | (refine Kept.setCell ?_ (by first | omega | (simp; omega) | simp) _) | refine Kept.drew ?_ | refine Kept.drewN ?_ _ | (apply Kept.call; rotate_left; assumption))), HR.out.kept (by repeat (first | exact Kept.refl _ | assumption | (refine Kept.alloc ?_ _) | (refine Kept.setCell ?_ (by first | omega | (simp; omega) | simp) _) | refine Kept.drew ?_ | refine Kept.drewN ?_ _ | (apply Kept.call; rotate_left; assumption))), fun i hi => ⟨Kept.at_ (by repeat (first | exact Kept.refl _ | assumption | (refine Kept.alloc ?_ _) | (refine Kept.setCell ?_ (by first | omega | (simp; omega) | simp) _) | refine Kept.drew ?_ | refine Kept.drewN ?_ _ | (apply Kept.call; rotate_left; assumption))) (HC.out i hi).1, Kept.at_ (by repeat (first | exact Kept.refl _ | assumption | (refine Kept.alloc ?_ _) | (refine Kept.setCell ?_ (by first | omega | (simp; omega) | simp) _) | refine Kept.drew ?_ | refine Kept.drewN ?_ _ | (apply Kept.call; rotate_left; assumption))) (HC.out i hi).2⟩⟩, rfl⟩)
                    case measure => simp [intOf]; omega
              · have hex : (j < n ∧ j = 10) ∨ j = n := by omega
                clear h12
                rcases hex with ⟨h1, rfl⟩ | rfl
                all_goals
                  have HC := Lib.hid hc
                  clear hc
                  go_wp2_with fail
                  go_loopw [12, 18] (fun cm id wr => ∃ V i : Nat, V ≤ M ∧ i ≤ M ∧ i ≤ V ∧ cm = .int .i64 V ∧ id = .int .i64 i ∧ Kept w wr ∧ SndX w [w2.heap.size] wr w1.heap.size 0 (zs M) ∧ Recv wr w2.heap.size V ∧ ∀ i, i < M → wr.cell? ⟨g, i * 2, none⟩ = some (.int .i64 ((0 + i : Nat) : Int)) ∧ wr.cell? ⟨g, i * 2 + 1, none⟩ = some (.string ⟨#[120]⟩)) (fun _ i _ => 10 - (intOf i).toNat)
                  case atStart => exact ⟨V, 0, by omega, by omega, by omega, rfl, rfl, by repeat (first | exact Kept.refl _ | assumption | (refine Kept.alloc ?_ _) | (refine Kept.setCell ?_ (by first | omega | (simp; omega) | simp) _) | refine Kept.drew ?_ | refine Kept.drewN ?_ _ | (apply Kept.call; rotate_left; assumption)), Sv.kept (by repeat (first | exact Kept.refl _ | assumption | (refine Kept.alloc ?_ _) | (refine Kept.setCell ?_ (by first | omega | (simp; omega) | simp) _) | refine Kept.drew ?_ | refine Kept.drewN ?_ _ | (apply Kept.call; rotate_left; assumption))), Rv.kept (by repeat (first | exact Kept.refl _ | assumption | (refine Kept.alloc ?_ _) | (refine Kept.setCell ?_ (by first | omega | (simp; omega) | simp) _) | refine Kept.drew ?_ | refine Kept.drewN ?_ _ | (apply Kept.call; rotate_left; assumption))), fun i hi => ⟨Kept.at_ (by repeat (first | exact Kept.refl _ | assumption | (refine Kept.alloc ?_ _) | (refine Kept.setCell ?_ (by first | omega | (simp; omega) | simp) _) | refine Kept.drew ?_ | refine Kept.drewN ?_ _ | (apply Kept.call; rotate_left; assumption))) (HC.out i hi).1, Kept.at_ (by repeat (first | exact Kept.refl _ | assumption | (refine Kept.alloc ?_ _) | (refine Kept.setCell ?_ (by first | omega | (simp; omega) | simp) _) | refine Kept.drew ?_ | refine Kept.drewN ?_ _ | (apply Kept.call; rotate_left; assumption))) (HC.out i hi).2⟩⟩
                  case round =>
                    clear HC Sv Rv
                    obtain ⟨V, i, hVM, hiM, hiV, rfl, rfl, ki, Si, Ri, hc⟩ := hrel
                    by_cases hi1 : i < M
                    · obtain ⟨hc0, hc1⟩ := hc i hi1
                      simp only [Nat.zero_add] at hc0
                      have HC := Lib.hid hc
                      have HS := Lib.hid Si
                      clear hc Si
                      go_wp2_with fail
                      by_cases hkV : i = V
                      · subst hkV
                        refine (take_yes w2.heap.size i ⟨#[120]⟩ _ Ri (by omega)).mono ?_
                        rintro e w6 ⟨rfl, k6, R6⟩
                        have HS := Lib.hid (HS.out.but k6 (by simp))
                        have HC := Lib.hid (fun i hi => (⟨k6.at_ (HC.out i hi).1 (by simpa using hgr), k6.at_ (HC.out i hi).2 (by simpa using hgr)⟩ : _ ∧ _))
                        have HR := Lib.hid R6
                        have K6 : Kept w w6 := ki.but k6 (by simp; omega)
                        clear Ri R6 hc0 hc1
                        go_wp2
                        go_roundw
                        case rel => first | exact ⟨i + 1, i + 1, by omega, by omega, by omega, by go_num, by go_num, by repeat (first | exact Kept.refl _ | assumption | (refine Kept.alloc ?_ _) | (refine Kept.setCell ?_ (by first | omega | (simp; omega) | simp) _) | refine Kept.drew ?_ | refine Kept.drewN ?_ _ | (apply Kept.call; rotate_left; assumption)), HS.out.kept (by repeat (first | exact Kept.refl _ | assumption | (refine Kept.alloc ?_ _) | (refine Kept.setCell ?_ (by first | omega | (simp; omega) | simp) _) | refine Kept.drew ?_ | refine Kept.drewN ?_ _ | (apply Kept.call; rotate_left; assumption))), HR.out.kept (by repeat (first | exact Kept.refl _ | assumption | (refine Kept.alloc ?_ _) | (refine Kept.setCell ?_ (by first | omega | (simp; omega) | simp) _) | refine Kept.drew ?_ | refine Kept.drewN ?_ _ | (apply Kept.call; rotate_left; assumption))), fun i hi => ⟨Kept.at_ (by repeat (first | exact Kept.refl _ | assumption | (refine Kept.alloc ?_ _) | (refine Kept.setCell ?_ (by first | omega | (simp; omega) | simp) _) | refine Kept.drew ?_ | refine Kept.drewN ?_ _ | (apply Kept.call; rotate_left; assumption))) (HC.out i hi).1, Kept.at_ (by repeat (first | exact Kept.refl _ | assumption | (refine Kept.alloc ?_ _) | (refine Kept.setCell ?_ (by first | omega | (simp; omega) | simp) _) | refine Kept.drew ?_ | refine Kept.drewN ?_ _ | (apply Kept.call; rotate_left; assumption))) (HC.out i hi).2⟩⟩ | ((repeat apply Exists.intro); exact ⟨⟨i + 1, i + 1, by omega, by omega, by omega, by go_num, by go_num, by repeat (first | exact Kept.refl _ | assumption | (refine Kept.alloc ?_ _) | (refine Kept.setCell ?_ (by first | omega | (simp; omega) | simp) _) | refine Kept.drew ?_ | refine Kept.drewN ?_ _ | (apply Kept.call; rotate_left; assumption)), HS.out.kept (by repeat (first | exact Kept.refl _ | assumption | (refine Kept.alloc ?_ _) | (refine Kept.setCell ?_ (by first | omega | (simp; omega) | simp) _) | refine Kept.drew ?_ | refine Kept.drewN ?_ _ | (apply Kept.call; rotate_left; assumption))), HR.out.kept (by repeat (first | exact Kept.refl _ | assumption | (refine Kept.alloc ?_ _) | (refine Kept.setCell ?_ (by first | omega | (simp; omega) | simp) _) | refine Kept.drew ?_ | refine Kept.drewN ?_ _ | (apply Kept.call; rotate_left; assumption))), fun i hi => ⟨Kept.at_ (by repeat (first | exact Kept.refl _ | assumption | (refine Kept.alloc ?_ _) | (refine Kept.setCell ?_ (by first | omega | (simp; omega) | simp) _) | refine Kept.drew ?_ | refine Kept.drewN ?_ _ | (apply Kept.call; rotate_left; assumption))) (HC.out i hi).1, Kept.at_ (by repeat (first | exact Kept.refl _ | assumption | (refine Kept.alloc ?_ _) | (refine Kept.setCell ?_ (by first | omega | (simp; omega) | simp) _) | refine Kept.drew ?_ | refine Kept.drewN ?_ _ | (apply Kept.call; rotate_left; assumption))) (HC.out i hi).2⟩⟩, rfl⟩)
                        case measure => simp [intOf]; omega
                      · refine (take_no w2.heap.size V i ⟨#[120]⟩ _ Ri (by omega)).mono ?_
                        rintro e w6 ⟨rfl, k6⟩
                        have HS := Lib.hid (HS.out.kept k6)
                        have HC := Lib.hid (fun i hi => (⟨k6.at_ (HC.out i hi).1, k6.at_ (HC.out i hi).2⟩ : _ ∧ _))
                        have HR := Lib.hid (Ri.kept k6)
                        have K6 : Kept w w6 := ki.call k6
                        clear Ri hc0 hc1
                        go_wp2
                        go_roundw
                        case rel => first | exact ⟨V, i + 1, by omega, by omega, by omega, by go_num, by go_num, by repeat (first | exact Kept.refl _ | assumption | (refine Kept.alloc ?_ _) | (refine Kept.setCell ?_ (by first | omega | (simp; omega) | simp) _) | refine Kept.drew ?_ | refine Kept.drewN ?_ _ | (apply Kept.call; rotate_left; assumption)), HS.out.kept (by repeat (first | exact Kept.refl _ | assumption | (refine Kept.alloc ?_ _) | (refine Kept.setCell ?_ (by first | omega | (simp; omega) | simp) _) | refine Kept.drew ?_ | refine Kept.drewN ?_ _ | (apply Kept.call; rotate_left; assumption))), HR.out.kept (by repeat (first | exact Kept.refl _ | assumption | (refine Kept.alloc ?_ _) | (refine Kept.setCell ?_ (by first | omega | (simp; omega) | simp) _) | refine Kept.drew ?_ | refine Kept.drewN ?_ _ | (apply Kept.call; rotate_left; assumption))), fun i hi => ⟨Kept.at_ (by repeat (first | exact Kept.refl _ | assumption | (refine Kept.alloc ?_ _) | (refine Kept.setCell ?_ (by first | omega | (simp; omega) | simp) _) | refine Kept.drew ?_ | refine Kept.drewN ?_ _ | (apply Kept.call; rotate_left; assumption))) (HC.out i hi).1, Kept.at_ (by repeat (first | exact Kept.refl _ | assumption | (refine Kept.alloc ?_ _) | (refine Kept.setCell ?_ (by first | omega | (simp; omega) | simp) _) | refine Kept.drew ?_ | refine Kept.drewN ?_ _ | (apply Kept.call; rotate_left; assumption))) (HC.out i hi).2⟩⟩ | ((repeat apply Exists.intro); exact ⟨⟨V, i + 1, by omega, by omega, by omega, by go_num, by go_num, by repeat (first | exact Kept.refl _ | assumption | (refine Kept.alloc ?_ _) | (refine Kept.setCell ?_ (by first | omega | (simp; omega) | simp) _) | refine Kept.drew ?_ | refine Kept.drewN ?_ _ | (apply Kept.call; rotate_left; assumption)), HS.out.kept (by repeat (first | exact Kept.refl _ | assumption | (refine Kept.alloc ?_ _) | (refine Kept.setCell ?_ (by first | omega | (simp; omega) | simp) _) | refine Kept.drew ?_ | refine Kept.drewN ?_ _ | (apply Kept.call; rotate_left; assumption))), HR.out.kept (by repeat (first | exact Kept.refl _ | assumption | (refine Kept.alloc ?_ _) | (refine Kept.setCell ?_ (by first | omega | (simp; omega) | simp) _) | refine Kept.drew ?_ | refine Kept.drewN ?_ _ | (apply Kept.call; rotate_left; assumption))), fun i hi => ⟨Kept.at_ (by repeat (first | exact Kept.refl _ | assumption | (refine Kept.alloc ?_ _) | (refine Kept.setCell ?_ (by first | omega | (simp; omega) | simp) _) | refine Kept.drew ?_ | refine Kept.drewN ?_ _ | (apply Kept.call; rotate_left; assumption))) (HC.out i hi).1, Kept.at_ (by repeat (first | exact Kept.refl _ | assumption | (refine Kept.alloc ?_ _) | (refine Kept.setCell ?_ (by first | omega | (simp; omega) | simp) _) | refine Kept.drew ?_ | refine Kept.drewN ?_ _ | (apply Kept.call; rotate_left; assumption))) (HC.out i hi).2⟩⟩, rfl⟩)
                        case measure => simp [intOf]; omega
                    · obtain rfl : M = V := by omega
                      obtain rfl : M = i := by omega
                      clear hc hi1 hVM hiM hiV
                      go_wp2_with fail
                      refine (waits_any _ M _ Ri).mono ?_
                      rintro e w6 ⟨rfl, k6⟩
                      go_wp2_with fail
                      refine (answerX w _ w1.heap.size 0 (zs M) M M M _ (Si.kept k6) (ki.call k6) (by rw [zs_len]; omega) (by rw [zs_len]; (try omega)) (by omega) (by omega) rfl).mono ?_
                      rintro e w7 ⟨rfl, S7, K7, _, x7⟩
                      have R7 : Recv w7 w2.heap.size M := (x7 _ (by simp)).trans (Ri.kept k6)
                      rw [zs_drop, Nat.zero_add] at S7
                      have HS := Lib.hid S7
                      have HR := Lib.hid R7
                      clear S7 R7 Si Ri
                      go_wp2
                      go_roundw
                      case rel => first | exact ⟨M, 1, by omega, by omega, by omega, by go_num, by go_num, by repeat (first | exact Kept.refl _ | assumption | (refine Kept.alloc ?_ _) | (refine Kept.setCell ?_ (by first | omega | (simp; omega) | simp) _) | refine Kept.drew ?_ | refine Kept.drewN ?_ _ | (apply Kept.call; rotate_left; assumption)), HS.out.kept (by repeat (first | exact Kept.refl _ | assumption | (refine Kept.alloc ?_ _) | (refine Kept.setCell ?_ (by first | omega | (simp; omega) | simp) _) | refine Kept.drew ?_ | refine Kept.drewN ?_ _ | (apply Kept.call; rotate_left; assumption))), HR.out.kept (by repeat (first | exact Kept.refl _ | assumption | (refine Kept.alloc ?_ _) | (refine Kept.setCell ?_ (by first | omega | (simp; omega) | simp) _) | refine Kept.drew ?_ | refine Kept.drewN ?_ _ | (apply Kept.call; rotate_left; assumption)))⟩ | ((repeat apply Exists.intro); exact ⟨⟨M, 1, by omega, by omega, by omega, by go_num, by go_num, by repeat (first | exact Kept.refl _ | assumption | (refine Kept.alloc ?_ _) | (refine Kept.setCell ?_ (by first | omega | (simp; omega) | simp) _) | refine Kept.drew ?_ | refine Kept.drewN ?_ _ | (apply Kept.call; rotate_left; assumption)), HS.out.kept (by repeat (first | exact Kept.refl _ | assumption | (refine Kept.alloc ?_ _) | (refine Kept.setCell ?_ (by first | omega | (simp; omega) | simp) _) | refine Kept.drew ?_ | refine Kept.drewN ?_ _ | (apply Kept.call; rotate_left; assumption))), HR.out.kept (by repeat (first | exact Kept.refl _ | assumption | (refine Kept.alloc ?_ _) | (refine Kept.setCell ?_ (by first | omega | (simp; omega) | simp) _) | refine Kept.drew ?_ | refine Kept.drewN ?_ _ | (apply Kept.call; rotate_left; assumption)))⟩, rfl⟩)
                      case measure => first | (simp [intOf]; done) | (simp [intOf]; omega)
        · obtain rfl : M = T := by omega
          go_wp2_with fail
          refine (openX w [w2.heap.size] w1.heap.size M 0 (zs (M - M)) _ Sr (by rw [zs_len]; omega) (by omega)).mono ?_
          rintro e w5 ⟨A5, c5, rfl, _, k5⟩
          have S5 := Sr.kept k5
          have R5 := Rr.kept k5
          have K5 := kr.call k5
          go_wp2_with fail
          refine (waits_any _ M _ R5).mono ?_
          rintro e w6 ⟨rfl, k6⟩
          go_wp2_with fail
          refine (nextX w [w2.heap.size] w1.heap.size M (zs (M - M)) M _ (S5.kept k6) (by rw [zs_len]; omega)).mono ?_
          rintro e w7 ⟨rfl, k7⟩
          go_wp2
          go_ret
          exact ⟨by first | rfl | exact ret_bool (by simp), (K5.call k6).call k7⟩
end Go.Proofs.Ytgcbadlajmbdhaa
