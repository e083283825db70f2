/- The program's Near, Path, Side and Far. -/
import Derived.Test.YtbofgpmbocjbiaaTreeE
import Derived.WalkMore
set_option linter.unusedSimpArgs false
set_option linter.unusedVariables false
namespace Go.Proofs.Ytbofgpmbocjbiaa
open Go.RowKit

/-- A row of sites is told, and it is the call's own. -/
def OwnIs (l : List Nat) (w : World) (e : Ending) (w' : World) : Prop := ∃ v, e = .returned v ∧ w'.ownsRow w.heap.size 3 1 v l.length (natC l) ∧ Kept w w'
set_option maxHeartbeats 1000000 in
theorem tnear_own (A : Option Addr) (n c : Nat) (p : List Int) (a : Int) (w : World) (hx : IntsAt w A n c p) :
    Calls Try.prog 30 #[.slice A n c, .int .i64 a] w (OwnIs (nearOf p a) w) := by
  obtain ⟨i0, hi, hz0, hz1, hz2⟩ := info_parts infoInt
  have HI := Lib.hid hi
  clear hi
  have HX := Lib.hid hx
  have hnn : n ≤ 9223372036854775807 := by have h1 := hx.2.1; have h2 := hx.2.2.1; unfold maxLen at h2; omega
  clear hx
  go_enter Try.func30, Try.ntmps30
  go_wp2_with fail
  go_step3
  go_wp2_with fail
  refine (there_any A n c p _ 1 1 [a] _ (HX.out.keep (by repeat (first | exact Kept.refl _ | assumption | (refine Kept.alloc ?_ _) | (refine Kept.setCell ?_ (by first | omega | (simp; omega) | simp) _) | refine Kept.drew ?_ | refine Kept.drewN ?_ _ | (apply Kept.call; rotate_left; assumption)))) (ints_one _ a w.heap.size (by go_simp))).mono ?_
  rintro e w1 ⟨B, rfl, hB, k1⟩
  have K1 : Kept w w1 := Kept.call (by repeat (first | exact Kept.refl _ | assumption | (refine Kept.alloc ?_ _) | (refine Kept.setCell ?_ (by first | omega | (simp; omega) | simp) _) | refine Kept.drew ?_ | refine Kept.drewN ?_ _ | (apply Kept.call; rotate_left; assumption))) k1
  have HB := Lib.hid hB
  clear hB
  cases B
  · have hno : Hid (nearOf p a = []) := by
      unfold Hid nearOf
      rw [if_neg (fun h => by have := HB.out.2 ⟨h.1, (allIn_one n a).2 (by rw [← HX.out.1]; exact h.2)⟩; cases this)]
    go_wp2_with fail
    (try rw [Exit.noGoto_ret])
    go_ret
    exact ⟨.slice none 0 0, rfl, by rw [hno.out]; exact World.ownsRow_nil _ _ _ _, K1⟩
  · obtain ⟨ht, hin⟩ := HB.out.1 (by simp)
    obtain ⟨h0, h1⟩ := (allIn_one n a).1 hin
    obtain ⟨y, rfl⟩ := Int.eq_ofNat_of_zero_le h0
    have hyn : y < n := by omega
    have n6 : n ≤ 6 := by have := ((tree_iff p).1 ht).2.1; rw [HX.out.1] at this; exact this
    have hyes : Hid (nearOf p (y : Int) = nearTo p y n) := by
      unfold Hid nearOf
      rw [if_pos ⟨ht, by omega, by rw [HX.out.1]; omega⟩, Int.toNat_natCast, HX.out.1]
    clear ht h0 h1 hin
    go_wp2_with fail
    go_step3
    go_wp2_with fail
    go_loopw [5, 14] (fun ov iv wr => ∃ (j l : Nat) (v : Value), ov = v ∧ j ≤ n ∧ iv = .int .i64 j ∧ (nearTo p y j).length = l ∧ wr.ownsRow w.heap.size 3 1 v l (natC (nearTo p y j)) ∧ Kept w wr) (fun _ iv _ => n - (intOf iv).toNat)
    case atStart => exact ⟨0, 0, _, rfl, by omega, rfl, rfl, World.ownsRow_nil _ _ _ _, K1⟩
    case round =>
      obtain ⟨j, l, v, rfl, hj, rfl, hl, ho, kr⟩ := hrel
      have hl6 : l ≤ j := by rw [← hl]; exact nearTo_len p y j
      have HL := Lib.hid hl
      have HO := Lib.hid ho
      clear hl ho
      by_cases hlt : j < n
      · cases hnr : nearB p y j
        · have HNR := Lib.hid hnr
          have HNN : Hid (nearTo p y (j + 1) = nearTo p y j) := nearTo_no hnr
          clear hnr
          go_wp2_with fail
          refine (near_any A n c p y j _ (HX.out.keep kr) hyn hlt).mono ?_
          rintro e w2 ⟨rfl, k2⟩
          have K2 := kr.call k2
          have HO2 := Lib.hid (Kept.own HO.out k2)
          rw [HNR.out]
          go_wp2_with fail
          go_roundw
          case rel => exact ⟨j + 1, l, _, rfl, by omega, by go_num, by rw [HNN.out]; exact HL.out, by rw [HNN.out]; exact HO2.out, K2⟩
          case measure => simp [intOf]; omega
        · have HNR := Lib.hid hnr
          have HNY : Hid (nearTo p y (j + 1) = nearTo p y j ++ [j]) := nearTo_yes hnr
          clear hnr
          go_wp2_with fail
          refine (near_any A n c p y j _ (HX.out.keep kr) hyn hlt).mono ?_
          rintro e w2 ⟨rfl, k2⟩
          have K2 := kr.call k2
          have HO2 := Lib.hid (Kept.own HO.out k2)
          rw [HNR.out]
          have hol : Hid ((natC (nearTo p y j)).length = l * 1) := by unfold Hid; rw [natC_len, HL.out, Nat.mul_one]
          have hz : w.heap.size ≤ w2.heap.size := K2.size
          go_wp2_with (at_builtin; refine wpList_append_own _ rfl _ _ 22 rfl w.heap.size 3 i0 (.int .i64 0) 1 8 Try.underlying22 HI.out hz0 hz1 hz2 rfl (by decide) _ l _ rfl (HO2.out.alloc _) ⟨w2.heap.size, 0, none⟩ 1 1 [.int .i64 (j : Nat)] rfl rfl (cell_one_new _ _ _) (by simp [Value.oneCell']) (by unfold maxLen; omega) (by omega) (by simp; omega) ?_; intro v3 w3 hown3 hgrow3 _; have HL3 := HO2.out.lt; have K3 : Kept w w3 := (K2.alloc _).grown hgrow3 (fun g hg => (HL3 g hg).1); rw [natC_snoc] at hown3; have HO3 := Lib.hid hown3; clear hown3)
          go_roundw
          case rel => exact ⟨j + 1, l + 1, _, rfl, by omega, by go_num, by rw [HNY.out, List.length_append, HL.out]; rfl, by rw [HNY.out]; exact HO3.out, K3⟩
          case measure => simp [intOf]; omega
      · obtain rfl : j = n := by omega
        obtain ⟨A2, c2, rfl⟩ := own_slice HO.out
        go_wp2_with fail
        (try rw [Exit.noGoto_ret])
        go_ret
        refine ⟨_, rfl, ?_, kr⟩
        rw [hyes.out, HL.out]
        exact HO.out
theorem tnear (A : Option Addr) (n c : Nat) (p : List Int) (a : Int) (w : World) (hx : IntsAt w A n c p) :
    Calls Try.prog 30 #[.slice A n c, .int .i64 a] w (RowIs (nearOf p a) w) :=
  (tnear_own A n c p a w hx).mono fun e w' ⟨v, he, ho, hk⟩ => by
    obtain ⟨A2, c2, rfl, hia⟩ := IntsAt.of_own ho
    exact ⟨A2, c2, he, hia, hk⟩
theorem or_pow_all : ∀ j : Fin 6, ∀ r : Fin 32, (r : Nat) < 2 ^ (j : Nat) → bits .or .i64 ((r : Nat) : Int) (wrap64 (2 ^ (j : Nat))) = (((r : Nat) + 2 ^ (j : Nat) : Nat) : Int) := of_decide_eq_true (by kernel_rfl)
theorem or_pow (j r : Nat) (hj : j < 6) (hr : r < 2 ^ j) : bits .or .i64 (r : Int) (wrap64 (2 ^ j)) = ((r + 2 ^ j : Nat) : Int) := by
  have h : 2 ^ j ≤ 2 ^ 5 := Nat.pow_le_pow_right (by omega) (by omega)
  exact or_pow_all ⟨j, hj⟩ ⟨r, by omega⟩ hr
end Go.Proofs.Ytbofgpmbocjbiaa
