/- The document's Owns, First, Ranges, at any row. -/
import Derived.Test.YtahokiopapenbaaTabL
set_option linter.unusedSimpArgs false
set_option linter.unusedVariables false
namespace Go.Proofs.Ytahokiopapenbaa
open Go.RowKit

theorem rbit_g (o s : Int) (w : World) (h0 : 0 ≤ o) (h : o < 64) (s0 : 0 ≤ s) (s6 : s < 6) :
    Calls Try.prog 34 #[.int .i64 o, .int .i64 s] w fun e w' => e = .returned (.bool (bitB o s)) ∧ Kept w w' := by
  obtain ⟨M, rfl⟩ := Int.eq_ofNat_of_zero_le h0
  obtain ⟨t, rfl⟩ := Int.eq_ofNat_of_zero_le s0
  have e : bitB (M : Int) (t : Int) = decide (M / 2 ^ t % 2 = 1) := by
    have e2 : ((M / 2 ^ t : Nat) : Int) = (M : Int) / (2 : Int) ^ t := by simp
    unfold bitB
    rw [decide_eq_true (show (0 : Int) ≤ (t : Int) by omega), decide_eq_true s6, Int.toNat_natCast, ← e2]
    simp only [Bool.true_and]
    exact decide_eq_decide.2 (by omega)
  rw [e]
  exact rbit_any M t w (by omega) (by omega)
set_option maxHeartbeats 1000000 in
theorem rowns_g (A B C : Option Addr) (n1 c1 n2 c2 n3 c3 : Nat) (rs : List Rg) (os ps : List Int) (s : Int) (k : ByteArray) (w : World) (hr : RowW w A n1 c1 B n2 c2 C n3 c3 rs os ps) (hs : Small rs) :
    Calls Try.prog 25 #[.agg #[.slice A n1 c1, .slice B n2 c2, .slice C n3 c3], .int .i64 s, .string k] w fun e w' => ∃ b, e = .returned (.bool b) ∧ Hid (∀ o, OwnR rs os n3 k o → b = bitB o s) ∧ Kept w w' := by
  have HR := Lib.hid hr
  have HS := Lib.hid hs
  clear hr hs
  rcases Int.lt_or_le s 0 with hs0 | hs0
  · have hF : Hid (∀ o, bitB o s = false) := fun o => bit_out (by omega)
    have d1 : decide ((0 : Int) ≤ s) = false := by simp; omega
    go_enter Try.func25, Try.ntmps25
    go_wp2_with fail
    go_ret
    exact ⟨false, rfl, fun o _ => (hF.out o).symm, by repeat (first | exact Kept.refl _ | assumption | (refine Kept.alloc ?_ _) | (refine Kept.setCell ?_ (by first | omega | (simp; omega) | simp) _) | refine Kept.drew ?_ | refine Kept.drewN ?_ _ | (apply Kept.call; rotate_left; assumption))⟩
  rcases Int.lt_or_le s 6 with hs6 | hs6
  · have d1 : decide ((0 : Int) ≤ s) = true := by simp; omega
    have d2 : decide (s < 6) = true := by simp; omega
    go_enter Try.func25, Try.ntmps25
    go_wp2_with fail
    refine (rowners_g A B C n1 c1 n2 c2 n3 c3 rs os ps k _ (HR.out.keep (by repeat (first | exact Kept.refl _ | assumption | (refine Kept.alloc ?_ _) | (refine Kept.setCell ?_ (by first | omega | (simp; omega) | simp) _) | refine Kept.drew ?_ | refine Kept.drewN ?_ _ | (apply Kept.call; rotate_left; assumption)))) HS.out).mono ?_
    rintro e w1 ⟨o, rfl, ho, k1⟩
    have HO := Lib.hid ho
    have hb := ho.bd
    clear ho
    have K1 : Kept w w1 := Kept.call (by repeat (first | exact Kept.refl _ | assumption | (refine Kept.alloc ?_ _) | (refine Kept.setCell ?_ (by first | omega | (simp; omega) | simp) _) | refine Kept.drew ?_ | refine Kept.drewN ?_ _ | (apply Kept.call; rotate_left; assumption))) k1
    go_wp2_with fail
    refine (rbit_g o s _ hb.1 hb.2 hs0 hs6).mono ?_
    rintro e w2 ⟨rfl, k2⟩
    go_wp2_with fail
    go_ret
    exact ⟨bitB o s, rfl, fun p hp => by rw [HO.out.one hp], K1.call k2⟩
  · have hF : Hid (∀ o, bitB o s = false) := fun o => bit_out (by omega)
    have d1 : decide ((0 : Int) ≤ s) = true := by simp; omega
    have d2 : decide (s < 6) = false := by simp; omega
    go_enter Try.func25, Try.ntmps25
    go_wp2_with fail
    go_ret
    exact ⟨false, rfl, fun o _ => (hF.out o).symm, by repeat (first | exact Kept.refl _ | assumption | (refine Kept.alloc ?_ _) | (refine Kept.setCell ?_ (by first | omega | (simp; omega) | simp) _) | refine Kept.drew ?_ | refine Kept.drewN ?_ _ | (apply Kept.call; rotate_left; assumption))⟩
set_option maxHeartbeats 1000000 in
theorem rfirst_g (A B C : Option Addr) (n1 c1 n2 c2 n3 c3 : Nat) (rs : List Rg) (os ps : List Int) (k : ByteArray) (w : World) (hr : RowW w A n1 c1 B n2 c2 C n3 c3 rs os ps) (hs : Small rs) :
    Calls Try.prog 26 #[.agg #[.slice A n1 c1, .slice B n2 c2, .slice C n3 c3], .string k] w fun e w' => ∃ r, e = .returned (.int .i64 r) ∧ Hid (∀ o, OwnR rs os n3 k o → FirstB o r) ∧ Kept w w' := by
  have HR := Lib.hid hr
  have HS := Lib.hid hs
  clear hr hs
  go_enter Try.func26, Try.ntmps26
  go_wp2_with fail
  go_loopw [5] (fun iv wr => ∃ i : Nat, i ≤ 6 ∧ iv = .int .i64 i ∧ (wr.cell? ⟨w.heap.size, 0, none⟩ = some (.slice A n1 c1) ∧ wr.cell? ⟨w.heap.size, 1, none⟩ = some (.slice B n2 c2) ∧ wr.cell? ⟨w.heap.size, 2, none⟩ = some (.slice C n3 c3)) ∧ Kept w wr ∧ Hid (∀ o, OwnR rs os n3 k o → ∀ j : Nat, j < i → bitB o j = false)) (fun iv _ => 6 - (intOf iv).toNat)
  case atStart => exact ⟨0, by omega, rfl, ⟨by go_simp, by go_simp, by go_simp⟩, by repeat (first | exact Kept.refl _ | assumption | (refine Kept.alloc ?_ _) | (refine Kept.setCell ?_ (by first | omega | (simp; omega) | simp) _) | refine Kept.drew ?_ | refine Kept.drewN ?_ _ | (apply Kept.call; rotate_left; assumption)), fun o _ j h => by omega⟩
  case round =>
    obtain ⟨i, hi, rfl, ⟨e0, e1, e2⟩, kr, hall⟩ := hrel
    by_cases hlt : i < 6
    · go_wp2_with fail
      refine (rowns_g A B C n1 c1 n2 c2 n3 c3 rs os ps i k _ (HR.out.keep kr) HS.out).mono ?_
      rintro e w2 ⟨b, rfl, hb, k2⟩
      have K2 := kr.call k2
      have e0 := k2.at_ e0
      have e1 := k2.at_ e1
      have e2 := k2.at_ e2
      cases b
      · have hn : Hid (∀ o, OwnR rs os n3 k o → ∀ j : Nat, j < i + 1 → bitB o j = false) := fun o ho j hj => by
          rcases Nat.lt_or_ge j i with g | g
          · exact hall.out o ho j g
          · obtain rfl : j = i := by omega
            exact (hb.out o ho).symm
        clear hb hall
        go_wp2_with fail
        go_roundw
        case rel => first | exact ⟨i + 1, by omega, by go_num, ⟨e0, e1, e2⟩, K2, hn⟩ | ((repeat apply Exists.intro); exact ⟨⟨i + 1, by omega, by go_num, ⟨e0, e1, e2⟩, K2, hn⟩, rfl⟩)
        case measure => first | (simp [intOf]; done) | (simp [intOf]; omega)
      · have hn : Hid (∀ o, OwnR rs os n3 k o → FirstB o i) := fun o ho => .inr ⟨i, rfl, hlt, (hb.out o ho).symm, hall.out o ho⟩
        clear hb hall
        go_wp2_with fail
        go_ret
        exact ⟨i, rfl, hn, K2⟩
    · obtain rfl : i = 6 := by omega
      have hn : Hid (∀ o, OwnR rs os n3 k o → FirstB o (-1)) := fun o ho => .inl ⟨rfl, hall.out o ho⟩
      clear hall
      go_wp2_with fail
      go_ret
      exact ⟨-1, rfl, hn, kr⟩
end Go.Proofs.Ytahokiopapenbaa
