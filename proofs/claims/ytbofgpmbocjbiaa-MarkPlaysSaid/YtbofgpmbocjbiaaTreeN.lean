/- The document's Near. -/
import Derived.Test.YtbofgpmbocjbiaaTreeU
set_option linter.unusedSimpArgs false
set_option linter.unusedVariables false
namespace Go.Proofs.Ytbofgpmbocjbiaa
open Go.RowKit

/-- Those near one, ahead of a place. -/
def nearB (p : List Int) (a i : Nat) : Bool := decide (pa p a = i) || decide (pa p i = a)
def nearTo (p : List Int) (a j : Nat) : List Nat := (List.range j).filter (nearB p a)
theorem nearTo_yes {p : List Int} {a j : Nat} (h : nearB p a j = true) : nearTo p a (j + 1) = nearTo p a j ++ [j] := by
  simp [nearTo, List.range_succ, h]
theorem nearTo_no {p : List Int} {a j : Nat} (h : nearB p a j = false) : nearTo p a (j + 1) = nearTo p a j := by
  simp [nearTo, List.range_succ, h]
theorem nearTo_len (p : List Int) (a j : Nat) : (nearTo p a j).length ≤ j := by
  have := List.length_filter_le (nearB p a) (List.range j)
  simpa [nearTo] using this
open Classical in
noncomputable def nearOf (p : List Int) (a : Int) : List Nat := if IsTree p ∧ 0 ≤ a ∧ a < p.length then nearTo p a.toNat p.length else []
set_option maxHeartbeats 2000000 in
theorem rnear (A : Option Addr) (n c : Nat) (p : List Int) (a : Int) (w : World) (hx : IntsAt w A n c p) :
    Calls Try.prog 16 #[.slice A n c, .int .i64 a] w (RowIs (nearOf p a) w) := by
  obtain ⟨i0, hi, hz0, hz1, hz2⟩ := info_parts infoInt
  have HI := Lib.hid hi
  clear hi
  have HX := Lib.hid hx
  have hnn : n ≤ 9223372036854775807 := by have h1 := hx.2.1; have h2 := hx.2.2.1; unfold maxLen at h2; omega
  clear hx
  go_enter Try.func16, Try.ntmps16
  go_wp2_with fail
  refine (rthere A n c p a w HX.out).mono ?_
  rintro e w1 ⟨B, rfl, hB, k1⟩
  have HB := Lib.hid hB
  clear hB
  cases B
  · have hno : Hid (nearOf p a = []) := by
      unfold Hid nearOf
      rw [if_neg (fun h => by have := HB.out.2 (by rw [← HX.out.1]; exact h); cases this)]
    go_wp2_with fail
    go_loopw [5, 7] (fun ov iv wr => ov = .slice none 0 0 ∧ iv = .int .i64 0 ∧ Kept w wr) (fun _ _ _ => 0)
    case atStart => exact ⟨rfl, rfl, k1⟩
    case round =>
      obtain ⟨rfl, rfl, kr⟩ := hrel
      go_wp2_with fail
      all_goals go_ret
      all_goals exact ⟨none, 0, by rw [hno.out]; rfl, by rw [hno.out]; exact ⟨rfl, Nat.le_refl _, by unfold maxLen; omega, fun _ => ⟨rfl, rfl⟩, fun h => absurd h (Nat.lt_irrefl _)⟩, kr⟩
  · obtain ⟨ht, h0, h1⟩ := HB.out.1 rfl
    obtain ⟨y, rfl⟩ := Int.eq_ofNat_of_zero_le h0
    have hyn : y < n := by omega
    have n6 : n ≤ 6 := by have := ((tree_iff p).1 ht).2.1; rw [HX.out.1] at this; exact this
    have hyes : Hid (nearOf p (y : Int) = nearTo p y n) := by
      unfold Hid nearOf
      rw [if_pos ⟨ht, by omega, by rw [HX.out.1]; omega⟩, Int.toNat_natCast, HX.out.1]
    have HX5 := Lib.hid HX.out.2.2.2.2
    clear ht h0 h1
    go_wp2_with fail
    go_loopw [5, 7] (fun ov iv wr => ∃ (j l : Nat) (v : Value), ov = v ∧ j ≤ n ∧ iv = .int .i64 j ∧ (nearTo p y j).length = l ∧ wr.ownsRow w.heap.size 3 1 v l (natC (nearTo p y j)) ∧ Kept w wr) (fun _ iv _ => n - (intOf iv).toNat)
    case atStart => exact ⟨0, 0, _, rfl, by omega, rfl, rfl, World.ownsRow_nil _ _ _ _, k1⟩
    case round =>
      obtain ⟨j, l, v, rfl, hj, rfl, hl, ho, kr⟩ := hrel
      have hl6 : l ≤ j := by rw [← hl]; exact nearTo_len p y j
      have HL := Lib.hid hl
      have HO := Lib.hid ho
      clear hl ho
      by_cases hlt : j < n
      · obtain ⟨b, off, rfl, hc⟩ := HX5.out (by omega)
        have c1 : wr.cell? ⟨b, off + y, none⟩ = some (.int .i64 (pa p y)) := kr.at_ (hc y hyn)
        have c2 : wr.cell? ⟨b, off + j, none⟩ = some (.int .i64 (pa p j)) := kr.at_ (hc j hlt)
        have hol : Hid ((natC (nearTo p y j)).length = l * 1) := by unfold Hid; rw [natC_len, HL.out, Nat.mul_one]
        have hz : w.heap.size ≤ wr.heap.size := kr.size
        clear hc
        by_cases e1 : pa p y = j
        · have HNY : Hid (nearTo p y (j + 1) = nearTo p y j ++ [j]) := nearTo_yes (by simp [nearB, e1])
          have d1 : (pa p y == (j : Int)) = true := by simp [e1]
          clear e1
          go_wp2_with (at_builtin; refine wpList_append_own _ rfl _ _ 22 rfl w.heap.size 3 i0 (.int .i64 0) 1 8 Try.underlying22 HI.out hz0 hz1 hz2 rfl (by decide) _ l _ rfl (HO.out.alloc _) ⟨wr.heap.size, 0, none⟩ 1 1 [.int .i64 (j : Nat)] rfl rfl (cell_one_new _ _ _) (by simp [Value.oneCell']) (by unfold maxLen; omega) (by omega) (by simp; omega) ?_; intro v3 w3 hown3 hgrow3 _; have HL3 := HO.out.lt; have K3 : Kept w w3 := (kr.alloc _).grown hgrow3 (fun g hg => (HL3 g hg).1); rw [natC_snoc] at hown3; have HO3 := Lib.hid hown3; clear hown3)
          go_roundw
          case rel => exact ⟨j + 1, l + 1, _, rfl, by omega, by go_num, by rw [HNY.out, List.length_append, HL.out]; rfl, by rw [HNY.out]; exact HO3.out, K3⟩
          case measure => simp [intOf]; omega
        · have d1 : (pa p y == (j : Int)) = false := by simp [e1]
          by_cases e2 : pa p j = y
          · have HNY : Hid (nearTo p y (j + 1) = nearTo p y j ++ [j]) := nearTo_yes (by simp [nearB, e2])
            have d2 : (pa p j == (y : Int)) = true := by simp [e2]
            clear e1 e2
            go_wp2_with (at_builtin; refine wpList_append_own _ rfl _ _ 22 rfl w.heap.size 3 i0 (.int .i64 0) 1 8 Try.underlying22 HI.out hz0 hz1 hz2 rfl (by decide) _ l _ rfl (HO.out.alloc _) ⟨wr.heap.size, 0, none⟩ 1 1 [.int .i64 (j : Nat)] rfl rfl (cell_one_new _ _ _) (by simp [Value.oneCell']) (by unfold maxLen; omega) (by omega) (by simp; omega) ?_; intro v3 w3 hown3 hgrow3 _; have HL3 := HO.out.lt; have K3 : Kept w w3 := (kr.alloc _).grown hgrow3 (fun g hg => (HL3 g hg).1); rw [natC_snoc] at hown3; have HO3 := Lib.hid hown3; clear hown3)
            go_roundw
            case rel => exact ⟨j + 1, l + 1, _, rfl, by omega, by go_num, by rw [HNY.out, List.length_append, HL.out]; rfl, by rw [HNY.out]; exact HO3.out, K3⟩
            case measure => simp [intOf]; omega
          · have HNN : Hid (nearTo p y (j + 1) = nearTo p y j) := nearTo_no (by simp [nearB, e1, e2])
            have d2 : (pa p j == (y : Int)) = false := by simp [e2]
            clear e1 e2
            go_wp2_with fail
            go_roundw
            case rel => exact ⟨j + 1, l, _, rfl, by omega, by go_num, by rw [HNN.out]; exact HL.out, by rw [HNN.out]; exact HO.out, kr⟩
            case measure => simp [intOf]; omega
      · obtain rfl : j = n := by omega
        obtain ⟨A2, c2, rfl, hia⟩ := IntsAt.of_own HO.out
        have HIA := Lib.hid hia
        clear hia
        go_wp2_with fail
        go_ret
        refine ⟨A2, c2, by rw [hyes.out, HL.out]; rfl, ?_, kr⟩
        rw [hyes.out, HL.out]
        exact HIA.out
end Go.Proofs.Ytbofgpmbocjbiaa
