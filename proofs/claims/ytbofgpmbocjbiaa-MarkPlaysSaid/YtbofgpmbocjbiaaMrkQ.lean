/- The laws' made: a tree by numbers. -/
import Derived.Test.YtbofgpmbocjbiaaMrkK
import Derived.Test.YtbofgpmbocjbiaaFld
import Derived.OneCell
import Derived.Maps.AppendAt
import Derived.Outline
set_option linter.unusedSimpArgs false
set_option linter.unusedVariables false
namespace Go.Proofs.Ytbofgpmbocjbiaa
open Go.RowKit

/-- The parents that are meant, j of them ahead of the last one. -/
def psOf (l : List Int) (j : Nat) : List Int := (List.range (j + 1)).map fun i => if i = 0 then -1 else (parOf l i : Int)
theorem psOf_zero (l : List Int) : psOf l 0 = [-1] := rfl
theorem psOf_succ (l : List Int) (j : Nat) : intC (psOf l j) ++ [.int .i64 (parOf l (j + 1) : Int)] = intC (psOf l (j + 1)) := by
  unfold psOf intC
  rw [List.range_succ (n := j + 1)]
  simp
theorem psOf_len (l : List Int) (j : Nat) : (psOf l j).length = j + 1 := by simp [psOf]
theorem psOf_at (l : List Int) {j i : Nat} (hi : i ≤ j) : pa (psOf l j) i = if i = 0 then -1 else (parOf l i : Int) := by
  unfold pa psOf
  rw [List.getElem?_map, List.getElem?_range (by omega)]
  rfl
theorem psOf_made (l : List Int) {j : Nat} (hj : j ≤ 5) : Made (psOf l j) (j + 1) 0 (parOf l) := by
  refine ⟨psOf_len l j, by omega, by omega, fun i h1 h2 => (par_is l i h1).2, fun i hi => ?_⟩
  rw [Nat.add_zero, Nat.mod_eq_of_lt hi, psOf_at l (by omega)]
  by_cases h0 : i = 0
  · rw [if_pos h0, if_pos h0]
  · rw [if_neg h0, if_neg h0, Nat.add_zero, Nat.mod_eq_of_lt]
    have := (par_is l i (by omega)).2
    omega
theorem psOf_tree (l : List Int) {j : Nat} (hj : j ≤ 5) : IsTree (psOf l j) := (psOf_made l hj).tree
theorem new_cell {w0 wd : World} {x : Value} {t : TypeId} (h : Kept (w0.alloc (.cells #[x] t)) wd) : ∀ (j : Nat) (u : Value), [x][j]? = some u → wd.cell? ((⟨w0.heap.size, 0, none⟩ : Addr).add j) = some u :=
  fun j u hu => h.at_ (cell_one_new _ _ _ j u hu)
/-- A tree of one to six sites, in memory. -/
def MadeTree (w : World) (e : Ending) (w' : World) : Prop := ∃ (p : List Int) (g n c : Nat), e = .returned (.slice (some ⟨g, 0, none⟩) n c) ∧ IntsAt w' (some ⟨g, 0, none⟩) n c p ∧ IsTree p ∧ p.length = n ∧ w.heap.size ≤ g ∧ Kept w w'
set_option maxRecDepth 20000 in
set_option maxHeartbeats 2000000 in
theorem made_any (A : Option Addr) (m c : Nat) (l : List Int) (w : World) (hx : IntsAt w A m c l) :
    Calls Try.prog 9 #[.slice A m c] w (MadeTree w) := by
  obtain ⟨i0, hi, hz0, hz1, hz2⟩ := info_parts infoInt
  have hm : m ≤ 9223372036854775807 := by have h1 := hx.2.1; have h2 := hx.2.2.1; unfold maxLen at h2; omega
  have HX := Lib.hid hx
  have HI := Lib.hid hi
  clear hx hi
  go_enter Try.func9, Try.ntmps9
  go_wp2_with fail
  have hO0 : Hid ((w.alloc (.cells #[.int .i64 (-1)] 3)).ownsRow w.heap.size 3 1 (.slice (some ⟨w.heap.size, 0, none⟩) 1 1) 1 (intC (psOf l 0))) := own_new w 3 [.int .i64 (-1)] 1 1 rfl (by unfold maxLen; omega)
  go_loopw [3, 4] (fun pv iv wr => ∃ (j : Nat) (v : Value), pv = v ∧ j ≤ m ∧ j ≤ 5 ∧ iv = .int .i64 j ∧ Hid (wr.ownsRow w.heap.size 3 1 v (j + 1) (intC (psOf l j))) ∧ Kept w wr) (fun _ iv _ => m - (intOf iv).toNat)
  case atStart => exact ⟨0, _, rfl, by omega, by omega, rfl, hO0, by repeat (first | exact Kept.refl _ | assumption | (refine Kept.alloc ?_ _) | (refine Kept.setCell ?_ (by first | omega | (simp; omega) | simp) _) | refine Kept.drew ?_ | refine Kept.drewN ?_ _ | (apply Kept.call; rotate_left; assumption))⟩
  case round =>
    clear hO0
    obtain ⟨j, v, rfl, hjm, hj5, rfl, HO, kr⟩ := hrel
    by_cases hlt : j < m ∧ j < 5
    · have e1 : decide ((j : Int) < m) = true := by simp; omega
      have e2 : decide ((j : Int) < 5) = true := by simp; omega
      obtain ⟨zb, zo, rfl, hzc⟩ := HX.out.2.2.2.2 (by omega)
      have cz : wr.cell? ⟨zb, zo + j, none⟩ = some (.int .i64 (pa l j)) := kr.at_ (hzc j hlt.1)
      obtain ⟨hp1, hp2⟩ := par_is l (j + 1) (by omega)
      have hb := tmod_bd (pa l j) ((j : Int) + 1) (by omega)
      have hp3 : ((pa l j).tmod ((j : Int) + 1) + (j : Int) + 1).tmod ((j : Int) + 1) = (parOf l (j + 1) : Int) := by
        rw [Int.add_assoc]
        exact hp1
      have hsu := Lib.hid (psOf_succ l j)
      have hol : Hid ((intC (psOf l j)).length = (j + 1) * 1) := by unfold Hid; rw [intC_len, psOf_len, Nat.mul_one]
      have hz : w.heap.size ≤ wr.heap.size := kr.size
      obtain ⟨gA, gc, rfl⟩ := own_slice HO.out
      obtain ⟨xs, hxs⟩ : ∃ xs, intC (psOf l j) = xs := ⟨_, rfl⟩
      rw [hxs] at HO hol hsu
      obtain ⟨ys, hys⟩ : ∃ ys, intC (psOf l (j + 1)) = ys := ⟨_, rfl⟩
      have HYS := Lib.hid hys
      rw [hys] at hsu
      clear hzc hp1 hxs hys
      generalize pa l j = x at *
      generalize parOf l (j + 1) = q at *
      have hne0 : ((j : Int) + 1 == 0) = false := by simp; omega
      go_wp2_with (at_builtin; refine wpList_append_own _ rfl _ _ 22 rfl w.heap.size 3 i0 (.int .i64 0) 1 8 Try.underlying22 HI.out hz0 hz1 hz2 rfl (by decide) _ (j + 1) _ rfl (HO.out.alloc _) ⟨wr.heap.size, 0, none⟩ 1 1 [.int .i64 (q : Int)] rfl rfl (cell_one_new _ _ _) (by simp [Value.oneCell']) (by unfold maxLen; omega) (by omega) (by simp; omega) ?_; intro v3 w3 hown3 hgrow3 _; have HL3 := HO.out.lt; have K3 : Kept w w3 := (kr.alloc _).grown hgrow3 (fun g hg => (HL3 g hg).1); rw [hsu.out] at hown3; have HO3 := Lib.hid hown3; clear hown3 hgrow3)
      have HO4 : Hid (w3.ownsRow w.heap.size 3 1 v3 (j + 1 + 1) (intC (psOf l (j + 1)))) := by rw [HYS.out]; exact HO3.out
      clear hol HO HO3
      go_roundw
      case rel => first | exact ⟨j + 1, v3, rfl, by omega, by omega, by go_num, HO4, K3⟩ | ((repeat apply Exists.intro); exact ⟨⟨j + 1, v3, rfl, by omega, by omega, by go_num, HO4, K3⟩, rfl⟩)
      case measure => simp [intOf]; omega
    · have hcase : decide ((j : Int) < m) = false ∨ (decide ((j : Int) < m) = true ∧ decide ((j : Int) < 5) = false) := by
        by_cases h : j < m
        · exact .inr ⟨by simp; omega, by simp; omega⟩
        · exact .inl (by simp; omega)
      obtain ⟨g, d, rfl, hg1, hg2⟩ := own_some HO.out (by omega)
      have HIA : Hid (IntsAt wr (some ⟨g, 0, none⟩) (j + 1) d (psOf l j)) := by
        obtain ⟨A9, c9, e9, h9⟩ := IntsAt.of_ownI HO.out
        cases e9
        exact h9
      clear HO
      rcases hcase with e1 | ⟨e1, e2⟩
      all_goals
        (go_wp2_with fail
         all_goals go_ret
         all_goals exact ⟨psOf l j, g, j + 1, d, rfl, HIA.out, psOf_tree l hj5, psOf_len l j, hg1, kr⟩)
end Go.Proofs.Ytbofgpmbocjbiaa
