/- The program's Ranges, at any row. -/
import Derived.Test.YtahokiopapenbaaTabD
set_option linter.unusedSimpArgs false
set_option linter.unusedVariables false
namespace Go.Proofs.Ytahokiopapenbaa
open Go.RowKit

theorem rowS_nil (w : World) : RowS w none 0 0 [] := ⟨rfl, Nat.le_refl _, by unfold maxLen; omega, fun _ => ⟨rfl, rfl⟩, fun h => absurd h (by omega)⟩
/-- A site's ranges, ahead of a place. -/
def rowG (rs : List Rg) (os : List Int) (s : Int) (j : Nat) : List Rg := ((List.range j).filter fun i => bitB (oa os i) s).map fun i => rg rs i
theorem rowG_yes {rs : List Rg} {os : List Int} {s : Int} {j : Nat} (h : bitB (oa os j) s = true) : rowG rs os s (j + 1) = rowG rs os s j ++ [rg rs j] := by simp [rowG, List.range_succ, h]
theorem rowG_no {rs : List Rg} {os : List Int} {s : Int} {j : Nat} (h : bitB (oa os j) s = false) : rowG rs os s (j + 1) = rowG rs os s j := by simp [rowG, List.range_succ, h]
theorem rowG_len (rs : List Rg) (os : List Int) (s : Int) (j : Nat) : (rowG rs os s j).length ≤ j := by
  have := List.length_filter_le (fun i => bitB (oa os i) s) (List.range j)
  simpa [rowG] using this
theorem bit_out {o s : Int} (h : ¬ (0 ≤ s ∧ s < 6)) : bitB o s = false := by
  unfold bitB
  rcases Int.lt_or_le s 0 with g | g
  · rw [decide_eq_false (show ¬ (0 : Int) ≤ s by omega)]; rfl
  · rw [decide_eq_false (show ¬ s < 6 by omega), Bool.and_false]; rfl
theorem rowG_out {rs : List Rg} {os : List Int} {s : Int} (h : ¬ (0 ≤ s ∧ s < 6)) : ∀ j, rowG rs os s j = []
  | 0 => rfl
  | j + 1 => by rw [rowG_no (bit_out h), rowG_out h j]
/-- A site's ranges in a row. -/
noncomputable def rowF (rs : List Rg) (os : List Int) (n : Nat) (s : Int) : List Rg := if fitB rs os n = true then rowG rs os s rs.length else []
theorem rowF_no {rs : List Rg} {os : List Int} {n : Nat} {s : Int} (h : fitB rs os n = false) : rowF rs os n s = [] := by unfold rowF; rw [h]; rfl
theorem rowF_yes {rs : List Rg} {os : List Int} {n m : Nat} {s : Int} (h : fitB rs os n = true) (hm : rs.length = m) : rowF rs os n s = rowG rs os s m := by unfold rowF; rw [h, hm]; rfl
set_option maxHeartbeats 2000000 in
theorem tranges_g (A B C : Option Addr) (n1 c1 n2 c2 n3 c3 : Nat) (rs : List Rg) (os ps : List Int) (s : Int) (w : World) (hr : RowW w A n1 c1 B n2 c2 C n3 c3 rs os ps) (hs : Small rs) :
    Calls Try.prog 20 #[.agg #[.slice A n1 c1, .slice B n2 c2, .slice C n3 c3], .int .i64 s] w fun e w' => ∃ D c4, e = .returned (.slice D (rowF rs os n3 s).length c4) ∧ RowS w' D (rowF rs os n3 s).length c4 (rowF rs os n3 s) ∧ Kept w w' := by
  obtain ⟨fb, hfb⟩ : ∃ fb, fitB rs os n3 = fb := ⟨_, rfl⟩
  have HFB := Lib.hid hfb
  have HR := Lib.hid hr
  have HS := Lib.hid hs
  cases fb
  · rw [rowF_no hfb]
    have hb := hr.bd
    clear hr hs hfb
    go_enter Try.func20, Try.ntmps20
    go_wp2_with fail
    go_step3
    go_wp2_with fail
    refine (tcheck_g A B C n1 c1 n2 c2 n3 c3 rs os ps _ (HR.out.keep (by repeat (first | exact Kept.refl _ | assumption | (refine Kept.alloc ?_ _) | (refine Kept.setCell ?_ (by first | omega | (simp; omega) | simp) _) | refine Kept.drew ?_ | refine Kept.drewN ?_ _ | (apply Kept.call; rotate_left; assumption)))) HS.out).mono ?_
    rintro e w1 ⟨rfl, k1⟩
    rw [HFB.out]
    have K1 : Kept w w1 := Kept.call (by repeat (first | exact Kept.refl _ | assumption | (refine Kept.alloc ?_ _) | (refine Kept.setCell ?_ (by first | omega | (simp; omega) | simp) _) | refine Kept.drew ?_ | refine Kept.drewN ?_ _ | (apply Kept.call; rotate_left; assumption))) k1
    go_wp2_with fail
    (try rw [Exit.noGoto_ret])
    go_ret
    exact ⟨none, 0, rfl, rowS_nil _, K1⟩
  rw [rowF_yes hfb (hr.rs.1)]
  obtain ⟨i0, hi, hz0, hz1, hz2⟩ := info_parts infoRg
  have HI := Lib.hid hi
  have hfit := (fitB_iff _ _ _).1 hfb
  have h2 : n2 = n1 := by have h1 := hr.rs.1; have h2 := hr.os.1; have h3 := hfit.2.2.2.1; omega
  have hn8 : n1 ≤ 8 := by have h1 := hr.rs.1; have h3 := hfit.2.2.1; omega
  have hn0 : 1 ≤ n1 := by have h1 := hr.rs.1; have h3 := ((wholeB_iff _).1 hfit.2.2.2.2.1).2.1; omega
  obtain ⟨ob, oo, rfl, hoc⟩ := hr.os.2.2.2.2 (by omega)
  obtain ⟨rb, ro, rfl, hrc⟩ := hr.rs.2.2.2.2 (by omega)
  have HOC : Hid (∀ i, i < n2 → w.cell? ⟨ob, oo + i, none⟩ = some (.int .i64 (oa os i))) := hoc
  have HRC : Hid (∀ i, i < n1 → w.cell? ⟨rb, ro + i * 2, none⟩ = some (.string (rg rs i).1) ∧ w.cell? ⟨rb, ro + i * 2 + 1, none⟩ = some (.string (rg rs i).2)) := hrc
  have HB : Hid (∀ i, i < n1 → 0 ≤ oa os i ∧ oa os i < 64) := fun i hi => by
    have h4 := hfit.2.2.2.2.2 i (by have h1 := hr.os.1; omega)
    have h5 := two_le hfit.2.1
    omega
  have hb := hr.bd
  have hc1 : n1 ≤ c1 := hr.rs.2.1
  have hc2 : n2 ≤ c2 := hr.os.2.1
  clear hr hs hfit hoc hrc hi hfb
  subst h2
  go_enter Try.func20, Try.ntmps20
  go_wp2_with fail
  go_step3
  go_wp2_with fail
  refine (tcheck_g _ _ C n2 c1 n2 c2 n3 c3 rs os ps _ (HR.out.keep (by repeat (first | exact Kept.refl _ | assumption | (refine Kept.alloc ?_ _) | (refine Kept.setCell ?_ (by first | omega | (simp; omega) | simp) _) | refine Kept.drew ?_ | refine Kept.drewN ?_ _ | (apply Kept.call; rotate_left; assumption)))) HS.out).mono ?_
  rintro e w1 ⟨rfl, k1⟩
  rw [HFB.out]
  have K1 : Kept w w1 := Kept.call (by repeat (first | exact Kept.refl _ | assumption | (refine Kept.alloc ?_ _) | (refine Kept.setCell ?_ (by first | omega | (simp; omega) | simp) _) | refine Kept.drew ?_ | refine Kept.drewN ?_ _ | (apply Kept.call; rotate_left; assumption))) k1
  have e0 : w1.cell? ⟨w.heap.size, 0, none⟩ = some (.slice (some ⟨rb, ro, none⟩) n2 c1) := k1.at_ (by go_simp)
  have e1 : w1.cell? ⟨w.heap.size, 1, none⟩ = some (.slice (some ⟨ob, oo, none⟩) n2 c2) := k1.at_ (by go_simp)
  go_wp2_with fail
  go_step3
  go_wp2_with fail
  go_loopw [5, 14] (fun ov iv wr => ∃ (j l : Nat) (v : Value), ov = v ∧ j ≤ n2 ∧ iv = .int .i64 j ∧ (rowG rs os s j).length = l ∧ Hid (l = 0 → v = .slice none 0 0) ∧ wr.ownsRow w1.heap.size 35 2 v l (rgC (rowG rs os s j)) ∧ Kept w1 wr) (fun _ iv _ => n2 - (intOf iv).toNat)
  case atStart => exact ⟨0, 0, _, rfl, by omega, rfl, rfl, fun _ => rfl, World.ownsRow_nil _ _ _ _, Kept.refl w1⟩
  case round =>
    obtain ⟨j, l, v, rfl, hj, rfl, hl, hvn, ho, kr⟩ := hrel
    have hl6 : l ≤ j := by rw [← hl]; exact rowG_len rs os s j
    have HL := Lib.hid hl
    have HO := Lib.hid ho
    clear hl ho
    by_cases hlt : j < n2
    · have co : wr.cell? ⟨ob, oo + j, none⟩ = some (.int .i64 (oa os j)) := kr.at_ (K1.at_ (HOC.out j hlt))
      have cr1 : wr.cell? ⟨rb, ro + j * 2, none⟩ = some (.string (rg rs j).1) := kr.at_ (K1.at_ (HRC.out j hlt).1)
      have cr2 : wr.cell? ⟨rb, ro + j * 2 + 1, none⟩ = some (.string (rg rs j).2) := kr.at_ (K1.at_ (HRC.out j hlt).2)
      have e1 := kr.at_ e1
      have q1 : w.heap.size < wr.heap.size := World.block_lt_of_cell? wr _ e1
      have q2 : ob < wr.heap.size := World.block_lt_of_cell? wr _ co
      have ho2 := HB.out j hlt
      have HNN : Hid (bitB (oa os j) s = false → rowG rs os s (j + 1) = rowG rs os s j) := rowG_no
      have HNY : Hid (bitB (oa os j) s = true → rowG rs os s (j + 1) = rowG rs os s j ++ [rg rs j]) := rowG_yes
      generalize oa os j = o at *
      generalize rg rs j = q at *
      obtain ⟨f, t⟩ := q
      simp only at cr1 cr2
      go_wp2_with fail
      refine (thas o s _ ho2.1 ho2.2).mono ?_
      rintro e w2 ⟨rfl, k2⟩
      have K2 : Kept w1 w2 := Kept.call (by repeat (first | exact Kept.refl _ | assumption | (refine Kept.alloc ?_ _) | (refine Kept.setCell ?_ (by first | omega | (simp; omega) | simp) _) | refine Kept.drew ?_ | refine Kept.drewN ?_ _ | (apply Kept.call; rotate_left; assumption))) k2
      have r1 : w2.cell? ⟨wr.heap.size, 0, none⟩ = some (.string f) := k2.at_ (by go_simp)
      have r2 : w2.cell? ⟨wr.heap.size, 1, none⟩ = some (.string t) := k2.at_ (by go_simp)
      cases hv : bitB o s
      · have hn := Lib.hid (HNN.out hv)
        have HO2 := Lib.hid (Kept.own HO.out (Kept.call (by repeat (first | exact Kept.refl _ | assumption | (refine Kept.alloc ?_ _) | (refine Kept.setCell ?_ (by first | omega | (simp; omega) | simp) _) | refine Kept.drew ?_ | refine Kept.drewN ?_ _ | (apply Kept.call; rotate_left; assumption))) k2))
        clear hv
        go_wp2_with fail
        go_roundw
        case rel => exact ⟨j + 1, l, _, rfl, by omega, by go_num, by rw [hn.out]; exact HL.out, hvn, by rw [hn.out]; exact HO2.out, K2⟩
        case measure => simp [intOf]; omega
      · have hn := Lib.hid (HNY.out hv)
        have HO2 := Lib.hid (Kept.own HO.out (Kept.call (by repeat (first | exact Kept.refl _ | assumption | (refine Kept.alloc ?_ _) | (refine Kept.setCell ?_ (by first | omega | (simp; omega) | simp) _) | refine Kept.drew ?_ | refine Kept.drewN ?_ _ | (apply Kept.call; rotate_left; assumption))) k2))
        have hol : Hid ((rgC (rowG rs os s j)).length = l * 2) := by unfold Hid; rw [rgC_len, HL.out]
        have hz : w1.heap.size ≤ w2.heap.size := K2.size
        clear hv
        go_wp2_with (at_builtin; refine wpList_append_own _ rfl _ _ 29 rfl w1.heap.size 35 i0 (.agg #[.string ⟨#[]⟩, .string ⟨#[]⟩]) 2 32 Try.underlying29 HI.out hz0 hz1 hz2 rfl (by decide) _ l _ rfl (HO2.out.alloc _) ⟨w2.heap.size, 0, none⟩ 1 1 [.string f, .string t] rfl rfl (cells_two _ _ _ _) (by simp [Value.oneCell']) (by unfold maxLen; omega) (by omega) (by simp; omega) ?_; intro v3 w3 hown3 hgrow3 _; have HL3 := HO2.out.lt; have K3 : Kept w1 w3 := (K2.alloc _).grown hgrow3 (fun g hg => (HL3 g hg).1); rw [rgC_snoc _ (f, t)] at hown3; have HO3 := Lib.hid hown3; clear hown3)
        go_roundw
        case rel => exact ⟨j + 1, l + 1, _, rfl, by omega, by go_num, by rw [hn.out, List.length_append, HL.out]; rfl, fun h => absurd h (by omega), by rw [hn.out]; exact HO3.out, K3⟩
        case measure => simp [intOf]; omega
    · obtain rfl : j = n2 := by omega
      obtain ⟨A2, c4, rfl, hia⟩ := RowS.of_own HO.out
      have HIA := Lib.hid hia
      clear hia
      go_wp2_with fail
      (try rw [Exit.noGoto_ret])
      go_ret
      exact ⟨A2, c4, by rw [HL.out]; rfl, by rw [HL.out]; exact HIA.out, K1.call kr⟩
end Go.Proofs.Ytahokiopapenbaa
