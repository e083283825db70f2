/- The program's First and Ranges. -/
import Derived.Test.YtahokiopapenbaaTabR
set_option linter.unusedSimpArgs false
set_option linter.unusedVariables false
namespace Go.Proofs.Ytahokiopapenbaa
open Go.RowKit

def FirstB (m : Int) (r : Int) : Prop := (r = -1 ∧ ∀ i : Nat, i < 6 → bitB m i = false) ∨ ∃ i : Nat, r = i ∧ i < 6 ∧ bitB m i = true ∧ ∀ j : Nat, j < i → bitB m j = false
set_option maxHeartbeats 1000000 in
theorem tfirst_yes (A B C : Option Addr) (n1 c1 n2 c2 n3 c3 : Nat) (es : List Nat) (os ps : List Int) (k : ByteArray) (w : World) (hr : RowW w A n1 c1 B n2 c2 C n3 c3 (rgs es) os ps) (hf : Fit es os n3) :
    Calls Try.prog 16 #[.agg #[.slice A n1 c1, .slice B n2 c2, .slice C n3 c3], .string k] w fun e w' => ∃ r, e = .returned (.int .i64 r) ∧ FirstB (oa os (findI es (hv k))) r ∧ Kept w w' := by
  have HR := Lib.hid hr
  have HF := Lib.hid hf
  have hb := oa_bd hf (find_le es (hv k))
  clear hr hf
  obtain ⟨o, ho⟩ : ∃ o, oa os (findI es (hv k)) = o := ⟨_, rfl⟩
  rw [ho] at hb ⊢
  have HO := Lib.hid ho
  clear ho
  go_enter Try.func16, Try.ntmps16
  go_wp2_with fail
  refine (towners_yes A B C n1 c1 n2 c2 n3 c3 es os ps k _ (HR.out.keep (by repeat (first | exact Kept.refl _ | assumption | (refine Kept.alloc ?_ _) | (refine Kept.setCell ?_ (by first | omega | (simp; omega) | simp) _) | refine Kept.drew ?_ | refine Kept.drewN ?_ _ | (apply Kept.call; rotate_left; assumption)))) HF.out).mono ?_
  rintro e w1 ⟨rfl, k1⟩
  rw [HO.out]
  have K1 : Kept w w1 := Kept.call (by repeat (first | exact Kept.refl _ | assumption | (refine Kept.alloc ?_ _) | (refine Kept.setCell ?_ (by first | omega | (simp; omega) | simp) _) | refine Kept.drew ?_ | refine Kept.drewN ?_ _ | (apply Kept.call; rotate_left; assumption))) k1
  clear HO HR HF
  go_wp2_with fail
  go_loopw [10] (fun iv wr => ∃ i : Nat, i ≤ 6 ∧ iv = .int .i64 i ∧ Kept w wr ∧ Hid (∀ j : Nat, j < i → bitB o j = false)) (fun iv _ => 6 - (intOf iv).toNat)
  case atStart => exact ⟨0, by omega, rfl, K1, fun j h => by omega⟩
  case round =>
    obtain ⟨i, hi, rfl, kr, hall⟩ := hrel
    by_cases hlt : i < 6
    · go_wp2_with fail
      refine (thas o i _ hb.1 hb.2).mono ?_
      rintro e w2 ⟨rfl, k2⟩
      have K2 := kr.call k2
      cases hv : bitB o i
      · have hn : Hid (∀ j : Nat, j < i + 1 → bitB o j = false) := fun j hj => by
          rcases Nat.lt_or_ge j i with g | g
          · exact hall.out j g
          · obtain rfl : j = i := by omega
            exact hv
        clear hv
        go_wp2_with fail
        go_roundw
        case rel => first | exact ⟨i + 1, by omega, by go_num, K2, hn⟩ | ((repeat apply Exists.intro); exact ⟨⟨i + 1, by omega, by go_num, K2, hn⟩, rfl⟩)
        case measure => simp [intOf]; omega
      · have HV := Lib.hid hv
        clear hv
        go_wp2_with fail
        go_ret
        exact ⟨i, rfl, .inr ⟨i, rfl, hlt, HV.out, hall.out⟩, K2⟩
    · obtain rfl : i = 6 := by omega
      go_wp2_with fail
      go_ret
      exact ⟨-1, rfl, .inl ⟨rfl, hall.out⟩, kr⟩
set_option maxHeartbeats 1000000 in
theorem tfirst_no (A B C : Option Addr) (n1 c1 n2 c2 n3 c3 : Nat) (k : ByteArray) (w : World) (b1 : n1 ≤ 9223372036854775807) (b2 : n2 ≤ 9223372036854775807) (b3 : n3 ≤ 9223372036854775807) (h : 6 < n3 ∨ (1 ≤ n3 ∧ n3 ≤ 6 ∧ n1 ≤ 8 ∧ n1 ≠ n2)) :
    Calls Try.prog 16 #[.agg #[.slice A n1 c1, .slice B n2 c2, .slice C n3 c3], .string k] w fun e w' => ∃ r, e = .returned (.int .i64 r) ∧ FirstB 0 r ∧ Kept w w' := by
  have hc := Lib.hid (towners_no A B C n1 c1 n2 c2 n3 c3 k · b1 b2 b3 h)
  obtain ⟨o, ho⟩ : ∃ o : Int, (0 : Int) = o := ⟨_, rfl⟩
  have hb : 0 ≤ o ∧ o < 64 := by omega
  rw [ho] at hc ⊢
  clear ho h b1 b2 b3
  go_enter Try.func16, Try.ntmps16
  go_wp2_with fail
  refine (hc.out _).mono ?_
  rintro e w1 ⟨rfl, k1⟩
  have K1 : Kept w w1 := Kept.call (by repeat (first | exact Kept.refl _ | assumption | (refine Kept.alloc ?_ _) | (refine Kept.setCell ?_ (by first | omega | (simp; omega) | simp) _) | refine Kept.drew ?_ | refine Kept.drewN ?_ _ | (apply Kept.call; rotate_left; assumption))) k1
  clear hc
  go_wp2_with fail
  go_loopw [10] (fun iv wr => ∃ i : Nat, i ≤ 6 ∧ iv = .int .i64 i ∧ Kept w wr ∧ Hid (∀ j : Nat, j < i → bitB o j = false)) (fun iv _ => 6 - (intOf iv).toNat)
  case atStart => exact ⟨0, by omega, rfl, K1, fun j h => by omega⟩
  case round =>
    obtain ⟨i, hi, rfl, kr, hall⟩ := hrel
    by_cases hlt : i < 6
    · go_wp2_with fail
      refine (thas o i _ hb.1 hb.2).mono ?_
      rintro e w2 ⟨rfl, k2⟩
      have K2 := kr.call k2
      cases hv : bitB o i
      · have hn : Hid (∀ j : Nat, j < i + 1 → bitB o j = false) := fun j hj => by
          rcases Nat.lt_or_ge j i with g | g
          · exact hall.out j g
          · obtain rfl : j = i := by omega
            exact hv
        clear hv
        go_wp2_with fail
        go_roundw
        case rel => first | exact ⟨i + 1, by omega, by go_num, K2, hn⟩ | ((repeat apply Exists.intro); exact ⟨⟨i + 1, by omega, by go_num, K2, hn⟩, rfl⟩)
        case measure => simp [intOf]; omega
      · have HV := Lib.hid hv
        clear hv
        go_wp2_with fail
        go_ret
        exact ⟨i, rfl, .inr ⟨i, rfl, hlt, HV.out, hall.out⟩, K2⟩
    · obtain rfl : i = 6 := by omega
      go_wp2_with fail
      go_ret
      exact ⟨-1, rfl, .inl ⟨rfl, hall.out⟩, kr⟩
theorem bit_zero (s : Int) : bitB 0 s = false := by unfold bitB; simp
theorem firstB_zero {r : Int} (h : FirstB 0 r) : r = -1 := by
  rcases h with ⟨h, _⟩ | ⟨i, _, _, h, _⟩
  · exact h
  · rw [bit_zero] at h; cases h
/-- A site's ranges, ahead of a place. -/
def rowTo (es : List Nat) (os : List Int) (s : Int) (j : Nat) : List Rg := ((List.range j).filter fun i => bitB (oa os i) s).map fun i => (fr es i, to es i)
theorem rowTo_yes {es : List Nat} {os : List Int} {s : Int} {j : Nat} (h : bitB (oa os j) s = true) : rowTo es os s (j + 1) = rowTo es os s j ++ [(fr es j, to es j)] := by simp [rowTo, List.range_succ, h]
theorem rowTo_no {es : List Nat} {os : List Int} {s : Int} {j : Nat} (h : bitB (oa os j) s = false) : rowTo es os s (j + 1) = rowTo es os s j := by simp [rowTo, List.range_succ, h]
theorem rowTo_len (es : List Nat) (os : List Int) (s : Int) (j : Nat) : (rowTo es os s j).length ≤ j := by
  have := List.length_filter_le (fun i => bitB (oa os i) s) (List.range j)
  simpa [rowTo] using this
set_option maxHeartbeats 2000000 in
theorem tranges_yes (A B C : Option Addr) (n1 c1 n2 c2 n3 c3 : Nat) (es : List Nat) (os ps : List Int) (s : Int) (w : World) (hr : RowW w A n1 c1 B n2 c2 C n3 c3 (rgs es) os ps) (hf : Fit es os n3) :
    Calls Try.prog 20 #[.agg #[.slice A n1 c1, .slice B n2 c2, .slice C n3 c3], .int .i64 s] w fun e w' => ∃ D c4, e = .returned (.slice D (rowTo es os s n1).length c4) ∧ RowS w' D (rowTo es os s n1).length c4 (rowTo es os s n1) ∧ (rowTo es os s n1 = [] → D = none ∧ c4 = 0) ∧ Kept w w' := by
  obtain ⟨i0, hi, hz0, hz1, hz2⟩ := info_parts infoRg
  have HI := Lib.hid hi
  have HR := Lib.hid hr
  have HF := Lib.hid hf
  have h1 : n1 = es.length + 1 := by have := hr.rs.1; rw [rgs_len] at this; omega
  have h2 : n2 = n1 := by have := hr.os.1; have := hf.len; omega
  have hl6 := hf.up.six
  obtain ⟨ob, oo, rfl, hoc⟩ := hr.os.2.2.2.2 (by omega)
  obtain ⟨rb, ro, rfl, hrc⟩ := hr.rs.2.2.2.2 (by omega)
  have HOC : Hid (∀ i, i < n2 → w.cell? ⟨ob, oo + i, none⟩ = some (.int .i64 (oa os i))) := hoc
  have HRC : Hid (∀ i, i < n1 → w.cell? ⟨rb, ro + i * 2, none⟩ = some (.string (fr es i)) ∧ w.cell? ⟨rb, ro + i * 2 + 1, none⟩ = some (.string (to es i))) := fun i hi => by
    have := hrc i hi
    rwa [rgs_at (by omega)] at this
  have HB : Hid (∀ i, i < n1 → 0 ≤ oa os i ∧ oa os i < 64) := fun i hi => oa_bd hf (by omega)
  have hb := hr.bd
  have hc1 : n1 ≤ c1 := hr.rs.2.1
  have hc2 : n2 ≤ c2 := hr.os.2.1
  have hn7 : n1 ≤ 7 := by omega
  clear hr hf hoc hrc hi h1 hl6
  subst h2
  go_enter Try.func20, Try.ntmps20
  go_wp2_with fail
  go_step3
  go_wp2_with fail
  refine (tcheck_yes _ _ C n2 c1 n2 c2 n3 c3 es os ps _ (HR.out.keep (by repeat (first | exact Kept.refl _ | assumption | (refine Kept.alloc ?_ _) | (refine Kept.setCell ?_ (by first | omega | (simp; omega) | simp) _) | refine Kept.drew ?_ | refine Kept.drewN ?_ _ | (apply Kept.call; rotate_left; assumption)))) HF.out).mono ?_
  rintro e w1 ⟨rfl, k1⟩
  have K1 : Kept w w1 := Kept.call (by repeat (first | exact Kept.refl _ | assumption | (refine Kept.alloc ?_ _) | (refine Kept.setCell ?_ (by first | omega | (simp; omega) | simp) _) | refine Kept.drew ?_ | refine Kept.drewN ?_ _ | (apply Kept.call; rotate_left; assumption))) k1
  have e0 : w1.cell? ⟨w.heap.size, 0, none⟩ = some (.slice (some ⟨rb, ro, none⟩) n2 c1) := k1.at_ (by go_simp)
  have e1 : w1.cell? ⟨w.heap.size, 1, none⟩ = some (.slice (some ⟨ob, oo, none⟩) n2 c2) := k1.at_ (by go_simp)
  go_wp2_with fail
  go_step3
  go_wp2_with fail
  go_loopw [5, 14] (fun ov iv wr => ∃ (j l : Nat) (v : Value), ov = v ∧ j ≤ n2 ∧ iv = .int .i64 j ∧ (rowTo es os s j).length = l ∧ Hid (l = 0 → v = .slice none 0 0) ∧ wr.ownsRow w1.heap.size 35 2 v l (rgC (rowTo es os s j)) ∧ Kept w1 wr) (fun _ iv _ => n2 - (intOf iv).toNat)
  case atStart => exact ⟨0, 0, _, rfl, by omega, rfl, rfl, fun _ => rfl, World.ownsRow_nil _ _ _ _, Kept.refl w1⟩
  case round =>
    obtain ⟨j, l, v, rfl, hj, rfl, hl, hvn, ho, kr⟩ := hrel
    have hl6 : l ≤ j := by rw [← hl]; exact rowTo_len es os s j
    have HL := Lib.hid hl
    have HO := Lib.hid ho
    clear hl ho
    by_cases hlt : j < n2
    · have co : wr.cell? ⟨ob, oo + j, none⟩ = some (.int .i64 (oa os j)) := kr.at_ (K1.at_ (HOC.out j hlt))
      have cr1 : wr.cell? ⟨rb, ro + j * 2, none⟩ = some (.string (fr es j)) := kr.at_ (K1.at_ (HRC.out j hlt).1)
      have cr2 : wr.cell? ⟨rb, ro + j * 2 + 1, none⟩ = some (.string (to es j)) := kr.at_ (K1.at_ (HRC.out j hlt).2)
      have e1 := kr.at_ e1
      have q1 : w.heap.size < wr.heap.size := World.block_lt_of_cell? wr _ e1
      have q2 : ob < wr.heap.size := World.block_lt_of_cell? wr _ co
      have ho2 := HB.out j hlt
      have HNN : Hid (bitB (oa os j) s = false → rowTo es os s (j + 1) = rowTo es os s j) := rowTo_no
      have HNY : Hid (bitB (oa os j) s = true → rowTo es os s (j + 1) = rowTo es os s j ++ [(fr es j, to es j)]) := rowTo_yes
      generalize oa os j = o at *
      generalize fr es j = f at *
      generalize to es j = t at *
      go_wp2_with fail
      refine (thas o s _ ho2.1 ho2.2).mono ?_
      rintro e w2 ⟨rfl, k2⟩
      have K2 : Kept w1 w2 := Kept.call (by repeat (first | exact Kept.refl _ | assumption | (refine Kept.alloc ?_ _) | (refine Kept.setCell ?_ (by first | omega | (simp; omega) | simp) _) | refine Kept.drew ?_ | refine Kept.drewN ?_ _ | (apply Kept.call; rotate_left; assumption))) k2
      have r1 : w2.cell? ⟨wr.heap.size, 0, none⟩ = some (.string f) := k2.at_ (by go_simp)
      have r2 : w2.cell? ⟨wr.heap.size, 1, none⟩ = some (.string t) := k2.at_ (by go_simp)
      cases hv : bitB o s
      · have hn := Lib.hid (HNN.out hv)
        have HO2 := Lib.hid (Kept.own HO.out (Kept.call (by repeat (first | exact Kept.refl _ | assumption | (refine Kept.alloc ?_ _) | (refine Kept.setCell ?_ (by first | omega | (simp; omega) | simp) _) | refine Kept.drew ?_ | refine Kept.drewN ?_ _ | (apply Kept.call; rotate_left; assumption))) k2))
        clear hv
        go_wp2_with fail
        go_roundw
        case rel => exact ⟨j + 1, l, _, rfl, by omega, by go_num, by rw [hn.out]; exact HL.out, hvn, by rw [hn.out]; exact HO2.out, K2⟩
        case measure => simp [intOf]; omega
      · have hn := Lib.hid (HNY.out hv)
        have HO2 := Lib.hid (Kept.own HO.out (Kept.call (by repeat (first | exact Kept.refl _ | assumption | (refine Kept.alloc ?_ _) | (refine Kept.setCell ?_ (by first | omega | (simp; omega) | simp) _) | refine Kept.drew ?_ | refine Kept.drewN ?_ _ | (apply Kept.call; rotate_left; assumption))) k2))
        have hol : Hid ((rgC (rowTo es os s j)).length = l * 2) := by unfold Hid; rw [rgC_len, HL.out]
        have hz : w1.heap.size ≤ w2.heap.size := K2.size
        clear hv
        go_wp2_with (at_builtin; refine wpList_append_own _ rfl _ _ 29 rfl w1.heap.size 35 i0 (.agg #[.string ⟨#[]⟩, .string ⟨#[]⟩]) 2 32 Try.underlying29 HI.out hz0 hz1 hz2 rfl (by decide) _ l _ rfl (HO2.out.alloc _) ⟨w2.heap.size, 0, none⟩ 1 1 [.string f, .string t] rfl rfl (cells_two _ _ _ _) (by simp [Value.oneCell']) (by unfold maxLen; omega) (by omega) (by simp; omega) ?_; intro v3 w3 hown3 hgrow3 _; have HL3 := HO2.out.lt; have K3 : Kept w1 w3 := (K2.alloc _).grown hgrow3 (fun g hg => (HL3 g hg).1); rw [rgC_snoc _ (f, t)] at hown3; have HO3 := Lib.hid hown3; clear hown3)
        go_roundw
        case rel => exact ⟨j + 1, l + 1, _, rfl, by omega, by go_num, by rw [hn.out, List.length_append, HL.out]; rfl, fun h => absurd h (by omega), by rw [hn.out]; exact HO3.out, K3⟩
        case measure => simp [intOf]; omega
    · obtain rfl : j = n2 := by omega
      obtain ⟨A2, c4, rfl, hia⟩ := RowS.of_own HO.out
      have HIA := Lib.hid hia
      clear hia
      go_wp2_with fail
      (try rw [Exit.noGoto_ret])
      go_ret
      exact ⟨A2, c4, by rw [HL.out]; rfl, by rw [HL.out]; exact HIA.out, fun h => by
        have h2 := HL.out
        rw [h] at h2
        have h3 := hvn.out h2.symm
        cases h3
        exact ⟨rfl, rfl⟩, K1.call kr⟩
end Go.Proofs.Ytahokiopapenbaa
