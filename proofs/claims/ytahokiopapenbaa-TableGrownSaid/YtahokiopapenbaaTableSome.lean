/- The law TableSome: each key is owned by some site, and by those in whose ranges it is; as many as Many tells of its owners. -/
import Derived.Test.YtahokiopapenbaaTableSites
import Derived.Test.YtahokiopapenbaaTableMany
set_option linter.unusedSimpArgs false
set_option linter.unusedVariables false
namespace Go.Proofs.Ytahokiopapenbaa
open Go.RowKit

theorem mem_rowTo {es : List Nat} {os : List Int} {s : Int} {j : Nat} {x : Rg} : x ∈ rowTo es os s j ↔ ∃ i, i < j ∧ bitB (oa os i) s = true ∧ x = (fr es i, to es i) := by
  unfold rowTo
  simp only [List.mem_map, List.mem_filter, List.mem_range]
  constructor
  · rintro ⟨i, ⟨h1, h2⟩, rfl⟩
    exact ⟨i, h1, h2, rfl⟩
  · rintro ⟨i, h1, h2, rfl⟩
    exact ⟨i, ⟨h1, h2⟩, rfl⟩
theorem first_rowTo {es : List Nat} {os : List Int} {s : Int} {k : ByteArray} {r : Int} (hu : Up es) (h : FirstIs (rowTo es os s (es.length + 1)) k r) : -1 ≤ r ∧ r ≤ 7 ∧ decide (0 ≤ r) = bitB (oa os (findI es (hv k))) s := by
  have hl := rowTo_len es os s (es.length + 1)
  have h6 := hu.six
  have hfl := find_le es (hv k)
  rcases h with ⟨rfl, h⟩ | ⟨i, rfl, hi, h, _⟩
  · refine ⟨by omega, by omega, ?_⟩
    rw [show decide ((0 : Int) ≤ -1) = false from rfl]
    refine Eq.symm (Bool.eq_false_iff.2 fun hb => ?_)
    have hm : (fr es (findI es (hv k)), to es (findI es (hv k))) ∈ rowTo es os s (es.length + 1) := mem_rowTo.2 ⟨_, by omega, hb, rfl⟩
    obtain ⟨i, hi⟩ := List.getElem?_of_mem hm
    have hlt := (List.getElem?_eq_some_iff.1 hi).1
    have := h i hlt
    unfold rg at this
    rw [hi] at this
    simp only [Option.getD_some] at this
    rw [has_iff hu hfl, decide_eq_true rfl] at this
    cases this
  · refine ⟨by omega, by omega, ?_⟩
    have hm : rg (rowTo es os s (es.length + 1)) i ∈ rowTo es os s (es.length + 1) := by
      unfold rg
      rw [List.getElem?_eq_getElem hi]
      exact List.getElem_mem hi
    obtain ⟨x, hx1, hx2, hx3⟩ := mem_rowTo.1 hm
    rw [hx3] at h
    rw [has_iff hu (by omega)] at h
    have hx := of_decide_eq_true h
    rw [← hx, hx2]
    simp
def bcnt (o : Int) : Nat → Nat
  | 0 => 0
  | j + 1 => bcnt o j + if bitB o j then 1 else 0
theorem bcnt_le (o : Int) : ∀ j, bcnt o j ≤ j
  | 0 => Nat.le_refl _
  | j + 1 => by
    have := bcnt_le o j
    unfold bcnt
    split <;> omega
theorem bcnt_pop : ∀ o : Fin 64, bcnt ((o : Nat) : Int) 6 = pop o ∧ (1 ≤ (o : Nat) → 1 ≤ pop o) := of_decide_eq_true (by kernel_rfl)
theorem firstB_yes {o r : Int} {n : Nat} (h0 : 1 ≤ o) (h1 : o < ((2 ^ n : Nat) : Int)) (h64 : o < 64) (h : FirstB o r) : 0 ≤ r ∧ r < n ∧ bitB o r = true := by
  rcases h with ⟨_, h⟩ | ⟨i, rfl, hi, hb, _⟩
  · exfalso
    obtain ⟨m, rfl⟩ := Int.eq_ofNat_of_zero_le (show 0 ≤ o by omega)
    obtain ⟨p1, p2⟩ := bcnt_pop ⟨m, by omega⟩
    have hz : ∀ j, j ≤ 6 → bcnt (m : Int) j = 0 := by
      intro j
      induction j with
      | zero => intro _; rfl
      | succ j ih => intro hj; unfold bcnt; rw [ih (by omega), h j (by omega)]; rfl
    have e := hz 6 (by omega)
    have : 1 ≤ pop m := p2 (by show 1 ≤ m; omega)
    have e2 : bcnt (m : Int) 6 = pop m := p1
    omega
  · refine ⟨by omega, ?_, hb⟩
    rcases Int.lt_or_le (i : Int) n with g1 | g1
    · exact g1
    · rw [bit_far (by omega) h1 (.inr g1)] at hb
      cases hb
set_option maxHeartbeats 4000000 in
theorem some_any (A B C : Option Addr) (n1 c1 n2 c2 n3 c3 : Nat) (es : List Nat) (os ps : List Int) (k : ByteArray) (w : World) (hr : RowW w A n1 c1 B n2 c2 C n3 c3 (rgs es) os ps) (hf : Fit es os n3) :
    Calls Try.prog 28 #[.agg #[.slice A n1 c1, .slice B n2 c2, .slice C n3 c3], .string k] w fun e w' => e = .returned (.bool true) ∧ Kept w w' := by
  have HR := Lib.hid hr
  have HF := Lib.hid hf
  have hn1 : n1 = es.length + 1 := by have := hr.rs.1; rw [rgs_len] at this; omega
  have hbd := hr.bd
  have h36 := hf.six
  have hfl := find_le es (hv k)
  obtain ⟨ho1, ho2⟩ := hf.own (findI es (hv k)) (by omega)
  have ho3 := (oa_bd hf hfl).2
  obtain ⟨o, ho⟩ : ∃ o, oa os (findI es (hv k)) = o := ⟨_, rfl⟩
  rw [ho] at ho1 ho2 ho3
  have HO := Lib.hid ho
  have HO2 := Lib.hid ho2
  have HFR : Hid (∀ s r, FirstIs (rowTo es os s n1) k r → -1 ≤ r ∧ r ≤ 7 ∧ decide (0 ≤ r) = bitB o s) := fun s r h => by
    rw [hn1] at h
    have := first_rowTo hf.up h
    rwa [ho] at this
  obtain ⟨om, hom⟩ := Int.eq_ofNat_of_zero_le (show 0 ≤ o by omega)
  have HPOP : Hid (bcnt o 6 = pop om ∧ 1 ≤ pop om) := by
    obtain ⟨p1, p2⟩ := bcnt_pop ⟨om, by omega⟩
    rw [hom]
    exact ⟨p1, p2 (by show 1 ≤ om; omega)⟩
  have HOM := Lib.hid hom
  clear hr hf hn1 hfl ho ho2 hom
  go_enter Try.func28, Try.ntmps28
  go_wp2_with fail
  refine (tcheck_yes A B C n1 c1 n2 c2 n3 c3 es os ps _ (HR.out.keep (by repeat (first | exact Kept.refl _ | assumption | (refine Kept.alloc ?_ _) | (refine Kept.setCell ?_ (by first | omega | (simp; omega) | simp) _) | refine Kept.drew ?_ | refine Kept.drewN ?_ _ | (apply Kept.call; rotate_left; assumption)))) HF.out).mono ?_
  rintro e w1 ⟨rfl, k1⟩
  have K1 : Kept w w1 := Kept.call (by repeat (first | exact Kept.refl _ | assumption | (refine Kept.alloc ?_ _) | (refine Kept.setCell ?_ (by first | omega | (simp; omega) | simp) _) | refine Kept.drew ?_ | refine Kept.drewN ?_ _ | (apply Kept.call; rotate_left; assumption))) k1
  have x0 : w1.cell? ⟨w.heap.size, 0, none⟩ = some (.slice A n1 c1) := k1.at_ (by go_simp)
  have x1 : w1.cell? ⟨w.heap.size, 1, none⟩ = some (.slice B n2 c2) := k1.at_ (by go_simp)
  have x2 : w1.cell? ⟨w.heap.size, 2, none⟩ = some (.slice C n3 c3) := k1.at_ (by go_simp)
  have X0 := Lib.hid x0
  have X1 := Lib.hid x1
  have X2 := Lib.hid x2
  go_wp2_with fail
  go_loopw [5, 6] (fun nv sv wr => ∃ j : Nat, j ≤ 6 ∧ nv = .int .i64 (bcnt o j : Nat) ∧ sv = .int .i64 j ∧ Kept w1 wr) (fun _ sv _ => 6 - (intOf sv).toNat)
  case atStart => exact ⟨0, by omega, rfl, rfl, Kept.refl _⟩
  case round =>
    obtain ⟨j, hj, rfl, rfl, kr⟩ := hrel
    have x0 := kr.at_ X0.out
    have x1 := kr.at_ X1.out
    have x2 := kr.at_ X2.out
    have hcl := bcnt_le o j
    by_cases hlt : j < 6
    · have HNX : Hid (bcnt o (j + 1) = bcnt o j + if bitB o j then 1 else 0) := rfl
      generalize bcnt o j = q at *
      go_wp2_with fail
      refine (tranges_yes A B C n1 c1 n2 c2 n3 c3 es os ps j _ (HR.out.keep (K1.call kr)) HF.out).mono ?_
      rintro e w2 ⟨D, d, rfl, hrs, _, k2⟩
      have K2 := kr.call k2
      have HRS := Lib.hid hrs
      have hlen : (rowTo es os j n1).length ≤ d ∧ d ≤ 9223372036854775807 := by have a := hrs.2.1; have b := hrs.2.2.1; unfold maxLen at b; omega
      have x0 := k2.at_ x0
      have x1 := k2.at_ x1
      have x2 := k2.at_ x2
      clear hrs
      go_wp2_with fail
      refine (rfind_any D _ d (rowTo es os j n1) k _ HRS.out).mono ?_
      rintro e w3 ⟨r, rfl, hfi, k3⟩
      have K3 := K2.call k3
      obtain ⟨hr1, hr2, hr3⟩ := HFR.out j r hfi
      have x0 := k3.at_ x0
      have x1 := k3.at_ x1
      have x2 := k3.at_ x2
      clear hfi
      cases hbit : bitB o j
      · rw [hbit] at hr3
        have hn := HNX.out
        rw [hbit] at hn
        have HN := Lib.hid hn
        have HBIT := Lib.hid hbit
        clear hn hbit
        go_wp2_with fail
        refine (towns_is A B C n1 c1 n2 c2 n3 c3 es os ps j k _ false (HR.out.keep (K1.call K3)) HF.out (by rw [HO.out]; exact HBIT.out)).mono ?_
        rintro e w4 ⟨rfl, k4⟩
        go_wp2_with fail
        go_roundw
        case rel => first | exact ⟨j + 1, by omega, by rw [HN.out]; go_num, by go_num, K3.call k4⟩ | ((repeat apply Exists.intro); exact ⟨⟨j + 1, by omega, by rw [HN.out]; go_num, by go_num, K3.call k4⟩, rfl⟩)
        case measure => simp [intOf]; omega
      · rw [hbit] at hr3
        have hn := HNX.out
        rw [hbit] at hn
        have HN := Lib.hid hn
        have HBIT := Lib.hid hbit
        clear hn hbit
        go_wp2_with fail
        refine (towns_is A B C n1 c1 n2 c2 n3 c3 es os ps j k _ true (HR.out.keep (K1.call K3)) HF.out (by rw [HO.out]; exact HBIT.out)).mono ?_
        rintro e w4 ⟨rfl, k4⟩
        go_wp2_with fail
        go_roundw
        case rel => first | exact ⟨j + 1, by omega, by rw [HN.out]; go_num, by go_num, K3.call k4⟩ | ((repeat apply Exists.intro); exact ⟨⟨j + 1, by omega, by rw [HN.out]; go_num, by go_num, K3.call k4⟩, rfl⟩)
        case measure => simp [intOf]; omega
    · obtain rfl : j = 6 := by omega
      rw [HPOP.out.1]
      have hp1 := HPOP.out.2
      have hp2 : pop om ≤ 6 := by have := HPOP.out.1; omega
      obtain ⟨P, hP⟩ : ∃ P, pop om = P := ⟨_, rfl⟩
      have HP := Lib.hid hP
      rw [hP] at hp1 hp2 ⊢
      clear hP hcl
      go_wp2_with fail
      refine (tfirst_yes A B C n1 c1 n2 c2 n3 c3 es os ps k _ (HR.out.keep (K1.call kr)) HF.out).mono ?_
      rintro e w2 ⟨r, rfl, hfb, k2⟩
      rw [HO.out] at hfb
      obtain ⟨hr0, hrn, hrb⟩ := firstB_yes ho1 HO2.out ho3 hfb
      have HRB := Lib.hid hrb
      have K2 := kr.call k2
      have x0 := k2.at_ x0
      have x1 := k2.at_ x1
      have x2 := k2.at_ x2
      clear hfb hrb
      go_wp2_with fail
      refine (towners_yes A B C n1 c1 n2 c2 n3 c3 es os ps k _ (HR.out.keep (K1.call K2)) HF.out).mono ?_
      rintro e w3 ⟨rfl, k3⟩
      rw [HO.out, HOM.out]
      have K3 := K2.call k3
      have x0 := k3.at_ x0
      have x1 := k3.at_ x1
      have x2 := k3.at_ x2
      go_wp2_with fail
      refine (many_is _ om P _ rfl (by have := HOM.out; omega) HP.out).mono ?_
      rintro e w4 ⟨rfl, k4⟩
      have K4 := K3.call k4
      have x0 := k4.at_ x0
      have x1 := k4.at_ x1
      have x2 := k4.at_ x2
      go_wp2_with fail
      refine (towns_is A B C n1 c1 n2 c2 n3 c3 es os ps r k _ true (HR.out.keep (K1.call K4)) HF.out (by rw [HO.out]; exact HRB.out)).mono ?_
      rintro e w5 ⟨rfl, k5⟩
      have K5 := K4.call k5
      have x0 := k5.at_ x0
      have x1 := k5.at_ x1
      have x2 := k5.at_ x2
      go_wp2_with fail
      refine (sites_any _ _ C n3 c3 _ (by omega) ⟨_, _, _, rfl⟩ ⟨_, _, _, rfl⟩).mono ?_
      rintro e w6 ⟨rfl, k6⟩
      go_wp2_with fail
      go_ret
      exact ⟨by first | rfl | exact ret_bool (by simp; omega), K1.call (K5.call k6)⟩
set_option maxRecDepth 100000 in
set_option maxHeartbeats 2000000 in
theorem tableSome_walk (A : Option Addr) (m c : Nat) (x : Nat → Int) (B : Option Addr) (m2 c2 : Nat) (y : Nat → Int) (s : Int) (k : ByteArray) (w : World) (rx : RowAt w A m c 1 (fun i => [.int .i64 (x i)])) (_rx2 : ∀ i, i < m → (Lit.int .i64 (x i)).wf = true) (ry : RowAt w B m2 c2 1 (fun i => [.int .i64 (y i)])) (_ry2 : ∀ i, i < m2 → (Lit.int .i64 (y i)).wf = true) (_ws : (Lit.int .i64 s).wf = true) (_w1 : k.size ≤ maxLen) :
    Calls Try.prog 7 #[.agg #[.slice A m c, .slice B m2 c2, .int .i64 s], .string k] w fun e w' => e = .returned (.bool true) ∧ Kept w w' := by
  have HX := Lib.hid (IntsAt.of_row rx)
  have HY := Lib.hid (IntsAt.of_row ry)
  clear rx _rx2 ry _ry2 _ws _w1
  generalize (List.range m).map x = xs at *
  generalize (List.range m2).map y = ys at *
  go_enter Try.func7, Try.ntmps7
  go_wp2_with fail
  refine (awake_any _).mono ?_
  rintro e w1 ⟨rfl, k1_⟩
  have K1 : Kept w w1 := Kept.call (by repeat (first | exact Kept.refl _ | assumption | (refine Kept.alloc ?_ _) | (refine Kept.setCell ?_ (by first | omega | (simp; omega) | simp) _) | refine Kept.drew ?_ | refine Kept.drewN ?_ _ | (apply Kept.call; rotate_left; assumption))) k1_
  have cs0 : w1.cell? ⟨w.heap.size, 0, none⟩ = some (.slice A m c) := k1_.at_ (by go_simp)
  have cs1 : w1.cell? ⟨w.heap.size, 1, none⟩ = some (.slice B m2 c2) := k1_.at_ (by go_simp)
  have cs2 : w1.cell? ⟨w.heap.size, 2, none⟩ = some (.int .i64 s) := k1_.at_ (by go_simp)
  go_wp2_with fail
  refine (row_any A B m c m2 c2 xs ys s _ (HX.out.keep (by repeat (first | exact Kept.refl _ | assumption | (refine Kept.alloc ?_ _) | (refine Kept.setCell ?_ (by first | omega | (simp; omega) | simp) _) | refine Kept.drew ?_ | refine Kept.drewN ?_ _ | (apply Kept.call; rotate_left; assumption)))) (HY.out.keep (by repeat (first | exact Kept.refl _ | assumption | (refine Kept.alloc ?_ _) | (refine Kept.setCell ?_ (by first | omega | (simp; omega) | simp) _) | refine Kept.drew ?_ | refine Kept.drewN ?_ _ | (apply Kept.call; rotate_left; assumption))))).mono ?_
  rintro e w2 ⟨a1, b1, c1, n1, d1, n2, d2, n3, d3, es, os, ps, rfl, _, hr, hf, k2⟩
  have K2 : Kept w w2 := Kept.call (by repeat (first | exact Kept.refl _ | assumption | (refine Kept.alloc ?_ _) | (refine Kept.setCell ?_ (by first | omega | (simp; omega) | simp) _) | refine Kept.drew ?_ | refine Kept.drewN ?_ _ | (apply Kept.call; rotate_left; assumption))) k2
  have HR := Lib.hid hr
  have HF := Lib.hid hf
  clear hr hf cs0 cs1 cs2
  go_wp2_with fail
  refine (some_any _ _ _ n1 d1 n2 d2 n3 d3 es os ps k _ HR.out HF.out).mono ?_
  rintro e w3 ⟨rfl, k3⟩
  go_wp2_with fail
  go_ret
  exact ⟨rfl, K2.call k3⟩
end Go.Proofs.Ytahokiopapenbaa
