/- The law TableGrown: one more owner of a range owns its keys, too, and nothing else is otherwise. -/
import Derived.Test.YtahokiopapenbaaTableSome
set_option linter.unusedSimpArgs false
set_option linter.unusedVariables false
namespace Go.Proofs.Ytahokiopapenbaa
open Go.RowKit

theorem or_bits : ∀ o : Fin 64, ∀ s : Fin 6, bits .or .i64 ((o : Nat) : Int) ((2 ^ (s : Nat) : Nat) : Int) = (((o : Nat) ||| 2 ^ (s : Nat) : Nat) : Int) ∧ ((o : Nat) ||| 2 ^ (s : Nat)) < 64 ∧ ∀ x : Fin 6, bitB (((o : Nat) ||| 2 ^ (s : Nat) : Nat) : Int) ((x : Nat) : Int) = (bitB ((o : Nat) : Int) ((x : Nat) : Int) || decide ((x : Nat) = (s : Nat))) := of_decide_eq_true (by kernel_rfl)
theorem oa_set_same {os : List Int} {k : Nat} (h : k < os.length) (v : Int) : oa (os.set k v) k = v := by simp [oa, h]
theorem oa_set_other {os : List Int} {k i : Nat} (h : i ≠ k) (v : Int) : oa (os.set k v) i = oa os i := by simp [oa, List.getElem?_set, Ne.symm h]
theorem fit_set {es : List Nat} {os : List Int} {n k s : Nat} (hf : Fit es os n) (hk : k < es.length + 1) (hs : s < n) {o : Nat} (ho : oa os k = o) : Fit es (os.set k ((o ||| 2 ^ s : Nat) : Int)) n := by
  refine ⟨hf.up, by simp [hf.len], fun i hi => ?_, hf.one, hf.six⟩
  by_cases e : i = k
  · subst e
    rw [oa_set_same (by rw [hf.len]; exact hk)]
    have h1 := hf.own i hk
    rw [ho] at h1
    have h2 : o ||| 2 ^ s < 2 ^ n := Nat.or_lt_two_pow (by omega) (Nat.pow_lt_pow_right (by omega) hs)
    have h3 : o ≤ o ||| 2 ^ s := Nat.left_le_or
    omega
  · rw [oa_set_other e]
    exact hf.own i hi
theorem own_new1 (w : World) (o1 : Obj) (e : TypeId) (vals : List Value) (n size : Nat) (h : vals.length = n * size) (hn : n ≤ maxLen) :
    ((w.alloc o1).alloc (.cells vals.toArray e)).ownsRow (w.heap.size + 1) e size (.slice (some ⟨w.heap.size + 1, 0, none⟩) n n) n vals := by
  have := own_new (w.alloc o1) e vals n size h hn
  simpa only [World.size_alloc] using this
theorem grown1 (w w3 : World) (x y z : Value) (t : TypeId) (o : Obj) (hg : ((w.alloc (.cells #[x, y, z] t)).alloc o).grownBy w3 (some (w.heap.size + 1))) :
    w3.cell? ⟨w.heap.size, 0, none⟩ = some x ∧ w3.cell? ⟨w.heap.size, 1, none⟩ = some y ∧ w3.cell? ⟨w.heap.size, 2, none⟩ = some z ∧ w3.frozen? ⟨w.heap.size, 1, none⟩ = false ∧ w.heap.size < w3.heap.size := by
  have h1 : w3.heap[w.heap.size]? = some (.cells #[x, y, z] t) := by
    rw [hg.block w.heap.size (by simp; omega) (by intro h; injection h with h; omega), Below.heap_alloc _ _ _ (by simp)]
    exact heap_alloc_new _ _
  refine ⟨?_, ?_, ?_, frozen_of_row w3 _ 1 _ _ h1, (Array.getElem?_eq_some_iff.1 h1).1⟩
  · rw [cell_of_row _ _ 0 _ _ (0, 0) h1]; rfl
  · rw [cell_of_row _ _ 1 _ _ (0, 0) h1]; rfl
  · rw [cell_of_row _ _ 2 _ _ (0, 0) h1]; rfl
set_option maxRecDepth 100000 in
set_option maxHeartbeats 4000000 in
theorem tableGrown_walk (A : Option Addr) (m c : Nat) (x : Nat → Int) (B : Option Addr) (m2 c2 : Nat) (y : Nat → Int) (s p q : Int) (k : ByteArray) (w : World) (rx : RowAt w A m c 1 (fun i => [.int .i64 (x i)])) (_rx2 : ∀ i, i < m → (Lit.int .i64 (x i)).wf = true) (ry : RowAt w B m2 c2 1 (fun i => [.int .i64 (y i)])) (_ry2 : ∀ i, i < m2 → (Lit.int .i64 (y i)).wf = true) (_ws : (Lit.int .i64 s).wf = true) (_wp : (Lit.int .i64 p).wf = true) (_wq : (Lit.int .i64 q).wf = true) (_w1 : k.size ≤ maxLen) :
    Calls Try.prog 4 #[.agg #[.slice A m c, .slice B m2 c2, .int .i64 s], .agg #[.int .i64 p, .int .i64 q], .string k] w fun e w' => e = .returned (.bool true) ∧ Kept w w' := by
  obtain ⟨i0, hi, hz0, hz1, hz2⟩ := info_parts infoInt
  have HI := Lib.hid hi
  have HX := Lib.hid (IntsAt.of_row rx)
  have HY := Lib.hid (IntsAt.of_row ry)
  clear rx _rx2 ry _ry2 _ws _w1 _wp _wq hi
  generalize (List.range m).map x = xs at *
  generalize (List.range m2).map y = ys at *
  go_enter Try.func4, Try.ntmps4
  go_wp2_with fail
  refine (awake_any _).mono ?_
  rintro e w1 ⟨rfl, k1_⟩
  have K1 : Kept w w1 := Kept.call (by repeat (first | exact Kept.refl _ | assumption | (refine Kept.alloc ?_ _) | (refine Kept.setCell ?_ (by first | omega | (simp; omega) | simp) _) | refine Kept.drew ?_ | refine Kept.drewN ?_ _ | (apply Kept.call; rotate_left; assumption))) k1_
  have cs0 : w1.cell? ⟨w.heap.size, 0, none⟩ = some (.slice A m c) := k1_.at_ (by go_simp)
  have cs1 : w1.cell? ⟨w.heap.size, 1, none⟩ = some (.slice B m2 c2) := k1_.at_ (by go_simp)
  have cs2 : w1.cell? ⟨w.heap.size, 2, none⟩ = some (.int .i64 s) := k1_.at_ (by go_simp)
  have ca0 : w1.cell? ⟨w.heap.size + 1, 0, none⟩ = some (.int .i64 p) := k1_.at_ (by go_simp)
  have ca1 : w1.cell? ⟨w.heap.size + 1, 1, none⟩ = some (.int .i64 q) := k1_.at_ (by go_simp)
  go_wp2_with fail
  refine (row_any A B m c m2 c2 xs ys s _ (HX.out.keep (by repeat (first | exact Kept.refl _ | assumption | (refine Kept.alloc ?_ _) | (refine Kept.setCell ?_ (by first | omega | (simp; omega) | simp) _) | refine Kept.drew ?_ | refine Kept.drewN ?_ _ | (apply Kept.call; rotate_left; assumption)))) (HY.out.keep (by repeat (first | exact Kept.refl _ | assumption | (refine Kept.alloc ?_ _) | (refine Kept.setCell ?_ (by first | omega | (simp; omega) | simp) _) | refine Kept.drew ?_ | refine Kept.drewN ?_ _ | (apply Kept.call; rotate_left; assumption))))).mono ?_
  rintro e w2 ⟨a1, b1, c1, n1, d1, n2, d2, n3, d3, es, os, ps, rfl, ⟨l1, l2, l3⟩, hr, hf, k2⟩
  have K2 : Kept w w2 := Kept.call (by repeat (first | exact Kept.refl _ | assumption | (refine Kept.alloc ?_ _) | (refine Kept.setCell ?_ (by first | omega | (simp; omega) | simp) _) | refine Kept.drew ?_ | refine Kept.drewN ?_ _ | (apply Kept.call; rotate_left; assumption))) k2
  have ca0 := k2.at_ ca0
  have ca1 := k2.at_ ca1
  have ha1 : w.heap.size + 1 < w2.heap.size := World.block_lt_of_cell? w2 _ ca0
  have HR := Lib.hid hr
  have HF := Lib.hid hf
  have hb := hr.bd
  have hn1 : n1 = es.length + 1 := by have := hr.rs.1; rw [rgs_len] at this; omega
  have hn2 : n2 = es.length + 1 := by have := hr.os.1; have := hf.len; omega
  have h6 := hf.up.six
  have h31 := hf.one
  have h36 := hf.six
  have HNL : Hid ((intC os).length = n2 * 1) := by unfold Hid; rw [intC_len, hf.len, hn2, Nat.mul_one]
  have hn12 : n1 = n2 := by omega
  have hn7 : n1 ≤ 7 := by omega
  have hn0 : 1 ≤ n1 := by omega
  have HN1 := Lib.hid hn1
  have hd1 : n1 ≤ d1 := hr.rs.2.1
  have hd2 : n2 ≤ d2 := hr.os.2.1
  have hd3 : n3 ≤ d3 := hr.ps.2.1
  have hk0 := tmod_bd p (n1 : Int) (by omega)
  obtain ⟨kk, hk1, hk2⟩ : ∃ d : Nat, (p.tmod n1 + n1).tmod n1 = d ∧ d < n1 := by
    have h2 := Int.tmod_nonneg (n1 : Int) (show 0 ≤ p.tmod n1 + n1 by omega)
    have h3 := Int.tmod_lt_of_pos (p.tmod n1 + n1) (show 0 < (n1 : Int) by omega)
    exact ⟨_, (Int.toNat_of_nonneg h2).symm, by omega⟩
  have hs0 := tmod_bd q (n3 : Int) (by omega)
  obtain ⟨ss, hs1, hs2⟩ : ∃ d : Nat, (q.tmod n3 + n3).tmod n3 = d ∧ d < n3 := by
    have h2 := Int.tmod_nonneg (n3 : Int) (show 0 ≤ q.tmod n3 + n3 by omega)
    have h3 := Int.tmod_lt_of_pos (q.tmod n3 + n3) (show 0 < (n3 : Int) by omega)
    exact ⟨_, (Int.toNat_of_nonneg h2).symm, by omega⟩
  clear hr hf l1 l2 l3 cs0 cs1 cs2 hn1 hn2
  subst hn12
  go_wp2_with fail
  refine wp_region_text keepsOne (fun wB => Kept w2 wB ∧ wB.cell? ⟨w2.heap.size, 0, none⟩ = some (.slice (some ⟨a1, 0, none⟩) n1 d1) ∧ wB.cell? ⟨w2.heap.size, 1, none⟩ = some (.slice (some ⟨b1, 0, none⟩) n1 d2) ∧ wB.cell? ⟨w2.heap.size, 2, none⟩ = some (.slice (some ⟨c1, 0, none⟩) n3 d3) ∧ wB.cell? ⟨w.heap.size + 1, 1, none⟩ = some (.int .i64 q)) ?_ (by kernel_rfl) (by kernel_rfl) _ (by (try simp only [List.append_eq, List.cons_append, List.nil_append, List.toList_toArray]); exact rfl) ?_
  · exact ⟨by repeat (first | exact Kept.refl _ | assumption | (refine Kept.alloc ?_ _) | (refine Kept.setCell ?_ (by first | omega | (simp; omega) | simp) _) | refine Kept.drew ?_ | refine Kept.drewN ?_ _ | (apply Kept.call; rotate_left; assumption)), by first | assumption | go_simp, by first | assumption | go_simp, by first | assumption | go_simp, by first | assumption | go_simp⟩
  rintro wB ⟨hkB, sB1, sB2, sB3, sB4⟩
  repeat (first | (apply DW.det; (focus (intro wd hI; have td1 := hI.at_ sB1; have td2 := hI.at_ sB2; have td3 := hI.at_ sB3; have td4 := hI.at_ sB4; skip; go_wp2_with (fail); refine StepPost.mk _ rfl ⟨rfl, ?_⟩; repeat (first | exact Kept.refl _ | assumption | (refine Kept.alloc ?_ _) | (refine Kept.setCell ?_ (by first | omega | (simp; omega) | simp) _) | refine Kept.drew ?_ | refine Kept.drewN ?_ _ | (apply Kept.call; rotate_left; assumption)))); simp only [Act.put, List.setIfInBounds_toArray, List.set_cons_succ, List.set_cons_zero]) | (refine DW.loud (by kernel_rfl) ?_; intro wd hI; have td1 := hI.at_ sB1; have td2 := hI.at_ sB2; have td3 := hI.at_ sB3; have td4 := hI.at_ sB4; skip; go_wp2_with (fail); refine StepPost.loud _ rfl (by repeat (first | exact Kept.refl _ | assumption | (refine Kept.alloc ?_ _) | (refine Kept.setCell ?_ (by first | omega | (simp; omega) | simp) _) | refine Kept.drew ?_ | refine Kept.drewN ?_ _ | (apply Kept.call; rotate_left; assumption))) (fun hkL => ?_); have hkL := hI.call hkL; have hkB := hkB.call hkL; have sB1 := hkL.at_ sB1; have sB2 := hkL.at_ sB2; have sB3 := hkL.at_ sB3; have sB4 := hkL.at_ sB4; simp only [Act.put, List.setIfInBounds_toArray, List.set_cons_succ, List.set_cons_zero]))
  refine DW.nil ?_
  intro wd hI
  have hkd := hkB.call hI
  have td1 := hI.at_ sB1; have td2 := hI.at_ sB2; have td3 := hI.at_ sB3; have td4 := hI.at_ sB4
  go_wp2_with fail
  obtain ⟨W3, rfl⟩ : ∃ W3, W3 = wd := ⟨_, rfl⟩
  have K3 : Kept w2 W3 := hkd
  have y0 := td1
  have y1 := td2
  have y2 := td3
  clear hkB sB1 sB2 sB3 sB4 hI td1 td2 td3 td4 hkd
  go_loopw [12, 13] (fun av kv w9 => ∃ j : Nat, j ≤ ss ∧ av = .int .i64 ((2 ^ j : Nat) : Int) ∧ kv = .int .i64 j ∧ Hid (w9 = W3)) (fun _ kv _ => ss - (intOf kv).toNat)
  case atStart => exact ⟨0, by omega, rfl, rfl, rfl⟩
  case round =>
    obtain ⟨j, hj, rfl, rfl, hw9⟩ := hrel
    by_cases hkn : j < ss
    · have hp1 := two_le (n := j) (by omega)
      have hp2 : Hid (2 ^ (j + 1) = 2 * 2 ^ j) := by unfold Hid; rw [Nat.pow_succ, Nat.mul_comm]
      generalize 2 ^ j = t at *
      go_wp2_with fail
      go_roundw
      case rel => first | exact ⟨j + 1, by omega, by rw [hp2.out]; go_num, by go_num, hw9⟩ | ((repeat apply Exists.intro); exact ⟨⟨j + 1, by omega, by rw [hp2.out]; go_num, by go_num, hw9⟩, rfl⟩)
      case measure => simp [intOf]; omega
    · obtain rfl : j = ss := by omega
      have hw := hw9.out
      clear hw9
      subst hw
      obtain ⟨W3, rfl⟩ : ∃ W3, W3 = wr := ⟨_, rfl⟩
      have hlC : w2.heap.size < W3.heap.size := World.block_lt_of_cell? W3 _ y0
      obtain ⟨b2, hb2⟩ : ∃ b2 : Nat, 2 ^ j = b2 := ⟨_, rfl⟩
      rw [hb2]
      have HB2 := Lib.hid hb2
      obtain ⟨o, ho⟩ : ∃ o : Nat, oa os kk = o := by
        have := oa_bd HF.out (i := kk) (by have := HN1.out; omega)
        exact ⟨_, (Int.toNat_of_nonneg this.1).symm⟩
      have ho64 : o < 64 := by
        have := oa_bd HF.out (i := kk) (by have := HN1.out; omega)
        omega
      obtain ⟨hor, hor64, horx⟩ := or_bits ⟨o, ho64⟩ ⟨j, by omega⟩
      simp only at hor hor64 horx
      rw [hb2] at hor hor64 horx
      have HORX := Lib.hid horx
      have HOO := Lib.hid ho
      have hb64 : b2 ≤ 64 := by rw [← hb2]; exact two_le (by omega)
      clear hb2 ho horx
      go_wp2_with (at_builtin; refine wpList_append_own _ rfl _ _ 25 rfl (W3.heap.size + 1) 3 i0 (.int .i64 0) 1 8 Try.underlying25 HI.out hz0 hz1 hz2 rfl (by decide) _ 0 [] rfl (own_new1 W3 _ 3 [] 0 1 rfl (by decide)) ⟨b1, 0, none⟩ n1 d2 (intC os) rfl HNL.out (intNews (HR.out.os.keep (by repeat (first | exact Kept.refl _ | assumption | (refine Kept.alloc ?_ _) | (refine Kept.setCell ?_ (by first | omega | (simp; omega) | simp) _) | refine Kept.drew ?_ | refine Kept.drewN ?_ _ | (apply Kept.call; rotate_left; assumption))))) (intC_one os) (by unfold maxLen; omega) (by omega) (by first | omega | (simp; omega) | simp) ?_; intro v3 w3 hown3 hgrow3 _; rw [List.nil_append, Nat.zero_add] at hown3; obtain ⟨g3, c3, rfl, hg3, hg3'⟩ := own_some hown3 (by omega); have K4 : Kept W3 w3 := Kept.grown (by repeat (first | exact Kept.refl _ | assumption | (refine Kept.alloc ?_ _) | (refine Kept.setCell ?_ (by first | omega | (simp; omega) | simp) _) | refine Kept.drew ?_ | refine Kept.drewN ?_ _ | (apply Kept.call; rotate_left; assumption))) hgrow3 (by intro g hg; have h9 : some (W3.heap.size + 1) = some g := hg; injection h9 with h9; omega); obtain ⟨yd0, yd1, yd2, fd1, hw3⟩ := grown1 W3 w3 _ _ _ _ _ hgrow3; have O3 := Lib.hid hown3; have hc3 : n1 ≤ c3 ∧ c3 ≤ 9223372036854775807 := (by obtain ⟨A9, c9, e9, h9⟩ := IntsAt.of_ownI hown3; cases e9; have a := h9.2.1; have b := h9.2.2.1; unfold maxLen at b; omega); clear hown3 hgrow3)
      have K45 : Kept W3 (w3.setCell ⟨W3.heap.size, 1, none⟩ (.slice (some ⟨g3, 0, none⟩) n1 c3)) := K4.setCell (Nat.le_refl _) _
      have O4 := Lib.hid (ownsRow_setCell_below O3.out (a := ⟨W3.heap.size, 1, none⟩) (by simp) (.slice (some ⟨g3, 0, none⟩) n1 c3))
      have zc0 := K45.at_ y0
      have zc1 := K45.at_ y1
      have zc2 := K45.at_ y2
      have zd0 : (w3.setCell ⟨W3.heap.size, 1, none⟩ (.slice (some ⟨g3, 0, none⟩) n1 c3)).cell? ⟨W3.heap.size, 0, none⟩ = some (.slice (some ⟨a1, 0, none⟩) n1 d1) := by rw [World.cell?_setCell_other _ _ _ _ (by simp)]; exact yd0
      have zd1 : (w3.setCell ⟨W3.heap.size, 1, none⟩ (.slice (some ⟨g3, 0, none⟩) n1 c3)).cell? ⟨W3.heap.size, 1, none⟩ = some (.slice (some ⟨g3, 0, none⟩) n1 c3) := World.cell?_setCell_same _ _ _ yd1
      have zd2 : (w3.setCell ⟨W3.heap.size, 1, none⟩ (.slice (some ⟨g3, 0, none⟩) n1 c3)).cell? ⟨W3.heap.size, 2, none⟩ = some (.slice (some ⟨c1, 0, none⟩) n3 d3) := by rw [World.cell?_setCell_other _ _ _ _ (by simp)]; exact yd2
      have K5 := K3.call K45
      generalize w3.setCell ⟨W3.heap.size, 1, none⟩ (.slice (some ⟨g3, 0, none⟩) n1 c3) = W4 at *
      have zg : W4.cell? ⟨g3, kk, none⟩ = some (.int .i64 (o : Nat)) := by
        rw [O4.out.cellAt kk (by omega)]
        have hlt : kk < os.length := by rw [HF.out.len]; have := HN1.out; omega
        have := HOO.out
        unfold oa at this
        rw [List.getElem?_eq_getElem hlt] at this
        simp [intC, List.getElem?_eq_getElem hlt]
        simpa using this
      have zf := O4.out.frozenAt kk
      have hlD : W3.heap.size < W4.heap.size := World.block_lt_of_cell? W4 _ zd0
      clear yd0 yd1 yd2 fd1 y0 y1 y2 K45 O3 K4 hw3 hg3'
      refine wp_region_text keepsOne (fun wB => Kept w2 wB ∧ Kept W4 wB ∧ wB.cell? ⟨w2.heap.size, 0, none⟩ = some (.slice (some ⟨a1, 0, none⟩) n1 d1) ∧ wB.cell? ⟨w2.heap.size, 1, none⟩ = some (.slice (some ⟨b1, 0, none⟩) n1 d2) ∧ wB.cell? ⟨w2.heap.size, 2, none⟩ = some (.slice (some ⟨c1, 0, none⟩) n3 d3) ∧ wB.cell? ⟨W3.heap.size, 0, none⟩ = some (.slice (some ⟨a1, 0, none⟩) n1 d1) ∧ wB.cell? ⟨W3.heap.size, 1, none⟩ = some (.slice (some ⟨g3, 0, none⟩) n1 c3) ∧ wB.cell? ⟨W3.heap.size, 2, none⟩ = some (.slice (some ⟨c1, 0, none⟩) n3 d3) ∧ wB.cell? ⟨g3, kk, none⟩ = some (.int .i64 (o : Nat))) ?_ (by kernel_rfl) (by kernel_rfl) _ (by (try simp only [List.append_eq, List.cons_append, List.nil_append, List.toList_toArray]); exact rfl) ?_
      · exact ⟨by repeat (first | exact Kept.refl _ | assumption | (refine Kept.alloc ?_ _) | (refine Kept.setCell ?_ (by first | omega | (simp; omega) | simp) _) | refine Kept.drew ?_ | refine Kept.drewN ?_ _ | (apply Kept.call; rotate_left; assumption)), by repeat (first | exact Kept.refl _ | assumption | (refine Kept.alloc ?_ _) | (refine Kept.setCell ?_ (by first | omega | (simp; omega) | simp) _) | refine Kept.drew ?_ | refine Kept.drewN ?_ _ | (apply Kept.call; rotate_left; assumption)), by first | assumption | go_simp, by first | assumption | go_simp, by first | assumption | go_simp, by first | assumption | go_simp, by first | assumption | go_simp, by first | assumption | go_simp, by first | assumption | go_simp⟩
      rintro wB ⟨hkB, hkB1, sB1, sB2, sB3, sB4, sB5, sB6, sB7⟩
      repeat (first | (apply DW.det; (focus (intro wd hI; have hkd1 := hkB1.call hI; have td1 := hI.at_ sB1; have td2 := hI.at_ sB2; have td3 := hI.at_ sB3; have td4 := hI.at_ sB4; have td5 := hI.at_ sB5; have td6 := hI.at_ sB6; have td7 := hI.at_ sB7; skip; go_wp2_with (fail); refine StepPost.mk _ rfl ⟨rfl, ?_⟩; repeat (first | exact Kept.refl _ | assumption | (refine Kept.alloc ?_ _) | (refine Kept.setCell ?_ (by first | omega | (simp; omega) | simp) _) | refine Kept.drew ?_ | refine Kept.drewN ?_ _ | (apply Kept.call; rotate_left; assumption)))); simp only [Act.put, List.setIfInBounds_toArray, List.set_cons_succ, List.set_cons_zero]) | (refine DW.loud (by kernel_rfl) ?_; intro wd hI; have hkd1 := hkB1.call hI; have td1 := hI.at_ sB1; have td2 := hI.at_ sB2; have td3 := hI.at_ sB3; have td4 := hI.at_ sB4; have td5 := hI.at_ sB5; have td6 := hI.at_ sB6; have td7 := hI.at_ sB7; skip; go_wp2_with (fail); refine StepPost.loud _ rfl (by repeat (first | exact Kept.refl _ | assumption | (refine Kept.alloc ?_ _) | (refine Kept.setCell ?_ (by first | omega | (simp; omega) | simp) _) | refine Kept.drew ?_ | refine Kept.drewN ?_ _ | (apply Kept.call; rotate_left; assumption))) (fun hkL => ?_); have hkL := hI.call hkL; have hkB := hkB.call hkL; have hkB1 := hkB1.call hkL; have sB1 := hkL.at_ sB1; have sB2 := hkL.at_ sB2; have sB3 := hkL.at_ sB3; have sB4 := hkL.at_ sB4; have sB5 := hkL.at_ sB5; have sB6 := hkL.at_ sB6; have sB7 := hkL.at_ sB7; simp only [Act.put, List.setIfInBounds_toArray, List.set_cons_succ, List.set_cons_zero]))
      refine DW.tail (by kernel_rfl) ?_
      intro wd hI
      have hkd := hkB.call hI
      have hkd1 := hkB1.call hI; have td1 := hI.at_ sB1; have td2 := hI.at_ sB2; have td3 := hI.at_ sB3; have td4 := hI.at_ sB4; have td5 := hI.at_ sB5; have td6 := hI.at_ sB6; have td7 := hI.at_ sB7
      have zf2 : wd.frozen? ⟨g3, kk, none⟩ = false := by rw [hkd1.frozen g3 kk (World.block_lt_of_cell? W4 _ zg)]; exact zf
      obtain ⟨rb, ro, e, hrc⟩ := HR.out.rs.2.2.2.2 (by omega)
      cases e
      have hkl : kk ≤ es.length := by have := HN1.out; omega
      have r1 : wd.cell? ⟨a1, kk * 2, none⟩ = some (.string (fr es kk)) := by
        have := hkd.at_ (hrc kk hk2).1
        rw [rgs_at hkl, Nat.zero_add] at this
        exact this
      have r2 : wd.cell? ⟨a1, kk * 2 + 1, none⟩ = some (.string (to es kk)) := by
        have := hkd.at_ (hrc kk hk2).2
        rw [rgs_at hkl, Nat.zero_add] at this
        exact this
      have hag : a1 < w2.heap.size := World.block_lt_of_cell? w2 _ (hrc kk hk2).1
      have hIN := Lib.hid (has_iff HF.out.up hkl k)
      have HFIT : Hid (Fit es (os.set kk ((o ||| b2 : Nat) : Int)) n3) := by
        have := fit_set (s := j) HF.out (show kk < es.length + 1 by omega) (by omega) HOO.out
        rwa [HB2.out] at this
      have O5 := Lib.hid ((Kept.own O4.out hkd1).stored kk (.int .i64 ((o ||| b2 : Nat) : Int))).1
      have K6 : Kept w2 (wd.setCell ⟨g3, kk, none⟩ (.int .i64 ((o ||| b2 : Nat) : Int))) := hkd.setCell (by simp; omega) _
      have HI5 : Hid (IntsAt (wd.setCell ⟨g3, kk, none⟩ (.int .i64 ((o ||| b2 : Nat) : Int))) (some ⟨g3, 0, none⟩) n1 c3 (os.set kk ((o ||| b2 : Nat) : Int))) := by
        have h := O5.out
        rw [← intC_set] at h
        obtain ⟨A9, c9, e9, h9⟩ := IntsAt.of_ownI h
        cases e9
        exact h9
      have hgC : g3 ≠ w2.heap.size := by omega
      have hgD : g3 ≠ W3.heap.size := by omega
      have vc0 : (wd.setCell ⟨g3, kk, none⟩ (.int .i64 ((o ||| b2 : Nat) : Int))).cell? ⟨w2.heap.size, 0, none⟩ = some (.slice (some ⟨a1, 0, none⟩) n1 d1) := by rw [World.cell?_setCell_other _ _ _ _ (by intro g; cases g; exact hgC rfl)]; exact td1
      have vc1 : (wd.setCell ⟨g3, kk, none⟩ (.int .i64 ((o ||| b2 : Nat) : Int))).cell? ⟨w2.heap.size, 1, none⟩ = some (.slice (some ⟨b1, 0, none⟩) n1 d2) := by rw [World.cell?_setCell_other _ _ _ _ (by intro g; cases g; exact hgC rfl)]; exact td2
      have vc2 : (wd.setCell ⟨g3, kk, none⟩ (.int .i64 ((o ||| b2 : Nat) : Int))).cell? ⟨w2.heap.size, 2, none⟩ = some (.slice (some ⟨c1, 0, none⟩) n3 d3) := by rw [World.cell?_setCell_other _ _ _ _ (by intro g; cases g; exact hgC rfl)]; exact td3
      have vd0 : (wd.setCell ⟨g3, kk, none⟩ (.int .i64 ((o ||| b2 : Nat) : Int))).cell? ⟨W3.heap.size, 0, none⟩ = some (.slice (some ⟨a1, 0, none⟩) n1 d1) := by rw [World.cell?_setCell_other _ _ _ _ (by intro g; cases g; exact hgD rfl)]; exact td4
      have vd1 : (wd.setCell ⟨g3, kk, none⟩ (.int .i64 ((o ||| b2 : Nat) : Int))).cell? ⟨W3.heap.size, 1, none⟩ = some (.slice (some ⟨g3, 0, none⟩) n1 c3) := by rw [World.cell?_setCell_other _ _ _ _ (by intro g; cases g; exact hgD rfl)]; exact td5
      have vd2 : (wd.setCell ⟨g3, kk, none⟩ (.int .i64 ((o ||| b2 : Nat) : Int))).cell? ⟨W3.heap.size, 2, none⟩ = some (.slice (some ⟨c1, 0, none⟩) n3 d3) := by rw [World.cell?_setCell_other _ _ _ _ (by intro g; cases g; exact hgD rfl)]; exact td6
      clear hrc O4
      generalize fr es kk = f_ at *
      generalize to es kk = t_ at *
      go_wp2_with fail
      generalize wd.setCell ⟨g3, kk, none⟩ (.int .i64 ((o ||| b2 : Nat) : Int)) = W5 at *
      refine (rhas_any f_ t_ k _).mono ?_
      rintro e w6 ⟨rfl, k6⟩
      rw [hIN.out]
      have K7 := K6.call k6
      have vc0 := Lib.hid (k6.at_ vc0)
      have vc1 := Lib.hid (k6.at_ vc1)
      have vc2 := Lib.hid (k6.at_ vc2)
      have vd0 := Lib.hid (k6.at_ vd0)
      have vd1 := Lib.hid (k6.at_ vd1)
      have vd2 := Lib.hid (k6.at_ vd2)
      have RC := Lib.hid (HR.out.keep K7)
      have RD : Hid (RowW w6 (some ⟨a1, 0, none⟩) n1 d1 (some ⟨g3, 0, none⟩) n1 c3 (some ⟨c1, 0, none⟩) n3 d3 (rgs es) (os.set kk ((o ||| b2 : Nat) : Int)) ps) := ⟨RC.out.rs, HI5.out.keep k6, RC.out.ps⟩
      clear O5 HI5 hIN r1 r2 zf zf2 zg td1 td2 td3 td4 td5 td6 td7 hkB hkB1 sB1 sB2 sB3 sB4 sB5 sB6 sB7 hI hkd hkd1 zc0 zc1 zc2 zd0 zd1 zd2 hor
      have HPQ : Hid (∀ x : Nat, x < 6 → bitB (oa (os.set kk ((o ||| b2 : Nat) : Int)) (findI es (hv k))) x = (bitB (oa os (findI es (hv k))) x || (decide (kk = findI es (hv k)) && decide (x = j)))) := fun x hx => by
        by_cases e : kk = findI es (hv k)
        · rw [decide_eq_true e, ← e, oa_set_same (by rw [HF.out.len]; omega), HOO.out]
          rw [Bool.true_and]
          exact HORX.out ⟨x, hx⟩
        · rw [decide_eq_false e, oa_set_other (fun g => e g.symm), Bool.false_and, Bool.or_false]
      have HP0 : Hid (∃ PX : Nat → Bool, ∃ QX : Nat → Bool, (∀ x : Nat, bitB (oa os (findI es (hv k))) x = PX x) ∧ (∀ x : Nat, bitB (oa (os.set kk ((o ||| b2 : Nat) : Int)) (findI es (hv k))) x = QX x)) := ⟨_, _, fun _ => rfl, fun _ => rfl⟩
      obtain ⟨PX, QX, hPX, hQX⟩ := HP0.out
      have HPX := Lib.hid hPX
      have HQX := Lib.hid hQX
      obtain ⟨IN, hIN⟩ : ∃ IN, decide (kk = findI es (hv k)) = IN := ⟨_, rfl⟩
      have HPQ : Hid (∀ x : Nat, x < 6 → QX x = (PX x || (IN && decide (x = j)))) := fun x hx => by
        have := HPQ.out x hx
        rwa [hPX, hQX, hIN] at this
      rw [hIN]
      clear hPX hQX HP0 HORX hIN
      cases IN
      · skip
        go_wp2_with fail
        go_loopw [16] (fun xv wr => ∃ i : Nat, i ≤ 6 ∧ xv = .int .i64 i ∧ Kept w6 wr) (fun xv _ => 6 - (intOf xv).toNat)
        case atStart => exact ⟨0, by omega, rfl, Kept.refl _⟩
        case round =>
          obtain ⟨i, hi, rfl, kr⟩ := hrel
          have u0 := kr.at_ vc0.out
          have u1 := kr.at_ vc1.out
          have u2 := kr.at_ vc2.out
          have v0 := kr.at_ vd0.out
          have v1 := kr.at_ vd1.out
          have v2 := kr.at_ vd2.out
          by_cases hlt : i < 6
          · have hpq := HPQ.out i hlt
            cases hp : PX i
            · by_cases hxj : i = j
              · have hq : QX i = _ := hpq
                rw [hp, decide_eq_true hxj] at hq
                simp only [Bool.false_or, Bool.and_true, Bool.and_false, Bool.false_and, Bool.true_and] at hq
                have hp := Lib.hid hp
                have hq := Lib.hid hq
                have dj : (((i : Nat) : Int) == ((j : Nat) : Int)) = true := by simp; omega
                have dj2 : (i == j) = true := by simp; exact hxj
                clear hpq hxj
                go_wp2_with fail
                refine (towns_is _ _ _ n1 d1 n1 d2 n3 d3 es os ps i k _ false (RC.out.keep kr) HF.out (by rw [HPX.out]; exact hp.out)).mono ?_
                rintro e w7 ⟨rfl, k7⟩
                have K8 := kr.call k7
                have u0 := k7.at_ u0
                have u1 := k7.at_ u1
                have u2 := k7.at_ u2
                have v0 := k7.at_ v0
                have v1 := k7.at_ v1
                have v2 := k7.at_ v2
                go_wp2_with fail
                refine (towns_is _ _ _ n1 d1 n1 c3 n3 d3 es (os.set kk ((o ||| b2 : Nat) : Int)) ps i k _ false (RD.out.keep K8) HFIT.out (by rw [HQX.out]; exact hq.out)).mono ?_
                rintro e w8 ⟨rfl, k8⟩
                go_wp2_with fail
                go_roundw
                case rel => first | exact ⟨i + 1, by omega, by go_num, K8.call k8⟩ | ((repeat apply Exists.intro); exact ⟨⟨i + 1, by omega, by go_num, K8.call k8⟩, rfl⟩)
                case measure => simp [intOf]; omega
              · have hq : QX i = _ := hpq
                rw [hp, decide_eq_false hxj] at hq
                simp only [Bool.false_or, Bool.and_true, Bool.and_false, Bool.false_and, Bool.true_and] at hq
                have hp := Lib.hid hp
                have hq := Lib.hid hq
                have dj : (((i : Nat) : Int) == ((j : Nat) : Int)) = false := by simp; omega
                have dj2 : (i == j) = false := by simp; exact hxj
                clear hpq hxj
                go_wp2_with fail
                refine (towns_is _ _ _ n1 d1 n1 d2 n3 d3 es os ps i k _ false (RC.out.keep kr) HF.out (by rw [HPX.out]; exact hp.out)).mono ?_
                rintro e w7 ⟨rfl, k7⟩
                have K8 := kr.call k7
                have u0 := k7.at_ u0
                have u1 := k7.at_ u1
                have u2 := k7.at_ u2
                have v0 := k7.at_ v0
                have v1 := k7.at_ v1
                have v2 := k7.at_ v2
                go_wp2_with fail
                refine (towns_is _ _ _ n1 d1 n1 c3 n3 d3 es (os.set kk ((o ||| b2 : Nat) : Int)) ps i k _ false (RD.out.keep K8) HFIT.out (by rw [HQX.out]; exact hq.out)).mono ?_
                rintro e w8 ⟨rfl, k8⟩
                go_wp2_with fail
                go_roundw
                case rel => first | exact ⟨i + 1, by omega, by go_num, K8.call k8⟩ | ((repeat apply Exists.intro); exact ⟨⟨i + 1, by omega, by go_num, K8.call k8⟩, rfl⟩)
                case measure => simp [intOf]; omega
            · have hq : QX i = _ := hpq
              rw [hp] at hq
              simp only [Bool.true_or] at hq
              have hp := Lib.hid hp
              have hq := Lib.hid hq
              clear hpq
              go_wp2_with fail
              refine (towns_is _ _ _ n1 d1 n1 d2 n3 d3 es os ps i k _ true (RC.out.keep kr) HF.out (by rw [HPX.out]; exact hp.out)).mono ?_
              rintro e w7 ⟨rfl, k7⟩
              have K8 := kr.call k7
              have u0 := k7.at_ u0
              have u1 := k7.at_ u1
              have u2 := k7.at_ u2
              have v0 := k7.at_ v0
              have v1 := k7.at_ v1
              have v2 := k7.at_ v2
              go_wp2_with fail
              refine (towns_is _ _ _ n1 d1 n1 c3 n3 d3 es (os.set kk ((o ||| b2 : Nat) : Int)) ps i k _ true (RD.out.keep K8) HFIT.out (by rw [HQX.out]; exact hq.out)).mono ?_
              rintro e w8 ⟨rfl, k8⟩
              go_wp2_with fail
              go_roundw
              case rel => first | exact ⟨i + 1, by omega, by go_num, K8.call k8⟩ | ((repeat apply Exists.intro); exact ⟨⟨i + 1, by omega, by go_num, K8.call k8⟩, rfl⟩)
              case measure => simp [intOf]; omega
          · obtain rfl : i = 6 := by omega
            rcases Nat.eq_or_lt_of_le (show 1 ≤ d2 by omega) with hdd | hdd
            · subst hdd
              go_wp2_with fail
              refine wp_region_text keepsOne (fun wB => Kept w6 wB ∧ wB.cell? ⟨w2.heap.size, 0, none⟩ = some (.slice (some ⟨a1, 0, none⟩) n1 d1) ∧ wB.cell? ⟨w2.heap.size, 1, none⟩ = some (.slice (some ⟨b1, 0, none⟩) n1 1) ∧ wB.cell? ⟨w2.heap.size, 2, none⟩ = some (.slice (some ⟨c1, 0, none⟩) n3 d3) ∧ wB.cell? ⟨W3.heap.size, 0, none⟩ = some (.slice (some ⟨a1, 0, none⟩) n1 d1) ∧ wB.cell? ⟨W3.heap.size, 1, none⟩ = some (.slice (some ⟨g3, 0, none⟩) n1 c3) ∧ wB.cell? ⟨W3.heap.size, 2, none⟩ = some (.slice (some ⟨c1, 0, none⟩) n3 d3)) ?_ (by kernel_rfl) (by kernel_rfl) _ (by (try simp only [List.append_eq, List.cons_append, List.nil_append, List.toList_toArray]); exact rfl) ?_
              · exact ⟨by repeat (first | exact Kept.refl _ | assumption | (refine Kept.alloc ?_ _) | (refine Kept.setCell ?_ (by first | omega | (simp; omega) | simp) _) | refine Kept.drew ?_ | refine Kept.drewN ?_ _ | (apply Kept.call; rotate_left; assumption)), by first | assumption | go_simp, by first | assumption | go_simp, by first | assumption | go_simp, by first | assumption | go_simp, by first | assumption | go_simp, by first | assumption | go_simp⟩
              rintro wB ⟨hkB, sB1, sB2, sB3, sB4, sB5, sB6⟩
              repeat (first | (apply DW.det; (focus (intro wd hI; have td1 := hI.at_ sB1; have td2 := hI.at_ sB2; have td3 := hI.at_ sB3; have td4 := hI.at_ sB4; have td5 := hI.at_ sB5; have td6 := hI.at_ sB6; skip; go_wp2_with (first | (go_at_call 14; refine (tcheck_is _ _ _ _ _ _ _ _ _ _ _ (by first | exact .inl ⟨rfl, es, _, ps, RD.out.keep (hkB.call hI), HFIT.out⟩ | exact .inr ⟨rfl, ⟨by omega, by omega, by omega⟩, by omega⟩)).mono ?_; rintro e w6 ⟨rfl, hb6⟩)); refine StepPost.mk _ rfl ⟨rfl, ?_⟩; repeat (first | exact Kept.refl _ | assumption | (refine Kept.alloc ?_ _) | (refine Kept.setCell ?_ (by first | omega | (simp; omega) | simp) _) | refine Kept.drew ?_ | refine Kept.drewN ?_ _ | (apply Kept.call; rotate_left; assumption)))); simp only [Act.put, List.setIfInBounds_toArray, List.set_cons_succ, List.set_cons_zero]) | (refine DW.loud (by kernel_rfl) ?_; intro wd hI; have td1 := hI.at_ sB1; have td2 := hI.at_ sB2; have td3 := hI.at_ sB3; have td4 := hI.at_ sB4; have td5 := hI.at_ sB5; have td6 := hI.at_ sB6; skip; go_wp2_with (first | (go_at_call 14; refine (tcheck_is _ _ _ _ _ _ _ _ _ _ _ (by first | exact .inl ⟨rfl, es, _, ps, RD.out.keep (hkB.call hI), HFIT.out⟩ | exact .inr ⟨rfl, ⟨by omega, by omega, by omega⟩, by omega⟩)).mono ?_; rintro e w6 ⟨rfl, hb6⟩)); refine StepPost.loud _ rfl (by repeat (first | exact Kept.refl _ | assumption | (refine Kept.alloc ?_ _) | (refine Kept.setCell ?_ (by first | omega | (simp; omega) | simp) _) | refine Kept.drew ?_ | refine Kept.drewN ?_ _ | (apply Kept.call; rotate_left; assumption))) (fun hkL => ?_); have hkL := hI.call hkL; have hkB := hkB.call hkL; have sB1 := hkL.at_ sB1; have sB2 := hkL.at_ sB2; have sB3 := hkL.at_ sB3; have sB4 := hkL.at_ sB4; have sB5 := hkL.at_ sB5; have sB6 := hkL.at_ sB6; simp only [Act.put, List.setIfInBounds_toArray, List.set_cons_succ, List.set_cons_zero]))
              refine DW.nil ?_
              intro wd hI
              have hkd := hkB.call hI
              have td1 := hI.at_ sB1; have td2 := hI.at_ sB2; have td3 := hI.at_ sB3; have td4 := hI.at_ sB4; have td5 := hI.at_ sB5; have td6 := hI.at_ sB6
              go_wp2_with fail
              go_ret
              exact ⟨by first | rfl | exact ret_bool (by simp), K2.call (K7.call hkd)⟩
            · have hdd2 : ¬ d2 - 1 = 0 := by omega
              have hdd3 : ¬ d2 = 1 := by omega
              have hdd4 : ¬ (d2 : Int) - 1 = 0 := by omega
              have hdd5 : ((d2 : Int) - 1 == 0) = false := by simp; omega
              have hdd6 : (d2 == 1) = false := by simp; omega
              go_wp2_with fail
              refine wp_region_text keepsOne (fun wB => Kept w6 wB ∧ wB.cell? ⟨w2.heap.size, 0, none⟩ = some (.slice (some ⟨a1, 0, none⟩) n1 d1) ∧ wB.cell? ⟨w2.heap.size, 1, none⟩ = some (.slice (some ⟨b1, 0, none⟩) n1 d2) ∧ wB.cell? ⟨w2.heap.size, 2, none⟩ = some (.slice (some ⟨c1, 0, none⟩) n3 d3) ∧ wB.cell? ⟨W3.heap.size, 0, none⟩ = some (.slice (some ⟨a1, 0, none⟩) n1 d1) ∧ wB.cell? ⟨W3.heap.size, 1, none⟩ = some (.slice (some ⟨g3, 0, none⟩) n1 c3) ∧ wB.cell? ⟨W3.heap.size, 2, none⟩ = some (.slice (some ⟨c1, 0, none⟩) n3 d3)) ?_ (by kernel_rfl) (by kernel_rfl) _ (by (try simp only [List.append_eq, List.cons_append, List.nil_append, List.toList_toArray]); exact rfl) ?_
              · exact ⟨by repeat (first | exact Kept.refl _ | assumption | (refine Kept.alloc ?_ _) | (refine Kept.setCell ?_ (by first | omega | (simp; omega) | simp) _) | refine Kept.drew ?_ | refine Kept.drewN ?_ _ | (apply Kept.call; rotate_left; assumption)), by first | assumption | go_simp, by first | assumption | go_simp, by first | assumption | go_simp, by first | assumption | go_simp, by first | assumption | go_simp, by first | assumption | go_simp⟩
              rintro wB ⟨hkB, sB1, sB2, sB3, sB4, sB5, sB6⟩
              repeat (first | (apply DW.det; (focus (intro wd hI; have td1 := hI.at_ sB1; have td2 := hI.at_ sB2; have td3 := hI.at_ sB3; have td4 := hI.at_ sB4; have td5 := hI.at_ sB5; have td6 := hI.at_ sB6; skip; go_wp2_with (first | (go_at_call 14; refine (tcheck_is _ _ _ _ _ _ _ _ _ _ _ (by first | exact .inl ⟨rfl, es, _, ps, RD.out.keep (hkB.call hI), HFIT.out⟩ | exact .inr ⟨rfl, ⟨by omega, by omega, by omega⟩, by omega⟩)).mono ?_; rintro e w6 ⟨rfl, hb6⟩)); refine StepPost.mk _ rfl ⟨rfl, ?_⟩; repeat (first | exact Kept.refl _ | assumption | (refine Kept.alloc ?_ _) | (refine Kept.setCell ?_ (by first | omega | (simp; omega) | simp) _) | refine Kept.drew ?_ | refine Kept.drewN ?_ _ | (apply Kept.call; rotate_left; assumption)))); simp only [Act.put, List.setIfInBounds_toArray, List.set_cons_succ, List.set_cons_zero]) | (refine DW.loud (by kernel_rfl) ?_; intro wd hI; have td1 := hI.at_ sB1; have td2 := hI.at_ sB2; have td3 := hI.at_ sB3; have td4 := hI.at_ sB4; have td5 := hI.at_ sB5; have td6 := hI.at_ sB6; skip; go_wp2_with (first | (go_at_call 14; refine (tcheck_is _ _ _ _ _ _ _ _ _ _ _ (by first | exact .inl ⟨rfl, es, _, ps, RD.out.keep (hkB.call hI), HFIT.out⟩ | exact .inr ⟨rfl, ⟨by omega, by omega, by omega⟩, by omega⟩)).mono ?_; rintro e w6 ⟨rfl, hb6⟩)); refine StepPost.loud _ rfl (by repeat (first | exact Kept.refl _ | assumption | (refine Kept.alloc ?_ _) | (refine Kept.setCell ?_ (by first | omega | (simp; omega) | simp) _) | refine Kept.drew ?_ | refine Kept.drewN ?_ _ | (apply Kept.call; rotate_left; assumption))) (fun hkL => ?_); have hkL := hI.call hkL; have hkB := hkB.call hkL; have sB1 := hkL.at_ sB1; have sB2 := hkL.at_ sB2; have sB3 := hkL.at_ sB3; have sB4 := hkL.at_ sB4; have sB5 := hkL.at_ sB5; have sB6 := hkL.at_ sB6; simp only [Act.put, List.setIfInBounds_toArray, List.set_cons_succ, List.set_cons_zero]))
              refine DW.nil ?_
              intro wd hI
              have hkd := hkB.call hI
              have td1 := hI.at_ sB1; have td2 := hI.at_ sB2; have td3 := hI.at_ sB3; have td4 := hI.at_ sB4; have td5 := hI.at_ sB5; have td6 := hI.at_ sB6
              go_wp2_with fail
              go_ret
              exact ⟨by first | rfl | exact ret_bool (by simp), K2.call (K7.call hkd)⟩
      · skip
        go_wp2_with fail
        go_loopw [16] (fun xv wr => ∃ i : Nat, i ≤ 6 ∧ xv = .int .i64 i ∧ Kept w6 wr) (fun xv _ => 6 - (intOf xv).toNat)
        case atStart => exact ⟨0, by omega, rfl, Kept.refl _⟩
        case round =>
          obtain ⟨i, hi, rfl, kr⟩ := hrel
          have u0 := kr.at_ vc0.out
          have u1 := kr.at_ vc1.out
          have u2 := kr.at_ vc2.out
          have v0 := kr.at_ vd0.out
          have v1 := kr.at_ vd1.out
          have v2 := kr.at_ vd2.out
          by_cases hlt : i < 6
          · have hpq := HPQ.out i hlt
            cases hp : PX i
            · by_cases hxj : i = j
              · have hq : QX i = _ := hpq
                rw [hp, decide_eq_true hxj] at hq
                simp only [Bool.false_or, Bool.and_true, Bool.and_false, Bool.false_and, Bool.true_and] at hq
                have hp := Lib.hid hp
                have hq := Lib.hid hq
                have dj : (((i : Nat) : Int) == ((j : Nat) : Int)) = true := by simp; omega
                have dj2 : (i == j) = true := by simp; exact hxj
                clear hpq hxj
                go_wp2_with fail
                refine (towns_is _ _ _ n1 d1 n1 d2 n3 d3 es os ps i k _ false (RC.out.keep kr) HF.out (by rw [HPX.out]; exact hp.out)).mono ?_
                rintro e w7 ⟨rfl, k7⟩
                have K8 := kr.call k7
                have u0 := k7.at_ u0
                have u1 := k7.at_ u1
                have u2 := k7.at_ u2
                have v0 := k7.at_ v0
                have v1 := k7.at_ v1
                have v2 := k7.at_ v2
                go_wp2_with fail
                refine (towns_is _ _ _ n1 d1 n1 c3 n3 d3 es (os.set kk ((o ||| b2 : Nat) : Int)) ps i k _ true (RD.out.keep K8) HFIT.out (by rw [HQX.out]; exact hq.out)).mono ?_
                rintro e w8 ⟨rfl, k8⟩
                go_wp2_with fail
                go_roundw
                case rel => first | exact ⟨i + 1, by omega, by go_num, K8.call k8⟩ | ((repeat apply Exists.intro); exact ⟨⟨i + 1, by omega, by go_num, K8.call k8⟩, rfl⟩)
                case measure => simp [intOf]; omega
              · have hq : QX i = _ := hpq
                rw [hp, decide_eq_false hxj] at hq
                simp only [Bool.false_or, Bool.and_true, Bool.and_false, Bool.false_and, Bool.true_and] at hq
                have hp := Lib.hid hp
                have hq := Lib.hid hq
                have dj : (((i : Nat) : Int) == ((j : Nat) : Int)) = false := by simp; omega
                have dj2 : (i == j) = false := by simp; exact hxj
                clear hpq hxj
                go_wp2_with fail
                refine (towns_is _ _ _ n1 d1 n1 d2 n3 d3 es os ps i k _ false (RC.out.keep kr) HF.out (by rw [HPX.out]; exact hp.out)).mono ?_
                rintro e w7 ⟨rfl, k7⟩
                have K8 := kr.call k7
                have u0 := k7.at_ u0
                have u1 := k7.at_ u1
                have u2 := k7.at_ u2
                have v0 := k7.at_ v0
                have v1 := k7.at_ v1
                have v2 := k7.at_ v2
                go_wp2_with fail
                refine (towns_is _ _ _ n1 d1 n1 c3 n3 d3 es (os.set kk ((o ||| b2 : Nat) : Int)) ps i k _ false (RD.out.keep K8) HFIT.out (by rw [HQX.out]; exact hq.out)).mono ?_
                rintro e w8 ⟨rfl, k8⟩
                go_wp2_with fail
                go_roundw
                case rel => first | exact ⟨i + 1, by omega, by go_num, K8.call k8⟩ | ((repeat apply Exists.intro); exact ⟨⟨i + 1, by omega, by go_num, K8.call k8⟩, rfl⟩)
                case measure => simp [intOf]; omega
            · have hq : QX i = _ := hpq
              rw [hp] at hq
              simp only [Bool.true_or] at hq
              have hp := Lib.hid hp
              have hq := Lib.hid hq
              clear hpq
              go_wp2_with fail
              refine (towns_is _ _ _ n1 d1 n1 d2 n3 d3 es os ps i k _ true (RC.out.keep kr) HF.out (by rw [HPX.out]; exact hp.out)).mono ?_
              rintro e w7 ⟨rfl, k7⟩
              have K8 := kr.call k7
              have u0 := k7.at_ u0
              have u1 := k7.at_ u1
              have u2 := k7.at_ u2
              have v0 := k7.at_ v0
              have v1 := k7.at_ v1
              have v2 := k7.at_ v2
              go_wp2_with fail
              refine (towns_is _ _ _ n1 d1 n1 c3 n3 d3 es (os.set kk ((o ||| b2 : Nat) : Int)) ps i k _ true (RD.out.keep K8) HFIT.out (by rw [HQX.out]; exact hq.out)).mono ?_
              rintro e w8 ⟨rfl, k8⟩
              go_wp2_with fail
              go_roundw
              case rel => first | exact ⟨i + 1, by omega, by go_num, K8.call k8⟩ | ((repeat apply Exists.intro); exact ⟨⟨i + 1, by omega, by go_num, K8.call k8⟩, rfl⟩)
              case measure => simp [intOf]; omega
          · obtain rfl : i = 6 := by omega
            rcases Nat.eq_or_lt_of_le (show 1 ≤ d2 by omega) with hdd | hdd
            · subst hdd
              go_wp2_with fail
              refine wp_region_text keepsOne (fun wB => Kept w6 wB ∧ wB.cell? ⟨w2.heap.size, 0, none⟩ = some (.slice (some ⟨a1, 0, none⟩) n1 d1) ∧ wB.cell? ⟨w2.heap.size, 1, none⟩ = some (.slice (some ⟨b1, 0, none⟩) n1 1) ∧ wB.cell? ⟨w2.heap.size, 2, none⟩ = some (.slice (some ⟨c1, 0, none⟩) n3 d3) ∧ wB.cell? ⟨W3.heap.size, 0, none⟩ = some (.slice (some ⟨a1, 0, none⟩) n1 d1) ∧ wB.cell? ⟨W3.heap.size, 1, none⟩ = some (.slice (some ⟨g3, 0, none⟩) n1 c3) ∧ wB.cell? ⟨W3.heap.size, 2, none⟩ = some (.slice (some ⟨c1, 0, none⟩) n3 d3)) ?_ (by kernel_rfl) (by kernel_rfl) _ (by (try simp only [List.append_eq, List.cons_append, List.nil_append, List.toList_toArray]); exact rfl) ?_
              · exact ⟨by repeat (first | exact Kept.refl _ | assumption | (refine Kept.alloc ?_ _) | (refine Kept.setCell ?_ (by first | omega | (simp; omega) | simp) _) | refine Kept.drew ?_ | refine Kept.drewN ?_ _ | (apply Kept.call; rotate_left; assumption)), by first | assumption | go_simp, by first | assumption | go_simp, by first | assumption | go_simp, by first | assumption | go_simp, by first | assumption | go_simp, by first | assumption | go_simp⟩
              rintro wB ⟨hkB, sB1, sB2, sB3, sB4, sB5, sB6⟩
              repeat (first | (apply DW.det; (focus (intro wd hI; have td1 := hI.at_ sB1; have td2 := hI.at_ sB2; have td3 := hI.at_ sB3; have td4 := hI.at_ sB4; have td5 := hI.at_ sB5; have td6 := hI.at_ sB6; skip; go_wp2_with (first | (go_at_call 14; refine (tcheck_is _ _ _ _ _ _ _ _ _ _ _ (by first | exact .inl ⟨rfl, es, _, ps, RD.out.keep (hkB.call hI), HFIT.out⟩ | exact .inr ⟨rfl, ⟨by omega, by omega, by omega⟩, by omega⟩)).mono ?_; rintro e w6 ⟨rfl, hb6⟩)); refine StepPost.mk _ rfl ⟨rfl, ?_⟩; repeat (first | exact Kept.refl _ | assumption | (refine Kept.alloc ?_ _) | (refine Kept.setCell ?_ (by first | omega | (simp; omega) | simp) _) | refine Kept.drew ?_ | refine Kept.drewN ?_ _ | (apply Kept.call; rotate_left; assumption)))); simp only [Act.put, List.setIfInBounds_toArray, List.set_cons_succ, List.set_cons_zero]) | (refine DW.loud (by kernel_rfl) ?_; intro wd hI; have td1 := hI.at_ sB1; have td2 := hI.at_ sB2; have td3 := hI.at_ sB3; have td4 := hI.at_ sB4; have td5 := hI.at_ sB5; have td6 := hI.at_ sB6; skip; go_wp2_with (first | (go_at_call 14; refine (tcheck_is _ _ _ _ _ _ _ _ _ _ _ (by first | exact .inl ⟨rfl, es, _, ps, RD.out.keep (hkB.call hI), HFIT.out⟩ | exact .inr ⟨rfl, ⟨by omega, by omega, by omega⟩, by omega⟩)).mono ?_; rintro e w6 ⟨rfl, hb6⟩)); refine StepPost.loud _ rfl (by repeat (first | exact Kept.refl _ | assumption | (refine Kept.alloc ?_ _) | (refine Kept.setCell ?_ (by first | omega | (simp; omega) | simp) _) | refine Kept.drew ?_ | refine Kept.drewN ?_ _ | (apply Kept.call; rotate_left; assumption))) (fun hkL => ?_); have hkL := hI.call hkL; have hkB := hkB.call hkL; have sB1 := hkL.at_ sB1; have sB2 := hkL.at_ sB2; have sB3 := hkL.at_ sB3; have sB4 := hkL.at_ sB4; have sB5 := hkL.at_ sB5; have sB6 := hkL.at_ sB6; simp only [Act.put, List.setIfInBounds_toArray, List.set_cons_succ, List.set_cons_zero]))
              refine DW.nil ?_
              intro wd hI
              have hkd := hkB.call hI
              have td1 := hI.at_ sB1; have td2 := hI.at_ sB2; have td3 := hI.at_ sB3; have td4 := hI.at_ sB4; have td5 := hI.at_ sB5; have td6 := hI.at_ sB6
              go_wp2_with fail
              go_ret
              exact ⟨by first | rfl | exact ret_bool (by simp), K2.call (K7.call hkd)⟩
            · have hdd2 : ¬ d2 - 1 = 0 := by omega
              have hdd3 : ¬ d2 = 1 := by omega
              have hdd4 : ¬ (d2 : Int) - 1 = 0 := by omega
              have hdd5 : ((d2 : Int) - 1 == 0) = false := by simp; omega
              have hdd6 : (d2 == 1) = false := by simp; omega
              go_wp2_with fail
              refine wp_region_text keepsOne (fun wB => Kept w6 wB ∧ wB.cell? ⟨w2.heap.size, 0, none⟩ = some (.slice (some ⟨a1, 0, none⟩) n1 d1) ∧ wB.cell? ⟨w2.heap.size, 1, none⟩ = some (.slice (some ⟨b1, 0, none⟩) n1 d2) ∧ wB.cell? ⟨w2.heap.size, 2, none⟩ = some (.slice (some ⟨c1, 0, none⟩) n3 d3) ∧ wB.cell? ⟨W3.heap.size, 0, none⟩ = some (.slice (some ⟨a1, 0, none⟩) n1 d1) ∧ wB.cell? ⟨W3.heap.size, 1, none⟩ = some (.slice (some ⟨g3, 0, none⟩) n1 c3) ∧ wB.cell? ⟨W3.heap.size, 2, none⟩ = some (.slice (some ⟨c1, 0, none⟩) n3 d3)) ?_ (by kernel_rfl) (by kernel_rfl) _ (by (try simp only [List.append_eq, List.cons_append, List.nil_append, List.toList_toArray]); exact rfl) ?_
              · exact ⟨by repeat (first | exact Kept.refl _ | assumption | (refine Kept.alloc ?_ _) | (refine Kept.setCell ?_ (by first | omega | (simp; omega) | simp) _) | refine Kept.drew ?_ | refine Kept.drewN ?_ _ | (apply Kept.call; rotate_left; assumption)), by first | assumption | go_simp, by first | assumption | go_simp, by first | assumption | go_simp, by first | assumption | go_simp, by first | assumption | go_simp, by first | assumption | go_simp⟩
              rintro wB ⟨hkB, sB1, sB2, sB3, sB4, sB5, sB6⟩
              repeat (first | (apply DW.det; (focus (intro wd hI; have td1 := hI.at_ sB1; have td2 := hI.at_ sB2; have td3 := hI.at_ sB3; have td4 := hI.at_ sB4; have td5 := hI.at_ sB5; have td6 := hI.at_ sB6; skip; go_wp2_with (first | (go_at_call 14; refine (tcheck_is _ _ _ _ _ _ _ _ _ _ _ (by first | exact .inl ⟨rfl, es, _, ps, RD.out.keep (hkB.call hI), HFIT.out⟩ | exact .inr ⟨rfl, ⟨by omega, by omega, by omega⟩, by omega⟩)).mono ?_; rintro e w6 ⟨rfl, hb6⟩)); refine StepPost.mk _ rfl ⟨rfl, ?_⟩; repeat (first | exact Kept.refl _ | assumption | (refine Kept.alloc ?_ _) | (refine Kept.setCell ?_ (by first | omega | (simp; omega) | simp) _) | refine Kept.drew ?_ | refine Kept.drewN ?_ _ | (apply Kept.call; rotate_left; assumption)))); simp only [Act.put, List.setIfInBounds_toArray, List.set_cons_succ, List.set_cons_zero]) | (refine DW.loud (by kernel_rfl) ?_; intro wd hI; have td1 := hI.at_ sB1; have td2 := hI.at_ sB2; have td3 := hI.at_ sB3; have td4 := hI.at_ sB4; have td5 := hI.at_ sB5; have td6 := hI.at_ sB6; skip; go_wp2_with (first | (go_at_call 14; refine (tcheck_is _ _ _ _ _ _ _ _ _ _ _ (by first | exact .inl ⟨rfl, es, _, ps, RD.out.keep (hkB.call hI), HFIT.out⟩ | exact .inr ⟨rfl, ⟨by omega, by omega, by omega⟩, by omega⟩)).mono ?_; rintro e w6 ⟨rfl, hb6⟩)); refine StepPost.loud _ rfl (by repeat (first | exact Kept.refl _ | assumption | (refine Kept.alloc ?_ _) | (refine Kept.setCell ?_ (by first | omega | (simp; omega) | simp) _) | refine Kept.drew ?_ | refine Kept.drewN ?_ _ | (apply Kept.call; rotate_left; assumption))) (fun hkL => ?_); have hkL := hI.call hkL; have hkB := hkB.call hkL; have sB1 := hkL.at_ sB1; have sB2 := hkL.at_ sB2; have sB3 := hkL.at_ sB3; have sB4 := hkL.at_ sB4; have sB5 := hkL.at_ sB5; have sB6 := hkL.at_ sB6; simp only [Act.put, List.setIfInBounds_toArray, List.set_cons_succ, List.set_cons_zero]))
              refine DW.nil ?_
              intro wd hI
              have hkd := hkB.call hI
              have td1 := hI.at_ sB1; have td2 := hI.at_ sB2; have td3 := hI.at_ sB3; have td4 := hI.at_ sB4; have td5 := hI.at_ sB5; have td6 := hI.at_ sB6
              go_wp2_with fail
              go_ret
              exact ⟨by first | rfl | exact ret_bool (by simp), K2.call (K7.call hkd)⟩
end Go.Proofs.Ytahokiopapenbaa
