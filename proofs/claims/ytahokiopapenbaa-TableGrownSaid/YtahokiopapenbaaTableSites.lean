/- The law TableSites: a site that there isn't owns nothing; a row of as many owners as ranges may be, with one more or less it may not. -/
import Derived.Test.YtahokiopapenbaaTabY

set_option linter.unusedSimpArgs false
set_option linter.unusedVariables false
namespace Go.Proofs.Ytahokiopapenbaa
open Go.RowKit

theorem bit_far {m s : Int} {n : Nat} (h0 : 0 ≤ m) (h1 : m < ((2 ^ n : Nat) : Int)) (h : s < 0 ∨ (n : Int) ≤ s) : bitB m s = false := by
  unfold bitB
  rcases h with h | h
  · have : decide ((0 : Int) ≤ s) = false := by simp; omega
    rw [this]
    rfl
  · have e : m / 2 ^ s.toNat = 0 := by
      refine Int.ediv_eq_zero_of_lt h0 ?_
      have : 2 ^ n ≤ 2 ^ s.toNat := Nat.pow_le_pow_right (by omega) (by omega)
      have h2 : ((2 ^ n : Nat) : Int) ≤ ((2 ^ s.toNat : Nat) : Int) := by omega
      have h3 : ((2 ^ s.toNat : Nat) : Int) = (2 : Int) ^ s.toNat := by simp
      omega
    rw [e]
    simp
theorem row_none {es : List Nat} {os : List Int} {n : Nat} (hf : Fit es os n) {s : Int} (h : s < 0 ∨ (n : Int) ≤ s) : ∀ j, j ≤ es.length + 1 → rowTo es os s j = []
  | 0, _ => rfl
  | j + 1, hj => by
    have ho := hf.own j (by omega)
    rw [rowTo_no (bit_far (by omega) ho.2 h)]
    exact row_none hf h j (by omega)
theorem own_new3 (w : World) (o1 o2 : Obj) (e : TypeId) (vals : List Value) (n size : Nat) (h : vals.length = n * size) (hn : n ≤ maxLen) :
    (((w.alloc o1).alloc o2).alloc (.cells vals.toArray e)).ownsRow (w.heap.size + 1 + 1) e size (.slice (some ⟨w.heap.size + 1 + 1, 0, none⟩) n n) n vals := by
  have := own_new ((w.alloc o1).alloc o2) e vals n size h hn
  simpa only [World.size_alloc] using this
theorem tcheck_is (A B C : Option Addr) (n1 c1 n2 c2 n3 c3 : Nat) (w : World) (v : Bool) (h : (v = true ∧ ∃ es os ps, RowW w A n1 c1 B n2 c2 C n3 c3 (rgs es) os ps ∧ Fit es os n3) ∨ (v = false ∧ (n1 ≤ 9223372036854775807 ∧ n2 ≤ 9223372036854775807 ∧ n3 ≤ 9223372036854775807) ∧ (6 < n3 ∨ (1 ≤ n3 ∧ n3 ≤ 6 ∧ n1 ≤ 8 ∧ n1 ≠ n2)))) :
    Calls Try.prog 14 #[.agg #[.slice A n1 c1, .slice B n2 c2, .slice C n3 c3]] w fun e w' => e = .returned (.bool v) ∧ Kept w w' := by
  rcases h with ⟨rfl, es, os, ps, h1, h2⟩ | ⟨rfl, ⟨b1, b2, b3⟩, h⟩
  · exact tcheck_yes A B C n1 c1 n2 c2 n3 c3 es os ps w h1 h2
  · exact tcheck_no A B C n1 c1 n2 c2 n3 c3 w b1 b2 b3 h
theorem tfirst_none (A B C : Option Addr) (n1 c1 n2 c2 n3 c3 : Nat) (k : ByteArray) (w : World) (b1 : n1 ≤ 9223372036854775807) (b2 : n2 ≤ 9223372036854775807) (b3 : n3 ≤ 9223372036854775807) (h : 6 < n3 ∨ (1 ≤ n3 ∧ n3 ≤ 6 ∧ n1 ≤ 8 ∧ n1 ≠ n2)) :
    Calls Try.prog 16 #[.agg #[.slice A n1 c1, .slice B n2 c2, .slice C n3 c3], .string k] w fun e w' => e = .returned (.int .i64 (-1)) ∧ Kept w w' :=
  (tfirst_no A B C n1 c1 n2 c2 n3 c3 k w b1 b2 b3 h).mono fun e w' ⟨r, he, hr, hk⟩ => ⟨by rw [he, firstB_zero hr], hk⟩
theorem towns_is (A B C : Option Addr) (n1 c1 n2 c2 n3 c3 : Nat) (es : List Nat) (os ps : List Int) (s : Int) (k : ByteArray) (w : World) (v : Bool) (hr : RowW w A n1 c1 B n2 c2 C n3 c3 (rgs es) os ps) (hf : Fit es os n3) (hv_ : bitB (oa os (findI es (hv k))) s = v) :
    Calls Try.prog 13 #[.agg #[.slice A n1 c1, .slice B n2 c2, .slice C n3 c3], .int .i64 s, .string k] w fun e w' => e = .returned (.bool v) ∧ Kept w w' := by
  subst hv_
  exact towns_yes A B C n1 c1 n2 c2 n3 c3 es os ps s k w hr hf
theorem tranges_nil (A B C : Option Addr) (n1 c1 n2 c2 n3 c3 : Nat) (es : List Nat) (os ps : List Int) (s : Int) (w : World) (hr : RowW w A n1 c1 B n2 c2 C n3 c3 (rgs es) os ps) (hf : Fit es os n3) (hv_ : rowTo es os s n1 = []) :
    Calls Try.prog 20 #[.agg #[.slice A n1 c1, .slice B n2 c2, .slice C n3 c3], .int .i64 s] w fun e w' => e = .returned (.slice none 0 0) ∧ Kept w w' :=
  (tranges_yes A B C n1 c1 n2 c2 n3 c3 es os ps s w hr hf).mono fun e w' ⟨D, c4, he, _, hn, hk⟩ => by
    obtain ⟨rfl, rfl⟩ := hn hv_
    rw [hv_] at he
    exact ⟨he, hk⟩
theorem last_cells (w : World) (C D : Nat) (x y z x1 y1 z1 v x2 y2 z2 : Value) (t : TypeId) (o : Obj) (hCD : C ≠ D) (c0 : w.cell? ⟨C, 0, none⟩ = some x) (c1 : w.cell? ⟨C, 1, none⟩ = some y) (c2 : w.cell? ⟨C, 2, none⟩ = some z) (e0 : w.cell? ⟨D, 0, none⟩ = some x1) (e1 : w.cell? ⟨D, 1, none⟩ = some y1) (e2 : w.cell? ⟨D, 2, none⟩ = some z1) :
    let W := ((w.setCell ⟨D, 1, none⟩ v).alloc (.cells #[x2, y2, z2] t)).alloc o
    W.cell? ⟨C, 0, none⟩ = some x ∧ W.cell? ⟨C, 1, none⟩ = some y ∧ W.cell? ⟨C, 2, none⟩ = some z ∧ W.cell? ⟨D, 0, none⟩ = some x1 ∧ W.cell? ⟨D, 1, none⟩ = some v ∧ W.cell? ⟨D, 2, none⟩ = some z1 ∧ W.cell? ⟨w.heap.size, 0, none⟩ = some x2 ∧ W.cell? ⟨w.heap.size, 1, none⟩ = some y2 ∧ W.cell? ⟨w.heap.size, 2, none⟩ = some z2 := by
  intro W
  have hk : Kept (w.setCell ⟨D, 1, none⟩ v) W := ((Kept.refl _).alloc _).alloc _
  have hc : ∀ i u, w.cell? ⟨C, i, none⟩ = some u → W.cell? ⟨C, i, none⟩ = some u := fun i u h => hk.at_ (by rw [World.cell?_setCell_other _ _ _ _ (by intro g; cases g; exact hCD rfl)]; exact h)
  have hd : ∀ i u, i ≠ 1 → w.cell? ⟨D, i, none⟩ = some u → W.cell? ⟨D, i, none⟩ = some u := fun i u hi h => hk.at_ (by rw [World.cell?_setCell_other _ _ _ _ (by intro g; cases g; exact hi rfl)]; exact h)
  have hh : W.heap[w.heap.size]? = some (.cells #[x2, y2, z2] t) := by
    show (((w.setCell ⟨D, 1, none⟩ v).alloc (.cells #[x2, y2, z2] t)).alloc o).heap[w.heap.size]? = _
    rw [Below.heap_alloc _ _ _ (by simp [World.setCell])]
    have := heap_alloc_new (w.setCell ⟨D, 1, none⟩ v) (.cells #[x2, y2, z2] t)
    simpa only [World.size_setCell] using this
  refine ⟨hc _ _ c0, hc _ _ c1, hc _ _ c2, hd _ _ (by omega) e0, hk.at_ (World.cell?_setCell_same _ _ _ e1), hd _ _ (by omega) e2, ?_, ?_, ?_⟩
  · rw [cell_of_row _ _ 0 _ _ (0, 0) hh]; rfl
  · rw [cell_of_row _ _ 1 _ _ (0, 0) hh]; rfl
  · rw [cell_of_row _ _ 2 _ _ (0, 0) hh]; rfl
theorem grown2 (w w3 : World) (x y z : Value) (t1 t2 : TypeId) (o : Obj) (hg : (((w.alloc (.cells #[x, y, z] t1)).alloc (.cells #[x, y, z] t2)).alloc o).grownBy w3 (some (w.heap.size + 1 + 1))) :
    w3.cell? ⟨w.heap.size, 0, none⟩ = some x ∧ w3.cell? ⟨w.heap.size, 1, none⟩ = some y ∧ w3.cell? ⟨w.heap.size, 2, none⟩ = some z ∧ w3.cell? ⟨w.heap.size + 1, 0, none⟩ = some x ∧ w3.cell? ⟨w.heap.size + 1, 1, none⟩ = some y ∧ w3.cell? ⟨w.heap.size + 1, 2, none⟩ = some z ∧ w3.frozen? ⟨w.heap.size + 1, 1, none⟩ = false ∧ w.heap.size + 1 < w3.heap.size := by
  have h1 : w3.heap[w.heap.size]? = some (.cells #[x, y, z] t1) := by
    rw [hg.block w.heap.size (by simp; omega) (by intro h; injection h with h; omega), Below.heap_alloc _ _ _ (by simp; omega), Below.heap_alloc _ _ _ (by simp)]
    exact heap_alloc_new _ _
  have h2 : w3.heap[w.heap.size + 1]? = some (.cells #[x, y, z] t2) := by
    rw [hg.block (w.heap.size + 1) (by simp) (by intro h; injection h with h; omega), Below.heap_alloc _ _ _ (by simp)]
    have := heap_alloc_new (w.alloc (.cells #[x, y, z] t1)) (.cells #[x, y, z] t2)
    simpa only [World.size_alloc] using this
  refine ⟨?_, ?_, ?_, ?_, ?_, ?_, frozen_of_row w3 _ 1 _ _ h2, (Array.getElem?_eq_some_iff.1 h2).1⟩
  · rw [cell_of_row _ _ 0 _ _ (0, 0) h1]; rfl
  · rw [cell_of_row _ _ 1 _ _ (0, 0) h1]; rfl
  · rw [cell_of_row _ _ 2 _ _ (0, 0) h1]; rfl
  · rw [cell_of_row _ _ 0 _ _ (0, 0) h2]; rfl
  · rw [cell_of_row _ _ 1 _ _ (0, 0) h2]; rfl
  · rw [cell_of_row _ _ 2 _ _ (0, 0) h2]; rfl
set_option maxRecDepth 100000 in
set_option maxHeartbeats 4000000 in
theorem tableSites_walk (A : Option Addr) (m c : Nat) (x : Nat → Int) (B : Option Addr) (m2 c2 : Nat) (y : Nat → Int) (s site : Int) (k : ByteArray) (w : World) (rx : RowAt w A m c 1 (fun i => [.int .i64 (x i)])) (_rx2 : ∀ i, i < m → (Lit.int .i64 (x i)).wf = true) (ry : RowAt w B m2 c2 1 (fun i => [.int .i64 (y i)])) (_ry2 : ∀ i, i < m2 → (Lit.int .i64 (y i)).wf = true) (_ws : (Lit.int .i64 s).wf = true) (_w0 : (Lit.int .i64 site).wf = true) (_w1 : k.size ≤ maxLen) :
    Calls Try.prog 8 #[.agg #[.slice A m c, .slice B m2 c2, .int .i64 s], .int .i64 site, .string k] w fun e w' => e = .returned (.bool true) ∧ Kept w w' := by
  obtain ⟨i0, hi, hz0, hz1, hz2⟩ := info_parts infoInt
  have HI := Lib.hid hi
  have HX := Lib.hid (IntsAt.of_row rx)
  have HY := Lib.hid (IntsAt.of_row ry)
  clear rx _rx2 ry _ry2 _ws _w0 _w1 hi
  generalize (List.range m).map x = xs at *
  generalize (List.range m2).map y = ys at *
  go_enter Try.func8, Try.ntmps8
  go_wp2_with fail
  refine (awake_any _).mono ?_
  rintro e w1 ⟨rfl, k1_⟩
  have K1 : Kept w w1 := Kept.call (by repeat (first | exact Kept.refl _ | assumption | (refine Kept.alloc ?_ _) | (refine Kept.setCell ?_ (by first | omega | (simp; omega) | simp) _) | refine Kept.drew ?_ | refine Kept.drewN ?_ _ | (apply Kept.call; rotate_left; assumption))) k1_
  have cs0 : w1.cell? ⟨w.heap.size, 0, none⟩ = some (.slice A m c) := k1_.at_ (by go_simp)
  have cs1 : w1.cell? ⟨w.heap.size, 1, none⟩ = some (.slice B m2 c2) := k1_.at_ (by go_simp)
  have cs2 : w1.cell? ⟨w.heap.size, 2, none⟩ = some (.int .i64 s) := k1_.at_ (by go_simp)
  go_wp2_with fail
  refine (row_any A B m c m2 c2 xs ys s _ (HX.out.keep (by repeat (first | exact Kept.refl _ | assumption | (refine Kept.alloc ?_ _) | (refine Kept.setCell ?_ (by first | omega | (simp; omega) | simp) _) | refine Kept.drew ?_ | refine Kept.drewN ?_ _ | (apply Kept.call; rotate_left; assumption)))) (HY.out.keep (by repeat (first | exact Kept.refl _ | assumption | (refine Kept.alloc ?_ _) | (refine Kept.setCell ?_ (by first | omega | (simp; omega) | simp) _) | refine Kept.drew ?_ | refine Kept.drewN ?_ _ | (apply Kept.call; rotate_left; assumption))))).mono ?_
  rintro e w2 ⟨a1, b1, c1, n1, d1, n2, d2, n3, d3, es, os, ps, rfl, ⟨l1, l2, l3⟩, hr, hf, k2⟩
  have K2 : Kept w w2 := Kept.call (by repeat (first | exact Kept.refl _ | assumption | (refine Kept.alloc ?_ _) | (refine Kept.setCell ?_ (by first | omega | (simp; omega) | simp) _) | refine Kept.drew ?_ | refine Kept.drewN ?_ _ | (apply Kept.call; rotate_left; assumption))) k2
  have HR := Lib.hid hr
  have HF := Lib.hid hf
  have hb := hr.bd
  have hn1 : n1 = es.length + 1 := by have := hr.rs.1; rw [rgs_len] at this; omega
  have hn2 : n2 = es.length + 1 := by have := hr.os.1; have := hf.len; omega
  have h6 := hf.up.six
  have h31 := hf.one
  have h36 := hf.six
  have HOB := Lib.hid (oa_bd hf (find_le es (hv k)))
  have HNO : Hid ((site < 0 ∨ (n3 : Int) ≤ site) → bitB (oa os (findI es (hv k))) site = false ∧ rowTo es os site n1 = []) := fun h => by
    have h1 := find_le es (hv k)
    have h2 := hf.own _ (show findI es (hv k) < es.length + 1 by omega)
    exact ⟨bit_far (by omega) h2.2 h, row_none hf h n1 (by omega)⟩
  have HNL : Hid ((intC os).length = n2 * 1) := by unfold Hid; rw [intC_len, hf.len, hn2, Nat.mul_one]
  have hn12 : n1 = n2 := by omega
  have hn7 : n1 ≤ 7 := by omega
  have hms : ∀ (w : World), (Instr.makeSlice 25 (.int .i64 7) (.int .i64 7)).run Try.prog w = .ok (.slice (some ⟨w.heap.size, 0, none⟩) 7 7) (w.alloc (.cells (madeCells (Value.int .i64 0).cells 7) 3)) := fun w => by
    have h := run_makeSlice (P := Try.prog) w 25 3 i0 (.int .i64 0) Try.underlying25 HI.out hz0 .i64 .i64 7 7 (by omega) (by omega) (by rw [hz1]; decide) (by rw [hz2]; omega) (by omega)
    rw [hz1] at h
    simpa using h
  clear hr hf l1 l2 l3 cs0 cs1 cs2 hn1 hn2
  subst hn12
  have hcases : (site < 0 ∨ (n3 : Int) ≤ site) ∨ (0 ≤ site ∧ site < n3) := by omega
  rcases hcases with hout | ⟨hin1, hin2⟩
  · obtain ⟨NO1, NO2⟩ := HNO.out hout
    have NO1 := Lib.hid NO1
    have NO2 := Lib.hid NO2
    rcases Int.lt_or_le site 0 with e0 | e0
    · have e1 : decide ((0 : Int) ≤ site) = false := by simp; omega
      clear hout
      go_wp2_with (at_builtin; refine wpList_append_own _ rfl _ _ 25 rfl (w2.heap.size + 1 + 1) 3 i0 (.int .i64 0) 1 8 Try.underlying25 HI.out hz0 hz1 hz2 rfl (by decide) _ 1 [.int .i64 1] rfl (own_new3 w2 _ _ 3 [.int .i64 1] 1 1 rfl (by decide)) ⟨b1, 0, none⟩ n1 d2 (intC os) rfl HNL.out (intNews (HR.out.os.keep (by repeat (first | exact Kept.refl _ | assumption | (refine Kept.alloc ?_ _) | (refine Kept.setCell ?_ (by first | omega | (simp; omega) | simp) _) | refine Kept.drew ?_ | refine Kept.drewN ?_ _ | (apply Kept.call; rotate_left; assumption))))) (intC_one os) (by unfold maxLen; omega) (by omega) (by first | omega | (simp; omega) | simp) ?_; intro v3 w3 hown3 hgrow3 _; obtain ⟨A3, c3, rfl⟩ := own_slice hown3; have K3 : Kept w2 w3 := Kept.grown (by repeat (first | exact Kept.refl _ | assumption | (refine Kept.alloc ?_ _) | (refine Kept.setCell ?_ (by first | omega | (simp; omega) | simp) _) | refine Kept.drew ?_ | refine Kept.drewN ?_ _ | (apply Kept.call; rotate_left; assumption))) hgrow3 (by intro g hg; have h9 : some (w2.heap.size + 1 + 1) = some g := hg; injection h9 with h9; omega); obtain ⟨yc0, yc1, yc2, yd0, yd1, yd2, fd1, hw3⟩ := grown2 w2 w3 _ _ _ _ _ _ hgrow3; clear hown3 hgrow3)
      obtain ⟨z0, z1, z2, z3, z4, z5, z6, z7, z8⟩ := last_cells w3 w2.heap.size (w2.heap.size + 1) _ _ _ _ _ _ (.slice A3 (1 + n1) c3) (.slice (some ⟨a1, 0, none⟩) n1 d1) (.slice (some ⟨b1, 0, none⟩) n1 d2) (.slice (some ⟨w3.heap.size + 1, 0, none⟩) 7 7) 31 (.cells (madeCells (Value.int .i64 0).cells 7) 3) (by omega) yc0 yc1 yc2 yd0 yd1 yd2
      refine wp_region_text keepsOne (fun wB => Kept w2 wB ∧ wB.cell? ⟨w2.heap.size, 0, none⟩ = some (.slice (some ⟨a1, 0, none⟩) n1 d1) ∧ wB.cell? ⟨w2.heap.size, 1, none⟩ = some (.slice (some ⟨b1, 0, none⟩) n1 d2) ∧ wB.cell? ⟨w2.heap.size, 2, none⟩ = some (.slice (some ⟨c1, 0, none⟩) n3 d3) ∧ wB.cell? ⟨w2.heap.size + 1, 0, none⟩ = some (.slice (some ⟨a1, 0, none⟩) n1 d1) ∧ wB.cell? ⟨w2.heap.size + 1, 1, none⟩ = some (.slice A3 (1 + n1) c3) ∧ wB.cell? ⟨w2.heap.size + 1, 2, none⟩ = some (.slice (some ⟨c1, 0, none⟩) n3 d3) ∧ wB.cell? ⟨w3.heap.size, 0, none⟩ = some (.slice (some ⟨a1, 0, none⟩) n1 d1) ∧ wB.cell? ⟨w3.heap.size, 1, none⟩ = some (.slice (some ⟨b1, 0, none⟩) n1 d2) ∧ wB.cell? ⟨w3.heap.size, 2, none⟩ = some (.slice (some ⟨w3.heap.size + 1, 0, none⟩) 7 7)) ?_ (by kernel_rfl) (by kernel_rfl) _ (by (try simp only [List.append_eq, List.cons_append, List.nil_append, List.toList_toArray]); exact rfl) ?_
      · exact ⟨by repeat (first | exact Kept.refl _ | assumption | (refine Kept.alloc ?_ _) | (refine Kept.setCell ?_ (by first | omega | (simp; omega) | simp) _) | refine Kept.drew ?_ | refine Kept.drewN ?_ _ | (apply Kept.call; rotate_left; assumption)), by first | assumption | go_simp, by first | assumption | go_simp, by first | assumption | go_simp, by first | assumption | go_simp, by first | assumption | go_simp, by first | assumption | go_simp, by first | assumption | go_simp, by first | assumption | go_simp, by first | assumption | go_simp⟩
      rintro wB ⟨hkB, sB1, sB2, sB3, sB4, sB5, sB6, sB7, sB8, sB9⟩
      repeat (first | (apply DW.det; (focus (intro wd hI; have td1 := hI.at_ sB1; have td2 := hI.at_ sB2; have td3 := hI.at_ sB3; have td4 := hI.at_ sB4; have td5 := hI.at_ sB5; have td6 := hI.at_ sB6; have td7 := hI.at_ sB7; have td8 := hI.at_ sB8; have td9 := hI.at_ sB9; skip; go_wp2_with (first | (go_at_call 23; refine (sites_any _ _ _ n3 d3 _ (by omega) ⟨_, _, _, rfl⟩ ⟨_, _, _, rfl⟩).mono ?_; rintro e w6 ⟨rfl, hb6⟩) | (go_at_call 14; refine (tcheck_is _ _ _ _ _ _ _ _ _ _ _ (by first | exact .inl ⟨rfl, es, os, ps, HR.out.keep (hkB.call hI), HF.out⟩ | exact .inr ⟨rfl, ⟨by omega, by omega, by omega⟩, by omega⟩)).mono ?_; rintro e w6 ⟨rfl, hb6⟩) | (go_at_call 17; refine (towners_no _ _ _ _ _ _ _ _ _ _ _ (by omega) (by omega) (by omega) (by omega)).mono ?_; rintro e w6 ⟨rfl, hb6⟩) | (go_at_call 16; refine (tfirst_none _ _ _ _ _ _ _ _ _ _ _ (by omega) (by omega) (by omega) (by omega)).mono ?_; rintro e w6 ⟨rfl, hb6⟩)| (go_at_call 13; refine (towns_is _ _ _ _ _ _ _ _ _ es os ps site k _ false (HR.out.keep (hkB.call hI)) HF.out NO1.out).mono ?_; rintro e w6 ⟨rfl, hb6⟩) | (go_at_call 20; refine (tranges_nil _ _ _ _ _ _ _ _ _ es os ps site _ (HR.out.keep (hkB.call hI)) HF.out NO2.out).mono ?_; rintro e w6 ⟨rfl, hb6⟩)); refine StepPost.mk _ rfl ⟨rfl, ?_⟩; repeat (first | exact Kept.refl _ | assumption | (refine Kept.alloc ?_ _) | (refine Kept.setCell ?_ (by first | omega | (simp; omega) | simp) _) | refine Kept.drew ?_ | refine Kept.drewN ?_ _ | (apply Kept.call; rotate_left; assumption)))); simp only [Act.put, List.setIfInBounds_toArray, List.set_cons_succ, List.set_cons_zero]) | (refine DW.loud (by kernel_rfl) ?_; intro wd hI; have td1 := hI.at_ sB1; have td2 := hI.at_ sB2; have td3 := hI.at_ sB3; have td4 := hI.at_ sB4; have td5 := hI.at_ sB5; have td6 := hI.at_ sB6; have td7 := hI.at_ sB7; have td8 := hI.at_ sB8; have td9 := hI.at_ sB9; skip; go_wp2_with (first | (go_at_call 23; refine (sites_any _ _ _ n3 d3 _ (by omega) ⟨_, _, _, rfl⟩ ⟨_, _, _, rfl⟩).mono ?_; rintro e w6 ⟨rfl, hb6⟩) | (go_at_call 14; refine (tcheck_is _ _ _ _ _ _ _ _ _ _ _ (by first | exact .inl ⟨rfl, es, os, ps, HR.out.keep (hkB.call hI), HF.out⟩ | exact .inr ⟨rfl, ⟨by omega, by omega, by omega⟩, by omega⟩)).mono ?_; rintro e w6 ⟨rfl, hb6⟩) | (go_at_call 17; refine (towners_no _ _ _ _ _ _ _ _ _ _ _ (by omega) (by omega) (by omega) (by omega)).mono ?_; rintro e w6 ⟨rfl, hb6⟩) | (go_at_call 16; refine (tfirst_none _ _ _ _ _ _ _ _ _ _ _ (by omega) (by omega) (by omega) (by omega)).mono ?_; rintro e w6 ⟨rfl, hb6⟩)| (go_at_call 13; refine (towns_is _ _ _ _ _ _ _ _ _ es os ps site k _ false (HR.out.keep (hkB.call hI)) HF.out NO1.out).mono ?_; rintro e w6 ⟨rfl, hb6⟩) | (go_at_call 20; refine (tranges_nil _ _ _ _ _ _ _ _ _ es os ps site _ (HR.out.keep (hkB.call hI)) HF.out NO2.out).mono ?_; rintro e w6 ⟨rfl, hb6⟩)); refine StepPost.loud _ rfl (by repeat (first | exact Kept.refl _ | assumption | (refine Kept.alloc ?_ _) | (refine Kept.setCell ?_ (by first | omega | (simp; omega) | simp) _) | refine Kept.drew ?_ | refine Kept.drewN ?_ _ | (apply Kept.call; rotate_left; assumption))) (fun hkL => ?_); have hkL := hI.call hkL; have hkB := hkB.call hkL; have sB1 := hkL.at_ sB1; have sB2 := hkL.at_ sB2; have sB3 := hkL.at_ sB3; have sB4 := hkL.at_ sB4; have sB5 := hkL.at_ sB5; have sB6 := hkL.at_ sB6; have sB7 := hkL.at_ sB7; have sB8 := hkL.at_ sB8; have sB9 := hkL.at_ sB9; simp only [Act.put, List.setIfInBounds_toArray, List.set_cons_succ, List.set_cons_zero]))
      refine DW.nil ?_
      intro wd hI
      have hkd := hkB.call hI
      have td1 := hI.at_ sB1; have td2 := hI.at_ sB2; have td3 := hI.at_ sB3; have td4 := hI.at_ sB4; have td5 := hI.at_ sB5; have td6 := hI.at_ sB6; have td7 := hI.at_ sB7; have td8 := hI.at_ sB8; have td9 := hI.at_ sB9
      go_wp2_with fail
      go_ret
      exact ⟨by first | rfl | exact ret_bool (by simp), K2.call hkd⟩
    · have e1 : decide ((0 : Int) ≤ site) = true := by simp; omega
      have e2 : decide (site < (n3 : Int)) = false := by simp; omega
      clear hout
      go_wp2_with (at_builtin; refine wpList_append_own _ rfl _ _ 25 rfl (w2.heap.size + 1 + 1) 3 i0 (.int .i64 0) 1 8 Try.underlying25 HI.out hz0 hz1 hz2 rfl (by decide) _ 1 [.int .i64 1] rfl (own_new3 w2 _ _ 3 [.int .i64 1] 1 1 rfl (by decide)) ⟨b1, 0, none⟩ n1 d2 (intC os) rfl HNL.out (intNews (HR.out.os.keep (by repeat (first | exact Kept.refl _ | assumption | (refine Kept.alloc ?_ _) | (refine Kept.setCell ?_ (by first | omega | (simp; omega) | simp) _) | refine Kept.drew ?_ | refine Kept.drewN ?_ _ | (apply Kept.call; rotate_left; assumption))))) (intC_one os) (by unfold maxLen; omega) (by omega) (by first | omega | (simp; omega) | simp) ?_; intro v3 w3 hown3 hgrow3 _; obtain ⟨A3, c3, rfl⟩ := own_slice hown3; have K3 : Kept w2 w3 := Kept.grown (by repeat (first | exact Kept.refl _ | assumption | (refine Kept.alloc ?_ _) | (refine Kept.setCell ?_ (by first | omega | (simp; omega) | simp) _) | refine Kept.drew ?_ | refine Kept.drewN ?_ _ | (apply Kept.call; rotate_left; assumption))) hgrow3 (by intro g hg; have h9 : some (w2.heap.size + 1 + 1) = some g := hg; injection h9 with h9; omega); obtain ⟨yc0, yc1, yc2, yd0, yd1, yd2, fd1, hw3⟩ := grown2 w2 w3 _ _ _ _ _ _ hgrow3; clear hown3 hgrow3)
      obtain ⟨z0, z1, z2, z3, z4, z5, z6, z7, z8⟩ := last_cells w3 w2.heap.size (w2.heap.size + 1) _ _ _ _ _ _ (.slice A3 (1 + n1) c3) (.slice (some ⟨a1, 0, none⟩) n1 d1) (.slice (some ⟨b1, 0, none⟩) n1 d2) (.slice (some ⟨w3.heap.size + 1, 0, none⟩) 7 7) 31 (.cells (madeCells (Value.int .i64 0).cells 7) 3) (by omega) yc0 yc1 yc2 yd0 yd1 yd2
      refine wp_region_text keepsOne (fun wB => Kept w2 wB ∧ wB.cell? ⟨w2.heap.size, 0, none⟩ = some (.slice (some ⟨a1, 0, none⟩) n1 d1) ∧ wB.cell? ⟨w2.heap.size, 1, none⟩ = some (.slice (some ⟨b1, 0, none⟩) n1 d2) ∧ wB.cell? ⟨w2.heap.size, 2, none⟩ = some (.slice (some ⟨c1, 0, none⟩) n3 d3) ∧ wB.cell? ⟨w2.heap.size + 1, 0, none⟩ = some (.slice (some ⟨a1, 0, none⟩) n1 d1) ∧ wB.cell? ⟨w2.heap.size + 1, 1, none⟩ = some (.slice A3 (1 + n1) c3) ∧ wB.cell? ⟨w2.heap.size + 1, 2, none⟩ = some (.slice (some ⟨c1, 0, none⟩) n3 d3) ∧ wB.cell? ⟨w3.heap.size, 0, none⟩ = some (.slice (some ⟨a1, 0, none⟩) n1 d1) ∧ wB.cell? ⟨w3.heap.size, 1, none⟩ = some (.slice (some ⟨b1, 0, none⟩) n1 d2) ∧ wB.cell? ⟨w3.heap.size, 2, none⟩ = some (.slice (some ⟨w3.heap.size + 1, 0, none⟩) 7 7)) ?_ (by kernel_rfl) (by kernel_rfl) _ (by (try simp only [List.append_eq, List.cons_append, List.nil_append, List.toList_toArray]); exact rfl) ?_
      · exact ⟨by repeat (first | exact Kept.refl _ | assumption | (refine Kept.alloc ?_ _) | (refine Kept.setCell ?_ (by first | omega | (simp; omega) | simp) _) | refine Kept.drew ?_ | refine Kept.drewN ?_ _ | (apply Kept.call; rotate_left; assumption)), by first | assumption | go_simp, by first | assumption | go_simp, by first | assumption | go_simp, by first | assumption | go_simp, by first | assumption | go_simp, by first | assumption | go_simp, by first | assumption | go_simp, by first | assumption | go_simp, by first | assumption | go_simp⟩
      rintro wB ⟨hkB, sB1, sB2, sB3, sB4, sB5, sB6, sB7, sB8, sB9⟩
      repeat (first | (apply DW.det; (focus (intro wd hI; have td1 := hI.at_ sB1; have td2 := hI.at_ sB2; have td3 := hI.at_ sB3; have td4 := hI.at_ sB4; have td5 := hI.at_ sB5; have td6 := hI.at_ sB6; have td7 := hI.at_ sB7; have td8 := hI.at_ sB8; have td9 := hI.at_ sB9; skip; go_wp2_with (first | (go_at_call 23; refine (sites_any _ _ _ n3 d3 _ (by omega) ⟨_, _, _, rfl⟩ ⟨_, _, _, rfl⟩).mono ?_; rintro e w6 ⟨rfl, hb6⟩) | (go_at_call 14; refine (tcheck_is _ _ _ _ _ _ _ _ _ _ _ (by first | exact .inl ⟨rfl, es, os, ps, HR.out.keep (hkB.call hI), HF.out⟩ | exact .inr ⟨rfl, ⟨by omega, by omega, by omega⟩, by omega⟩)).mono ?_; rintro e w6 ⟨rfl, hb6⟩) | (go_at_call 17; refine (towners_no _ _ _ _ _ _ _ _ _ _ _ (by omega) (by omega) (by omega) (by omega)).mono ?_; rintro e w6 ⟨rfl, hb6⟩) | (go_at_call 16; refine (tfirst_none _ _ _ _ _ _ _ _ _ _ _ (by omega) (by omega) (by omega) (by omega)).mono ?_; rintro e w6 ⟨rfl, hb6⟩)| (go_at_call 13; refine (towns_is _ _ _ _ _ _ _ _ _ es os ps site k _ false (HR.out.keep (hkB.call hI)) HF.out NO1.out).mono ?_; rintro e w6 ⟨rfl, hb6⟩) | (go_at_call 20; refine (tranges_nil _ _ _ _ _ _ _ _ _ es os ps site _ (HR.out.keep (hkB.call hI)) HF.out NO2.out).mono ?_; rintro e w6 ⟨rfl, hb6⟩)); refine StepPost.mk _ rfl ⟨rfl, ?_⟩; repeat (first | exact Kept.refl _ | assumption | (refine Kept.alloc ?_ _) | (refine Kept.setCell ?_ (by first | omega | (simp; omega) | simp) _) | refine Kept.drew ?_ | refine Kept.drewN ?_ _ | (apply Kept.call; rotate_left; assumption)))); simp only [Act.put, List.setIfInBounds_toArray, List.set_cons_succ, List.set_cons_zero]) | (refine DW.loud (by kernel_rfl) ?_; intro wd hI; have td1 := hI.at_ sB1; have td2 := hI.at_ sB2; have td3 := hI.at_ sB3; have td4 := hI.at_ sB4; have td5 := hI.at_ sB5; have td6 := hI.at_ sB6; have td7 := hI.at_ sB7; have td8 := hI.at_ sB8; have td9 := hI.at_ sB9; skip; go_wp2_with (first | (go_at_call 23; refine (sites_any _ _ _ n3 d3 _ (by omega) ⟨_, _, _, rfl⟩ ⟨_, _, _, rfl⟩).mono ?_; rintro e w6 ⟨rfl, hb6⟩) | (go_at_call 14; refine (tcheck_is _ _ _ _ _ _ _ _ _ _ _ (by first | exact .inl ⟨rfl, es, os, ps, HR.out.keep (hkB.call hI), HF.out⟩ | exact .inr ⟨rfl, ⟨by omega, by omega, by omega⟩, by omega⟩)).mono ?_; rintro e w6 ⟨rfl, hb6⟩) | (go_at_call 17; refine (towners_no _ _ _ _ _ _ _ _ _ _ _ (by omega) (by omega) (by omega) (by omega)).mono ?_; rintro e w6 ⟨rfl, hb6⟩) | (go_at_call 16; refine (tfirst_none _ _ _ _ _ _ _ _ _ _ _ (by omega) (by omega) (by omega) (by omega)).mono ?_; rintro e w6 ⟨rfl, hb6⟩)| (go_at_call 13; refine (towns_is _ _ _ _ _ _ _ _ _ es os ps site k _ false (HR.out.keep (hkB.call hI)) HF.out NO1.out).mono ?_; rintro e w6 ⟨rfl, hb6⟩) | (go_at_call 20; refine (tranges_nil _ _ _ _ _ _ _ _ _ es os ps site _ (HR.out.keep (hkB.call hI)) HF.out NO2.out).mono ?_; rintro e w6 ⟨rfl, hb6⟩)); refine StepPost.loud _ rfl (by repeat (first | exact Kept.refl _ | assumption | (refine Kept.alloc ?_ _) | (refine Kept.setCell ?_ (by first | omega | (simp; omega) | simp) _) | refine Kept.drew ?_ | refine Kept.drewN ?_ _ | (apply Kept.call; rotate_left; assumption))) (fun hkL => ?_); have hkL := hI.call hkL; have hkB := hkB.call hkL; have sB1 := hkL.at_ sB1; have sB2 := hkL.at_ sB2; have sB3 := hkL.at_ sB3; have sB4 := hkL.at_ sB4; have sB5 := hkL.at_ sB5; have sB6 := hkL.at_ sB6; have sB7 := hkL.at_ sB7; have sB8 := hkL.at_ sB8; have sB9 := hkL.at_ sB9; simp only [Act.put, List.setIfInBounds_toArray, List.set_cons_succ, List.set_cons_zero]))
      refine DW.nil ?_
      intro wd hI
      have hkd := hkB.call hI
      have td1 := hI.at_ sB1; have td2 := hI.at_ sB2; have td3 := hI.at_ sB3; have td4 := hI.at_ sB4; have td5 := hI.at_ sB5; have td6 := hI.at_ sB6; have td7 := hI.at_ sB7; have td8 := hI.at_ sB8; have td9 := hI.at_ sB9
      go_wp2_with fail
      go_ret
      exact ⟨by first | rfl | exact ret_bool (by simp), K2.call hkd⟩
  · have e1 : decide ((0 : Int) ≤ site) = true := by simp; omega
    have e2 : decide (site < (n3 : Int)) = true := by simp; omega
    go_wp2_with (at_builtin; refine wpList_append_own _ rfl _ _ 25 rfl (w2.heap.size + 1 + 1) 3 i0 (.int .i64 0) 1 8 Try.underlying25 HI.out hz0 hz1 hz2 rfl (by decide) _ 1 [.int .i64 1] rfl (own_new3 w2 _ _ 3 [.int .i64 1] 1 1 rfl (by decide)) ⟨b1, 0, none⟩ n1 d2 (intC os) rfl HNL.out (intNews (HR.out.os.keep (by repeat (first | exact Kept.refl _ | assumption | (refine Kept.alloc ?_ _) | (refine Kept.setCell ?_ (by first | omega | (simp; omega) | simp) _) | refine Kept.drew ?_ | refine Kept.drewN ?_ _ | (apply Kept.call; rotate_left; assumption))))) (intC_one os) (by unfold maxLen; omega) (by omega) (by first | omega | (simp; omega) | simp) ?_; intro v3 w3 hown3 hgrow3 _; obtain ⟨A3, c3, rfl⟩ := own_slice hown3; have K3 : Kept w2 w3 := Kept.grown (by repeat (first | exact Kept.refl _ | assumption | (refine Kept.alloc ?_ _) | (refine Kept.setCell ?_ (by first | omega | (simp; omega) | simp) _) | refine Kept.drew ?_ | refine Kept.drewN ?_ _ | (apply Kept.call; rotate_left; assumption))) hgrow3 (by intro g hg; have h9 : some (w2.heap.size + 1 + 1) = some g := hg; injection h9 with h9; omega); obtain ⟨yc0, yc1, yc2, yd0, yd1, yd2, fd1, hw3⟩ := grown2 w2 w3 _ _ _ _ _ _ hgrow3; clear hown3 hgrow3)
    obtain ⟨z0, z1, z2, z3, z4, z5, z6, z7, z8⟩ := last_cells w3 w2.heap.size (w2.heap.size + 1) _ _ _ _ _ _ (.slice A3 (1 + n1) c3) (.slice (some ⟨a1, 0, none⟩) n1 d1) (.slice (some ⟨b1, 0, none⟩) n1 d2) (.slice (some ⟨w3.heap.size + 1, 0, none⟩) 7 7) 31 (.cells (madeCells (Value.int .i64 0).cells 7) 3) (by omega) yc0 yc1 yc2 yd0 yd1 yd2
    refine wp_region_text keepsOne (fun wB => Kept w2 wB ∧ wB.cell? ⟨w2.heap.size, 0, none⟩ = some (.slice (some ⟨a1, 0, none⟩) n1 d1) ∧ wB.cell? ⟨w2.heap.size, 1, none⟩ = some (.slice (some ⟨b1, 0, none⟩) n1 d2) ∧ wB.cell? ⟨w2.heap.size, 2, none⟩ = some (.slice (some ⟨c1, 0, none⟩) n3 d3) ∧ wB.cell? ⟨w2.heap.size + 1, 0, none⟩ = some (.slice (some ⟨a1, 0, none⟩) n1 d1) ∧ wB.cell? ⟨w2.heap.size + 1, 1, none⟩ = some (.slice A3 (1 + n1) c3) ∧ wB.cell? ⟨w2.heap.size + 1, 2, none⟩ = some (.slice (some ⟨c1, 0, none⟩) n3 d3) ∧ wB.cell? ⟨w3.heap.size, 0, none⟩ = some (.slice (some ⟨a1, 0, none⟩) n1 d1) ∧ wB.cell? ⟨w3.heap.size, 1, none⟩ = some (.slice (some ⟨b1, 0, none⟩) n1 d2) ∧ wB.cell? ⟨w3.heap.size, 2, none⟩ = some (.slice (some ⟨w3.heap.size + 1, 0, none⟩) 7 7)) ?_ (by kernel_rfl) (by kernel_rfl) _ (by (try simp only [List.append_eq, List.cons_append, List.nil_append, List.toList_toArray]); exact rfl) ?_
    · exact ⟨by repeat (first | exact Kept.refl _ | assumption | (refine Kept.alloc ?_ _) | (refine Kept.setCell ?_ (by first | omega | (simp; omega) | simp) _) | refine Kept.drew ?_ | refine Kept.drewN ?_ _ | (apply Kept.call; rotate_left; assumption)), by first | assumption | go_simp, by first | assumption | go_simp, by first | assumption | go_simp, by first | assumption | go_simp, by first | assumption | go_simp, by first | assumption | go_simp, by first | assumption | go_simp, by first | assumption | go_simp, by first | assumption | go_simp⟩
    rintro wB ⟨hkB, sB1, sB2, sB3, sB4, sB5, sB6, sB7, sB8, sB9⟩
    repeat (first | (apply DW.det; (focus (intro wd hI; have td1 := hI.at_ sB1; have td2 := hI.at_ sB2; have td3 := hI.at_ sB3; have td4 := hI.at_ sB4; have td5 := hI.at_ sB5; have td6 := hI.at_ sB6; have td7 := hI.at_ sB7; have td8 := hI.at_ sB8; have td9 := hI.at_ sB9; skip; go_wp2_with (first | (go_at_call 23; refine (sites_any _ _ _ n3 d3 _ (by omega) ⟨_, _, _, rfl⟩ ⟨_, _, _, rfl⟩).mono ?_; rintro e w6 ⟨rfl, hb6⟩) | (go_at_call 14; refine (tcheck_is _ _ _ _ _ _ _ _ _ _ _ (by first | exact .inl ⟨rfl, es, os, ps, HR.out.keep (hkB.call hI), HF.out⟩ | exact .inr ⟨rfl, ⟨by omega, by omega, by omega⟩, by omega⟩)).mono ?_; rintro e w6 ⟨rfl, hb6⟩) | (go_at_call 17; refine (towners_no _ _ _ _ _ _ _ _ _ _ _ (by omega) (by omega) (by omega) (by omega)).mono ?_; rintro e w6 ⟨rfl, hb6⟩) | (go_at_call 16; refine (tfirst_none _ _ _ _ _ _ _ _ _ _ _ (by omega) (by omega) (by omega) (by omega)).mono ?_; rintro e w6 ⟨rfl, hb6⟩)); refine StepPost.mk _ rfl ⟨rfl, ?_⟩; repeat (first | exact Kept.refl _ | assumption | (refine Kept.alloc ?_ _) | (refine Kept.setCell ?_ (by first | omega | (simp; omega) | simp) _) | refine Kept.drew ?_ | refine Kept.drewN ?_ _ | (apply Kept.call; rotate_left; assumption)))); simp only [Act.put, List.setIfInBounds_toArray, List.set_cons_succ, List.set_cons_zero]) | (refine DW.loud (by kernel_rfl) ?_; intro wd hI; have td1 := hI.at_ sB1; have td2 := hI.at_ sB2; have td3 := hI.at_ sB3; have td4 := hI.at_ sB4; have td5 := hI.at_ sB5; have td6 := hI.at_ sB6; have td7 := hI.at_ sB7; have td8 := hI.at_ sB8; have td9 := hI.at_ sB9; skip; go_wp2_with (first | (go_at_call 23; refine (sites_any _ _ _ n3 d3 _ (by omega) ⟨_, _, _, rfl⟩ ⟨_, _, _, rfl⟩).mono ?_; rintro e w6 ⟨rfl, hb6⟩) | (go_at_call 14; refine (tcheck_is _ _ _ _ _ _ _ _ _ _ _ (by first | exact .inl ⟨rfl, es, os, ps, HR.out.keep (hkB.call hI), HF.out⟩ | exact .inr ⟨rfl, ⟨by omega, by omega, by omega⟩, by omega⟩)).mono ?_; rintro e w6 ⟨rfl, hb6⟩) | (go_at_call 17; refine (towners_no _ _ _ _ _ _ _ _ _ _ _ (by omega) (by omega) (by omega) (by omega)).mono ?_; rintro e w6 ⟨rfl, hb6⟩) | (go_at_call 16; refine (tfirst_none _ _ _ _ _ _ _ _ _ _ _ (by omega) (by omega) (by omega) (by omega)).mono ?_; rintro e w6 ⟨rfl, hb6⟩)); refine StepPost.loud _ rfl (by repeat (first | exact Kept.refl _ | assumption | (refine Kept.alloc ?_ _) | (refine Kept.setCell ?_ (by first | omega | (simp; omega) | simp) _) | refine Kept.drew ?_ | refine Kept.drewN ?_ _ | (apply Kept.call; rotate_left; assumption))) (fun hkL => ?_); have hkL := hI.call hkL; have hkB := hkB.call hkL; have sB1 := hkL.at_ sB1; have sB2 := hkL.at_ sB2; have sB3 := hkL.at_ sB3; have sB4 := hkL.at_ sB4; have sB5 := hkL.at_ sB5; have sB6 := hkL.at_ sB6; have sB7 := hkL.at_ sB7; have sB8 := hkL.at_ sB8; have sB9 := hkL.at_ sB9; simp only [Act.put, List.setIfInBounds_toArray, List.set_cons_succ, List.set_cons_zero]))
    refine DW.nil ?_
    intro wd hI
    have hkd := hkB.call hI
    have td1 := hI.at_ sB1; have td2 := hI.at_ sB2; have td3 := hI.at_ sB3; have td4 := hI.at_ sB4; have td5 := hI.at_ sB5; have td6 := hI.at_ sB6; have td7 := hI.at_ sB7; have td8 := hI.at_ sB8; have td9 := hI.at_ sB9
    go_wp2_with fail
    go_ret
    exact ⟨by first | rfl | exact ret_bool (by simp), K2.call hkd⟩
end Go.Proofs.Ytahokiopapenbaa
