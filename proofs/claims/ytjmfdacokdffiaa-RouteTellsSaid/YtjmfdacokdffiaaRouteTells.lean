/- The law RouteTells: where labels go is as the document says. -/
import Derived.Test.YtjmfdacokdffiaaRouW
set_option linter.unusedSimpArgs false
set_option linter.unusedVariables false
namespace Go.Proofs.Ytjmfdacokdffiaa
open Go.RowKit

set_option maxRecDepth 20000 in
set_option maxHeartbeats 8000000 in
theorem routeTells_walk (A : Option Addr) (m c : Nat) (x : Nat → Int) (B : Option Addr) (m2 c2 : Nat) (y : Nat → Int) (C : Option Addr) (m3 c3 : Nat) (z : Nat → Int) (key : ByteArray) (p0 p1 p2 p3 : Int) (w : World) (rx : RowAt w A m c 1 (fun i => [.int .i64 (x i)])) (_rx2 : ∀ i, i < m → (Lit.int .i64 (x i)).wf = true) (ry : RowAt w B m2 c2 1 (fun i => [.int .i64 (y i)])) (_ry2 : ∀ i, i < m2 → (Lit.int .i64 (y i)).wf = true) (rz : RowAt w C m3 c3 1 (fun i => [.int .i64 (z i)])) (_rz2 : ∀ i, i < m3 → (Lit.int .i64 (z i)).wf = true) (_wk : key.size ≤ maxLen) (_w0 : (Lit.int .i64 p0).wf = true) (_w1 : (Lit.int .i64 p1).wf = true) (_w2 : (Lit.int .i64 p2).wf = true) (_w3 : (Lit.int .i64 p3).wf = true) :
    Calls Try.prog 7 #[.agg #[.slice A m c, .slice B m2 c2, .slice C m3 c3], .string key, .agg #[.int .i64 p0, .int .i64 p1, .int .i64 p2, .int .i64 p3]] w fun e w' => e = .returned (.bool true) ∧ Kept w w' := by
  have HX := Lib.hid (IntsAt.of_row rx)
  have HY := Lib.hid (IntsAt.of_row ry)
  have HZ := Lib.hid (IntsAt.of_row rz)
  clear rx _rx2 ry _ry2 rz _rz2 _wk _w0 _w1 _w2 _w3
  generalize (List.range m).map x = xs at *
  generalize (List.range m2).map y = ys at *
  generalize (List.range m3).map z = zs at *
  go_enter Try.func7, Try.ntmps7
  go_wp2_with fail
  refine (awake_any _).mono ?_
  rintro e w1 ⟨rfl, k1_⟩
  have K1 : Kept w w1 := Kept.call (by repeat (first | exact Kept.refl _ | assumption | (refine Kept.alloc ?_ _) | (refine Kept.setCell ?_ (by first | omega | (simp; omega) | simp) _) | refine Kept.drew ?_ | refine Kept.drewN ?_ _ | (apply Kept.call; rotate_left; assumption))) k1_
  have cs0 : w1.cell? ⟨w.heap.size, 0, none⟩ = some (.slice A m c) := k1_.at_ (by go_simp)
  have cs1 : w1.cell? ⟨w.heap.size, 1, none⟩ = some (.slice B m2 c2) := k1_.at_ (by go_simp)
  have cs2 : w1.cell? ⟨w.heap.size, 2, none⟩ = some (.slice C m3 c3) := k1_.at_ (by go_simp)
  have cp0 : w1.cell? ⟨w.heap.size + 1, 0, none⟩ = some (.int .i64 p0) := k1_.at_ (by go_simp)
  have cp1 : w1.cell? ⟨w.heap.size + 1, 1, none⟩ = some (.int .i64 p1) := k1_.at_ (by go_simp)
  have cp2 : w1.cell? ⟨w.heap.size + 1, 2, none⟩ = some (.int .i64 p2) := k1_.at_ (by go_simp)
  have cp3 : w1.cell? ⟨w.heap.size + 1, 3, none⟩ = some (.int .i64 p3) := k1_.at_ (by go_simp)
  go_wp2_with fail
  refine (row_any A B C m c m2 c2 m3 c3 xs ys zs _ (HX.out.keep (by repeat (first | exact Kept.refl _ | assumption | (refine Kept.alloc ?_ _) | (refine Kept.setCell ?_ (by first | omega | (simp; omega) | simp) _) | refine Kept.drew ?_ | refine Kept.drewN ?_ _ | (apply Kept.call; rotate_left; assumption)))) (HY.out.keep (by repeat (first | exact Kept.refl _ | assumption | (refine Kept.alloc ?_ _) | (refine Kept.setCell ?_ (by first | omega | (simp; omega) | simp) _) | refine Kept.drew ?_ | refine Kept.drewN ?_ _ | (apply Kept.call; rotate_left; assumption)))) (HZ.out.keep (by repeat (first | exact Kept.refl _ | assumption | (refine Kept.alloc ?_ _) | (refine Kept.setCell ?_ (by first | omega | (simp; omega) | simp) _) | refine Kept.drew ?_ | refine Kept.drewN ?_ _ | (apply Kept.call; rotate_left; assumption))))).mono ?_
  rintro e w2 ⟨a1, b1, g1, n1, d1, n2, d2, n3, d3, es, os, ps, rfl, ⟨l1, l2, l3, l4, l5, l6⟩, hr, hf, k2⟩
  have K2 : Kept w w2 := K1.call k2
  have HR := Lib.hid hr
  have HF := Lib.hid hf
  have h1n : 1 ≤ n3 := hf.fit.one
  have h6n : n3 ≤ 6 := hf.fit.six
  have hne0 : ((n3 : Int) == 0) = false := by simp; omega
  have hatb := tmod_bd p3 n3 (by omega)
  obtain ⟨f, hat, hfn⟩ : ∃ r : Nat, (p3.tmod (n3 : Int) + n3).tmod (n3 : Int) = r ∧ r < n3 := by
    have h2 := Int.tmod_nonneg (n3 : Int) (show 0 ≤ p3.tmod (n3 : Int) + n3 by omega)
    have h3 := Int.tmod_lt_of_pos (p3.tmod (n3 : Int) + n3) (show 0 < (n3 : Int) by omega)
    exact ⟨_, (Int.toNat_of_nonneg h2).symm, by omega⟩
  have hbd3 : n3 ≤ d3 ∧ d3 ≤ 9223372036854775807 := by have h1 := hr.ps.2.1; have h2 := hr.ps.2.2.1; unfold maxLen at h2; omega
  have cp0 := k2.at_ cp0
  have cp1 := k2.at_ cp1
  have cp2 := k2.at_ cp2
  have cp3 := k2.at_ cp3
  have hlp : w.heap.size + 1 < w2.heap.size := World.block_lt_of_cell? w2 _ cp0
  have hl1 : w.heap.size + 1 < w1.heap.size := World.block_lt_of_cell? w1 _ (by assumption)
  obtain ⟨gb, go, eg, hgc⟩ := hr.ps.2.2.2.2 (by omega)
  cases eg
  have hg0 : w2.cell? ⟨g1, f, none⟩ = some (.int .i64 (ps[f]?.getD (-2))) := by have := hgc f hfn; rwa [Nat.zero_add] at this
  have hgl : g1 < w2.heap.size := World.block_lt_of_cell? w2 _ hg0
  have hfz := l6 f
  have hw11 : w1.heap.size ≤ w2.heap.size := k2.size
  clear hr hf cs0 cs1 cs2 HX HY HZ hgc l6
  cases hmod : (bits .and .i64 p2 7 == 7)
  · go_wp2_with fail
    have KA : Kept w2 (w2.alloc (.cells #[.slice (some ⟨a1, 0, none⟩) n1 d1, .slice (some ⟨b1, 0, none⟩) n2 d2, .slice (some ⟨g1, 0, none⟩) n3 d3] 28)) := by repeat (first | exact Kept.refl _ | assumption | (refine Kept.alloc ?_ _) | (refine Kept.setCell ?_ (by first | omega | (simp; omega) | simp) _) | refine Kept.drew ?_ | refine Kept.drewN ?_ _ | (apply Kept.call; rotate_left; assumption))
    have KM : Kept w (w2.alloc (.cells #[.slice (some ⟨a1, 0, none⟩) n1 d1, .slice (some ⟨b1, 0, none⟩) n2 d2, .slice (some ⟨g1, 0, none⟩) n3 d3] 28)) := K2.call KA
    have y0 : (w2.alloc (.cells #[.slice (some ⟨a1, 0, none⟩) n1 d1, .slice (some ⟨b1, 0, none⟩) n2 d2, .slice (some ⟨g1, 0, none⟩) n3 d3] 28)).cell? ⟨w2.heap.size, 0, none⟩ = some (.slice (some ⟨a1, 0, none⟩) n1 d1) := by go_simp
    have y1 : (w2.alloc (.cells #[.slice (some ⟨a1, 0, none⟩) n1 d1, .slice (some ⟨b1, 0, none⟩) n2 d2, .slice (some ⟨g1, 0, none⟩) n3 d3] 28)).cell? ⟨w2.heap.size, 1, none⟩ = some (.slice (some ⟨b1, 0, none⟩) n2 d2) := by go_simp
    have y2 : (w2.alloc (.cells #[.slice (some ⟨a1, 0, none⟩) n1 d1, .slice (some ⟨b1, 0, none⟩) n2 d2, .slice (some ⟨g1, 0, none⟩) n3 d3] 28)).cell? ⟨w2.heap.size, 2, none⟩ = some (.slice (some ⟨g1, 0, none⟩) n3 d3) := by go_simp
    have q0 := KA.at_ cp0
    have q1 := KA.at_ cp1
    have HRM := Lib.hid (HR.out.keep KA)
    have HFM := Lib.hid HF.out.fit
    obtain ⟨pp, hpp⟩ : ∃ pp, pp = ps := ⟨_, rfl⟩
    rw [← hpp] at HRM
    clear hpp hg0 hfz KA cp0 cp1 cp2 cp3 hmod hat
    generalize (w2.alloc (.cells #[.slice (some ⟨a1, 0, none⟩) n1 d1, .slice (some ⟨b1, 0, none⟩) n2 d2, .slice (some ⟨g1, 0, none⟩) n3 d3] 28)) = wM at *
    obtain ⟨NL, hN1, hN2⟩ := both_next _ _ _ n1 d1 n2 d2 n3 d3 es os pp wM p0 p1 key HRM.out HFM.out
    obtain ⟨SL, hS1, hS2⟩ := both_serves _ _ _ n1 d1 n2 d2 n3 d3 es os pp wM p0 p1 HRM.out HFM.out
    obtain ⟨rr, hR1, hR2⟩ := both_reach _ _ _ n1 d1 n2 d2 n3 d3 es os pp wM p0 key HRM.out HFM.out
    have HN1 := Lib.hid hN1
    have HN2 := Lib.hid hN2
    have HS1 := Lib.hid hS1
    have HS2 := Lib.hid hS2
    have HR1 := Lib.hid hR1
    have HR2 := Lib.hid hR2
    have HC1 := Lib.hid (fun w9 (h9 : Kept wM w9) => rcheck_is _ _ _ n1 d1 n2 d2 n3 d3 es os pp w9 (HRM.out.keep h9) HFM.out)
    have HC2 := Lib.hid (fun w9 (h9 : Kept wM w9) => r9check_is _ _ _ n1 d1 n2 d2 n3 d3 es os pp w9 (HRM.out.keep h9) HFM.out)
    have HWW : Hid (treeB pp = true → ∃ L, (∀ w9, Kept wM w9 → Calls Try.prog 12 #[.agg #[.slice (some ⟨a1, 0, none⟩) n1 d1, .slice (some ⟨b1, 0, none⟩) n2 d2, .slice (some ⟨g1, 0, none⟩) n3 d3], .int .i64 p0, .string key] w9 (PrsIs L w9)) ∧ (∀ w9, Kept wM w9 → Calls Try.prog 27 #[.agg #[.slice (some ⟨a1, 0, none⟩) n1 d1, .slice (some ⟨b1, 0, none⟩) n2 d2, .slice (some ⟨g1, 0, none⟩) n3 d3], .int .i64 p0, .string key] w9 (PrsIs L w9))) := fun h => both_ways _ _ _ n1 d1 n2 d2 n3 d3 es os pp wM p0 key HRM.out HFM.out (Classical.byContradiction fun hn => by rw [treeB_no hn] at h; cases h)
    clear hN1 hN2 hS1 hS2 hR1 hR2
    generalize treeB pp = TB at *
    go_wp2_with fail
    refine wp_region_dw keepsOne [0, 1, 2, 3, 4, 5, 7, 8, 9, 10, 11, 12, 6, 13, 14, 15] (fun wB => Kept wM wB ∧ wB.cell? ⟨w2.heap.size, 0, none⟩ = some (.slice (some ⟨a1, 0, none⟩) n1 d1) ∧ wB.cell? ⟨w2.heap.size, 1, none⟩ = some (.slice (some ⟨b1, 0, none⟩) n2 d2) ∧ wB.cell? ⟨w2.heap.size, 2, none⟩ = some (.slice (some ⟨g1, 0, none⟩) n3 d3) ∧ wB.cell? ⟨w.heap.size + 1, 0, none⟩ = some (.int .i64 p0) ∧ wB.cell? ⟨w.heap.size + 1, 1, none⟩ = some (.int .i64 p1)) ?_ (by kernel_rfl) (by kernel_rfl) _ (by (try simp only [List.append_eq, List.cons_append, List.nil_append, List.toList_toArray]); exact rfl) ?_
    · exact ⟨by repeat (first | exact Kept.refl _ | assumption | (refine Kept.alloc ?_ _) | (refine Kept.setCell ?_ (by first | omega | (simp; omega) | simp) _) | refine Kept.drew ?_ | refine Kept.drewN ?_ _ | (apply Kept.call; rotate_left; assumption)), by first | assumption | go_simp, by first | assumption | go_simp, by first | assumption | go_simp, by first | assumption | go_simp, by first | assumption | go_simp⟩
    rintro wB ⟨hkB, sB1, sB2, sB3, sB4, sB5⟩
    simp only [List.map_cons, List.map_nil, List.toList_toArray, List.getElem?_cons_zero, List.getElem?_cons_succ, Option.getD_some]
    repeat (first | (apply DW.det; (focus (intro wd hI; have td1 := hI.at_ sB1; have td2 := hI.at_ sB2; have td3 := hI.at_ sB3; have td4 := hI.at_ sB4; have td5 := hI.at_ sB5; skip; go_wp2_with (first | (go_at_call 19; refine (HN1.out _ (hkB.call hI)).mono ?_; rintro e w6 ⟨A6, e6, rfl, hi6, hb6⟩; have HI6 := Lib.hid hi6; clear hi6) | (go_at_call 21; refine (HN2.out _ (hkB.call hI)).mono ?_; rintro e w7 ⟨A7, e7, rfl, hi7, hb7⟩; have HI7 := Lib.hid hi7; have HI67 := Lib.hid (HI6.out.keep (Kept.call hI hb7)); clear hi7) | (go_at_call 20; refine (same_yes A6 A7 _ _ e6 e7 _ _ (HI67.out.keep hI) (HI7.out.keep hI)).mono ?_; rintro e w8 ⟨rfl, hb8⟩)); refine StepPost.mk _ rfl ⟨rfl, ?_⟩; repeat (first | exact Kept.refl _ | assumption | (refine Kept.alloc ?_ _) | (refine Kept.setCell ?_ (by first | omega | (simp; omega) | simp) _) | refine Kept.drew ?_ | refine Kept.drewN ?_ _ | (apply Kept.call; rotate_left; assumption)))); simp only [Act.put, List.setIfInBounds_toArray, List.set_cons_succ, List.set_cons_zero]) | (refine DW.loud (by kernel_rfl) ?_; intro wd hI; have td1 := hI.at_ sB1; have td2 := hI.at_ sB2; have td3 := hI.at_ sB3; have td4 := hI.at_ sB4; have td5 := hI.at_ sB5; skip; go_wp2_with (first | (go_at_call 19; refine (HN1.out _ (hkB.call hI)).mono ?_; rintro e w6 ⟨A6, e6, rfl, hi6, hb6⟩; have HI6 := Lib.hid hi6; clear hi6) | (go_at_call 21; refine (HN2.out _ (hkB.call hI)).mono ?_; rintro e w7 ⟨A7, e7, rfl, hi7, hb7⟩; have HI7 := Lib.hid hi7; have HI67 := Lib.hid (HI6.out.keep (Kept.call hI hb7)); clear hi7) | (go_at_call 20; refine (same_yes A6 A7 _ _ e6 e7 _ _ (HI67.out.keep hI) (HI7.out.keep hI)).mono ?_; rintro e w8 ⟨rfl, hb8⟩)); refine StepPost.loud _ rfl (by repeat (first | exact Kept.refl _ | assumption | (refine Kept.alloc ?_ _) | (refine Kept.setCell ?_ (by first | omega | (simp; omega) | simp) _) | refine Kept.drew ?_ | refine Kept.drewN ?_ _ | (apply Kept.call; rotate_left; assumption))) (fun hkL => ?_); have hkL := hI.call hkL; have hkB := hkB.call hkL; have sB1 := hkL.at_ sB1; have sB2 := hkL.at_ sB2; have sB3 := hkL.at_ sB3; have sB4 := hkL.at_ sB4; have sB5 := hkL.at_ sB5; simp only [Act.put, List.setIfInBounds_toArray, List.set_cons_succ, List.set_cons_zero]))
    refine DW.nil ?_
    intro wd hI
    have hkd := hkB.call hI
    have td1 := hI.at_ sB1; have td2 := hI.at_ sB2; have td3 := hI.at_ sB3; have td4 := hI.at_ sB4; have td5 := hI.at_ sB5
    clear HI6 HI7 HI67 hkB sB1 sB2 sB3 sB4 sB5
    obtain ⟨wz1, hwz⟩ : ∃ wz, wz = wd := ⟨_, rfl⟩
    subst hwz
    have kz1 := hkd
    have za1 := td1
    have za2 := td2
    have za3 := td3
    have za4 := td4
    have za5 := td5
    clear hkd hI td1 td2 td3 td4 td5
    go_wp2_with fail
    refine wp_region_dw keepsOne [0, 1, 2, 3, 4, 6, 7, 8, 9, 10, 5, 11, 12, 13] (fun wB => Kept wM wB ∧ wB.cell? ⟨w2.heap.size, 0, none⟩ = some (.slice (some ⟨a1, 0, none⟩) n1 d1) ∧ wB.cell? ⟨w2.heap.size, 1, none⟩ = some (.slice (some ⟨b1, 0, none⟩) n2 d2) ∧ wB.cell? ⟨w2.heap.size, 2, none⟩ = some (.slice (some ⟨g1, 0, none⟩) n3 d3) ∧ wB.cell? ⟨w.heap.size + 1, 0, none⟩ = some (.int .i64 p0) ∧ wB.cell? ⟨w.heap.size + 1, 1, none⟩ = some (.int .i64 p1)) ?_ (by kernel_rfl) (by kernel_rfl) _ (by (try simp only [List.append_eq, List.cons_append, List.nil_append, List.toList_toArray]); exact rfl) ?_
    · exact ⟨by repeat (first | exact Kept.refl _ | assumption | (refine Kept.alloc ?_ _) | (refine Kept.setCell ?_ (by first | omega | (simp; omega) | simp) _) | refine Kept.drew ?_ | refine Kept.drewN ?_ _ | (apply Kept.call; rotate_left; assumption)), by first | assumption | go_simp, by first | assumption | go_simp, by first | assumption | go_simp, by first | assumption | go_simp, by first | assumption | go_simp⟩
    rintro wB ⟨hkB, sB1, sB2, sB3, sB4, sB5⟩
    simp only [List.map_cons, List.map_nil, List.toList_toArray, List.getElem?_cons_zero, List.getElem?_cons_succ, Option.getD_some]
    repeat (first | (apply DW.det; (focus (intro wd hI; have td1 := hI.at_ sB1; have td2 := hI.at_ sB2; have td3 := hI.at_ sB3; have td4 := hI.at_ sB4; have td5 := hI.at_ sB5; skip; go_wp2_with (first | (go_at_call 23; refine (HS1.out _ (hkB.call hI)).mono ?_; rintro e w6 ⟨A6, m6, e6, rfl, hi6, hb6⟩; have HI6 := Lib.hid hi6; clear hi6) | (go_at_call 24; refine (HS2.out _ (hkB.call hI)).mono ?_; rintro e w7 ⟨A7, m7, e7, rfl, hi7, hb7⟩; have HI7 := Lib.hid hi7; have HI67 := Lib.hid (HI6.out.keep (Kept.call hI hb7)); clear hi7) | (go_at_call 22; refine (samerg_yes A6 A7 m6 m7 e6 e7 _ _ (HI67.out.keep hI) (HI7.out.keep hI)).mono ?_; rintro e w8 ⟨rfl, hb8⟩)); refine StepPost.mk _ rfl ⟨rfl, ?_⟩; repeat (first | exact Kept.refl _ | assumption | (refine Kept.alloc ?_ _) | (refine Kept.setCell ?_ (by first | omega | (simp; omega) | simp) _) | refine Kept.drew ?_ | refine Kept.drewN ?_ _ | (apply Kept.call; rotate_left; assumption)))); simp only [Act.put, List.setIfInBounds_toArray, List.set_cons_succ, List.set_cons_zero]) | (refine DW.loud (by kernel_rfl) ?_; intro wd hI; have td1 := hI.at_ sB1; have td2 := hI.at_ sB2; have td3 := hI.at_ sB3; have td4 := hI.at_ sB4; have td5 := hI.at_ sB5; skip; go_wp2_with (first | (go_at_call 23; refine (HS1.out _ (hkB.call hI)).mono ?_; rintro e w6 ⟨A6, m6, e6, rfl, hi6, hb6⟩; have HI6 := Lib.hid hi6; clear hi6) | (go_at_call 24; refine (HS2.out _ (hkB.call hI)).mono ?_; rintro e w7 ⟨A7, m7, e7, rfl, hi7, hb7⟩; have HI7 := Lib.hid hi7; have HI67 := Lib.hid (HI6.out.keep (Kept.call hI hb7)); clear hi7) | (go_at_call 22; refine (samerg_yes A6 A7 m6 m7 e6 e7 _ _ (HI67.out.keep hI) (HI7.out.keep hI)).mono ?_; rintro e w8 ⟨rfl, hb8⟩)); refine StepPost.loud _ rfl (by repeat (first | exact Kept.refl _ | assumption | (refine Kept.alloc ?_ _) | (refine Kept.setCell ?_ (by first | omega | (simp; omega) | simp) _) | refine Kept.drew ?_ | refine Kept.drewN ?_ _ | (apply Kept.call; rotate_left; assumption))) (fun hkL => ?_); have hkL := hI.call hkL; have hkB := hkB.call hkL; have sB1 := hkL.at_ sB1; have sB2 := hkL.at_ sB2; have sB3 := hkL.at_ sB3; have sB4 := hkL.at_ sB4; have sB5 := hkL.at_ sB5; simp only [Act.put, List.setIfInBounds_toArray, List.set_cons_succ, List.set_cons_zero]))
    refine DW.nil ?_
    intro wd hI
    have hkd := hkB.call hI
    have td1 := hI.at_ sB1; have td2 := hI.at_ sB2; have td3 := hI.at_ sB3; have td4 := hI.at_ sB4; have td5 := hI.at_ sB5
    clear HI6 HI7 HI67 hkB sB1 sB2 sB3 sB4 sB5 za1 za2 za3 za4 za5
    obtain ⟨wz2, hwz⟩ : ∃ wz, wz = wd := ⟨_, rfl⟩
    subst hwz
    have kz2 := hkd
    have zb1 := td1
    have zb2 := td2
    have zb3 := td3
    have zb4 := td4
    clear hkd hI td1 td2 td3 td4 td5
    go_wp2_with fail
    refine (HC2.out _ kz2).mono ?_
    rintro e w5 ⟨rfl, k5⟩
    have kz3 := kz2.call k5
    have zb1 := k5.at_ zb1
    have zb2 := k5.at_ zb2
    have zb3 := k5.at_ zb3
    have zb4 := k5.at_ zb4
    cases TB
    · go_wp2_with fail
      refine wp_region_text keepsOne (fun wB => Kept wM wB ∧ wB.cell? ⟨w2.heap.size, 0, none⟩ = some (.slice (some ⟨a1, 0, none⟩) n1 d1) ∧ wB.cell? ⟨w2.heap.size, 1, none⟩ = some (.slice (some ⟨b1, 0, none⟩) n2 d2) ∧ wB.cell? ⟨w2.heap.size, 2, none⟩ = some (.slice (some ⟨g1, 0, none⟩) n3 d3) ∧ wB.cell? ⟨w.heap.size + 1, 0, none⟩ = some (.int .i64 p0)) ?_ (by kernel_rfl) (by kernel_rfl) _ (by (try simp only [List.append_eq, List.cons_append, List.nil_append, List.toList_toArray]); exact rfl) ?_
      · exact ⟨by repeat (first | exact Kept.refl _ | assumption | (refine Kept.alloc ?_ _) | (refine Kept.setCell ?_ (by first | omega | (simp; omega) | simp) _) | refine Kept.drew ?_ | refine Kept.drewN ?_ _ | (apply Kept.call; rotate_left; assumption)), by first | assumption | go_simp, by first | assumption | go_simp, by first | assumption | go_simp, by first | assumption | go_simp⟩
      rintro wB ⟨hkB, sB1, sB2, sB3, sB4⟩
      repeat (first | (apply DW.det; (focus (intro wd hI; have td1 := hI.at_ sB1; have td2 := hI.at_ sB2; have td3 := hI.at_ sB3; have td4 := hI.at_ sB4; skip; go_wp2_with (first | (go_at_call 16; refine (HC1.out _ (hkB.call hI)).mono ?_; rintro e w6 ⟨rfl, hb6⟩) | (go_at_call 25; refine (HC2.out _ (hkB.call hI)).mono ?_; rintro e w7 ⟨rfl, hb7⟩) | (go_at_call 18; refine (HR1.out _ (hkB.call hI)).mono ?_; rintro e w8 ⟨rfl, hb8⟩) | (go_at_call 28; refine (HR2.out _ (hkB.call hI)).mono ?_; rintro e w9 ⟨rfl, hb9⟩)); refine StepPost.mk _ rfl ⟨rfl, ?_⟩; repeat (first | exact Kept.refl _ | assumption | (refine Kept.alloc ?_ _) | (refine Kept.setCell ?_ (by first | omega | (simp; omega) | simp) _) | refine Kept.drew ?_ | refine Kept.drewN ?_ _ | (apply Kept.call; rotate_left; assumption)))); simp only [Act.put, List.setIfInBounds_toArray, List.set_cons_succ, List.set_cons_zero]) | (refine DW.loud (by kernel_rfl) ?_; intro wd hI; have td1 := hI.at_ sB1; have td2 := hI.at_ sB2; have td3 := hI.at_ sB3; have td4 := hI.at_ sB4; skip; go_wp2_with (first | (go_at_call 16; refine (HC1.out _ (hkB.call hI)).mono ?_; rintro e w6 ⟨rfl, hb6⟩) | (go_at_call 25; refine (HC2.out _ (hkB.call hI)).mono ?_; rintro e w7 ⟨rfl, hb7⟩) | (go_at_call 18; refine (HR1.out _ (hkB.call hI)).mono ?_; rintro e w8 ⟨rfl, hb8⟩) | (go_at_call 28; refine (HR2.out _ (hkB.call hI)).mono ?_; rintro e w9 ⟨rfl, hb9⟩)); refine StepPost.loud _ rfl (by repeat (first | exact Kept.refl _ | assumption | (refine Kept.alloc ?_ _) | (refine Kept.setCell ?_ (by first | omega | (simp; omega) | simp) _) | refine Kept.drew ?_ | refine Kept.drewN ?_ _ | (apply Kept.call; rotate_left; assumption))) (fun hkL => ?_); have hkL := hI.call hkL; have hkB := hkB.call hkL; have sB1 := hkL.at_ sB1; have sB2 := hkL.at_ sB2; have sB3 := hkL.at_ sB3; have sB4 := hkL.at_ sB4; simp only [Act.put, List.setIfInBounds_toArray, List.set_cons_succ, List.set_cons_zero]))
      refine DW.nil ?_
      intro wd hI
      have hkd := hkB.call hI
      have td1 := hI.at_ sB1; have td2 := hI.at_ sB2; have td3 := hI.at_ sB3; have td4 := hI.at_ sB4
      go_wp2_with fail
      go_ret
      exact ⟨by first | rfl | exact ret_bool (by simp), KM.call hkd⟩
    · obtain ⟨WL, hW1, hW2⟩ := HWW.out rfl
      have HW1 := Lib.hid hW1
      have HW2 := Lib.hid hW2
      clear hW1 hW2 HWW
      go_wp2_with fail
      refine wp_region_dw keepsOne [0, 1, 2, 3, 5, 6, 7, 8, 4, 9, 10, 11] (fun wB => Kept wM wB ∧ wB.cell? ⟨w2.heap.size, 0, none⟩ = some (.slice (some ⟨a1, 0, none⟩) n1 d1) ∧ wB.cell? ⟨w2.heap.size, 1, none⟩ = some (.slice (some ⟨b1, 0, none⟩) n2 d2) ∧ wB.cell? ⟨w2.heap.size, 2, none⟩ = some (.slice (some ⟨g1, 0, none⟩) n3 d3) ∧ wB.cell? ⟨w.heap.size + 1, 0, none⟩ = some (.int .i64 p0)) ?_ (by kernel_rfl) (by kernel_rfl) _ (by (try simp only [List.append_eq, List.cons_append, List.nil_append, List.toList_toArray]); exact rfl) ?_
      · exact ⟨by repeat (first | exact Kept.refl _ | assumption | (refine Kept.alloc ?_ _) | (refine Kept.setCell ?_ (by first | omega | (simp; omega) | simp) _) | refine Kept.drew ?_ | refine Kept.drewN ?_ _ | (apply Kept.call; rotate_left; assumption)), by first | assumption | go_simp, by first | assumption | go_simp, by first | assumption | go_simp, by first | assumption | go_simp⟩
      rintro wB ⟨hkB, sB1, sB2, sB3, sB4⟩
      simp only [List.map_cons, List.map_nil, List.toList_toArray, List.getElem?_cons_zero, List.getElem?_cons_succ, Option.getD_some]
      repeat (first | (apply DW.det; (focus (intro wd hI; have td1 := hI.at_ sB1; have td2 := hI.at_ sB2; have td3 := hI.at_ sB3; have td4 := hI.at_ sB4; skip; go_wp2_with (first | (go_at_call 12; refine (HW1.out _ (hkB.call hI)).mono ?_; rintro e w6 ⟨A6, e6, m6, rfl, hi6, hb6⟩; have HI6 := Lib.hid hi6; clear hi6) | (go_at_call 27; refine (HW2.out _ (hkB.call hI)).mono ?_; rintro e w7 ⟨A7, e7, m7, rfl, hi7, hb7⟩; have HI7 := Lib.hid hi7; have HI67 := Lib.hid (HI6.out.keep (Kept.call hI hb7)); clear hi7) | (go_at_call 26; refine (psame_yes A6 A7 m6 m7 e6 e7 _ _ (HI67.out.keep hI) (HI7.out.keep hI)).mono ?_; rintro e w8 ⟨rfl, hb8⟩)); refine StepPost.mk _ rfl ⟨rfl, ?_⟩; repeat (first | exact Kept.refl _ | assumption | (refine Kept.alloc ?_ _) | (refine Kept.setCell ?_ (by first | omega | (simp; omega) | simp) _) | refine Kept.drew ?_ | refine Kept.drewN ?_ _ | (apply Kept.call; rotate_left; assumption)))); simp only [Act.put, List.setIfInBounds_toArray, List.set_cons_succ, List.set_cons_zero]) | (refine DW.loud (by kernel_rfl) ?_; intro wd hI; have td1 := hI.at_ sB1; have td2 := hI.at_ sB2; have td3 := hI.at_ sB3; have td4 := hI.at_ sB4; skip; go_wp2_with (first | (go_at_call 12; refine (HW1.out _ (hkB.call hI)).mono ?_; rintro e w6 ⟨A6, e6, m6, rfl, hi6, hb6⟩; have HI6 := Lib.hid hi6; clear hi6) | (go_at_call 27; refine (HW2.out _ (hkB.call hI)).mono ?_; rintro e w7 ⟨A7, e7, m7, rfl, hi7, hb7⟩; have HI7 := Lib.hid hi7; have HI67 := Lib.hid (HI6.out.keep (Kept.call hI hb7)); clear hi7) | (go_at_call 26; refine (psame_yes A6 A7 m6 m7 e6 e7 _ _ (HI67.out.keep hI) (HI7.out.keep hI)).mono ?_; rintro e w8 ⟨rfl, hb8⟩)); refine StepPost.loud _ rfl (by repeat (first | exact Kept.refl _ | assumption | (refine Kept.alloc ?_ _) | (refine Kept.setCell ?_ (by first | omega | (simp; omega) | simp) _) | refine Kept.drew ?_ | refine Kept.drewN ?_ _ | (apply Kept.call; rotate_left; assumption))) (fun hkL => ?_); have hkL := hI.call hkL; have hkB := hkB.call hkL; have sB1 := hkL.at_ sB1; have sB2 := hkL.at_ sB2; have sB3 := hkL.at_ sB3; have sB4 := hkL.at_ sB4; simp only [Act.put, List.setIfInBounds_toArray, List.set_cons_succ, List.set_cons_zero]))
      refine DW.nil ?_
      intro wd hI
      have hkd := hkB.call hI
      have td1 := hI.at_ sB1; have td2 := hI.at_ sB2; have td3 := hI.at_ sB3; have td4 := hI.at_ sB4
      clear HI6 HI7 HI67 hkB sB1 sB2 sB3 sB4 zb1 zb2 zb3 zb4
      obtain ⟨wz4, hwz⟩ : ∃ wz, wz = wd := ⟨_, rfl⟩
      subst hwz
      have kz4 := hkd
      have zc1 := td1
      have zc2 := td2
      have zc3 := td3
      have zc4 := td4
      clear hkd hI td1 td2 td3 td4
      go_wp2_with fail
      refine wp_region_text keepsOne (fun wB => Kept wM wB ∧ wB.cell? ⟨w2.heap.size, 0, none⟩ = some (.slice (some ⟨a1, 0, none⟩) n1 d1) ∧ wB.cell? ⟨w2.heap.size, 1, none⟩ = some (.slice (some ⟨b1, 0, none⟩) n2 d2) ∧ wB.cell? ⟨w2.heap.size, 2, none⟩ = some (.slice (some ⟨g1, 0, none⟩) n3 d3) ∧ wB.cell? ⟨w.heap.size + 1, 0, none⟩ = some (.int .i64 p0)) ?_ (by kernel_rfl) (by kernel_rfl) _ (by (try simp only [List.append_eq, List.cons_append, List.nil_append, List.toList_toArray]); exact rfl) ?_
      · exact ⟨by repeat (first | exact Kept.refl _ | assumption | (refine Kept.alloc ?_ _) | (refine Kept.setCell ?_ (by first | omega | (simp; omega) | simp) _) | refine Kept.drew ?_ | refine Kept.drewN ?_ _ | (apply Kept.call; rotate_left; assumption)), by first | assumption | go_simp, by first | assumption | go_simp, by first | assumption | go_simp, by first | assumption | go_simp⟩
      rintro wB ⟨hkB, sB1, sB2, sB3, sB4⟩
      repeat (first | (apply DW.det; (focus (intro wd hI; have td1 := hI.at_ sB1; have td2 := hI.at_ sB2; have td3 := hI.at_ sB3; have td4 := hI.at_ sB4; skip; go_wp2_with (first | (go_at_call 16; refine (HC1.out _ (hkB.call hI)).mono ?_; rintro e w6 ⟨rfl, hb6⟩) | (go_at_call 25; refine (HC2.out _ (hkB.call hI)).mono ?_; rintro e w7 ⟨rfl, hb7⟩) | (go_at_call 18; refine (HR1.out _ (hkB.call hI)).mono ?_; rintro e w8 ⟨rfl, hb8⟩) | (go_at_call 28; refine (HR2.out _ (hkB.call hI)).mono ?_; rintro e w9 ⟨rfl, hb9⟩)); refine StepPost.mk _ rfl ⟨rfl, ?_⟩; repeat (first | exact Kept.refl _ | assumption | (refine Kept.alloc ?_ _) | (refine Kept.setCell ?_ (by first | omega | (simp; omega) | simp) _) | refine Kept.drew ?_ | refine Kept.drewN ?_ _ | (apply Kept.call; rotate_left; assumption)))); simp only [Act.put, List.setIfInBounds_toArray, List.set_cons_succ, List.set_cons_zero]) | (refine DW.loud (by kernel_rfl) ?_; intro wd hI; have td1 := hI.at_ sB1; have td2 := hI.at_ sB2; have td3 := hI.at_ sB3; have td4 := hI.at_ sB4; skip; go_wp2_with (first | (go_at_call 16; refine (HC1.out _ (hkB.call hI)).mono ?_; rintro e w6 ⟨rfl, hb6⟩) | (go_at_call 25; refine (HC2.out _ (hkB.call hI)).mono ?_; rintro e w7 ⟨rfl, hb7⟩) | (go_at_call 18; refine (HR1.out _ (hkB.call hI)).mono ?_; rintro e w8 ⟨rfl, hb8⟩) | (go_at_call 28; refine (HR2.out _ (hkB.call hI)).mono ?_; rintro e w9 ⟨rfl, hb9⟩)); refine StepPost.loud _ rfl (by repeat (first | exact Kept.refl _ | assumption | (refine Kept.alloc ?_ _) | (refine Kept.setCell ?_ (by first | omega | (simp; omega) | simp) _) | refine Kept.drew ?_ | refine Kept.drewN ?_ _ | (apply Kept.call; rotate_left; assumption))) (fun hkL => ?_); have hkL := hI.call hkL; have hkB := hkB.call hkL; have sB1 := hkL.at_ sB1; have sB2 := hkL.at_ sB2; have sB3 := hkL.at_ sB3; have sB4 := hkL.at_ sB4; simp only [Act.put, List.setIfInBounds_toArray, List.set_cons_succ, List.set_cons_zero]))
      refine DW.nil ?_
      intro wd hI
      have hkd := hkB.call hI
      have td1 := hI.at_ sB1; have td2 := hI.at_ sB2; have td3 := hI.at_ sB3; have td4 := hI.at_ sB4
      go_wp2_with fail
      go_ret
      exact ⟨by first | rfl | exact ret_bool (by simp), KM.call hkd⟩
  · go_wp2_with fail
    refine wp_region_text keepsOne (fun wB => Kept w2 wB ∧ wB.cell? ⟨w2.heap.size, 0, none⟩ = some (.slice (some ⟨a1, 0, none⟩) n1 d1) ∧ wB.cell? ⟨w2.heap.size, 1, none⟩ = some (.slice (some ⟨b1, 0, none⟩) n2 d2) ∧ wB.cell? ⟨w2.heap.size, 2, none⟩ = some (.slice (some ⟨g1, 0, none⟩) n3 d3) ∧ wB.cell? ⟨w.heap.size + 1, 3, none⟩ = some (.int .i64 p3)) ?_ (by kernel_rfl) (by kernel_rfl) _ (by (try simp only [List.append_eq, List.cons_append, List.nil_append, List.toList_toArray]); exact rfl) ?_
    · exact ⟨by repeat (first | exact Kept.refl _ | assumption | (refine Kept.alloc ?_ _) | (refine Kept.setCell ?_ (by first | omega | (simp; omega) | simp) _) | refine Kept.drew ?_ | refine Kept.drewN ?_ _ | (apply Kept.call; rotate_left; assumption)), by first | assumption | go_simp, by first | assumption | go_simp, by first | assumption | go_simp, by first | assumption | go_simp⟩
    rintro wB ⟨hkB, sB1, sB2, sB3, sB4⟩
    iterate 20 (first | (apply DW.det; (focus (intro wd hI; have td1 := hI.at_ sB1; have td2 := hI.at_ sB2; have td3 := hI.at_ sB3; have td4 := hI.at_ sB4; skip; go_wp2_with (fail); refine StepPost.mk _ rfl ⟨rfl, ?_⟩; repeat (first | exact Kept.refl _ | assumption | (refine Kept.alloc ?_ _) | (refine Kept.setCell ?_ (by first | omega | (simp; omega) | simp) _) | refine Kept.drew ?_ | refine Kept.drewN ?_ _ | (apply Kept.call; rotate_left; assumption)))); simp only [Act.put, List.setIfInBounds_toArray, List.set_cons_succ, List.set_cons_zero]) | (refine DW.loud (by kernel_rfl) ?_; intro wd hI; have td1 := hI.at_ sB1; have td2 := hI.at_ sB2; have td3 := hI.at_ sB3; have td4 := hI.at_ sB4; skip; go_wp2_with (fail); refine StepPost.loud _ rfl (by repeat (first | exact Kept.refl _ | assumption | (refine Kept.alloc ?_ _) | (refine Kept.setCell ?_ (by first | omega | (simp; omega) | simp) _) | refine Kept.drew ?_ | refine Kept.drewN ?_ _ | (apply Kept.call; rotate_left; assumption))) (fun hkL => ?_); have hkL := hI.call hkL; have hkB := hkB.call hkL; have sB1 := hkL.at_ sB1; have sB2 := hkL.at_ sB2; have sB3 := hkL.at_ sB3; have sB4 := hkL.at_ sB4; simp only [Act.put, List.setIfInBounds_toArray, List.set_cons_succ, List.set_cons_zero]))
    refine DW.tail (by kernel_rfl) ?_
    intro wd hI
    have hkd := hkB.call hI
    have td1 := hI.at_ sB1; have td2 := hI.at_ sB2; have td3 := hI.at_ sB3; have td4 := hI.at_ sB4
    have hg1 := hkd.at_ hg0
    have hf1 : wd.frozen? ⟨g1, f, none⟩ = false := by rw [hkd.frozen g1 f hgl]; exact hfz
    clear hg0 hfz sB1 sB2 sB3 sB4 hkB hI
    go_wp2_with fail
    have hbt : But [g1] wd (wd.setCell ⟨g1, f, none⟩ (.int .i64 (bits .and .i64 p3 7))) := (But.refl _ _).setCell (.inl (by simp)) _
    have KM : Kept w (wd.setCell ⟨g1, f, none⟩ (.int .i64 (bits .and .i64 p3 7))) := (K2.call hkd).setCell (by simp; omega) _
    have y0 := hbt.at_ td1 (by simp; omega)
    have y1 := hbt.at_ td2 (by simp; omega)
    have y2 := hbt.at_ td3 (by simp; omega)
    have q0 := hbt.at_ (hkd.at_ cp0) (by simp; omega)
    have q1 := hbt.at_ (hkd.at_ cp1) (by simp; omega)
    have HRM : Hid (RowW (wd.setCell ⟨g1, f, none⟩ (.int .i64 (bits .and .i64 p3 7))) (some ⟨a1, 0, none⟩) n1 d1 (some ⟨b1, 0, none⟩) n2 d2 (some ⟨g1, 0, none⟩) n3 d3 (rgs es) os (ps.set f (bits .and .i64 p3 7))) := ⟨(HR.out.rs.keep hkd).but hbt (by simpa using l4), (HR.out.os.keep hkd).but hbt (by simpa using l5), (HR.out.ps.keep hkd).set hfn _⟩
    have HFM := Lib.hid HF.out.fit
    generalize ps.set f (bits .and .i64 p3 7) = pp at *
    clear hbt hg1 hf1 cp0 cp1 cp2 cp3 hmod hat td1 td2 td3 td4 hkd
    generalize wd.setCell ⟨g1, f, none⟩ (.int .i64 (bits .and .i64 p3 7)) = wM at *
    clear wd
    obtain ⟨NL, hN1, hN2⟩ := both_next _ _ _ n1 d1 n2 d2 n3 d3 es os pp wM p0 p1 key HRM.out HFM.out
    obtain ⟨SL, hS1, hS2⟩ := both_serves _ _ _ n1 d1 n2 d2 n3 d3 es os pp wM p0 p1 HRM.out HFM.out
    obtain ⟨rr, hR1, hR2⟩ := both_reach _ _ _ n1 d1 n2 d2 n3 d3 es os pp wM p0 key HRM.out HFM.out
    have HN1 := Lib.hid hN1
    have HN2 := Lib.hid hN2
    have HS1 := Lib.hid hS1
    have HS2 := Lib.hid hS2
    have HR1 := Lib.hid hR1
    have HR2 := Lib.hid hR2
    have HC1 := Lib.hid (fun w9 (h9 : Kept wM w9) => rcheck_is _ _ _ n1 d1 n2 d2 n3 d3 es os pp w9 (HRM.out.keep h9) HFM.out)
    have HC2 := Lib.hid (fun w9 (h9 : Kept wM w9) => r9check_is _ _ _ n1 d1 n2 d2 n3 d3 es os pp w9 (HRM.out.keep h9) HFM.out)
    have HWW : Hid (treeB pp = true → ∃ L, (∀ w9, Kept wM w9 → Calls Try.prog 12 #[.agg #[.slice (some ⟨a1, 0, none⟩) n1 d1, .slice (some ⟨b1, 0, none⟩) n2 d2, .slice (some ⟨g1, 0, none⟩) n3 d3], .int .i64 p0, .string key] w9 (PrsIs L w9)) ∧ (∀ w9, Kept wM w9 → Calls Try.prog 27 #[.agg #[.slice (some ⟨a1, 0, none⟩) n1 d1, .slice (some ⟨b1, 0, none⟩) n2 d2, .slice (some ⟨g1, 0, none⟩) n3 d3], .int .i64 p0, .string key] w9 (PrsIs L w9))) := fun h => both_ways _ _ _ n1 d1 n2 d2 n3 d3 es os pp wM p0 key HRM.out HFM.out (Classical.byContradiction fun hn => by rw [treeB_no hn] at h; cases h)
    clear hN1 hN2 hS1 hS2 hR1 hR2
    generalize treeB pp = TB at *
    go_wp2_with fail
    refine wp_region_dw keepsOne [0, 1, 2, 3, 4, 5, 7, 8, 9, 10, 11, 12, 6, 13, 14, 15] (fun wB => Kept wM wB ∧ wB.cell? ⟨w2.heap.size, 0, none⟩ = some (.slice (some ⟨a1, 0, none⟩) n1 d1) ∧ wB.cell? ⟨w2.heap.size, 1, none⟩ = some (.slice (some ⟨b1, 0, none⟩) n2 d2) ∧ wB.cell? ⟨w2.heap.size, 2, none⟩ = some (.slice (some ⟨g1, 0, none⟩) n3 d3) ∧ wB.cell? ⟨w.heap.size + 1, 0, none⟩ = some (.int .i64 p0) ∧ wB.cell? ⟨w.heap.size + 1, 1, none⟩ = some (.int .i64 p1)) ?_ (by kernel_rfl) (by kernel_rfl) _ (by (try simp only [List.append_eq, List.cons_append, List.nil_append, List.toList_toArray]); exact rfl) ?_
    · exact ⟨by repeat (first | exact Kept.refl _ | assumption | (refine Kept.alloc ?_ _) | (refine Kept.setCell ?_ (by first | omega | (simp; omega) | simp) _) | refine Kept.drew ?_ | refine Kept.drewN ?_ _ | (apply Kept.call; rotate_left; assumption)), by first | assumption | go_simp, by first | assumption | go_simp, by first | assumption | go_simp, by first | assumption | go_simp, by first | assumption | go_simp⟩
    rintro wB ⟨hkB, sB1, sB2, sB3, sB4, sB5⟩
    simp only [List.map_cons, List.map_nil, List.toList_toArray, List.getElem?_cons_zero, List.getElem?_cons_succ, Option.getD_some]
    repeat (first | (apply DW.det; (focus (intro wd hI; have td1 := hI.at_ sB1; have td2 := hI.at_ sB2; have td3 := hI.at_ sB3; have td4 := hI.at_ sB4; have td5 := hI.at_ sB5; skip; go_wp2_with (first | (go_at_call 19; refine (HN1.out _ (hkB.call hI)).mono ?_; rintro e w6 ⟨A6, e6, rfl, hi6, hb6⟩; have HI6 := Lib.hid hi6; clear hi6) | (go_at_call 21; refine (HN2.out _ (hkB.call hI)).mono ?_; rintro e w7 ⟨A7, e7, rfl, hi7, hb7⟩; have HI7 := Lib.hid hi7; have HI67 := Lib.hid (HI6.out.keep (Kept.call hI hb7)); clear hi7) | (go_at_call 20; refine (same_yes A6 A7 _ _ e6 e7 _ _ (HI67.out.keep hI) (HI7.out.keep hI)).mono ?_; rintro e w8 ⟨rfl, hb8⟩)); refine StepPost.mk _ rfl ⟨rfl, ?_⟩; repeat (first | exact Kept.refl _ | assumption | (refine Kept.alloc ?_ _) | (refine Kept.setCell ?_ (by first | omega | (simp; omega) | simp) _) | refine Kept.drew ?_ | refine Kept.drewN ?_ _ | (apply Kept.call; rotate_left; assumption)))); simp only [Act.put, List.setIfInBounds_toArray, List.set_cons_succ, List.set_cons_zero]) | (refine DW.loud (by kernel_rfl) ?_; intro wd hI; have td1 := hI.at_ sB1; have td2 := hI.at_ sB2; have td3 := hI.at_ sB3; have td4 := hI.at_ sB4; have td5 := hI.at_ sB5; skip; go_wp2_with (first | (go_at_call 19; refine (HN1.out _ (hkB.call hI)).mono ?_; rintro e w6 ⟨A6, e6, rfl, hi6, hb6⟩; have HI6 := Lib.hid hi6; clear hi6) | (go_at_call 21; refine (HN2.out _ (hkB.call hI)).mono ?_; rintro e w7 ⟨A7, e7, rfl, hi7, hb7⟩; have HI7 := Lib.hid hi7; have HI67 := Lib.hid (HI6.out.keep (Kept.call hI hb7)); clear hi7) | (go_at_call 20; refine (same_yes A6 A7 _ _ e6 e7 _ _ (HI67.out.keep hI) (HI7.out.keep hI)).mono ?_; rintro e w8 ⟨rfl, hb8⟩)); refine StepPost.loud _ rfl (by repeat (first | exact Kept.refl _ | assumption | (refine Kept.alloc ?_ _) | (refine Kept.setCell ?_ (by first | omega | (simp; omega) | simp) _) | refine Kept.drew ?_ | refine Kept.drewN ?_ _ | (apply Kept.call; rotate_left; assumption))) (fun hkL => ?_); have hkL := hI.call hkL; have hkB := hkB.call hkL; have sB1 := hkL.at_ sB1; have sB2 := hkL.at_ sB2; have sB3 := hkL.at_ sB3; have sB4 := hkL.at_ sB4; have sB5 := hkL.at_ sB5; simp only [Act.put, List.setIfInBounds_toArray, List.set_cons_succ, List.set_cons_zero]))
    refine DW.nil ?_
    intro wd hI
    have hkd := hkB.call hI
    have td1 := hI.at_ sB1; have td2 := hI.at_ sB2; have td3 := hI.at_ sB3; have td4 := hI.at_ sB4; have td5 := hI.at_ sB5
    clear HI6 HI7 HI67 hkB sB1 sB2 sB3 sB4 sB5
    obtain ⟨wz1, hwz⟩ : ∃ wz, wz = wd := ⟨_, rfl⟩
    subst hwz
    have kz1 := hkd
    have za1 := td1
    have za2 := td2
    have za3 := td3
    have za4 := td4
    have za5 := td5
    clear hkd hI td1 td2 td3 td4 td5
    go_wp2_with fail
    refine wp_region_dw keepsOne [0, 1, 2, 3, 4, 6, 7, 8, 9, 10, 5, 11, 12, 13] (fun wB => Kept wM wB ∧ wB.cell? ⟨w2.heap.size, 0, none⟩ = some (.slice (some ⟨a1, 0, none⟩) n1 d1) ∧ wB.cell? ⟨w2.heap.size, 1, none⟩ = some (.slice (some ⟨b1, 0, none⟩) n2 d2) ∧ wB.cell? ⟨w2.heap.size, 2, none⟩ = some (.slice (some ⟨g1, 0, none⟩) n3 d3) ∧ wB.cell? ⟨w.heap.size + 1, 0, none⟩ = some (.int .i64 p0) ∧ wB.cell? ⟨w.heap.size + 1, 1, none⟩ = some (.int .i64 p1)) ?_ (by kernel_rfl) (by kernel_rfl) _ (by (try simp only [List.append_eq, List.cons_append, List.nil_append, List.toList_toArray]); exact rfl) ?_
    · exact ⟨by repeat (first | exact Kept.refl _ | assumption | (refine Kept.alloc ?_ _) | (refine Kept.setCell ?_ (by first | omega | (simp; omega) | simp) _) | refine Kept.drew ?_ | refine Kept.drewN ?_ _ | (apply Kept.call; rotate_left; assumption)), by first | assumption | go_simp, by first | assumption | go_simp, by first | assumption | go_simp, by first | assumption | go_simp, by first | assumption | go_simp⟩
    rintro wB ⟨hkB, sB1, sB2, sB3, sB4, sB5⟩
    simp only [List.map_cons, List.map_nil, List.toList_toArray, List.getElem?_cons_zero, List.getElem?_cons_succ, Option.getD_some]
    repeat (first | (apply DW.det; (focus (intro wd hI; have td1 := hI.at_ sB1; have td2 := hI.at_ sB2; have td3 := hI.at_ sB3; have td4 := hI.at_ sB4; have td5 := hI.at_ sB5; skip; go_wp2_with (first | (go_at_call 23; refine (HS1.out _ (hkB.call hI)).mono ?_; rintro e w6 ⟨A6, m6, e6, rfl, hi6, hb6⟩; have HI6 := Lib.hid hi6; clear hi6) | (go_at_call 24; refine (HS2.out _ (hkB.call hI)).mono ?_; rintro e w7 ⟨A7, m7, e7, rfl, hi7, hb7⟩; have HI7 := Lib.hid hi7; have HI67 := Lib.hid (HI6.out.keep (Kept.call hI hb7)); clear hi7) | (go_at_call 22; refine (samerg_yes A6 A7 m6 m7 e6 e7 _ _ (HI67.out.keep hI) (HI7.out.keep hI)).mono ?_; rintro e w8 ⟨rfl, hb8⟩)); refine StepPost.mk _ rfl ⟨rfl, ?_⟩; repeat (first | exact Kept.refl _ | assumption | (refine Kept.alloc ?_ _) | (refine Kept.setCell ?_ (by first | omega | (simp; omega) | simp) _) | refine Kept.drew ?_ | refine Kept.drewN ?_ _ | (apply Kept.call; rotate_left; assumption)))); simp only [Act.put, List.setIfInBounds_toArray, List.set_cons_succ, List.set_cons_zero]) | (refine DW.loud (by kernel_rfl) ?_; intro wd hI; have td1 := hI.at_ sB1; have td2 := hI.at_ sB2; have td3 := hI.at_ sB3; have td4 := hI.at_ sB4; have td5 := hI.at_ sB5; skip; go_wp2_with (first | (go_at_call 23; refine (HS1.out _ (hkB.call hI)).mono ?_; rintro e w6 ⟨A6, m6, e6, rfl, hi6, hb6⟩; have HI6 := Lib.hid hi6; clear hi6) | (go_at_call 24; refine (HS2.out _ (hkB.call hI)).mono ?_; rintro e w7 ⟨A7, m7, e7, rfl, hi7, hb7⟩; have HI7 := Lib.hid hi7; have HI67 := Lib.hid (HI6.out.keep (Kept.call hI hb7)); clear hi7) | (go_at_call 22; refine (samerg_yes A6 A7 m6 m7 e6 e7 _ _ (HI67.out.keep hI) (HI7.out.keep hI)).mono ?_; rintro e w8 ⟨rfl, hb8⟩)); refine StepPost.loud _ rfl (by repeat (first | exact Kept.refl _ | assumption | (refine Kept.alloc ?_ _) | (refine Kept.setCell ?_ (by first | omega | (simp; omega) | simp) _) | refine Kept.drew ?_ | refine Kept.drewN ?_ _ | (apply Kept.call; rotate_left; assumption))) (fun hkL => ?_); have hkL := hI.call hkL; have hkB := hkB.call hkL; have sB1 := hkL.at_ sB1; have sB2 := hkL.at_ sB2; have sB3 := hkL.at_ sB3; have sB4 := hkL.at_ sB4; have sB5 := hkL.at_ sB5; simp only [Act.put, List.setIfInBounds_toArray, List.set_cons_succ, List.set_cons_zero]))
    refine DW.nil ?_
    intro wd hI
    have hkd := hkB.call hI
    have td1 := hI.at_ sB1; have td2 := hI.at_ sB2; have td3 := hI.at_ sB3; have td4 := hI.at_ sB4; have td5 := hI.at_ sB5
    clear HI6 HI7 HI67 hkB sB1 sB2 sB3 sB4 sB5 za1 za2 za3 za4 za5
    obtain ⟨wz2, hwz⟩ : ∃ wz, wz = wd := ⟨_, rfl⟩
    subst hwz
    have kz2 := hkd
    have zb1 := td1
    have zb2 := td2
    have zb3 := td3
    have zb4 := td4
    clear hkd hI td1 td2 td3 td4 td5
    go_wp2_with fail
    refine (HC2.out _ kz2).mono ?_
    rintro e w5 ⟨rfl, k5⟩
    have kz3 := kz2.call k5
    have zb1 := k5.at_ zb1
    have zb2 := k5.at_ zb2
    have zb3 := k5.at_ zb3
    have zb4 := k5.at_ zb4
    cases TB
    · go_wp2_with fail
      refine wp_region_text keepsOne (fun wB => Kept wM wB ∧ wB.cell? ⟨w2.heap.size, 0, none⟩ = some (.slice (some ⟨a1, 0, none⟩) n1 d1) ∧ wB.cell? ⟨w2.heap.size, 1, none⟩ = some (.slice (some ⟨b1, 0, none⟩) n2 d2) ∧ wB.cell? ⟨w2.heap.size, 2, none⟩ = some (.slice (some ⟨g1, 0, none⟩) n3 d3) ∧ wB.cell? ⟨w.heap.size + 1, 0, none⟩ = some (.int .i64 p0)) ?_ (by kernel_rfl) (by kernel_rfl) _ (by (try simp only [List.append_eq, List.cons_append, List.nil_append, List.toList_toArray]); exact rfl) ?_
      · exact ⟨by repeat (first | exact Kept.refl _ | assumption | (refine Kept.alloc ?_ _) | (refine Kept.setCell ?_ (by first | omega | (simp; omega) | simp) _) | refine Kept.drew ?_ | refine Kept.drewN ?_ _ | (apply Kept.call; rotate_left; assumption)), by first | assumption | go_simp, by first | assumption | go_simp, by first | assumption | go_simp, by first | assumption | go_simp⟩
      rintro wB ⟨hkB, sB1, sB2, sB3, sB4⟩
      repeat (first | (apply DW.det; (focus (intro wd hI; have td1 := hI.at_ sB1; have td2 := hI.at_ sB2; have td3 := hI.at_ sB3; have td4 := hI.at_ sB4; skip; go_wp2_with (first | (go_at_call 16; refine (HC1.out _ (hkB.call hI)).mono ?_; rintro e w6 ⟨rfl, hb6⟩) | (go_at_call 25; refine (HC2.out _ (hkB.call hI)).mono ?_; rintro e w7 ⟨rfl, hb7⟩) | (go_at_call 18; refine (HR1.out _ (hkB.call hI)).mono ?_; rintro e w8 ⟨rfl, hb8⟩) | (go_at_call 28; refine (HR2.out _ (hkB.call hI)).mono ?_; rintro e w9 ⟨rfl, hb9⟩)); refine StepPost.mk _ rfl ⟨rfl, ?_⟩; repeat (first | exact Kept.refl _ | assumption | (refine Kept.alloc ?_ _) | (refine Kept.setCell ?_ (by first | omega | (simp; omega) | simp) _) | refine Kept.drew ?_ | refine Kept.drewN ?_ _ | (apply Kept.call; rotate_left; assumption)))); simp only [Act.put, List.setIfInBounds_toArray, List.set_cons_succ, List.set_cons_zero]) | (refine DW.loud (by kernel_rfl) ?_; intro wd hI; have td1 := hI.at_ sB1; have td2 := hI.at_ sB2; have td3 := hI.at_ sB3; have td4 := hI.at_ sB4; skip; go_wp2_with (first | (go_at_call 16; refine (HC1.out _ (hkB.call hI)).mono ?_; rintro e w6 ⟨rfl, hb6⟩) | (go_at_call 25; refine (HC2.out _ (hkB.call hI)).mono ?_; rintro e w7 ⟨rfl, hb7⟩) | (go_at_call 18; refine (HR1.out _ (hkB.call hI)).mono ?_; rintro e w8 ⟨rfl, hb8⟩) | (go_at_call 28; refine (HR2.out _ (hkB.call hI)).mono ?_; rintro e w9 ⟨rfl, hb9⟩)); refine StepPost.loud _ rfl (by repeat (first | exact Kept.refl _ | assumption | (refine Kept.alloc ?_ _) | (refine Kept.setCell ?_ (by first | omega | (simp; omega) | simp) _) | refine Kept.drew ?_ | refine Kept.drewN ?_ _ | (apply Kept.call; rotate_left; assumption))) (fun hkL => ?_); have hkL := hI.call hkL; have hkB := hkB.call hkL; have sB1 := hkL.at_ sB1; have sB2 := hkL.at_ sB2; have sB3 := hkL.at_ sB3; have sB4 := hkL.at_ sB4; simp only [Act.put, List.setIfInBounds_toArray, List.set_cons_succ, List.set_cons_zero]))
      refine DW.nil ?_
      intro wd hI
      have hkd := hkB.call hI
      have td1 := hI.at_ sB1; have td2 := hI.at_ sB2; have td3 := hI.at_ sB3; have td4 := hI.at_ sB4
      go_wp2_with fail
      go_ret
      exact ⟨by first | rfl | exact ret_bool (by simp), KM.call hkd⟩
    · obtain ⟨WL, hW1, hW2⟩ := HWW.out rfl
      have HW1 := Lib.hid hW1
      have HW2 := Lib.hid hW2
      clear hW1 hW2 HWW
      go_wp2_with fail
      refine wp_region_dw keepsOne [0, 1, 2, 3, 5, 6, 7, 8, 4, 9, 10, 11] (fun wB => Kept wM wB ∧ wB.cell? ⟨w2.heap.size, 0, none⟩ = some (.slice (some ⟨a1, 0, none⟩) n1 d1) ∧ wB.cell? ⟨w2.heap.size, 1, none⟩ = some (.slice (some ⟨b1, 0, none⟩) n2 d2) ∧ wB.cell? ⟨w2.heap.size, 2, none⟩ = some (.slice (some ⟨g1, 0, none⟩) n3 d3) ∧ wB.cell? ⟨w.heap.size + 1, 0, none⟩ = some (.int .i64 p0)) ?_ (by kernel_rfl) (by kernel_rfl) _ (by (try simp only [List.append_eq, List.cons_append, List.nil_append, List.toList_toArray]); exact rfl) ?_
      · exact ⟨by repeat (first | exact Kept.refl _ | assumption | (refine Kept.alloc ?_ _) | (refine Kept.setCell ?_ (by first | omega | (simp; omega) | simp) _) | refine Kept.drew ?_ | refine Kept.drewN ?_ _ | (apply Kept.call; rotate_left; assumption)), by first | assumption | go_simp, by first | assumption | go_simp, by first | assumption | go_simp, by first | assumption | go_simp⟩
      rintro wB ⟨hkB, sB1, sB2, sB3, sB4⟩
      simp only [List.map_cons, List.map_nil, List.toList_toArray, List.getElem?_cons_zero, List.getElem?_cons_succ, Option.getD_some]
      repeat (first | (apply DW.det; (focus (intro wd hI; have td1 := hI.at_ sB1; have td2 := hI.at_ sB2; have td3 := hI.at_ sB3; have td4 := hI.at_ sB4; skip; go_wp2_with (first | (go_at_call 12; refine (HW1.out _ (hkB.call hI)).mono ?_; rintro e w6 ⟨A6, e6, m6, rfl, hi6, hb6⟩; have HI6 := Lib.hid hi6; clear hi6) | (go_at_call 27; refine (HW2.out _ (hkB.call hI)).mono ?_; rintro e w7 ⟨A7, e7, m7, rfl, hi7, hb7⟩; have HI7 := Lib.hid hi7; have HI67 := Lib.hid (HI6.out.keep (Kept.call hI hb7)); clear hi7) | (go_at_call 26; refine (psame_yes A6 A7 m6 m7 e6 e7 _ _ (HI67.out.keep hI) (HI7.out.keep hI)).mono ?_; rintro e w8 ⟨rfl, hb8⟩)); refine StepPost.mk _ rfl ⟨rfl, ?_⟩; repeat (first | exact Kept.refl _ | assumption | (refine Kept.alloc ?_ _) | (refine Kept.setCell ?_ (by first | omega | (simp; omega) | simp) _) | refine Kept.drew ?_ | refine Kept.drewN ?_ _ | (apply Kept.call; rotate_left; assumption)))); simp only [Act.put, List.setIfInBounds_toArray, List.set_cons_succ, List.set_cons_zero]) | (refine DW.loud (by kernel_rfl) ?_; intro wd hI; have td1 := hI.at_ sB1; have td2 := hI.at_ sB2; have td3 := hI.at_ sB3; have td4 := hI.at_ sB4; skip; go_wp2_with (first | (go_at_call 12; refine (HW1.out _ (hkB.call hI)).mono ?_; rintro e w6 ⟨A6, e6, m6, rfl, hi6, hb6⟩; have HI6 := Lib.hid hi6; clear hi6) | (go_at_call 27; refine (HW2.out _ (hkB.call hI)).mono ?_; rintro e w7 ⟨A7, e7, m7, rfl, hi7, hb7⟩; have HI7 := Lib.hid hi7; have HI67 := Lib.hid (HI6.out.keep (Kept.call hI hb7)); clear hi7) | (go_at_call 26; refine (psame_yes A6 A7 m6 m7 e6 e7 _ _ (HI67.out.keep hI) (HI7.out.keep hI)).mono ?_; rintro e w8 ⟨rfl, hb8⟩)); refine StepPost.loud _ rfl (by repeat (first | exact Kept.refl _ | assumption | (refine Kept.alloc ?_ _) | (refine Kept.setCell ?_ (by first | omega | (simp; omega) | simp) _) | refine Kept.drew ?_ | refine Kept.drewN ?_ _ | (apply Kept.call; rotate_left; assumption))) (fun hkL => ?_); have hkL := hI.call hkL; have hkB := hkB.call hkL; have sB1 := hkL.at_ sB1; have sB2 := hkL.at_ sB2; have sB3 := hkL.at_ sB3; have sB4 := hkL.at_ sB4; simp only [Act.put, List.setIfInBounds_toArray, List.set_cons_succ, List.set_cons_zero]))
      refine DW.nil ?_
      intro wd hI
      have hkd := hkB.call hI
      have td1 := hI.at_ sB1; have td2 := hI.at_ sB2; have td3 := hI.at_ sB3; have td4 := hI.at_ sB4
      clear HI6 HI7 HI67 hkB sB1 sB2 sB3 sB4 zb1 zb2 zb3 zb4
      obtain ⟨wz4, hwz⟩ : ∃ wz, wz = wd := ⟨_, rfl⟩
      subst hwz
      have kz4 := hkd
      have zc1 := td1
      have zc2 := td2
      have zc3 := td3
      have zc4 := td4
      clear hkd hI td1 td2 td3 td4
      go_wp2_with fail
      refine wp_region_text keepsOne (fun wB => Kept wM wB ∧ wB.cell? ⟨w2.heap.size, 0, none⟩ = some (.slice (some ⟨a1, 0, none⟩) n1 d1) ∧ wB.cell? ⟨w2.heap.size, 1, none⟩ = some (.slice (some ⟨b1, 0, none⟩) n2 d2) ∧ wB.cell? ⟨w2.heap.size, 2, none⟩ = some (.slice (some ⟨g1, 0, none⟩) n3 d3) ∧ wB.cell? ⟨w.heap.size + 1, 0, none⟩ = some (.int .i64 p0)) ?_ (by kernel_rfl) (by kernel_rfl) _ (by (try simp only [List.append_eq, List.cons_append, List.nil_append, List.toList_toArray]); exact rfl) ?_
      · exact ⟨by repeat (first | exact Kept.refl _ | assumption | (refine Kept.alloc ?_ _) | (refine Kept.setCell ?_ (by first | omega | (simp; omega) | simp) _) | refine Kept.drew ?_ | refine Kept.drewN ?_ _ | (apply Kept.call; rotate_left; assumption)), by first | assumption | go_simp, by first | assumption | go_simp, by first | assumption | go_simp, by first | assumption | go_simp⟩
      rintro wB ⟨hkB, sB1, sB2, sB3, sB4⟩
      repeat (first | (apply DW.det; (focus (intro wd hI; have td1 := hI.at_ sB1; have td2 := hI.at_ sB2; have td3 := hI.at_ sB3; have td4 := hI.at_ sB4; skip; go_wp2_with (first | (go_at_call 16; refine (HC1.out _ (hkB.call hI)).mono ?_; rintro e w6 ⟨rfl, hb6⟩) | (go_at_call 25; refine (HC2.out _ (hkB.call hI)).mono ?_; rintro e w7 ⟨rfl, hb7⟩) | (go_at_call 18; refine (HR1.out _ (hkB.call hI)).mono ?_; rintro e w8 ⟨rfl, hb8⟩) | (go_at_call 28; refine (HR2.out _ (hkB.call hI)).mono ?_; rintro e w9 ⟨rfl, hb9⟩)); refine StepPost.mk _ rfl ⟨rfl, ?_⟩; repeat (first | exact Kept.refl _ | assumption | (refine Kept.alloc ?_ _) | (refine Kept.setCell ?_ (by first | omega | (simp; omega) | simp) _) | refine Kept.drew ?_ | refine Kept.drewN ?_ _ | (apply Kept.call; rotate_left; assumption)))); simp only [Act.put, List.setIfInBounds_toArray, List.set_cons_succ, List.set_cons_zero]) | (refine DW.loud (by kernel_rfl) ?_; intro wd hI; have td1 := hI.at_ sB1; have td2 := hI.at_ sB2; have td3 := hI.at_ sB3; have td4 := hI.at_ sB4; skip; go_wp2_with (first | (go_at_call 16; refine (HC1.out _ (hkB.call hI)).mono ?_; rintro e w6 ⟨rfl, hb6⟩) | (go_at_call 25; refine (HC2.out _ (hkB.call hI)).mono ?_; rintro e w7 ⟨rfl, hb7⟩) | (go_at_call 18; refine (HR1.out _ (hkB.call hI)).mono ?_; rintro e w8 ⟨rfl, hb8⟩) | (go_at_call 28; refine (HR2.out _ (hkB.call hI)).mono ?_; rintro e w9 ⟨rfl, hb9⟩)); refine StepPost.loud _ rfl (by repeat (first | exact Kept.refl _ | assumption | (refine Kept.alloc ?_ _) | (refine Kept.setCell ?_ (by first | omega | (simp; omega) | simp) _) | refine Kept.drew ?_ | refine Kept.drewN ?_ _ | (apply Kept.call; rotate_left; assumption))) (fun hkL => ?_); have hkL := hI.call hkL; have hkB := hkB.call hkL; have sB1 := hkL.at_ sB1; have sB2 := hkL.at_ sB2; have sB3 := hkL.at_ sB3; have sB4 := hkL.at_ sB4; simp only [Act.put, List.setIfInBounds_toArray, List.set_cons_succ, List.set_cons_zero]))
      refine DW.nil ?_
      intro wd hI
      have hkd := hkB.call hI
      have td1 := hI.at_ sB1; have td2 := hI.at_ sB2; have td3 := hI.at_ sB3; have td4 := hI.at_ sB4
      go_wp2_with fail
      go_ret
      exact ⟨by first | rfl | exact ret_bool (by simp), KM.call hkd⟩
end Go.Proofs.Ytjmfdacokdffiaa
