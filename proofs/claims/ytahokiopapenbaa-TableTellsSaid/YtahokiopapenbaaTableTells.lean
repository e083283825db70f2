/- The law TableTells: rows are told as the document says. -/
import Derived.Test.YtahokiopapenbaaRgF
import Derived.Test.YtahokiopapenbaaTabW
set_option linter.unusedSimpArgs false
set_option linter.unusedVariables false
namespace Go.Proofs.Ytahokiopapenbaa
open Go.RowKit

theorem least_ex (P : Nat → Bool) : ∀ n, (∀ i, i < n → P i = false) ∨ ∃ i, i < n ∧ P i = true ∧ ∀ j, j < i → P j = false
  | 0 => .inl fun i h => by omega
  | n + 1 => by
    rcases least_ex P n with h | ⟨i, h1, h2, h3⟩
    · cases hp : P n
      · exact .inl fun i hi => by
          rcases Nat.lt_or_ge i n with g | g
          · exact h i g
          · obtain rfl : i = n := by omega
            exact hp
      · exact .inr ⟨n, by omega, hp, h⟩
    · exact .inr ⟨i, by omega, h2, h3⟩
theorem own_ex (rs : List Rg) (os : List Int) (n : Nat) (k : ByteArray) : ∃ o, OwnR rs os n k o := by
  cases h : fitB rs os n
  · exact ⟨0, .inl ⟨h, rfl⟩⟩
  · rcases least_ex (fun i => hasB (rg rs i).1 (rg rs i).2 k) rs.length with g | ⟨i, h1, h2, h3⟩
    · exact ⟨0, .inr ⟨h, -1, .inl ⟨rfl, g⟩, .inl ⟨rfl, rfl⟩⟩⟩
    · exact ⟨oa os i, .inr ⟨h, i, .inr ⟨i, rfl, h1, h2, h3⟩, .inr ⟨i, rfl, h1, rfl⟩⟩⟩
theorem firstB_ex (o : Int) : ∃ r, FirstB o r := by
  rcases least_ex (fun i => bitB o i) 6 with g | ⟨i, h1, h2, h3⟩
  · exact ⟨-1, .inl ⟨rfl, g⟩⟩
  · exact ⟨i, .inr ⟨i, rfl, h1, h2, h3⟩⟩
set_option maxRecDepth 20000 in
set_option maxHeartbeats 8000000 in
theorem tableTells_walk (A : Option Addr) (n1 c1 : Nat) (x : Nat → Rg) (B : Option Addr) (n2 c2 : Nat) (y : Nat → Int) (C : Option Addr) (n3 c3 : Nat) (z : Nat → Int) (key : ByteArray) (p q : Int) (w : World) (rx : RowAt w A n1 c1 2 (fun i => rgCells (x i))) (_rx2 : ∀ i, i < n1 → True) (ry : RowAt w B n2 c2 1 (fun i => [.int .i64 (y i)])) (_ry2 : ∀ i, i < n2 → (Lit.int .i64 (y i)).wf = true) (rz : RowAt w C n3 c3 1 (fun i => [.int .i64 (z i)])) (_rz2 : ∀ i, i < n3 → (Lit.int .i64 (z i)).wf = true) (_wk : key.size ≤ maxLen) (_wp : (Lit.int .i64 p).wf = true) (wq : (Lit.int .i64 q).wf = true) :
    Calls Try.prog 6 #[.agg #[.slice A n1 c1, .slice B n2 c2, .slice C n3 c3], .string key, .agg #[.int .i64 p, .int .i64 q]] w fun e w' => e = .returned (.bool true) ∧ Kept w w' := by
  have HX := Lib.hid (RowS.of_row rx)
  have HY := Lib.hid (IntsAt.of_row ry)
  have HZ := Lib.hid (IntsAt.of_row rz)
  have hq : q ≤ 9223372036854775807 := by
    have := wq
    simp [Lit.wf, IntKind.wrap] at this
    omega
  clear rx _rx2 ry _ry2 rz _rz2 _wk _wp wq
  generalize (List.range n1).map x = rs0 at *
  generalize (List.range n2).map y = os0 at *
  generalize (List.range n3).map z = ps0 at *
  go_enter Try.func6, Try.ntmps6
  go_wp2_with fail
  refine (awake_any _).mono ?_
  rintro e w1 ⟨rfl, k1_⟩
  have K1 : Kept w w1 := Kept.call (by repeat (first | exact Kept.refl _ | assumption | (refine Kept.alloc ?_ _) | (refine Kept.setCell ?_ (by first | omega | (simp; omega) | simp) _) | refine Kept.drew ?_ | refine Kept.drewN ?_ _ | (apply Kept.call; rotate_left; assumption))) k1_
  have hl1 := k1_.size
  simp only [World.size_alloc] at hl1
  have cs0 : w1.cell? ⟨w.heap.size, 0, none⟩ = some (.slice A n1 c1) := k1_.at_ (by go_simp)
  have cs1 : w1.cell? ⟨w.heap.size, 1, none⟩ = some (.slice B n2 c2) := k1_.at_ (by go_simp)
  have cs2 : w1.cell? ⟨w.heap.size, 2, none⟩ = some (.slice C n3 c3) := k1_.at_ (by go_simp)
  have cp0 : w1.cell? ⟨w.heap.size + 1, 0, none⟩ = some (.int .i64 p) := k1_.at_ (by go_simp)
  have cp1 : w1.cell? ⟨w.heap.size + 1, 1, none⟩ = some (.int .i64 q) := k1_.at_ (by go_simp)
  have z1 : ∀ o, w1.frozen? ⟨w.heap.size, o, none⟩ = false := fun o => by rw [k1_.frozen _ _ (by simp; omega)]; go_simp
  clear k1_
  go_wp2_with fail
  refine (few_any A B C n1 c1 n2 c2 n3 c3 rs0 os0 ps0 _ ⟨HX.out.keep K1, HY.out.keep K1, HZ.out.keep K1⟩).mono ?_
  rintro e w2 ⟨A1, m1, d1, k2, k3, rs, rfl, hrs, hnew, hk2, hk3, hsm, kk⟩
  have K2 : Kept w w2 := K1.call kk
  have cs0 := kk.at_ cs0
  have cs1 := kk.at_ cs1
  have cs2 := kk.at_ cs2
  have cp0 := kk.at_ cp0
  have cp1 := kk.at_ cp1
  have z2 : ∀ o, w2.frozen? ⟨w.heap.size, o, none⟩ = false := fun o => by rw [kk.frozen _ _ (by omega)]; exact z1 o
  have HRS := Lib.hid hrs
  have HNEW := Lib.hid hnew
  have HSM := Lib.hid hsm
  have hk3b : k3 ≤ 9223372036854775807 := by
    have h1 := HZ.out.2.1
    have h2 := HZ.out.2.2.1
    unfold maxLen at h2
    omega
  clear hrs hnew hsm z1 kk
  go_wp2_with fail
  obtain ⟨wM, hwM⟩ : ∃ wM, wM = ((w2.setCell ⟨w.heap.size, 0, none⟩ (.slice A1 m1 d1)).setCell ⟨w.heap.size, 1, none⟩ (.slice B k2 c2)).setCell ⟨w.heap.size, 2, none⟩ (.slice C k3 c3) := ⟨_, rfl⟩
  have KM : Kept w wM := by rw [hwM]; exact kset (Nat.le_refl _) (kset (Nat.le_refl _) (kset (Nat.le_refl _) K2))
  have y0 : wM.cell? ⟨w.heap.size, 0, none⟩ = some (.slice A1 m1 d1) := by rw [hwM]; go_simp
  have y1 : wM.cell? ⟨w.heap.size, 1, none⟩ = some (.slice B k2 c2) := by rw [hwM]; go_simp
  have y2 : wM.cell? ⟨w.heap.size, 2, none⟩ = some (.slice C k3 c3) := by rw [hwM]; go_simp
  have q0 : wM.cell? ⟨w.heap.size + 1, 0, none⟩ = some (.int .i64 p) := by rw [hwM]; go_simp
  have q1 : wM.cell? ⟨w.heap.size + 1, 1, none⟩ = some (.int .i64 q) := by rw [hwM]; go_simp
  have HRM : Hid (∃ os ps, RowW wM A1 m1 d1 B k2 c2 C k3 c3 rs os ps) := by
    obtain ⟨os, hos⟩ := ints_cut2 (HY.out.keep KM) hk2
    obtain ⟨ps, hps⟩ := ints_cut2 (HZ.out.keep KM) hk3
    refine ⟨os, ps, rowS_same HRS.out HNEW.out (fun g o hg => ?_), hos, hps⟩
    have hne : w.heap.size ≠ g := by omega
    rw [hwM]
    exact (cfar hne).trans ((cfar hne).trans (cfar hne))
  rw [← hwM]
  obtain ⟨os, ps, hrm⟩ := HRM.out
  clear hwM HRM HX HY HZ HRS HNEW cs0 cs1 cs2 cp0 cp1 z2 K1 K2
  have HRM := Lib.hid hrm
  obtain ⟨o, ho⟩ := own_ex rs os k3 key
  obtain ⟨r, hr⟩ := firstB_ex o
  obtain ⟨FB, hFB⟩ : ∃ b, fitB rs os k3 = b := ⟨_, rfl⟩
  obtain ⟨L, hL⟩ : ∃ L, rowF rs os k3 p = L := ⟨_, rfl⟩
  obtain ⟨M, hM⟩ : ∃ M, many q = M := ⟨_, rfl⟩
  obtain ⟨OB, hOB⟩ : ∃ b, bitB o p = b := ⟨_, rfl⟩
  have HC1 : Hid (∀ w9, Kept wM w9 → Calls Try.prog 14 #[.agg #[.slice A1 m1 d1, .slice B k2 c2, .slice C k3 c3]] w9 fun e w' => e = .returned (.bool FB) ∧ Kept w9 w') := fun w9 h9 => by rw [← hFB]; exact tcheck_g A1 B C m1 d1 k2 c2 k3 c3 rs os ps w9 (HRM.out.keep h9) HSM.out
  have HC2 : Hid (∀ w9, Kept wM w9 → Calls Try.prog 22 #[.agg #[.slice A1 m1 d1, .slice B k2 c2, .slice C k3 c3]] w9 fun e w' => e = .returned (.bool FB) ∧ Kept w9 w') := fun w9 h9 => by rw [← hFB]; exact r7check_g A1 B C m1 d1 k2 c2 k3 c3 rs os ps w9 (HRM.out.keep h9) HSM.out
  have HO1 : Hid (∀ w9, Kept wM w9 → Calls Try.prog 17 #[.agg #[.slice A1 m1 d1, .slice B k2 c2, .slice C k3 c3], .string key] w9 fun e w' => e = .returned (.int .i64 o) ∧ Kept w9 w') := fun w9 h9 => (towners_g A1 B C m1 d1 k2 c2 k3 c3 rs os ps key w9 (HRM.out.keep h9) HSM.out).mono fun e w' ⟨o', h1, h2, h3⟩ => ⟨by rw [h1, h2.one ho], h3⟩
  have HO2 : Hid (∀ w9, Kept wM w9 → Calls Try.prog 24 #[.agg #[.slice A1 m1 d1, .slice B k2 c2, .slice C k3 c3], .string key] w9 fun e w' => e = .returned (.int .i64 o) ∧ Kept w9 w') := fun w9 h9 => (rowners_g A1 B C m1 d1 k2 c2 k3 c3 rs os ps key w9 (HRM.out.keep h9) HSM.out).mono fun e w' ⟨o', h1, h2, h3⟩ => ⟨by rw [h1, h2.one ho], h3⟩
  have HW1 : Hid (∀ w9, Kept wM w9 → Calls Try.prog 13 #[.agg #[.slice A1 m1 d1, .slice B k2 c2, .slice C k3 c3], .int .i64 p, .string key] w9 fun e w' => e = .returned (.bool OB) ∧ Kept w9 w') := fun w9 h9 => (towns_g A1 B C m1 d1 k2 c2 k3 c3 rs os ps p key w9 (HRM.out.keep h9) HSM.out).mono fun e w' ⟨o', h1, h2, h3⟩ => ⟨by rw [h1, h2.one ho, hOB], h3⟩
  have HW2 : Hid (∀ w9, Kept wM w9 → Calls Try.prog 25 #[.agg #[.slice A1 m1 d1, .slice B k2 c2, .slice C k3 c3], .int .i64 p, .string key] w9 fun e w' => e = .returned (.bool OB) ∧ Kept w9 w') := fun w9 h9 => (rowns_g A1 B C m1 d1 k2 c2 k3 c3 rs os ps p key w9 (HRM.out.keep h9) HSM.out).mono fun e w' ⟨b', h1, h2, h3⟩ => ⟨by rw [h1, h2.out o ho, hOB], h3⟩
  have HF1 : Hid (∀ w9, Kept wM w9 → Calls Try.prog 16 #[.agg #[.slice A1 m1 d1, .slice B k2 c2, .slice C k3 c3], .string key] w9 fun e w' => e = .returned (.int .i64 r) ∧ Kept w9 w') := fun w9 h9 => (tfirst_g A1 B C m1 d1 k2 c2 k3 c3 rs os ps key w9 (HRM.out.keep h9) HSM.out).mono fun e w' ⟨o', r', h1, h2, h3, h4⟩ => ⟨by rw [h2.one ho] at h3; rw [h1, firstB_one h3 hr], h4⟩
  have HF2 : Hid (∀ w9, Kept wM w9 → Calls Try.prog 26 #[.agg #[.slice A1 m1 d1, .slice B k2 c2, .slice C k3 c3], .string key] w9 fun e w' => e = .returned (.int .i64 r) ∧ Kept w9 w') := fun w9 h9 => (rfirst_g A1 B C m1 d1 k2 c2 k3 c3 rs os ps key w9 (HRM.out.keep h9) HSM.out).mono fun e w' ⟨r', h1, h2, h3⟩ => ⟨by rw [h1, firstB_one (h2.out o ho) hr], h3⟩
  have HM1 : Hid (∀ w9, Calls Try.prog 10 #[.int .i64 q] w9 fun e w' => e = .returned (.int .i64 (M : Nat)) ∧ Kept w9 w') := fun w9 => by rw [← hM]; exact tmany_g q w9 hq
  have HM2 : Hid (∀ w9, Calls Try.prog 27 #[.int .i64 q] w9 fun e w' => e = .returned (.int .i64 (M : Nat)) ∧ Kept w9 w') := fun w9 => by rw [← hM]; exact rmany_g q w9 hq
  have HG1 : Hid (∀ w9, Kept wM w9 → Calls Try.prog 20 #[.agg #[.slice A1 m1 d1, .slice B k2 c2, .slice C k3 c3], .int .i64 p] w9 fun e w' => ∃ D c4, e = .returned (.slice D L.length c4) ∧ RowS w' D L.length c4 L ∧ Kept w9 w') := fun w9 h9 => by rw [← hL]; exact tranges_g A1 B C m1 d1 k2 c2 k3 c3 rs os ps p w9 (HRM.out.keep h9) HSM.out
  have HG2 : Hid (∀ w9, Kept wM w9 → Calls Try.prog 21 #[.agg #[.slice A1 m1 d1, .slice B k2 c2, .slice C k3 c3], .int .i64 p] w9 fun e w' => ∃ D c4, e = .returned (.slice D L.length c4) ∧ RowS w' D L.length c4 L ∧ Kept w9 w') := fun w9 h9 => by rw [← hL]; exact rranges_g A1 B C m1 d1 k2 c2 k3 c3 rs os ps p w9 (HRM.out.keep h9) HSM.out
  have HSI := Lib.hid (fun w9 => sites_any (.slice A1 m1 d1) (.slice B k2 c2) C k3 c3 w9 hk3b ⟨_, _, _, rfl⟩ ⟨_, _, _, rfl⟩)
  have hk3c : k3 ≤ c3 ∧ c3 ≤ 9223372036854775807 := by
    have h1 := hrm.ps.2.1
    have h2 := hrm.ps.2.2.1
    unfold maxLen at h2
    omega
  generalize L.length = N at *
  clear hrm HRM HSM ho hr hFB hL hM hOB hk2 hk3
  go_wp2_with fail
  refine wp_region_dw keepsOne [0, 1, 2, 4, 5, 6, 3, 7, 8, 9] (fun wB => Kept wM wB ∧ wB.cell? ⟨w.heap.size, 0, none⟩ = some (.slice A1 m1 d1) ∧ wB.cell? ⟨w.heap.size, 1, none⟩ = some (.slice B k2 c2) ∧ wB.cell? ⟨w.heap.size, 2, none⟩ = some (.slice C k3 c3) ∧ wB.cell? ⟨w.heap.size + 1, 0, none⟩ = some (.int .i64 p) ∧ wB.cell? ⟨w.heap.size + 1, 1, none⟩ = some (.int .i64 q)) ?_ (by kernel_rfl) (by kernel_rfl) _ (by (try simp only [List.append_eq, List.cons_append, List.nil_append, List.toList_toArray]); exact rfl) ?_
  · exact ⟨by repeat (first | exact Kept.refl _ | assumption | (refine Kept.alloc ?_ _) | (refine Kept.setCell ?_ (by first | omega | (simp; omega) | simp) _) | refine Kept.drew ?_ | refine Kept.drewN ?_ _ | (apply Kept.call; rotate_left; assumption)), by first | assumption | go_simp, by first | assumption | go_simp, by first | assumption | go_simp, by first | assumption | go_simp, by first | assumption | go_simp⟩
  rintro wB ⟨hkB, sB1, sB2, sB3, sB4, sB5⟩
  simp only [List.map_cons, List.map_nil, List.toList_toArray, List.getElem?_cons_zero, List.getElem?_cons_succ, Option.getD_some]
  repeat (first | (apply DW.det; (focus (intro wd hI; have td1 := hI.at_ sB1; have td2 := hI.at_ sB2; have td3 := hI.at_ sB3; have td4 := hI.at_ sB4; have td5 := hI.at_ sB5; skip; go_wp2_with (first | (go_at_call 20; refine (HG1.out _ (hkB.call hI)).mono ?_; rintro e w6 ⟨A6, e6, rfl, hi6, hb6⟩; have HI6 := Lib.hid hi6; clear hi6) | (go_at_call 21; refine (HG2.out _ (hkB.call hI)).mono ?_; rintro e w7 ⟨A7, e7, rfl, hi7, hb7⟩; have HI7 := Lib.hid hi7; have HI67 := Lib.hid (HI6.out.keep (Kept.call hI hb7)); clear hi7) | (go_at_call 19; refine (samerg_any A6 A7 _ _ e6 e7 _ _ _ (HI67.out.keep hI) (HI7.out.keep hI)).mono ?_; rintro e w8 ⟨rfl, hb8⟩)); refine StepPost.mk _ rfl ⟨rfl, ?_⟩; repeat (first | exact Kept.refl _ | assumption | (refine Kept.alloc ?_ _) | (refine Kept.setCell ?_ (by first | omega | (simp; omega) | simp) _) | refine Kept.drew ?_ | refine Kept.drewN ?_ _ | (apply Kept.call; rotate_left; assumption)))); simp only [Act.put, List.setIfInBounds_toArray, List.set_cons_succ, List.set_cons_zero]) | (refine DW.loud (by kernel_rfl) ?_; intro wd hI; have td1 := hI.at_ sB1; have td2 := hI.at_ sB2; have td3 := hI.at_ sB3; have td4 := hI.at_ sB4; have td5 := hI.at_ sB5; skip; go_wp2_with (first | (go_at_call 20; refine (HG1.out _ (hkB.call hI)).mono ?_; rintro e w6 ⟨A6, e6, rfl, hi6, hb6⟩; have HI6 := Lib.hid hi6; clear hi6) | (go_at_call 21; refine (HG2.out _ (hkB.call hI)).mono ?_; rintro e w7 ⟨A7, e7, rfl, hi7, hb7⟩; have HI7 := Lib.hid hi7; have HI67 := Lib.hid (HI6.out.keep (Kept.call hI hb7)); clear hi7) | (go_at_call 19; refine (samerg_any A6 A7 _ _ e6 e7 _ _ _ (HI67.out.keep hI) (HI7.out.keep hI)).mono ?_; rintro e w8 ⟨rfl, hb8⟩)); refine StepPost.loud _ rfl (by repeat (first | exact Kept.refl _ | assumption | (refine Kept.alloc ?_ _) | (refine Kept.setCell ?_ (by first | omega | (simp; omega) | simp) _) | refine Kept.drew ?_ | refine Kept.drewN ?_ _ | (apply Kept.call; rotate_left; assumption))) (fun hkL => ?_); have hkL := hI.call hkL; have hkB := hkB.call hkL; have sB1 := hkL.at_ sB1; have sB2 := hkL.at_ sB2; have sB3 := hkL.at_ sB3; have sB4 := hkL.at_ sB4; have sB5 := hkL.at_ sB5; simp only [Act.put, List.setIfInBounds_toArray, List.set_cons_succ, List.set_cons_zero]))
  refine DW.nil ?_
  intro wd hI
  have hkd := hkB.call hI
  have td1 := hI.at_ sB1; have td2 := hI.at_ sB2; have td3 := hI.at_ sB3; have td4 := hI.at_ sB4; have td5 := hI.at_ sB5
  clear HI6 HI7 HI67 hkB sB1 sB2 sB3 sB4 sB5
  obtain ⟨wz1, hwz⟩ : ∃ wz, wz = wd := ⟨_, rfl⟩
  subst hwz
  have kz1 := hkd
  have za1 := td1
  have za2 := td2
  have za3 := td3
  have za4 := td4
  have za5 := td5
  clear hkd hI td1 td2 td3 td4 td5
  have hLL : decide (L = L) = true := by simp
  go_wp2_with fail
  refine wp_region_text keepsOne (fun wB => Kept wM wB ∧ wB.cell? ⟨w.heap.size, 0, none⟩ = some (.slice A1 m1 d1) ∧ wB.cell? ⟨w.heap.size, 1, none⟩ = some (.slice B k2 c2) ∧ wB.cell? ⟨w.heap.size, 2, none⟩ = some (.slice C k3 c3) ∧ wB.cell? ⟨w.heap.size + 1, 0, none⟩ = some (.int .i64 p) ∧ wB.cell? ⟨w.heap.size + 1, 1, none⟩ = some (.int .i64 q)) ?_ (by kernel_rfl) (by kernel_rfl) _ (by (try simp only [List.append_eq, List.cons_append, List.nil_append, List.toList_toArray]); exact rfl) ?_
  · exact ⟨by repeat (first | exact Kept.refl _ | assumption | (refine Kept.alloc ?_ _) | (refine Kept.setCell ?_ (by first | omega | (simp; omega) | simp) _) | refine Kept.drew ?_ | refine Kept.drewN ?_ _ | (apply Kept.call; rotate_left; assumption)), by first | assumption | go_simp, by first | assumption | go_simp, by first | assumption | go_simp, by first | assumption | go_simp, by first | assumption | go_simp⟩
  rintro wB ⟨hkB, sB1, sB2, sB3, sB4, sB5⟩
  repeat (first | (apply DW.det; (focus (intro wd hI; have td1 := hI.at_ sB1; have td2 := hI.at_ sB2; have td3 := hI.at_ sB3; have td4 := hI.at_ sB4; have td5 := hI.at_ sB5; skip; go_wp2_with (first | (go_at_call 14; refine (HC1.out _ (hkB.call hI)).mono ?_; rintro e w6 ⟨rfl, hb6⟩) | (go_at_call 22; refine (HC2.out _ (hkB.call hI)).mono ?_; rintro e w7 ⟨rfl, hb7⟩) | (go_at_call 23; refine (HSI.out _).mono ?_; rintro e w8 ⟨rfl, hb8⟩) | (go_at_call 17; refine (HO1.out _ (hkB.call hI)).mono ?_; rintro e w9 ⟨rfl, hb9⟩) | (go_at_call 24; refine (HO2.out _ (hkB.call hI)).mono ?_; rintro e w10 ⟨rfl, hb10⟩) | (go_at_call 13; refine (HW1.out _ (hkB.call hI)).mono ?_; rintro e w11 ⟨rfl, hb11⟩) | (go_at_call 25; refine (HW2.out _ (hkB.call hI)).mono ?_; rintro e w12 ⟨rfl, hb12⟩) | (go_at_call 16; refine (HF1.out _ (hkB.call hI)).mono ?_; rintro e w13 ⟨rfl, hb13⟩) | (go_at_call 26; refine (HF2.out _ (hkB.call hI)).mono ?_; rintro e w14 ⟨rfl, hb14⟩) | (go_at_call 10; refine (HM1.out _).mono ?_; rintro e w15 ⟨rfl, hb15⟩) | (go_at_call 27; refine (HM2.out _).mono ?_; rintro e w16 ⟨rfl, hb16⟩)); refine StepPost.mk _ rfl ⟨rfl, ?_⟩; repeat (first | exact Kept.refl _ | assumption | (refine Kept.alloc ?_ _) | (refine Kept.setCell ?_ (by first | omega | (simp; omega) | simp) _) | refine Kept.drew ?_ | refine Kept.drewN ?_ _ | (apply Kept.call; rotate_left; assumption)))); simp only [Act.put, List.setIfInBounds_toArray, List.set_cons_succ, List.set_cons_zero]) | (refine DW.loud (by kernel_rfl) ?_; intro wd hI; have td1 := hI.at_ sB1; have td2 := hI.at_ sB2; have td3 := hI.at_ sB3; have td4 := hI.at_ sB4; have td5 := hI.at_ sB5; skip; go_wp2_with (first | (go_at_call 14; refine (HC1.out _ (hkB.call hI)).mono ?_; rintro e w6 ⟨rfl, hb6⟩) | (go_at_call 22; refine (HC2.out _ (hkB.call hI)).mono ?_; rintro e w7 ⟨rfl, hb7⟩) | (go_at_call 23; refine (HSI.out _).mono ?_; rintro e w8 ⟨rfl, hb8⟩) | (go_at_call 17; refine (HO1.out _ (hkB.call hI)).mono ?_; rintro e w9 ⟨rfl, hb9⟩) | (go_at_call 24; refine (HO2.out _ (hkB.call hI)).mono ?_; rintro e w10 ⟨rfl, hb10⟩) | (go_at_call 13; refine (HW1.out _ (hkB.call hI)).mono ?_; rintro e w11 ⟨rfl, hb11⟩) | (go_at_call 25; refine (HW2.out _ (hkB.call hI)).mono ?_; rintro e w12 ⟨rfl, hb12⟩) | (go_at_call 16; refine (HF1.out _ (hkB.call hI)).mono ?_; rintro e w13 ⟨rfl, hb13⟩) | (go_at_call 26; refine (HF2.out _ (hkB.call hI)).mono ?_; rintro e w14 ⟨rfl, hb14⟩) | (go_at_call 10; refine (HM1.out _).mono ?_; rintro e w15 ⟨rfl, hb15⟩) | (go_at_call 27; refine (HM2.out _).mono ?_; rintro e w16 ⟨rfl, hb16⟩)); refine StepPost.loud _ rfl (by repeat (first | exact Kept.refl _ | assumption | (refine Kept.alloc ?_ _) | (refine Kept.setCell ?_ (by first | omega | (simp; omega) | simp) _) | refine Kept.drew ?_ | refine Kept.drewN ?_ _ | (apply Kept.call; rotate_left; assumption))) (fun hkL => ?_); have hkL := hI.call hkL; have hkB := hkB.call hkL; have sB1 := hkL.at_ sB1; have sB2 := hkL.at_ sB2; have sB3 := hkL.at_ sB3; have sB4 := hkL.at_ sB4; have sB5 := hkL.at_ sB5; simp only [Act.put, List.setIfInBounds_toArray, List.set_cons_succ, List.set_cons_zero]))
  refine DW.nil ?_
  intro wd hI
  have hkd := hkB.call hI
  have td1 := hI.at_ sB1; have td2 := hI.at_ sB2; have td3 := hI.at_ sB3; have td4 := hI.at_ sB4; have td5 := hI.at_ sB5
  go_wp2_with fail
  go_ret
  exact ⟨by first | rfl | exact ret_bool (by simp), KM.call hkd⟩
end Go.Proofs.Ytahokiopapenbaa
