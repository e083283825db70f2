/- The net's functions where there is no session; Takes; Idle. -/
import Derived.Test.YtbofoafcglmboaaNetA
set_option linter.unusedSimpArgs false
set_option linter.unusedVariables false
namespace Go.Proofs.Ytbofoafcglmboaa
open Go.RowKit Go.Maps

theorem nsend_none (p : Option Addr) (a c : Int) (d : ByteArray) (w : World) (h : ∀ w2, Kept w w2 → Calls Try.prog 21 #[.pointer p, .int .i64 a, .int .i64 c] w2 fun e w' => e = .returned (.pointer none) ∧ Kept w2 w') :
    Calls Try.prog 11 #[.pointer p, .int .i64 a, .int .i64 c, .string d] w fun e w' => e = .returned (.int .i64 1) ∧ Kept w w' := by
  have HH := Lib.hid h
  clear h
  go_enter Try.func11, Try.ntmps11
  go_wp2_with (first | (go_at_call 21; refine (HH.out _ (by first | exact Kept.refl _ | assumption)).mono ?_; rintro e w1 ⟨rfl, hb1⟩))
  go_ret
  exact ⟨rfl, by repeat (first | exact Kept.refl _ | assumption | (refine Kept.alloc ?_ _) | (refine Kept.setCell ?_ (by first | omega | (simp; omega) | simp) _) | refine Kept.drew ?_ | refine Kept.drewN ?_ _ | (apply Kept.call; rotate_left; assumption))⟩
theorem nagain_none (p : Option Addr) (a c : Int) (w : World) (h : ∀ w2, Kept w w2 → Calls Try.prog 21 #[.pointer p, .int .i64 a, .int .i64 c] w2 fun e w' => e = .returned (.pointer none) ∧ Kept w2 w') :
    Calls Try.prog 12 #[.pointer p, .int .i64 a, .int .i64 c] w fun e w' => e = .returned (.int .i64 0) ∧ Kept w w' := by
  have HH := Lib.hid h
  clear h
  go_enter Try.func12, Try.ntmps12
  go_wp2_with (first | (go_at_call 21; refine (HH.out _ (by first | exact Kept.refl _ | assumption)).mono ?_; rintro e w1 ⟨rfl, hb1⟩))
  go_ret
  exact ⟨rfl, by repeat (first | exact Kept.refl _ | assumption | (refine Kept.alloc ?_ _) | (refine Kept.setCell ?_ (by first | omega | (simp; omega) | simp) _) | refine Kept.drew ?_ | refine Kept.drewN ?_ _ | (apply Kept.call; rotate_left; assumption))⟩
theorem nopen_none (p : Option Addr) (a c : Int) (w : World) (h : ∀ w2, Kept w w2 → Calls Try.prog 21 #[.pointer p, .int .i64 a, .int .i64 c] w2 fun e w' => e = .returned (.pointer none) ∧ Kept w2 w') :
    Calls Try.prog 14 #[.pointer p, .int .i64 a, .int .i64 c] w fun e w' => e = .returned (.int .i64 0) ∧ Kept w w' := by
  have HH := Lib.hid h
  clear h
  go_enter Try.func14, Try.ntmps14
  go_wp2_with (first | (go_at_call 21; refine (HH.out _ (by first | exact Kept.refl _ | assumption)).mono ?_; rintro e w1 ⟨rfl, hb1⟩))
  go_ret
  exact ⟨rfl, by repeat (first | exact Kept.refl _ | assumption | (refine Kept.alloc ?_ _) | (refine Kept.setCell ?_ (by first | omega | (simp; omega) | simp) _) | refine Kept.drew ?_ | refine Kept.drewN ?_ _ | (apply Kept.call; rotate_left; assumption))⟩
theorem nflying_none (p : Option Addr) (a c : Int) (w : World) (h : ∀ w2, Kept w w2 → Calls Try.prog 21 #[.pointer p, .int .i64 a, .int .i64 c] w2 fun e w' => e = .returned (.pointer none) ∧ Kept w2 w') :
    Calls Try.prog 15 #[.pointer p, .int .i64 a, .int .i64 c] w fun e w' => e = .returned (.slice none 0 0) ∧ Kept w w' := by
  have HH := Lib.hid h
  clear h
  go_enter Try.func15, Try.ntmps15
  go_wp2_with (first | (go_at_call 21; refine (HH.out _ (by first | exact Kept.refl _ | assumption)).mono ?_; rintro e w1 ⟨rfl, hb1⟩))
  go_ret
  exact ⟨rfl, by repeat (first | exact Kept.refl _ | assumption | (refine Kept.alloc ?_ _) | (refine Kept.setCell ?_ (by first | omega | (simp; omega) | simp) _) | refine Kept.drew ?_ | refine Kept.drewN ?_ _ | (apply Kept.call; rotate_left; assumption))⟩
theorem npick_none (p : Option Addr) (a c at_ how : Int) (w : World) (h : ∀ w2, Kept w w2 → Calls Try.prog 21 #[.pointer p, .int .i64 a, .int .i64 c] w2 fun e w' => e = .returned (.pointer none) ∧ Kept w2 w') :
    Calls Try.prog 13 #[.pointer p, .int .i64 a, .int .i64 c, .int .i64 at_, .int .i64 how] w fun e w' => e = .returned (.tuple #[.string ⟨#[]⟩, .bool false]) ∧ Kept w w' := by
  have HH := Lib.hid h
  clear h
  go_enter Try.func13, Try.ntmps13
  go_wp2_with (first | (go_at_call 21; refine (HH.out _ (by first | exact Kept.refl _ | assumption)).mono ?_; rintro e w1 ⟨rfl, hb1⟩))
  go_ret2
  exact ⟨rfl, by repeat (first | exact Kept.refl _ | assumption | (refine Kept.alloc ?_ _) | (refine Kept.setCell ?_ (by first | omega | (simp; omega) | simp) _) | refine Kept.drew ?_ | refine Kept.drewN ?_ _ | (apply Kept.call; rotate_left; assumption))⟩
theorem nidle_nil (w : World) :
    Calls Try.prog 16 #[.pointer none] w fun e w' => e = .returned (.bool false) ∧ Kept w w' := by
  go_enter Try.func16, Try.ntmps16
  go_wp2
  go_ret
  exact ⟨rfl, by repeat (first | exact Kept.refl _ | assumption | (refine Kept.alloc ?_ _) | (refine Kept.setCell ?_ (by first | omega | (simp; omega) | simp) _) | refine Kept.drew ?_ | refine Kept.drewN ?_ _ | (apply Kept.call; rotate_left; assumption))⟩
theorem ntakes_no (N M n a c s lo : Nat) (F : List Nat) (S : Who) (T : List ByteArray) (way : List Nat) (at_ : Int) (w : World) (hN : NetAt w N M) (hM : PM w M n S) (ha : a < 6) (hc : c < 6) (hs : S a c = some s) (h : Sess w F s T lo way) (hw : way.length ≤ 4294967296) (ho : at_ < 0 ∨ (way.length : Int) ≤ at_) :
    Calls Try.prog 17 #[.pointer (some ⟨N, 0, none⟩), .int .i64 a, .int .i64 c, .int .i64 at_] w fun e w' => e = .returned (.tuple #[.string ⟨#[]⟩, .bool false]) ∧ Kept w w' := by
  obtain ⟨sb, rb, Go, Gw, v, h1, h2, h3, h4, h5, h6, h7, h8', h9⟩ := h
  obtain ⟨c0, c1, c2, _⟩ := three_cells h4
  have HN := Lib.hid hN
  have HM := Lib.hid hM
  have HS := Lib.hid hs
  obtain ⟨A0, cp0, rfl⟩ := h7.form
  have hd : decide (at_ < 0) = true ∨ (decide (at_ < 0) = false ∧ decide ((way.length : Int) ≤ at_) = true) := by
    by_cases h0 : at_ < 0
    · exact .inl (decide_eq_true h0)
    · exact .inr ⟨decide_eq_false h0, decide_eq_true (by omega)⟩
  clear hN hM hs h1 h2 h3 h4 h5 h6 h7 h9 ho
  rcases hd with hd | ⟨hd, hd2⟩
  all_goals
    (go_enter Try.func17, Try.ntmps17
     go_wp2_with fail
     refine (of_any N M n a c S _ HN.out HM.out ha hc).mono ?_
     rintro e w1 ⟨rfl, k1⟩
     rw [HS.out]
     have c2 := k1.at_ c2
     unfold ptr
     go_wp2_with fail
     refine wp_region_text keepsOne (fun wB => Kept w1 wB ∧ wB.cell? ⟨s, 2, none⟩ = some (.slice A0 way.length cp0)) ?_ (by kernel_rfl) (by kernel_rfl) _ (by (try simp only [List.append_eq, List.cons_append, List.nil_append, List.toList_toArray]); exact rfl) ?_
     · exact ⟨by repeat (first | exact Kept.refl _ | assumption | (refine Kept.alloc ?_ _) | (refine Kept.setCell ?_ (by first | omega | (simp; omega) | simp) _) | refine Kept.drew ?_ | refine Kept.drewN ?_ _ | (apply Kept.call; rotate_left; assumption)), by first | assumption | go_simp⟩
     rintro wB ⟨hkB, sB1⟩
     repeat (first | (apply DW.det; (focus (intro wd hI; have td1 := hI.at_ sB1; skip; go_wp2_with (fail); refine StepPost.mk _ rfl ⟨rfl, ?_⟩; repeat (first | exact Kept.refl _ | assumption | (refine Kept.alloc ?_ _) | (refine Kept.setCell ?_ (by first | omega | (simp; omega) | simp) _) | refine Kept.drew ?_ | refine Kept.drewN ?_ _ | (apply Kept.call; rotate_left; assumption)))); simp only [Act.put, List.setIfInBounds_toArray, List.set_cons_succ, List.set_cons_zero]) | (refine DW.loud (by kernel_rfl) ?_; intro wd hI; have td1 := hI.at_ sB1; skip; go_wp2_with (fail); refine StepPost.loud _ rfl (by repeat (first | exact Kept.refl _ | assumption | (refine Kept.alloc ?_ _) | (refine Kept.setCell ?_ (by first | omega | (simp; omega) | simp) _) | refine Kept.drew ?_ | refine Kept.drewN ?_ _ | (apply Kept.call; rotate_left; assumption))) (fun hkL => ?_); have hkL := hI.call hkL; have hkB := hkB.call hkL; have sB1 := hkL.at_ sB1; simp only [Act.put, List.setIfInBounds_toArray, List.set_cons_succ, List.set_cons_zero]))
     refine DW.nil ?_
     intro wd hI
     have hkd := hkB.call hI
     have td1 := hI.at_ sB1
     go_wp2_with fail
     go_ret2
     exact ⟨rfl, k1.call hkd⟩)
set_option maxRecDepth 20000 in
theorem ntakes_at (N M n a c s lo at_ q : Nat) (F : List Nat) (S : Who) (T : List ByteArray) (way : List Nat) (w : World) (hN : NetAt w N M) (hM : PM w M n S) (ha : a < 6) (hc : c < 6) (hs : S a c = some s) (h : Sess w F s T lo way) (hw : way.length ≤ 4294967296) (hq : way[at_]? = some q) :
    Calls Try.prog 17 #[.pointer (some ⟨N, 0, none⟩), .int .i64 a, .int .i64 c, .int .i64 at_] w fun e w' => e = .returned (.tuple (if q = lo then #[.string (tx T q), .bool true] else #[.string ⟨#[]⟩, .bool false])) ∧ Kept w w' := by
  obtain ⟨sb, rb, Go, Gw, v, h1, h2, h3, h4, h5, h6, h7, h8', h9⟩ := h
  obtain ⟨c0, c1, c2, _⟩ := three_cells h4
  have HN := Lib.hid hN
  have HM := Lib.hid hM
  have HS := Lib.hid hs
  have H6 := Lib.hid h6
  obtain ⟨A0, cp0, rfl⟩ := h7.form
  have hatl : at_ < way.length := (List.getElem?_eq_some_iff.1 hq).1
  obtain ⟨hw1, hw2⟩ := wayC_at T way at_ q hq
  obtain ⟨b, off, eA, eG, hnc, hcm, hcell⟩ := h7.cells (by omega)
  subst eA
  have z1 : w.cell? ⟨b, off + at_ * 2, none⟩ = some (.int .i64 (q : Int)) := hcell _ _ hw1
  have z2 : w.cell? ⟨b, off + at_ * 2 + 1, none⟩ = some (.string (tx T q)) := by have := hcell _ _ hw2; rwa [← Nat.add_assoc] at this
  unfold maxLen at hcm
  have hd0 : decide ((at_ : Int) < 0) = false := by first | (simp; done) | (simp; omega)
  have hd1 : decide ((way.length : Int) ≤ (at_ : Int)) = false := by first | (simp; done) | (simp; omega)
  have hd1n : decide (way.length ≤ at_) = false := by simp; omega
  have hd2 : ((q : Int) = (lo : Int)) ↔ q = lo := by omega
  clear hN hM hs h1 h2 h3 h4 h5 h6 h7 h9 hq hw1 hw2 hcell eG
  by_cases hql : q = lo
  · subst hql
    rw [if_pos rfl]
    clear hd2
    go_enter Try.func17, Try.ntmps17
    go_wp2_with fail
    refine (of_any N M n a c S _ HN.out HM.out ha hc).mono ?_
    rintro e w1 ⟨rfl, k1⟩
    rw [HS.out]
    have c1 := k1.at_ c1
    have c2 := k1.at_ c2
    have z1 := k1.at_ z1
    have z2 := k1.at_ z2
    unfold ptr
    go_wp2_with fail
    refine wp_region_text keepsOne (fun wB => Kept w1 wB ∧ wB.cell? ⟨s, 1, none⟩ = some (.pointer (some ⟨rb, 0, none⟩)) ∧ wB.cell? ⟨s, 2, none⟩ = some (.slice (some ⟨b, off, none⟩) way.length cp0) ∧ wB.cell? ⟨b, off + at_ * 2, none⟩ = some (.int .i64 q) ∧ wB.cell? ⟨b, off + at_ * 2 + 1, none⟩ = some (.string (tx T q))) ?_ (by kernel_rfl) (by kernel_rfl) _ (by (try simp only [List.append_eq, List.cons_append, List.nil_append, List.toList_toArray]); exact rfl) ?_
    · exact ⟨by repeat (first | exact Kept.refl _ | assumption | (refine Kept.alloc ?_ _) | (refine Kept.setCell ?_ (by first | omega | (simp; omega) | simp) _) | refine Kept.drew ?_ | refine Kept.drewN ?_ _ | (apply Kept.call; rotate_left; assumption)), by first | assumption | go_simp, by first | assumption | go_simp, by first | assumption | go_simp, by first | assumption | go_simp⟩
    rintro wB ⟨hkB, sB1, sB2, sB3, sB4⟩
    repeat (first | (apply DW.det; (focus (intro wd hI; have td1 := hI.at_ sB1; have td2 := hI.at_ sB2; have td3 := hI.at_ sB3; have td4 := hI.at_ sB4; skip; go_wp2_with (first | (go_at_call 26; refine (waits_any rb q _ (H6.out.kept (k1.call (hkB.call hI)))).mono ?_; rintro e w5 ⟨rfl, hb5⟩)); refine StepPost.mk _ rfl ⟨rfl, ?_⟩; repeat (first | exact Kept.refl _ | assumption | (refine Kept.alloc ?_ _) | (refine Kept.setCell ?_ (by first | omega | (simp; omega) | simp) _) | refine Kept.drew ?_ | refine Kept.drewN ?_ _ | (apply Kept.call; rotate_left; assumption)))); simp only [Act.put, List.setIfInBounds_toArray, List.set_cons_succ, List.set_cons_zero]) | (refine DW.loud (by kernel_rfl) ?_; intro wd hI; have td1 := hI.at_ sB1; have td2 := hI.at_ sB2; have td3 := hI.at_ sB3; have td4 := hI.at_ sB4; skip; go_wp2_with (first | (go_at_call 26; refine (waits_any rb q _ (H6.out.kept (k1.call (hkB.call hI)))).mono ?_; rintro e w5 ⟨rfl, hb5⟩)); refine StepPost.loud _ rfl (by repeat (first | exact Kept.refl _ | assumption | (refine Kept.alloc ?_ _) | (refine Kept.setCell ?_ (by first | omega | (simp; omega) | simp) _) | refine Kept.drew ?_ | refine Kept.drewN ?_ _ | (apply Kept.call; rotate_left; assumption))) (fun hkL => ?_); have hkL := hI.call hkL; have hkB := hkB.call hkL; have sB1 := hkL.at_ sB1; have sB2 := hkL.at_ sB2; have sB3 := hkL.at_ sB3; have sB4 := hkL.at_ sB4; simp only [Act.put, List.setIfInBounds_toArray, List.set_cons_succ, List.set_cons_zero]))
    refine DW.nil ?_
    intro wd hI
    have hkd := hkB.call hI
    have td1 := hI.at_ sB1; have td2 := hI.at_ sB2; have td3 := hI.at_ sB3; have td4 := hI.at_ sB4
    go_wp2_with fail
    go_ret2
    exact ⟨rfl, k1.call hkd⟩
  · rw [if_neg hql]
    have hqd : ((q : Int) != (lo : Int)) = true := by simp; omega
    clear hd2
    go_enter Try.func17, Try.ntmps17
    go_wp2_with fail
    refine (of_any N M n a c S _ HN.out HM.out ha hc).mono ?_
    rintro e w1 ⟨rfl, k1⟩
    rw [HS.out]
    have c1 := k1.at_ c1
    have c2 := k1.at_ c2
    have z1 := k1.at_ z1
    have z2 := k1.at_ z2
    unfold ptr
    go_wp2_with fail
    refine wp_region_text keepsOne (fun wB => Kept w1 wB ∧ wB.cell? ⟨s, 1, none⟩ = some (.pointer (some ⟨rb, 0, none⟩)) ∧ wB.cell? ⟨s, 2, none⟩ = some (.slice (some ⟨b, off, none⟩) way.length cp0) ∧ wB.cell? ⟨b, off + at_ * 2, none⟩ = some (.int .i64 q) ∧ wB.cell? ⟨b, off + at_ * 2 + 1, none⟩ = some (.string (tx T q))) ?_ (by kernel_rfl) (by kernel_rfl) _ (by (try simp only [List.append_eq, List.cons_append, List.nil_append, List.toList_toArray]); exact rfl) ?_
    · exact ⟨by repeat (first | exact Kept.refl _ | assumption | (refine Kept.alloc ?_ _) | (refine Kept.setCell ?_ (by first | omega | (simp; omega) | simp) _) | refine Kept.drew ?_ | refine Kept.drewN ?_ _ | (apply Kept.call; rotate_left; assumption)), by first | assumption | go_simp, by first | assumption | go_simp, by first | assumption | go_simp, by first | assumption | go_simp⟩
    rintro wB ⟨hkB, sB1, sB2, sB3, sB4⟩
    repeat (first | (apply DW.det; (focus (intro wd hI; have td1 := hI.at_ sB1; have td2 := hI.at_ sB2; have td3 := hI.at_ sB3; have td4 := hI.at_ sB4; skip; go_wp2_with (first | (go_at_call 26; refine (waits_any rb lo _ (H6.out.kept (k1.call (hkB.call hI)))).mono ?_; rintro e w5 ⟨rfl, hb5⟩)); refine StepPost.mk _ rfl ⟨rfl, ?_⟩; repeat (first | exact Kept.refl _ | assumption | (refine Kept.alloc ?_ _) | (refine Kept.setCell ?_ (by first | omega | (simp; omega) | simp) _) | refine Kept.drew ?_ | refine Kept.drewN ?_ _ | (apply Kept.call; rotate_left; assumption)))); simp only [Act.put, List.setIfInBounds_toArray, List.set_cons_succ, List.set_cons_zero]) | (refine DW.loud (by kernel_rfl) ?_; intro wd hI; have td1 := hI.at_ sB1; have td2 := hI.at_ sB2; have td3 := hI.at_ sB3; have td4 := hI.at_ sB4; skip; go_wp2_with (first | (go_at_call 26; refine (waits_any rb lo _ (H6.out.kept (k1.call (hkB.call hI)))).mono ?_; rintro e w5 ⟨rfl, hb5⟩)); refine StepPost.loud _ rfl (by repeat (first | exact Kept.refl _ | assumption | (refine Kept.alloc ?_ _) | (refine Kept.setCell ?_ (by first | omega | (simp; omega) | simp) _) | refine Kept.drew ?_ | refine Kept.drewN ?_ _ | (apply Kept.call; rotate_left; assumption))) (fun hkL => ?_); have hkL := hI.call hkL; have hkB := hkB.call hkL; have sB1 := hkL.at_ sB1; have sB2 := hkL.at_ sB2; have sB3 := hkL.at_ sB3; have sB4 := hkL.at_ sB4; simp only [Act.put, List.setIfInBounds_toArray, List.set_cons_succ, List.set_cons_zero]))
    refine DW.nil ?_
    intro wd hI
    have hkd := hkB.call hI
    have td1 := hI.at_ sB1; have td2 := hI.at_ sB2; have td3 := hI.at_ sB3; have td4 := hI.at_ sB4
    go_wp2_with fail
    go_ret2
    exact ⟨rfl, k1.call hkd⟩
end Go.Proofs.Ytbofoafcglmboaa
