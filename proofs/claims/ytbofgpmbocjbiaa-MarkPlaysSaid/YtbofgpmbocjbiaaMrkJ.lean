/- The drain's All and Pick. -/
import Derived.Test.YtbofgpmbocjbiaaMrkI
import Derived.Outline
set_option linter.unusedSimpArgs false
set_option linter.unusedVariables false
namespace Go.Proofs.Ytbofgpmbocjbiaa
open Go.RowKit Go.Maps

set_option maxRecDepth 20000 in
set_option maxHeartbeats 1000000 in
theorem all_any (w0 : World) (X : List Nat) (D : Nat) (ps : List Int) (st : DSt) (w : World) (h : DrIn w0 X w D ps st) :
    Calls Try.prog 23 #[.pointer (some ⟨D, 0, none⟩)] w fun e w' => e = .returned (.bool (allB ps st)) ∧ Kept w w' := by
  have HD := Lib.hid h
  obtain ⟨_, _, h6⟩ := h.bd
  obtain ⟨PB, n, c, M1, M2, M3, fW, G, fS, fC, h⟩ := h
  obtain ⟨c0, _⟩ := h.c0
  have hn : ps.length = n := h.par.1
  have HN := Lib.hid hn
  rw [hn] at h6
  clear h hn
  go_enter Try.func23, Try.ntmps23
  go_wp2_with fail
  go_loopw [11] (fun iv wr => ∃ i : Nat, i ≤ n ∧ iv = .int .i64 i ∧ Hid ((List.range i).all (fun s => doneB ps st (s : Nat)) = true) ∧ Kept w wr) (fun iv _ => n - (intOf iv).toNat)
  case atStart => exact ⟨0, by omega, rfl, rfl, by repeat (first | exact Kept.refl _ | assumption | (refine Kept.alloc ?_ _) | (refine Kept.setCell ?_ (by first | omega | (simp; omega) | simp) _) | refine Kept.drew ?_ | refine Kept.drewN ?_ _ | (apply Kept.call; rotate_left; assumption))⟩
  case round =>
    obtain ⟨i, hi, rfl, HT, kr⟩ := hrel
    by_cases him : i < n
    · have e1 : decide ((i : Int) < n) = true := by simp; omega
      rcases hd : doneB ps st (i : Nat) with _ | _
      · have HDN := Lib.hid hd
        have hall : allB ps st = false := by
          unfold allB
          rw [List.all_eq_false]
          exact ⟨i, List.mem_range.2 (by rw [HN.out]; exact him), by rw [hd]; simp⟩
        have HALL := Lib.hid hall
        clear hd hall
        go_wp2_with (go_at_call 12; refine (done_any w0 X D ps st _ _ (HD.out.keep kr) ⟨by omega, by omega⟩).mono ?_; rintro e w1 ⟨rfl, k1⟩; rw [HDN.out])
        go_ret
        exact ⟨ret_bool HALL.out.symm, kr.call k1⟩
      · have HDN := Lib.hid hd
        have hnx : Hid ((List.range (i + 1)).all (fun s => doneB ps st (s : Nat)) = true) := by
          unfold Hid
          rw [List.range_succ, List.all_append, HT.out]
          simp [hd]
        clear hd
        go_wp2_with (go_at_call 12; refine (done_any w0 X D ps st _ _ (HD.out.keep kr) ⟨by omega, by omega⟩).mono ?_; rintro e w1 ⟨rfl, k1⟩; rw [HDN.out])
        go_roundw
        case rel => first | exact ⟨i + 1, by omega, by go_num, hnx, kr.call k1⟩ | ((repeat apply Exists.intro); exact ⟨⟨i + 1, by omega, by go_num, hnx, kr.call k1⟩, rfl⟩)
        case measure => simp [intOf]; omega
    · obtain rfl : i = n := by omega
      have e1 : decide ((i : Int) < i) = false := by simp
      have hall : allB ps st = true := by
        unfold allB
        rw [HN.out]; exact HT.out
      have HALL := Lib.hid hall
      clear hall
      go_wp2_with fail
      go_ret
      exact ⟨ret_bool HALL.out.symm, kr⟩
section
variable {w0 w : World} {X : List Nat} {D : Nat} {ps : List Int} {st : DSt} {PB n c M1 M2 M3 : Nat} {fW : Int × Int → Option Value} {G : Int × Int → Option Nat} {fS : Int → Option Value} {fC : Int × Int → Option Value}
theorem DrF.first (h : DrF w0 X w D ps st PB n c M1 M2 M3 fW G fS fC) {a b : Int} {t : Thg} {r : List Thg} (hw : st.W (a, b) = t :: r) :
    ∃ g off cap, (fW (a, b)).getD (.slice none 0 0) = .slice (some ⟨g, off, none⟩) (r.length + 1) cap ∧ G (a, b) = some g ∧ w.cell? ⟨g, off, none⟩ = some (thV t) ∧ r.length + 1 ≤ cap ∧ cap ≤ maxLen := by
  have ho := h.ways (a, b)
  rw [hw] at ho
  obtain ⟨A, cp, hv⟩ := ho.form
  rw [hv] at ho
  obtain ⟨g, off, rfl, hG, h1, h2, hc⟩ := ho.cells (by simp)
  refine ⟨g, off, cp, ?_, hG, hc 0 (thV t) (by simp [thC]), by simpa using h1, h2⟩
  rw [hv]; rfl
theorem DrF.updTail (h : DrF w0 X w D ps st PB n c M1 M2 M3 fW G fS fC) (h0 : w0.heap.size ≤ w.heap.size) {a b : Int} (ha : gd a) (hb : gd b) {t : Thg} {r : List Thg} (hw : st.W (a, b) = t :: r) {g off cap : Nat}
    (hv : (fW (a, b)).getD (.slice none 0 0) = .slice (some ⟨g, off, none⟩) (r.length + 1) cap) :
    ∃ w', (Instr.mapUpdate 58 (.map (some M1)) (.agg #[.int .i64 a, .int .i64 b]) (.slice (some (if cap = 1 then ⟨g, off, none⟩ else ⟨g, off + 1, none⟩)) r.length (cap - 1))).run Try.prog w = .ok () w' ∧ (∃ gW, DrF w0 X w' D ps (st.setW (a, b) r) PB n c M1 M2 M3 gW (fun x => if x = (a, b) then G (a, b) else G x) fS fC) ∧ DrTo w0 X w w' D ps (st.setW (a, b) r) ∧ But [M1] w w' := by
  obtain ⟨kl, hkl⟩ := keyW_of ha hb
  obtain ⟨w', hrun, hm, hbt⟩ := h.m1.upd mkW_inj keyWay Try.underlying58 (i := (a, b)) hkl (.slice (some (if cap = 1 then ⟨g, off, none⟩ else ⟨g, off + 1, none⟩)) r.length (cap - 1))
  have ho := h.ways (a, b)
  rw [hw, hv] at ho
  obtain ⟨b', off', e', hG, _, _, _⟩ := ho.cells (by simp)
  injection e' with e'
  injection e' with e1 e2
  subst e1 e2
  rw [hG] at ho
  have ht : OpenK w (some g) (.slice (some (if cap = 1 then ⟨g, off, none⟩ else ⟨g, off + 1, none⟩)) r.length (cap - 1)) r.length 1 (thC r) := OpenK.tail (xs := thC (t :: r)) ho
  have hgM : g ≠ M1 := (h.gne hG).2.2.1
  obtain ⟨hF, hT⟩ := h.wayTo (p := (a, b)) (v6 := .slice (some (if cap = 1 then ⟨g, off, none⟩ else ⟨g, off + 1, none⟩)) r.length (cap - 1)) (G6 := G (a, b)) (l := r) hm (fun x => by by_cases e : x = (a, b) <;> simp [e]) (hbt.mono (by simp)) (by rw [hG]; exact ht.but hbt (fun y hy => by injection hy with hy; subst hy; simpa using hgM)) (.inl rfl) h0
  exact ⟨w', hrun, ⟨_, hF⟩, hT, hbt⟩
end
theorem assertL_yes (W : World) (v : Value) : (Instr.typeAssert (.iface 69 v) 20 69 true).run Try.prog W = .ok (.tuple #[v, .bool true]) W := by kernel_rfl
theorem assertL_no (W : World) (v : Value) : (Instr.typeAssert (.iface 67 v) 20 69 true).run Try.prog W = .ok (.tuple #[.string ⟨#[]⟩, .bool false]) W := by kernel_rfl
theorem assertM_yes (W : World) (v : Value) : (Instr.typeAssert (.iface 67 v) 20 67 true).run Try.prog W = .ok (.tuple #[v, .bool true]) W := by kernel_rfl
def pickV (st : DSt) (a b : Int) : Value := match st.W (a, b) with
  | [] => .tuple #[.string ⟨#[]⟩, .bool false, .bool false]
  | some l :: _ => .tuple #[.string l, .bool false, .bool true]
  | none :: _ => .tuple #[.string ⟨#[]⟩, .bool true, .bool true]
set_option maxRecDepth 20000 in
set_option maxHeartbeats 2000000 in
theorem dpick_any (w0 : World) (X : List Nat) (D : Nat) (ps : List Int) (st : DSt) (a b : Int) (w : World) (h : DrIn w0 X w D ps st) (h0 : Kept w0 w) (ha : gd a) (hb : gd b) (hl : ∀ p, (st.W p).length ≤ 900) (hk : st.k ≤ 1000000) :
    Calls Try.prog 13 #[.pointer (some ⟨D, 0, none⟩), .int .i64 a, .int .i64 b] w fun e w' => e = .returned (pickV st a b) ∧ DrTo w0 X w w' D ps (pickD ps st a b) := by
  have HD := Lib.hid h
  have HLW := Lib.hid hl
  rcases hw : st.W (a, b) with _ | ⟨t, r⟩
  · have hv : pickV st a b = .tuple #[.string ⟨#[]⟩, .bool false, .bool false] := by unfold pickV; rw [hw]
    have hd : pickD ps st a b = st := by unfold pickD; rw [hw]
    rw [hv, hd]
    have HW := Lib.hid hw
    clear hw hv hd hl h
    go_enter Try.func13, Try.ntmps13
    go_wp2_with (go_at_call 17; refine (flying_any w0 X D ps st a b _ HD.out ha hb).mono ?_; rintro e w1 ⟨rfl, k1⟩; rw [HW.out]; simp only [List.length_nil])
    go_ret3
    exact ⟨rfl, HD.out.to k1⟩
  · obtain ⟨PB, n, c, M1, M2, M3, fW, G, fS, fC, h⟩ := h
    obtain ⟨_, c1, _, c3, _⟩ := h.c0
    have HH := Lib.hid h
    obtain ⟨g, off, cap, hv, hG, hcell, hc1, hc2⟩ := h.first hw
    unfold maxLen at hc2
    have HV := Lib.hid hv
    have HW := Lib.hid hw
    have hDl := (h.own D (by simp)).2.1
    have hM1 := (h.own M1 (by simp)).2.1
    obtain ⟨m, hm⟩ : ∃ m, r.length = m := ⟨_, rfl⟩
    have HM := Lib.hid hm
    rw [hm] at hc1
    have hpos : Hid ((st.W (a, b)).length = m + 1) := by unfold Hid; rw [hw, ← hm]; rfl
    clear hv hG hw hm hl h
    obtain ⟨gv, hgv⟩ : ∃ gv, (if cap = 1 then (⟨g, off, none⟩ : Addr) else ⟨g, off + 1, none⟩) = gv := ⟨_, rfl⟩
    have HGV := Lib.hid hgv
    have hta1 := assertL_yes
    have hta2 := assertL_no
    have hta3 := assertM_yes
    rcases Decidable.em (cap = 1) with hcp | hcp
    all_goals
      (first | rw [if_pos hcp] at hgv | rw [if_neg hcp] at hgv
       subst hgv
       cases t with
       | some lb =>
         have hpv : pickV st a b = .tuple #[.string lb, .bool false, .bool true] := by unfold pickV; rw [HW.out]
         have hpd : pickD ps st a b = st.setW (a, b) r := by unfold pickD; rw [HW.out]
         rw [hpv, hpd]
         clear hpv hpd
         simp only [thV] at hcell
         go_enter Try.func13, Try.ntmps13
         go_wp2_with (go_at_call 17; refine (flying_any w0 X D ps st a b _ HD.out ha hb).mono ?_; rintro e w1 ⟨rfl, k1⟩; rw [hpos.out]; have c1 := k1.at_ c1; have c3 := k1.at_ c3; have hcell := k1.at_ hcell; have hDl := Nat.lt_of_lt_of_le hDl k1.size)
         have HK4 : Hid (Kept w (w1.alloc (.cells #[.int .i64 a, .int .i64 b] 65))) := k1.alloc _
         have d0 : (w1.alloc (.cells #[.int .i64 a, .int .i64 b] 65)).cell? ⟨w1.heap.size, 0, none⟩ = some (.int .i64 a) := by simp [cellOf (heap_alloc_new w1 (.cells #[.int .i64 a, .int .i64 b] 65))]
         have d1 : (w1.alloc (.cells #[.int .i64 a, .int .i64 b] 65)).cell? ⟨w1.heap.size, 1, none⟩ = some (.int .i64 b) := by simp [cellOf (heap_alloc_new w1 (.cells #[.int .i64 a, .int .i64 b] 65))]
         have c1 := ((Kept.refl w1).alloc (.cells #[.int .i64 a, .int .i64 b] 65)).at_ c1
         have c3 := ((Kept.refl w1).alloc (.cells #[.int .i64 a, .int .i64 b] 65)).at_ c3
         have hcell := ((Kept.refl w1).alloc (.cells #[.int .i64 a, .int .i64 b] 65)).at_ hcell
         generalize w1.alloc (.cells #[.int .i64 a, .int .i64 b] 65) = W4 at *
         have hQ : w.heap.size ≤ w1.heap.size := k1.size
         generalize w1.heap.size = Q at *
         refine wp_region_text keepsOne (fun wB => Kept W4 wB ∧ wB.cell? ⟨D, 1, none⟩ = some (.map (some M1)) ∧ wB.cell? ⟨Q, 0, none⟩ = some (.int .i64 a) ∧ wB.cell? ⟨Q, 1, none⟩ = some (.int .i64 b) ∧ wB.cell? ⟨D, 3, none⟩ = some (.map (some M3))) ?_ (by kernel_rfl) (by kernel_rfl) _ (by (try simp only [List.append_eq, List.cons_append, List.nil_append, List.toList_toArray]); exact rfl) ?_
         · exact ⟨by repeat (first | exact Kept.refl _ | assumption | (refine Kept.alloc ?_ _) | (refine Kept.setCell ?_ (by first | omega | (simp; omega) | simp) _) | refine Kept.drew ?_ | refine Kept.drewN ?_ _ | (apply Kept.call; rotate_left; assumption)), by first | assumption | go_simp, by first | assumption | go_simp, by first | assumption | go_simp, by first | assumption | go_simp⟩
         rintro wB ⟨hkB, sB1, sB2, sB3, sB4⟩
         repeat (first | (apply DW.det; (focus (intro wd hI; have td1 := hI.at_ sB1; have td2 := hI.at_ sB2; have td3 := hI.at_ sB3; have td4 := hI.at_ sB4; (try (have hlw := (HH.out.keep (HK4.out.call (hkB.call hI))).lookW ha hb; rw [HV.out, HM.out] at hlw; have hcell := (hkB.call hI).at_ hcell)); go_wp2_with (fail); refine StepPost.mk _ rfl ⟨rfl, ?_⟩; repeat (first | exact Kept.refl _ | assumption | (refine Kept.alloc ?_ _) | (refine Kept.setCell ?_ (by first | omega | (simp; omega) | simp) _) | refine Kept.drew ?_ | refine Kept.drewN ?_ _ | (apply Kept.call; rotate_left; assumption)))); simp only [Act.put, List.setIfInBounds_toArray, List.set_cons_succ, List.set_cons_zero]) | (refine DW.loud (by kernel_rfl) ?_; intro wd hI; have td1 := hI.at_ sB1; have td2 := hI.at_ sB2; have td3 := hI.at_ sB3; have td4 := hI.at_ sB4; (try (have hlw := (HH.out.keep (HK4.out.call (hkB.call hI))).lookW ha hb; rw [HV.out, HM.out] at hlw; have hcell := (hkB.call hI).at_ hcell)); go_wp2_with (fail); refine StepPost.loud _ rfl (by repeat (first | exact Kept.refl _ | assumption | (refine Kept.alloc ?_ _) | (refine Kept.setCell ?_ (by first | omega | (simp; omega) | simp) _) | refine Kept.drew ?_ | refine Kept.drewN ?_ _ | (apply Kept.call; rotate_left; assumption))) (fun hkL => ?_); have hkL := hI.call hkL; have hkB := hkB.call hkL; have sB1 := hkL.at_ sB1; have sB2 := hkL.at_ sB2; have sB3 := hkL.at_ sB3; have sB4 := hkL.at_ sB4; simp only [Act.put, List.setIfInBounds_toArray, List.set_cons_succ, List.set_cons_zero]))
         refine DW.nil ?_
         intro wd hI
         have hkd := hkB.call hI
         have td1 := hI.at_ sB1; have td2 := hI.at_ sB2; have td3 := hI.at_ sB3; have td4 := hI.at_ sB4
         have HK5 : Hid (Kept w wd) := HK4.out.call hkd
         go_wp2_with fail
         refine wp_region_text keepsOne (fun wB => Kept wd wB ∧ wB.cell? ⟨D, 1, none⟩ = some (.map (some M1)) ∧ wB.cell? ⟨Q, 0, none⟩ = some (.int .i64 a) ∧ wB.cell? ⟨Q, 1, none⟩ = some (.int .i64 b) ∧ wB.cell? ⟨D, 3, none⟩ = some (.map (some M3))) ?_ (by kernel_rfl) (by kernel_rfl) _ (by (try simp only [List.append_eq, List.cons_append, List.nil_append, List.toList_toArray]); exact rfl) ?_
         · exact ⟨by repeat (first | exact Kept.refl _ | assumption | (refine Kept.alloc ?_ _) | (refine Kept.setCell ?_ (by first | omega | (simp; omega) | simp) _) | refine Kept.drew ?_ | refine Kept.drewN ?_ _ | (apply Kept.call; rotate_left; assumption)), by first | assumption | go_simp, by first | assumption | go_simp, by first | assumption | go_simp, by first | assumption | go_simp⟩
         rintro wB ⟨hkB, sB1, sB2, sB3, sB4⟩
         iterate 12 (first | (apply DW.det; (focus (intro wd hI; have td1 := hI.at_ sB1; have td2 := hI.at_ sB2; have td3 := hI.at_ sB3; have td4 := hI.at_ sB4; (try (have hlw := (HH.out.keep (HK5.out.call (hkB.call hI))).lookW ha hb; rw [HV.out, HM.out] at hlw)); go_wp2_with (fail); refine StepPost.mk _ rfl ⟨rfl, ?_⟩; repeat (first | exact Kept.refl _ | assumption | (refine Kept.alloc ?_ _) | (refine Kept.setCell ?_ (by first | omega | (simp; omega) | simp) _) | refine Kept.drew ?_ | refine Kept.drewN ?_ _ | (apply Kept.call; rotate_left; assumption)))); simp only [Act.put, List.setIfInBounds_toArray, List.set_cons_succ, List.set_cons_zero]) | (refine DW.loud (by kernel_rfl) ?_; intro wd hI; have td1 := hI.at_ sB1; have td2 := hI.at_ sB2; have td3 := hI.at_ sB3; have td4 := hI.at_ sB4; (try (have hlw := (HH.out.keep (HK5.out.call (hkB.call hI))).lookW ha hb; rw [HV.out, HM.out] at hlw)); go_wp2_with (fail); refine StepPost.loud _ rfl (by repeat (first | exact Kept.refl _ | assumption | (refine Kept.alloc ?_ _) | (refine Kept.setCell ?_ (by first | omega | (simp; omega) | simp) _) | refine Kept.drew ?_ | refine Kept.drewN ?_ _ | (apply Kept.call; rotate_left; assumption))) (fun hkL => ?_); have hkL := hI.call hkL; have hkB := hkB.call hkL; have sB1 := hkL.at_ sB1; have sB2 := hkL.at_ sB2; have sB3 := hkL.at_ sB3; have sB4 := hkL.at_ sB4; simp only [Act.put, List.setIfInBounds_toArray, List.set_cons_succ, List.set_cons_zero]))
         refine DW.tail (by kernel_rfl) ?_
         intro wd hI
         have hkd := hkB.call hI
         have td1 := hI.at_ sB1; have td2 := hI.at_ sB2; have td3 := hI.at_ sB3; have td4 := hI.at_ sB4
         have HK6 : Hid (Kept w wd) := HK5.out.call hkd
         obtain ⟨w7, hrun, ⟨gW, hF7⟩, hto7, hb7⟩ := (HH.out.keep HK6.out).updTail (h0.call HK6.out).size ha hb HW.out HV.out
         rw [HGV.out, HM.out] at hrun
         (try rw [hcp] at hrun)
         (try simp only [Nat.sub_self] at hrun)
         have HF7 := Lib.hid hF7
         have HTO7 := Lib.hid hto7
         have HB7 := Lib.hid hb7
         have HD0 := Lib.hid td2
         have HD1 := Lib.hid td3
         clear hF7 hto7 hb7
         go_wp2_with fail
         go_ret3
         exact ⟨rfl, (HD.out.to HK6.out).trans HTO7.out⟩
       | none =>
         have hpv : pickV st a b = .tuple #[.string ⟨#[]⟩, .bool true, .bool true] := by unfold pickV; rw [HW.out]
         have hpd : pickD ps st a b = stopD ps ((st.setW (a, b) r).came (a, b)) b := by unfold pickD; rw [HW.out]
         rw [hpv, hpd]
         clear hpv hpd
         simp only [thV] at hcell
         go_enter Try.func13, Try.ntmps13
         go_wp2_with (go_at_call 17; refine (flying_any w0 X D ps st a b _ HD.out ha hb).mono ?_; rintro e w1 ⟨rfl, k1⟩; rw [hpos.out]; have c1 := k1.at_ c1; have c3 := k1.at_ c3; have hcell := k1.at_ hcell; have hDl := Nat.lt_of_lt_of_le hDl k1.size)
         have HK4 : Hid (Kept w (w1.alloc (.cells #[.int .i64 a, .int .i64 b] 65))) := k1.alloc _
         have d0 : (w1.alloc (.cells #[.int .i64 a, .int .i64 b] 65)).cell? ⟨w1.heap.size, 0, none⟩ = some (.int .i64 a) := by simp [cellOf (heap_alloc_new w1 (.cells #[.int .i64 a, .int .i64 b] 65))]
         have d1 : (w1.alloc (.cells #[.int .i64 a, .int .i64 b] 65)).cell? ⟨w1.heap.size, 1, none⟩ = some (.int .i64 b) := by simp [cellOf (heap_alloc_new w1 (.cells #[.int .i64 a, .int .i64 b] 65))]
         have c1 := ((Kept.refl w1).alloc (.cells #[.int .i64 a, .int .i64 b] 65)).at_ c1
         have c3 := ((Kept.refl w1).alloc (.cells #[.int .i64 a, .int .i64 b] 65)).at_ c3
         have hcell := ((Kept.refl w1).alloc (.cells #[.int .i64 a, .int .i64 b] 65)).at_ hcell
         generalize w1.alloc (.cells #[.int .i64 a, .int .i64 b] 65) = W4 at *
         have hQ : w.heap.size ≤ w1.heap.size := k1.size
         generalize w1.heap.size = Q at *
         refine wp_region_text keepsOne (fun wB => Kept W4 wB ∧ wB.cell? ⟨D, 1, none⟩ = some (.map (some M1)) ∧ wB.cell? ⟨Q, 0, none⟩ = some (.int .i64 a) ∧ wB.cell? ⟨Q, 1, none⟩ = some (.int .i64 b) ∧ wB.cell? ⟨D, 3, none⟩ = some (.map (some M3))) ?_ (by kernel_rfl) (by kernel_rfl) _ (by (try simp only [List.append_eq, List.cons_append, List.nil_append, List.toList_toArray]); exact rfl) ?_
         · exact ⟨by repeat (first | exact Kept.refl _ | assumption | (refine Kept.alloc ?_ _) | (refine Kept.setCell ?_ (by first | omega | (simp; omega) | simp) _) | refine Kept.drew ?_ | refine Kept.drewN ?_ _ | (apply Kept.call; rotate_left; assumption)), by first | assumption | go_simp, by first | assumption | go_simp, by first | assumption | go_simp, by first | assumption | go_simp⟩
         rintro wB ⟨hkB, sB1, sB2, sB3, sB4⟩
         repeat (first | (apply DW.det; (focus (intro wd hI; have td1 := hI.at_ sB1; have td2 := hI.at_ sB2; have td3 := hI.at_ sB3; have td4 := hI.at_ sB4; (try (have hlw := (HH.out.keep (HK4.out.call (hkB.call hI))).lookW ha hb; rw [HV.out, HM.out] at hlw; have hcell := (hkB.call hI).at_ hcell)); go_wp2_with (fail); refine StepPost.mk _ rfl ⟨rfl, ?_⟩; repeat (first | exact Kept.refl _ | assumption | (refine Kept.alloc ?_ _) | (refine Kept.setCell ?_ (by first | omega | (simp; omega) | simp) _) | refine Kept.drew ?_ | refine Kept.drewN ?_ _ | (apply Kept.call; rotate_left; assumption)))); simp only [Act.put, List.setIfInBounds_toArray, List.set_cons_succ, List.set_cons_zero]) | (refine DW.loud (by kernel_rfl) ?_; intro wd hI; have td1 := hI.at_ sB1; have td2 := hI.at_ sB2; have td3 := hI.at_ sB3; have td4 := hI.at_ sB4; (try (have hlw := (HH.out.keep (HK4.out.call (hkB.call hI))).lookW ha hb; rw [HV.out, HM.out] at hlw; have hcell := (hkB.call hI).at_ hcell)); go_wp2_with (fail); refine StepPost.loud _ rfl (by repeat (first | exact Kept.refl _ | assumption | (refine Kept.alloc ?_ _) | (refine Kept.setCell ?_ (by first | omega | (simp; omega) | simp) _) | refine Kept.drew ?_ | refine Kept.drewN ?_ _ | (apply Kept.call; rotate_left; assumption))) (fun hkL => ?_); have hkL := hI.call hkL; have hkB := hkB.call hkL; have sB1 := hkL.at_ sB1; have sB2 := hkL.at_ sB2; have sB3 := hkL.at_ sB3; have sB4 := hkL.at_ sB4; simp only [Act.put, List.setIfInBounds_toArray, List.set_cons_succ, List.set_cons_zero]))
         refine DW.nil ?_
         intro wd hI
         have hkd := hkB.call hI
         have td1 := hI.at_ sB1; have td2 := hI.at_ sB2; have td3 := hI.at_ sB3; have td4 := hI.at_ sB4
         have HK5 : Hid (Kept w wd) := HK4.out.call hkd
         go_wp2_with fail
         refine wp_region_text keepsOne (fun wB => Kept wd wB ∧ wB.cell? ⟨D, 1, none⟩ = some (.map (some M1)) ∧ wB.cell? ⟨Q, 0, none⟩ = some (.int .i64 a) ∧ wB.cell? ⟨Q, 1, none⟩ = some (.int .i64 b) ∧ wB.cell? ⟨D, 3, none⟩ = some (.map (some M3))) ?_ (by kernel_rfl) (by kernel_rfl) _ (by (try simp only [List.append_eq, List.cons_append, List.nil_append, List.toList_toArray]); exact rfl) ?_
         · exact ⟨by repeat (first | exact Kept.refl _ | assumption | (refine Kept.alloc ?_ _) | (refine Kept.setCell ?_ (by first | omega | (simp; omega) | simp) _) | refine Kept.drew ?_ | refine Kept.drewN ?_ _ | (apply Kept.call; rotate_left; assumption)), by first | assumption | go_simp, by first | assumption | go_simp, by first | assumption | go_simp, by first | assumption | go_simp⟩
         rintro wB ⟨hkB, sB1, sB2, sB3, sB4⟩
         iterate 12 (first | (apply DW.det; (focus (intro wd hI; have td1 := hI.at_ sB1; have td2 := hI.at_ sB2; have td3 := hI.at_ sB3; have td4 := hI.at_ sB4; (try (have hlw := (HH.out.keep (HK5.out.call (hkB.call hI))).lookW ha hb; rw [HV.out, HM.out] at hlw)); go_wp2_with (fail); refine StepPost.mk _ rfl ⟨rfl, ?_⟩; repeat (first | exact Kept.refl _ | assumption | (refine Kept.alloc ?_ _) | (refine Kept.setCell ?_ (by first | omega | (simp; omega) | simp) _) | refine Kept.drew ?_ | refine Kept.drewN ?_ _ | (apply Kept.call; rotate_left; assumption)))); simp only [Act.put, List.setIfInBounds_toArray, List.set_cons_succ, List.set_cons_zero]) | (refine DW.loud (by kernel_rfl) ?_; intro wd hI; have td1 := hI.at_ sB1; have td2 := hI.at_ sB2; have td3 := hI.at_ sB3; have td4 := hI.at_ sB4; (try (have hlw := (HH.out.keep (HK5.out.call (hkB.call hI))).lookW ha hb; rw [HV.out, HM.out] at hlw)); go_wp2_with (fail); refine StepPost.loud _ rfl (by repeat (first | exact Kept.refl _ | assumption | (refine Kept.alloc ?_ _) | (refine Kept.setCell ?_ (by first | omega | (simp; omega) | simp) _) | refine Kept.drew ?_ | refine Kept.drewN ?_ _ | (apply Kept.call; rotate_left; assumption))) (fun hkL => ?_); have hkL := hI.call hkL; have hkB := hkB.call hkL; have sB1 := hkL.at_ sB1; have sB2 := hkL.at_ sB2; have sB3 := hkL.at_ sB3; have sB4 := hkL.at_ sB4; simp only [Act.put, List.setIfInBounds_toArray, List.set_cons_succ, List.set_cons_zero]))
         refine DW.tail (by kernel_rfl) ?_
         intro wd hI
         have hkd := hkB.call hI
         have td1 := hI.at_ sB1; have td2 := hI.at_ sB2; have td3 := hI.at_ sB3; have td4 := hI.at_ sB4
         have HK6 : Hid (Kept w wd) := HK5.out.call hkd
         obtain ⟨w7, hrun, ⟨gW, hF7⟩, hto7, hb7⟩ := (HH.out.keep HK6.out).updTail (h0.call HK6.out).size ha hb HW.out HV.out
         rw [HGV.out, HM.out] at hrun
         (try rw [hcp] at hrun)
         (try simp only [Nat.sub_self] at hrun)
         have HF7 := Lib.hid hF7
         have HTO7 := Lib.hid hto7
         have HB7 := Lib.hid hb7
         have HD0 := Lib.hid td2
         have HD1 := Lib.hid td3
         clear hF7 hto7 hb7
         go_wp2_with fail
         obtain ⟨_, _, _, c3, _⟩ := HF7.out.c0
         have hQM : ∀ o, (⟨Q, o, none⟩ : Addr).block ∉ [M1] := fun o => by simp only [List.mem_singleton]; omega
         have d0 := HB7.out.at_ HD0.out (hQM 0)
         have d1 := HB7.out.at_ HD1.out (hQM 1)
         have c3 := ((Kept.refl w7).alloc (.cells #[] 67)).at_ c3
         have d0 := ((Kept.refl w7).alloc (.cells #[] 67)).at_ d0
         have d1 := ((Kept.refl w7).alloc (.cells #[] 67)).at_ d1
         have HK8 : Hid (Kept w7 (w7.alloc (.cells #[] 67))) := (Kept.refl w7).alloc _
         clear hQM
         generalize w7.alloc (.cells #[] 67) = W8 at *
         refine wp_region_text keepsOne (fun wB => Kept W8 wB ∧ wB.cell? ⟨D, 3, none⟩ = some (.map (some M3)) ∧ wB.cell? ⟨Q, 0, none⟩ = some (.int .i64 a) ∧ wB.cell? ⟨Q, 1, none⟩ = some (.int .i64 b)) ?_ (by kernel_rfl) (by kernel_rfl) _ (by (try simp only [List.append_eq, List.cons_append, List.nil_append, List.toList_toArray]); exact rfl) ?_
         · exact ⟨by repeat (first | exact Kept.refl _ | assumption | (refine Kept.alloc ?_ _) | (refine Kept.setCell ?_ (by first | omega | (simp; omega) | simp) _) | refine Kept.drew ?_ | refine Kept.drewN ?_ _ | (apply Kept.call; rotate_left; assumption)), by first | assumption | go_simp, by first | assumption | go_simp, by first | assumption | go_simp⟩
         rintro wB ⟨hkB, sB1, sB2, sB3⟩
         iterate 5 (first | (apply DW.det; (focus (intro wd hI; have td1 := hI.at_ sB1; have td2 := hI.at_ sB2; have td3 := hI.at_ sB3; skip; go_wp2_with (fail); refine StepPost.mk _ rfl ⟨rfl, ?_⟩; repeat (first | exact Kept.refl _ | assumption | (refine Kept.alloc ?_ _) | (refine Kept.setCell ?_ (by first | omega | (simp; omega) | simp) _) | refine Kept.drew ?_ | refine Kept.drewN ?_ _ | (apply Kept.call; rotate_left; assumption)))); simp only [Act.put, List.setIfInBounds_toArray, List.set_cons_succ, List.set_cons_zero]) | (refine DW.loud (by kernel_rfl) ?_; intro wd hI; have td1 := hI.at_ sB1; have td2 := hI.at_ sB2; have td3 := hI.at_ sB3; skip; go_wp2_with (fail); refine StepPost.loud _ rfl (by repeat (first | exact Kept.refl _ | assumption | (refine Kept.alloc ?_ _) | (refine Kept.setCell ?_ (by first | omega | (simp; omega) | simp) _) | refine Kept.drew ?_ | refine Kept.drewN ?_ _ | (apply Kept.call; rotate_left; assumption))) (fun hkL => ?_); have hkL := hI.call hkL; have hkB := hkB.call hkL; have sB1 := hkL.at_ sB1; have sB2 := hkL.at_ sB2; have sB3 := hkL.at_ sB3; simp only [Act.put, List.setIfInBounds_toArray, List.set_cons_succ, List.set_cons_zero]))
         refine DW.tail (by kernel_rfl) ?_
         intro wd hI
         have hkd := hkB.call hI
         have td1 := hI.at_ sB1; have td2 := hI.at_ sB2; have td3 := hI.at_ sB3
         have HK9 : Hid (Kept w7 wd) := HK8.out.call hkd
         obtain ⟨w9, hrun9, hto9, _⟩ := (HF7.out.keep HK9.out).updC ha hb
         have HT9 : Hid (DrTo w0 X w w9 D ps ((st.setW (a, b) r).came (a, b))) := (((HD.out.to HK6.out).trans HTO7.out).keep HK9.out).trans hto9
         have HLS : Hid (∀ p, (((st.setW (a, b) r).came (a, b)).W p).length ≤ 900) := fun p => by
           show (if p = (a, b) then r else st.W p).length ≤ 900
           split
           · have := HLW.out (a, b); have := hpos.out; have := HM.out; omega
           · exact HLW.out p
         clear hto9
         go_wp2_with (go_at_call 11; refine (stop_any w0 X D ps _ b _ HT9.out.1 (HT9.out.2.2.2 h0) hb HLS.out hk).mono ?_; rintro e w10 ⟨rfl, h10⟩; have H10 := Lib.hid h10; clear h10)
         go_ret3
         exact ⟨rfl, HT9.out.trans H10.out⟩)
end Go.Proofs.Ytbofgpmbocjbiaa
