/- The net's Pick, where a packet is taken. -/
import Derived.Test.YtbofoafcglmboaaNetR
set_option linter.unusedSimpArgs false
set_option linter.unusedVariables false
namespace Go.Proofs.Ytbofoafcglmboaa
open Go.RowKit

theorem SessTo.keep {w w1 w2 : World} {F : List Nat} {s lo : Nat} {T : List ByteArray} {way : List Nat} (h : SessTo w w1 F s T lo way) (hk : Kept w1 w2) : SessTo w w2 F s T lo way := by
  obtain ⟨F', h1, h2, h3⟩ := h
  exact ⟨F', h1.keep hk, h2.trans (.of_kept hk), h3⟩
set_option maxRecDepth 20000 in
set_option maxHeartbeats 2000000 in
theorem npick_other (N M n a c s lo at_ q : Nat) (F : List Nat) (S : Who) (T : List ByteArray) (way : List Nat) (how h3 : Int) (w : World) (hN : NetAt w N M) (hM : PM w M n S) (ha : a < 6) (hc : c < 6) (hs : S a c = some s) (h : Sess w F s T lo way) (hw : way.length ≤ 4294967296) (hq : way[at_]? = some q) (hh : bits .and .i64 how 3 = h3) (hh1 : ¬ h3 = 1) (hh2 : ¬ h3 = 2) (hql : q ≠ lo) :
    Calls Try.prog 13 #[.pointer (some ⟨N, 0, none⟩), .int .i64 a, .int .i64 c, .int .i64 at_, .int .i64 how] w fun e w' => e = .returned (.tuple #[.string ⟨#[]⟩, .bool false]) ∧ SessTo w w' F s T lo (way.eraseIdx at_) := by
  have hqi : ¬ (q : Int) = (lo : Int) := by omega
  have HQI := Lib.hid hqi
  clear hqi hql
  obtain ⟨sb, rb, Go, Gw, v, h1, h2, h3, h4, h5, h6, h7, h8', h9⟩ := h
  obtain ⟨i0, hi, hz0, hz1, hz2⟩ := info_parts infoPk
  have HI := Lib.hid hi
  have H1 := Lib.hid h1
  have H2 := Lib.hid h2
  have H3 := Lib.hid h3
  have H4 := Lib.hid h4
  have H5 := Lib.hid h5
  have H6 := Lib.hid h6
  have H7 := Lib.hid h7
  have H9 := Lib.hid h9
  have HQ := Lib.hid hq
  obtain ⟨c0, c1, c2, f2⟩ := three_cells h4
  have HN := Lib.hid hN
  have HM := Lib.hid hM
  have HS := Lib.hid hs
  have hsz : s < w.heap.size := (Array.getElem?_eq_some_iff.1 h4).1
  have hnd := nd5 (h1 ▸ h2)
  have HND := Lib.hid hnd
  have hsG : s ∉ Gw.toList := hnd.1.2.2.2
  have hatl : at_ < way.length := (List.getElem?_eq_some_iff.1 hq).1
  obtain ⟨hw1, hw2⟩ := wayC_at T way at_ q hq
  obtain ⟨A0, cp0, hv⟩ := h7.form
  subst hv
  obtain ⟨b, off, eA, eG, hnc, hcm, hcell⟩ := h7.cells (by omega)
  subst eA
  have z1 : w.cell? ⟨b, off + at_ * 2, none⟩ = some (.int .i64 (q : Int)) := hcell _ _ hw1
  have z2 : w.cell? ⟨b, off + at_ * 2 + 1, none⟩ = some (.string (tx T q)) := by have := hcell _ _ hw2; rwa [← Nat.add_assoc] at this
  unfold maxLen at hcm
  have hbz : b < w.heap.size := World.block_lt_of_cell? w _ z1
  have hd0 : decide ((at_ : Int) < 0) = false := by first | (simp; done) | (simp; omega)
  have hd1 : decide ((way.length : Int) ≤ (at_ : Int)) = false := by first | (simp; done) | (simp; omega)
  have HEG := Lib.hid eG
  have hnil : cp0 = at_ + 1 → wayC T (way.drop (at_ + 1)) = [] := fun e => by rw [List.drop_eq_nil_of_le (by omega)]; rfl
  have HNIL := Lib.hid hnil
  have hlen : way.length - (at_ + 1) = (way.drop (at_ + 1)).length := by simp
  have HLEN := Lib.hid hlen
  clear hN hM hs h2 h3 h4 h5 h6 h7 h9 hi hq hw1 hw2 hcell hnd eG hnil hlen
  rcases Decidable.em (cp0 = at_ + 1) with hcp | hcp
  all_goals
    (go_enter Try.func13, Try.ntmps13
     go_wp2_with fail
     refine (of_any N M n a c S _ HN.out HM.out ha hc).mono ?_
     rintro e w1 ⟨rfl, k1⟩
     rw [HS.out]
     have c0 := k1.at_ c0
     have c1 := k1.at_ c1
     have c2 := k1.at_ c2
     have z1 := k1.at_ z1
     have z2 := k1.at_ z2
     have hlt1 := Nat.lt_of_lt_of_le hsz k1.size
     have hltb := Nat.lt_of_lt_of_le hbz k1.size
     have hpG : w1.heap.size ∉ Gw.toList := fun hx => by
       have := H3.out w1.heap.size (by rw [H1.out]; simp only [List.mem_append]; exact .inr hx)
       have := k1.size
       omega
     unfold ptr
     go_wp2_with fail
     have HOQ : Hid (OpenK (w1.alloc (.cells #[.int .i64 q, .string (tx T q)] 60)) Gw (.slice (some ⟨b, off, none⟩) way.length cp0) way.length 2 (wayC T way)) := (H7.out.kept k1).kept ((Kept.refl w1).alloc _)
     obtain ⟨xs, hxs⟩ : ∃ xs, wayC T way = xs := ⟨_, rfl⟩
     have HXS := Lib.hid hxs
     have hxl : xs.length = way.length * 2 := by rw [← hxs]; exact wayC_len T way
     have HXL := Lib.hid hxl
     rw [hxs] at HOQ
     clear hxs hxl
     refine wp_region_text (keepsBut (Gw.toList)) (fun wB => But (Gw.toList) w1 wB ∧ wB.cell? ⟨s, 0, none⟩ = some (.pointer (some ⟨sb, 0, none⟩)) ∧ wB.cell? ⟨s, 1, none⟩ = some (.pointer (some ⟨rb, 0, none⟩)) ∧ wB.cell? ⟨s, 2, none⟩ = some (.slice (some ⟨b, off, none⟩) way.length cp0) ∧ wB.cell? ⟨w1.heap.size, 0, none⟩ = some (.int .i64 q) ∧ wB.cell? ⟨w1.heap.size, 1, none⟩ = some (.string (tx T q)) ∧ Hid (OpenK wB Gw (.slice (some ⟨b, off, none⟩) way.length cp0) way.length 2 xs)) ?_ (by kernel_rfl) (by kernel_rfl) _ (by (try simp only [List.append_eq, List.cons_append, List.nil_append, List.toList_toArray]); exact rfl) ?_
     · exact ⟨by repeat (first | exact But.refl _ _ | assumption | (refine But.alloc ?_ _) | (refine But.setCell ?_ (by first | (right; omega) | (right; simp; omega) | (left; simp)) _) | refine But.drew ?_ | refine But.drewN ?_ _ | (apply But.trans; rotate_left; assumption)), by first | assumption | go_simp, by first | assumption | go_simp, by first | assumption | go_simp, by first | assumption | go_simp, by first | assumption | go_simp, by first | assumption | skip⟩
     rintro wB ⟨hkB, sB1, sB2, sB3, sB4, sB5, HX⟩
     repeat (first | (apply DW.det; (focus (intro wd hI; have hkd := hkB.trans hI; have td1 := hI.at_ sB1 (by assumption); have td2 := hI.at_ sB2 (by assumption); have td3 := hI.at_ sB3 (by assumption); have td4 := hI.at_ sB4 (by assumption); have td5 := hI.at_ sB5 (by assumption); go_wp2_with (fail); refine StepPost.mk _ rfl ⟨rfl, ?_⟩; repeat (first | exact Kept.refl _ | assumption | (refine Kept.alloc ?_ _) | (refine Kept.setCell ?_ (by first | omega | (simp; omega) | simp) _) | refine Kept.drew ?_ | refine Kept.drewN ?_ _ | (apply Kept.call; rotate_left; assumption)))); simp only [Act.put, List.setIfInBounds_toArray, List.set_cons_succ, List.set_cons_zero]) | (refine DW.loud (by kernel_rfl) ?_; intro wd hI; have hkd := hkB.trans (But.of_kept hI); have td1 := hI.at_ sB1; have td2 := hI.at_ sB2; have td3 := hI.at_ sB3; have td4 := hI.at_ sB4; have td5 := hI.at_ sB5; go_wp2_with (at_builtin; refine append_openM _ rfl _ _ 37 rfl 60 i0 (.agg #[.int .i64 0, .string ⟨#[]⟩]) 2 24 Try.underlying37 HI.out hz0 hz1 hz2 rfl (by omega) Gw _ at_ (way.length - (at_ + 1)) (xs.take (at_ * 2)) ((HX.out.kept hI).pre (by omega)) (by rw [List.length_take, HXL.out]; omega) rfl _ _ (wayC T (way.drop (at_ + 1))) rfl (by rw [wayC_len, HLEN.out]) (by first | exact cut_cells (HX.out.kept hI) HXS.out (by omega) | (rw [HNIL.out hcp]; intro j u hu; simp at hu; done)) (wayC_one _ _) (by unfold maxLen; omega) (by omega) ?_; intro v6 w6 G6 C0 O6 hG6; have hG6 : (G6 = Gw ∨ ∃ g, G6 = some g ∧ w1.heap.size ≤ g ∧ g < w6.heap.size) := hG6.imp id (fun ⟨g, h, h3, h4⟩ => ⟨g, h, Nat.le_trans hkd.size h3, h4⟩)); refine StepPost.loud _ rfl (by repeat (first | exact But.refl _ _ | assumption | (refine But.alloc ?_ _) | (refine But.setCell ?_ (by first | (right; omega) | (right; simp; omega) | (left; simp)) _) | refine But.drew ?_ | refine But.drewN ?_ _ | (apply But.trans; rotate_left; assumption))) (fun hkL => ?_); have hkL2 := (But.of_kept (S := Gw.toList) hI).trans hkL; have hkB := hkB.trans hkL2; have sB1 := hkL2.at_ sB1 (by assumption); have sB2 := hkL2.at_ sB2 (by assumption); have sB3 := hkL2.at_ sB3 (by assumption); have sB4 := hkL2.at_ sB4 (by assumption); have sB5 := hkL2.at_ sB5 (by assumption); (first | have HX := Lib.hid (HX.out.kept (Kept.call hI (Kept.as1 hkL))) | have HX := Lib.hid (HX.out.kept (Kept.call hI (Kept.as0 hkL))) | skip); simp only [Act.put, List.setIfInBounds_toArray, List.set_cons_succ, List.set_cons_zero]))
     refine DW.tail (by kernel_rfl) ?_
     intro wd hI
     have hkd := hkB.trans (But.of_kept hI); have td1 := hI.at_ sB1; have td2 := hI.at_ sB2; have td3 := hI.at_ sB3; have td4 := hI.at_ sB4; have td5 := hI.at_ sB5
     have HSW : Hid (wd.heap[s]? = some (.cells #[.pointer (some ⟨sb, 0, none⟩), .pointer (some ⟨rb, 0, none⟩), .slice (some ⟨b, off, none⟩) way.length cp0] 55 (0, 0))) := hkd.heap (k1.heap H4.out) hsG
     have y2 := freeOf HSW.out 2
     have HO6 := Lib.hid (O6.kept hI)
     have HG6 := Lib.hid hG6
     have HHI := Lib.hid hI
     have HKD := Lib.hid hkd
     obtain ⟨A6, cp6, hv6⟩ := O6.form
     subst hv6
     clear O6 hG6 C0 HX
     obtain ⟨m6, hm6⟩ : ∃ m6, at_ + (way.length - (at_ + 1)) = m6 := ⟨_, rfl⟩
     rw [hm6] at HO6
     simp only [hm6]
     have HW3 : Hid (But (s :: Gw.toList) w (wd.setCell ⟨s, 2, none⟩ (.slice A6 m6 cp6)) ∧ (wd.setCell ⟨s, 2, none⟩ (.slice A6 m6 cp6)).heap[s]? = some (.cells #[.pointer (some ⟨sb, 0, none⟩), .pointer (some ⟨rb, 0, none⟩), .slice A6 m6 cp6] 55 (0, 0)) ∧
         OpenK (wd.setCell ⟨s, 2, none⟩ (.slice A6 m6 cp6)) G6 (.slice A6 m6 cp6) (way.eraseIdx at_).length 2 (wayC T (way.eraseIdx at_)) ∧ (G6 = Gw ∨ ∃ g, G6 = some g ∧ w.heap.size ≤ g ∧ g < (wd.setCell ⟨s, 2, none⟩ (.slice A6 m6 cp6)).heap.size)) := by
       refine ⟨(((But.of_kept k1).trans (hkd.mono fun x hx => List.mem_cons_of_mem _ hx))).setCell (.inl (by simp)) _, ?_, ?_, ?_⟩
       · have := HSW.out
         simp [World.setCell, Array.getElem?_modify, this]
       · obtain ⟨e1, e2⟩ := cut_row T way at_ hatl
         rw [← e1, ← e2, hm6, HXS.out]
         refine HO6.out.but ((But.refl _ _).setCell (.inl (List.mem_singleton.2 rfl)) _) (fun g hg => ?_)
         rw [List.mem_singleton]
         intro e
         have e : g = s := e
         rcases HG6.out with h | ⟨g', h, h3, h4⟩
         · exact hsG (by rw [← h, hg, e]; simp)
         · rw [hg] at h; injection h with h; omega
       · exact HG6.out.imp id fun ⟨g, h, h3, h4⟩ => ⟨g, h, by have := k1.size; omega, by rw [World.size_setCell]; have := hI.size; omega⟩
     clear hm6
     have hrG : rb ∉ Gw.toList := HND.out.2.2.1.2
     have hrs : rb ≠ s := fun e => HND.out.1.2.1 e.symm
     have HRD : Hid (Recv (wd.setCell ⟨s, 2, none⟩ (.slice A6 m6 cp6)) rb lo) := (H6.out.but (HW3.out.1) (by simp only [List.mem_cons, not_or]; exact ⟨hrs, hrG⟩))
     have e1 : (wd.setCell ⟨s, 2, none⟩ (.slice A6 m6 cp6)).cell? ⟨s, 1, none⟩ = some (.pointer (some ⟨rb, 0, none⟩)) := (three_cells HW3.out.2.1).2.1
     have hpz : w1.heap.size ≠ s := by omega
     have e4 : (wd.setCell ⟨s, 2, none⟩ (.slice A6 m6 cp6)).cell? ⟨w1.heap.size, 0, none⟩ = some (.int .i64 q) := by rw [World.cell?_setCell_other _ _ _ _ (by simp [hpz])]; exact td4
     have e5 : (wd.setCell ⟨s, 2, none⟩ (.slice A6 m6 cp6)).cell? ⟨w1.heap.size, 1, none⟩ = some (.string (tx T q)) := by rw [World.cell?_setCell_other _ _ _ _ (by simp [hpz])]; exact td5
     go_wp2_with fail
     generalize hW : wd.setCell ⟨s, 2, none⟩ (.slice A6 m6 cp6) = W3 at HW3 HRD e1 e4 e5 ⊢
     have hsW : s < W3.heap.size := (Array.getElem?_eq_some_iff.1 HW3.out.2.1).1
     have HW := Lib.hid hW
     (try go_simp)
     clear hW td1 td2 td3 td4 td5 y2 hkd hI hkB
     have hsN : s ∉ (none : Option Nat).toList := by simp
     have hpN : w1.heap.size ∉ (none : Option Nat).toList := by simp
     refine wp_region_text (keepsBut ((none : Option Nat).toList)) (fun wB => But ((none : Option Nat).toList) W3 wB ∧ wB.cell? ⟨s, 1, none⟩ = some (.pointer (some ⟨rb, 0, none⟩)) ∧ wB.cell? ⟨w1.heap.size, 0, none⟩ = some (.int .i64 q) ∧ wB.cell? ⟨w1.heap.size, 1, none⟩ = some (.string (tx T q))) ?_ (by kernel_rfl) (by kernel_rfl) _ (by (try simp only [List.append_eq, List.cons_append, List.nil_append, List.toList_toArray]); exact rfl) ?_
     · exact ⟨by repeat (first | exact But.refl _ _ | assumption | (refine But.alloc ?_ _) | (refine But.setCell ?_ (by first | (right; omega) | (right; simp; omega) | (left; simp)) _) | refine But.drew ?_ | refine But.drewN ?_ _ | (apply But.trans; rotate_left; assumption)), by first | assumption | go_simp, by first | assumption | go_simp, by first | assumption | go_simp⟩
     rintro wB ⟨hkB, sB1, sB2, sB3⟩
     repeat (first | (apply DW.det; (focus (intro wd hI; have hkd := hkB.trans hI; have td1 := hI.at_ sB1 (by assumption); have td2 := hI.at_ sB2 (by assumption); have td3 := hI.at_ sB3 (by assumption); go_wp2_with (fail); refine StepPost.mk _ rfl ⟨rfl, ?_⟩; repeat (first | exact Kept.refl _ | assumption | (refine Kept.alloc ?_ _) | (refine Kept.setCell ?_ (by first | omega | (simp; omega) | simp) _) | refine Kept.drew ?_ | refine Kept.drewN ?_ _ | (apply Kept.call; rotate_left; assumption)))); simp only [Act.put, List.setIfInBounds_toArray, List.set_cons_succ, List.set_cons_zero]) | (refine DW.loud (by kernel_rfl) ?_; intro wd hI; have hkd := hkB.trans (But.of_kept hI); have td1 := hI.at_ sB1; have td2 := hI.at_ sB2; have td3 := hI.at_ sB3; go_wp2_with (first | (go_at_call 24; refine (take_no rb lo q (tx T q) _ (HRD.out.kept (But.kept hkd)) HQI.out).mono ?_; rintro e w5 ⟨rfl, hb5⟩; have hb5 : But (none : Option Nat).toList wd w5 := But.of_kept hb5)); refine StepPost.loud _ rfl (by repeat (first | exact But.refl _ _ | assumption | (refine But.alloc ?_ _) | (refine But.setCell ?_ (by first | (right; omega) | (right; simp; omega) | (left; simp)) _) | refine But.drew ?_ | refine But.drewN ?_ _ | (apply But.trans; rotate_left; assumption))) (fun hkL => ?_); have hkL2 := (But.of_kept (S := (none : Option Nat).toList) hI).trans hkL; have hkB := hkB.trans hkL2; have sB1 := hkL2.at_ sB1 (by assumption); have sB2 := hkL2.at_ sB2 (by assumption); have sB3 := hkL2.at_ sB3 (by assumption); simp only [Act.put, List.setIfInBounds_toArray, List.set_cons_succ, List.set_cons_zero]))
     refine DW.nil ?_
     intro wd hI
     have hkd := hkB.trans (But.of_kept hI); have td1 := hI.at_ sB1; have td2 := hI.at_ sB2; have td3 := hI.at_ sB3
     go_wp2_with fail
     go_ret2
     exact ⟨rfl, SessTo.keep (SessTo.way H1.out H2.out H3.out H5.out H6.out h8' HW3.out.1 HW3.out.2.1 HW3.out.2.2.1 HW3.out.2.2.2 fun x hx => H9.out x (List.mem_of_mem_eraseIdx hx)) (But.kept hkd)⟩)
set_option maxRecDepth 20000 in
set_option maxHeartbeats 2000000 in
theorem npick_take (N M n a c s at_ q : Nat) (F : List Nat) (S : Who) (T : List ByteArray) (way : List Nat) (how h3 : Int) (w : World) (hN : NetAt w N M) (hM : PM w M n S) (ha : a < 6) (hc : c < 6) (hs : S a c = some s) (h : Sess w F s T q way) (hw : way.length ≤ 4294967296) (hT : T.length ≤ 4294967296) (hq : way[at_]? = some q) (hh : bits .and .i64 how 3 = h3) (hh1 : ¬ h3 = 1) (hh2 : ¬ h3 = 2) :
    Calls Try.prog 13 #[.pointer (some ⟨N, 0, none⟩), .int .i64 a, .int .i64 c, .int .i64 at_, .int .i64 how] w fun e w' => e = .returned (.tuple #[.string (tx T q), .bool true]) ∧ SessTo w w' F s T (q + 1) (way.eraseIdx at_) := by
  have HT := Lib.hid hT
  clear hT
  obtain ⟨sb, rb, Go, Gw, v, h1, h2, h3, h4, h5, h6, h7, h8', h9⟩ := h
  obtain ⟨i0, hi, hz0, hz1, hz2⟩ := info_parts infoPk
  have HI := Lib.hid hi
  have H1 := Lib.hid h1
  have H2 := Lib.hid h2
  have H3 := Lib.hid h3
  have H4 := Lib.hid h4
  have H5 := Lib.hid h5
  have H6 := Lib.hid h6
  have H7 := Lib.hid h7
  have H9 := Lib.hid h9
  have HQ := Lib.hid hq
  obtain ⟨c0, c1, c2, f2⟩ := three_cells h4
  have HN := Lib.hid hN
  have HM := Lib.hid hM
  have HS := Lib.hid hs
  have hsz : s < w.heap.size := (Array.getElem?_eq_some_iff.1 h4).1
  have hnd := nd5 (h1 ▸ h2)
  have HND := Lib.hid hnd
  have hsG : s ∉ Gw.toList := hnd.1.2.2.2
  have hatl : at_ < way.length := (List.getElem?_eq_some_iff.1 hq).1
  obtain ⟨hw1, hw2⟩ := wayC_at T way at_ q hq
  obtain ⟨A0, cp0, hv⟩ := h7.form
  subst hv
  obtain ⟨b, off, eA, eG, hnc, hcm, hcell⟩ := h7.cells (by omega)
  subst eA
  have z1 : w.cell? ⟨b, off + at_ * 2, none⟩ = some (.int .i64 (q : Int)) := hcell _ _ hw1
  have z2 : w.cell? ⟨b, off + at_ * 2 + 1, none⟩ = some (.string (tx T q)) := by have := hcell _ _ hw2; rwa [← Nat.add_assoc] at this
  unfold maxLen at hcm
  have hbz : b < w.heap.size := World.block_lt_of_cell? w _ z1
  have hd0 : decide ((at_ : Int) < 0) = false := by first | (simp; done) | (simp; omega)
  have hd1 : decide ((way.length : Int) ≤ (at_ : Int)) = false := by first | (simp; done) | (simp; omega)
  have HEG := Lib.hid eG
  have hnil : cp0 = at_ + 1 → wayC T (way.drop (at_ + 1)) = [] := fun e => by rw [List.drop_eq_nil_of_le (by omega)]; rfl
  have HNIL := Lib.hid hnil
  have hlen : way.length - (at_ + 1) = (way.drop (at_ + 1)).length := by simp
  have HLEN := Lib.hid hlen
  clear hN hM hs h2 h3 h4 h5 h6 h7 h9 hi hq hw1 hw2 hcell hnd eG hnil hlen
  rcases Decidable.em (cp0 = at_ + 1) with hcp | hcp
  all_goals
    (go_enter Try.func13, Try.ntmps13
     go_wp2_with fail
     refine (of_any N M n a c S _ HN.out HM.out ha hc).mono ?_
     rintro e w1 ⟨rfl, k1⟩
     rw [HS.out]
     have c0 := k1.at_ c0
     have c1 := k1.at_ c1
     have c2 := k1.at_ c2
     have z1 := k1.at_ z1
     have z2 := k1.at_ z2
     have hlt1 := Nat.lt_of_lt_of_le hsz k1.size
     have hltb := Nat.lt_of_lt_of_le hbz k1.size
     have hpG : w1.heap.size ∉ Gw.toList := fun hx => by
       have := H3.out w1.heap.size (by rw [H1.out]; simp only [List.mem_append]; exact .inr hx)
       have := k1.size
       omega
     unfold ptr
     go_wp2_with fail
     have HOQ : Hid (OpenK (w1.alloc (.cells #[.int .i64 q, .string (tx T q)] 60)) Gw (.slice (some ⟨b, off, none⟩) way.length cp0) way.length 2 (wayC T way)) := (H7.out.kept k1).kept ((Kept.refl w1).alloc _)
     obtain ⟨xs, hxs⟩ : ∃ xs, wayC T way = xs := ⟨_, rfl⟩
     have HXS := Lib.hid hxs
     have hxl : xs.length = way.length * 2 := by rw [← hxs]; exact wayC_len T way
     have HXL := Lib.hid hxl
     rw [hxs] at HOQ
     clear hxs hxl
     refine wp_region_text (keepsBut (Gw.toList)) (fun wB => But (Gw.toList) w1 wB ∧ wB.cell? ⟨s, 0, none⟩ = some (.pointer (some ⟨sb, 0, none⟩)) ∧ wB.cell? ⟨s, 1, none⟩ = some (.pointer (some ⟨rb, 0, none⟩)) ∧ wB.cell? ⟨s, 2, none⟩ = some (.slice (some ⟨b, off, none⟩) way.length cp0) ∧ wB.cell? ⟨w1.heap.size, 0, none⟩ = some (.int .i64 q) ∧ wB.cell? ⟨w1.heap.size, 1, none⟩ = some (.string (tx T q)) ∧ Hid (OpenK wB Gw (.slice (some ⟨b, off, none⟩) way.length cp0) way.length 2 xs)) ?_ (by kernel_rfl) (by kernel_rfl) _ (by (try simp only [List.append_eq, List.cons_append, List.nil_append, List.toList_toArray]); exact rfl) ?_
     · exact ⟨by repeat (first | exact But.refl _ _ | assumption | (refine But.alloc ?_ _) | (refine But.setCell ?_ (by first | (right; omega) | (right; simp; omega) | (left; simp)) _) | refine But.drew ?_ | refine But.drewN ?_ _ | (apply But.trans; rotate_left; assumption)), by first | assumption | go_simp, by first | assumption | go_simp, by first | assumption | go_simp, by first | assumption | go_simp, by first | assumption | go_simp, by first | assumption | skip⟩
     rintro wB ⟨hkB, sB1, sB2, sB3, sB4, sB5, HX⟩
     repeat (first | (apply DW.det; (focus (intro wd hI; have hkd := hkB.trans hI; have td1 := hI.at_ sB1 (by assumption); have td2 := hI.at_ sB2 (by assumption); have td3 := hI.at_ sB3 (by assumption); have td4 := hI.at_ sB4 (by assumption); have td5 := hI.at_ sB5 (by assumption); go_wp2_with (fail); refine StepPost.mk _ rfl ⟨rfl, ?_⟩; repeat (first | exact Kept.refl _ | assumption | (refine Kept.alloc ?_ _) | (refine Kept.setCell ?_ (by first | omega | (simp; omega) | simp) _) | refine Kept.drew ?_ | refine Kept.drewN ?_ _ | (apply Kept.call; rotate_left; assumption)))); simp only [Act.put, List.setIfInBounds_toArray, List.set_cons_succ, List.set_cons_zero]) | (refine DW.loud (by kernel_rfl) ?_; intro wd hI; have hkd := hkB.trans (But.of_kept hI); have td1 := hI.at_ sB1; have td2 := hI.at_ sB2; have td3 := hI.at_ sB3; have td4 := hI.at_ sB4; have td5 := hI.at_ sB5; go_wp2_with (at_builtin; refine append_openM _ rfl _ _ 37 rfl 60 i0 (.agg #[.int .i64 0, .string ⟨#[]⟩]) 2 24 Try.underlying37 HI.out hz0 hz1 hz2 rfl (by omega) Gw _ at_ (way.length - (at_ + 1)) (xs.take (at_ * 2)) ((HX.out.kept hI).pre (by omega)) (by rw [List.length_take, HXL.out]; omega) rfl _ _ (wayC T (way.drop (at_ + 1))) rfl (by rw [wayC_len, HLEN.out]) (by first | exact cut_cells (HX.out.kept hI) HXS.out (by omega) | (rw [HNIL.out hcp]; intro j u hu; simp at hu; done)) (wayC_one _ _) (by unfold maxLen; omega) (by omega) ?_; intro v6 w6 G6 C0 O6 hG6; have hG6 : (G6 = Gw ∨ ∃ g, G6 = some g ∧ w1.heap.size ≤ g ∧ g < w6.heap.size) := hG6.imp id (fun ⟨g, h, h3, h4⟩ => ⟨g, h, Nat.le_trans hkd.size h3, h4⟩)); refine StepPost.loud _ rfl (by repeat (first | exact But.refl _ _ | assumption | (refine But.alloc ?_ _) | (refine But.setCell ?_ (by first | (right; omega) | (right; simp; omega) | (left; simp)) _) | refine But.drew ?_ | refine But.drewN ?_ _ | (apply But.trans; rotate_left; assumption))) (fun hkL => ?_); have hkL2 := (But.of_kept (S := Gw.toList) hI).trans hkL; have hkB := hkB.trans hkL2; have sB1 := hkL2.at_ sB1 (by assumption); have sB2 := hkL2.at_ sB2 (by assumption); have sB3 := hkL2.at_ sB3 (by assumption); have sB4 := hkL2.at_ sB4 (by assumption); have sB5 := hkL2.at_ sB5 (by assumption); (first | have HX := Lib.hid (HX.out.kept (Kept.call hI (Kept.as1 hkL))) | have HX := Lib.hid (HX.out.kept (Kept.call hI (Kept.as0 hkL))) | skip); simp only [Act.put, List.setIfInBounds_toArray, List.set_cons_succ, List.set_cons_zero]))
     refine DW.tail (by kernel_rfl) ?_
     intro wd hI
     have hkd := hkB.trans (But.of_kept hI); have td1 := hI.at_ sB1; have td2 := hI.at_ sB2; have td3 := hI.at_ sB3; have td4 := hI.at_ sB4; have td5 := hI.at_ sB5
     have HSW : Hid (wd.heap[s]? = some (.cells #[.pointer (some ⟨sb, 0, none⟩), .pointer (some ⟨rb, 0, none⟩), .slice (some ⟨b, off, none⟩) way.length cp0] 55 (0, 0))) := hkd.heap (k1.heap H4.out) hsG
     have y2 := freeOf HSW.out 2
     have HO6 := Lib.hid (O6.kept hI)
     have HG6 := Lib.hid hG6
     have HHI := Lib.hid hI
     have HKD := Lib.hid hkd
     obtain ⟨A6, cp6, hv6⟩ := O6.form
     subst hv6
     clear O6 hG6 C0 HX
     obtain ⟨m6, hm6⟩ : ∃ m6, at_ + (way.length - (at_ + 1)) = m6 := ⟨_, rfl⟩
     rw [hm6] at HO6
     simp only [hm6]
     have HW3 : Hid (But (s :: Gw.toList) w (wd.setCell ⟨s, 2, none⟩ (.slice A6 m6 cp6)) ∧ (wd.setCell ⟨s, 2, none⟩ (.slice A6 m6 cp6)).heap[s]? = some (.cells #[.pointer (some ⟨sb, 0, none⟩), .pointer (some ⟨rb, 0, none⟩), .slice A6 m6 cp6] 55 (0, 0)) ∧
         OpenK (wd.setCell ⟨s, 2, none⟩ (.slice A6 m6 cp6)) G6 (.slice A6 m6 cp6) (way.eraseIdx at_).length 2 (wayC T (way.eraseIdx at_)) ∧ (G6 = Gw ∨ ∃ g, G6 = some g ∧ w.heap.size ≤ g ∧ g < (wd.setCell ⟨s, 2, none⟩ (.slice A6 m6 cp6)).heap.size)) := by
       refine ⟨(((But.of_kept k1).trans (hkd.mono fun x hx => List.mem_cons_of_mem _ hx))).setCell (.inl (by simp)) _, ?_, ?_, ?_⟩
       · have := HSW.out
         simp [World.setCell, Array.getElem?_modify, this]
       · obtain ⟨e1, e2⟩ := cut_row T way at_ hatl
         rw [← e1, ← e2, hm6, HXS.out]
         refine HO6.out.but ((But.refl _ _).setCell (.inl (List.mem_singleton.2 rfl)) _) (fun g hg => ?_)
         rw [List.mem_singleton]
         intro e
         have e : g = s := e
         rcases HG6.out with h | ⟨g', h, h3, h4⟩
         · exact hsG (by rw [← h, hg, e]; simp)
         · rw [hg] at h; injection h with h; omega
       · exact HG6.out.imp id fun ⟨g, h, h3, h4⟩ => ⟨g, h, by have := k1.size; omega, by rw [World.size_setCell]; have := hI.size; omega⟩
     clear hm6
     have hrG : rb ∉ Gw.toList := HND.out.2.2.1.2
     have hrs : rb ≠ s := fun e => HND.out.1.2.1 e.symm
     have hqT : q < T.length := H9.out q (List.mem_of_getElem? HQ.out)
     have HRD : Hid (Recv (wd.setCell ⟨s, 2, none⟩ (.slice A6 m6 cp6)) rb q) := (H6.out.but (HW3.out.1) (by simp only [List.mem_cons, not_or]; exact ⟨hrs, hrG⟩))
     have HSD : Hid (Snd (wd.setCell ⟨s, 2, none⟩ (.slice A6 m6 cp6)) sb Go q (T.drop q)) := (H5.out.but (HW3.out.1) (by simp only [List.mem_cons, not_or]; exact ⟨fun e => HND.out.1.1 e.symm, HND.out.2.1.2.2⟩) (fun g hg => by
       have hgm : g ∈ Go.toList := by rw [hg]; simp
       simp only [List.mem_cons, not_or]
       exact ⟨fun e => HND.out.1.2.2.1 (e ▸ hgm), fun hx => HND.out.2.2.2 g hgm hx⟩))
     have e0 : (wd.setCell ⟨s, 2, none⟩ (.slice A6 m6 cp6)).cell? ⟨s, 0, none⟩ = some (.pointer (some ⟨sb, 0, none⟩)) := (three_cells HW3.out.2.1).1
     have e1 : (wd.setCell ⟨s, 2, none⟩ (.slice A6 m6 cp6)).cell? ⟨s, 1, none⟩ = some (.pointer (some ⟨rb, 0, none⟩)) := (three_cells HW3.out.2.1).2.1
     have hpz : w1.heap.size ≠ s := by omega
     have e4 : (wd.setCell ⟨s, 2, none⟩ (.slice A6 m6 cp6)).cell? ⟨w1.heap.size, 0, none⟩ = some (.int .i64 q) := by rw [World.cell?_setCell_other _ _ _ _ (by simp [hpz])]; exact td4
     have e5 : (wd.setCell ⟨s, 2, none⟩ (.slice A6 m6 cp6)).cell? ⟨w1.heap.size, 1, none⟩ = some (.string (tx T q)) := by rw [World.cell?_setCell_other _ _ _ _ (by simp [hpz])]; exact td5
     go_wp2_with fail
     generalize hW : wd.setCell ⟨s, 2, none⟩ (.slice A6 m6 cp6) = W3 at HW3 HRD HSD e0 e1 e4 e5 ⊢
     have hsW : s < W3.heap.size := (Array.getElem?_eq_some_iff.1 HW3.out.2.1).1
     have HW := Lib.hid hW
     (try go_simp)
     clear hW td1 td2 td3 td4 td5 y2 hkd hI hkB
     have hsR : s ∉ (some rb).toList := by simp; exact hrs.symm
     have hrw : rb < W3.heap.size := HRD.out.lt
     have hrp : rb < w1.heap.size := Nat.lt_of_lt_of_le (H3.out rb (by rw [H1.out]; simp)) k1.size
     have hpR : w1.heap.size ∉ (some rb).toList := by simp; omega
     refine wp_region_text (keepsBut ((some rb).toList)) (fun wB => But ((some rb).toList) W3 wB ∧ wB.cell? ⟨s, 0, none⟩ = some (.pointer (some ⟨sb, 0, none⟩)) ∧ wB.cell? ⟨s, 1, none⟩ = some (.pointer (some ⟨rb, 0, none⟩)) ∧ wB.cell? ⟨w1.heap.size, 0, none⟩ = some (.int .i64 q) ∧ wB.cell? ⟨w1.heap.size, 1, none⟩ = some (.string (tx T q)) ∧ Hid (Recv wB rb q)) ?_ (by kernel_rfl) (by kernel_rfl) _ (by (try simp only [List.append_eq, List.cons_append, List.nil_append, List.toList_toArray]); exact rfl) ?_
     · exact ⟨by repeat (first | exact But.refl _ _ | assumption | (refine But.alloc ?_ _) | (refine But.setCell ?_ (by first | (right; omega) | (right; simp; omega) | (left; simp)) _) | refine But.drew ?_ | refine But.drewN ?_ _ | (apply But.trans; rotate_left; assumption)), by first | assumption | go_simp, by first | assumption | go_simp, by first | assumption | go_simp, by first | assumption | go_simp, by first | assumption | skip⟩
     rintro wB ⟨hkB, sB1, sB2, sB3, sB4, HX⟩
     repeat (first | (apply DW.det; (focus (intro wd hI; have hkd := hkB.trans hI; have td1 := hI.at_ sB1 (by assumption); have td2 := hI.at_ sB2 (by assumption); have td3 := hI.at_ sB3 (by assumption); have td4 := hI.at_ sB4 (by assumption); go_wp2_with (fail); refine StepPost.mk _ rfl ⟨rfl, ?_⟩; repeat (first | exact Kept.refl _ | assumption | (refine Kept.alloc ?_ _) | (refine Kept.setCell ?_ (by first | omega | (simp; omega) | simp) _) | refine Kept.drew ?_ | refine Kept.drewN ?_ _ | (apply Kept.call; rotate_left; assumption)))); simp only [Act.put, List.setIfInBounds_toArray, List.set_cons_succ, List.set_cons_zero]) | (refine DW.loud (by kernel_rfl) ?_; intro wd hI; have hkd := hkB.trans (But.of_kept hI); have td1 := hI.at_ sB1; have td2 := hI.at_ sB2; have td3 := hI.at_ sB3; have td4 := hI.at_ sB4; go_wp2_with (first | (go_at_call 24; refine (take_yes rb q (tx T q) _ (HX.out.kept hI) (by have := HT.out; omega)).mono ?_; rintro e w4 ⟨rfl, hb4, hR4⟩; have hb4 : But (some rb).toList wd w4 := hb4; have HR4 := Lib.hid hR4; clear hR4)); refine StepPost.loud _ rfl (by repeat (first | exact But.refl _ _ | assumption | (refine But.alloc ?_ _) | (refine But.setCell ?_ (by first | (right; omega) | (right; simp; omega) | (left; simp)) _) | refine But.drew ?_ | refine But.drewN ?_ _ | (apply But.trans; rotate_left; assumption))) (fun hkL => ?_); have hkL2 := (But.of_kept (S := (some rb).toList) hI).trans hkL; have hkB := hkB.trans hkL2; have sB1 := hkL2.at_ sB1 (by assumption); have sB2 := hkL2.at_ sB2 (by assumption); have sB3 := hkL2.at_ sB3 (by assumption); have sB4 := hkL2.at_ sB4 (by assumption); (first | have HX := Lib.hid (HX.out.kept (Kept.call hI (Kept.as1 hkL))) | have HX := Lib.hid (HX.out.kept (Kept.call hI (Kept.as0 hkL))) | skip); simp only [Act.put, List.setIfInBounds_toArray, List.set_cons_succ, List.set_cons_zero]))
     refine DW.nil ?_
     intro wd hI
     have hkd := hkB.trans (But.of_kept hI); have td1 := hI.at_ sB1; have td2 := hI.at_ sB2; have td3 := hI.at_ sB3; have td4 := hI.at_ sB4
     have HR5 := Lib.hid (HR4.out.kept hI)
     have HB5 := Lib.hid hkd
     have g0 := td1
     have g1 := td2
     have hsd : s < wd.heap.size := World.block_lt_of_cell? wd _ g0
     have hb2 : sb < w.heap.size := H3.out sb (by rw [H1.out]; simp)
     have hr2 : rb < w.heap.size := H3.out rb (by rw [H1.out]; simp)
     have HG6l : Hid (∀ g, G6 = some g → g ∈ Gw.toList ∨ w.heap.size ≤ g) := fun g hg => by
       rcases HW3.out.2.2.2 with h | ⟨g', h, h3, _⟩
       · exact .inl (by rw [← h, hg]; simp)
       · rw [hg] at h; injection h with h; exact .inr (by omega)
     have HSE : Hid (Snd wd sb Go q (T.drop q)) := HSD.out.but HB5.out (by simp; exact HND.out.2.1.1) (fun g hg => by
       have hgm : g ∈ Go.toList := by rw [hg]; simp
       simp
       exact fun e => HND.out.2.2.1.1 (e ▸ hgm))
     clear hkd hI hkB HX td1 td2 td3 td4 hpR hsR
     go_wp2_with fail
     refine wp_region_text keepsOne (fun wB => Kept wd wB ∧ wB.cell? ⟨s, 0, none⟩ = some (.pointer (some ⟨sb, 0, none⟩)) ∧ wB.cell? ⟨s, 1, none⟩ = some (.pointer (some ⟨rb, 0, none⟩))) ?_ (by kernel_rfl) (by kernel_rfl) _ (by (try simp only [List.append_eq, List.cons_append, List.nil_append, List.toList_toArray]); exact rfl) ?_
     · exact ⟨by repeat (first | exact Kept.refl _ | assumption | (refine Kept.alloc ?_ _) | (refine Kept.setCell ?_ (by first | omega | (simp; omega) | simp) _) | refine Kept.drew ?_ | refine Kept.drewN ?_ _ | (apply Kept.call; rotate_left; assumption)), by first | assumption | go_simp, by first | assumption | go_simp⟩
     rintro wB ⟨hkB, sB1, sB2⟩
     iterate 9 (first | (apply DW.det; (focus (intro wd hI; have td1 := hI.at_ sB1; have td2 := hI.at_ sB2; skip; go_wp2_with (first | (go_at_call 26; refine (waits_any rb (q + 1) _ (HR5.out.kept (hkB.call hI))).mono ?_; rintro e w5 ⟨rfl, hb5⟩)); refine StepPost.mk _ rfl ⟨rfl, ?_⟩; repeat (first | exact Kept.refl _ | assumption | (refine Kept.alloc ?_ _) | (refine Kept.setCell ?_ (by first | omega | (simp; omega) | simp) _) | refine Kept.drew ?_ | refine Kept.drewN ?_ _ | (apply Kept.call; rotate_left; assumption)))); simp only [Act.put, List.setIfInBounds_toArray, List.set_cons_succ, List.set_cons_zero]) | (refine DW.loud (by kernel_rfl) ?_; intro wd hI; have td1 := hI.at_ sB1; have td2 := hI.at_ sB2; skip; go_wp2_with (first | (go_at_call 26; refine (waits_any rb (q + 1) _ (HR5.out.kept (hkB.call hI))).mono ?_; rintro e w5 ⟨rfl, hb5⟩)); refine StepPost.loud _ rfl (by repeat (first | exact Kept.refl _ | assumption | (refine Kept.alloc ?_ _) | (refine Kept.setCell ?_ (by first | omega | (simp; omega) | simp) _) | refine Kept.drew ?_ | refine Kept.drewN ?_ _ | (apply Kept.call; rotate_left; assumption))) (fun hkL => ?_); have hkL := hI.call hkL; have hkB := hkB.call hkL; have sB1 := hkL.at_ sB1; have sB2 := hkL.at_ sB2; simp only [Act.put, List.setIfInBounds_toArray, List.set_cons_succ, List.set_cons_zero]))
     refine DW.tail (by kernel_rfl) ?_
     intro wd hI
     have hkd := hkB.call hI
     have td1 := hI.at_ sB1; have td2 := hI.at_ sB2
     have HK6 := Lib.hid hkd
     go_wp2_with (first | (go_at_call 25; refine (answer_ok sb Go q (T.drop q) _ 1 _ (HSE.out.kept HK6.out) (by rw [List.length_drop]; have := HT.out; omega) (by rw [List.length_drop]; omega) (by intro _; omega) (by omega)).mono ?_; rintro e w6 ⟨rfl, hS6, hb6⟩; have HB6 := Lib.hid hb6; have HS6 := Lib.hid hS6; clear hb6 hS6))
     go_ret2
     have nsb : s ≠ sb := HND.out.1.1
     have nsr : s ≠ rb := HND.out.1.2.1
     have nbr : sb ≠ rb := HND.out.2.1.1
     have ngb : ∀ g, G6 = some g → g ≠ rb ∧ g ≠ sb := fun g hg => by
       rcases HG6l.out g hg with h | h
       · exact ⟨fun e => HND.out.2.2.1.2 (e ▸ h), fun e => HND.out.2.1.2.2 (e ▸ h)⟩
       · exact ⟨by omega, by omega⟩
     have hO := HW3.out.2.2.1
     refine ⟨rfl, SessTo.all (lo := q + 1) H1.out H2.out H3.out ?_ ?_ (by omega) ?_ ?_ (((hO.but HB5.out (fun g hg => by simp; exact (ngb g hg).1)).kept HK6.out).but HB6.out (fun g hg => by simp; exact (ngb g hg).2)) ?_ fun x hx => H9.out x (List.mem_of_mem_eraseIdx hx)⟩
     · have := HS6.out
       rwa [List.drop_drop] at this
     · exact (HR5.out.kept HK6.out).but HB6.out (by simp; exact nbr.symm)
     · refine (HW3.out.1.mono fun x hx => ?_).trans ((HB5.out.mono fun x hx => ?_).trans ((But.of_kept HK6.out).trans (HB6.out.mono fun x hx => ?_)))
       · rw [H1.out]
         simp only [List.mem_cons, List.mem_append, List.cons_append, List.nil_append] at hx ⊢
         rcases hx with h | h
         · exact .inl h
         · exact .inr (.inr (.inr (.inr h)))
       · have : x = rb := by simpa using hx
         rw [H1.out, this]; simp
       · have : x = sb := by simpa using hx
         rw [H1.out, this]; simp
     · exact HB6.out.heap (HK6.out.heap (HB5.out.heap HW3.out.2.1 (by simp; exact nsr))) (by simp; exact nsb)
     · exact HW3.out.2.2.2.imp id fun ⟨g, h, h3, h4⟩ => ⟨g, h, h3, Nat.lt_of_lt_of_le h4 (Nat.le_trans HB5.out.size (Nat.le_trans HK6.out.size HB6.out.size))⟩)
end Go.Proofs.Ytbofoafcglmboaa
