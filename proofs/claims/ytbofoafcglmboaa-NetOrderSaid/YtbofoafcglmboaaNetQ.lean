/- A session whose way alone has turned; the net's Pick, where nothing is taken. -/
import Derived.Test.YtbofoafcglmboaaNetP
set_option linter.unusedSimpArgs false
set_option linter.unusedVariables false
namespace Go.Proofs.Ytbofoafcglmboaa
open Go.RowKit

theorem SessTo.way {w w' : World} {F : List Nat} {s lo sb rb : Nat} {T : List ByteArray} {way' : List Nat} {Go Gw G6 : Option Nat} {v6 : Value} (hF : F = [s, sb, rb] ++ Go.toList ++ Gw.toList) (hnd : F.Nodup) (hlt : ∀ x ∈ F, x < w.heap.size)
    (hS : Snd w sb Go lo (T.drop lo)) (hR : Recv w rb lo) (hlo : lo ≤ T.length) (hb : But (s :: Gw.toList) w w') (hh : w'.heap[s]? = some (.cells #[.pointer (some ⟨sb, 0, none⟩), .pointer (some ⟨rb, 0, none⟩), v6] 55 (0, 0)))
    (hO : OpenK w' G6 v6 way'.length 2 (wayC T way')) (hG : G6 = Gw ∨ ∃ g, G6 = some g ∧ w.heap.size ≤ g ∧ g < w'.heap.size) (hq : ∀ q ∈ way', q < T.length) : SessTo w w' F s T lo way' := by
  subst hF
  obtain ⟨⟨q1, q2, q3, q4⟩, ⟨q5, q6, q7⟩, ⟨q8, q9⟩, q10⟩ := nd5 hnd
  have hG6l : ∀ g ∈ G6.toList, g ∈ Gw.toList ∨ (w.heap.size ≤ g ∧ g < w'.heap.size) := fun g hg => by
    rcases hG with h | ⟨g', h, h3, h4⟩
    · exact .inl (h ▸ hg)
    · rw [h] at hg
      have : g = g' := by simpa using hg
      exact .inr ⟨by omega, by omega⟩
  have hs := hlt s (by simp)
  have hsb := hlt sb (by simp)
  have hrb := hlt rb (by simp)
  have lGo : ∀ g ∈ Go.toList, g < w.heap.size := fun g hg => hlt g (by simp at hg ⊢; simp [hg])
  have lGw : ∀ g ∈ Gw.toList, g < w.heap.size := fun g hg => hlt g (by simp at hg ⊢; simp [hg])
  have hz := hb.size
  refine ⟨[s, sb, rb] ++ Go.toList ++ G6.toList, ⟨sb, rb, Go, G6, v6, rfl, mk5 ⟨q1, q2, q5⟩ (fun x hx => ?_) (fun x hx => ?_) (fun x hx hy => ?_), fun x hx => ?_, hh, ?_, ?_, hO, hlo, hq⟩, ?_, fun x hx => ?_⟩
  · exact ⟨fun e => q3 (e ▸ hx), fun e => q6 (e ▸ hx), fun e => q8 (e ▸ hx)⟩
  · rcases hG6l x hx with h | ⟨h, _⟩
    · exact ⟨fun e => q4 (e ▸ h), fun e => q7 (e ▸ h), fun e => q9 (e ▸ h)⟩
    · exact ⟨by omega, by omega, by omega⟩
  · rcases hG6l x hy with g | ⟨g, g'⟩
    · exact q10 x hx g
    · have := lGo x hx; omega
  · simp only [List.cons_append, List.nil_append, List.mem_cons, List.mem_append] at hx
    rcases hx with rfl | rfl | rfl | hx | hx
    · omega
    · omega
    · omega
    · have := lGo x hx; omega
    · rcases hG6l x hx with h | ⟨h, h'⟩
      · have := lGw x h; omega
      · omega
  · refine hS.but hb (by simp only [List.mem_cons, not_or]; exact ⟨fun e => q1 e.symm, q7⟩) (fun g hg => ?_)
    have hgm : g ∈ Go.toList := by rw [hg]; simp
    simp only [List.mem_cons, not_or]
    exact ⟨fun e => q3 (e ▸ hgm), fun hx => q10 g hgm hx⟩
  · exact hR.but hb (by simp only [List.mem_cons, not_or]; exact ⟨fun e => q2 e.symm, q9⟩)
  · refine hb.mono (fun x hx => ?_)
    simp only [List.mem_cons, List.mem_append, List.cons_append, List.nil_append] at hx ⊢
    rcases hx with h | h
    · exact .inl h
    · exact .inr (.inr (.inr (.inr h)))
  · simp only [List.cons_append, List.nil_append, List.mem_cons, List.mem_append] at hx ⊢
    rcases hx with h | h | h | hx | hx
    · exact .inl (.inl h)
    · exact .inl (.inr (.inl h))
    · exact .inl (.inr (.inr (.inl h)))
    · exact .inl (.inr (.inr (.inr (.inl hx))))
    · rcases hG6l x hx with h | ⟨h, h'⟩
      · exact .inl (.inr (.inr (.inr (.inr h))))
      · exact .inr h
/-- A part of an open row that has no spare places. -/
theorem OpenK.pre {w : World} {G : Option Nat} {b off n cap k j : Nat} {xs : List Value} (h : OpenK w G (.slice (some ⟨b, off, none⟩) n cap) n k xs) (hj : j ≤ n) : OpenK w G (.slice (some ⟨b, off, none⟩) j j) j k (xs.take (j * k)) := by
  rcases h with ⟨h, _⟩ | ⟨b', off', cap', hv, hG, h1, h2, h3, h4, h5⟩
  · cases h
  · injection hv with hv1 hv2 hv3
    injection hv1 with hv1
    injection hv1 with e1 e2 _
    subst e1 e2 hv3
    have hjk : j * k ≤ n * k := Nat.mul_le_mul_right k hj
    have hnk : n * k ≤ cap * k := Nat.mul_le_mul_right k h1
    refine .inr ⟨b, off, j, rfl, hG, Nat.le_refl _, by omega, by rw [List.length_take]; omega, fun i hi => h4 i (by omega), fun i u hu => h5 i u ?_⟩
    have hi := (List.getElem?_eq_some_iff.1 hu).1
    rw [List.length_take] at hi
    rwa [List.getElem?_take_of_lt (by omega)] at hu
theorem npick_no (N M n a c s lo : Nat) (F : List Nat) (S : Who) (T : List ByteArray) (way : List Nat) (at_ how : Int) (w : World) (hN : NetAt w N M) (hM : PM w M n S) (ha : a < 6) (hc : c < 6) (hs : S a c = some s) (h : Sess w F s T lo way) (hw : way.length ≤ 4294967296) (ho : at_ < 0 ∨ (way.length : Int) ≤ at_) :
    Calls Try.prog 13 #[.pointer (some ⟨N, 0, none⟩), .int .i64 a, .int .i64 c, .int .i64 at_, .int .i64 how] w fun e w' => e = .returned (.tuple #[.string ⟨#[]⟩, .bool false]) ∧ Kept w w' := by
  obtain ⟨sb, rb, Go, Gw, v, h1, h2, h3, h4, h5, h6, h7, h8', h9⟩ := h
  obtain ⟨c0, c1, c2, _⟩ := three_cells h4
  have HN := Lib.hid hN
  have HM := Lib.hid hM
  have HS := Lib.hid hs
  obtain ⟨A0, cp0, rfl⟩ := h7.form
  have hd : decide (at_ < 0) = true ∨ (decide (at_ < 0) = false ∧ decide ((way.length : Int) ≤ at_) = true) := by
    by_cases h0 : at_ < 0
    · exact .inl (decide_eq_true h0)
    · exact .inr ⟨decide_eq_false h0, decide_eq_true (by omega)⟩
  clear hN hM hs h1 h2 h3 h4 h5 h6 h7 h9 ho
  rcases hd with hd | ⟨hd, hd2⟩
  all_goals
    (go_enter Try.func13, Try.ntmps13
     go_wp2_with fail
     refine (of_any N M n a c S _ HN.out HM.out ha hc).mono ?_
     rintro e w1 ⟨rfl, k1⟩
     rw [HS.out]
     have c2 := k1.at_ c2
     unfold ptr
     go_wp2_with fail
     go_ret2
     exact ⟨rfl, k1⟩)
set_option maxRecDepth 20000 in
set_option maxHeartbeats 2000000 in
theorem npick_double (N M n a c s lo at_ q : Nat) (F : List Nat) (S : Who) (T : List ByteArray) (way : List Nat) (how : Int) (w : World) (hN : NetAt w N M) (hM : PM w M n S) (ha : a < 6) (hc : c < 6) (hs : S a c = some s) (h : Sess w F s T lo way) (hw : way.length ≤ 4294967296) (hq : way[at_]? = some q) (hh : bits .and .i64 how 3 = 2) :
    Calls Try.prog 13 #[.pointer (some ⟨N, 0, none⟩), .int .i64 a, .int .i64 c, .int .i64 at_, .int .i64 how] w fun e w' => e = .returned (.tuple #[.string ⟨#[]⟩, .bool false]) ∧ SessTo w w' F s T lo (if way.length < 32 then way ++ [q] else way) := by
  obtain ⟨sb, rb, Go, Gw, v, h1, h2, h3, h4, h5, h6, h7, h8', h9⟩ := h
  obtain ⟨i0, hi, hz0, hz1, hz2⟩ := info_parts infoPk
  have HI := Lib.hid hi
  have H1 := Lib.hid h1
  have H2 := Lib.hid h2
  have H3 := Lib.hid h3
  have H4 := Lib.hid h4
  have H5 := Lib.hid h5
  have H6 := Lib.hid h6
  have H7 := Lib.hid h7
  have H9 := Lib.hid h9
  have HQ := Lib.hid hq
  obtain ⟨c0, c1, c2, f2⟩ := three_cells h4
  have HN := Lib.hid hN
  have HM := Lib.hid hM
  have HS := Lib.hid hs
  have hsz : s < w.heap.size := (Array.getElem?_eq_some_iff.1 h4).1
  have hnd := nd5 (h1 ▸ h2)
  have hsG : s ∉ Gw.toList := hnd.1.2.2.2
  have hatl : at_ < way.length := (List.getElem?_eq_some_iff.1 hq).1
  obtain ⟨hw1, hw2⟩ := wayC_at T way at_ q hq
  obtain ⟨A0, cp0, hv⟩ := h7.form
  subst hv
  obtain ⟨b, off, eA, eG, hnc, hcm, hcell⟩ := h7.cells (by omega)
  subst eA
  have z1 : w.cell? ⟨b, off + at_ * 2, none⟩ = some (.int .i64 (q : Int)) := hcell _ _ hw1
  have z2 : w.cell? ⟨b, off + at_ * 2 + 1, none⟩ = some (.string (tx T q)) := by have := hcell _ _ hw2; rwa [← Nat.add_assoc] at this
  unfold maxLen at hcm
  have hbz : b < w.heap.size := World.block_lt_of_cell? w _ z1
  have hd0 : decide ((at_ : Int) < 0) = false := by first | (simp; done) | (simp; omega)
  have hd1 : decide ((way.length : Int) ≤ (at_ : Int)) = false := by first | (simp; done) | (simp; omega)
  clear hN hM hs h2 h3 h4 h5 h6 h7 h9 hi hq hw1 hw2 hcell hnd eG
  by_cases h32 : way.length < 32
  · have hd2 : decide ((way.length : Int) < 32) = true := by simp; omega
    rw [if_pos h32]
    go_enter Try.func13, Try.ntmps13
    go_wp2_with fail
    refine (of_any N M n a c S _ HN.out HM.out ha hc).mono ?_
    rintro e w1 ⟨rfl, k1⟩
    rw [HS.out]
    have c2 := k1.at_ c2
    have z1 := k1.at_ z1
    have z2 := k1.at_ z2
    have hlt1 := Nat.lt_of_lt_of_le hsz k1.size
    have hltb := Nat.lt_of_lt_of_le hbz k1.size
    have hpG : w1.heap.size ∉ Gw.toList := fun hx => by
      have := H3.out w1.heap.size (by rw [H1.out]; simp only [List.mem_append]; exact .inr hx)
      have := k1.size
      omega
    unfold ptr
    go_wp2_with fail
    have HOQ : Hid (OpenK (w1.alloc (.cells #[.int .i64 q, .string (tx T q)] 60)) Gw (.slice (some ⟨b, off, none⟩) way.length cp0) way.length 2 (wayC T way)) := (H7.out.kept k1).kept ((Kept.refl w1).alloc _)
    obtain ⟨xs, hxs⟩ : ∃ xs, wayC T way = xs := ⟨_, rfl⟩
    have HXS := Lib.hid hxs
    have hxl : xs.length = way.length * 2 := by rw [← hxs]; exact wayC_len T way
    have HXL := Lib.hid hxl
    rw [hxs] at HOQ
    clear hxs hxl
    refine wp_region_text (keepsBut (Gw.toList)) (fun wB => But (Gw.toList) w1 wB ∧ wB.cell? ⟨s, 2, none⟩ = some (.slice (some ⟨b, off, none⟩) way.length cp0) ∧ wB.cell? ⟨w1.heap.size, 0, none⟩ = some (.int .i64 q) ∧ wB.cell? ⟨w1.heap.size, 1, none⟩ = some (.string (tx T q)) ∧ Hid (OpenK wB Gw (.slice (some ⟨b, off, none⟩) way.length cp0) way.length 2 xs)) ?_ (by kernel_rfl) (by kernel_rfl) _ (by (try simp only [List.append_eq, List.cons_append, List.nil_append, List.toList_toArray]); exact rfl) ?_
    · exact ⟨by repeat (first | exact But.refl _ _ | assumption | (refine But.alloc ?_ _) | (refine But.setCell ?_ (by first | (right; omega) | (right; simp; omega) | (left; simp)) _) | refine But.drew ?_ | refine But.drewN ?_ _ | (apply But.trans; rotate_left; assumption)), by first | assumption | go_simp, by first | assumption | go_simp, by first | assumption | go_simp, by first | assumption | skip⟩
    rintro wB ⟨hkB, sB1, sB2, sB3, HX⟩
    repeat (first | (apply DW.det; (focus (intro wd hI; have hkd := hkB.trans hI; have td1 := hI.at_ sB1 (by assumption); have td2 := hI.at_ sB2 (by assumption); have td3 := hI.at_ sB3 (by assumption); go_wp2_with (fail); refine StepPost.mk _ rfl ⟨rfl, ?_⟩; repeat (first | exact Kept.refl _ | assumption | (refine Kept.alloc ?_ _) | (refine Kept.setCell ?_ (by first | omega | (simp; omega) | simp) _) | refine Kept.drew ?_ | refine Kept.drewN ?_ _ | (apply Kept.call; rotate_left; assumption)))); simp only [Act.put, List.setIfInBounds_toArray, List.set_cons_succ, List.set_cons_zero]) | (refine DW.loud (by kernel_rfl) ?_; intro wd hI; have hkd := hkB.trans (But.of_kept hI); have td1 := hI.at_ sB1; have td2 := hI.at_ sB2; have td3 := hI.at_ sB3; go_wp2_with (at_builtin; refine append_openM _ rfl _ _ 37 rfl 60 i0 (.agg #[.int .i64 0, .string ⟨#[]⟩]) 2 24 Try.underlying37 HI.out hz0 hz1 hz2 rfl (by omega) Gw _ way.length 1 xs (HX.out.kept hI) HXL.out rfl _ 1 [.int .i64 q, .string (tx T q)] rfl rfl (new_cell2 hI) (one_two _ _) (by unfold maxLen; omega) (by omega) ?_; intro v6 w6 G6 C0 O6 hG6; have hG6 : (G6 = Gw ∨ ∃ g, G6 = some g ∧ w1.heap.size ≤ g ∧ g < w6.heap.size) := hG6.imp id (fun ⟨g, h, h3, h4⟩ => ⟨g, h, Nat.le_trans hkd.size h3, h4⟩)); refine StepPost.loud _ rfl (by repeat (first | exact But.refl _ _ | assumption | (refine But.alloc ?_ _) | (refine But.setCell ?_ (by first | (right; omega) | (right; simp; omega) | (left; simp)) _) | refine But.drew ?_ | refine But.drewN ?_ _ | (apply But.trans; rotate_left; assumption))) (fun hkL => ?_); have hkL2 := (But.of_kept (S := Gw.toList) hI).trans hkL; have hkB := hkB.trans hkL2; have sB1 := hkL2.at_ sB1 (by assumption); have sB2 := hkL2.at_ sB2 (by assumption); have sB3 := hkL2.at_ sB3 (by assumption); (first | have HX := Lib.hid (HX.out.kept (Kept.call hI (Kept.as1 hkL))) | have HX := Lib.hid (HX.out.kept (Kept.call hI (Kept.as0 hkL))) | skip); simp only [Act.put, List.setIfInBounds_toArray, List.set_cons_succ, List.set_cons_zero]))
    refine DW.tail (by kernel_rfl) ?_
    intro wd hI
    have hkd := hkB.trans (But.of_kept hI); have td1 := hI.at_ sB1; have td2 := hI.at_ sB2; have td3 := hI.at_ sB3
    have HSW : Hid (wd.heap[s]? = some (.cells #[.pointer (some ⟨sb, 0, none⟩), .pointer (some ⟨rb, 0, none⟩), .slice (some ⟨b, off, none⟩) way.length cp0] 55 (0, 0))) := hkd.heap (k1.heap H4.out) hsG
    have y1 := td1
    have y2 := freeOf HSW.out 2
    have HO6 := Lib.hid (O6.kept hI)
    have HG6 := Lib.hid hG6
    obtain ⟨A6, cp6, hv6⟩ := O6.form
    subst hv6
    clear O6 hG6 C0 HX
    go_wp2_with fail
    go_ret2
    refine ⟨rfl, SessTo.way H1.out H2.out H3.out H5.out H6.out h8' (v6 := .slice A6 (way.length + 1) cp6) (G6 := G6) ?_ ?_ ?_ ?_ ?_⟩
    · exact (((But.of_kept k1).trans (hkd.mono fun x hx => List.mem_cons_of_mem _ hx))).setCell (.inl (by simp)) _
    · have := HSW.out
      simp [World.setCell, Array.getElem?_modify, this]
    · have e : wayC T (way ++ [q]) = xs ++ [.int .i64 q, .string (tx T q)] := by
        rw [wayC_app, HXS.out]
        simp [wayC]
      rw [e, List.length_append]
      refine HO6.out.but ((But.refl _ _).setCell (.inl (List.mem_singleton.2 rfl)) _) (fun g hg => ?_)
      rw [List.mem_singleton]
      intro e
      have e : g = s := e
      rcases HG6.out with h | ⟨g', h, h3, h4⟩
      · exact hsG (by rw [← h, hg, e]; simp)
      · rw [hg] at h; injection h with h; omega
    · exact HG6.out.imp id fun ⟨g, h, h3, h4⟩ => ⟨g, h, by have := k1.size; omega, by rw [World.size_setCell]; have := hI.size; omega⟩
    · intro x hx
      rcases List.mem_append.1 hx with hx | hx
      · exact H9.out x hx
      · have : x = q := by simpa using hx
        rw [this]; exact H9.out q (List.mem_of_getElem? HQ.out)
  · have hd2 : decide ((way.length : Int) < 32) = false := by simp; omega
    rw [if_neg h32]
    go_enter Try.func13, Try.ntmps13
    go_wp2_with fail
    refine (of_any N M n a c S _ HN.out HM.out ha hc).mono ?_
    rintro e w1 ⟨rfl, k1⟩
    rw [HS.out]
    have c2 := k1.at_ c2
    have z1 := k1.at_ z1
    have z2 := k1.at_ z2
    have hlt1 := Nat.lt_of_lt_of_le hsz k1.size
    have hltb := Nat.lt_of_lt_of_le hbz k1.size
    unfold ptr
    go_wp2_with fail
    go_ret2
    have hk2 : Kept w (w1.alloc (.cells #[.int .i64 q, .string (tx T q)] 60)) := k1.alloc _
    exact ⟨rfl, F, Sess.keep (show Sess w F s T lo way from ⟨sb, rb, Go, Gw, _, H1.out, H2.out, H3.out, H4.out, H5.out, H6.out, H7.out, h8', H9.out⟩) hk2, .of_kept hk2, fun x hx => .inl hx⟩
end Go.Proofs.Ytbofoafcglmboaa
