/- The net's Pick, where a packet is taken off its way. -/
import Derived.Test.YtbofoafcglmboaaNetQ
set_option linter.unusedSimpArgs false
set_option linter.unusedVariables false
namespace Go.Proofs.Ytbofoafcglmboaa
open Go.RowKit

theorem SessTo.all {w w' : World} {F : List Nat} {s lo sb rb : Nat} {T : List ByteArray} {way' : List Nat} {Go Gw G6 : Option Nat} {v6 : Value} (hF : F = [s, sb, rb] ++ Go.toList ++ Gw.toList) (hnd : F.Nodup) (hlt : ∀ x ∈ F, x < w.heap.size)
    (hS : Snd w' sb Go lo (T.drop lo)) (hR : Recv w' rb lo) (hlo : lo ≤ T.length) (hb : But F w w') (hh : w'.heap[s]? = some (.cells #[.pointer (some ⟨sb, 0, none⟩), .pointer (some ⟨rb, 0, none⟩), v6] 55 (0, 0)))
    (hO : OpenK w' G6 v6 way'.length 2 (wayC T way')) (hG : G6 = Gw ∨ ∃ g, G6 = some g ∧ w.heap.size ≤ g ∧ g < w'.heap.size) (hq : ∀ q ∈ way', q < T.length) : SessTo w w' F s T lo way' := by
  subst hF
  obtain ⟨⟨q1, q2, q3, q4⟩, ⟨q5, q6, q7⟩, ⟨q8, q9⟩, q10⟩ := nd5 hnd
  have hG6l : ∀ g ∈ G6.toList, g ∈ Gw.toList ∨ (w.heap.size ≤ g ∧ g < w'.heap.size) := fun g hg => by
    rcases hG with h | ⟨g', h, h3, h4⟩
    · exact .inl (h ▸ hg)
    · rw [h] at hg
      have : g = g' := by simpa using hg
      exact .inr ⟨by omega, by omega⟩
  have hs := hlt s (by simp)
  have hsb := hlt sb (by simp)
  have hrb := hlt rb (by simp)
  have lGo : ∀ g ∈ Go.toList, g < w.heap.size := fun g hg => hlt g (by simp at hg ⊢; simp [hg])
  have lGw : ∀ g ∈ Gw.toList, g < w.heap.size := fun g hg => hlt g (by simp at hg ⊢; simp [hg])
  have hz := hb.size
  refine ⟨[s, sb, rb] ++ Go.toList ++ G6.toList, ⟨sb, rb, Go, G6, v6, rfl, mk5 ⟨q1, q2, q5⟩ (fun x hx => ?_) (fun x hx => ?_) (fun x hx hy => ?_), fun x hx => ?_, hh, hS, hR, hO, hlo, hq⟩, hb, fun x hx => ?_⟩
  · exact ⟨fun e => q3 (e ▸ hx), fun e => q6 (e ▸ hx), fun e => q8 (e ▸ hx)⟩
  · rcases hG6l x hx with h | ⟨h, _⟩
    · exact ⟨fun e => q4 (e ▸ h), fun e => q7 (e ▸ h), fun e => q9 (e ▸ h)⟩
    · exact ⟨by omega, by omega, by omega⟩
  · rcases hG6l x hy with g | ⟨g, g'⟩
    · exact q10 x hx g
    · have := lGo x hx; omega
  · simp only [List.cons_append, List.nil_append, List.mem_cons, List.mem_append] at hx
    rcases hx with rfl | rfl | rfl | hx | hx
    · omega
    · omega
    · omega
    · have := lGo x hx; omega
    · rcases hG6l x hx with h | ⟨h, h'⟩
      · have := lGw x h; omega
      · omega
  · simp only [List.cons_append, List.nil_append, List.mem_cons, List.mem_append] at hx ⊢
    rcases hx with h | h | h | hx | hx
    · exact .inl (.inl h)
    · exact .inl (.inr (.inl h))
    · exact .inl (.inr (.inr (.inl h)))
    · exact .inl (.inr (.inr (.inr (.inl hx))))
    · rcases hG6l x hx with h | ⟨h, h'⟩
      · exact .inl (.inr (.inr (.inr (.inr h))))
      · exact .inr h
theorem cut_row (T : List ByteArray) (way : List Nat) (k : Nat) (hk : k < way.length) : (wayC T way).take (k * 2) ++ wayC T (way.drop (k + 1)) = wayC T (way.eraseIdx k) ∧ k + (way.length - (k + 1)) = (way.eraseIdx k).length := by
  rw [wayC_take, ← wayC_app, ← List.eraseIdx_eq_take_drop_succ]
  exact ⟨rfl, by rw [List.length_eraseIdx, if_pos hk]; omega⟩
theorem cut_cells {w : World} {G : Option Nat} {b off n cp k : Nat} {xs : List Value} {T : List ByteArray} {way : List Nat} (h : OpenK w G (.slice (some ⟨b, off, none⟩) n cp) n 2 xs) (hx : wayC T way = xs) (hk : k < n) :
    ∀ (j : Nat) (u : Value), (wayC T (way.drop (k + 1)))[j]? = some u → w.cell? ((⟨b, off + (k + 1) * 2, none⟩ : Addr).add j) = some u := by
  intro j u hu
  obtain ⟨b', off', e, _, _, _, hc⟩ := h.cells (by omega)
  injection e with e
  injection e with e1 e2
  subst e1 e2
  rw [← wayC_drop, List.getElem?_drop] at hu
  have := hc _ _ (hx ▸ hu)
  have e : ((⟨b, off + (k + 1) * 2, none⟩ : Addr).add j) = ⟨b, off + ((k + 1) * 2 + j), none⟩ := by simp [Addr.add, Nat.add_assoc]
  rw [e]; exact this
set_option maxRecDepth 20000 in
set_option maxHeartbeats 2000000 in
theorem npick_drop (N M n a c s lo at_ q : Nat) (F : List Nat) (S : Who) (T : List ByteArray) (way : List Nat) (how : Int) (w : World) (hN : NetAt w N M) (hM : PM w M n S) (ha : a < 6) (hc : c < 6) (hs : S a c = some s) (h : Sess w F s T lo way) (hw : way.length ≤ 4294967296) (hq : way[at_]? = some q) (hh : bits .and .i64 how 3 = 1) :
    Calls Try.prog 13 #[.pointer (some ⟨N, 0, none⟩), .int .i64 a, .int .i64 c, .int .i64 at_, .int .i64 how] w fun e w' => e = .returned (.tuple #[.string ⟨#[]⟩, .bool false]) ∧ SessTo w w' F s T lo (way.eraseIdx at_) := by
  obtain ⟨sb, rb, Go, Gw, v, h1, h2, h3, h4, h5, h6, h7, h8', h9⟩ := h
  obtain ⟨i0, hi, hz0, hz1, hz2⟩ := info_parts infoPk
  have HI := Lib.hid hi
  have H1 := Lib.hid h1
  have H2 := Lib.hid h2
  have H3 := Lib.hid h3
  have H4 := Lib.hid h4
  have H5 := Lib.hid h5
  have H6 := Lib.hid h6
  have H7 := Lib.hid h7
  have H9 := Lib.hid h9
  have HQ := Lib.hid hq
  obtain ⟨c0, c1, c2, f2⟩ := three_cells h4
  have HN := Lib.hid hN
  have HM := Lib.hid hM
  have HS := Lib.hid hs
  have hsz : s < w.heap.size := (Array.getElem?_eq_some_iff.1 h4).1
  have hnd := nd5 (h1 ▸ h2)
  have HND := Lib.hid hnd
  have hsG : s ∉ Gw.toList := hnd.1.2.2.2
  have hatl : at_ < way.length := (List.getElem?_eq_some_iff.1 hq).1
  obtain ⟨hw1, hw2⟩ := wayC_at T way at_ q hq
  obtain ⟨A0, cp0, hv⟩ := h7.form
  subst hv
  obtain ⟨b, off, eA, eG, hnc, hcm, hcell⟩ := h7.cells (by omega)
  subst eA
  have z1 : w.cell? ⟨b, off + at_ * 2, none⟩ = some (.int .i64 (q : Int)) := hcell _ _ hw1
  have z2 : w.cell? ⟨b, off + at_ * 2 + 1, none⟩ = some (.string (tx T q)) := by have := hcell _ _ hw2; rwa [← Nat.add_assoc] at this
  unfold maxLen at hcm
  have hbz : b < w.heap.size := World.block_lt_of_cell? w _ z1
  have hd0 : decide ((at_ : Int) < 0) = false := by first | (simp; done) | (simp; omega)
  have hd1 : decide ((way.length : Int) ≤ (at_ : Int)) = false := by first | (simp; done) | (simp; omega)
  have HEG := Lib.hid eG
  have hnil : cp0 = at_ + 1 → wayC T (way.drop (at_ + 1)) = [] := fun e => by rw [List.drop_eq_nil_of_le (by omega)]; rfl
  have HNIL := Lib.hid hnil
  have hlen : way.length - (at_ + 1) = (way.drop (at_ + 1)).length := by simp
  have HLEN := Lib.hid hlen
  clear hN hM hs h2 h3 h4 h5 h6 h7 h9 hi hq hw1 hw2 hcell hnd eG hnil hlen
  rcases Decidable.em (cp0 = at_ + 1) with hcp | hcp
  all_goals
    (go_enter Try.func13, Try.ntmps13
     go_wp2_with fail
     refine (of_any N M n a c S _ HN.out HM.out ha hc).mono ?_
     rintro e w1 ⟨rfl, k1⟩
     rw [HS.out]
     have c0 := k1.at_ c0
     have c1 := k1.at_ c1
     have c2 := k1.at_ c2
     have z1 := k1.at_ z1
     have z2 := k1.at_ z2
     have hlt1 := Nat.lt_of_lt_of_le hsz k1.size
     have hltb := Nat.lt_of_lt_of_le hbz k1.size
     have hpG : w1.heap.size ∉ Gw.toList := fun hx => by
       have := H3.out w1.heap.size (by rw [H1.out]; simp only [List.mem_append]; exact .inr hx)
       have := k1.size
       omega
     unfold ptr
     go_wp2_with fail
     have HOQ : Hid (OpenK (w1.alloc (.cells #[.int .i64 q, .string (tx T q)] 60)) Gw (.slice (some ⟨b, off, none⟩) way.length cp0) way.length 2 (wayC T way)) := (H7.out.kept k1).kept ((Kept.refl w1).alloc _)
     obtain ⟨xs, hxs⟩ : ∃ xs, wayC T way = xs := ⟨_, rfl⟩
     have HXS := Lib.hid hxs
     have hxl : xs.length = way.length * 2 := by rw [← hxs]; exact wayC_len T way
     have HXL := Lib.hid hxl
     rw [hxs] at HOQ
     clear hxs hxl
     refine wp_region_text (keepsBut (Gw.toList)) (fun wB => But (Gw.toList) w1 wB ∧ wB.cell? ⟨s, 0, none⟩ = some (.pointer (some ⟨sb, 0, none⟩)) ∧ wB.cell? ⟨s, 1, none⟩ = some (.pointer (some ⟨rb, 0, none⟩)) ∧ wB.cell? ⟨s, 2, none⟩ = some (.slice (some ⟨b, off, none⟩) way.length cp0) ∧ wB.cell? ⟨w1.heap.size, 0, none⟩ = some (.int .i64 q) ∧ wB.cell? ⟨w1.heap.size, 1, none⟩ = some (.string (tx T q)) ∧ Hid (OpenK wB Gw (.slice (some ⟨b, off, none⟩) way.length cp0) way.length 2 xs)) ?_ (by kernel_rfl) (by kernel_rfl) _ (by (try simp only [List.append_eq, List.cons_append, List.nil_append, List.toList_toArray]); exact rfl) ?_
     · exact ⟨by repeat (first | exact But.refl _ _ | assumption | (refine But.alloc ?_ _) | (refine But.setCell ?_ (by first | (right; omega) | (right; simp; omega) | (left; simp)) _) | refine But.drew ?_ | refine But.drewN ?_ _ | (apply But.trans; rotate_left; assumption)), by first | assumption | go_simp, by first | assumption | go_simp, by first | assumption | go_simp, by first | assumption | go_simp, by first | assumption | go_simp, by first | assumption | skip⟩
     rintro wB ⟨hkB, sB1, sB2, sB3, sB4, sB5, HX⟩
     repeat (first | (apply DW.det; (focus (intro wd hI; have hkd := hkB.trans hI; have td1 := hI.at_ sB1 (by assumption); have td2 := hI.at_ sB2 (by assumption); have td3 := hI.at_ sB3 (by assumption); have td4 := hI.at_ sB4 (by assumption); have td5 := hI.at_ sB5 (by assumption); go_wp2_with (fail); refine StepPost.mk _ rfl ⟨rfl, ?_⟩; repeat (first | exact Kept.refl _ | assumption | (refine Kept.alloc ?_ _) | (refine Kept.setCell ?_ (by first | omega | (simp; omega) | simp) _) | refine Kept.drew ?_ | refine Kept.drewN ?_ _ | (apply Kept.call; rotate_left; assumption)))); simp only [Act.put, List.setIfInBounds_toArray, List.set_cons_succ, List.set_cons_zero]) | (refine DW.loud (by kernel_rfl) ?_; intro wd hI; have hkd := hkB.trans (But.of_kept hI); have td1 := hI.at_ sB1; have td2 := hI.at_ sB2; have td3 := hI.at_ sB3; have td4 := hI.at_ sB4; have td5 := hI.at_ sB5; go_wp2_with (at_builtin; refine append_openM _ rfl _ _ 37 rfl 60 i0 (.agg #[.int .i64 0, .string ⟨#[]⟩]) 2 24 Try.underlying37 HI.out hz0 hz1 hz2 rfl (by omega) Gw _ at_ (way.length - (at_ + 1)) (xs.take (at_ * 2)) ((HX.out.kept hI).pre (by omega)) (by rw [List.length_take, HXL.out]; omega) rfl _ _ (wayC T (way.drop (at_ + 1))) rfl (by rw [wayC_len, HLEN.out]) (by first | exact cut_cells (HX.out.kept hI) HXS.out (by omega) | (rw [HNIL.out hcp]; intro j u hu; simp at hu; done)) (wayC_one _ _) (by unfold maxLen; omega) (by omega) ?_; intro v6 w6 G6 C0 O6 hG6; have hG6 : (G6 = Gw ∨ ∃ g, G6 = some g ∧ w1.heap.size ≤ g ∧ g < w6.heap.size) := hG6.imp id (fun ⟨g, h, h3, h4⟩ => ⟨g, h, Nat.le_trans hkd.size h3, h4⟩)); refine StepPost.loud _ rfl (by repeat (first | exact But.refl _ _ | assumption | (refine But.alloc ?_ _) | (refine But.setCell ?_ (by first | (right; omega) | (right; simp; omega) | (left; simp)) _) | refine But.drew ?_ | refine But.drewN ?_ _ | (apply But.trans; rotate_left; assumption))) (fun hkL => ?_); have hkL2 := (But.of_kept (S := Gw.toList) hI).trans hkL; have hkB := hkB.trans hkL2; have sB1 := hkL2.at_ sB1 (by assumption); have sB2 := hkL2.at_ sB2 (by assumption); have sB3 := hkL2.at_ sB3 (by assumption); have sB4 := hkL2.at_ sB4 (by assumption); have sB5 := hkL2.at_ sB5 (by assumption); (first | have HX := Lib.hid (HX.out.kept (Kept.call hI (Kept.as1 hkL))) | have HX := Lib.hid (HX.out.kept (Kept.call hI (Kept.as0 hkL))) | skip); simp only [Act.put, List.setIfInBounds_toArray, List.set_cons_succ, List.set_cons_zero]))
     refine DW.tail (by kernel_rfl) ?_
     intro wd hI
     have hkd := hkB.trans (But.of_kept hI); have td1 := hI.at_ sB1; have td2 := hI.at_ sB2; have td3 := hI.at_ sB3; have td4 := hI.at_ sB4; have td5 := hI.at_ sB5
     have HSW : Hid (wd.heap[s]? = some (.cells #[.pointer (some ⟨sb, 0, none⟩), .pointer (some ⟨rb, 0, none⟩), .slice (some ⟨b, off, none⟩) way.length cp0] 55 (0, 0))) := hkd.heap (k1.heap H4.out) hsG
     have y2 := freeOf HSW.out 2
     have HO6 := Lib.hid (O6.kept hI)
     have HG6 := Lib.hid hG6
     have HHI := Lib.hid hI
     have HKD := Lib.hid hkd
     obtain ⟨A6, cp6, hv6⟩ := O6.form
     subst hv6
     clear O6 hG6 C0 HX
     obtain ⟨m6, hm6⟩ : ∃ m6, at_ + (way.length - (at_ + 1)) = m6 := ⟨_, rfl⟩
     rw [hm6] at HO6
     simp only [hm6]
     have HW3 : Hid (But (s :: Gw.toList) w (wd.setCell ⟨s, 2, none⟩ (.slice A6 m6 cp6)) ∧ (wd.setCell ⟨s, 2, none⟩ (.slice A6 m6 cp6)).heap[s]? = some (.cells #[.pointer (some ⟨sb, 0, none⟩), .pointer (some ⟨rb, 0, none⟩), .slice A6 m6 cp6] 55 (0, 0)) ∧
         OpenK (wd.setCell ⟨s, 2, none⟩ (.slice A6 m6 cp6)) G6 (.slice A6 m6 cp6) (way.eraseIdx at_).length 2 (wayC T (way.eraseIdx at_)) ∧ (G6 = Gw ∨ ∃ g, G6 = some g ∧ w.heap.size ≤ g ∧ g < (wd.setCell ⟨s, 2, none⟩ (.slice A6 m6 cp6)).heap.size)) := by
       refine ⟨(((But.of_kept k1).trans (hkd.mono fun x hx => List.mem_cons_of_mem _ hx))).setCell (.inl (by simp)) _, ?_, ?_, ?_⟩
       · have := HSW.out
         simp [World.setCell, Array.getElem?_modify, this]
       · obtain ⟨e1, e2⟩ := cut_row T way at_ hatl
         rw [← e1, ← e2, hm6, HXS.out]
         refine HO6.out.but ((But.refl _ _).setCell (.inl (List.mem_singleton.2 rfl)) _) (fun g hg => ?_)
         rw [List.mem_singleton]
         intro e
         have e : g = s := e
         rcases HG6.out with h | ⟨g', h, h3, h4⟩
         · exact hsG (by rw [← h, hg, e]; simp)
         · rw [hg] at h; injection h with h; omega
       · exact HG6.out.imp id fun ⟨g, h, h3, h4⟩ => ⟨g, h, by have := k1.size; omega, by rw [World.size_setCell]; have := hI.size; omega⟩
     clear hm6
     go_wp2_with fail
     go_ret2
     exact ⟨rfl, SessTo.way H1.out H2.out H3.out H5.out H6.out h8' HW3.out.1 HW3.out.2.1 HW3.out.2.2.1 HW3.out.2.2.2 fun x hx => H9.out x (List.mem_of_mem_eraseIdx hx)⟩)
end Go.Proofs.Ytbofoafcglmboaa
