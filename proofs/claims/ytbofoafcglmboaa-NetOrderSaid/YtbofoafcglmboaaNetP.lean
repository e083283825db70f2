/- The net's Send. -/
import Derived.Test.YtbofoafcglmboaaNetO
set_option linter.unusedSimpArgs false
set_option linter.unusedVariables false
namespace Go.Proofs.Ytbofoafcglmboaa
open Go.RowKit

theorem new_cell2 {w0 wd : World} {x y : Value} {t : TypeId} (h : Kept (w0.alloc (.cells #[x, y] t)) wd) : ∀ (j : Nat) (u : Value), [x, y][j]? = some u → wd.cell? ((⟨w0.heap.size, 0, none⟩ : Addr).add j) = some u :=
  news_two (h.heap (heap_alloc_new _ _))
theorem nd5 {s sb rb : Nat} {A B : Option Nat} (h2 : ([s, sb, rb] ++ A.toList ++ B.toList).Nodup) : (s ≠ sb ∧ s ≠ rb ∧ s ∉ A.toList ∧ s ∉ B.toList) ∧ (sb ≠ rb ∧ sb ∉ A.toList ∧ sb ∉ B.toList) ∧ (rb ∉ A.toList ∧ rb ∉ B.toList) ∧ ∀ x ∈ A.toList, x ∉ B.toList := by
  simp only [List.cons_append, List.nil_append, List.nodup_cons, List.mem_cons, List.mem_append, List.nodup_append, not_or] at h2
  obtain ⟨⟨a1, a2, a3, a4⟩, ⟨b1, b2, b3⟩, ⟨d1, d2⟩, e1, e2, e3⟩ := h2
  exact ⟨⟨a1, a2, a3, a4⟩, ⟨b1, b2, b3⟩, ⟨d1, d2⟩, fun x hx hy => e3 x hx x hy rfl⟩
theorem mk5 {s sb rb : Nat} {A B : Option Nat} (h1 : s ≠ sb ∧ s ≠ rb ∧ sb ≠ rb) (hA : ∀ x ∈ A.toList, x ≠ s ∧ x ≠ sb ∧ x ≠ rb) (hB : ∀ x ∈ B.toList, x ≠ s ∧ x ≠ sb ∧ x ≠ rb) (hAB : ∀ x ∈ A.toList, x ∉ B.toList) : ([s, sb, rb] ++ A.toList ++ B.toList).Nodup := by
  have nA : A.toList.Nodup := by cases A <;> simp
  have nB : B.toList.Nodup := by cases B <;> simp
  simp only [List.cons_append, List.nil_append, List.nodup_cons, List.mem_cons, List.mem_append, List.nodup_append, not_or]
  exact ⟨⟨h1.1, h1.2.1, fun h => (hA s h).1 rfl, fun h => (hB s h).1 rfl⟩, ⟨h1.2.2, fun h => (hA sb h).2.1 rfl, fun h => (hB sb h).2.1 rfl⟩, ⟨fun h => (hA rb h).2.2 rfl, fun h => (hB rb h).2.2 rfl⟩, nA, nB, fun a ha b hb e => hAB a ha (e ▸ hb)⟩
/-- What comes of a session behind an operation: its blocks may be new ones. -/
def SessTo (w w' : World) (F : List Nat) (s : Nat) (T : List ByteArray) (lo : Nat) (way : List Nat) : Prop :=
  ∃ F', Sess w' F' s T lo way ∧ But F w w' ∧ ∀ x ∈ F', x ∈ F ∨ w.heap.size ≤ x
theorem nsend_full (N M n a c s lo : Nat) (F : List Nat) (S : Who) (T : List ByteArray) (way : List Nat) (d : ByteArray) (w : World) (hN : NetAt w N M) (hM : PM w M n S) (ha : a < 6) (hc : c < 6) (hs : S a c = some s) (h : Sess w F s T lo way) (h8 : 8 ≤ T.length - lo) :
    Calls Try.prog 11 #[.pointer (some ⟨N, 0, none⟩), .int .i64 a, .int .i64 c, .string d] w fun e w' => e = .returned (.int .i64 15) ∧ Kept w w' := by
  obtain ⟨sb, rb, Go, Gw, v, h1, h2, h3, h4, h5, h6, h7, h8', h9⟩ := h
  obtain ⟨c0, c1, c2, _⟩ := three_cells h4
  have HN := Lib.hid hN
  have HM := Lib.hid hM
  have HS := Lib.hid hs
  have H5 := Lib.hid h5
  clear hN hM hs h1 h2 h3 h4 h5 h6 h7 h9
  go_enter Try.func11, Try.ntmps11
  go_wp2_with fail
  refine (of_any N M n a c S _ HN.out HM.out ha hc).mono ?_
  rintro e w1 ⟨rfl, k1⟩
  rw [HS.out]
  have c0 := k1.at_ c0
  unfold ptr
  go_wp2_with fail
  refine (send_full sb Go lo _ d _ (H5.out.kept k1) (by rw [List.length_drop]; exact h8)).mono ?_
  rintro e w2 ⟨rfl, k2⟩
  go_wp2_with fail
  go_ret
  exact ⟨rfl, by repeat (first | exact Kept.refl _ | assumption | (refine Kept.alloc ?_ _) | (refine Kept.setCell ?_ (by first | omega | (simp; omega) | simp) _) | refine Kept.drew ?_ | refine Kept.drewN ?_ _ | (apply Kept.call; rotate_left; assumption))⟩
set_option maxRecDepth 20000 in
set_option maxHeartbeats 2000000 in
theorem nsend_ok (N M n a c s lo : Nat) (F : List Nat) (S : Who) (T : List ByteArray) (way : List Nat) (d : ByteArray) (w : World) (hN : NetAt w N M) (hM : PM w M n S) (ha : a < 6) (hc : c < 6) (hs : S a c = some s) (h : Sess w F s T lo way) (h8 : T.length - lo < 8) (hT : T.length ≤ 4294967296) (hw : way.length ≤ 4294967296) :
    Calls Try.prog 11 #[.pointer (some ⟨N, 0, none⟩), .int .i64 a, .int .i64 c, .string d] w fun e w' => e = .returned (.int .i64 0) ∧ SessTo w w' F s (T ++ [d]) lo (way ++ [T.length]) := by
  obtain ⟨sb, rb, Go, Gw, v, h1, h2, h3, h4, h5, h6, h7, h8', h9⟩ := h
  obtain ⟨i0, hi, hz0, hz1, hz2⟩ := info_parts infoPk
  have HI := Lib.hid hi
  have H1 := Lib.hid h1
  have H2 := Lib.hid h2
  have H3 := Lib.hid h3
  have H4 := Lib.hid h4
  have H6 := Lib.hid h6
  have H7 := Lib.hid h7
  have H9 := Lib.hid h9
  obtain ⟨c0, c1, c2, f2⟩ := three_cells h4
  have HN := Lib.hid hN
  have HM := Lib.hid hM
  have HS := Lib.hid hs
  have H5 := Lib.hid h5
  have hsz : s < w.heap.size := (Array.getElem?_eq_some_iff.1 h4).1
  subst h1
  have hnd := nd5 h2
  have HND := Lib.hid hnd
  have hsG : s ∉ Gw.toList := hnd.1.2.2.2
  clear hN hM hs h2 h3 h4 h5 h6 h7 h9 hi hnd
  go_enter Try.func11, Try.ntmps11
  go_wp2_with fail
  refine (of_any N M n a c S _ HN.out HM.out ha hc).mono ?_
  rintro e w1 ⟨rfl, k1⟩
  rw [HS.out]
  have c0 := k1.at_ c0
  unfold ptr
  go_wp2_with fail
  refine (send_ok sb Go lo _ d _ (H5.out.kept k1) (by rw [List.length_drop]; exact h8) (by rw [List.length_drop]; omega)).mono ?_
  rintro e w2 ⟨rfl, G2, hG2, hs2, hb2⟩
  have hseq : Hid (((lo + (T.drop lo).length : Nat) : Int) = (T.length : Int)) := by unfold Hid; rw [List.length_drop]; omega
  rw [hseq.out]
  have HB2 := Lib.hid hb2
  have HG2 := Lib.hid hG2
  have HS2 := Lib.hid hs2
  have hsX : s ∉ (sb :: Go.toList) := by simp only [List.mem_cons, not_or]; exact ⟨HND.out.1.1, HND.out.1.2.2.1⟩
  have c2 := hb2.at_ (k1.at_ c2) hsX
  have hs2w : s < w2.heap.size := World.block_lt_of_cell? w2 _ c2
  have HO2 : Hid (OpenK w2 Gw v way.length 2 (wayC T way)) := (H7.out.kept k1).but hb2 (fun g hg => by
    have hgm : g ∈ Gw.toList := by rw [hg]; simp
    simp only [List.mem_cons, not_or]
    exact ⟨fun e => HND.out.2.1.2.2 (e ▸ hgm), fun hx => HND.out.2.2.2 g hx hgm⟩)
  have hgwl : Hid (∀ g, Gw = some g → g < w2.heap.size) := fun g hg => Nat.lt_of_lt_of_le (H3.out g (by rw [hg]; simp)) (Nat.le_trans k1.size hb2.size)
  have hpG : w2.heap.size ∉ Gw.toList := fun hx => by
    have := hgwl.out w2.heap.size (by simpa using hx)
    omega
  clear hs2 hb2 hG2
  obtain ⟨A0, cp0, hv⟩ := HO2.out.form
  have HV := Lib.hid hv
  subst hv
  go_wp2_with fail
  have HOQ : Hid (OpenK (w2.alloc (.cells #[.int .i64 T.length, .string d] 60)) Gw (.slice A0 way.length cp0) way.length 2 (wayC T way)) := HO2.out.kept ((Kept.refl w2).alloc _)
  obtain ⟨xs, hxs⟩ : ∃ xs, wayC T way = xs := ⟨_, rfl⟩
  have HXS := Lib.hid hxs
  have hxl : xs.length = way.length * 2 := by rw [← hxs]; exact wayC_len T way
  have HXL := Lib.hid hxl
  rw [hxs] at HOQ
  clear hxs hxl
  refine wp_region_text (keepsBut (Gw.toList)) (fun wB => But (Gw.toList) w2 wB ∧ wB.cell? ⟨s, 2, none⟩ = some (.slice A0 way.length cp0) ∧ wB.cell? ⟨w2.heap.size, 0, none⟩ = some (.int .i64 T.length) ∧ wB.cell? ⟨w2.heap.size, 1, none⟩ = some (.string d) ∧ Hid (OpenK wB Gw (.slice A0 way.length cp0) way.length 2 xs)) ?_ (by kernel_rfl) (by kernel_rfl) _ (by (try simp only [List.append_eq, List.cons_append, List.nil_append, List.toList_toArray]); exact rfl) ?_
  · exact ⟨by repeat (first | exact But.refl _ _ | assumption | (refine But.alloc ?_ _) | (refine But.setCell ?_ (by first | (right; omega) | (right; simp; omega) | (left; simp)) _) | refine But.drew ?_ | refine But.drewN ?_ _ | (apply But.trans; rotate_left; assumption)), by first | assumption | go_simp, by first | assumption | go_simp, by first | assumption | go_simp, by first | assumption | skip⟩
  rintro wB ⟨hkB, sB1, sB2, sB3, HX⟩
  repeat (first | (apply DW.det; (focus (intro wd hI; have hkd := hkB.trans hI; have td1 := hI.at_ sB1 (by assumption); have td2 := hI.at_ sB2 (by assumption); have td3 := hI.at_ sB3 (by assumption); go_wp2_with (fail); refine StepPost.mk _ rfl ⟨rfl, ?_⟩; repeat (first | exact Kept.refl _ | assumption | (refine Kept.alloc ?_ _) | (refine Kept.setCell ?_ (by first | omega | (simp; omega) | simp) _) | refine Kept.drew ?_ | refine Kept.drewN ?_ _ | (apply Kept.call; rotate_left; assumption)))); simp only [Act.put, List.setIfInBounds_toArray, List.set_cons_succ, List.set_cons_zero]) | (refine DW.loud (by kernel_rfl) ?_; intro wd hI; have hkd := hkB.trans (But.of_kept hI); have td1 := hI.at_ sB1; have td2 := hI.at_ sB2; have td3 := hI.at_ sB3; go_wp2_with (at_builtin; refine append_openM _ rfl _ _ 37 rfl 60 i0 (.agg #[.int .i64 0, .string ⟨#[]⟩]) 2 24 Try.underlying37 HI.out hz0 hz1 hz2 rfl (by omega) Gw _ way.length 1 xs (HX.out.kept hI) HXL.out rfl _ 1 [.int .i64 T.length, .string d] rfl rfl (new_cell2 hI) (one_two _ _) (by unfold maxLen; omega) (by omega) ?_; intro v6 w6 G6 C0 O6 hG6; have hG6 : (G6 = Gw ∨ ∃ g, G6 = some g ∧ w2.heap.size ≤ g ∧ g < w6.heap.size) := hG6.imp id (fun ⟨g, h, h3, h4⟩ => ⟨g, h, Nat.le_trans hkd.size h3, h4⟩)); refine StepPost.loud _ rfl (by repeat (first | exact But.refl _ _ | assumption | (refine But.alloc ?_ _) | (refine But.setCell ?_ (by first | (right; omega) | (right; simp; omega) | (left; simp)) _) | refine But.drew ?_ | refine But.drewN ?_ _ | (apply But.trans; rotate_left; assumption))) (fun hkL => ?_); have hkL2 := (But.of_kept (S := Gw.toList) hI).trans hkL; have hkB := hkB.trans hkL2; have sB1 := hkL2.at_ sB1 (by assumption); have sB2 := hkL2.at_ sB2 (by assumption); have sB3 := hkL2.at_ sB3 (by assumption); (first | have HX := Lib.hid (HX.out.kept (Kept.call hI (Kept.as1 hkL))) | have HX := Lib.hid (HX.out.kept (Kept.call hI (Kept.as0 hkL))) | skip); simp only [Act.put, List.setIfInBounds_toArray, List.set_cons_succ, List.set_cons_zero]))
  refine DW.tail (by kernel_rfl) ?_
  intro wd hI
  have hkd := hkB.trans (But.of_kept hI); have td1 := hI.at_ sB1; have td2 := hI.at_ sB2; have td3 := hI.at_ sB3
  have HSW : Hid (wd.heap[s]? = some (.cells #[.pointer (some ⟨sb, 0, none⟩), .pointer (some ⟨rb, 0, none⟩), .slice A0 way.length cp0] 55 (0, 0))) := hkd.heap (HB2.out.heap (k1.heap H4.out) hsX) hsG
  have y1 := td1
  have y2 := freeOf HSW.out 2
  have HO6 := Lib.hid (O6.kept hI)
  have HG6 := Lib.hid hG6
  obtain ⟨A6, cp6, hv6⟩ := O6.form
  subst hv6
  clear O6 hG6 C0 HX
  go_wp2_with fail
  go_ret
  have hG2l : ∀ g ∈ G2.toList, g ∈ Go.toList ∨ (w.heap.size ≤ g ∧ g < w2.heap.size) := fun g hg => by
    rcases HG2.out with h | ⟨g', h, h3, h4⟩
    · exact .inl (h ▸ hg)
    · rw [h] at hg
      have : g = g' := by simpa using hg
      exact .inr ⟨by have := k1.size; omega, by omega⟩
  have hzw : w.heap.size ≤ w2.heap.size := Nat.le_trans k1.size HB2.out.size
  have hG6l : ∀ g ∈ G6.toList, g ∈ Gw.toList ∨ (w2.heap.size ≤ g ∧ g < wd.heap.size) := fun g hg => by
    rcases HG6.out with h | ⟨g', h, h3, h4⟩
    · exact .inl (h ▸ hg)
    · rw [h] at hg
      have : g = g' := by simpa using hg
      have h5 := hI.size
      exact .inr ⟨by omega, by omega⟩
  have hlt : ∀ x ∈ ([s, sb, rb] ++ Go.toList ++ Gw.toList), x < w.heap.size := H3.out
  have hsb := hlt sb (by simp)
  have hrb := hlt rb (by simp)
  obtain ⟨⟨q1, q2, q3, q4⟩, ⟨q5, q6, q7⟩, ⟨q8, q9⟩, q10⟩ := HND.out
  have hwd : w2.heap.size ≤ wd.heap.size := hkd.size
  have lGo : ∀ g ∈ Go.toList, g < w.heap.size := fun g hg => hlt g (by simp at hg ⊢; simp [hg])
  have lGw : ∀ g ∈ Gw.toList, g < w.heap.size := fun g hg => hlt g (by simp at hg ⊢; simp [hg])
  refine ⟨rfl, [s, sb, rb] ++ G2.toList ++ G6.toList, ⟨sb, rb, G2, G6, .slice A6 (way.length + 1) cp6, rfl, mk5 ⟨q1, q2, q5⟩ (fun x hx => ?_) (fun x hx => ?_) (fun x hx hy => ?_), fun x hx => ?_, ?_, ?_, ?_, ?_, ?_, ?_⟩, ?_, fun x hx => ?_⟩
  · rcases hG2l x hx with h | ⟨h, _⟩
    · exact ⟨fun e => q3 (e ▸ h), fun e => q6 (e ▸ h), fun e => q8 (e ▸ h)⟩
    · exact ⟨by omega, by omega, by omega⟩
  · rcases hG6l x hx with h | ⟨h, _⟩
    · exact ⟨fun e => q4 (e ▸ h), fun e => q7 (e ▸ h), fun e => q9 (e ▸ h)⟩
    · exact ⟨by omega, by omega, by omega⟩
  · rcases hG2l x hx with h | ⟨h, h'⟩ <;> rcases hG6l x hy with g | ⟨g, g'⟩
    · exact q10 x h g
    · have := lGo x h; omega
    · have := lGw x g; omega
    · omega
  · rw [World.size_setCell]
    simp only [List.cons_append, List.nil_append, List.mem_cons, List.mem_append] at hx
    rcases hx with rfl | rfl | rfl | hx | hx
    · omega
    · omega
    · omega
    · rcases hG2l x hx with h | ⟨h, h'⟩
      · have := lGo x h; omega
      · omega
    · rcases hG6l x hx with h | ⟨h, h'⟩
      · have := lGw x h; omega
      · omega
  · have := HSW.out
    simp [World.setCell, Array.getElem?_modify, this]
  · rw [List.drop_append_of_le_length h8']
    have hbx : But (s :: Gw.toList) w2 (wd.setCell ⟨s, 2, none⟩ (.slice A6 (way.length + 1) cp6)) := (hkd.mono (fun x hx => List.mem_cons_of_mem _ hx)).setCell (.inl (by simp)) _
    refine HS2.out.but hbx (by simp only [List.mem_cons, not_or]; exact ⟨fun e => q1 e.symm, q7⟩) (fun g hg => ?_)
    have hgm : g ∈ G2.toList := by rw [hg]; simp
    simp only [List.mem_cons, not_or]
    rcases hG2l g hgm with h | ⟨h, h'⟩
    · exact ⟨fun e => q3 (e ▸ h), fun hx => q10 g h hx⟩
    · exact ⟨by omega, fun hx => by have := lGw g hx; omega⟩
  · have hbx : But (s :: sb :: Go.toList ++ Gw.toList) w1 (wd.setCell ⟨s, 2, none⟩ (.slice A6 (way.length + 1) cp6)) := ((HB2.out.mono (fun x hx => by simp only [List.mem_cons, List.mem_append, List.cons_append] at hx ⊢; rcases hx with h | h; exact .inr (.inl h); exact .inr (.inr (.inl h)))).trans (hkd.mono (fun x hx => by simp only [List.mem_cons, List.mem_append, List.cons_append]; exact .inr (.inr (.inr hx))))).setCell (.inl (by simp)) _
    refine (H6.out.kept k1).but hbx ?_
    simp only [List.cons_append, List.mem_cons, List.mem_append, not_or]
    exact ⟨fun e => q2 e.symm, fun e => q5 e.symm, q8, q9⟩
  · have e : wayC (T ++ [d]) (way ++ [T.length]) = xs ++ [.int .i64 T.length, .string d] := by
      rw [wayC_app, wayC_more d H9.out, HXS.out]
      simp [wayC, tx_last]
    rw [e, List.length_append]
    refine HO6.out.but ((But.refl _ _).setCell (.inl (List.mem_singleton.2 rfl)) _) (fun g hg => ?_)
    have hgm : g ∈ G6.toList := by rw [hg]; simp
    rw [List.mem_singleton]
    intro e
    have e : g = s := e
    rcases hG6l g hgm with h | ⟨h, _⟩
    · exact q4 (e ▸ h)
    · omega
  · simp; omega
  · intro q hq
    rcases List.mem_append.1 hq with hq | hq
    · have := H9.out q hq; simp; omega
    · simp at hq; simp; omega
  · refine (((But.of_kept k1).trans (HB2.out.mono (fun x hx => ?_))).trans (hkd.mono (fun x hx => ?_))).setCell (.inl (by simp)) _
    · simp only [List.mem_cons, List.mem_append, List.cons_append, List.nil_append] at hx ⊢
      rcases hx with h | h
      · exact .inr (.inl h)
      · exact .inr (.inr (.inr (.inl h)))
    · simp only [List.mem_cons, List.mem_append, List.cons_append, List.nil_append]
      exact .inr (.inr (.inr (.inr hx)))
  · simp only [List.cons_append, List.nil_append, List.mem_cons, List.mem_append] at hx ⊢
    rcases hx with h | h | h | hx | hx
    · exact .inl (.inl h)
    · exact .inl (.inr (.inl h))
    · exact .inl (.inr (.inr (.inl h)))
    · rcases hG2l x hx with h | ⟨h, h'⟩
      · exact .inl (.inr (.inr (.inr (.inl h))))
      · exact .inr h
    · rcases hG6l x hx with h | ⟨h, h'⟩
      · exact .inl (.inr (.inr (.inr (.inr h))))
      · exact .inr (by omega)
end Go.Proofs.Ytbofoafcglmboaa
