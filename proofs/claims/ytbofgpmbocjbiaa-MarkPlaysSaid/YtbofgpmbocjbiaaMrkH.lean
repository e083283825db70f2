/- The drain's Stop. -/
import Derived.Test.YtbofgpmbocjbiaaMrkG
import Derived.Handy
set_option linter.unusedSimpArgs false
set_option linter.unusedVariables false
namespace Go.Proofs.Ytbofgpmbocjbiaa
open Go.RowKit Go.Maps

def stopR (ps : List Int) (st : DSt) (a : Int) : Int := if inB ps.length a = false then 1 else if st.S a = true then 13 else 0
noncomputable def stopD (ps : List Int) (st : DSt) (a : Int) : DSt := if stopR ps st a = 0 then stopI (st.stop a) a (nearOf ps a) else st
/-- What is not the drain's stays. -/
def FR (w0 : World) (X : List Nat) (w w' : World) : Prop := w.heap.size ≤ w'.heap.size ∧ (∀ x ∈ X, w'.heap[x]? = w.heap[x]?) ∧ (Kept w0 w → Kept w0 w')
theorem DrTo.fr {w0 w w' : World} {X : List Nat} {D : Nat} {ps : List Int} {st : DSt} (h : DrTo w0 X w w' D ps st) : FR w0 X w w' := ⟨h.2.1, h.2.2.1, h.2.2.2⟩
theorem FR.trans {w0 a b c : World} {X : List Nat} (h : FR w0 X a b) (k : FR w0 X b c) : FR w0 X a c := ⟨Nat.le_trans h.1 k.1, fun x hx => (k.2.1 x hx).trans (h.2.1 x hx), fun g => k.2.2 (h.2.2 g)⟩
theorem FR.less {w0 a b : World} {X : List Nat} {y : Nat} (h : FR w0 (y :: X) a b) : FR w0 X a b := ⟨h.1, fun x hx => h.2.1 x (List.mem_cons_of_mem _ hx), h.2.2⟩
theorem FR.kept {w0 a b : World} {X : List Nat} (k : Kept a b) (hX : ∀ x ∈ X, x < a.heap.size) : FR w0 X a b := ⟨k.size, fun x hx => k.block x (hX x hx), fun g => g.call k⟩
theorem near_six {ps : List Int} (ht : IsTree ps) {a : Int} {y : Nat} (h : y ∈ nearOf ps a) : y < ps.length ∧ ps.length ≤ 6 := by
  have h6 := ((tree_iff ps).1 ht).2.1
  refine ⟨?_, h6⟩
  unfold nearOf at h
  split at h
  · exact List.mem_range.1 (List.mem_filter.1 h).1
  · cases h
theorem near_len {ps : List Int} (ht : IsTree ps) (a : Int) : (nearOf ps a).length ≤ 6 := by
  have h6 := ((tree_iff ps).1 ht).2.1
  unfold nearOf
  split
  · have := nearTo_len ps a.toNat ps.length; omega
  · simp
theorem gd_nat {y : Nat} (h : y ≤ 6) : gd (y : Int) := ⟨by omega, by omega⟩
set_option maxRecDepth 20000 in
set_option maxHeartbeats 1000000 in
theorem stop_any (w0 : World) (X : List Nat) (D : Nat) (ps : List Int) (st : DSt) (a : Int) (w : World) (h : DrIn w0 X w D ps st) (h0 : Kept w0 w) (ha : gd a) (hl : ∀ p, (st.W p).length ≤ 900) (hk : st.k ≤ 1000000) :
    Calls Try.prog 11 #[.pointer (some ⟨D, 0, none⟩), .int .i64 a] w fun e w' => e = .returned (.int .i64 (stopR ps st a)) ∧ DrTo w0 X w w' D ps (stopD ps st a) := by
  have HD := Lib.hid h
  obtain ⟨PB, n, c, M1, M2, M3, fW, G, fS, fC, h⟩ := h
  have HH := Lib.hid h
  obtain ⟨_, _, c2, _⟩ := h.c0
  have ht := h.tree
  have hX := h.lX
  have HX := Lib.hid hX
  clear h hX
  rcases hB : inB ps.length a with _ | _
  · have HB := Lib.hid hB
    have hr : stopR ps st a = 1 := by simp [stopR, hB]
    have hd : stopD ps st a = st := by simp [stopD, hr]
    rw [hr, hd]
    clear hB hr hd
    go_enter Try.func11, Try.ntmps11
    go_wp2_with (go_at_call 29; refine (dthere_any w0 X D ps st a _ HD.out).mono ?_; rintro e w1 ⟨rfl, k1⟩; rw [HB.out])
    go_ret
    exact ⟨rfl, HD.out.to k1⟩
  · have HB := Lib.hid hB
    rcases hS : st.S a with _ | _
    · have HS := Lib.hid hS
      have hr : stopR ps st a = 0 := by simp [stopR, hB, hS]
      have hd : stopD ps st a = stopI (st.stop a) a (nearOf ps a) := by simp [stopD, hr]
      rw [hr, hd]
      have h6 := near_len ht a
      obtain ⟨l, hnl⟩ : ∃ l, nearOf ps a = l := ⟨_, rfl⟩
      rw [hnl] at h6 ⊢
      have HNL := Lib.hid hnl
      have hy6 : ∀ y ∈ l, y ≤ 6 := fun y hy => by have := near_six ht (a := a) (y := y) (by rw [hnl]; exact hy); omega
      have HY6 := Lib.hid hy6
      have HLW := Lib.hid hl
      clear hB hr hd hS hnl hy6 hl ht
      go_enter Try.func11, Try.ntmps11
      go_wp2_with (first | (go_at_call 29; refine (dthere_any w0 X D ps st a _ HD.out).mono ?_; rintro e w1 ⟨rfl, k1⟩; rw [HB.out]; have c2 := k1.at_ c2; have hls := (HH.out.keep k1).lookS ha; rw [HS.out] at hls; obtain ⟨w2, hrun, hto2, ⟨fS2, hf2⟩, hb2⟩ := (HH.out.keep k1).updS ha; have HTO2 := Lib.hid ((HD.out.to k1).trans hto2); have HF2 := Lib.hid hf2; have c0 := hf2.c0.1; clear hto2 hf2 hb2) | (go_at_call 30; refine (tnear_own _ n c ps a _ HF2.out.par).mono ?_; rintro e w3 ⟨v, rfl, ho, k3⟩; rw [HNL.out] at ho; have HO := Lib.hid ho; obtain ⟨A3, c3, rfl⟩ := own_slice ho; clear ho))
      have HK3 := Lib.hid k3
      rcases Nat.eq_zero_or_pos l.length with hz | hz
      · have hln : l = [] := List.eq_nil_of_length_eq_zero hz
        subst hln
        clear hz
        (try simp only [List.length_nil])
        go_rounds 1
        go_ret
        exact ⟨rfl, HTO2.out.keep HK3.out⟩
      · obtain ⟨m, hm⟩ : ∃ m, l.length = m := ⟨_, rfl⟩
        have HM := Lib.hid hm
        obtain ⟨g, c4, hv, hg1, hg2⟩ := own_some HO.out hz
        injection hv with hv1 _ hv2
        subst hv1 hv2
        obtain ⟨A5, c5, hv, hia⟩ := IntsAt.of_own HO.out
        injection hv with hv1 _ hv2
        subst hv1 hv2
        rw [hm] at hia hz h6 ⊢
        have hmc := hia.2.1
        have hmx := hia.2.2.1
        unfold maxLen at hmx
        have HIA := Lib.hid hia
        have HD3 : Hid (DrIn w0 (g :: X) w3 D ps (st.stop a)) := HTO2.out.1.more HK3.out g hg1 hg2
        have HFR : Hid (FR w0 X w w3) := HTO2.out.fr.trans (FR.kept HK3.out (fun x hx => Nat.lt_of_lt_of_le (HX.out x hx) HTO2.out.2.1))
        have HKN := Lib.hid hk
        clear hia hm HO
        go_loopw [31] (fun iv wr => ∃ i : Nat, i ≤ m ∧ iv = .int .i64 i ∧ Hid (DrIn w0 (g :: X) wr D ps (stopI (st.stop a) a (l.take i))) ∧ Hid (FR w0 X w wr) ∧ Hid (IntsAt wr (some ⟨g, 0, none⟩) m c3 (ints l))) (fun iv _ => m - (intOf iv).toNat)
        case atStart => exact ⟨0, by omega, rfl, HD3, HFR, HIA⟩
        case round =>
          clear HD3 HFR HIA
          obtain ⟨i, hi, rfl, HD3, HFR, HIA⟩ := hrel
          by_cases him : i < m
          · have e1 : decide ((i : Int) < m) = true := by simp; omega
            have hil : i < l.length := by rw [HM.out]; exact him
            obtain ⟨y, hy⟩ : ∃ y, l[i]? = some y := ⟨_, List.getElem?_eq_getElem hil⟩
            have hyl : y ≤ 6 := HY6.out y (List.mem_of_getElem? hy)
            have cy : wr.cell? ⟨g, i, none⟩ = some (.int .i64 (y : Nat)) := by
              obtain ⟨b', off, e', hc⟩ := HIA.out.2.2.2.2 (by omega)
              injection e' with e'
              injection e' with e1 e2
              subst e1 e2
              have := hc i him
              rw [Nat.zero_add, ints_get hy] at this
              exact this
            have htk : l.take (i + 1) = l.take i ++ [y] := by rw [List.take_add_one, hy]; rfl
            have HTK := Lib.hid htk
            obtain ⟨lt, hlt⟩ : ∃ lt, l.take i = lt := ⟨_, rfl⟩
            have hltl : lt.length ≤ 6 := by rw [← hlt, List.length_take]; omega
            rw [hlt] at HD3 HTK
            have hgw : g < wr.heap.size := World.block_lt_of_cell? wr _ cy
            obtain ⟨st2, hst2⟩ : ∃ st2, stopI (st.stop a) a lt = st2 := ⟨_, rfl⟩
            have HST := Lib.hid hst2
            rw [hst2] at HD3
            have hw2 : (st2.W (a, (y : Int))).length ≤ 1000 := by
              rw [← hst2]
              have h1 := stopI_len a lt (st.stop a) (a, (y : Int))
              have h2 : ((st.stop a).W (a, (y : Int))).length ≤ 900 := HLW.out _
              omega
            have HW2 := Lib.hid hw2
            have hk2 : st2.k ≤ 2000000 := by
              rw [← hst2, stopI_k]
              show st.k + _ ≤ _
              omega
            have HK2 := Lib.hid hk2
            clear hy htk hlt hst2 hw2 hk2
            go_wp2_with (first | (go_at_call 31; refine (put_any w0 (g :: X) D ps st2 a (y : Int) none _ HD3.out (HFR.out.2.2 h0) ha (gd_nat hyl) HW2.out).mono ?_; rintro e w4 ⟨rfl, h4⟩; have H4 := Lib.hid h4; obtain ⟨PB4, n4, d4, N1, N2, N3, gW, GG, gS, gC, hF4⟩ := h4.1; have c4 := hF4.c0.2.2.2.2.1; have y4 := hF4.c0.2.2.2.2.2; have HF4 := Lib.hid hF4; have hkk : ((st2.setW (a, (y : Int)) (st2.W (a, (y : Int)) ++ [none])).k : Int) = (st2.k : Int) := rfl; rw [hkk] at c4; have hk2 := HK2.out; have hD4 := (hF4.own D (by simp)).2.1; clear h4 hF4))
            obtain ⟨hmk, hbk⟩ := HF4.out.mark1
            have hkk : ((st2.setW (a, (y : Int)) (st2.W (a, (y : Int)) ++ [none])).k : Int) = (st2.k : Int) := rfl
            rw [hkk] at hmk hbk
            have hDX := (HF4.out.own D (by simp)).2.2
            have hD0 := (HF4.out.own D (by simp)).1
            have hst3 : stopI (st.stop a) a (l.take (i + 1)) = (st2.setW (a, (y : Int)) (st2.W (a, (y : Int)) ++ [none])).mark := by rw [HTK.out, stopI_snoc, HST.out]
            have hN : Hid (DrIn w0 (g :: X) (w4.setCell ⟨D, 4, none⟩ (.int .i64 ((st2.k : Int) + 1))) D ps (stopI (st.stop a) a (l.take (i + 1)))) := by rw [hst3]; exact ⟨_, _, _, _, _, _, _, _, _, _, hmk⟩
            have hfr : Hid (FR w0 X w (w4.setCell ⟨D, 4, none⟩ (.int .i64 ((st2.k : Int) + 1)))) := HFR.out.trans (FR.trans H4.out.fr.less ⟨hbk.size, fun x hx => hbk.block x (HF4.out.lX x (List.mem_cons_of_mem _ hx)) (by
              simp only [List.mem_singleton]
              rintro rfl
              exact hDX (List.mem_cons_of_mem _ hx)), fun k => k.but hbk (fun x hx => by rw [show x = D by simpa using hx]; exact hD0)⟩)
            have hia2 : Hid (IntsAt (w4.setCell ⟨D, 4, none⟩ (.int .i64 ((st2.k : Int) + 1))) (some ⟨g, 0, none⟩) m c3 (ints l)) := HIA.out.heap ((hbk.block g (HF4.out.lX g (by simp)) (by
              simp only [List.mem_singleton]
              rintro rfl
              exact hDX (by simp))).trans (H4.out.2.2.1 g (by simp)))
            clear hmk hbk hst3
            go_roundw
            case rel => exact ⟨i + 1, by omega, by go_num, hN, hfr, hia2⟩
            case measure => simp [intOf]; omega
          · obtain rfl : i = m := by omega
            have e1 : decide ((i : Int) < i) = false := by simp
            have htk : l.take i = l := List.take_of_length_le (by rw [HM.out]; omega)
            rw [htk] at HD3
            clear htk
            go_wp2_with fail
            go_ret
            exact ⟨rfl, HD3.out.less, HFR.out.1, HFR.out.2.1, HFR.out.2.2⟩
    · have HS := Lib.hid hS
      have hr : stopR ps st a = 13 := by simp [stopR, hB, hS]
      have hd : stopD ps st a = st := by simp [stopD, hr]
      rw [hr, hd]
      clear hB hr hd hS
      go_enter Try.func11, Try.ntmps11
      go_wp2_with (first | (go_at_call 29; refine (dthere_any w0 X D ps st a _ HD.out).mono ?_; rintro e w1 ⟨rfl, k1⟩; rw [HB.out]; have c2 := k1.at_ c2; have hls := (HH.out.keep k1).lookS ha; rw [HS.out] at hls))
      go_ret
      exact ⟨rfl, HD.out.to k1⟩
end Go.Proofs.Ytbofgpmbocjbiaa
