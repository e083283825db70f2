/- The drain's Send and Stop. -/
import Derived.Test.YtbofgpmbocjbiaaMrkF
set_option linter.unusedSimpArgs false
set_option linter.unusedVariables false
namespace Go.Proofs.Ytbofgpmbocjbiaa
open Go.RowKit Go.Maps

noncomputable def sendR (ps : List Int) (st : DSt) (a b : Int) : Int := if nbB ps a b = false then 1 else if st.S a = true then 13 else if 32 ≤ (st.W (a, b)).length then 15 else 0
noncomputable def sendD (ps : List Int) (st : DSt) (a b : Int) (l : ByteArray) : DSt := if sendR ps st a b = 0 then st.setW (a, b) (st.W (a, b) ++ [some l]) else st
set_option maxRecDepth 20000 in
theorem dsend_any (w0 : World) (X : List Nat) (D : Nat) (ps : List Int) (st : DSt) (a b : Int) (l : ByteArray) (w : World) (h : DrIn w0 X w D ps st) (h0 : Kept w0 w) (ha : gd a) (hb : gd b) (hl : (st.W (a, b)).length ≤ 1000) :
    Calls Try.prog 15 #[.pointer (some ⟨D, 0, none⟩), .int .i64 a, .int .i64 b, .string l] w fun e w' => e = .returned (.int .i64 (sendR ps st a b)) ∧ DrTo w0 X w w' D ps (sendD ps st a b l) := by
  have HD := Lib.hid h
  obtain ⟨PB, n, c, M1, M2, M3, fW, G, fS, fC, h⟩ := h
  obtain ⟨_, c1, c2, _⟩ := h.c0
  have HH := Lib.hid h
  obtain ⟨A0, cp, hv⟩ := (h.ways (a, b)).form
  have HV := Lib.hid hv
  clear h hv
  rcases hN : nbB ps a b with _ | _
  · have HN := Lib.hid hN
    have hr : sendR ps st a b = 1 := by simp [sendR, hN]
    have hd : sendD ps st a b l = st := by simp [sendD, hr]
    rw [hr, hd]
    clear hN hr hd
    go_enter Try.func15, Try.ntmps15
    go_wp2_with (go_at_call 32; refine (nearD_any w0 X D ps st a b _ HD.out).mono ?_; rintro e w1 ⟨rfl, k1⟩; rw [HN.out])
    go_ret
    exact ⟨rfl, HD.out.to k1⟩
  · have HN := Lib.hid hN
    rcases hS : st.S a with _ | _
    · have HS := Lib.hid hS
      rcases Nat.lt_or_ge (st.W (a, b)).length 32 with h32 | h32
      · have hr : sendR ps st a b = 0 := by simp [sendR, hN, hS]; omega
        have hd : sendD ps st a b l = st.setW (a, b) (st.W (a, b) ++ [some l]) := by simp [sendD, hr]
        have e1 : decide (32 ≤ ((st.W (a, b)).length : Int)) = false := by simp; omega
        have e2 : decide (32 ≤ (st.W (a, b)).length) = false := by simp; omega
        rw [hr, hd]
        clear hN hr hd hS
        go_enter Try.func15, Try.ntmps15
        go_wp2_with (first | (go_at_call 32; refine (nearD_any w0 X D ps st a b _ HD.out).mono ?_; rintro e w1 ⟨rfl, k1⟩; rw [HN.out]; have c1 := k1.at_ c1; have c2 := k1.at_ c2; have hls := (HH.out.keep k1).lookS ha; rw [HS.out] at hls; have hlw := (HH.out.keep k1).lookW ha hb; rw [HV.out] at hlw) | (go_at_call 31; refine (put_any w0 X D ps st a b (some l) _ (HD.out.keep k1) (h0.call k1) ha hb hl).mono ?_; rintro e w2 ⟨rfl, h2⟩; have H2 := Lib.hid h2; clear h2))
        go_ret
        exact ⟨rfl, (HD.out.to k1).trans H2.out⟩
      · have hr : sendR ps st a b = 15 := by simp [sendR, hN, hS]; omega
        have hd : sendD ps st a b l = st := by simp [sendD, hr]
        have e1 : decide (32 ≤ ((st.W (a, b)).length : Int)) = true := by simp; omega
        rw [hr, hd]
        clear hN hr hd hS
        go_enter Try.func15, Try.ntmps15
        go_wp2_with (first | (go_at_call 32; refine (nearD_any w0 X D ps st a b _ HD.out).mono ?_; rintro e w1 ⟨rfl, k1⟩; rw [HN.out]; have c1 := k1.at_ c1; have c2 := k1.at_ c2; have hls := (HH.out.keep k1).lookS ha; rw [HS.out] at hls; have hlw := (HH.out.keep k1).lookW ha hb; rw [HV.out] at hlw))
        go_ret
        exact ⟨rfl, HD.out.to k1⟩
    · have HS := Lib.hid hS
      have hr : sendR ps st a b = 13 := by simp [sendR, hN, hS]
      have hd : sendD ps st a b l = st := by simp [sendD, hr]
      rw [hr, hd]
      clear hN hr hd hS
      go_enter Try.func15, Try.ntmps15
      go_wp2_with (first | (go_at_call 32; refine (nearD_any w0 X D ps st a b _ HD.out).mono ?_; rintro e w1 ⟨rfl, k1⟩; rw [HN.out]; have c2 := k1.at_ c2; have hls := (HH.out.keep k1).lookS ha; rw [HS.out] at hls))
      go_ret
      exact ⟨rfl, HD.out.to k1⟩
theorem dsend_nil (a b : Int) (l : ByteArray) (w : World) :
    Calls Try.prog 15 #[.pointer none, .int .i64 a, .int .i64 b, .string l] w fun e w' => e = .returned (.int .i64 1) ∧ Kept w w' := by
  go_enter Try.func15, Try.ntmps15
  go_wp2_with (first | (go_at_call 32; refine (nearD_nil a b _).mono ?_; rintro e w1 ⟨rfl, hb1⟩))
  go_ret
  exact ⟨rfl, by repeat (first | exact Kept.refl _ | assumption | (refine Kept.alloc ?_ _) | (refine Kept.setCell ?_ (by first | omega | (simp; omega) | simp) _) | refine Kept.drew ?_ | refine Kept.drewN ?_ _ | (apply Kept.call; rotate_left; assumption))⟩
/-- The markers of a site that stops, to the first of those near it. -/
def stopI (st : DSt) (a : Int) (l : List Nat) : DSt := l.foldl (fun (s : DSt) (y : Nat) => (s.setW (a, (y : Int)) (s.W (a, (y : Int)) ++ [none])).mark) st
theorem stopI_snoc (st : DSt) (a : Int) (l : List Nat) (y : Nat) : stopI st a (l ++ [y]) = ((stopI st a l).setW (a, (y : Int)) ((stopI st a l).W (a, (y : Int)) ++ [none])).mark := by
  unfold stopI; rw [List.foldl_append]; rfl
theorem stopI_cons (st : DSt) (a : Int) (l : List Nat) (y : Nat) : stopI st a (y :: l) = stopI ((st.setW (a, (y : Int)) (st.W (a, (y : Int)) ++ [none])).mark) a l := rfl
theorem stopI_len (a : Int) : ∀ (l : List Nat) (st : DSt) (p : Int × Int), ((stopI st a l).W p).length ≤ (st.W p).length + l.length
  | [], st, p => by simp [stopI]
  | y :: l, st, p => by
    rw [stopI_cons]
    have := stopI_len a l ((st.setW (a, (y : Int)) (st.W (a, (y : Int)) ++ [none])).mark) p
    refine Nat.le_trans this ?_
    unfold DSt.mark DSt.setW
    simp only [List.length_cons]
    split
    · rename_i h; rw [h]; simp; omega
    · omega
theorem stopI_k (a : Int) : ∀ (l : List Nat) (st : DSt), (stopI st a l).k = st.k + l.length
  | [], st => by simp [stopI]
  | y :: l, st => by
    rw [stopI_cons, stopI_k a l]
    simp [DSt.mark, DSt.setW]
    omega
section
variable {w0 w : World} {X : List Nat} {D : Nat} {ps : List Int} {st : DSt} {PB n c M1 M2 M3 : Nat} {fW : Int × Int → Option Value} {G : Int × Int → Option Nat} {fS : Int → Option Value} {fC : Int × Int → Option Value}
theorem DrF.more {w2 : World} (h : DrF w0 X w D ps st PB n c M1 M2 M3 fW G fS fC) (hk : Kept w w2) (y : Nat) (h1 : w.heap.size ≤ y) (h2 : y < w2.heap.size) : DrF w0 (y :: X) w2 D ps st PB n c M1 M2 M3 fW G fS fC :=
  { h.keep hk with
    own := fun x hx => by
      obtain ⟨o1, o2, o3⟩ := h.own x hx
      exact ⟨o1, Nat.lt_of_lt_of_le o2 hk.size, by simp only [List.mem_cons, not_or]; exact ⟨by omega, o3⟩⟩
    gown := fun p x hx => by
      obtain ⟨o1, o2, o3, o4⟩ := h.gown p x hx
      exact ⟨o1, Nat.lt_of_lt_of_le o2 hk.size, by simp only [List.mem_cons, not_or]; exact ⟨by omega, o3⟩, o4⟩
    lX := fun x hx => by
      rcases List.mem_cons.1 hx with rfl | hx
      · exact h2
      · exact Nat.lt_of_lt_of_le (h.lX x hx) hk.size }
theorem DrIn.more {w2 : World} (h : DrIn w0 X w D ps st) (hk : Kept w w2) (y : Nat) (h1 : w.heap.size ≤ y) (h2 : y < w2.heap.size) : DrIn w0 (y :: X) w2 D ps st := by
  obtain ⟨PB, n, c, M1, M2, M3, fW, G, fS, fC, h⟩ := h
  exact ⟨_, _, _, _, _, _, _, _, _, _, h.more hk y h1 h2⟩
theorem DrIn.less {y : Nat} (h : DrIn w0 (y :: X) w D ps st) : DrIn w0 X w D ps st := by
  obtain ⟨PB, n, c, M1, M2, M3, fW, G, fS, fC, h⟩ := h
  exact ⟨_, _, _, _, _, _, _, _, _, _, { h with own := fun x hx => by obtain ⟨o1, o2, o3⟩ := h.own x hx; exact ⟨o1, o2, fun g => o3 (List.mem_cons_of_mem _ g)⟩, gown := fun p x hx => by obtain ⟨o1, o2, o3, o4⟩ := h.gown p x hx; exact ⟨o1, o2, fun g => o3 (List.mem_cons_of_mem _ g), o4⟩, lX := fun x hx => h.lX x (List.mem_cons_of_mem _ hx) }⟩
theorem DrF.mark1 (h : DrF w0 X w D ps st PB n c M1 M2 M3 fW G fS fC) : DrF w0 X (w.setCell ⟨D, 4, none⟩ (.int .i64 ((st.k : Int) + 1))) D ps st.mark PB n c M1 M2 M3 fW G fS fC ∧ But [D] w (w.setCell ⟨D, 4, none⟩ (.int .i64 ((st.k : Int) + 1))) := by
  have hb : But [D] w (w.setCell ⟨D, 4, none⟩ (.int .i64 ((st.k : Int) + 1))) := (But.refl _ _).setCell (.inl (by simp)) _
  obtain ⟨a1, a2, a3, a4, _⟩ := h.apart
  have hz := hb.size
  have hc : (w.setCell ⟨D, 4, none⟩ (.int .i64 ((st.k : Int) + 1))).heap[D]? = some (.cells #[.slice (some ⟨PB, 0, none⟩) n c, .map (some M1), .map (some M2), .map (some M3), .int .i64 (st.mark.k : Int)] 62 (0, 0)) := by
    have := h.cells
    simp [World.setCell, Array.getElem?_modify, this, DSt.mark]
  have hF : DrF w0 X (w.setCell ⟨D, 4, none⟩ (.int .i64 ((st.k : Int) + 1))) D ps st.mark PB n c M1 M2 M3 fW G fS fC :=
    { cells := hc, par := h.par.but1 hb (by simp; exact a1.symm), tree := h.tree, m1 := h.m1.but hb (by simp; exact a2.symm), m2 := h.m2.but hb (by simp; exact a3.symm), m3 := h.m3.but hb (by simp; exact a4.symm), ways := fun p => (h.ways p).but hb (fun g hg => by simp; exact (h.gne hg).1), stop := h.stop, came := h.came, own := fun x hx => ⟨(h.own x hx).1, Nat.lt_of_lt_of_le (h.own x hx).2.1 hz, (h.own x hx).2.2⟩, nd := h.nd, gown := fun p x hx => ⟨(h.gown p x hx).1, Nat.lt_of_lt_of_le (h.gown p x hx).2.1 hz, (h.gown p x hx).2.2⟩, gap := h.gap, lX := fun x hx => Nat.lt_of_lt_of_le (h.lX x hx) hz }
  exact ⟨hF, hb⟩
end
theorem IntsAt.heap {w w2 : World} {g n c : Nat} {xs : List Int} (h : IntsAt w (some ⟨g, 0, none⟩) n c xs) (e : w2.heap[g]? = w.heap[g]?) : IntsAt w2 (some ⟨g, 0, none⟩) n c xs := by
  obtain ⟨h1, h2, h3, h4, h5⟩ := h
  refine ⟨h1, h2, h3, h4, fun h0 => ?_⟩
  obtain ⟨b', off, e', hc⟩ := h5 h0
  injection e' with e'
  injection e' with e1 e2
  subst e1 e2
  refine ⟨g, 0, rfl, fun i hi => ?_⟩
  rw [← hc i hi]
  simp [World.cell?, e]
end Go.Proofs.Ytbofgpmbocjbiaa
