/- The document's drain: Stops, Pick. -/
import Derived.Test.YtbofgpmbocjbiaaMrkV
import Derived.Outline
set_option linter.unusedSimpArgs false
set_option linter.unusedVariables false
namespace Go.Proofs.Ytbofgpmbocjbiaa
open Go.RowKit Go.Maps

set_option maxRecDepth 20000 in
set_option maxHeartbeats 2000000 in
theorem rstops (w0 : World) (X : List Nat) (R : Nat) (ps : List Int) (st : DSt) (a : Int) (w : World) (h : RdIn w0 X w R ps st) (h0 : Kept w0 w) (ha : gd a) (hl : ∀ p, (st.W p).length ≤ 900) (hk : st.k ≤ 1000000) :
    Calls Try.prog 18 #[.pointer (some ⟨R, 0, none⟩), .int .i64 a] w fun e w' => e = .returned (.int .i64 (stopR ps st a)) ∧ RdTo w0 X w w' R ps (stopD ps st a) := by
  have HD := Lib.hid h
  have h6 := (rbd h).2.2
  have HLW := Lib.hid hl
  obtain ⟨g, n, c, V, G, h⟩ := h
  have hn : ps.length = n := h.par.1
  have c0 := h.c0
  by_cases hin : 0 ≤ a ∧ a < n
  · obtain ⟨a0, a5⟩ := hin
    obtain ⟨x, rfl⟩ := Int.eq_ofNat_of_zero_le a0
    have cs := h.cS x (by omega)
    have hB : inB ps.length (x : Int) = true := (inB_iff _ _).2 ⟨by omega, by omega⟩
    have d1 : decide ((x : Int) < 0) = false := by simp
    have d2 : decide ((n : Int) ≤ (x : Int)) = false := by simp; omega
    have hx6 : x < 6 := by omega
    have hxp : x < ps.length := by omega
    rcases hS : st.S (x : Int) with _ | _
    · have hr : stopR ps st (x : Int) = 0 := by simp [stopR, hB, hS]
      have hd : stopD ps st (x : Int) = stopI (st.stop (x : Int)) (x : Int) (nearOf ps (x : Int)) := by simp [stopD, hr]
      rw [hr, hd]
      rw [hS] at cs
      clear h h6 hn hB hS hd hr ha hl
      go_enter Try.func18, Try.ntmps18
      go_wp2_with (go_at_call 34; refine (rstop w0 X R ps st x _ HD.out h0 hxp HLW.out hk).mono ?_; rintro e w1 ⟨rfl, h1⟩; have H1 := Lib.hid h1; clear h1)
      go_ret
      exact ⟨rfl, H1.out⟩
    · have hr : stopR ps st (x : Int) = 13 := by simp [stopR, hB, hS]
      have hd : stopD ps st (x : Int) = st := stopD_no (.inr hS)
      rw [hr, hd]
      rw [hS] at cs
      clear h h6 hn hB hS hd hr ha hl
      go_enter Try.func18, Try.ntmps18
      go_wp2_with fail
      go_ret
      exact ⟨rfl, HD.out.to (by repeat (first | exact Kept.refl _ | assumption | (refine Kept.alloc ?_ _) | (refine Kept.setCell ?_ (by first | omega | (simp; omega) | simp) _) | refine Kept.drew ?_ | refine Kept.drewN ?_ _ | (apply Kept.call; rotate_left; assumption)))⟩
  · have hB : inB ps.length a = false := by
      cases hb : inB ps.length a with
      | false => rfl
      | true => have := (inB_iff _ _).1 hb; omega
    have hr : stopR ps st a = 1 := by simp [stopR, hB]
    have hd : stopD ps st a = st := stopD_no (.inl hB)
    rw [hr, hd]
    have hcase : decide (a < 0) = true ∨ (decide (a < 0) = false ∧ decide ((n : Int) ≤ a) = true) := by
      simp only [decide_eq_true_eq, decide_eq_false_iff_not]
      omega
    clear h hd h6 hn hin hB hr hl
    rcases hcase with d1 | ⟨d1, d2⟩
    all_goals
      (go_enter Try.func18, Try.ntmps18
       go_wp2_with fail
       go_ret
       exact ⟨rfl, HD.out.to (by repeat (first | exact Kept.refl _ | assumption | (refine Kept.alloc ?_ _) | (refine Kept.setCell ?_ (by first | omega | (simp; omega) | simp) _) | refine Kept.drew ?_ | refine Kept.drewN ?_ _ | (apply Kept.call; rotate_left; assumption)))⟩)
theorem OpenK.tail2 {w : World} {b off n cap : Nat} {xs : List Value} (h : OpenK w (some b) (.slice (some ⟨b, off, none⟩) (n + 1) cap) (n + 1) 2 xs) : OpenK w (some b) (.slice (some (if cap = 1 then ⟨b, off, none⟩ else ⟨b, off + 2, none⟩)) n (cap - 1)) n 2 (xs.drop 2) := by
  rcases h with ⟨h, _⟩ | ⟨b', off', cap', hv, hG, h1, h2, h3, h4, h5⟩
  · cases h
  · injection hv with hv1 hv2 hv3
    injection hv1 with hv1
    injection hv1 with e1 e2 _
    subst e1 e2 hv3
    by_cases hc : cap = 1
    · rw [if_pos hc]
      obtain rfl : n = 0 := by omega
      refine .inr ⟨b, off, cap - 1, rfl, rfl, by omega, by omega, by rw [List.length_drop]; omega, fun j hj => by omega, fun j u hu => ?_⟩
      have : xs.drop 2 = [] := List.eq_nil_of_length_eq_zero (by rw [List.length_drop]; omega)
      rw [this] at hu; simp at hu
    · rw [if_neg hc]
      refine .inr ⟨b, off + 2, cap - 1, rfl, rfl, by omega, by omega, by rw [List.length_drop]; omega, fun j hj => ?_, fun j u hu => ?_⟩
      · have := h4 (j + 2) (by omega)
        rwa [show off + 2 + j = off + (j + 2) by omega]
      · rw [show off + 2 + j = off + (j + 2) by omega]
        rw [List.getElem?_drop] at hu
        exact h5 (j + 2) u (by rw [Nat.add_comm]; exact hu)
section
variable {w0 w : World} {X : List Nat} {R : Nat} {ps : List Int} {st : DSt} {g n c : Nat} {V : Nat → Nat → Value} {G : Nat → Nat → Option Nat}
/-- A way turns, where its row lies in the same block. -/
theorem RdF.wayF (h : RdF w0 X w R ps st g n c V G) {a b : Nat} (ha : a < 6) (hb : b < 6) {v6 : Value} {l : List Thg} (hO : OpenK w (G a b) v6 l.length 2 (tgC l)) :
    RdF w0 X (w.setCell ⟨R, 1 + a * 6 + b, none⟩ v6) R ps (st.setW ((a : Int), (b : Int)) l) g n c (fun x y => if x = a ∧ y = b then v6 else V x y) G := by
  have hRl := (h.lX R h.rX).2
  have hR0 := (h.lX R h.rX).1
  have hb2 : But [R] w (w.setCell ⟨R, 1 + a * 6 + b, none⟩ v6) := (But.refl _ _).setCell (.inl (by simp)) _
  exact
  { c0 := setS_cell h.c0 (by omega)
    cW := fun x y hx hy => by
      by_cases e : x = a ∧ y = b
      · obtain ⟨rfl, rfl⟩ := e
        rw [World.cell?_setCell_same _ _ _ (h.cW x y hx hy)]
        simp
      · rw [if_neg e]
        exact setS_cell (h.cW x y hx hy) (by omega)
    cS := fun s hs => setS_cell (h.cS s hs) (by omega)
    cC := fun x y hx hy => setS_cell (h.cC x y hx hy) (by omega)
    cK := setS_cell h.cK (by omega)
    frz := fun i => by rw [World.frozen?_setCell]; exact h.frz i
    par := h.par.but1 hb2 (by simp only [List.mem_singleton]; have := h.gP; omega)
    gP := h.gP
    tree := h.tree
    ways := fun x y hx hy => by
      by_cases e : x = a ∧ y = b
      · obtain ⟨rfl, rfl⟩ := e
        rw [if_pos ⟨rfl, rfl⟩]
        have hW : (st.setW ((x : Int), (y : Int)) l).W ((x : Int), (y : Int)) = l := by
          show (if _ then l else _) = l
          rw [if_pos rfl]
        rw [hW]
        exact hO.but hb2 (fun z hz => by simpa using (h.gX x y z hz).2)
      · rw [if_neg e]
        have hW : (st.setW ((a : Int), (b : Int)) l).W ((x : Int), (y : Int)) = st.W ((x : Int), (y : Int)) := by
          show (if _ then l else _) = _
          rw [if_neg (by intro h; injection h with h1 h2; exact e ⟨by omega, by omega⟩)]
        rw [hW]
        exact (h.ways x y hx hy).but hb2 (fun z hz => by simpa using (h.gX x y z hz).2)
    rX := h.rX
    gX := h.gX
    gap := h.gap
    lX := fun x hx => ⟨(h.lX x hx).1, by rw [World.size_setCell]; exact (h.lX x hx).2⟩ }
theorem RdF.cameF (h : RdF w0 X w R ps st g n c V G) {a b : Nat} (ha : a < 6) (hb : b < 6) : RdF w0 X (w.setCell ⟨R, 43 + b * 6 + a, none⟩ (.bool true)) R ps (st.came ((a : Int), (b : Int))) g n c V G := by
  refine h.cellTo (by omega) rfl (fun s hs => setS_cell (h.cS s hs) (by omega)) (fun x y hx hy => ?_) (setS_cell h.cK (by omega))
  show _ = some (Value.bool (if ((y : Int), (x : Int)) = ((a : Int), (b : Int)) then true else st.C ((y : Int), (x : Int))))
  by_cases e : x = b ∧ y = a
  · obtain ⟨rfl, rfl⟩ := e
    rw [World.cell?_setCell_same _ _ _ (h.cC x y hx hy), if_pos rfl]
  · rw [if_neg (by intro g; injection g with g1 g2; exact e ⟨by omega, by omega⟩)]
    exact setS_cell (h.cC x y hx hy) (by omega)
end
/-- A block of two cells. -/
structure Box2 (w : World) (Q : Nat) (u v : Value) : Prop where
  c0 : w.cell? ⟨Q, 0, none⟩ = some u
  c1 : w.cell? ⟨Q, 1, none⟩ = some v
  f0 : w.frozen? ⟨Q, 0, none⟩ = false
  f1 : w.frozen? ⟨Q, 1, none⟩ = false
theorem Box2.new (w : World) (u v : Value) (t : TypeId) : Box2 (w.alloc (.cells #[u, v] t)) w.heap.size u v :=
  ⟨by rw [cellOf (heap_alloc_new w _) 0]; rfl, by rw [cellOf (heap_alloc_new w _) 1]; rfl, freeOf (heap_alloc_new w _) 0, freeOf (heap_alloc_new w _) 1⟩
theorem Box2.lt {w : World} {Q : Nat} {u v : Value} (h : Box2 w Q u v) : Q < w.heap.size := World.block_lt_of_cell? w _ h.c0
theorem Box2.but {w w2 : World} {Q : Nat} {u v : Value} {S : List Nat} (h : Box2 w Q u v) (hb : But S w w2) (hn : Q ∉ S) : Box2 w2 Q u v :=
  ⟨hb.at_ h.c0 hn, hb.at_ h.c1 hn, by rw [hb.frozen (p := ⟨Q, 0, none⟩) h.lt hn]; exact h.f0, by rw [hb.frozen (p := ⟨Q, 1, none⟩) h.lt hn]; exact h.f1⟩
theorem Box2.keep {w w2 : World} {Q : Nat} {u v : Value} (h : Box2 w Q u v) (hk : Kept w w2) : Box2 w2 Q u v := h.but (.of_kept (S := []) hk) (by simp)
theorem box_end {w0 wA : World} {X : List Nat} {Q R : Nat} {ps : List Int} {st : DSt} (h : RdIn w0 X wA R ps st) (h0 : Kept w0 wA) (hQ : Q ∉ X) (hQ0 : w0.heap.size ≤ Q) (u v : Value) : RdIn w0 X ((wA.setCell ⟨Q, 0, none⟩ u).setCell ⟨Q, 1, none⟩ v) R ps st := by
  obtain ⟨g, n, c, V, G, h⟩ := h
  have hb : But [Q] wA ((wA.setCell ⟨Q, 0, none⟩ u).setCell ⟨Q, 1, none⟩ v) := ((But.refl _ _).setCell (.inl (by simp)) _).setCell (.inl (by simp)) _
  exact ⟨_, _, _, _, _, h.same h0 (h0.but hb (fun x hx => by rw [List.mem_singleton.1 hx]; exact hQ0)) hb.size (fun x hx => hb.block x (h.lX x hx).2 (by simp only [List.mem_singleton]; rintro rfl; exact hQ hx))⟩
def pickT (st : DSt) (a b : Int) : Value := match st.W (a, b) with
  | [] => .tuple #[.agg #[.string ⟨#[]⟩, .bool false], .bool false]
  | some l :: _ => .tuple #[.agg #[.string l, .bool false], .bool true]
  | none :: _ => .tuple #[.agg #[.string ⟨#[]⟩, .bool true], .bool true]
set_option maxRecDepth 20000 in
set_option maxHeartbeats 4000000 in
theorem rpick (w0 : World) (X : List Nat) (R : Nat) (ps : List Int) (st : DSt) (a b : Int) (w : World) (h : RdIn w0 X w R ps st) (hm : MI ps st) (h0 : Kept w0 w) (ha : gd a) (hb : gd b) (hl : ∀ p, (st.W p).length ≤ 900) (hk : st.k ≤ 1000000) :
    Calls Try.prog 19 #[.pointer (some ⟨R, 0, none⟩), .int .i64 a, .int .i64 b] w fun e w' => e = .returned (pickT st a b) ∧ RdTo w0 X w w' R ps (pickD ps st a b) := by
  have HD := Lib.hid h
  have ht := (rbd h).1
  have h6 := (rbd h).2.2
  have HLW := Lib.hid hl
  rcases hN : nbB ps a b with _ | _
  · have HN := Lib.hid hN
    have hw : st.W (a, b) = [] := by
      cases hw : st.W (a, b) with
      | nil => rfl
      | cons t r =>
        have := hm.near a b (by rw [hw]; simp)
        rw [hN] at this; cases this
    have hr : pickT st a b = .tuple #[.agg #[.string ⟨#[]⟩, .bool false], .bool false] := by unfold pickT; rw [hw]
    have hd : pickD ps st a b = st := by unfold pickD; rw [hw]
    rw [hr, hd]
    clear hN hr hd h ht h6 hw hl hm
    go_enter Try.func19, Try.ntmps19
    go_wp2_with (go_at_call 35; refine (rnearD w0 X R ps st a b _ (HD.out.keep ((Kept.refl w).alloc _))).mono ?_; rintro e w1 ⟨rfl, k1⟩; rw [HN.out]; have hbx := (Box2.new w (.string ⟨#[]⟩) (.bool false) 51).keep k1; have q0 := hbx.c0; have q1 := hbx.c1; have p0 := hbx.f0; have p1 := hbx.f1; clear hbx)
    refine bodyPost_ret (v := .tuple #[.agg #[.string ⟨#[]⟩, .bool false], .bool false]) (by simp [results, Try.results19, go_sem, q0, q1]) rfl ⟨rfl, HD.out.to ?_⟩
    have kk : Kept w w1 := Kept.call (by repeat (first | exact Kept.refl _ | assumption | (refine Kept.alloc ?_ _) | (refine Kept.setCell ?_ (by first | omega | (simp; omega) | simp) _) | refine Kept.drew ?_ | refine Kept.drewN ?_ _ | (apply Kept.call; rotate_left; assumption))) k1
    exact (kk.setCell (Nat.le_refl _) _).setCell (Nat.le_refl _) _
  · have HN := Lib.hid hN
    obtain ⟨x, y, rfl, rfl, hx, hy, _⟩ := (nb_iff ht _ _).1 hN
    obtain ⟨g, n, c, V, G, h⟩ := h
    have hx6 : x < 6 := by omega
    have hy6 : y < 6 := by omega
    have cw := h.cW x y hx6 hy6
    have HH := Lib.hid h
    have hRl := (h.lX R h.rX).2
    have HO := Lib.hid (h.ways x y hx6 hy6)
    obtain ⟨A0, cp, hv⟩ := (h.ways x y hx6 hy6).form
    rw [hv] at cw HO
    rcases hw : st.W ((x : Int), (y : Int)) with _ | ⟨t, r⟩
    · have hr : pickT st (x : Int) (y : Int) = .tuple #[.agg #[.string ⟨#[]⟩, .bool false], .bool false] := by unfold pickT; rw [hw]
      have hd : pickD ps st (x : Int) (y : Int) = st := by unfold pickD; rw [hw]
      rw [hr, hd]
      rw [hw] at cw
      simp only [List.length_nil] at cw
      clear hN hr hd h ht h6 hw hl hm hv
      go_enter Try.func19, Try.ntmps19
      go_wp2_with (go_at_call 35; refine (rnearD w0 X R ps st (x : Int) (y : Int) _ (HD.out.keep ((Kept.refl w).alloc _))).mono ?_; rintro e w1 ⟨rfl, k1⟩; rw [HN.out]; have hbx := (Box2.new w (.string ⟨#[]⟩) (.bool false) 51).keep k1; have q0 := hbx.c0; have q1 := hbx.c1; have p0 := hbx.f0; have p1 := hbx.f1; have cw := (((Kept.refl w).alloc (.cells #[.string ⟨#[]⟩, .bool false] 51)).call k1).at_ cw; clear hbx)
      refine bodyPost_ret (v := .tuple #[.agg #[.string ⟨#[]⟩, .bool false], .bool false]) (by simp [results, Try.results19, go_sem, q0, q1]) rfl ⟨rfl, HD.out.to ?_⟩
      have kk : Kept w w1 := Kept.call (by repeat (first | exact Kept.refl _ | assumption | (refine Kept.alloc ?_ _) | (refine Kept.setCell ?_ (by first | omega | (simp; omega) | simp) _) | refine Kept.drew ?_ | refine Kept.drewN ?_ _ | (apply Kept.call; rotate_left; assumption))) k1
      exact (kk.setCell (Nat.le_refl _) _).setCell (Nat.le_refl _) _
    · obtain ⟨L, hL⟩ : ∃ L, r.length = L := ⟨_, rfl⟩
      have HLL := Lib.hid hL
      have hlen : (st.W ((x : Int), (y : Int))).length = L + 1 := by rw [hw, ← hL]; rfl
      rw [hw, List.length_cons, hL] at HO
      rw [hlen] at cw
      obtain ⟨b', off, rfl, hG, hc1, hc2, hcell⟩ := HO.out.cells (by omega)
      unfold maxLen at hc2
      have HT := Lib.hid HO.out
      rw [hG] at HT
      have HT2 := Lib.hid HT.out.tail2
      have HGG := Lib.hid hG
      have hdrop : (tgC (t :: r)).drop 2 = tgC r := by
        cases t <;> rfl
      rw [hdrop] at HT2
      have hfr := h.frz (1 + x * 6 + y)
      have hb'w : b' < w.heap.size := (h.lX b' (h.gX x y b' hG).1).2
      have HW := Lib.hid hw
      have z0 : ∃ u v, tgC1 t = [u, v] := by cases t <;> exact ⟨_, _, rfl⟩
      obtain ⟨u0, v0, huv⟩ := z0
      have HUV := Lib.hid huv
      have z0 : w.cell? ⟨b', off, none⟩ = some u0 := hcell 0 u0 (by show (tgC1 t ++ tgC r)[0]? = _; rw [huv]; rfl)
      have z1 : w.cell? ⟨b', off + 1, none⟩ = some v0 := hcell 1 v0 (by show (tgC1 t ++ tgC r)[1]? = _; rw [huv]; rfl)
      have cv := h.cC y x hy6 hx6
      have sv := h.cS y hy6
      obtain ⟨cvb, hcvb⟩ : ∃ cvb, st.C ((x : Int), (y : Int)) = cvb := ⟨_, rfl⟩
      rw [hcvb] at cv
      obtain ⟨svb, hsvb⟩ : ∃ svb, st.S (y : Int) = svb := ⟨_, rfl⟩
      rw [hsvb] at sv
      have HSV := Lib.hid hsvb
      have hypl := hy
      have HXG := Lib.hid h.lX
      have hRX := h.rX
      obtain ⟨gv, hgv⟩ : ∃ gv, (if cp = 1 then (⟨b', off, none⟩ : Addr) else ⟨b', off + 2, none⟩) = gv := ⟨_, rfl⟩
      rw [hgv] at HT2
      have HHFR := Lib.hid (fun i => h.frz i)
      clear hN ht h6 hw hl hm hv HT hcell hfr hdrop hG h hL hlen hcvb HO hsvb
      have hcase : (∃ lb, t = some lb) ∨ t = none := by cases t with
        | some lb => exact .inl ⟨lb, rfl⟩
        | none => exact .inr rfl
      rcases Decidable.em (cp = 1) with hcp | hcp
      all_goals
        (first | rw [if_pos hcp] at hgv | rw [if_neg hcp] at hgv
         subst hgv
         rcases hcase with ⟨lb, rfl⟩ | rfl
         · have hr : pickT st (x : Int) (y : Int) = .tuple #[.agg #[.string lb, .bool false], .bool true] := by unfold pickT; rw [HW.out]
           have hd : pickD ps st (x : Int) (y : Int) = st.setW ((x : Int), (y : Int)) r := by unfold pickD; rw [HW.out]
           rw [hr, hd]
           injection huv with e1 huv
           injection huv with e2 _
           subst e1 e2
           clear hr hd
           go_enter Try.func19, Try.ntmps19
           go_wp2_with (go_at_call 35; refine (rnearD w0 X R ps st (x : Int) (y : Int) _ (HD.out.keep ((Kept.refl w).alloc _))).mono ?_; rintro e w1 ⟨rfl, k1⟩; rw [HN.out]; have BX6 := Lib.hid ((Box2.new w (.string ⟨#[]⟩) (.bool false) 51).keep k1); have hKW1 : Kept w w1 := ((Kept.refl w).alloc (.cells #[.string ⟨#[]⟩, .bool false] 51)).call k1; have cw := hKW1.at_ cw; have z0 := hKW1.at_ z0; have z1 := hKW1.at_ z1; have cv := hKW1.at_ cv; have sv := hKW1.at_ sv; have KW1 := Lib.hid hKW1; have hz1 : w.heap.size + 1 ≤ w1.heap.size := (by have := k1.size; simp only [World.size_alloc] at this; exact this); clear k1 hKW1)
           have BX9 := Lib.hid (Box2.new w1 (.string lb) (.bool false) 51)
           have BX6 := Lib.hid (BX6.out.keep ((Kept.refl w1).alloc (.cells #[.string lb, .bool false] 51)))
           have KW9 : Hid (Kept w (w1.alloc (.cells #[.string lb, .bool false] 51))) := KW1.out.alloc _
           have k9 := (Kept.refl w1).alloc (.cells #[.string lb, .bool false] 51)
           have cw := k9.at_ cw
           have cv := k9.at_ cv
           have sv := k9.at_ sv
           have o0 := BX9.out.c0
           have o1 := BX9.out.c1
           have q0 := BX6.out.c0
           have q1 := BX6.out.c1
           have hQ9 : w.heap.size + 1 ≤ w1.heap.size := hz1
           clear k9 z0 z1 KW1
           generalize w1.alloc (.cells #[.string lb, .bool false] 51) = W9 at *
           generalize w1.heap.size = Q9 at *
           refine wp_region_text keepsOne (fun wB => Kept W9 wB ∧ wB.cell? ⟨R, 1 + x * 6 + y, none⟩ = some (.slice (some ⟨b', off, none⟩) (L + 1) cp) ∧ wB.cell? ⟨Q9, 0, none⟩ = some (.string lb) ∧ wB.cell? ⟨Q9, 1, none⟩ = some (.bool false) ∧ wB.cell? ⟨w.heap.size, 0, none⟩ = some (.string ⟨#[]⟩) ∧ wB.cell? ⟨w.heap.size, 1, none⟩ = some (.bool false) ∧ wB.cell? ⟨R, 43 + y * 6 + x, none⟩ = some (.bool cvb) ∧ wB.cell? ⟨R, 37 + y, none⟩ = some (.bool svb)) ?_ (by kernel_rfl) (by kernel_rfl) _ (by (try simp only [List.append_eq, List.cons_append, List.nil_append, List.toList_toArray]); exact rfl) ?_
           · exact ⟨by repeat (first | exact Kept.refl _ | assumption | (refine Kept.alloc ?_ _) | (refine Kept.setCell ?_ (by first | omega | (simp; omega) | simp) _) | refine Kept.drew ?_ | refine Kept.drewN ?_ _ | (apply Kept.call; rotate_left; assumption)), by first | assumption | go_simp, by first | assumption | go_simp, by first | assumption | go_simp, by first | assumption | go_simp, by first | assumption | go_simp, by first | assumption | go_simp, by first | assumption | go_simp⟩
           rintro wB ⟨hkB, sB1, sB2, sB3, sB4, sB5, sB6, sB7⟩
           iterate 15 (first | (apply DW.det; (focus (intro wd hI; have td1 := hI.at_ sB1; have td2 := hI.at_ sB2; have td3 := hI.at_ sB3; have td4 := hI.at_ sB4; have td5 := hI.at_ sB5; have td6 := hI.at_ sB6; have td7 := hI.at_ sB7; skip; go_wp2_with (fail); refine StepPost.mk _ rfl ⟨rfl, ?_⟩; repeat (first | exact Kept.refl _ | assumption | (refine Kept.alloc ?_ _) | (refine Kept.setCell ?_ (by first | omega | (simp; omega) | simp) _) | refine Kept.drew ?_ | refine Kept.drewN ?_ _ | (apply Kept.call; rotate_left; assumption)))); simp only [Act.put, List.setIfInBounds_toArray, List.set_cons_succ, List.set_cons_zero]) | (refine DW.loud (by kernel_rfl) ?_; intro wd hI; have td1 := hI.at_ sB1; have td2 := hI.at_ sB2; have td3 := hI.at_ sB3; have td4 := hI.at_ sB4; have td5 := hI.at_ sB5; have td6 := hI.at_ sB6; have td7 := hI.at_ sB7; skip; go_wp2_with (fail); refine StepPost.loud _ rfl (by repeat (first | exact Kept.refl _ | assumption | (refine Kept.alloc ?_ _) | (refine Kept.setCell ?_ (by first | omega | (simp; omega) | simp) _) | refine Kept.drew ?_ | refine Kept.drewN ?_ _ | (apply Kept.call; rotate_left; assumption))) (fun hkL => ?_); have hkL := hI.call hkL; have hkB := hkB.call hkL; have sB1 := hkL.at_ sB1; have sB2 := hkL.at_ sB2; have sB3 := hkL.at_ sB3; have sB4 := hkL.at_ sB4; have sB5 := hkL.at_ sB5; have sB6 := hkL.at_ sB6; have sB7 := hkL.at_ sB7; simp only [Act.put, List.setIfInBounds_toArray, List.set_cons_succ, List.set_cons_zero]))
           refine DW.tail (by kernel_rfl) ?_
           intro wd hI
           have hkd := hkB.call hI
           have td1 := hI.at_ sB1; have td2 := hI.at_ sB2; have td3 := hI.at_ sB3; have td4 := hI.at_ sB4; have td5 := hI.at_ sB5; have td6 := hI.at_ sB6; have td7 := hI.at_ sB7
           have KWD : Hid (Kept w wd) := KW9.out.call hkd
           have hF := HH.out.keep KWD.out
           have f1 := hF.frz (1 + x * 6 + y)
           have f2 := hF.frz (43 + y * 6 + x)
           have HWY := Lib.hid (hF.wayF hx6 hy6 (l := r) (by rw [HLL.out, HGG.out]; exact HT2.out.kept KWD.out))
           (try rw [hcp] at HWY)
           (try simp only [Nat.sub_self] at HWY)
           have hQX : w.heap.size ∉ X := fun hx => by have := (HXG.out _ hx).2; omega
           have hQ0 := h0.size
           have B6 := BX6.out.keep hkd
           have p0 := B6.f0
           have p1 := B6.f1
           have hRd := hF.lX R hRX
           have hRne : R ≠ w.heap.size := (by have := HH.out.lX R hRX; omega)
           clear hF B6
           go_wp2_with fail
           refine bodyPost_ret (v := .tuple #[.agg #[.string lb, .bool false], .bool true]) (by simp [results, Try.results19, go_sem, td1, td4, td5, hRne, Ne.symm hRne]) rfl ⟨rfl, X, ?_⟩
           exact ⟨box_end ⟨_, _, _, _, _, HWY.out⟩ ((h0.call KWD.out).but ((But.refl [R] wd).setCell (.inl (by simp)) _) (fun z hz => by rw [List.mem_singleton.1 hz]; exact hRd.1)) hQX hQ0 _ _, (((But.of_kept KWD.out).setCell (.inl hRX) _).setCell (.inr (Nat.le_refl _)) _).setCell (.inr (Nat.le_refl _)) _, fun _ h => h, fun _ h => .inl h⟩
         · have hr : pickT st (x : Int) (y : Int) = .tuple #[.agg #[.string ⟨#[]⟩, .bool true], .bool true] := by unfold pickT; rw [HW.out]
           have hd : pickD ps st (x : Int) (y : Int) = stopD ps ((st.setW ((x : Int), (y : Int)) r).came ((x : Int), (y : Int))) (y : Int) := by unfold pickD; rw [HW.out]
           rw [hr, hd]
           injection huv with e1 huv
           injection huv with e2 _
           subst e1 e2
           clear hr hd
           have hiny : inB ps.length (y : Int) = true := (inB_iff _ _).2 ⟨by omega, by omega⟩
           have HLS : Hid (∀ p, (((st.setW ((x : Int), (y : Int)) r).came ((x : Int), (y : Int))).W p).length ≤ 900) := fun p => by
             show (if p = ((x : Int), (y : Int)) then r else st.W p).length ≤ 900
             split
             · have := HLW.out ((x : Int), (y : Int)); rw [HW.out] at this; simp at this; omega
             · exact HLW.out p
           have hS := HSV.out
           cases svb
           · have hd : stopD ps ((st.setW ((x : Int), (y : Int)) r).came ((x : Int), (y : Int))) (y : Int) = stopI (((st.setW ((x : Int), (y : Int)) r).came ((x : Int), (y : Int))).stop (y : Int)) (y : Int) (nearOf ps (y : Int)) := by
               have hr : stopR ps ((st.setW ((x : Int), (y : Int)) r).came ((x : Int), (y : Int))) (y : Int) = 0 := by
                 unfold stopR
                 rw [hiny]
                 show (if _ then _ else if st.S (y : Int) = true then _ else _) = _
                 rw [hS]; rfl
               simp [stopD, hr]
             rw [hd]
             clear hd hS hiny
             go_enter Try.func19, Try.ntmps19
             go_wp2_with (go_at_call 35; refine (rnearD w0 X R ps st (x : Int) (y : Int) _ (HD.out.keep ((Kept.refl w).alloc _))).mono ?_; rintro e w1 ⟨rfl, k1⟩; rw [HN.out]; have BX6 := Lib.hid ((Box2.new w (.string ⟨#[]⟩) (.bool false) 51).keep k1); have hKW1 : Kept w w1 := ((Kept.refl w).alloc (.cells #[.string ⟨#[]⟩, .bool false] 51)).call k1; have cw := hKW1.at_ cw; have z0 := hKW1.at_ z0; have z1 := hKW1.at_ z1; have cv := hKW1.at_ cv; have sv := hKW1.at_ sv; have KW1 := Lib.hid hKW1; have hz1 : w.heap.size + 1 ≤ w1.heap.size := (by have := k1.size; simp only [World.size_alloc] at this; exact this); clear k1 hKW1)
             have BX9 := Lib.hid (Box2.new w1 (.string ⟨#[]⟩) (.bool true) 51)
             have BX6 := Lib.hid (BX6.out.keep ((Kept.refl w1).alloc (.cells #[.string ⟨#[]⟩, .bool true] 51)))
             have KW9 : Hid (Kept w (w1.alloc (.cells #[.string ⟨#[]⟩, .bool true] 51))) := KW1.out.alloc _
             have k9 := (Kept.refl w1).alloc (.cells #[.string ⟨#[]⟩, .bool true] 51)
             have cw := k9.at_ cw
             have cv := k9.at_ cv
             have sv := k9.at_ sv
             have o0 := BX9.out.c0
             have o1 := BX9.out.c1
             have q0 := BX6.out.c0
             have q1 := BX6.out.c1
             have hQ9 : w.heap.size + 1 ≤ w1.heap.size := hz1
             clear k9 z0 z1 KW1
             generalize w1.alloc (.cells #[.string ⟨#[]⟩, .bool true] 51) = W9 at *
             generalize w1.heap.size = Q9 at *
             refine wp_region_text keepsOne (fun wB => Kept W9 wB ∧ wB.cell? ⟨R, 1 + x * 6 + y, none⟩ = some (.slice (some ⟨b', off, none⟩) (L + 1) cp) ∧ wB.cell? ⟨Q9, 0, none⟩ = some (.string ⟨#[]⟩) ∧ wB.cell? ⟨Q9, 1, none⟩ = some (.bool true) ∧ wB.cell? ⟨w.heap.size, 0, none⟩ = some (.string ⟨#[]⟩) ∧ wB.cell? ⟨w.heap.size, 1, none⟩ = some (.bool false) ∧ wB.cell? ⟨R, 43 + y * 6 + x, none⟩ = some (.bool cvb) ∧ wB.cell? ⟨R, 37 + y, none⟩ = some (.bool false)) ?_ (by kernel_rfl) (by kernel_rfl) _ (by (try simp only [List.append_eq, List.cons_append, List.nil_append, List.toList_toArray]); exact rfl) ?_
             · exact ⟨by repeat (first | exact Kept.refl _ | assumption | (refine Kept.alloc ?_ _) | (refine Kept.setCell ?_ (by first | omega | (simp; omega) | simp) _) | refine Kept.drew ?_ | refine Kept.drewN ?_ _ | (apply Kept.call; rotate_left; assumption)), by first | assumption | go_simp, by first | assumption | go_simp, by first | assumption | go_simp, by first | assumption | go_simp, by first | assumption | go_simp, by first | assumption | go_simp, by first | assumption | go_simp⟩
             rintro wB ⟨hkB, sB1, sB2, sB3, sB4, sB5, sB6, sB7⟩
             iterate 15 (first | (apply DW.det; (focus (intro wd hI; have td1 := hI.at_ sB1; have td2 := hI.at_ sB2; have td3 := hI.at_ sB3; have td4 := hI.at_ sB4; have td5 := hI.at_ sB5; have td6 := hI.at_ sB6; have td7 := hI.at_ sB7; skip; go_wp2_with (fail); refine StepPost.mk _ rfl ⟨rfl, ?_⟩; repeat (first | exact Kept.refl _ | assumption | (refine Kept.alloc ?_ _) | (refine Kept.setCell ?_ (by first | omega | (simp; omega) | simp) _) | refine Kept.drew ?_ | refine Kept.drewN ?_ _ | (apply Kept.call; rotate_left; assumption)))); simp only [Act.put, List.setIfInBounds_toArray, List.set_cons_succ, List.set_cons_zero]) | (refine DW.loud (by kernel_rfl) ?_; intro wd hI; have td1 := hI.at_ sB1; have td2 := hI.at_ sB2; have td3 := hI.at_ sB3; have td4 := hI.at_ sB4; have td5 := hI.at_ sB5; have td6 := hI.at_ sB6; have td7 := hI.at_ sB7; skip; go_wp2_with (fail); refine StepPost.loud _ rfl (by repeat (first | exact Kept.refl _ | assumption | (refine Kept.alloc ?_ _) | (refine Kept.setCell ?_ (by first | omega | (simp; omega) | simp) _) | refine Kept.drew ?_ | refine Kept.drewN ?_ _ | (apply Kept.call; rotate_left; assumption))) (fun hkL => ?_); have hkL := hI.call hkL; have hkB := hkB.call hkL; have sB1 := hkL.at_ sB1; have sB2 := hkL.at_ sB2; have sB3 := hkL.at_ sB3; have sB4 := hkL.at_ sB4; have sB5 := hkL.at_ sB5; have sB6 := hkL.at_ sB6; have sB7 := hkL.at_ sB7; simp only [Act.put, List.setIfInBounds_toArray, List.set_cons_succ, List.set_cons_zero]))
             refine DW.tail (by kernel_rfl) ?_
             intro wd hI
             have hkd := hkB.call hI
             have td1 := hI.at_ sB1; have td2 := hI.at_ sB2; have td3 := hI.at_ sB3; have td4 := hI.at_ sB4; have td5 := hI.at_ sB5; have td6 := hI.at_ sB6; have td7 := hI.at_ sB7
             have KWD : Hid (Kept w wd) := KW9.out.call hkd
             have hF := HH.out.keep KWD.out
             have f1 := hF.frz (1 + x * 6 + y)
             have f2 := hF.frz (43 + y * 6 + x)
             have HWY := Lib.hid (hF.wayF hx6 hy6 (l := r) (by rw [HLL.out, HGG.out]; exact HT2.out.kept KWD.out))
             (try rw [hcp] at HWY)
             (try simp only [Nat.sub_self] at HWY)
             have hQX : w.heap.size ∉ X := fun hx => by have := (HXG.out _ hx).2; omega
             have hQ0 := h0.size
             have B6 := BX6.out.keep hkd
             have p0 := B6.f0
             have p1 := B6.f1
             have hRd := hF.lX R hRX
             have hRne : R ≠ w.heap.size := (by have := HH.out.lX R hRX; omega)
             clear hF B6
             have hQX9 : Q9 ∉ X := fun hx => by have := (HXG.out _ hx).2; omega
             have hne9 : Q9 ≠ R := fun e => by have := (HXG.out _ hRX).2; omega
             go_wp2_with fail
             refine (rstop w0 X R ps _ y _ ⟨_, _, _, _, _, HWY.out.cameF hx6 hy6⟩ ((h0.call KWD.out).but (((But.refl [R] wd).setCell (.inl (by simp)) _).setCell (.inl (by simp)) _) (fun z hz => by rw [List.mem_singleton.1 hz]; exact hRd.1)) hypl HLS.out hk).mono ?_
             rintro e w8 ⟨rfl, X8, hr8, hb8, hs8, hn8⟩
             have hz8 := hb8.size
             simp only [World.size_setCell] at hz8 hn8
             have hzd := KWD.out.size
             have b6 := ((BX6.out.keep hkd).but (((But.refl [R] wd).setCell (.inl (by simp)) _).setCell (.inl (by simp)) _) (by simp only [List.mem_singleton]; exact Ne.symm hRne)).but hb8 hQX
             have b9 := ((BX9.out.keep hkd).but (((But.refl [R] wd).setCell (.inl (by simp)) _).setCell (.inl (by simp)) _) (by simp only [List.mem_singleton]; exact hne9)).but hb8 hQX9
             have q60 := b6.c0
             have q61 := b6.c1
             have p60 := b6.f0
             have p61 := b6.f1
             have q90 := b9.c0
             have q91 := b9.c1
             have hwd : w.heap.size < wd.heap.size := World.block_lt_of_cell? wd _ td4
             have HB8 := Lib.hid ((((But.of_kept KWD.out).setCell (.inl hRX) _).setCell (.inl hRX) _).trans hb8)
             have HR8 := Lib.hid hr8
             have HN8 := Lib.hid hn8
             have H08 : Hid (Kept w0 w8) := (((h0.call KWD.out).but (((But.refl [R] wd).setCell (.inl (by simp)) _).setCell (.inl (by simp)) _) (fun z hz => by rw [List.mem_singleton.1 hz]; exact hRd.1))).but hb8 (fun z hz => (HXG.out z hz).1)
             clear b6 b9 hr8 hb8 hn8 td1 td2 td3 td4 td5
             go_wp2_with fail
             refine bodyPost_ret (v := .tuple #[.agg #[.string ⟨#[]⟩, .bool true], .bool true]) (by simp [results, Try.results19, go_sem, q60, q61]) rfl ⟨rfl, X8, ?_⟩
             exact ⟨box_end HR8.out H08.out (fun hx => by rcases HN8.out _ hx with h | h; exact hQX h; omega) hQ0 _ _, ((HB8.out.setCell (.inr (Nat.le_refl _)) _).setCell (.inr (Nat.le_refl _)) _), hs8, fun z hz => (HN8.out z hz).imp id (fun h => by omega)⟩
           · have hd : stopD ps ((st.setW ((x : Int), (y : Int)) r).came ((x : Int), (y : Int))) (y : Int) = (st.setW ((x : Int), (y : Int)) r).came ((x : Int), (y : Int)) := stopD_no (.inr hS)
             rw [hd]
             clear hd hS hiny
             go_enter Try.func19, Try.ntmps19
             go_wp2_with (go_at_call 35; refine (rnearD w0 X R ps st (x : Int) (y : Int) _ (HD.out.keep ((Kept.refl w).alloc _))).mono ?_; rintro e w1 ⟨rfl, k1⟩; rw [HN.out]; have BX6 := Lib.hid ((Box2.new w (.string ⟨#[]⟩) (.bool false) 51).keep k1); have hKW1 : Kept w w1 := ((Kept.refl w).alloc (.cells #[.string ⟨#[]⟩, .bool false] 51)).call k1; have cw := hKW1.at_ cw; have z0 := hKW1.at_ z0; have z1 := hKW1.at_ z1; have cv := hKW1.at_ cv; have sv := hKW1.at_ sv; have KW1 := Lib.hid hKW1; have hz1 : w.heap.size + 1 ≤ w1.heap.size := (by have := k1.size; simp only [World.size_alloc] at this; exact this); clear k1 hKW1)
             have BX9 := Lib.hid (Box2.new w1 (.string ⟨#[]⟩) (.bool true) 51)
             have BX6 := Lib.hid (BX6.out.keep ((Kept.refl w1).alloc (.cells #[.string ⟨#[]⟩, .bool true] 51)))
             have KW9 : Hid (Kept w (w1.alloc (.cells #[.string ⟨#[]⟩, .bool true] 51))) := KW1.out.alloc _
             have k9 := (Kept.refl w1).alloc (.cells #[.string ⟨#[]⟩, .bool true] 51)
             have cw := k9.at_ cw
             have cv := k9.at_ cv
             have sv := k9.at_ sv
             have o0 := BX9.out.c0
             have o1 := BX9.out.c1
             have q0 := BX6.out.c0
             have q1 := BX6.out.c1
             have hQ9 : w.heap.size + 1 ≤ w1.heap.size := hz1
             clear k9 z0 z1 KW1
             generalize w1.alloc (.cells #[.string ⟨#[]⟩, .bool true] 51) = W9 at *
             generalize w1.heap.size = Q9 at *
             refine wp_region_text keepsOne (fun wB => Kept W9 wB ∧ wB.cell? ⟨R, 1 + x * 6 + y, none⟩ = some (.slice (some ⟨b', off, none⟩) (L + 1) cp) ∧ wB.cell? ⟨Q9, 0, none⟩ = some (.string ⟨#[]⟩) ∧ wB.cell? ⟨Q9, 1, none⟩ = some (.bool true) ∧ wB.cell? ⟨w.heap.size, 0, none⟩ = some (.string ⟨#[]⟩) ∧ wB.cell? ⟨w.heap.size, 1, none⟩ = some (.bool false) ∧ wB.cell? ⟨R, 43 + y * 6 + x, none⟩ = some (.bool cvb) ∧ wB.cell? ⟨R, 37 + y, none⟩ = some (.bool true)) ?_ (by kernel_rfl) (by kernel_rfl) _ (by (try simp only [List.append_eq, List.cons_append, List.nil_append, List.toList_toArray]); exact rfl) ?_
             · exact ⟨by repeat (first | exact Kept.refl _ | assumption | (refine Kept.alloc ?_ _) | (refine Kept.setCell ?_ (by first | omega | (simp; omega) | simp) _) | refine Kept.drew ?_ | refine Kept.drewN ?_ _ | (apply Kept.call; rotate_left; assumption)), by first | assumption | go_simp, by first | assumption | go_simp, by first | assumption | go_simp, by first | assumption | go_simp, by first | assumption | go_simp, by first | assumption | go_simp, by first | assumption | go_simp⟩
             rintro wB ⟨hkB, sB1, sB2, sB3, sB4, sB5, sB6, sB7⟩
             iterate 15 (first | (apply DW.det; (focus (intro wd hI; have td1 := hI.at_ sB1; have td2 := hI.at_ sB2; have td3 := hI.at_ sB3; have td4 := hI.at_ sB4; have td5 := hI.at_ sB5; have td6 := hI.at_ sB6; have td7 := hI.at_ sB7; skip; go_wp2_with (fail); refine StepPost.mk _ rfl ⟨rfl, ?_⟩; repeat (first | exact Kept.refl _ | assumption | (refine Kept.alloc ?_ _) | (refine Kept.setCell ?_ (by first | omega | (simp; omega) | simp) _) | refine Kept.drew ?_ | refine Kept.drewN ?_ _ | (apply Kept.call; rotate_left; assumption)))); simp only [Act.put, List.setIfInBounds_toArray, List.set_cons_succ, List.set_cons_zero]) | (refine DW.loud (by kernel_rfl) ?_; intro wd hI; have td1 := hI.at_ sB1; have td2 := hI.at_ sB2; have td3 := hI.at_ sB3; have td4 := hI.at_ sB4; have td5 := hI.at_ sB5; have td6 := hI.at_ sB6; have td7 := hI.at_ sB7; skip; go_wp2_with (fail); refine StepPost.loud _ rfl (by repeat (first | exact Kept.refl _ | assumption | (refine Kept.alloc ?_ _) | (refine Kept.setCell ?_ (by first | omega | (simp; omega) | simp) _) | refine Kept.drew ?_ | refine Kept.drewN ?_ _ | (apply Kept.call; rotate_left; assumption))) (fun hkL => ?_); have hkL := hI.call hkL; have hkB := hkB.call hkL; have sB1 := hkL.at_ sB1; have sB2 := hkL.at_ sB2; have sB3 := hkL.at_ sB3; have sB4 := hkL.at_ sB4; have sB5 := hkL.at_ sB5; have sB6 := hkL.at_ sB6; have sB7 := hkL.at_ sB7; simp only [Act.put, List.setIfInBounds_toArray, List.set_cons_succ, List.set_cons_zero]))
             refine DW.tail (by kernel_rfl) ?_
             intro wd hI
             have hkd := hkB.call hI
             have td1 := hI.at_ sB1; have td2 := hI.at_ sB2; have td3 := hI.at_ sB3; have td4 := hI.at_ sB4; have td5 := hI.at_ sB5; have td6 := hI.at_ sB6; have td7 := hI.at_ sB7
             have KWD : Hid (Kept w wd) := KW9.out.call hkd
             have hF := HH.out.keep KWD.out
             have f1 := hF.frz (1 + x * 6 + y)
             have f2 := hF.frz (43 + y * 6 + x)
             have HWY := Lib.hid (hF.wayF hx6 hy6 (l := r) (by rw [HLL.out, HGG.out]; exact HT2.out.kept KWD.out))
             (try rw [hcp] at HWY)
             (try simp only [Nat.sub_self] at HWY)
             have hQX : w.heap.size ∉ X := fun hx => by have := (HXG.out _ hx).2; omega
             have hQ0 := h0.size
             have B6 := BX6.out.keep hkd
             have p0 := B6.f0
             have p1 := B6.f1
             have hRd := hF.lX R hRX
             have hRne : R ≠ w.heap.size := (by have := HH.out.lX R hRX; omega)
             clear hF B6
             go_wp2_with fail
             refine bodyPost_ret (v := .tuple #[.agg #[.string ⟨#[]⟩, .bool true], .bool true]) (by simp [results, Try.results19, go_sem, td1, td4, td5, hRne, Ne.symm hRne]) rfl ⟨rfl, X, ?_⟩
             exact ⟨box_end ⟨_, _, _, _, _, HWY.out.cameF hx6 hy6⟩ ((h0.call KWD.out).but (((But.refl [R] wd).setCell (.inl (by simp)) _).setCell (.inl (by simp)) _) (fun z hz => by rw [List.mem_singleton.1 hz]; exact hRd.1)) hQX hQ0 _ _, ((((But.of_kept KWD.out).setCell (.inl hRX) _).setCell (.inl hRX) _).setCell (.inr (Nat.le_refl _)) _).setCell (.inr (Nat.le_refl _)) _, fun _ h => h, fun _ h => .inl h⟩)
end Go.Proofs.Ytbofgpmbocjbiaa
