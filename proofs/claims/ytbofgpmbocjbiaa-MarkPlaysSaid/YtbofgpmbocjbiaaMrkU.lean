/- The document's drain: what turns it. -/
import Derived.Test.YtbofgpmbocjbiaaMrkT
import Derived.Test.YtbofgpmbocjbiaaMrkQ
import Derived.Outline
set_option linter.unusedSimpArgs false
set_option linter.unusedVariables false
namespace Go.Proofs.Ytbofgpmbocjbiaa
open Go.RowKit Go.Maps

section
variable {w0 w : World} {X : List Nat} {R : Nat} {ps : List Int} {st : DSt} {g n c : Nat} {V : Nat → Nat → Value} {G : Nat → Nat → Option Nat}
/-- A way turns. -/
theorem RdF.wayTo {w1 : World} (h : RdF w0 X w R ps st g n c V G) (hk : Kept w0 w) {a b : Nat} (ha : a < 6) (hb : b < 6) {G6 : Option Nat} {v6 : Value} {l : List Thg} (hbt : But (G a b).toList w w1)
    (hO : OpenK w1 G6 v6 l.length 2 (tgC l)) (hG : G6 = G a b ∨ ∃ x, G6 = some x ∧ w.heap.size ≤ x ∧ x < w1.heap.size) :
    RdTo w0 X w (w1.setCell ⟨R, 1 + a * 6 + b, none⟩ v6) R ps (st.setW ((a : Int), (b : Int)) l) := by
  have hRl := (h.lX R h.rX).2
  have hR0 := (h.lX R h.rX).1
  have hRG : R ∉ (G a b).toList := fun hx => (h.gX a b R (by simpa using hx)).2 rfl
  have hz := hbt.size
  have hk0 := hk.size
  have hGX : ∀ x ∈ (G a b).toList, x ∈ X := fun x hx => (h.gX a b x (by simpa using hx)).1
  have hb2 : But (R :: (G a b).toList) w (w1.setCell ⟨R, 1 + a * 6 + b, none⟩ v6) := (hbt.mono (fun x hx => List.mem_cons_of_mem _ hx)).setCell (.inl (by simp)) _
  have hbX : But X w (w1.setCell ⟨R, 1 + a * 6 + b, none⟩ v6) := hb2.mono (fun x hx => by
    rcases List.mem_cons.1 hx with rfl | hx
    · exact h.rX
    · exact hGX x hx)
  have e1 : (w1.setCell ⟨R, 1 + a * 6 + b, none⟩ v6).heap.size = w1.heap.size := World.size_setCell _ _ _
  have hX6 : ∀ x, G6 = some x → w0.heap.size ≤ x ∧ x < w1.heap.size ∧ x ≠ R := fun x hx => by
    rcases hG with hG | ⟨y, hG, h3, h4⟩
    · have := h.gX a b x (by rw [← hG]; exact hx)
      have h5 := h.lX x this.1
      exact ⟨h5.1, by omega, this.2⟩
    · rw [hG] at hx; injection hx with hx; subst hx
      exact ⟨by omega, h4, by omega⟩
  refine ⟨G6.toList ++ X, ⟨g, n, c, fun x y => if x = a ∧ y = b then v6 else V x y, fun x y => if x = a ∧ y = b then G6 else G x y, ?_⟩, hbX, fun x hx => List.mem_append_right _ hx, fun x hx => ?_⟩
  · exact
    { c0 := setS_cell (hbt.at_ h.c0 hRG) (by omega)
      cW := fun x y hx hy => by
        by_cases e : x = a ∧ y = b
        · obtain ⟨rfl, rfl⟩ := e
          rw [World.cell?_setCell_same _ _ _ (hbt.at_ (h.cW x y hx hy) hRG)]
          simp
        · rw [if_neg e]
          exact setS_cell (hbt.at_ (h.cW x y hx hy) hRG) (by omega)
      cS := fun s hs => setS_cell (hbt.at_ (h.cS s hs) hRG) (by omega)
      cC := fun x y hx hy => setS_cell (hbt.at_ (h.cC x y hx hy) hRG) (by omega)
      cK := setS_cell (hbt.at_ h.cK hRG) (by omega)
      frz := fun i => by rw [World.frozen?_setCell, hbt.frozen (p := ⟨R, i, none⟩) hRl hRG]; exact h.frz i
      par := h.par.but1 hb2 (by
        simp only [List.mem_cons, not_or]
        have := h.gP
        refine ⟨by omega, fun hx => ?_⟩
        have := h.lX g (hGX g hx)
        omega)
      gP := h.gP
      tree := h.tree
      ways := fun x y hx hy => by
        by_cases e : x = a ∧ y = b
        · obtain ⟨rfl, rfl⟩ := e
          rw [if_pos ⟨rfl, rfl⟩, if_pos ⟨rfl, rfl⟩]
          have hW : (st.setW ((x : Int), (y : Int)) l).W ((x : Int), (y : Int)) = l := by
            show (if _ then l else _) = l
            rw [if_pos rfl]
          rw [hW]
          exact hO.but ((But.refl _ _).setCell (S := [R]) (.inl (by simp)) v6) (fun z hz => by simpa using (hX6 z hz).2.2)
        · rw [if_neg e, if_neg e]
          have hW : (st.setW ((a : Int), (b : Int)) l).W ((x : Int), (y : Int)) = st.W ((x : Int), (y : Int)) := by
            show (if _ then l else _) = _
            rw [if_neg (by intro h; injection h with h1 h2; exact e ⟨by omega, by omega⟩)]
          rw [hW]
          refine (h.ways x y hx hy).but hb2 (fun z hz hm => ?_)
          rcases List.mem_cons.1 hm with hm | hm
          · exact (h.gX x y z hz).2 hm
          · exact e (h.gap x y a b z hz (by simpa using hm))
      rX := List.mem_append_right _ h.rX
      gX := fun x y z hz => by
        split at hz
        · exact ⟨List.mem_append_left _ (by rw [hz]; simp), (hX6 z hz).2.2⟩
        · exact ⟨List.mem_append_right _ (h.gX x y z hz).1, (h.gX x y z hz).2⟩
      gap := fun x y x' y' z hz hz' => by
        have new : ∀ p q, ¬ (p = a ∧ q = b) → G p q = some z → G6 = some z → False := fun p q hp hs hx => by
          rcases hG with hG | ⟨u, hG, h5, h6⟩
          · exact hp (h.gap p q a b z hs (by rw [← hG]; exact hx))
          · rw [hG] at hx; injection hx with hx; subst hx
            have := (h.lX u (h.gX p q u hs).1).2; omega
        split at hz
        · split at hz'
          · rename_i e1 e2; omega
          · rename_i e1 e2; exact (new x' y' e2 hz' hz).elim
        · split at hz'
          · rename_i e1 e2; exact (new x y e1 hz hz').elim
          · exact h.gap x y x' y' z hz hz'
      lX := fun x hx => by
        rw [e1]
        rcases List.mem_append.1 hx with hx | hx
        · have := hX6 x (by simpa using hx); exact ⟨this.1, this.2.1⟩
        · have := h.lX x hx; exact ⟨this.1, by omega⟩ }
  · rcases List.mem_append.1 hx with hx | hx
    · rcases hG with hG | ⟨y, hG, h3, h4⟩
      · left; exact hGX x (by rw [← hG]; exact hx)
      · right; rw [hG] at hx; simp at hx; omega
    · exact .inl hx
/-- A cell beside the ways turns. -/
theorem RdF.cellTo (h : RdF w0 X w R ps st g n c V G) {i : Nat} {v : Value} {st' : DSt} (hi : 37 ≤ i) (hW : st'.W = st.W)
    (hS : ∀ s, s < 6 → (w.setCell ⟨R, i, none⟩ v).cell? ⟨R, 37 + s, none⟩ = some (.bool (st'.S (s : Int))))
    (hC : ∀ a b, a < 6 → b < 6 → (w.setCell ⟨R, i, none⟩ v).cell? ⟨R, 43 + a * 6 + b, none⟩ = some (.bool (st'.C ((b : Int), (a : Int)))))
    (hK : (w.setCell ⟨R, i, none⟩ v).cell? ⟨R, 79, none⟩ = some (.int .i64 (st'.k : Int))) :
    RdF w0 X (w.setCell ⟨R, i, none⟩ v) R ps st' g n c V G := by
  have hRl := (h.lX R h.rX).2
  have hR0 := (h.lX R h.rX).1
  have hb2 : But [R] w (w.setCell ⟨R, i, none⟩ v) := (But.refl _ _).setCell (.inl (by simp)) _
  exact
  { c0 := setS_cell h.c0 (by omega)
    cW := fun x y hx hy => setS_cell (h.cW x y hx hy) (by omega)
    cS := hS
    cC := hC
    cK := hK
    frz := fun j => by rw [World.frozen?_setCell]; exact h.frz j
    par := h.par.but1 hb2 (by simp only [List.mem_singleton]; have := h.gP; omega)
    gP := h.gP
    tree := h.tree
    ways := fun x y hx hy => by rw [hW]; exact (h.ways x y hx hy).but hb2 (fun z hz => by simpa using (h.gX x y z hz).2)
    rX := h.rX
    gX := h.gX
    gap := h.gap
    lX := fun x hx => ⟨(h.lX x hx).1, by rw [World.size_setCell]; exact (h.lX x hx).2⟩ }
theorem RdF.stopF (h : RdF w0 X w R ps st g n c V G) {a : Nat} (ha : a < 6) : RdF w0 X (w.setCell ⟨R, 37 + a, none⟩ (.bool true)) R ps (st.stop (a : Int)) g n c V G := by
  refine h.cellTo (by omega) rfl (fun s hs => ?_) (fun x y hx hy => setS_cell (h.cC x y hx hy) (by omega)) (setS_cell h.cK (by omega))
  show _ = some (Value.bool (if (s : Int) = (a : Int) then true else st.S (s : Int)))
  by_cases e : s = a
  · subst e
    rw [World.cell?_setCell_same _ _ _ (h.cS s hs), if_pos rfl]
  · rw [if_neg (by omega)]
    exact setS_cell (h.cS s hs) (by omega)
theorem RdF.cameTo (h : RdF w0 X w R ps st g n c V G) {a b : Nat} (ha : a < 6) (hb : b < 6) : RdTo w0 X w (w.setCell ⟨R, 43 + b * 6 + a, none⟩ (.bool true)) R ps (st.came ((a : Int), (b : Int))) := by
  refine ⟨X, ⟨g, n, c, V, G, h.cellTo (by omega) rfl (fun s hs => setS_cell (h.cS s hs) (by omega)) (fun x y hx hy => ?_) (setS_cell h.cK (by omega))⟩, (But.refl _ _).setCell (.inl h.rX) _, fun _ hx => hx, fun _ hx => .inl hx⟩
  show _ = some (Value.bool (if ((y : Int), (x : Int)) = ((a : Int), (b : Int)) then true else st.C ((y : Int), (x : Int))))
  by_cases e : x = b ∧ y = a
  · obtain ⟨rfl, rfl⟩ := e
    rw [World.cell?_setCell_same _ _ _ (h.cC x y hx hy), if_pos rfl]
  · rw [if_neg (by intro g; injection g with g1 g2; exact e ⟨by omega, by omega⟩)]
    exact setS_cell (h.cC x y hx hy) (by omega)
theorem RdF.markTo (h : RdF w0 X w R ps st g n c V G) : RdTo w0 X w (w.setCell ⟨R, 79, none⟩ (.int .i64 ((st.k : Int) + 1))) R ps st.mark := by
  refine ⟨X, ⟨g, n, c, V, G, h.cellTo (by omega) rfl (fun s hs => setS_cell (h.cS s hs) (by omega)) (fun x y hx hy => setS_cell (h.cC x y hx hy) (by omega)) ?_⟩, (But.refl _ _).setCell (.inl h.rX) _, fun _ hx => hx, fun _ hx => .inl hx⟩
  rw [World.cell?_setCell_same _ _ _ h.cK]
  rfl
theorem RdTo.then {w1 w2 : World} {st1 st2 : DSt} (h : RdTo w0 X w w1 R ps st1) (k : ∀ X', RdIn w0 X' w1 R ps st1 → RdTo w0 X' w1 w2 R ps st2) : RdTo w0 X w w2 R ps st2 := by
  obtain ⟨X1, h1, h2, h3, h4⟩ := h
  exact RdTo.trans ⟨X1, h1, h2, h3, h4, k X1 h1⟩
theorem RdTo.keep {w1 w2 : World} {st1 : DSt} (h : RdTo w0 X w w1 R ps st1) (k : Kept w1 w2) : RdTo w0 X w w2 R ps st1 := h.then fun X' hi => hi.to k
theorem RdTo.kept {w1 : World} {st1 : DSt} (h : RdTo w0 X w w1 R ps st1) (hk : Kept w0 w) (hX : ∀ x ∈ X, w0.heap.size ≤ x) : Kept w0 w1 := by
  obtain ⟨X1, h1, h2, h3, h4⟩ := h
  exact hk.but h2 hX
theorem RdIn.ge (h : RdIn w0 X w R ps st) : ∀ x ∈ X, w0.heap.size ≤ x := by
  obtain ⟨g, n, c, V, G, h⟩ := h
  exact fun x hx => (h.lX x hx).1
theorem RdIn.lt (h : RdIn w0 X w R ps st) : ∀ x ∈ X, x < w.heap.size := by
  obtain ⟨g, n, c, V, G, h⟩ := h
  exact fun x hx => (h.lX x hx).2
end
theorem infoTg : (Try.prog.info? 51).map (fun i => (i.zero, i.size, i.bytes)) = some (some (.agg #[.string ⟨#[]⟩, .bool false]), 2, 24) := by kernel_rfl
theorem new_cell2 {w0 wd : World} {x y : Value} {t : TypeId} (h : Kept (w0.alloc (.cells #[x, y] t)) wd) : ∀ (j : Nat) (u : Value), [x, y][j]? = some u → wd.cell? ((⟨w0.heap.size, 0, none⟩ : Addr).add j) = some u := by
  intro j u hu
  have e : ((⟨w0.heap.size, 0, none⟩ : Addr).add j) = ⟨w0.heap.size, j, none⟩ := by simp [Addr.add]; omega
  rw [e]
  refine h.at_ ?_
  rw [cellOf (heap_alloc_new w0 _) j, ← hu]
  exact List.getElem?_toArray
set_option maxRecDepth 20000 in
set_option maxHeartbeats 2000000 in
theorem rsend (w0 : World) (X : List Nat) (R : Nat) (ps : List Int) (st : DSt) (a b : Int) (lb : ByteArray) (w : World) (h : RdIn w0 X w R ps st) (h0 : Kept w0 w) (ha : gd a) (hb : gd b) (hl : (st.W (a, b)).length ≤ 1000) :
    Calls Try.prog 20 #[.pointer (some ⟨R, 0, none⟩), .int .i64 a, .int .i64 b, .string lb] w fun e w' => e = .returned (.int .i64 (sendR ps st a b)) ∧ RdTo w0 X w w' R ps (sendD ps st a b lb) := by
  have HD := Lib.hid h
  have ht := (rbd h).1
  have h6 := (rbd h).2.2
  rcases hN : nbB ps a b with _ | _
  · have HN := Lib.hid hN
    have hr : sendR ps st a b = 1 := by simp [sendR, hN]
    have hd : sendD ps st a b lb = st := by simp [sendD, hr]
    rw [hr, hd]
    clear hN hr hd h ht h6
    go_enter Try.func20, Try.ntmps20
    go_wp2_with (go_at_call 35; refine (rnearD w0 X R ps st a b _ HD.out).mono ?_; rintro e w1 ⟨rfl, k1⟩; rw [HN.out])
    go_ret
    exact ⟨rfl, HD.out.to k1⟩
  · have HN := Lib.hid hN
    obtain ⟨x, y, rfl, rfl, hx, hy, _⟩ := (nb_iff ht _ _).1 hN
    obtain ⟨g, n, c, V, G, h⟩ := h
    have hx6 : x < 6 := by omega
    have hy6 : y < 6 := by omega
    have cs := h.cS x hx6
    have cw := h.cW x y hx6 hy6
    have HH := Lib.hid h
    have hRl := (h.lX R h.rX).2
    have HO := Lib.hid (h.ways x y hx6 hy6)
    have hRG : R ∉ (G x y).toList := fun hx => (h.gX x y R (by simpa using hx)).2 rfl
    have hfr := h.frz (1 + x * 6 + y)
    obtain ⟨A0, cp, hv⟩ := (h.ways x y hx6 hy6).form
    have hxl := tgC_len (st.W ((x : Int), (y : Int)))
    rw [hv] at cw HO
    obtain ⟨L, hL⟩ : ∃ L, (st.W ((x : Int), (y : Int))).length = L := ⟨_, rfl⟩
    have HLL := Lib.hid hL
    obtain ⟨Gp, hGp⟩ : ∃ Gp, G x y = Gp := ⟨_, rfl⟩
    have HGP := Lib.hid hGp
    obtain ⟨xs, hxs⟩ : ∃ xs, tgC (st.W ((x : Int), (y : Int))) = xs := ⟨_, rfl⟩
    have HXS := Lib.hid hxs
    rw [hxs, hL] at hxl
    rw [hL, hGp, hxs] at HO
    rw [hL] at cw hl
    rw [hGp] at hRG
    have HXL := Lib.hid hxl
    rcases hS : st.S (x : Int) with _ | _
    · have HS := Lib.hid hS
      rw [hS] at cs
      rcases Nat.lt_or_ge L 32 with h32 | h32
      · have hr : sendR ps st (x : Int) (y : Int) = 0 := by simp [sendR, hN, hS, hL]; omega
        have hd : sendD ps st (x : Int) (y : Int) lb = st.setW ((x : Int), (y : Int)) (st.W ((x : Int), (y : Int)) ++ [some lb]) := by simp [sendD, hr]
        have d1 : decide (32 ≤ (L : Int)) = false := by simp; omega
        rw [hr, hd]
        obtain ⟨i0, hi, hz0, hz1, hz2⟩ := info_parts infoTg
        have HI := Lib.hid hi
        clear hN hr hd h ht h6 hS hv hL hxs hxl hi hGp
        go_enter Try.func20, Try.ntmps20
        go_wp2_with (go_at_call 35; refine (rnearD w0 X R ps st (x : Int) (y : Int) _ HD.out).mono ?_; rintro e w1 ⟨rfl, k1⟩; rw [HN.out]; have cs := k1.at_ cs; have cw := k1.at_ cw; have hRl := Nat.lt_of_lt_of_le hRl k1.size; have hfr : w1.frozen? ⟨R, 1 + x * 6 + y, none⟩ = false := (HH.out.keep k1).frz _)
        have HOQ : Hid (OpenK w1 Gp (.slice A0 L cp) L 2 xs) := HO.out.kept k1
        refine wp_region_dw (keepsBut ((Gp.toList))) [0, 1, 2, 3, 4, 5, 6, 7, 8, 9, 10, 11, 12, 15, 16, 17, 13, 14, 18, 19] (fun wB => But ((Gp.toList)) w1 wB ∧ wB.cell? ⟨R, 1 + x * 6 + y, none⟩ = some (.slice A0 L cp) ∧ Hid (OpenK wB Gp (.slice A0 L cp) L 2 xs)) ?_ (by kernel_rfl) (by kernel_rfl) _ (by (try simp only [List.append_eq, List.cons_append, List.nil_append, List.toList_toArray]); exact rfl) ?_
        · exact ⟨by repeat (first | exact But.refl _ _ | assumption | (refine But.alloc ?_ _) | (refine But.setCell ?_ (by first | (right; omega) | (right; simp; omega) | (left; simp)) _) | refine But.drew ?_ | refine But.drewN ?_ _ | (apply But.trans; rotate_left; assumption)), by first | assumption | go_simp, by first | assumption | skip⟩
        rintro wB ⟨hkB, sB1, HX⟩
        simp only [List.map_cons, List.map_nil, List.toList_toArray, List.getElem?_cons_zero, List.getElem?_cons_succ, Option.getD_some]
        iterate 18 (first | (apply DW.det; (focus (intro wd hI; have hkd := hkB.trans hI; have td1 := hI.at_ sB1 (by assumption); go_wp2_with (fail); refine StepPost.mk _ rfl ⟨rfl, ?_⟩; repeat (first | exact Kept.refl _ | assumption | (refine Kept.alloc ?_ _) | (refine Kept.setCell ?_ (by first | omega | (simp; omega) | simp) _) | refine Kept.drew ?_ | refine Kept.drewN ?_ _ | (apply Kept.call; rotate_left; assumption)))); simp only [Act.put, List.setIfInBounds_toArray, List.set_cons_succ, List.set_cons_zero]) | (refine DW.loud (by kernel_rfl) ?_; intro wd hI; have hkd := hkB.trans (But.of_kept hI); have td1 := hI.at_ sB1; go_wp2_with (at_builtin; refine append_openM _ rfl _ _ 43 rfl 51 i0 (.agg #[.string ⟨#[]⟩, .bool false]) 2 24 Try.underlying43 HI.out hz0 hz1 hz2 rfl (by omega) Gp _ L 1 xs (HX.out.kept hI) HXL.out rfl _ 1 [.string lb, .bool false] rfl rfl (new_cell2 hI) (tgC_one (some lb)) (by unfold maxLen; omega) (by omega) ?_; intro v6 w6 G6 C0 O6 hG6; have hG6 : (G6 = Gp ∨ ∃ g, G6 = some g ∧ w1.heap.size ≤ g ∧ g < w6.heap.size) := hG6.imp id (fun ⟨g, h, h3, h4⟩ => ⟨g, h, Nat.le_trans hkd.size h3, h4⟩)); refine StepPost.loud _ rfl (by repeat (first | exact But.refl _ _ | assumption | (refine But.alloc ?_ _) | (refine But.setCell ?_ (by first | (right; omega) | (right; simp; omega) | (left; simp)) _) | refine But.drew ?_ | refine But.drewN ?_ _ | (apply But.trans; rotate_left; assumption))) (fun hkL => ?_); have hkL2 := (But.of_kept (S := (Gp.toList)) hI).trans hkL; have hkB := hkB.trans hkL2; have sB1 := hkL2.at_ sB1 (by assumption); (first | have HX := Lib.hid (HX.out.kept (Kept.call hI (Kept.as1 hkL))) | have HX := Lib.hid (HX.out.kept (Kept.call hI (Kept.as0 hkL))) | skip); simp only [Act.put, List.setIfInBounds_toArray, List.set_cons_succ, List.set_cons_zero]))
        refine DW.tail (by kernel_rfl) ?_
        intro wd hI
        have hkd := hkB.trans (But.of_kept hI); have td1 := hI.at_ sB1
        obtain ⟨A6, cp6, hv6⟩ := O6.form
        subst hv6
        have y2 : wd.frozen? ⟨R, 1 + x * 6 + y, none⟩ = false := by rw [hkd.frozen (p := ⟨R, 1 + x * 6 + y, none⟩) hRl hRG]; exact hfr
        have HO6 := Lib.hid (O6.kept hI)
        have HG6 := Lib.hid hG6
        have HKD := Lib.hid hkd
        have FIN : RdTo w0 X w1 (wd.setCell ⟨R, 1 + x * 6 + y, none⟩ (.slice A6 (L + 1) cp6)) R ps (st.setW ((x : Int), (y : Int)) (st.W ((x : Int), (y : Int)) ++ [some lb])) := by
          refine (HH.out.keep k1).wayTo (h0.call k1) hx6 hy6 (G6 := G6) (by rw [HGP.out]; exact HKD.out) ?_ ?_
          · have e1 : (st.W ((x : Int), (y : Int)) ++ [some lb]).length = L + 1 := by rw [List.length_append, HLL.out]; rfl
            have e2 : tgC (st.W ((x : Int), (y : Int)) ++ [some lb]) = xs ++ [.string lb, .bool false] := by rw [tgC_app, HXS.out]; rfl
            rw [e1, e2]
            exact HO6.out
          · rw [HGP.out]
            exact HG6.out.imp id (fun ⟨g, h, h3, h4⟩ => ⟨g, h, h3, Nat.lt_of_lt_of_le h4 hI.size⟩)
        clear O6 hG6 hkd
        go_wp2_with fail
        go_ret
        exact ⟨rfl, RdTo.trans ⟨X, HD.out.keep k1, .of_kept k1, fun _ h => h, fun _ h => .inl h, FIN⟩⟩
      · have hr : sendR ps st (x : Int) (y : Int) = 15 := by simp [sendR, hN, hS, hL]; omega
        have hd : sendD ps st (x : Int) (y : Int) lb = st := by simp [sendD, hr]
        have d1 : decide (32 ≤ (L : Int)) = true := by simp; omega
        rw [hr, hd]
        clear hN hr hd h ht h6 hS hv hL hxs hxl hGp
        go_enter Try.func20, Try.ntmps20
        go_wp2_with (go_at_call 35; refine (rnearD w0 X R ps st (x : Int) (y : Int) _ HD.out).mono ?_; rintro e w1 ⟨rfl, k1⟩; rw [HN.out]; have cs := k1.at_ cs; have cw := k1.at_ cw)
        go_ret
        exact ⟨rfl, HD.out.to k1⟩
    · have HS := Lib.hid hS
      rw [hS] at cs
      have hr : sendR ps st (x : Int) (y : Int) = 13 := by simp [sendR, hN, hS]
      have hd : sendD ps st (x : Int) (y : Int) lb = st := by simp [sendD, hr]
      rw [hr, hd]
      clear hN hr hd h ht h6 hS hv hL hxs hxl hGp
      go_enter Try.func20, Try.ntmps20
      go_wp2_with (go_at_call 35; refine (rnearD w0 X R ps st (x : Int) (y : Int) _ HD.out).mono ?_; rintro e w1 ⟨rfl, k1⟩; rw [HN.out]; have cs := k1.at_ cs)
      go_ret
      exact ⟨rfl, HD.out.to k1⟩
end Go.Proofs.Ytbofgpmbocjbiaa
