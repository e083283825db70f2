/- The drain's put. -/
import Derived.Test.YtbofgpmbocjbiaaMrkD
set_option linter.unusedSimpArgs false
set_option linter.unusedVariables false
namespace Go.Proofs.Ytbofgpmbocjbiaa
open Go.RowKit Go.Maps

abbrev WayF (w : World) (b : Nat) (f : Int × Int → Option Value) : Prop := MapF Try.prog 65 mkW w b f
theorem way_one (w : World) (v : Value) (t : TypeId) : ∀ (j : Nat) (u : Value), [v][j]? = some u → (w.alloc (.cells #[v] t)).cell? ((⟨w.heap.size, 0, none⟩ : Addr).add j) = some u := fun j u hu => by
  have e : ((⟨w.heap.size, 0, none⟩ : Addr).add j) = ⟨w.heap.size, j, none⟩ := by simp [Addr.add]; omega
  rw [e, cellOf (heap_alloc_new w _) j, ← hu]
  exact List.getElem?_toArray
theorem MapF.kept {I : Type} {P : Program} {k : TypeId} {mk : I → Value} {w w2 : World} {b : Nat} {f : I → Option Value} (h : MapF P k mk w b f) (hk : Kept w w2) : MapF P k mk w2 b f := h.keep hk
theorem news_after {w1 w2 w5 : World} {v : Value} {t : TypeId} {M : Nat} {f : Int × Int → Option Value} (h : Kept (w1.alloc (.cells #[v] t)) w2) (hm : WayF w2 M f) (hb : But [M] w2 w5) : ∀ (j : Nat) (u : Value), [v][j]? = some u → w5.cell? ((⟨w1.heap.size, 0, none⟩ : Addr).add j) = some u := by
  intro j u hu
  have h1 := h.at_ (way_one w1 v t j u hu)
  have e0 : ((⟨w1.heap.size, 0, none⟩ : Addr).add j) = ⟨w1.heap.size, j, none⟩ := by simp [Addr.add]; omega
  rw [e0] at h1 ⊢
  refine hb.at_ h1 ?_
  show w1.heap.size ∉ [M]
  simp only [List.mem_singleton]
  intro e
  have h2 := h.heap (heap_alloc_new w1 (.cells #[v] t))
  obtain ⟨es, clock, h3, _⟩ := hm
  rw [e, h3] at h2
  injection h2 with h2
  cases h2
theorem wpList_entF (w : World) {ops : Array Oper} {rest : List Oper} {o : Oper} {a : Act} {Q : Exit → Act → World → Prop} (hg : o.guard = none) (m x : Operand) (hop : o.op = Op.mapEntry 58 m x) {b : Nat} {f : Int × Int → Option Value} {p : Int × Int} {kl : Lit}
    (hm : a.eval m = .map (some b)) (hx : a.eval x = mkW p) (hkl : keyOf Try.prog 65 (mkW p) = some kl) (h : WayF w b f)
    (hK : ∀ (sp : Nat) (w' : World), EntF Try.prog 65 mkW w' b (fun x => if x = p then some ((f p).getD (.slice none 0 0)) else f x) p sp → But [b] w w' → wpList Try.prog ops Q rest (a.put o.dst (.tuple #[(f p).getD (.slice none 0 0), .int .i64 (sp : Int)])) w') : wpList Try.prog ops Q (o :: rest) a w := by
  obtain ⟨sp, w', hrun, hent, hb⟩ := h.ent mkW_inj keyWay Try.underlying58 (zeroAny _) hkl
  exact wpList_ent w hg m x _ hop hm hx hrun (hK sp w' hent hb)
set_option maxRecDepth 20000 in
set_option maxHeartbeats 2000000 in
theorem put_any (w0 : World) (X : List Nat) (D : Nat) (ps : List Int) (st : DSt) (a b : Int) (t : Thg) (w : World) (h : DrIn w0 X w D ps st) (h0 : Kept w0 w) (ha : gd a) (hb : gd b) (hl : (st.W (a, b)).length ≤ 1000) :
    Calls Try.prog 31 #[.pointer (some ⟨D, 0, none⟩), .agg #[.int .i64 a, .int .i64 b], thV t] w fun e w' => e = .returned (.tuple #[]) ∧ DrTo w0 X w w' D ps (st.setW (a, b) (st.W (a, b) ++ [t])) := by
  obtain ⟨PB, n, c, M1, M2, M3, fW, G, fS, fC, h⟩ := h
  obtain ⟨i0, hi, hz0, hz1, hz2⟩ := info_parts infoAny
  have HI := Lib.hid hi
  have HH := Lib.hid h
  have c1 := cellOf h.cells 1
  simp only [List.getElem?_toArray, List.getElem?_cons_zero, List.getElem?_cons_succ] at c1
  have hDl := (h.own D (by simp)).2.1
  have hap := h.apart
  have HO := Lib.hid (h.ways (a, b))
  obtain ⟨Gp, hGp⟩ : ∃ Gp, G (a, b) = Gp := ⟨_, rfl⟩
  rw [hGp] at HO
  have HGP := Lib.hid hGp
  have hDG : D ∉ M1 :: Gp.toList := by
    simp only [List.mem_cons, not_or]
    exact ⟨hap.2.1, fun hx => (h.gne (p := (a, b)) (x := D) (by rw [hGp]; simpa using hx)).1 rfl⟩
  obtain ⟨v0, hv0⟩ : ∃ v0, (fW (a, b)).getD (.slice none 0 0) = v0 := ⟨_, rfl⟩
  rw [hv0] at HO
  have HV0 := Lib.hid hv0
  have hMG : M1 ∉ Gp.toList := fun hx => (h.gne (p := (a, b)) (x := M1) (by rw [hGp]; simpa using hx)).2.2.1 rfl
  have hGlt : ∀ x ∈ Gp.toList, x < w.heap.size := fun x hx => (h.gown (a, b) x (by rw [hGp]; simpa using hx)).2.1
  have HM := Lib.hid h.m1
  obtain ⟨kl, hkl⟩ := keyW_of ha hb
  have HKL := Lib.hid hkl
  have hM1 := h.m1.lt
  obtain ⟨tt, tw, htv⟩ : ∃ tt tw, thV t = .iface tt tw := by cases t <;> exact ⟨_, _, rfl⟩
  have HTV := Lib.hid htv
  have hxl : (thC (st.W (a, b))).length = (st.W (a, b)).length * 1 := thC_len _
  have HXL := Lib.hid hxl
  have h1tv : (Value.iface tt tw).oneCell' = true := by rw [← htv]; exact thV_one t
  have H1TV : Hid (∀ u ∈ [Value.iface tt tw], u.oneCell' = true) := fun u hu => by rw [show u = .iface tt tw by simpa using hu]; exact h1tv
  obtain ⟨L, hL⟩ : ∃ L, (st.W (a, b)).length = L := ⟨_, rfl⟩
  obtain ⟨xs, hxs⟩ : ∃ xs, thC (st.W (a, b)) = xs := ⟨_, rfl⟩
  rw [hL, hxs] at HO HXL
  rw [hL] at hl
  have HLL := Lib.hid hL
  have HXS := Lib.hid hxs
  rw [htv]
  clear h hi hkl hGp hv0 htv hxl hL hxs h1tv
  go_enter Try.func31, Try.ntmps31
  go_wp2_with fail
  have hWl : w.heap.size ∉ M1 :: Gp.toList := by
    simp only [List.mem_cons, not_or]
    exact ⟨by omega, fun hx => by have := hGlt _ hx; omega⟩
  have HOQ : Hid (OpenK (w.alloc (.cells #[.int .i64 a, .int .i64 b] 65)) Gp v0 L 1 xs) := HO.out.kept ((Kept.refl w).alloc _)
  have HMQ : Hid (MapF Try.prog 65 mkW (w.alloc (.cells #[.int .i64 a, .int .i64 b] 65)) M1 fW) := HM.out.keep ((Kept.refl w).alloc _)
  refine wp_region_dw (keepsBut ((M1 :: Gp.toList))) [0, 1, 2, 3, 4, 5, 6, 7, 8, 10, 9, 11] (fun wB => But ((M1 :: Gp.toList)) w wB ∧ wB.cell? ⟨D, 1, none⟩ = some (.map (some M1)) ∧ wB.cell? ⟨w.heap.size, 0, none⟩ = some (.int .i64 a) ∧ wB.cell? ⟨w.heap.size, 1, none⟩ = some (.int .i64 b) ∧ Hid (OpenK wB Gp v0 L 1 xs) ∧ Hid (WayF wB M1 fW)) ?_ (by kernel_rfl) (by kernel_rfl) _ (by (try simp only [List.append_eq, List.cons_append, List.nil_append, List.toList_toArray]); exact rfl) ?_
  · exact ⟨by repeat (first | exact But.refl _ _ | assumption | (refine But.alloc ?_ _) | (refine But.setCell ?_ (by first | (right; omega) | (right; simp; omega) | (left; simp)) _) | refine But.drew ?_ | refine But.drewN ?_ _ | (apply But.trans; rotate_left; assumption)), by first | assumption | go_simp, by first | assumption | go_simp, by first | assumption | go_simp, by first | assumption | skip, by first | assumption | skip⟩
  rintro wB ⟨hkB, sB1, sB2, sB3, HX, HMX⟩
  simp only [List.map_cons, List.map_nil, List.toList_toArray, List.getElem?_cons_zero, List.getElem?_cons_succ, Option.getD_some]
  iterate 11 (first | (apply DW.det; (focus (intro wd hI; have hkd := hkB.trans hI; have td1 := hI.at_ sB1 (by assumption); have td2 := hI.at_ sB2 (by assumption); have td3 := hI.at_ sB3 (by assumption); go_wp2_with (fail); refine StepPost.mk _ rfl ⟨rfl, ?_⟩; repeat (first | exact Kept.refl _ | assumption | (refine Kept.alloc ?_ _) | (refine Kept.setCell ?_ (by first | omega | (simp; omega) | simp) _) | refine Kept.drew ?_ | refine Kept.drewN ?_ _ | (apply Kept.call; rotate_left; assumption)))); simp only [Act.put, List.setIfInBounds_toArray, List.set_cons_succ, List.set_cons_zero]) | (refine DW.loud (by kernel_rfl) ?_; intro wd hI; have hkd := hkB.trans (But.of_kept hI); have td1 := hI.at_ sB1; have td2 := hI.at_ sB2; have td3 := hI.at_ sB3; go_wp2_with (first | (refine wpList_entF _ rfl _ _ rfl rfl rfl HKL.out (HMX.out.keep hI) ?_; intro sp w5 hent hb5; have HX := Lib.hid ((HX.out.kept hI).but hb5 (fun g hg hm => hMG (by rw [← List.mem_singleton.1 hm, hg]; simp))); have HNC := Lib.hid (news_after hI (HMX.out.keep hI) hb5); have HENT := Lib.hid hent; have hb5 : But (M1 :: Gp.toList) wd w5 := hb5.mono (by simp); simp only [HV0.out]; clear hent) | (at_builtin; refine append_openM _ rfl _ _ 68 rfl 20 i0 .nilIface 1 16 Try.underlying68 HI.out hz0 hz1 hz2 rfl (by omega) Gp _ L 1 xs (HX.out.kept hI) HXL.out rfl _ 1 [.iface tt tw] rfl rfl (fun j u hu => hI.at_ (HNC.out j u hu)) H1TV.out (by unfold maxLen; omega) (by omega) ?_; intro v6 w6 G6 C0 O6 hG6; have HENT := Lib.hid ((HENT.out.keep hI).but C0 hMG); have hG6 : (G6 = Gp ∨ ∃ g, G6 = some g ∧ w.heap.size ≤ g ∧ g < w6.heap.size) := hG6.imp id (fun ⟨g, h, h3, h4⟩ => ⟨g, h, Nat.le_trans hkd.size h3, h4⟩); have C0 : But (M1 :: Gp.toList) wd w6 := C0.mono (fun x hx => List.mem_cons_of_mem _ hx))); refine StepPost.loud _ rfl (by repeat (first | exact But.refl _ _ | assumption | (refine But.alloc ?_ _) | (refine But.setCell ?_ (by first | (right; omega) | (right; simp; omega) | (left; simp)) _) | refine But.drew ?_ | refine But.drewN ?_ _ | (apply But.trans; rotate_left; assumption))) (fun hkL => ?_); have hkL2 := (But.of_kept (S := (M1 :: Gp.toList)) hI).trans hkL; have hkB := hkB.trans hkL2; have sB1 := hkL2.at_ sB1 (by assumption); have sB2 := hkL2.at_ sB2 (by assumption); have sB3 := hkL2.at_ sB3 (by assumption); (first | have HX := Lib.hid (HX.out.kept (Kept.call hI (Kept.as1 hkL))) | have HX := Lib.hid (HX.out.kept (Kept.call hI (Kept.as0 hkL))) | skip); (first | have HMX := Lib.hid (HMX.out.kept (Kept.call hI (Kept.as1 hkL))) | have HMX := Lib.hid (HMX.out.kept (Kept.call hI (Kept.as0 hkL))) | skip); simp only [Act.put, List.setIfInBounds_toArray, List.set_cons_succ, List.set_cons_zero]))
  refine DW.tail (by kernel_rfl) ?_
  intro wd hI
  have hkd := hkB.trans (But.of_kept hI); have td1 := hI.at_ sB1; have td2 := hI.at_ sB2; have td3 := hI.at_ sB3
  obtain ⟨w8, hrun, hmf, hb8⟩ := (HENT.out.keep hI).store (t := 58) mkW_inj v6
  have HMF := Lib.hid hmf
  have HB8 := Lib.hid hb8
  have HO6 := Lib.hid (O6.kept hI)
  have HG6 := Lib.hid hG6
  have HZ := Lib.hid hI.size
  have HKD := Lib.hid hkd
  clear hmf hb8 O6 hG6 HENT HNC HX
  go_wp2_with fail
  go_end0
  have hb8w : But (M1 :: Gp.toList) wd w8 := HB8.out.mono (by simp)
  refine ⟨rfl, (HH.out.wayTo (p := (a, b)) (v6 := v6) (G6 := G6) HMF.out (fun x => ?_) (by rw [HGP.out]; exact HKD.out.trans hb8w) ?_ ?_ h0.size).2⟩
  · by_cases e : x = (a, b)
    · simp [e]
    · simp [e]
  · have e1 : (st.W (a, b) ++ [t]).length = L + 1 := by rw [List.length_append, HLL.out]; rfl
    have e2 : thC (st.W (a, b) ++ [t]) = xs ++ [.iface tt tw] := by rw [thC_app, HXS.out, ← HTV.out]; rfl
    rw [e1, e2]
    refine HO6.out.but HB8.out fun g hg hm => ?_
    have hgm : g = M1 := by simpa using hm
    rcases HG6.out with h | ⟨g', h, h3, h4⟩
    · exact hMG (by rw [← hgm, ← h, hg]; simp)
    · rw [hg] at h; injection h with h; omega
  · have := HZ.out
    have := HB8.out.size
    rcases HG6.out with h | ⟨g', h, h3, h4⟩
    · exact .inl (by rw [HGP.out]; exact h)
    · exact .inr ⟨g', h, h3, by omega⟩
end Go.Proofs.Ytbofgpmbocjbiaa
