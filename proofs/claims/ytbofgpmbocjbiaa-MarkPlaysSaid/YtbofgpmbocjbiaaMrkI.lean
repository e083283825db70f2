/- The drain's New, Done, All. -/
import Derived.Test.YtbofgpmbocjbiaaMrkL
import Derived.Lib.SliceRun
set_option linter.unusedSimpArgs false
set_option linter.unusedVariables false
namespace Go.Proofs.Ytbofgpmbocjbiaa
open Go.RowKit Go.Maps

set_option maxHeartbeats 1000000 in
theorem clone_ints (b off n c : Nat) (p : List Int) (w : World) (hx : IntsAt w (some ⟨b, off, none⟩) n c p) (h0 : 0 < n) (h6 : n ≤ 6) :
    Calls Try.prog 28 #[.slice (some ⟨b, off, none⟩) n c] w fun e w' => ∃ g d, e = .returned (.slice (some ⟨g, 0, none⟩) n d) ∧ w.heap.size ≤ g ∧ g < w'.heap.size ∧ IntsAt w' (some ⟨g, 0, none⟩) n d p ∧ Kept w w' := by
  obtain ⟨i0, hi, hz0, hz1, hz2⟩ := info_parts infoInt
  have hown : (w.alloc (.cells #[] 3)).ownsRow w.heap.size 3 1 (.slice (some ⟨w.heap.size, 0, none⟩) 0 0) 0 [] := own_new w 3 [] 0 1 rfl (by decide)
  have hpl : p.length = n := hx.1
  have hl : (intC p).length = n * 1 := by rw [intC_len, hpl]; omega
  have H2 : Hid (∀ j u, (intC p)[j]? = some u → (w.alloc (.cells #[] 3)).cell? ((⟨b, off, none⟩ : Addr).add j) = some u) := by
    intro j u hu
    have e : ((⟨b, off, none⟩ : Addr).add j) = ⟨b, off + j, none⟩ := by simp [Addr.add]
    rw [e]
    obtain ⟨b', off', e', hc⟩ := hx.2.2.2.2 h0
    injection e' with e'
    injection e' with e1 e2
    subst e1 e2
    have hj : j < n := by have := (List.getElem?_eq_some_iff.1 hu).1; rw [intC_len, hpl] at this; exact this
    refine ((Kept.refl w).alloc _).at_ ?_
    rw [hc j hj, ← hu]
    unfold intC
    rw [List.getElem?_map, List.getElem?_eq_getElem (by omega)]
    rfl
  have H1 : Hid (∀ u ∈ intC p, u.oneCell' = true) := intC_one p
  have HL := Lib.hid hl
  have HI := Lib.hid hi
  have hq := fun W => Lib.run_eql_slice_nil (P := Try.prog) W 22 3 (some ⟨b, off, none⟩) n c 0 0 Try.underlying22
  obtain ⟨xs, hxs⟩ : ∃ xs, intC p = xs := ⟨_, rfl⟩
  have HXS := Lib.hid hxs
  rw [hxs] at H2 H1 HL
  clear hx hpl hl hi hxs
  go_enter Try.func28, Try.ntmps28
  go_wp2_with (at_builtin; refine wpList_append_own _ rfl _ _ 22 rfl w.heap.size 3 i0 (.int .i64 0) 1 8 Try.underlying22 HI.out hz0 hz1 hz2 rfl (by decide) _ 0 [] rfl hown ⟨b, off, none⟩ n c xs rfl HL.out H2.out H1.out (by unfold maxLen; omega) (by omega) (by simp) ?_; intro v3 w3 hown3 hgrow3 _)
  simp only [Nat.zero_add, List.nil_append] at hown3
  go_ret
  rw [← HXS.out] at hown3
  obtain ⟨g, d, rfl, h1, h2⟩ := own_some hown3 h0
  obtain ⟨A2, c2, hv, hia⟩ := IntsAt.of_ownI hown3
  injection hv with hv1 _ hv2
  subst hv1 hv2
  exact ⟨g, d, rfl, h1, h2, hia, ((Kept.refl w).alloc _).grown hgrow3 (by intro g hg; have h9 : some w.heap.size = some g := hg; injection h9 with h9; exact Nat.le_of_eq h9)⟩

theorem DrIn.bd {w0 w : World} {X : List Nat} {D : Nat} {ps : List Int} {st : DSt} (h : DrIn w0 X w D ps st) : IsTree ps ∧ 1 ≤ ps.length ∧ ps.length ≤ 6 := by
  obtain ⟨PB, n, c, M1, M2, M3, fW, G, fS, fC, h⟩ := h
  have := (tree_iff ps).1 h.tree
  exact ⟨h.tree, this.1, this.2.1⟩
theorem new_bad (A : Option Addr) (n c : Nat) (p : List Int) (w : World) (hx : IntsAt w A n c p) (ht : ¬ IsTree p) :
    Calls Try.prog 10 #[.slice A n c] w fun e w' => e = .returned (.pointer none) ∧ Kept w w' := by
  have HX := Lib.hid hx
  clear hx
  go_enter Try.func10, Try.ntmps10
  go_wp2_with (go_at_call 27; refine (check_any A n c p _ HX.out).mono ?_; rintro e w1 ⟨B, rfl, hB, k1⟩; obtain rfl : B = false := (by cases B; rfl; exact absurd (hB.1 rfl) ht); clear hB)
  go_ret
  exact ⟨rfl, k1⟩
set_option maxHeartbeats 1000000 in
theorem new_any (A : Option Addr) (n c : Nat) (p : List Int) (w : World) (hx : IntsAt w A n c p) (ht : IsTree p) :
    Calls Try.prog 10 #[.slice A n c] w fun e w' => ∃ D, e = .returned (.pointer (some ⟨D, 0, none⟩)) ∧ DrIn w [] w' D p dst0 ∧ Kept w w' := by
  have h1 := (tree_iff p).1 ht
  have hn : p.length = n := hx.1
  obtain ⟨b, off, rfl, _⟩ := hx.2.2.2.2 (by omega)
  have h0 : 0 < n := by omega
  have h6 : n ≤ 6 := by omega
  have HX := Lib.hid hx
  have HT := Lib.hid ht
  have HN := Lib.hid hn
  have hmm := fun W => run_makeMap (P := Try.prog) 58 W
  have hmm2 := fun W => run_makeMap (P := Try.prog) 59 W
  have hmm3 := fun W => run_makeMap (P := Try.prog) 60 W
  clear hx ht h1 hn
  go_enter Try.func10, Try.ntmps10
  go_wp2_with (first | (go_at_call 27; refine (check_any _ n c p _ HX.out).mono ?_; rintro e w1 ⟨B, rfl, hB, k1⟩; obtain rfl : B = true := hB.2 HT.out; clear hB) | (go_at_call 28; refine (clone_ints b off n c p _ (HX.out.keep k1) h0 h6).mono ?_; rintro e w2 ⟨g, d, rfl, hg1, hg2, hia, k2⟩; have HIA := Lib.hid hia; clear hia))
  go_ret
  have hK2 : Kept w w2 := k1.call k2
  have hz := hK2.size
  have hz1 := k1.size
  have hia := HIA.out
  have hn := HN.out
  have k3 : Kept w2 ((((w2.alloc (.map #[] 0)).alloc (.map #[] 0)).alloc (.map #[] 0)).alloc (.cells #[.slice (some ⟨g, 0, none⟩) n d, .map (some w2.heap.size), .map (some (w2.heap.size + 1)), .map (some (w2.heap.size + 1 + 1)), .int .i64 0] 62)) := by repeat (first | exact Kept.refl _ | assumption | (refine Kept.alloc ?_ _) | (refine Kept.setCell ?_ (by first | omega | (simp; omega) | simp) _) | refine Kept.drew ?_ | refine Kept.drewN ?_ _ | (apply Kept.call; rotate_left; assumption))
  have e1 : (((w2.alloc (.map #[] 0)).alloc (.map #[] 0)).alloc (.map #[] 0)).heap.size = w2.heap.size + 1 + 1 + 1 := by simp only [World.size_alloc]
  have hD := heap_alloc_new (((w2.alloc (.map #[] 0)).alloc (.map #[] 0)).alloc (.map #[] 0)) (.cells #[.slice (some ⟨g, 0, none⟩) n d, .map (some w2.heap.size), .map (some (w2.heap.size + 1)), .map (some (w2.heap.size + 1 + 1)), .int .i64 0] 62)
  rw [e1] at hD
  have hm1 : MapF Try.prog 65 mkW (w2.alloc (.map #[] 0)) w2.heap.size (fun _ => none) := MapF.new w2
  have hm2 : MapF Try.prog 3 mkS ((w2.alloc (.map #[] 0)).alloc (.map #[] 0)) (w2.heap.size + 1) (fun _ => none) := by have := MapF.new (P := Try.prog) (k := 3) (mk := mkS) (w2.alloc (.map #[] 0)); rwa [World.size_alloc] at this
  have hm3 : MapF Try.prog 65 mkW (((w2.alloc (.map #[] 0)).alloc (.map #[] 0)).alloc (.map #[] 0)) (w2.heap.size + 1 + 1) (fun _ => none) := by have := MapF.new (P := Try.prog) (k := 65) (mk := mkW) ((w2.alloc (.map #[] 0)).alloc (.map #[] 0)); rwa [World.size_alloc, World.size_alloc] at this
  refine ⟨w2.heap.size + 1 + 1 + 1, rfl, ⟨g, n, d, w2.heap.size, w2.heap.size + 1, w2.heap.size + 1 + 1, fun _ => none, fun _ => none, fun _ => none, fun _ => none, ?_⟩, hK2.call k3⟩
  exact { cells := hD, par := hia.keep k3, tree := HT.out, m1 := hm1.keep (by repeat (first | exact Kept.refl _ | assumption | (refine Kept.alloc ?_ _) | (refine Kept.setCell ?_ (by first | omega | (simp; omega) | simp) _) | refine Kept.drew ?_ | refine Kept.drewN ?_ _ | (apply Kept.call; rotate_left; assumption))), m2 := hm2.keep (by repeat (first | exact Kept.refl _ | assumption | (refine Kept.alloc ?_ _) | (refine Kept.setCell ?_ (by first | omega | (simp; omega) | simp) _) | refine Kept.drew ?_ | refine Kept.drewN ?_ _ | (apply Kept.call; rotate_left; assumption))), m3 := hm3.keep (by repeat (first | exact Kept.refl _ | assumption | (refine Kept.alloc ?_ _) | (refine Kept.setCell ?_ (by first | omega | (simp; omega) | simp) _) | refine Kept.drew ?_ | refine Kept.drewN ?_ _ | (apply Kept.call; rotate_left; assumption))), ways := fun p => OpenK.nil _ _, stop := fun s => rfl, came := fun p => rfl,
          own := fun x hx => by
            simp only [List.mem_cons, List.not_mem_nil, or_false] at hx
            simp only [World.size_alloc]
            refine ⟨?_, ?_, by simp⟩ <;> rcases hx with rfl | rfl | rfl | rfl | rfl <;> omega
          nd := by
            simp only [List.nodup_cons, List.mem_cons, List.not_mem_nil, or_false, not_or, List.nodup_nil, and_true, not_false_eq_true]
            omega
          gown := fun p x hx => by cases hx
          gap := fun p q x hx => by cases hx
          lX := fun x hx => by cases hx }
theorem inB_gd {n : Nat} {a : Int} (h : inB n a = true) (h6 : n ≤ 6) : gd a := by
  have := (inB_iff _ _).1 h
  exact ⟨by omega, by omega⟩
set_option maxRecDepth 20000 in
set_option maxHeartbeats 1000000 in
theorem done_any (w0 : World) (X : List Nat) (D : Nat) (ps : List Int) (st : DSt) (a : Int) (w : World) (h : DrIn w0 X w D ps st) (ha : gd a) :
    Calls Try.prog 12 #[.pointer (some ⟨D, 0, none⟩), .int .i64 a] w fun e w' => e = .returned (.bool (doneB ps st a)) ∧ Kept w w' := by
  have HD := Lib.hid h
  obtain ⟨PB, n, c, M1, M2, M3, fW, G, fS, fC, h⟩ := h
  obtain ⟨c0, _, _, c3, _⟩ := h.c0
  have HH := Lib.hid h
  have HP := Lib.hid h.par
  have ht := h.tree
  clear h
  rcases hB : (inB ps.length a && st.S a) with _ | _
  · have hd : doneB ps st a = false := by unfold doneB; rw [hB]; rfl
    rw [hd]
    have HB := Lib.hid hB
    clear hB hd ht
    go_enter Try.func12, Try.ntmps12
    go_wp2_with fail
    go_step3
    go_wp2_with (go_at_call 14; refine (stopped_any w0 X D ps st a _ HD.out ha).mono ?_; rintro e w1 ⟨rfl, k1⟩; rw [HB.out])
    (try rw [Exit.noGoto_ret])
    go_ret
    exact ⟨rfl, k1⟩
  · have hd : doneB ps st a = (nearOf ps a).all fun y => st.C ((y : Int), a) := by unfold doneB; rw [hB]; rfl
    rw [hd]
    have h6 := near_len ht a
    obtain ⟨l, hnl⟩ : ∃ l, nearOf ps a = l := ⟨_, rfl⟩
    rw [hnl] at h6 ⊢
    have HNL := Lib.hid hnl
    have hy6 : ∀ y ∈ l, y ≤ 6 := fun y hy => by have := near_six ht (a := a) (y := y) (by rw [hnl]; exact hy); omega
    have HY6 := Lib.hid hy6
    have HB := Lib.hid hB
    obtain ⟨m, hm⟩ : ∃ m, l.length = m := ⟨_, rfl⟩
    have HM := Lib.hid hm
    clear hB hd ht hnl hy6 hm
    go_enter Try.func12, Try.ntmps12
    go_wp2_with fail
    go_step3
    go_wp2_with (go_at_call 14; refine (stopped_any w0 X D ps st a _ HD.out ha).mono ?_; rintro e w1 ⟨rfl, k1⟩; rw [HB.out]; have c0 := k1.at_ c0; have c3 := k1.at_ c3)
    go_step3
    go_wp2_with ((go_at_call 30; refine (tnear _ n c ps a _ (HP.out.keep k1)).mono ?_; rintro e w2 ⟨A2, d2, rfl, hl2, k2⟩; rw [HNL.out, HM.out] at hl2; rw [HNL.out, HM.out]; have HL2 := Lib.hid hl2; have c3 := k2.at_ c3; clear hl2))
    have K2 := k1.call k2
    rw [HM.out] at h6
    go_loopw [5, 19] (fun dv iv wr => ∃ i : Nat, i ≤ m ∧ iv = .int .i64 i ∧ dv = .bool ((l.take i).all fun y => st.C ((y : Int), a)) ∧ Kept w2 wr) (fun _ iv _ => m - (intOf iv).toNat)
    case atStart => exact ⟨0, by omega, rfl, rfl, Kept.refl _⟩
    case round =>
      obtain ⟨i, hi, rfl, rfl, kr⟩ := hrel
      by_cases him : i < m
      · have e1 : decide ((i : Int) < m) = true := by simp; omega
        have hil : i < l.length := by rw [HM.out]; exact him
        obtain ⟨y, hy⟩ : ∃ y, l[i]? = some y := ⟨_, List.getElem?_eq_getElem hil⟩
        have hyl : y ≤ 6 := HY6.out y (List.mem_of_getElem? hy)
        obtain ⟨b', off, rfl, hc⟩ := HL2.out.2.2.2.2 (by omega)
        have cy : wr.cell? ⟨b', off + i, none⟩ = some (.int .i64 (y : Nat)) := kr.at_ (by
          have := hc i him
          rwa [ints_get hy] at this)
        have htk : l.take (i + 1) = l.take i ++ [y] := by rw [List.take_add_one, hy]; rfl
        have HTK : Hid ((l.take (i + 1)).all (fun y => st.C ((y : Int), a)) = ((l.take i).all (fun y => st.C ((y : Int), a)) && st.C ((y : Int), a))) := by unfold Hid; rw [htk, List.all_append]; simp
        have c3 := kr.at_ c3
        have hlk := (HH.out.keep (K2.call kr)).lookC (gd_nat hyl) ha
        obtain ⟨tv, htv⟩ : ∃ tv, (l.take i).all (fun y => st.C ((y : Int), a)) = tv := ⟨_, rfl⟩
        rw [htv] at HTK
        rw [htv]
        rcases hC : st.C ((y : Int), a) with _ | _
        all_goals
          (rw [hC] at HTK hlk
           clear hy htk htv hc hC
           go_wp2_with fail
           go_roundw
           case rel => first | exact ⟨i + 1, by omega, by go_num, by rw [HTK.out]; simp, kr⟩ | ((repeat apply Exists.intro); exact ⟨⟨i + 1, by omega, by go_num, by rw [HTK.out]; simp, kr⟩, rfl⟩)
           case measure => simp [intOf]; omega)
      · obtain rfl : i = m := by omega
        have e1 : decide ((i : Int) < i) = false := by simp
        have htk : l.take i = l := List.take_of_length_le (by rw [HM.out]; omega)
        rw [htk]
        clear htk
        go_wp2_with fail
        (try rw [Exit.noGoto_ret])
        go_ret
        exact ⟨rfl, K2.call kr⟩
theorem done_nil (a : Int) (w : World) :
    Calls Try.prog 12 #[.pointer none, .int .i64 a] w fun e w' => e = .returned (.bool false) ∧ Kept w w' := by
  go_enter Try.func12, Try.ntmps12
  go_wp2_with fail
  go_step3
  go_wp2_with (first | (go_at_call 14; refine (stopped_nil a _).mono ?_; rintro e w1 ⟨rfl, hb1⟩))
  (try rw [Exit.noGoto_ret])
  go_ret
  exact ⟨rfl, by repeat (first | exact Kept.refl _ | assumption | (refine Kept.alloc ?_ _) | (refine Kept.setCell ?_ (by first | omega | (simp; omega) | simp) _) | refine Kept.drew ?_ | refine Kept.drewN ?_ _ | (apply Kept.call; rotate_left; assumption))⟩
theorem all_nil (w : World) :
    Calls Try.prog 23 #[.pointer none] w fun e w' => e = .returned (.bool false) ∧ Kept w w' := by
  go_enter Try.func23, Try.ntmps23
  go_wp2_with fail
  go_ret
  exact ⟨rfl, by repeat (first | exact Kept.refl _ | assumption | (refine Kept.alloc ?_ _) | (refine Kept.setCell ?_ (by first | omega | (simp; omega) | simp) _) | refine Kept.drew ?_ | refine Kept.drewN ?_ _ | (apply Kept.call; rotate_left; assumption))⟩
theorem pick_nil (a b : Int) (w : World) :
    Calls Try.prog 13 #[.pointer none, .int .i64 a, .int .i64 b] w fun e w' => e = .returned (.tuple #[.string ⟨#[]⟩, .bool false, .bool false]) ∧ Kept w w' := by
  go_enter Try.func13, Try.ntmps13
  go_wp2_with (first | (go_at_call 17; refine (flying_nil a b _).mono ?_; rintro e w1 ⟨rfl, hb1⟩))
  go_ret3
  exact ⟨rfl, by repeat (first | exact Kept.refl _ | assumption | (refine Kept.alloc ?_ _) | (refine Kept.setCell ?_ (by first | omega | (simp; omega) | simp) _) | refine Kept.drew ?_ | refine Kept.drewN ?_ _ | (apply Kept.call; rotate_left; assumption))⟩
theorem stop_nil (a : Int) (w : World) :
    Calls Try.prog 11 #[.pointer none, .int .i64 a] w fun e w' => e = .returned (.int .i64 1) ∧ Kept w w' := by
  go_enter Try.func11, Try.ntmps11
  go_wp2_with (first | (go_at_call 29; refine (dthere_nil a _).mono ?_; rintro e w1 ⟨rfl, hb1⟩))
  go_ret
  exact ⟨rfl, by repeat (first | exact Kept.refl _ | assumption | (refine Kept.alloc ?_ _) | (refine Kept.setCell ?_ (by first | omega | (simp; omega) | simp) _) | refine Kept.drew ?_ | refine Kept.drewN ?_ _ | (apply Kept.call; rotate_left; assumption))⟩
end Go.Proofs.Ytbofgpmbocjbiaa
