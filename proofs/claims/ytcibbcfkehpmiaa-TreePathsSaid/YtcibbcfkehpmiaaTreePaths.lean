/- The law TreePaths: a path's sites are near one another, none is twice; turned round it is the path back; it is as long as both its halves. -/
import Derived.Test.YtcibbcfkehpmiaaTreeH
set_option linter.unusedSimpArgs false
set_option linter.unusedVariables false
namespace Go.Proofs.Ytcibbcfkehpmiaa
open Go.RowKit

theorem path_wk {p : List Int} (hp : IsTree p) {a b : Nat} (ha : a < p.length) (hb : b < p.length) : pathOf p a b = wk p a b := by
  unfold pathOf
  rw [if_pos ⟨hp, ⟨by omega, by omega⟩, by omega, by omega⟩, Int.toNat_natCast, Int.toNat_natCast]
theorem wk_back {p : List Int} (hp : IsTree p) {a b : Nat} (ha : a < p.length) (hb : b < p.length) : wk p b a = (wk p a b).reverse := by
  obtain ⟨h1, h2, h3⟩ := wk_spec hp ha hb
  exact wk_is hp h1.rev ⟨by rw [List.head?_reverse]; exact h3, by rw [List.getLast?_reverse]; exact h2⟩
theorem wk_take {p : List Int} (hp : IsTree p) {a b k m : Nat} (ha : a < p.length) (hb : b < p.length) (hk : (wk p a b)[k]? = some m) : wk p a m = (wk p a b).take (k + 1) := by
  obtain ⟨h1, h2, h3⟩ := wk_spec hp ha hb
  have hlt : k < (wk p a b).length := (List.getElem?_eq_some_iff.1 hk).1
  refine wk_is hp (h1.sub [] ((wk p a b).drop (k + 1)) (by simp)) ⟨?_, ?_⟩
  · rw [List.head?_take, if_neg (by omega)]; exact h2
  · rw [List.getLast?_eq_getElem?, List.length_take, Nat.min_eq_left (by omega), List.getElem?_take, if_pos (by omega)]
    exact hk
theorem wk_drop {p : List Int} (hp : IsTree p) {a b k m : Nat} (ha : a < p.length) (hb : b < p.length) (hk : (wk p a b)[k]? = some m) : wk p m b = (wk p a b).drop k := by
  obtain ⟨h1, h2, h3⟩ := wk_spec hp ha hb
  have hlt : k < (wk p a b).length := (List.getElem?_eq_some_iff.1 hk).1
  refine wk_is hp (h1.sub ((wk p a b).take k) [] (by simp)) ⟨?_, ?_⟩
  · rw [List.head?_drop]; exact hk
  · rw [List.getLast?_drop, if_neg (by omega)]; exact h3
set_option maxRecDepth 100000 in
set_option maxHeartbeats 4000000 in
theorem treePaths_walk (A : Option Addr) (m c : Nat) (x : Nat → Int) (tn q0 q1 q2 : Int) (w : World) (r : RowAt w A m c 1 (fun i => [.int .i64 (x i)])) (_r2 : ∀ i, i < m → (Lit.int .i64 (x i)).wf = true) (_wt : (Lit.int .i64 tn).wf = true) (_wa : (Lit.int .i64 q0).wf = true) (_wb : (Lit.int .i64 q1).wf = true) (_wc : (Lit.int .i64 q2).wf = true) :
    Calls Try.prog 3 #[.slice A m c, .int .i64 tn, .agg #[.int .i64 q0, .int .i64 q1, .int .i64 q2]] w fun e w' => e = .returned (.bool true) ∧ Kept w w' := by
  have HX := Lib.hid (IntsAt.of_row r)
  clear r _r2 _wa _wb _wc _wt
  generalize (List.range m).map x = l at *
  go_enter Try.func3, Try.ntmps3
  go_wp2_with fail
  refine (awake_any _).mono ?_
  rintro e w1 ⟨rfl, k1⟩
  have K1 : Kept w w1 := Kept.call (by repeat (first | exact Kept.refl _ | assumption | (refine Kept.alloc ?_ _) | (refine Kept.setCell ?_ (by first | omega | (simp; omega) | simp) _) | refine Kept.drew ?_ | refine Kept.drewN ?_ _ | (apply Kept.call; rotate_left; assumption))) k1
  have cq0 : w1.cell? ⟨w.heap.size, 0, none⟩ = some (.int .i64 q0) := k1.at_ (by go_simp)
  have cq1 : w1.cell? ⟨w.heap.size, 1, none⟩ = some (.int .i64 q1) := k1.at_ (by go_simp)
  have cq2 : w1.cell? ⟨w.heap.size, 2, none⟩ = some (.int .i64 q2) := k1.at_ (by go_simp)
  go_wp2_with fail
  refine (made_any A m c l tn _ (HX.out.keep (by repeat (first | exact Kept.refl _ | assumption | (refine Kept.alloc ?_ _) | (refine Kept.setCell ?_ (by first | omega | (simp; omega) | simp) _) | refine Kept.drew ?_ | refine Kept.drewN ?_ _ | (apply Kept.call; rotate_left; assumption))))).mono ?_
  rintro e w2 ⟨p, n, t, g, hn, _, _, rfl, hg, hp, hm, k2⟩
  have K2 : Kept w w2 := Kept.call (by repeat (first | exact Kept.refl _ | assumption | (refine Kept.alloc ?_ _) | (refine Kept.setCell ?_ (by first | omega | (simp; omega) | simp) _) | refine Kept.drew ?_ | refine Kept.drewN ?_ _ | (apply Kept.call; rotate_left; assumption))) k2
  have HP := Lib.hid hp
  have HM := Lib.hid hm
  have h1 := hm.one
  have h6 := hm.six
  have cq0 := k2.at_ cq0
  have cq1 := k2.at_ cq1
  have cq2 := k2.at_ cq2
  have HT := Lib.hid hm.tree
  clear hp hm hn
  have ha0 := tmod_bd q0 (n : Int) (by omega)
  obtain ⟨a, ha1, ha2⟩ : ∃ d : Nat, (q0.tmod n + n).tmod n = d ∧ d < n := by
    have h2 := Int.tmod_nonneg (n : Int) (show 0 ≤ q0.tmod n + n by omega)
    have h3 := Int.tmod_lt_of_pos (q0.tmod n + n) (show 0 < (n : Int) by omega)
    exact ⟨_, (Int.toNat_of_nonneg h2).symm, by omega⟩
  have hb0 := tmod_bd q1 (n : Int) (by omega)
  obtain ⟨b, hb1, hb2⟩ : ∃ d : Nat, (q1.tmod n + n).tmod n = d ∧ d < n := by
    have h2 := Int.tmod_nonneg (n : Int) (show 0 ≤ q1.tmod n + n by omega)
    have h3 := Int.tmod_lt_of_pos (q1.tmod n + n) (show 0 < (n : Int) by omega)
    exact ⟨_, (Int.toNat_of_nonneg h2).symm, by omega⟩
  go_wp2_with fail
  refine (tpath _ n n p a b _ HP.out).mono ?_
  rintro e w3 ⟨A3, c3, rfl, h3, k3⟩
  have K3 := K2.call k3
  have hL : Hid (pathOf p a b = wk p a b) := path_wk HT.out (by rw [HM.out.len]; exact ha2) (by rw [HM.out.len]; exact hb2)
  have hL2 : Hid (pathOf p b a = (wk p a b).reverse) := by
    unfold Hid
    rw [path_wk HT.out (by rw [HM.out.len]; exact hb2) (by rw [HM.out.len]; exact ha2)]
    exact wk_back HT.out (by rw [HM.out.len]; exact ha2) (by rw [HM.out.len]; exact hb2)
  have hS : Hid (W p (wk p a b) ∧ Ends (wk p a b) a b) := wk_spec HT.out (by rw [HM.out.len]; exact ha2) (by rw [HM.out.len]; exact hb2)
  rw [hL.out] at h3 ⊢
  have hlen : (wk p a b).length ≤ 6 := by
    obtain ⟨R, hR⟩ := HT.out
    have := hS.out.1.len hR
    rw [HM.out.len] at this
    omega
  have HP3 := Lib.hid (HP.out.keep k3)
  have H3 := Lib.hid h3
  have cq2 := k3.at_ cq2
  clear h3
  have hnil : 0 < (wk p a b).length := by
    cases hl : wk p a b with
    | nil => have := hS.out.2.1; rw [hl] at this; cases this
    | cons u v => simp
  go_wp2_with fail
  refine (tpath _ n n p b a _ HP3.out).mono ?_
  rintro e w4 ⟨A4, c4, rfl, h4, k4⟩
  rw [hL2.out] at h4 ⊢
  rw [List.length_reverse] at h4 ⊢
  have K4 := K3.call k4
  have HP4 := Lib.hid (HP3.out.keep k4)
  have H4 := Lib.hid h4
  have H34 := Lib.hid (H3.out.keep k4)
  have cq2 := k4.at_ cq2
  clear h4
  obtain ⟨L, hLL⟩ : ∃ L, (wk p a b).length = L := ⟨_, rfl⟩
  have hFa : Hid (∀ i, i < L → (ints (wk p a b))[i]?.getD (-2) = (((wk p a b)[i]?.getD 0 : Nat) : Int)) := fun i hi => by
    rw [← hLL] at hi
    rw [List.getElem?_eq_getElem hi]
    exact ints_get (List.getElem?_eq_getElem hi)
  have hFb : Hid (∀ i, i < L → (ints (wk p a b).reverse)[i]?.getD (-2) = (((wk p a b)[L - 1 - i]?.getD 0 : Nat) : Int)) := fun i hi => by
    rw [← hLL] at hi ⊢
    have e : (wk p a b).reverse[i]? = some ((wk p a b)[(wk p a b).length - 1 - i]?.getD 0) := by
      rw [List.getElem?_reverse hi, List.getElem?_eq_getElem (by omega)]
      rfl
    exact ints_get e
  have hGet : Hid (∀ i, i < L → (wk p a b)[i]? = some ((wk p a b)[i]?.getD 0)) := fun i hi => by
    rw [← hLL] at hi
    rw [List.getElem?_eq_getElem hi]
    rfl
  obtain ⟨F, hF⟩ : ∃ F : Nat → Nat, ∀ i, F i = (wk p a b)[i]?.getD 0 := ⟨_, fun _ => rfl⟩
  have hG : Hid (∀ i, i < L → (wk p a b)[i]? = some (F i)) := fun i hi => by rw [hF]; exact hGet.out i hi
  have f0 : F 0 = a := by
    have h := hS.out.2.1
    rw [List.head?_eq_getElem?, hG.out 0 (by omega)] at h
    exact Option.some.inj h
  have fl : F (L - 1) = b := by
    have h := hS.out.2.2
    rw [List.getLast?_eq_getElem?, hLL, hG.out (L - 1) (by omega)] at h
    exact Option.some.inj h
  have fn : Hid (∀ i, i < L → F i < n) := fun i hi => by have := hS.out.1.lt i _ (hG.out i hi); rwa [HM.out.len] at this
  have fr : Hid (∀ i, i + 1 < L → Nr p (F i) (F (i + 1))) := fun i hi => hS.out.1.nr i _ _ (hG.out i (by omega)) (hG.out (i + 1) hi)
  have fd : Hid (∀ i k, i < L → k < i → F k ≠ F i) := fun i k hi hk e => by
    obtain ⟨R, hR⟩ := HT.out
    have hnd := hS.out.1.nodup hR
    have h1 := hG.out i hi
    have h2 := hG.out k (by omega)
    rw [← e] at h1
    have := (List.getElem?_inj (by omega) hnd).1 (h1.trans h2.symm)
    omega
  obtain ⟨xb, xo, rfl, hx⟩ := H34.out.2.2.2.2 hnil
  obtain ⟨yb, yo, rfl, hy⟩ := H4.out.2.2.2.2 hnil
  rw [hLL] at hx hy hlen hnil ⊢
  have cx : Hid (∀ i, i < L → w4.cell? ⟨xb, xo + i, none⟩ = some (.int .i64 (F i : Nat))) := fun i hi => by rw [hx i hi, hFa.out i hi, hF]
  have cy : Hid (∀ i, i < L → w4.cell? ⟨yb, yo + i, none⟩ = some (.int .i64 (F (L - 1 - i) : Nat))) := fun i hi => by rw [hy i hi, hFb.out i hi, hF]
  have hbx : Hid (L ≤ c3 ∧ L ≤ c4 ∧ c3 ≤ maxLen ∧ c4 ≤ maxLen) := by
    have h1 := H3.out.2
    have h2 := H4.out.2
    rw [hLL] at h1 h2
    exact ⟨h1.1, h2.1, h1.2.1, h2.2.1⟩
  have hFar : Hid (((pathOf p a b).length : Int) - 1 = (L : Int) - 1) := by unfold Hid; rw [hL.out, hLL]
  have hFirst : Hid (∀ k, k < L → pathOf p a (F k : Nat) = (wk p a b).take (k + 1)) := fun k hk => by
    rw [path_wk HT.out (by rw [HM.out.len]; exact ha2) (by rw [HM.out.len]; exact fn.out k hk)]
    exact wk_take HT.out (by rw [HM.out.len]; exact ha2) (by rw [HM.out.len]; exact hb2) (hG.out k hk)
  have hLast : Hid (∀ k, k < L → pathOf p (F k : Nat) b = (wk p a b).drop k) := fun k hk => by
    rw [path_wk HT.out (by rw [HM.out.len]; exact fn.out k hk) (by rw [HM.out.len]; exact hb2)]
    exact wk_drop HT.out (by rw [HM.out.len]; exact ha2) (by rw [HM.out.len]; exact hb2) (hG.out k hk)
  have hFirst2 : Hid (∀ k, k < L → ((pathOf p a (F k : Nat)).length : Int) - 1 = k) := fun k hk => by
    rw [hFirst.out k hk, List.length_take, hLL]; omega
  have hLast2 : Hid (∀ k, k < L → ((pathOf p (F k : Nat) b).length : Int) - 1 = (L : Int) - 1 - k) := fun k hk => by
    rw [hLast.out k hk, List.length_drop, hLL]; omega
  have cx0 : w4.cell? ⟨xb, xo, none⟩ = some (.int .i64 (a : Int)) := by have := cx.out 0 (by omega); rwa [f0] at this
  have cxl : w4.cell? ⟨xb, xo + (L - 1), none⟩ = some (.int .i64 (b : Int)) := by have := cx.out (L - 1) (by omega); rwa [fl] at this
  have hL1 : Hid ((L : Int) - 1 = ((L - 1 : Nat) : Int)) := by unfold Hid; omega
  clear hx hy hF hFa hFb hGet hFirst hLast hLL f0 fl
  obtain ⟨z, rfl⟩ : ∃ z, L = z + 1 := ⟨L - 1, by omega⟩
  rw [Nat.add_sub_cancel] at cxl
  have dz : ((z : Int) + 1 == 0) = false := by simp; omega
  go_wp2_with fail
  refine (tfar _ n n p a b _ (HP4.out)).mono ?_
  rintro e w5 ⟨rfl, k5⟩
  have hFarz : ((pathOf p a b).length : Int) - 1 = (z : Int) := by rw [hFar.out]; omega
  rw [hFarz]
  have K5 := K4.call k5
  have HP5 := Lib.hid (HP4.out.keep k5)
  have cx5 : Hid (∀ i, i < z + 1 → w5.cell? ⟨xb, xo + i, none⟩ = some (.int .i64 (F i : Nat))) := fun i hi => k5.at_ (cx.out i hi)
  have cy5 : Hid (∀ i, i < z + 1 → w5.cell? ⟨yb, yo + i, none⟩ = some (.int .i64 (F (z - i) : Nat))) := fun i hi => by have := k5.at_ (cy.out i hi); rwa [show z + 1 - 1 - i = z - i by omega] at this
  have cq2 := k5.at_ cq2
  clear hFarz cx0 cxl cq0 cq1
  go_wp2_with fail
  go_loopw [14] (fun iv wr => ∃ i : Nat, i ≤ z + 1 ∧ iv = .int .i64 i ∧ Kept w5 wr) (fun iv _ => z + 1 - (intOf iv).toNat)
  case atStart => exact ⟨0, by omega, rfl, Kept.refl _⟩
  case round =>
    obtain ⟨i, hi, rfl, kr⟩ := hrel
    by_cases hlt : i < z + 1
    · have cxi := kr.at_ (cx5.out i hlt)
      have cyi : wr.cell? ⟨yb, yo + (z - i), none⟩ = some (.int .i64 (F i : Nat)) := by
        have := kr.at_ (cy5.out (z - i) (by omega))
        rwa [show z - (z - i) = i by omega] at this
      have hin := fn.out i hlt
      have du1 : decide (((F i : Nat) : Int) < 0) = false := by simp
      have du2 : decide ((n : Int) ≤ ((F i : Nat) : Int)) = false := by simp; omega
      have du3 : decide (n ≤ F i) = false := by simp; omega
      have hyi : (z : Int) - (i : Int) = ((z - i : Nat) : Int) := by omega
      go_wp2_with fail
      refine wp_region_text keepsOne (fun wB => Kept w5 wB ∧ wB.cell? ⟨xb, xo + i, none⟩ = some (.int .i64 (F i : Nat)) ∧ wB.cell? ⟨yb, yo + (z - i), none⟩ = some (.int .i64 (F i : Nat))) ?_ (by kernel_rfl) (by kernel_rfl) _ (by (try simp only [List.append_eq, List.cons_append, List.nil_append, List.toList_toArray]); exact rfl) ?_
      · exact ⟨by repeat (first | exact Kept.refl _ | assumption | (refine Kept.alloc ?_ _) | (refine Kept.setCell ?_ (by first | omega | (simp; omega) | simp) _) | refine Kept.drew ?_ | refine Kept.drewN ?_ _ | (apply Kept.call; rotate_left; assumption)), by first | assumption | go_simp, by first | assumption | go_simp⟩
      rintro wB ⟨hkB, sB1, sB2⟩
      repeat (first | (apply DW.det; (focus (intro wd hI; have td1 := hI.at_ sB1; have td2 := hI.at_ sB2; skip; go_wp2_with (fail); refine StepPost.mk _ rfl ⟨rfl, ?_⟩; repeat (first | exact Kept.refl _ | assumption | (refine Kept.alloc ?_ _) | (refine Kept.setCell ?_ (by first | omega | (simp; omega) | simp) _) | refine Kept.drew ?_ | refine Kept.drewN ?_ _ | (apply Kept.call; rotate_left; assumption)))); simp only [Act.put, List.setIfInBounds_toArray, List.set_cons_succ, List.set_cons_zero]) | (refine DW.loud (by kernel_rfl) ?_; intro wd hI; have td1 := hI.at_ sB1; have td2 := hI.at_ sB2; skip; go_wp2_with (fail); refine StepPost.loud _ rfl (by repeat (first | exact Kept.refl _ | assumption | (refine Kept.alloc ?_ _) | (refine Kept.setCell ?_ (by first | omega | (simp; omega) | simp) _) | refine Kept.drew ?_ | refine Kept.drewN ?_ _ | (apply Kept.call; rotate_left; assumption))) (fun hkL => ?_); have hkL := hI.call hkL; have hkB := hkB.call hkL; have sB1 := hkL.at_ sB1; have sB2 := hkL.at_ sB2; simp only [Act.put, List.setIfInBounds_toArray, List.set_cons_succ, List.set_cons_zero]))
      refine DW.nil ?_
      intro wd hI
      have hkd := hkB.call hI
      have td1 := hI.at_ sB1; have td2 := hI.at_ sB2
      go_wp2_with fail
      by_cases h0 : i = 0
      · have dz2 : decide ((0 : Int) < (i : Int)) = false := by simp; omega
        have dz3 : decide (0 < i) = false := by simp; omega
        refine wp_region_text keepsOne (fun wB => Kept w5 wB) ?_ (by kernel_rfl) (by kernel_rfl) _ (by (try simp only [List.append_eq, List.cons_append, List.nil_append, List.toList_toArray]); exact rfl) ?_
        · exact (by repeat (first | exact Kept.refl _ | assumption | (refine Kept.alloc ?_ _) | (refine Kept.setCell ?_ (by first | omega | (simp; omega) | simp) _) | refine Kept.drew ?_ | refine Kept.drewN ?_ _ | (apply Kept.call; rotate_left; assumption)))
        rintro wB hkB
        repeat (first | (apply DW.det; (focus (intro wd hI; skip; skip; go_wp2_with (fail); refine StepPost.mk _ rfl ⟨rfl, ?_⟩; repeat (first | exact Kept.refl _ | assumption | (refine Kept.alloc ?_ _) | (refine Kept.setCell ?_ (by first | omega | (simp; omega) | simp) _) | refine Kept.drew ?_ | refine Kept.drewN ?_ _ | (apply Kept.call; rotate_left; assumption)))); simp only [Act.put, List.setIfInBounds_toArray, List.set_cons_succ, List.set_cons_zero]) | (refine DW.loud (by kernel_rfl) ?_; intro wd hI; skip; skip; go_wp2_with (fail); refine StepPost.loud _ rfl (by repeat (first | exact Kept.refl _ | assumption | (refine Kept.alloc ?_ _) | (refine Kept.setCell ?_ (by first | omega | (simp; omega) | simp) _) | refine Kept.drew ?_ | refine Kept.drewN ?_ _ | (apply Kept.call; rotate_left; assumption))) (fun hkL => ?_); have hkL := hI.call hkL; have hkB := hkB.call hkL; simp only [Act.put, List.setIfInBounds_toArray, List.set_cons_succ, List.set_cons_zero]))
        refine DW.nil ?_
        intro wd hI
        have hkd := hkB.call hI
        skip
        go_wp2_with fail
        clear h0 dz2 dz3
        go_loopw [15] (fun kv wr => ∃ k : Nat, k ≤ i ∧ kv = .int .i64 k ∧ Kept w5 wr) (fun kv _ => i - (intOf kv).toNat)
        case atStart => exact ⟨0, by omega, rfl, hkd⟩
        case round =>
          obtain ⟨k, hk, rfl, kr2⟩ := hrel
          by_cases hk2 : k < i
          · have cxk := kr2.at_ (cx5.out k (by omega))
            have cxi2 := kr2.at_ (cx5.out (i) (by omega))
            have hne : (((F k : Nat) : Int) == ((F (i) : Nat) : Int)) = false := by
              have := fd.out (i) k (by omega) (by omega)
              simp
              omega
            clear cxi cyi hin du1 du2 du3 hyi
            generalize F k = fk at *
            generalize F (i) = fi at *
            go_wp2_with fail
            refine wp_region_text keepsOne (fun wB => Kept w5 wB ∧ wB.cell? ⟨xb, xo + k, none⟩ = some (.int .i64 (fk : Nat)) ∧ wB.cell? ⟨xb, xo + (i), none⟩ = some (.int .i64 (fi : Nat))) ?_ (by kernel_rfl) (by kernel_rfl) _ (by (try simp only [List.append_eq, List.cons_append, List.nil_append, List.toList_toArray]); exact rfl) ?_
            · exact ⟨by repeat (first | exact Kept.refl _ | assumption | (refine Kept.alloc ?_ _) | (refine Kept.setCell ?_ (by first | omega | (simp; omega) | simp) _) | refine Kept.drew ?_ | refine Kept.drewN ?_ _ | (apply Kept.call; rotate_left; assumption)), by first | assumption | go_simp, by first | assumption | go_simp⟩
            rintro wB ⟨hkB, sB1, sB2⟩
            repeat (first | (apply DW.det; (focus (intro wd hI; have td1 := hI.at_ sB1; have td2 := hI.at_ sB2; skip; go_wp2_with (fail); refine StepPost.mk _ rfl ⟨rfl, ?_⟩; repeat (first | exact Kept.refl _ | assumption | (refine Kept.alloc ?_ _) | (refine Kept.setCell ?_ (by first | omega | (simp; omega) | simp) _) | refine Kept.drew ?_ | refine Kept.drewN ?_ _ | (apply Kept.call; rotate_left; assumption)))); simp only [Act.put, List.setIfInBounds_toArray, List.set_cons_succ, List.set_cons_zero]) | (refine DW.loud (by kernel_rfl) ?_; intro wd hI; have td1 := hI.at_ sB1; have td2 := hI.at_ sB2; skip; go_wp2_with (fail); refine StepPost.loud _ rfl (by repeat (first | exact Kept.refl _ | assumption | (refine Kept.alloc ?_ _) | (refine Kept.setCell ?_ (by first | omega | (simp; omega) | simp) _) | refine Kept.drew ?_ | refine Kept.drewN ?_ _ | (apply Kept.call; rotate_left; assumption))) (fun hkL => ?_); have hkL := hI.call hkL; have hkB := hkB.call hkL; have sB1 := hkL.at_ sB1; have sB2 := hkL.at_ sB2; simp only [Act.put, List.setIfInBounds_toArray, List.set_cons_succ, List.set_cons_zero]))
            refine DW.nil ?_
            intro wd hI
            have hkd := hkB.call hI
            have td1 := hI.at_ sB1; have td2 := hI.at_ sB2
            go_wp2_with fail
            go_roundw
            case rel => first | exact ⟨k + 1, by omega, by go_num, hkd⟩ | ((repeat apply Exists.intro); exact ⟨⟨k + 1, by omega, by go_num, hkd⟩, rfl⟩)
            case measure => simp [intOf]; omega
          · obtain rfl : k = i := by omega
            go_wp2_with fail
            go_roundw
            case rel => first | exact ⟨k + 1, by omega, by go_num, kr2⟩ | ((repeat apply Exists.intro); exact ⟨⟨k + 1, by omega, by go_num, kr2⟩, rfl⟩)
            case measure => first | (simp [intOf]; done) | (simp [intOf]; omega)
      · have dz2 : decide ((0 : Int) < (i : Int)) = true := by simp; omega
        have dz3 : decide (0 < i) = true := by simp; omega
        obtain ⟨gb, gf, e, hpc⟩ := HP5.out.2.2.2.2 (by omega)
        cases e
        have hin2 := fn.out (i - 1) (by omega)
        have cp1 : wd.cell? ⟨g, F i, none⟩ = some (.int .i64 (pa p (F i))) := by have := hkd.at_ (hpc (F i) hin); rwa [Nat.zero_add] at this
        have cp2 : wd.cell? ⟨g, F (i - 1), none⟩ = some (.int .i64 (pa p (F (i - 1)))) := by have := hkd.at_ (hpc (F (i - 1)) hin2); rwa [Nat.zero_add] at this
        have cx2 := hkd.at_ (cx5.out (i - 1) (by omega))
        have cx1 := hkd.at_ (cx5.out i (by omega))
        have hii : (i : Int) - 1 = ((i - 1 : Nat) : Int) := by omega
        have hnr : pa p (F i) = ((F (i - 1) : Nat) : Int) ∨ (pa p (F i) ≠ ((F (i - 1) : Nat) : Int) ∧ pa p (F (i - 1)) = ((F i : Nat) : Int)) := by
          have := fr.out (i - 1) (by omega)
          rw [show i - 1 + 1 = i by omega] at this
          by_cases e : pa p (F i) = ((F (i - 1) : Nat) : Int)
          · exact .inl e
          · rcases this with h | h
            · exact .inr ⟨e, h⟩
            · exact absurd h e
        clear hpc
        rcases hnr with hnr | ⟨hnr, hnr2⟩
        · rw [hnr] at cp1
          clear hnr
          refine wp_region_text keepsOne (fun wB => Kept w5 wB ∧ wB.cell? ⟨xb, xo + i, none⟩ = some (.int .i64 (F i : Nat)) ∧ wB.cell? ⟨xb, xo + (i - 1), none⟩ = some (.int .i64 (F (i - 1) : Nat)) ∧ wB.cell? ⟨g, F i, none⟩ = some (.int .i64 (F (i - 1) : Nat)) ∧ wB.cell? ⟨g, F (i - 1), none⟩ = some (.int .i64 (pa p (F (i - 1))))) ?_ (by kernel_rfl) (by kernel_rfl) _ (by (try simp only [List.append_eq, List.cons_append, List.nil_append, List.toList_toArray]); exact rfl) ?_
          · exact ⟨by repeat (first | exact Kept.refl _ | assumption | (refine Kept.alloc ?_ _) | (refine Kept.setCell ?_ (by first | omega | (simp; omega) | simp) _) | refine Kept.drew ?_ | refine Kept.drewN ?_ _ | (apply Kept.call; rotate_left; assumption)), by first | assumption | go_simp, by first | assumption | go_simp, by first | assumption | go_simp, by first | assumption | go_simp⟩
          rintro wB ⟨hkB, sB1, sB2, sB3, sB4⟩
          repeat (first | (apply DW.det; (focus (intro wd hI; have td1 := hI.at_ sB1; have td2 := hI.at_ sB2; have td3 := hI.at_ sB3; have td4 := hI.at_ sB4; skip; go_wp2_with (fail); refine StepPost.mk _ rfl ⟨rfl, ?_⟩; repeat (first | exact Kept.refl _ | assumption | (refine Kept.alloc ?_ _) | (refine Kept.setCell ?_ (by first | omega | (simp; omega) | simp) _) | refine Kept.drew ?_ | refine Kept.drewN ?_ _ | (apply Kept.call; rotate_left; assumption)))); simp only [Act.put, List.setIfInBounds_toArray, List.set_cons_succ, List.set_cons_zero]) | (refine DW.loud (by kernel_rfl) ?_; intro wd hI; have td1 := hI.at_ sB1; have td2 := hI.at_ sB2; have td3 := hI.at_ sB3; have td4 := hI.at_ sB4; skip; go_wp2_with (fail); refine StepPost.loud _ rfl (by repeat (first | exact Kept.refl _ | assumption | (refine Kept.alloc ?_ _) | (refine Kept.setCell ?_ (by first | omega | (simp; omega) | simp) _) | refine Kept.drew ?_ | refine Kept.drewN ?_ _ | (apply Kept.call; rotate_left; assumption))) (fun hkL => ?_); have hkL := hI.call hkL; have hkB := hkB.call hkL; have sB1 := hkL.at_ sB1; have sB2 := hkL.at_ sB2; have sB3 := hkL.at_ sB3; have sB4 := hkL.at_ sB4; simp only [Act.put, List.setIfInBounds_toArray, List.set_cons_succ, List.set_cons_zero]))
          refine DW.nil ?_
          intro wd hI
          have hkd := hkB.call hI
          have td1 := hI.at_ sB1; have td2 := hI.at_ sB2; have td3 := hI.at_ sB3; have td4 := hI.at_ sB4
          go_wp2_with fail
          clear cp1 cp2 cx1 cx2 hin2
          go_loopw [15] (fun kv wr => ∃ k : Nat, k ≤ i ∧ kv = .int .i64 k ∧ Kept w5 wr) (fun kv _ => i - (intOf kv).toNat)
          case atStart => exact ⟨0, by omega, rfl, hkd⟩
          case round =>
            obtain ⟨k, hk, rfl, kr2⟩ := hrel
            by_cases hk2 : k < i
            · have cxk := kr2.at_ (cx5.out k (by omega))
              have cxi2 := kr2.at_ (cx5.out (i) (by omega))
              have hne : (((F k : Nat) : Int) == ((F (i) : Nat) : Int)) = false := by
                have := fd.out (i) k (by omega) (by omega)
                simp
                omega
              clear cxi cyi hin du1 du2 du3 hyi
              generalize F k = fk at *
              generalize F (i) = fi at *
              go_wp2_with fail
              refine wp_region_text keepsOne (fun wB => Kept w5 wB ∧ wB.cell? ⟨xb, xo + k, none⟩ = some (.int .i64 (fk : Nat)) ∧ wB.cell? ⟨xb, xo + (i), none⟩ = some (.int .i64 (fi : Nat))) ?_ (by kernel_rfl) (by kernel_rfl) _ (by (try simp only [List.append_eq, List.cons_append, List.nil_append, List.toList_toArray]); exact rfl) ?_
              · exact ⟨by repeat (first | exact Kept.refl _ | assumption | (refine Kept.alloc ?_ _) | (refine Kept.setCell ?_ (by first | omega | (simp; omega) | simp) _) | refine Kept.drew ?_ | refine Kept.drewN ?_ _ | (apply Kept.call; rotate_left; assumption)), by first | assumption | go_simp, by first | assumption | go_simp⟩
              rintro wB ⟨hkB, sB1, sB2⟩
              repeat (first | (apply DW.det; (focus (intro wd hI; have td1 := hI.at_ sB1; have td2 := hI.at_ sB2; skip; go_wp2_with (fail); refine StepPost.mk _ rfl ⟨rfl, ?_⟩; repeat (first | exact Kept.refl _ | assumption | (refine Kept.alloc ?_ _) | (refine Kept.setCell ?_ (by first | omega | (simp; omega) | simp) _) | refine Kept.drew ?_ | refine Kept.drewN ?_ _ | (apply Kept.call; rotate_left; assumption)))); simp only [Act.put, List.setIfInBounds_toArray, List.set_cons_succ, List.set_cons_zero]) | (refine DW.loud (by kernel_rfl) ?_; intro wd hI; have td1 := hI.at_ sB1; have td2 := hI.at_ sB2; skip; go_wp2_with (fail); refine StepPost.loud _ rfl (by repeat (first | exact Kept.refl _ | assumption | (refine Kept.alloc ?_ _) | (refine Kept.setCell ?_ (by first | omega | (simp; omega) | simp) _) | refine Kept.drew ?_ | refine Kept.drewN ?_ _ | (apply Kept.call; rotate_left; assumption))) (fun hkL => ?_); have hkL := hI.call hkL; have hkB := hkB.call hkL; have sB1 := hkL.at_ sB1; have sB2 := hkL.at_ sB2; simp only [Act.put, List.setIfInBounds_toArray, List.set_cons_succ, List.set_cons_zero]))
              refine DW.nil ?_
              intro wd hI
              have hkd := hkB.call hI
              have td1 := hI.at_ sB1; have td2 := hI.at_ sB2
              go_wp2_with fail
              go_roundw
              case rel => first | exact ⟨k + 1, by omega, by go_num, hkd⟩ | ((repeat apply Exists.intro); exact ⟨⟨k + 1, by omega, by go_num, hkd⟩, rfl⟩)
              case measure => simp [intOf]; omega
            · obtain rfl : k = i := by omega
              go_wp2_with fail
              go_roundw
              case rel => first | exact ⟨k + 1, by omega, by go_num, kr2⟩ | ((repeat apply Exists.intro); exact ⟨⟨k + 1, by omega, by go_num, kr2⟩, rfl⟩)
              case measure => first | (simp [intOf]; done) | (simp [intOf]; omega)
        · have dn : (pa p (F i) != ((F (i - 1) : Nat) : Int)) = true := by simp; exact hnr
          rw [hnr2] at cp2
          clear hnr hnr2
          refine wp_region_text keepsOne (fun wB => Kept w5 wB ∧ wB.cell? ⟨xb, xo + i, none⟩ = some (.int .i64 (F i : Nat)) ∧ wB.cell? ⟨xb, xo + (i - 1), none⟩ = some (.int .i64 (F (i - 1) : Nat)) ∧ wB.cell? ⟨g, F i, none⟩ = some (.int .i64 (pa p (F i))) ∧ wB.cell? ⟨g, F (i - 1), none⟩ = some (.int .i64 (F i : Nat))) ?_ (by kernel_rfl) (by kernel_rfl) _ (by (try simp only [List.append_eq, List.cons_append, List.nil_append, List.toList_toArray]); exact rfl) ?_
          · exact ⟨by repeat (first | exact Kept.refl _ | assumption | (refine Kept.alloc ?_ _) | (refine Kept.setCell ?_ (by first | omega | (simp; omega) | simp) _) | refine Kept.drew ?_ | refine Kept.drewN ?_ _ | (apply Kept.call; rotate_left; assumption)), by first | assumption | go_simp, by first | assumption | go_simp, by first | assumption | go_simp, by first | assumption | go_simp⟩
          rintro wB ⟨hkB, sB1, sB2, sB3, sB4⟩
          repeat (first | (apply DW.det; (focus (intro wd hI; have td1 := hI.at_ sB1; have td2 := hI.at_ sB2; have td3 := hI.at_ sB3; have td4 := hI.at_ sB4; skip; go_wp2_with (fail); refine StepPost.mk _ rfl ⟨rfl, ?_⟩; repeat (first | exact Kept.refl _ | assumption | (refine Kept.alloc ?_ _) | (refine Kept.setCell ?_ (by first | omega | (simp; omega) | simp) _) | refine Kept.drew ?_ | refine Kept.drewN ?_ _ | (apply Kept.call; rotate_left; assumption)))); simp only [Act.put, List.setIfInBounds_toArray, List.set_cons_succ, List.set_cons_zero]) | (refine DW.loud (by kernel_rfl) ?_; intro wd hI; have td1 := hI.at_ sB1; have td2 := hI.at_ sB2; have td3 := hI.at_ sB3; have td4 := hI.at_ sB4; skip; go_wp2_with (fail); refine StepPost.loud _ rfl (by repeat (first | exact Kept.refl _ | assumption | (refine Kept.alloc ?_ _) | (refine Kept.setCell ?_ (by first | omega | (simp; omega) | simp) _) | refine Kept.drew ?_ | refine Kept.drewN ?_ _ | (apply Kept.call; rotate_left; assumption))) (fun hkL => ?_); have hkL := hI.call hkL; have hkB := hkB.call hkL; have sB1 := hkL.at_ sB1; have sB2 := hkL.at_ sB2; have sB3 := hkL.at_ sB3; have sB4 := hkL.at_ sB4; simp only [Act.put, List.setIfInBounds_toArray, List.set_cons_succ, List.set_cons_zero]))
          refine DW.nil ?_
          intro wd hI
          have hkd := hkB.call hI
          have td1 := hI.at_ sB1; have td2 := hI.at_ sB2; have td3 := hI.at_ sB3; have td4 := hI.at_ sB4
          go_wp2_with fail
          clear cp1 cp2 cx1 cx2 hin2
          go_loopw [15] (fun kv wr => ∃ k : Nat, k ≤ i ∧ kv = .int .i64 k ∧ Kept w5 wr) (fun kv _ => i - (intOf kv).toNat)
          case atStart => exact ⟨0, by omega, rfl, hkd⟩
          case round =>
            obtain ⟨k, hk, rfl, kr2⟩ := hrel
            by_cases hk2 : k < i
            · have cxk := kr2.at_ (cx5.out k (by omega))
              have cxi2 := kr2.at_ (cx5.out (i) (by omega))
              have hne : (((F k : Nat) : Int) == ((F (i) : Nat) : Int)) = false := by
                have := fd.out (i) k (by omega) (by omega)
                simp
                omega
              clear cxi cyi hin du1 du2 du3 hyi
              generalize F k = fk at *
              generalize F (i) = fi at *
              go_wp2_with fail
              refine wp_region_text keepsOne (fun wB => Kept w5 wB ∧ wB.cell? ⟨xb, xo + k, none⟩ = some (.int .i64 (fk : Nat)) ∧ wB.cell? ⟨xb, xo + (i), none⟩ = some (.int .i64 (fi : Nat))) ?_ (by kernel_rfl) (by kernel_rfl) _ (by (try simp only [List.append_eq, List.cons_append, List.nil_append, List.toList_toArray]); exact rfl) ?_
              · exact ⟨by repeat (first | exact Kept.refl _ | assumption | (refine Kept.alloc ?_ _) | (refine Kept.setCell ?_ (by first | omega | (simp; omega) | simp) _) | refine Kept.drew ?_ | refine Kept.drewN ?_ _ | (apply Kept.call; rotate_left; assumption)), by first | assumption | go_simp, by first | assumption | go_simp⟩
              rintro wB ⟨hkB, sB1, sB2⟩
              repeat (first | (apply DW.det; (focus (intro wd hI; have td1 := hI.at_ sB1; have td2 := hI.at_ sB2; skip; go_wp2_with (fail); refine StepPost.mk _ rfl ⟨rfl, ?_⟩; repeat (first | exact Kept.refl _ | assumption | (refine Kept.alloc ?_ _) | (refine Kept.setCell ?_ (by first | omega | (simp; omega) | simp) _) | refine Kept.drew ?_ | refine Kept.drewN ?_ _ | (apply Kept.call; rotate_left; assumption)))); simp only [Act.put, List.setIfInBounds_toArray, List.set_cons_succ, List.set_cons_zero]) | (refine DW.loud (by kernel_rfl) ?_; intro wd hI; have td1 := hI.at_ sB1; have td2 := hI.at_ sB2; skip; go_wp2_with (fail); refine StepPost.loud _ rfl (by repeat (first | exact Kept.refl _ | assumption | (refine Kept.alloc ?_ _) | (refine Kept.setCell ?_ (by first | omega | (simp; omega) | simp) _) | refine Kept.drew ?_ | refine Kept.drewN ?_ _ | (apply Kept.call; rotate_left; assumption))) (fun hkL => ?_); have hkL := hI.call hkL; have hkB := hkB.call hkL; have sB1 := hkL.at_ sB1; have sB2 := hkL.at_ sB2; simp only [Act.put, List.setIfInBounds_toArray, List.set_cons_succ, List.set_cons_zero]))
              refine DW.nil ?_
              intro wd hI
              have hkd := hkB.call hI
              have td1 := hI.at_ sB1; have td2 := hI.at_ sB2
              go_wp2_with fail
              go_roundw
              case rel => first | exact ⟨k + 1, by omega, by go_num, hkd⟩ | ((repeat apply Exists.intro); exact ⟨⟨k + 1, by omega, by go_num, hkd⟩, rfl⟩)
              case measure => simp [intOf]; omega
            · obtain rfl : k = i := by omega
              go_wp2_with fail
              go_roundw
              case rel => first | exact ⟨k + 1, by omega, by go_num, kr2⟩ | ((repeat apply Exists.intro); exact ⟨⟨k + 1, by omega, by go_num, kr2⟩, rfl⟩)
              case measure => first | (simp [intOf]; done) | (simp [intOf]; omega)
    · obtain rfl : i = z + 1 := by omega
      have cq2 := kr.at_ cq2
      have hc0 := tmod_bd q2 ((z : Int) + 1) (by omega)
      obtain ⟨k, hc1, hc2⟩ : ∃ d : Nat, (q2.tmod ((z : Int) + 1) + ((z : Int) + 1)).tmod ((z : Int) + 1) = d ∧ d < z + 1 := by
        have h2 := Int.tmod_nonneg ((z : Int) + 1) (show 0 ≤ q2.tmod ((z : Int) + 1) + ((z : Int) + 1) by omega)
        have h3 := Int.tmod_lt_of_pos (q2.tmod ((z : Int) + 1) + ((z : Int) + 1)) (show 0 < ((z : Int) + 1) by omega)
        exact ⟨_, (Int.toNat_of_nonneg h2).symm, by omega⟩
      have cxk := kr.at_ (cx5.out k hc2)
      go_wp2_with fail
      refine (tfar _ n n p a (F k) _ (HP5.out.keep kr)).mono ?_
      rintro e w6 ⟨rfl, k6⟩
      have K6 := kr.call k6
      rw [hFirst2.out k hc2]
      go_wp2_with fail
      refine (tfar _ n n p (F k) b _ (HP5.out.keep K6)).mono ?_
      rintro e w7 ⟨rfl, k7⟩
      have K7 := K6.call k7
      have hl2 : ((pathOf p (F k : Nat) b).length : Int) - 1 = (z : Int) - k := by rw [hLast2.out k hc2]; omega
      rw [hl2]
      clear hl2
      go_wp2_with fail
      go_ret
      exact ⟨by first | rfl | exact ret_bool (by simp; omega), K5.call K7⟩
end Go.Proofs.Ytcibbcfkehpmiaa
