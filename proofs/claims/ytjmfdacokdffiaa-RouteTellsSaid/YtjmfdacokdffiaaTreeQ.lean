/- The walk of the document's Path. -/
import Derived.Test.YtjmfdacokdffiaaTreeP
set_option linter.unusedSimpArgs false
set_option linter.unusedVariables false
namespace Go.Proofs.Ytjmfdacokdffiaa
open Go.RowKit

theorem upl_len (p : List Int) : ∀ (k x : Nat), (upl p k x).length ≤ k
  | 0, x => Nat.le_refl _
  | k + 1, x => by
    have := upl_len p k (pa p x).toNat
    unfold upl
    split <;> simp <;> omega
theorem natC_one (l : List Nat) : ∀ u ∈ natC l, u.oneCell' = true := by
  intro u hu
  simp only [natC, List.mem_map] at hu
  obtain ⟨x, _, rfl⟩ := hu
  rfl
theorem ints_get {l : List Nat} {i m : Nat} (h : l[i]? = some m) : (ints l)[i]?.getD (-2) = (m : Int) := by simp [ints, h]
theorem IntsAt.news {w : World} {b off n c : Nat} {l : List Nat} (h : IntsAt w (some ⟨b, off, none⟩) n c (ints l)) (k : Nat) : ∀ j u, (natC (l.take k))[j]? = some u → w.cell? ((⟨b, off, none⟩ : Addr).add j) = some u := by
  intro j u hu
  obtain ⟨h1, _, _, _, h5⟩ := h
  have hl : l.length = n := by simpa [ints] using h1
  have ht : l[j]? = (l.take k)[j]? ∧ j < l.length := by
    simp only [natC, List.getElem?_map] at hu
    rcases hx : (l.take k)[j]? with _ | x
    · rw [hx] at hu; simp at hu
    · have h2 := List.getElem?_eq_some_iff.1 hx
      obtain ⟨h3, h4⟩ := h2
      have : j < l.length := by have := h3; simp at this; omega
      refine ⟨?_, this⟩
      rw [List.getElem?_take] at hx
      split at hx
      · exact hx
      · cases hx
  obtain ⟨b', off', he, hc⟩ := h5 (by omega)
  cases he
  have ea : ((⟨b, off, none⟩ : Addr).add j) = ⟨b, off + j, none⟩ := by simp [Addr.add]
  rw [ea, hc j (by omega)]
  have hu2 : (natC l)[j]? = some u := by
    simp only [natC, List.getElem?_map] at hu ⊢
    rw [ht.1]; exact hu
  simp only [natC, List.getElem?_map, List.getElem?_eq_getElem ht.2, Option.map_some] at hu2
  rw [← hu2]
  simp [ints, List.getElem?_eq_getElem ht.2]

set_option maxHeartbeats 4000000 in
theorem rpath (A : Option Addr) (n c : Nat) (p : List Int) (a b : Int) (w : World) (hx : IntsAt w A n c p) :
    Calls Try.prog 17 #[.slice A n c, .int .i64 a, .int .i64 b] w (RowIs (pathOf p a b) w) := by
  obtain ⟨i0, hi, hz0, hz1, hz2⟩ := info_parts infoInt
  have HI := Lib.hid hi
  clear hi
  have HX := Lib.hid hx
  clear hx
  go_enter Try.func17, Try.ntmps17
  go_wp2_with fail
  refine (rthere A n c p a w HX.out).mono ?_
  rintro e w1 ⟨B, rfl, hB, k1⟩
  go_wp2_with fail
  refine (rthere A n c p b w1 (HX.out.keep k1)).mono ?_
  rintro e w2 ⟨C, rfl, hC, k2⟩
  have K2 : Kept w w2 := k1.call k2
  have nil : pathOf p a b = [] → RowIs (pathOf p a b) w (.returned (.slice none 0 0)) w2 := fun h =>
    ⟨none, 0, by rw [h]; rfl, by rw [h]; exact ⟨rfl, Nat.le_refl _, by unfold maxLen; omega, fun _ => ⟨rfl, rfl⟩, fun h => absurd h (Nat.lt_irrefl _)⟩, K2⟩
  have NIL := Lib.hid nil
  have HB := Lib.hid hB
  have HCC := Lib.hid hC
  clear nil hB hC
  cases B
  · go_wp2_with fail
    go_ret
    exact NIL.out (path_no (fun h => by have := HB.out.2 ⟨h.1, by rw [← HX.out.1]; exact h.2.1⟩; cases this))
  cases C
  · go_wp2_with fail
    go_ret
    exact NIL.out (path_no (fun h => by have := HCC.out.2 ⟨h.1, by rw [← HX.out.1]; exact h.2.2⟩; cases this))
  obtain ⟨ht, a0, a1⟩ := HB.out.1 rfl
  obtain ⟨_, b0, b1⟩ := HCC.out.1 rfl
  obtain ⟨x, rfl⟩ := Int.eq_ofNat_of_zero_le a0
  obtain ⟨y, rfl⟩ := Int.eq_ofNat_of_zero_le b0
  obtain ⟨R, hT⟩ := ht
  have hxp : x < p.length := by rw [HX.out.1]; omega
  have hyp : y < p.length := by rw [HX.out.1]; omega
  have HP : Hid (∀ i k m, (upl p 7 x)[i]? = some m → (upl p 7 y)[k]? = some m → (∀ i' u, i' < i → (upl p 7 x)[i']? = some u → u ∉ upl p 7 y) → pathOf p (x : Int) (y : Int) = (upl p 7 x).take (i + 1) ++ ((upl p 7 y).take k).reverse) :=
    fun i k m h1 h2 h3 => path_is hT hxp hyp h1 h2 h3
  have HM : Hid (∃ r, r ∈ upl p 7 x ∧ r ∈ upl p 7 y) := by
    obtain ⟨r, hr, hroot⟩ := hT.root
    exact ⟨r, upl_root hT hroot 7 x hxp (hT.r7 x hxp), upl_root hT hroot 7 y hyp (hT.r7 y hyp)⟩
  go_wp2_with fail
  refine (rup A n c p R x w2 ((HX.out.keep k1).keep k2) hT (by omega)).mono ?_
  rintro e w3 ⟨F, fc, rfl, hF, k3⟩
  go_wp2_with fail
  refine (rup A n c p R y w3 (((HX.out.keep k1).keep k2).keep k3) hT (by omega)).mono ?_
  rintro e w4 ⟨G, gc, rfl, hG, k4⟩
  have hF4 := hF.keep k4
  have K4 : Kept w w4 := (K2.call k3).call k4
  clear hT hF a0 a1 b0 b1 hxp hyp NIL HB HCC
  have hf7 := upl_len p 7 x
  have hg7 := upl_len p 7 y
  generalize upl p 7 x = f at *
  generalize upl p 7 y = g at *
  have HF := Lib.hid hF4
  have HG := Lib.hid hG
  have hfl := hF4.2.1
  have hfm := hF4.2.2.1
  have hgl := hG.2.1
  have hgm := hG.2.2.1
  unfold maxLen at hfm hgm
  clear hF4 hG
  go_wp2_with fail
  go_loopw [11] (fun iv wr => ∃ i : Nat, i ≤ f.length ∧ iv = .int .i64 i ∧ Kept w4 wr ∧ Hid (∀ i' u, i' < i → f[i']? = some u → u ∉ g)) (fun iv _ => f.length - (intOf iv).toNat)
  case atStart => exact ⟨0, by omega, rfl, Kept.refl _, fun i' u h => by omega⟩
  case round =>
    obtain ⟨i, hi, rfl, kr, hno⟩ := hrel
    by_cases hlt : i < f.length
    · obtain ⟨m, hm⟩ : ∃ m, f[i]? = some m := ⟨f[i], List.getElem?_eq_getElem hlt⟩
      have HMI := Lib.hid hm
      obtain ⟨fb, fo, rfl, hfc⟩ := HF.out.2.2.2.2 (by omega)
      have cf : w4.cell? ⟨fb, fo + i, none⟩ = some (.int .i64 m) := by rw [hfc i hlt, ints_get hm]
      have HCF := Lib.hid cf
      clear hfc cf hm
      go_wp2_with fail
      go_loopw [12] (fun kv wr => ∃ k : Nat, k ≤ g.length ∧ kv = .int .i64 k ∧ Kept w4 wr ∧ Hid (m ∉ g.take k)) (fun kv _ => g.length - (intOf kv).toNat)
      case atStart => exact ⟨0, by omega, rfl, kr, by unfold Hid; simp⟩
      case round =>
        obtain ⟨k, hk, rfl, kr, hnk⟩ := hrel
        by_cases hltk : k < g.length
        · obtain ⟨z, hz⟩ : ∃ z, g[k]? = some z := ⟨g[k], List.getElem?_eq_getElem hltk⟩
          have HZ := Lib.hid hz
          obtain ⟨gb, go, rfl, hgc⟩ := HG.out.2.2.2.2 (by omega)
          have cg : w4.cell? ⟨gb, go + k, none⟩ = some (.int .i64 z) := by rw [hgc k hltk, ints_get hz]
          have cg' := kr.at_ cg
          have cf' := kr.at_ HCF.out
          clear hgc cg hz
          by_cases hmz : m = z
          · subst hmz
            go_wp2_with fail
            refine wp_region_text keepsOne (fun wB => Kept w4 wB ∧ wB.cell? ⟨fb, fo + i, none⟩ = some (.int .i64 m) ∧ wB.cell? ⟨gb, go + k, none⟩ = some (.int .i64 m)) ?_ (by kernel_rfl) (by kernel_rfl) _ (by (try simp only [List.append_eq, List.cons_append, List.nil_append, List.toList_toArray]); exact rfl) ?_
            · exact ⟨by repeat (first | exact Kept.refl _ | assumption | (refine Kept.alloc ?_ _) | (refine Kept.setCell ?_ (by first | omega | (simp; omega) | simp) _) | refine Kept.drew ?_ | refine Kept.drewN ?_ _ | (apply Kept.call; rotate_left; assumption)), by first | assumption | go_simp, by first | assumption | go_simp⟩
            rintro wB ⟨hkB, sB1, sB2⟩
            repeat (first | (apply DW.det; (focus (intro wd hI; have td1 := hI.at_ sB1; have td2 := hI.at_ sB2; skip; go_wp2_with (fail); refine StepPost.mk _ rfl ⟨rfl, ?_⟩; repeat (first | exact Kept.refl _ | assumption | (refine Kept.alloc ?_ _) | (refine Kept.setCell ?_ (by first | omega | (simp; omega) | simp) _) | refine Kept.drew ?_ | refine Kept.drewN ?_ _ | (apply Kept.call; rotate_left; assumption)))); simp only [Act.put, List.setIfInBounds_toArray, List.set_cons_succ, List.set_cons_zero]) | (refine DW.loud (by kernel_rfl) ?_; intro wd hI; have td1 := hI.at_ sB1; have td2 := hI.at_ sB2; skip; go_wp2_with (fail); refine StepPost.loud _ rfl (by repeat (first | exact Kept.refl _ | assumption | (refine Kept.alloc ?_ _) | (refine Kept.setCell ?_ (by first | omega | (simp; omega) | simp) _) | refine Kept.drew ?_ | refine Kept.drewN ?_ _ | (apply Kept.call; rotate_left; assumption))) (fun hkL => ?_); have hkL := hI.call hkL; have hkB := hkB.call hkL; have sB1 := hkL.at_ sB1; have sB2 := hkL.at_ sB2; simp only [Act.put, List.setIfInBounds_toArray, List.set_cons_succ, List.set_cons_zero]))
            refine DW.nil ?_
            intro wd hI
            have hkd := hkB.call hI
            have td1 := hI.at_ sB1; have td2 := hI.at_ sB2
            have hp := HP.out i k m HMI.out HZ.out hno
            have HPP := Lib.hid hp
            have Kd : Kept w wd := K4.call hkd
            have HN : Hid (∀ j u, (natC (f.take (i + 1)))[j]? = some u → wd.cell? ((⟨fb, fo, none⟩ : Addr).add j) = some u) := (HF.out.keep hkd).news (i + 1)
            have HNL : Hid ((natC (f.take (i + 1))).length = (i + 1) * 1) := by unfold Hid; rw [natC_len, List.length_take]; omega
            have hzd : w.heap.size ≤ wd.heap.size := Kd.size
            clear hp
            have hzd4 : w4.heap.size ≤ wd.heap.size := hkd.size
            have hown4 : wd.ownsRow w4.heap.size 3 1 (.slice none 0 0) 0 [] := World.ownsRow_nil _ _ _ _
            have HL4 := hown4.lt
            go_wp2_with (at_builtin; refine wpList_append_own _ rfl _ _ 22 rfl w4.heap.size 3 i0 (.int .i64 0) 1 8 Try.underlying22 HI.out hz0 hz1 hz2 rfl (by decide) _ 0 [] rfl (World.ownsRow_nil _ _ _ _) ⟨fb, fo, none⟩ (i + 1) fc (natC (f.take (i + 1))) rfl HNL.out HN.out (natC_one _) (by unfold maxLen; omega) (by omega) (by first | omega | (simp; omega) | simp) ?_; intro v3 w3 hown3 hgrow3 _; have Kw3 : Kept w4 w3 := hkd.grown hgrow3 (fun g' hg => (HL4 g' hg).1); simp only [Nat.zero_add, List.nil_append] at hown3; have HO3 := Lib.hid hown3; clear hown3)
            have hl0 : Hid ((f.take (i + 1)).length = i + 1) := by unfold Hid; rw [List.length_take]; omega
            go_loopw [13, 14] (fun ov jv wr => ∃ (q l : Nat) (v : Value) (rr : List Nat), ov = v ∧ q ≤ k ∧ jv = .int .i64 ((q : Int) - 1) ∧ rr = f.take (i + 1) ++ ((g.take k).drop q).reverse ∧ rr.length = l ∧ l ≤ 20 ∧ wr.ownsRow w4.heap.size 3 1 v l (natC rr) ∧ Kept w4 wr) (fun _ jv _ => (intOf jv + 1).toNat)
            case atStart => exact ⟨k, i + 1, _, f.take (i + 1), rfl, Nat.le_refl _, by go_num, by simp, hl0.out, by omega, HO3.out, Kw3⟩
            case round =>
              obtain ⟨q, l, v, rr, rfl, hq, rfl, hrr, hrl, hl20, ho, kw4⟩ := hrel
              have HRR := Lib.hid hrr
              have HRL := Lib.hid hrl
              have HO := Lib.hid ho
              clear hrr hrl ho
              have kw : Kept w wr := K4.call kw4
              have hz4 : w4.heap.size ≤ wr.heap.size := kw4.size
              rcases Nat.eq_zero_or_pos q with rfl | hq0
              · obtain ⟨A2, c2, rfl, hia⟩ := IntsAt.of_own HO.out
                have HIA := Lib.hid hia
                have hfin : Hid (pathOf p (x : Int) (y : Int) = rr) := by unfold Hid; rw [HPP.out, HRR.out, List.drop_zero]
                clear hia
                go_wp2_with fail
                go_ret
                refine ⟨A2, c2, by rw [hfin.out, HRL.out]; rfl, ?_, kw⟩
                rw [hfin.out, HRL.out]
                exact HIA.out
              · obtain ⟨r, rfl⟩ : ∃ r, q = r + 1 := ⟨q - 1, by omega⟩
                obtain ⟨z, hz3⟩ : ∃ z, g[r]? = some z := ⟨g[r], List.getElem?_eq_getElem (by omega)⟩
                obtain ⟨gb2, go2, he, hgc⟩ := HG.out.2.2.2.2 (by omega)
                cases he
                have cz : wr.cell? ⟨gb, go + r, none⟩ = some (.int .i64 z) := by rw [kw4.cell _ _ (World.block_lt_of_cell? w4 _ (hgc r (by omega))), hgc r (by omega), ints_get hz3]
                have hjr : (((r + 1 : Nat) : Int) - 1) = (r : Int) := by omega
                have HNX : Hid (rr ++ [z] = f.take (i + 1) ++ ((g.take k).drop r).reverse) := by
                  unfold Hid
                  have h2 : (g.take k)[r]? = some z := by rw [List.getElem?_take, if_pos (by omega)]; exact hz3
                  obtain ⟨h3, h4⟩ := List.getElem?_eq_some_iff.1 h2
                  rw [HRR.out, List.drop_eq_getElem_cons h3, h4]
                  simp
                have hol : Hid ((natC rr).length = l * 1) := by unfold Hid; rw [natC_len, HRL.out, Nat.mul_one]
                have hll : l = i + 1 + (k - (r + 1)) := by
                  have h5 := HRL.out
                  rw [HRR.out] at h5
                  simp at h5
                  omega
                clear hgc hz3
                rw [hjr]
                go_wp2_with (at_builtin; refine wpList_append_own _ rfl _ _ 22 rfl w4.heap.size 3 i0 (.int .i64 0) 1 8 Try.underlying22 HI.out hz0 hz1 hz2 rfl (by decide) _ l _ rfl (HO.out.alloc _) ⟨wr.heap.size, 0, none⟩ 1 1 [.int .i64 (z : Nat)] rfl rfl (cell_one_new _ _ _) (by simp [Value.oneCell']) (by unfold maxLen; omega) (by omega) (by simp; omega) ?_; intro v5 w5 hown5 hgrow5 _; have HL5 := HO.out.lt; have K5 : Kept w4 w5 := (kw4.alloc _).grown hgrow5 (fun g' hg => (HL5 g' hg).1); rw [natC_snoc] at hown5; have HO5 := Lib.hid hown5; clear hown5)
                go_roundw
                case rel => first | exact ⟨r, l + 1, _, rr ++ [z], rfl, by omega, by go_num, HNX.out, by rw [List.length_append, HRL.out]; rfl, by omega, HO5.out, K5⟩ | ((repeat apply Exists.intro); exact ⟨⟨r, l + 1, _, rr ++ [z], rfl, by omega, by go_num, HNX.out, by rw [List.length_append, HRL.out]; rfl, by omega, HO5.out, K5⟩, rfl⟩)
                case measure => simp [intOf]
          · have hne : ((m : Int) != (z : Int)) = true := by simp; omega
            have hnk2 : Hid (m ∉ g.take (k + 1)) := by
              unfold Hid
              rw [List.take_add_one, HZ.out]
              simp only [Option.toList_some, List.mem_append, List.mem_singleton]
              exact fun h => h.elim hnk.out hmz
            clear hmz
            go_wp2_with fail
            refine wp_region_text keepsOne (fun wB => Kept w4 wB ∧ wB.cell? ⟨fb, fo + i, none⟩ = some (.int .i64 m) ∧ wB.cell? ⟨gb, go + k, none⟩ = some (.int .i64 z)) ?_ (by kernel_rfl) (by kernel_rfl) _ (by (try simp only [List.append_eq, List.cons_append, List.nil_append, List.toList_toArray]); exact rfl) ?_
            · exact ⟨by repeat (first | exact Kept.refl _ | assumption | (refine Kept.alloc ?_ _) | (refine Kept.setCell ?_ (by first | omega | (simp; omega) | simp) _) | refine Kept.drew ?_ | refine Kept.drewN ?_ _ | (apply Kept.call; rotate_left; assumption)), by first | assumption | go_simp, by first | assumption | go_simp⟩
            rintro wB ⟨hkB, sB1, sB2⟩
            repeat (first | (apply DW.det; (focus (intro wd hI; have td1 := hI.at_ sB1; have td2 := hI.at_ sB2; skip; go_wp2_with (fail); refine StepPost.mk _ rfl ⟨rfl, ?_⟩; repeat (first | exact Kept.refl _ | assumption | (refine Kept.alloc ?_ _) | (refine Kept.setCell ?_ (by first | omega | (simp; omega) | simp) _) | refine Kept.drew ?_ | refine Kept.drewN ?_ _ | (apply Kept.call; rotate_left; assumption)))); simp only [Act.put, List.setIfInBounds_toArray, List.set_cons_succ, List.set_cons_zero]) | (refine DW.loud (by kernel_rfl) ?_; intro wd hI; have td1 := hI.at_ sB1; have td2 := hI.at_ sB2; skip; go_wp2_with (fail); refine StepPost.loud _ rfl (by repeat (first | exact Kept.refl _ | assumption | (refine Kept.alloc ?_ _) | (refine Kept.setCell ?_ (by first | omega | (simp; omega) | simp) _) | refine Kept.drew ?_ | refine Kept.drewN ?_ _ | (apply Kept.call; rotate_left; assumption))) (fun hkL => ?_); have hkL := hI.call hkL; have hkB := hkB.call hkL; have sB1 := hkL.at_ sB1; have sB2 := hkL.at_ sB2; simp only [Act.put, List.setIfInBounds_toArray, List.set_cons_succ, List.set_cons_zero]))
            refine DW.nil ?_
            intro wd hI
            have hkd := hkB.call hI
            have td1 := hI.at_ sB1; have td2 := hI.at_ sB2
            go_wp2_with fail
            go_roundw
            case rel => first | exact ⟨k + 1, by omega, by go_num, hkd, hnk2⟩ | ((repeat apply Exists.intro); exact ⟨⟨k + 1, by omega, by go_num, hkd, hnk2⟩, rfl⟩)
            case measure => simp [intOf]; omega
        · obtain rfl : k = g.length := by omega
          have hno2 : Hid (∀ i' u, i' < i + 1 → f[i']? = some u → u ∉ g) := fun i' u h1 h2 => by
            rcases Nat.lt_or_ge i' i with h3 | h3
            · exact hno i' u h3 h2
            · obtain rfl : i' = i := by omega
              have h4 := HMI.out
              rw [h2] at h4
              cases h4
              have := hnk.out
              rwa [List.take_length] at this
          go_wp2_with fail
          go_roundw
          case rel => first | exact ⟨i + 1, by omega, by go_num, kr, hno2⟩ | ((repeat apply Exists.intro); exact ⟨⟨i + 1, by omega, by go_num, kr, hno2⟩, rfl⟩)
          case measure => simp [intOf]; omega
    · obtain rfl : i = f.length := by omega
      obtain ⟨r, h1, h2⟩ := HM.out
      obtain ⟨i', h3, h4⟩ := List.getElem_of_mem h1
      exact absurd h2 (hno i' r h3 (by rw [List.getElem?_eq_getElem h3, h4]))
end Go.Proofs.Ytjmfdacokdffiaa
