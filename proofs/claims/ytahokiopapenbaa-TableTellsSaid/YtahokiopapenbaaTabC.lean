/- Whole of both at any ranges. -/
import Derived.Test.YtahokiopapenbaaTabB
set_option linter.unusedSimpArgs false
set_option linter.unusedVariables false
namespace Go.Proofs.Ytahokiopapenbaa
open Go.RowKit

/-- Where range i must begin. -/
def prevT (rs : List Rg) (i : Nat) : ByteArray := if i = 0 then nil else (rg rs (i - 1)).2
def okAt (rs : List Rg) (i : Nat) : Prop := goodB (rg rs i).1 (rg rs i).2 = true ∧ ((rg rs i).1.toList == (prevT rs i).toList) = true ∧ (0 < i → (prevT rs i).toList.isEmpty = false)
def WholeP (rs : List Rg) : Prop := (∀ i, i < rs.length → okAt rs i) ∧ 0 < rs.length ∧ (prevT rs rs.length).toList.isEmpty = true
open Classical in
noncomputable def wholeB (rs : List Rg) : Bool := @decide (WholeP rs) (propDecidable _)
theorem wholeB_iff (rs : List Rg) : wholeB rs = true ↔ WholeP rs := by unfold wholeB; exact @decide_eq_true_iff _ (Classical.propDecidable _)
theorem wholeB_no {rs : List Rg} (h : ¬ WholeP rs) : wholeB rs = false := by
  cases hc : wholeB rs with
  | false => rfl
  | true => exact absurd ((wholeB_iff rs).1 hc) h
def Small (rs : List Rg) : Prop := ∀ i, i < rs.length → (rg rs i).1.size ≤ 4294967296 ∧ (rg rs i).2.size ≤ 4294967296
theorem prevT_next (rs : List Rg) (i : Nat) : prevT rs (i + 1) = (rg rs i).2 := by unfold prevT; rw [if_neg (by omega)]; rfl
set_option maxHeartbeats 4000000 in
theorem whole_g (A : Option Addr) (n c : Nat) (rs : List Rg) (w : World) (hx : RowS w A n c rs) (hs : Small rs) :
    Calls Try.prog 32 #[.slice A n c] w fun e w' => e = .returned (.bool (wholeB rs)) ∧ Kept w w' := by
  have HX := Lib.hid hx
  have HS := Lib.hid hs
  have hnb : n ≤ c ∧ c ≤ 9223372036854775807 := by have h1 := hx.2.1; have h2 := hx.2.2.1; unfold maxLen at h2; omega
  have hz := Lib.hid (show prevT rs 0 = nil from rfl)
  clear hx hs
  go_enter Try.func32, Try.ntmps32
  go_wp2_with fail
  go_loopw [3, 8] (fun av iv wr => ∃ (i : Nat) (a : ByteArray), i ≤ n ∧ av = .string a ∧ iv = .int .i64 i ∧ Hid (prevT rs i = a) ∧ Hid (∀ j, j < i → okAt rs j) ∧ Kept w wr) (fun _ iv _ => n - (intOf iv).toNat)
  case atStart => exact ⟨0, _, by omega, rfl, rfl, rfl, fun j hj => by omega, by repeat (first | exact Kept.refl _ | assumption | (refine Kept.alloc ?_ _) | (refine Kept.setCell ?_ (by first | omega | (simp; omega) | simp) _) | refine Kept.drew ?_ | refine Kept.drewN ?_ _ | (apply Kept.call; rotate_left; assumption))⟩
  case round =>
    obtain ⟨i, a, hi, rfl, rfl, HP, HA, kr⟩ := hrel
    by_cases hlt : i < n
    · obtain ⟨b, off, rfl, hc⟩ := HX.out.2.2.2.2 (by omega)
      obtain ⟨c1, c2⟩ := hc i hlt
      have c1 := kr.at_ c1
      have c2 := kr.at_ c2
      obtain ⟨s1, s2⟩ := HS.out i (by rw [HX.out.1]; exact hlt)
      obtain ⟨f, hf⟩ : ∃ f, (rg rs i).1 = f := ⟨_, rfl⟩
      obtain ⟨t, ht⟩ : ∃ t, (rg rs i).2 = t := ⟨_, rfl⟩
      have HF := Lib.hid hf
      have HT := Lib.hid ht
      rw [hf] at c1 s1
      rw [ht] at c2 s2
      have HPN : Hid (prevT rs (i + 1) = t) := by unfold Hid; rw [prevT_next, ht]
      obtain ⟨gb, hgb⟩ : ∃ gb, goodB f t = gb := ⟨_, rfl⟩
      have HG := Lib.hid hgb
      have e0 : decide ((i : Int) < (n : Int)) = true := by simp; omega
      clear hc hf ht hgb
      cases gb
      · skip
        have hbad : Hid (wholeB rs = false) := wholeB_no fun h => by
          have h9 := h.1 i (by rw [HX.out.1]; exact hlt)
          unfold okAt at h9
          rw [HF.out, HT.out, HP.out, HG.out] at h9
          have h8 := h9.2.2
          simp_all
        go_wp2_with (go_at_call 39; refine (goodg f t _ s1 s2).mono ?_; rintro e w2 ⟨rfl, k2⟩; rw [HG.out])
        go_ret
        exact ⟨ret_bool hbad.out.symm, Kept.call (by repeat (first | exact Kept.refl _ | assumption | (refine Kept.alloc ?_ _) | (refine Kept.setCell ?_ (by first | omega | (simp; omega) | simp) _) | refine Kept.drew ?_ | refine Kept.drewN ?_ _ | (apply Kept.call; rotate_left; assumption))) k2⟩
      · cases heq : (f.toList == a.toList)
        · skip
          have hbad : Hid (wholeB rs = false) := wholeB_no fun h => by
            have h9 := h.1 i (by rw [HX.out.1]; exact hlt)
            unfold okAt at h9
            rw [HF.out, HT.out, HP.out, HG.out] at h9
            have h8 := h9.2.2
            simp_all
          go_wp2_with (go_at_call 39; refine (goodg f t _ s1 s2).mono ?_; rintro e w2 ⟨rfl, k2⟩; rw [HG.out]; have K2 : Kept w w2 := Kept.call (by repeat (first | exact Kept.refl _ | assumption | (refine Kept.alloc ?_ _) | (refine Kept.setCell ?_ (by first | omega | (simp; omega) | simp) _) | refine Kept.drew ?_ | refine Kept.drewN ?_ _ | (apply Kept.call; rotate_left; assumption))) k2; have c3 : w2.cell? ⟨wr.heap.size, 0, none⟩ = some (.string f) := k2.at_ (by go_simp); have c4 : w2.cell? ⟨wr.heap.size, 1, none⟩ = some (.string t) := k2.at_ (by go_simp))
          go_ret
          exact ⟨ret_bool hbad.out.symm, K2⟩
        · rcases Nat.eq_zero_or_pos i with h0 | h0
          · have d0 : decide ((0 : Int) < (i : Int)) = false := by simp; omega
            have d1 : decide (0 < i) = false := by simp; omega
            have HA2 : Hid (∀ j, j < i + 1 → okAt rs j) := fun j hj => by
              rcases Nat.lt_or_ge j i with g | g
              · exact HA.out j g
              · obtain rfl : j = i := by omega
                unfold okAt
                rw [HF.out, HT.out, HP.out, HG.out]
                exact ⟨rfl, heq, fun h => by omega⟩
            clear h0
            go_wp2_with (go_at_call 39; refine (goodg f t _ s1 s2).mono ?_; rintro e w2 ⟨rfl, k2⟩; rw [HG.out]; have K2 : Kept w w2 := Kept.call (by repeat (first | exact Kept.refl _ | assumption | (refine Kept.alloc ?_ _) | (refine Kept.setCell ?_ (by first | omega | (simp; omega) | simp) _) | refine Kept.drew ?_ | refine Kept.drewN ?_ _ | (apply Kept.call; rotate_left; assumption))) k2; have c3 : w2.cell? ⟨wr.heap.size, 0, none⟩ = some (.string f) := k2.at_ (by go_simp); have c4 : w2.cell? ⟨wr.heap.size, 1, none⟩ = some (.string t) := k2.at_ (by go_simp))
            go_roundw
            case rel => first | exact ⟨i + 1, t, by omega, rfl, by go_num, HPN, HA2, K2⟩ | ((repeat apply Exists.intro); exact ⟨⟨i + 1, t, by omega, rfl, by go_num, HPN, HA2, K2⟩, rfl⟩)
            case measure => simp [intOf]; omega
          · have d0 : decide ((0 : Int) < (i : Int)) = true := by simp; omega
            have d1 : decide (0 < i) = true := by simp; omega
            cases hae : a.toList.isEmpty
            · have HA2 : Hid (∀ j, j < i + 1 → okAt rs j) := fun j hj => by
                rcases Nat.lt_or_ge j i with g | g
                · exact HA.out j g
                · obtain rfl : j = i := by omega
                  unfold okAt
                  rw [HF.out, HT.out, HP.out, HG.out]
                  exact ⟨rfl, heq, fun _ => hae⟩
              clear h0
              go_wp2_with (go_at_call 39; refine (goodg f t _ s1 s2).mono ?_; rintro e w2 ⟨rfl, k2⟩; rw [HG.out]; have K2 : Kept w w2 := Kept.call (by repeat (first | exact Kept.refl _ | assumption | (refine Kept.alloc ?_ _) | (refine Kept.setCell ?_ (by first | omega | (simp; omega) | simp) _) | refine Kept.drew ?_ | refine Kept.drewN ?_ _ | (apply Kept.call; rotate_left; assumption))) k2; have c3 : w2.cell? ⟨wr.heap.size, 0, none⟩ = some (.string f) := k2.at_ (by go_simp); have c4 : w2.cell? ⟨wr.heap.size, 1, none⟩ = some (.string t) := k2.at_ (by go_simp))
              go_roundw
              case rel => first | exact ⟨i + 1, t, by omega, rfl, by go_num, HPN, HA2, K2⟩ | ((repeat apply Exists.intro); exact ⟨⟨i + 1, t, by omega, rfl, by go_num, HPN, HA2, K2⟩, rfl⟩)
              case measure => simp [intOf]; omega
            · have hbad : Hid (wholeB rs = false) := wholeB_no fun h => by
                have h9 := h.1 i (by rw [HX.out.1]; exact hlt)
                unfold okAt at h9
                rw [HF.out, HT.out, HP.out, HG.out] at h9
                have h8 := h9.2.2 h0
                rw [hae] at h8; cases h8
              clear h0
              go_wp2_with (go_at_call 39; refine (goodg f t _ s1 s2).mono ?_; rintro e w2 ⟨rfl, k2⟩; rw [HG.out]; have K2 : Kept w w2 := Kept.call (by repeat (first | exact Kept.refl _ | assumption | (refine Kept.alloc ?_ _) | (refine Kept.setCell ?_ (by first | omega | (simp; omega) | simp) _) | refine Kept.drew ?_ | refine Kept.drewN ?_ _ | (apply Kept.call; rotate_left; assumption))) k2; have c3 : w2.cell? ⟨wr.heap.size, 0, none⟩ = some (.string f) := k2.at_ (by go_simp); have c4 : w2.cell? ⟨wr.heap.size, 1, none⟩ = some (.string t) := k2.at_ (by go_simp))
              go_ret
              exact ⟨ret_bool hbad.out.symm, K2⟩
    · obtain rfl : i = n := by omega
      have e0 : decide ((i : Int) < (i : Int)) = false := by simp
      have hres : Hid (wholeB rs = (decide (0 < i) && a.toList.isEmpty)) := by
        unfold Hid
        rw [Bool.eq_iff_iff, wholeB_iff, Bool.and_eq_true, decide_eq_true_iff]
        unfold WholeP
        rw [HX.out.1, HP.out]
        exact ⟨fun h => h.2, fun h => ⟨HA.out, h⟩⟩
      rcases Nat.eq_zero_or_pos i with h0 | h0
      · have d0 : decide ((0 : Int) < (i : Int)) = false := by simp; omega
        have d1 : decide (0 < i) = false := by simp; omega
        rw [d1] at hres
        clear h0
        go_wp2_with fail
        go_ret
        exact ⟨ret_bool (by rw [hres.out]; rfl), kr⟩
      · have d0 : decide ((0 : Int) < (i : Int)) = true := by simp; omega
        have d1 : decide (0 < i) = true := by simp; omega
        rw [d1] at hres
        cases hae : a.toList.isEmpty
        all_goals
          (rw [hae] at hres
           go_wp2_with fail
           go_ret
           exact ⟨ret_bool (by rw [hres.out]; rfl), kr⟩)
set_option maxHeartbeats 4000000 in
theorem rwhole_g (A : Option Addr) (n c : Nat) (rs : List Rg) (w : World) (hx : RowS w A n c rs) (hs : Small rs) :
    Calls Try.prog 35 #[.slice A n c] w fun e w' => e = .returned (.bool (wholeB rs)) ∧ Kept w w' := by
  have HX := Lib.hid hx
  have HS := Lib.hid hs
  have hnb : n ≤ c ∧ c ≤ 9223372036854775807 := by have h1 := hx.2.1; have h2 := hx.2.2.1; unfold maxLen at h2; omega
  clear hx hs
  go_enter Try.func35, Try.ntmps35
  go_wp2_with fail
  go_loopw [3] (fun iv wr => ∃ i : Nat, i ≤ n ∧ iv = .int .i64 i ∧ Hid (∀ j, j < i → okAt rs j) ∧ Kept w wr) (fun iv _ => n - (intOf iv).toNat)
  case atStart => exact ⟨0, by omega, rfl, fun j hj => by omega, by repeat (first | exact Kept.refl _ | assumption | (refine Kept.alloc ?_ _) | (refine Kept.setCell ?_ (by first | omega | (simp; omega) | simp) _) | refine Kept.drew ?_ | refine Kept.drewN ?_ _ | (apply Kept.call; rotate_left; assumption))⟩
  case round =>
    obtain ⟨i, hi, rfl, HA, kr⟩ := hrel
    by_cases hlt : i < n
    · obtain ⟨b, off, rfl, hc⟩ := HX.out.2.2.2.2 (by omega)
      obtain ⟨c1, c2⟩ := hc i hlt
      have c1 := kr.at_ c1
      have c2 := kr.at_ c2
      obtain ⟨s1, s2⟩ := HS.out i (by rw [HX.out.1]; exact hlt)
      obtain ⟨f, hf⟩ : ∃ f, (rg rs i).1 = f := ⟨_, rfl⟩
      obtain ⟨t, ht⟩ : ∃ t, (rg rs i).2 = t := ⟨_, rfl⟩
      obtain ⟨a, ha⟩ : ∃ a, prevT rs i = a := ⟨_, rfl⟩
      have HF := Lib.hid hf
      have HT := Lib.hid ht
      have HP := Lib.hid ha
      rw [hf] at c1 s1
      rw [ht] at c2 s2
      obtain ⟨gb, hgb⟩ : ∃ gb, goodB f t = gb := ⟨_, rfl⟩
      have HG := Lib.hid hgb
      have e0 : decide ((i : Int) < (n : Int)) = true := by simp; omega
      have HOK : Hid (okAt rs i ↔ (gb = true ∧ (f.toList == a.toList) = true ∧ (0 < i → a.toList.isEmpty = false))) := by
        unfold Hid okAt
        rw [HF.out, HT.out, HP.out, HG.out]
      have HBAD : Hid (¬ okAt rs i → wholeB rs = false) := fun h => wholeB_no fun hh => h (hh.1 i (by rw [HX.out.1]; exact hlt))
      have HA2 : Hid (okAt rs i → ∀ j, j < i + 1 → okAt rs j) := fun h j hj => by
        rcases Nat.lt_or_ge j i with g | g
        · exact HA.out j g
        · obtain rfl : j = i := by omega
          exact h
      rcases Nat.eq_zero_or_pos i with h0 | h0
      · subst h0
        simp only [Nat.zero_mul, Nat.add_zero] at c1 c2
        have hae : a = nil := by rw [← HP.out]; rfl
        have hfe : (f.toList == a.toList) = f.toList.isEmpty := by rw [hae, nil_toList]; cases f.toList <;> rfl
        rw [hfe] at HOK
        clear hc hf ht ha hgb hae hfe
        obtain ⟨fe, hfe⟩ : ∃ fe, f.toList.isEmpty = fe := ⟨_, rfl⟩
        rw [hfe] at HOK
        cases gb <;> cases fe
        case true.true =>
          have hok := Lib.hid (HA2.out (HOK.out.2 ⟨rfl, rfl, fun h => by omega⟩))
          go_wp2_with (go_at_call 43; refine (rgood f t _ s1 s2).mono ?_; rintro e w2 ⟨rfl, k2⟩; rw [HG.out]; have K2 : Kept w w2 := Kept.call kr k2; have c1 := k2.at_ c1; have c2 := k2.at_ c2)
          refine wp_region_text keepsOne (fun wB => Kept w wB ∧ Kept w2 wB ∧ wB.cell? ⟨b, off, none⟩ = some (.string f)) ?_ (by kernel_rfl) (by kernel_rfl) _ (by (try simp only [List.append_eq, List.cons_append, List.nil_append, List.toList_toArray]); exact rfl) ?_
          · exact ⟨by repeat (first | exact Kept.refl _ | assumption | (refine Kept.alloc ?_ _) | (refine Kept.setCell ?_ (by first | omega | (simp; omega) | simp) _) | refine Kept.drew ?_ | refine Kept.drewN ?_ _ | (apply Kept.call; rotate_left; assumption)), by repeat (first | exact Kept.refl _ | assumption | (refine Kept.alloc ?_ _) | (refine Kept.setCell ?_ (by first | omega | (simp; omega) | simp) _) | refine Kept.drew ?_ | refine Kept.drewN ?_ _ | (apply Kept.call; rotate_left; assumption)), by first | assumption | go_simp⟩
          rintro wB ⟨hkB, hkB1, sB1⟩
          repeat (first | (apply DW.det; (focus (intro wd hI; have hkd1 := hkB1.call hI; have td1 := hI.at_ sB1; skip; go_wp2_with (fail); refine StepPost.mk _ rfl ⟨rfl, ?_⟩; repeat (first | exact Kept.refl _ | assumption | (refine Kept.alloc ?_ _) | (refine Kept.setCell ?_ (by first | omega | (simp; omega) | simp) _) | refine Kept.drew ?_ | refine Kept.drewN ?_ _ | (apply Kept.call; rotate_left; assumption)))); simp only [Act.put, List.setIfInBounds_toArray, List.set_cons_succ, List.set_cons_zero]) | (refine DW.loud (by kernel_rfl) ?_; intro wd hI; have hkd1 := hkB1.call hI; have td1 := hI.at_ sB1; skip; go_wp2_with (fail); refine StepPost.loud _ rfl (by repeat (first | exact Kept.refl _ | assumption | (refine Kept.alloc ?_ _) | (refine Kept.setCell ?_ (by first | omega | (simp; omega) | simp) _) | refine Kept.drew ?_ | refine Kept.drewN ?_ _ | (apply Kept.call; rotate_left; assumption))) (fun hkL => ?_); have hkL := hI.call hkL; have hkB := hkB.call hkL; have hkB1 := hkB1.call hkL; have sB1 := hkL.at_ sB1; simp only [Act.put, List.setIfInBounds_toArray, List.set_cons_succ, List.set_cons_zero]))
          refine DW.nil ?_
          intro wd hI
          have hkd := hkB.call hI
          have hkd1 := hkB1.call hI; have td1 := hI.at_ sB1
          go_wp2_with fail
          go_roundw
          case rel => first | exact ⟨1, by omega, by go_num, hok, hkd⟩ | ((repeat apply Exists.intro); exact ⟨⟨1, by omega, by go_num, hok, hkd⟩, rfl⟩)
          case measure => simp [intOf]; omega
        all_goals
          (have hbad := Lib.hid (HBAD.out (fun h => by have := HOK.out.1 h; simp at this))
           go_wp2_with (go_at_call 43; refine (rgood f t _ s1 s2).mono ?_; rintro e w2 ⟨rfl, k2⟩; rw [HG.out]; have K2 : Kept w w2 := Kept.call kr k2; have c1 := k2.at_ c1; have c2 := k2.at_ c2)
           refine wp_region_text keepsOne (fun wB => Kept w wB ∧ Kept w2 wB ∧ wB.cell? ⟨b, off, none⟩ = some (.string f)) ?_ (by kernel_rfl) (by kernel_rfl) _ (by (try simp only [List.append_eq, List.cons_append, List.nil_append, List.toList_toArray]); exact rfl) ?_
           · exact ⟨by repeat (first | exact Kept.refl _ | assumption | (refine Kept.alloc ?_ _) | (refine Kept.setCell ?_ (by first | omega | (simp; omega) | simp) _) | refine Kept.drew ?_ | refine Kept.drewN ?_ _ | (apply Kept.call; rotate_left; assumption)), by repeat (first | exact Kept.refl _ | assumption | (refine Kept.alloc ?_ _) | (refine Kept.setCell ?_ (by first | omega | (simp; omega) | simp) _) | refine Kept.drew ?_ | refine Kept.drewN ?_ _ | (apply Kept.call; rotate_left; assumption)), by first | assumption | go_simp⟩
           rintro wB ⟨hkB, hkB1, sB1⟩
           repeat (first | (apply DW.det; (focus (intro wd hI; have hkd1 := hkB1.call hI; have td1 := hI.at_ sB1; skip; go_wp2_with (fail); refine StepPost.mk _ rfl ⟨rfl, ?_⟩; repeat (first | exact Kept.refl _ | assumption | (refine Kept.alloc ?_ _) | (refine Kept.setCell ?_ (by first | omega | (simp; omega) | simp) _) | refine Kept.drew ?_ | refine Kept.drewN ?_ _ | (apply Kept.call; rotate_left; assumption)))); simp only [Act.put, List.setIfInBounds_toArray, List.set_cons_succ, List.set_cons_zero]) | (refine DW.loud (by kernel_rfl) ?_; intro wd hI; have hkd1 := hkB1.call hI; have td1 := hI.at_ sB1; skip; go_wp2_with (fail); refine StepPost.loud _ rfl (by repeat (first | exact Kept.refl _ | assumption | (refine Kept.alloc ?_ _) | (refine Kept.setCell ?_ (by first | omega | (simp; omega) | simp) _) | refine Kept.drew ?_ | refine Kept.drewN ?_ _ | (apply Kept.call; rotate_left; assumption))) (fun hkL => ?_); have hkL := hI.call hkL; have hkB := hkB.call hkL; have hkB1 := hkB1.call hkL; have sB1 := hkL.at_ sB1; simp only [Act.put, List.setIfInBounds_toArray, List.set_cons_succ, List.set_cons_zero]))
           refine DW.nil ?_
           intro wd hI
           have hkd := hkB.call hI
           have hkd1 := hkB1.call hI; have td1 := hI.at_ sB1
           go_wp2_with fail
           go_ret
           exact ⟨ret_bool hbad.out.symm, hkd⟩)
      · obtain ⟨c3, c4⟩ := hc (i - 1) (by omega)
        have c4 := kr.at_ c4
        have hpa : (rg rs (i - 1)).2 = a := by rw [← ha]; unfold prevT; rw [if_neg (by omega)]
        rw [hpa] at c4
        obtain ⟨y, rfl⟩ : ∃ y, i = y + 1 := ⟨i - 1, by omega⟩
        rw [Nat.add_sub_cancel] at c4
        have d0 : decide ((0 : Int) < ((y + 1 : Nat) : Int)) = true := by first | (simp; done) | (simp; omega)
        have d8 : decide (-1 < (y : Int)) = true := by first | (simp; done) | (simp; omega)
        have d9 : (((y + 1 : Nat) : Int) == 0) = false := by first | (simp; done) | (simp; omega)
        have d7 : ((y : Int) + 1 == 0) = false := by first | (simp; done) | (simp; omega)
        have d6 : decide ((0 : Int) < (y : Int) + 1) = true := by first | (simp; done) | (simp; omega)
        clear hc hf ht ha hgb c3 hpa
        obtain ⟨fa, hfa⟩ : ∃ fa, (f.toList == a.toList) = fa := ⟨_, rfl⟩
        obtain ⟨fe, hfe⟩ : ∃ fe, f.toList.isEmpty = fe := ⟨_, rfl⟩
        have hae : fa = true → a.toList.isEmpty = fe := fun h => by
          have h2 : f.toList = a.toList := by simpa using hfa.trans h
          rw [← h2]; exact hfe
        have HAE := Lib.hid hae
        rw [hfa] at HOK
        clear hae
        cases gb <;> cases fa <;> cases fe
        case true.true.false =>
          have hok := Lib.hid (HA2.out (HOK.out.2 ⟨rfl, rfl, fun _ => HAE.out rfl⟩))
          go_wp2_with (go_at_call 43; refine (rgood f t _ s1 s2).mono ?_; rintro e w2 ⟨rfl, k2⟩; rw [HG.out]; have K2 : Kept w w2 := Kept.call kr k2; have c1 := k2.at_ c1; have c2 := k2.at_ c2; have c4 := k2.at_ c4)
          refine wp_region_text keepsOne (fun wB => Kept w wB ∧ Kept w2 wB ∧ wB.cell? ⟨b, off + (y + 1) * 2, none⟩ = some (.string f) ∧ wB.cell? ⟨b, off + y * 2 + 1, none⟩ = some (.string a)) ?_ (by kernel_rfl) (by kernel_rfl) _ (by (try simp only [List.append_eq, List.cons_append, List.nil_append, List.toList_toArray]); exact rfl) ?_
          · exact ⟨by repeat (first | exact Kept.refl _ | assumption | (refine Kept.alloc ?_ _) | (refine Kept.setCell ?_ (by first | omega | (simp; omega) | simp) _) | refine Kept.drew ?_ | refine Kept.drewN ?_ _ | (apply Kept.call; rotate_left; assumption)), by repeat (first | exact Kept.refl _ | assumption | (refine Kept.alloc ?_ _) | (refine Kept.setCell ?_ (by first | omega | (simp; omega) | simp) _) | refine Kept.drew ?_ | refine Kept.drewN ?_ _ | (apply Kept.call; rotate_left; assumption)), by first | assumption | go_simp, by first | assumption | go_simp⟩
          rintro wB ⟨hkB, hkB1, sB1, sB2⟩
          repeat (first | (apply DW.det; (focus (intro wd hI; have hkd1 := hkB1.call hI; have td1 := hI.at_ sB1; have td2 := hI.at_ sB2; skip; go_wp2_with (fail); refine StepPost.mk _ rfl ⟨rfl, ?_⟩; repeat (first | exact Kept.refl _ | assumption | (refine Kept.alloc ?_ _) | (refine Kept.setCell ?_ (by first | omega | (simp; omega) | simp) _) | refine Kept.drew ?_ | refine Kept.drewN ?_ _ | (apply Kept.call; rotate_left; assumption)))); simp only [Act.put, List.setIfInBounds_toArray, List.set_cons_succ, List.set_cons_zero]) | (refine DW.loud (by kernel_rfl) ?_; intro wd hI; have hkd1 := hkB1.call hI; have td1 := hI.at_ sB1; have td2 := hI.at_ sB2; skip; go_wp2_with (fail); refine StepPost.loud _ rfl (by repeat (first | exact Kept.refl _ | assumption | (refine Kept.alloc ?_ _) | (refine Kept.setCell ?_ (by first | omega | (simp; omega) | simp) _) | refine Kept.drew ?_ | refine Kept.drewN ?_ _ | (apply Kept.call; rotate_left; assumption))) (fun hkL => ?_); have hkL := hI.call hkL; have hkB := hkB.call hkL; have hkB1 := hkB1.call hkL; have sB1 := hkL.at_ sB1; have sB2 := hkL.at_ sB2; simp only [Act.put, List.setIfInBounds_toArray, List.set_cons_succ, List.set_cons_zero]))
          refine DW.nil ?_
          intro wd hI
          have hkd := hkB.call hI
          have hkd1 := hkB1.call hI; have td1 := hI.at_ sB1; have td2 := hI.at_ sB2
          go_wp2_with fail
          go_roundw
          case rel => first | exact ⟨y + 1 + 1, by omega, by go_num, hok, hkd⟩ | ((repeat apply Exists.intro); exact ⟨⟨y + 1 + 1, by omega, by go_num, hok, hkd⟩, rfl⟩)
          case measure => simp [intOf]; omega
        all_goals
          (have hbad := Lib.hid (HBAD.out (fun h => by have h5 := HOK.out.1 h; first | exact Bool.noConfusion h5.1 | exact Bool.noConfusion h5.2.1 | exact Bool.noConfusion ((HAE.out rfl).symm.trans (h5.2.2 (by omega)))))
           go_wp2_with (go_at_call 43; refine (rgood f t _ s1 s2).mono ?_; rintro e w2 ⟨rfl, k2⟩; rw [HG.out]; have K2 : Kept w w2 := Kept.call kr k2; have c1 := k2.at_ c1; have c2 := k2.at_ c2; have c4 := k2.at_ c4)
           refine wp_region_text keepsOne (fun wB => Kept w wB ∧ Kept w2 wB ∧ wB.cell? ⟨b, off + (y + 1) * 2, none⟩ = some (.string f) ∧ wB.cell? ⟨b, off + y * 2 + 1, none⟩ = some (.string a)) ?_ (by kernel_rfl) (by kernel_rfl) _ (by (try simp only [List.append_eq, List.cons_append, List.nil_append, List.toList_toArray]); exact rfl) ?_
           · exact ⟨by repeat (first | exact Kept.refl _ | assumption | (refine Kept.alloc ?_ _) | (refine Kept.setCell ?_ (by first | omega | (simp; omega) | simp) _) | refine Kept.drew ?_ | refine Kept.drewN ?_ _ | (apply Kept.call; rotate_left; assumption)), by repeat (first | exact Kept.refl _ | assumption | (refine Kept.alloc ?_ _) | (refine Kept.setCell ?_ (by first | omega | (simp; omega) | simp) _) | refine Kept.drew ?_ | refine Kept.drewN ?_ _ | (apply Kept.call; rotate_left; assumption)), by first | assumption | go_simp, by first | assumption | go_simp⟩
           rintro wB ⟨hkB, hkB1, sB1, sB2⟩
           repeat (first | (apply DW.det; (focus (intro wd hI; have hkd1 := hkB1.call hI; have td1 := hI.at_ sB1; have td2 := hI.at_ sB2; skip; go_wp2_with (fail); refine StepPost.mk _ rfl ⟨rfl, ?_⟩; repeat (first | exact Kept.refl _ | assumption | (refine Kept.alloc ?_ _) | (refine Kept.setCell ?_ (by first | omega | (simp; omega) | simp) _) | refine Kept.drew ?_ | refine Kept.drewN ?_ _ | (apply Kept.call; rotate_left; assumption)))); simp only [Act.put, List.setIfInBounds_toArray, List.set_cons_succ, List.set_cons_zero]) | (refine DW.loud (by kernel_rfl) ?_; intro wd hI; have hkd1 := hkB1.call hI; have td1 := hI.at_ sB1; have td2 := hI.at_ sB2; skip; go_wp2_with (fail); refine StepPost.loud _ rfl (by repeat (first | exact Kept.refl _ | assumption | (refine Kept.alloc ?_ _) | (refine Kept.setCell ?_ (by first | omega | (simp; omega) | simp) _) | refine Kept.drew ?_ | refine Kept.drewN ?_ _ | (apply Kept.call; rotate_left; assumption))) (fun hkL => ?_); have hkL := hI.call hkL; have hkB := hkB.call hkL; have hkB1 := hkB1.call hkL; have sB1 := hkL.at_ sB1; have sB2 := hkL.at_ sB2; simp only [Act.put, List.setIfInBounds_toArray, List.set_cons_succ, List.set_cons_zero]))
           refine DW.nil ?_
           intro wd hI
           have hkd := hkB.call hI
           have hkd1 := hkB1.call hI; have td1 := hI.at_ sB1; have td2 := hI.at_ sB2
           go_wp2_with fail
           go_ret
           exact ⟨ret_bool hbad.out.symm, hkd⟩)
    · obtain rfl : i = n := by omega
      have e0 : decide ((i : Int) < (i : Int)) = false := by simp
      have hres : Hid (wholeB rs = (decide (0 < i) && (prevT rs i).toList.isEmpty)) := by
        unfold Hid
        rw [Bool.eq_iff_iff, wholeB_iff, Bool.and_eq_true, decide_eq_true_iff]
        unfold WholeP
        rw [HX.out.1]
        exact ⟨fun h => h.2, fun h => ⟨HA.out, h⟩⟩
      rcases Nat.eq_zero_or_pos i with h0 | h0
      · have d0 : decide ((0 : Int) < (i : Int)) = false := by simp; omega
        have d1 : decide (0 < i) = false := by simp; omega
        rw [d1] at hres
        clear h0
        go_wp2_with fail
        go_ret
        exact ⟨ret_bool (by rw [hres.out]; rfl), kr⟩
      · have d0 : decide ((0 : Int) < (i : Int)) = true := by simp; omega
        have d1 : decide (0 < i) = true := by simp; omega
        obtain ⟨b, off, rfl, hc⟩ := HX.out.2.2.2.2 (by omega)
        obtain ⟨c3, c4⟩ := hc (i - 1) (by omega)
        have c4 := kr.at_ c4
        obtain ⟨y, rfl⟩ : ∃ y, i = y + 1 := ⟨i - 1, by omega⟩
        rw [Nat.add_sub_cancel] at c4
        have hpa := prevT_next rs y
        obtain ⟨a, ha⟩ : ∃ a, (rg rs y).2 = a := ⟨_, rfl⟩
        rw [ha] at c4 hpa
        rw [d1, hpa] at hres
        clear hc c3 ha hpa
        cases hae : a.toList.isEmpty
        all_goals
          (rw [hae] at hres
           go_wp2_with fail
           go_ret
           exact ⟨ret_bool (by rw [hres.out]; rfl), kr⟩)
end Go.Proofs.Ytahokiopapenbaa
