/- The document's Serves and SameRanges. -/
import Derived.Test.YtjmfdacokdffiaaRouQ
set_option linter.unusedSimpArgs false
set_option linter.unusedVariables false
namespace Go.Proofs.Ytjmfdacokdffiaa
open Go.RowKit

theorem run_neq_rg (x y u v : ByteArray) (w : World) : (binOp .neq 52 (.agg #[.string x, .string y]) (.agg #[.string u, .string v])).run Try.prog w = .ok (.bool (!((x.toList == u.toList) && (y.toList == v.toList)))) w := by
  have hf : (Try.prog.fieldsOf 52).toList.map (fun f => (f.name, f.type, f.offset)) = [("From", 9, 0), ("To", 9, 1)] := by kernel_rfl
  rw [run_neq_struct, run_equalIn_struct w 9999 _ _ _ (by kernel_rfl) (by kernel_rfl)]
  generalize (Try.prog.fieldsOf 52).toList = fs at *
  cases fs with
  | nil => simp at hf
  | cons f t =>
  cases t with
  | nil => simp at hf
  | cons g t =>
  cases t with
  | cons h t => simp at hf
  | nil =>
    simp only [List.map_cons, List.map_nil, List.cons.injEq, Prod.mk.injEq, and_true] at hf
    obtain ⟨⟨f1, f2, f3⟩, g1, g2, g3⟩ := hf
    cases h1 : (x.toList == u.toList) <;> cases h2 : (y.toList == v.toList) <;> simp [Op.eqFields, f1, f2, f3, g1, g2, g3, part, run_underlying Try.underlying9, run_equalIn_string, Try.underlying9, h1, h2]
theorem ba_eq {a b : ByteArray} (h : a.toList = b.toList) : a = b := by
  rw [ByteArray.toList_eq, ByteArray.toList_eq] at h
  obtain ⟨⟨x⟩⟩ := a
  obtain ⟨⟨y⟩⟩ := b
  simp at h
  rw [h]
set_option maxRecDepth 20000 in
set_option maxHeartbeats 2000000 in
theorem samerg_any (A B : Option Addr) (n m c d : Nat) (xs ys : List Rg) (w : World) (hx : RowS w A n c xs) (hy : RowS w B m d ys) :
    Calls Try.prog 22 #[.slice A n c, .slice B m d] w fun e w' => e = .returned (.bool (decide (xs = ys))) ∧ Kept w w' := by
  obtain ⟨x1, x2, x3, x4, x5⟩ := hx
  obtain ⟨y1, y2, y3, y4, y5⟩ := hy
  unfold maxLen at x3 y3
  have HX5 := Lib.hid x5
  have HY5 := Lib.hid y5
  have HX1 := Lib.hid x1
  have HY1 := Lib.hid y1
  clear x4 y4 x5 y5 x1 y1
  by_cases hnm : n = m
  · subst hnm
    go_enter Try.func22, Try.ntmps22
    go_wp2_with fail
    go_loopw [5] (fun i wr => ∃ j : Nat, j ≤ n ∧ i = .int .i64 j ∧ Kept w wr ∧ Hid (∀ i, i < j → rg xs i = rg ys i)) (fun i _ => n - (intOf i).toNat)
    case atStart => exact ⟨0, by omega, rfl, by repeat (first | exact Kept.refl _ | assumption | (refine Kept.alloc ?_ _) | (refine Kept.setCell ?_ (by first | omega | (simp; omega) | simp) _) | refine Kept.drew ?_ | refine Kept.drewN ?_ _ | (apply Kept.call; rotate_left; assumption)), fun i hi => by omega⟩
    case round =>
      obtain ⟨j, hj, rfl, kr, hall⟩ := hrel
      by_cases hlt : j < n
      · obtain ⟨b, off, rfl, hc⟩ := HX5.out (by omega)
        obtain ⟨b2, off2, rfl, hc2⟩ := HY5.out (by omega)
        have c1 := kr.at_ (hc j hlt).1
        have c2 := kr.at_ (hc j hlt).2
        have c3 := kr.at_ (hc2 j hlt).1
        have c4 := kr.at_ (hc2 j hlt).2
        clear hc hc2
        by_cases he : rg xs j = rg ys j
        · have hall2 : Hid (∀ i, i < j + 1 → rg xs i = rg ys i) := fun i hi => by
            rcases Nat.lt_or_ge i j with g | g
            · exact hall i g
            · obtain rfl : i = j := by omega
              exact he
          rw [he] at c1 c2
          clear he
          generalize rg ys j = v at *
          obtain ⟨u, v⟩ := v
          simp only at c1 c2 c3 c4
          have hq : ∀ w, (binOp .neq 52 (.agg #[.string u, .string v]) (.agg #[.string u, .string v])).run Try.prog w = .ok (.bool false) w := fun w => by rw [run_neq_rg]; simp
          go_wp2_with fail
          refine wp_region_text keepsOne (fun wB => Kept w wB ∧ wB.cell? ⟨b, off + j * 2, none⟩ = some (.string u) ∧ wB.cell? ⟨b, off + j * 2 + 1, none⟩ = some (.string v) ∧ wB.cell? ⟨b2, off2 + j * 2, none⟩ = some (.string u) ∧ wB.cell? ⟨b2, off2 + j * 2 + 1, none⟩ = some (.string v)) ?_ (by kernel_rfl) (by kernel_rfl) _ (by (try simp only [List.append_eq, List.cons_append, List.nil_append, List.toList_toArray]); exact rfl) ?_
          · exact ⟨by repeat (first | exact Kept.refl _ | assumption | (refine Kept.alloc ?_ _) | (refine Kept.setCell ?_ (by first | omega | (simp; omega) | simp) _) | refine Kept.drew ?_ | refine Kept.drewN ?_ _ | (apply Kept.call; rotate_left; assumption)), by first | assumption | go_simp, by first | assumption | go_simp, by first | assumption | go_simp, by first | assumption | go_simp⟩
          rintro wB ⟨hkB, sB1, sB2, sB3, sB4⟩
          repeat (first | (apply DW.det; (focus (intro wd hI; have td1 := hI.at_ sB1; have td2 := hI.at_ sB2; have td3 := hI.at_ sB3; have td4 := hI.at_ sB4; skip; go_wp2_with (fail); refine StepPost.mk _ rfl ⟨rfl, ?_⟩; repeat (first | exact Kept.refl _ | assumption | (refine Kept.alloc ?_ _) | (refine Kept.setCell ?_ (by first | omega | (simp; omega) | simp) _) | refine Kept.drew ?_ | refine Kept.drewN ?_ _ | (apply Kept.call; rotate_left; assumption)))); simp only [Act.put, List.setIfInBounds_toArray, List.set_cons_succ, List.set_cons_zero]) | (refine DW.loud (by kernel_rfl) ?_; intro wd hI; have td1 := hI.at_ sB1; have td2 := hI.at_ sB2; have td3 := hI.at_ sB3; have td4 := hI.at_ sB4; skip; go_wp2_with (fail); refine StepPost.loud _ rfl (by repeat (first | exact Kept.refl _ | assumption | (refine Kept.alloc ?_ _) | (refine Kept.setCell ?_ (by first | omega | (simp; omega) | simp) _) | refine Kept.drew ?_ | refine Kept.drewN ?_ _ | (apply Kept.call; rotate_left; assumption))) (fun hkL => ?_); have hkL := hI.call hkL; have hkB := hkB.call hkL; have sB1 := hkL.at_ sB1; have sB2 := hkL.at_ sB2; have sB3 := hkL.at_ sB3; have sB4 := hkL.at_ sB4; simp only [Act.put, List.setIfInBounds_toArray, List.set_cons_succ, List.set_cons_zero]))
          refine DW.nil ?_
          intro wd hI
          have hkd := hkB.call hI
          have td1 := hI.at_ sB1; have td2 := hI.at_ sB2; have td3 := hI.at_ sB3; have td4 := hI.at_ sB4
          go_wp2_with fail
          go_roundw
          case rel => exact ⟨j + 1, by omega, by go_num, hkd, hall2⟩
          case measure => simp [intOf]; omega
        · have hne : Hid (¬ xs = ys) := fun h => he (by rw [h])
          cases hp : rg xs j with
          | mk u v =>
          cases hp2 : rg ys j with
          | mk x y =>
          rw [hp] at c1 c2
          rw [hp2] at c3 c4
          have hq : ∀ w, (binOp .neq 52 (.agg #[.string u, .string v]) (.agg #[.string x, .string y])).run Try.prog w = .ok (.bool true) w := fun w => by
            rw [run_neq_rg]
            have : ((u.toList == x.toList) && (v.toList == y.toList)) = false := by
              rw [Bool.eq_false_iff]
              intro h
              rw [Bool.and_eq_true, beq_iff_eq, beq_iff_eq] at h
              exact he (by rw [hp, hp2, ba_eq h.1, ba_eq h.2])
            rw [this]; rfl
          simp only at c1 c2 c3 c4
          clear he hp hp2
          go_wp2_with fail
          refine wp_region_text keepsOne (fun wB => Kept w wB ∧ wB.cell? ⟨b, off + j * 2, none⟩ = some (.string u) ∧ wB.cell? ⟨b, off + j * 2 + 1, none⟩ = some (.string v) ∧ wB.cell? ⟨b2, off2 + j * 2, none⟩ = some (.string x) ∧ wB.cell? ⟨b2, off2 + j * 2 + 1, none⟩ = some (.string y)) ?_ (by kernel_rfl) (by kernel_rfl) _ (by (try simp only [List.append_eq, List.cons_append, List.nil_append, List.toList_toArray]); exact rfl) ?_
          · exact ⟨by repeat (first | exact Kept.refl _ | assumption | (refine Kept.alloc ?_ _) | (refine Kept.setCell ?_ (by first | omega | (simp; omega) | simp) _) | refine Kept.drew ?_ | refine Kept.drewN ?_ _ | (apply Kept.call; rotate_left; assumption)), by first | assumption | go_simp, by first | assumption | go_simp, by first | assumption | go_simp, by first | assumption | go_simp⟩
          rintro wB ⟨hkB, sB1, sB2, sB3, sB4⟩
          repeat (first | (apply DW.det; (focus (intro wd hI; have td1 := hI.at_ sB1; have td2 := hI.at_ sB2; have td3 := hI.at_ sB3; have td4 := hI.at_ sB4; skip; go_wp2_with (fail); refine StepPost.mk _ rfl ⟨rfl, ?_⟩; repeat (first | exact Kept.refl _ | assumption | (refine Kept.alloc ?_ _) | (refine Kept.setCell ?_ (by first | omega | (simp; omega) | simp) _) | refine Kept.drew ?_ | refine Kept.drewN ?_ _ | (apply Kept.call; rotate_left; assumption)))); simp only [Act.put, List.setIfInBounds_toArray, List.set_cons_succ, List.set_cons_zero]) | (refine DW.loud (by kernel_rfl) ?_; intro wd hI; have td1 := hI.at_ sB1; have td2 := hI.at_ sB2; have td3 := hI.at_ sB3; have td4 := hI.at_ sB4; skip; go_wp2_with (fail); refine StepPost.loud _ rfl (by repeat (first | exact Kept.refl _ | assumption | (refine Kept.alloc ?_ _) | (refine Kept.setCell ?_ (by first | omega | (simp; omega) | simp) _) | refine Kept.drew ?_ | refine Kept.drewN ?_ _ | (apply Kept.call; rotate_left; assumption))) (fun hkL => ?_); have hkL := hI.call hkL; have hkB := hkB.call hkL; have sB1 := hkL.at_ sB1; have sB2 := hkL.at_ sB2; have sB3 := hkL.at_ sB3; have sB4 := hkL.at_ sB4; simp only [Act.put, List.setIfInBounds_toArray, List.set_cons_succ, List.set_cons_zero]))
          refine DW.nil ?_
          intro wd hI
          have hkd := hkB.call hI
          have td1 := hI.at_ sB1; have td2 := hI.at_ sB2; have td3 := hI.at_ sB3; have td4 := hI.at_ sB4
          go_wp2_with fail
          go_ret
          exact ⟨ret_bool (decide_eq_false hne.out).symm, hkd⟩
      · obtain rfl : j = n := by omega
        have heq : Hid (xs = ys) := by
          apply List.ext_getElem?
          intro i
          rcases Nat.lt_or_ge i j with g | g
          · have := hall i g
            have e1 := HX1.out
            have e2 := HY1.out
            unfold rg at this
            rw [List.getElem?_eq_getElem (by omega), List.getElem?_eq_getElem (by omega)] at this ⊢
            simpa using this
          · rw [List.getElem?_eq_none (by have := HX1.out; omega), List.getElem?_eq_none (by have := HY1.out; omega)]
        go_wp2_with fail
        go_ret
        refine ⟨ret_bool (decide_eq_true heq.out).symm, ?_⟩
        repeat (first | exact Kept.refl _ | assumption | (refine Kept.alloc ?_ _) | (refine Kept.setCell ?_ (by first | omega | (simp; omega) | simp) _) | refine Kept.drew ?_ | refine Kept.drewN ?_ _ | (apply Kept.call; rotate_left; assumption))
  · have hne : Hid (¬ xs = ys) := fun h => hnm (by rw [← HX1.out, ← HY1.out, h])
    have hv : (((n : Nat) : Int) != (m : Int)) = true := by simp; omega
    go_enter Try.func22, Try.ntmps22
    go_wp2_with fail
    go_ret
    refine ⟨ret_bool (decide_eq_false hne.out).symm, ?_⟩
    repeat (first | exact Kept.refl _ | assumption | (refine Kept.alloc ?_ _) | (refine Kept.setCell ?_ (by first | omega | (simp; omega) | simp) _) | refine Kept.drew ?_ | refine Kept.drewN ?_ _ | (apply Kept.call; rotate_left; assumption))
end Go.Proofs.Ytjmfdacokdffiaa
