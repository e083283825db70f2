/- The document's Same of steps; the laws' awake. -/
import Derived.Test.YtjmfdacokdffiaaRouG
import Derived.ChangeKeysEq
set_option linter.unusedSimpArgs false
set_option linter.unusedVariables false
namespace Go.Proofs.Ytjmfdacokdffiaa
open Go.RowKit

theorem run_neq_pr (x y u v : Int) (w : World) : (binOp .neq 34 (.agg #[.int .i64 x, .int .i64 y]) (.agg #[.int .i64 u, .int .i64 v])).run Try.prog w = .ok (.bool (!((x == u) && (y == v)))) w := by
  obtain ⟨i0, hi, hz0, hz1, hz2⟩ := info_parts infoInt
  have hc : Try.prog.cellsOf 3 = 1 := by kernel_rfl
  rw [run_neq_struct, run_equalIn_array w 9999 _ _ Try.underlying34 hi, hc]
  cases h1 : (x == u) <;> cases h2 : (y == v) <;> simp [Op.eqItems, List.range_succ, part, run_underlying Try.underlying3, run_equalIn_int, Try.underlying3, h1, h2]
set_option maxHeartbeats 2000000 in
theorem psame_any (A B : Option Addr) (n m c d : Nat) (xs ys : List Pr) (w : World) (hx : PrsAt w A n c xs) (hy : PrsAt w B m d ys) :
    Calls Try.prog 26 #[.slice A n c, .slice B m d] w fun e w' => e = .returned (.bool (decide (xs = ys))) ∧ Kept w w' := by
  obtain ⟨x1, x2, x3, x4, x5⟩ := hx
  obtain ⟨y1, y2, y3, y4, y5⟩ := hy
  unfold maxLen at x3 y3
  have HX5 := Lib.hid x5
  have HY5 := Lib.hid y5
  have HX1 := Lib.hid x1
  have HY1 := Lib.hid y1
  clear x4 y4 x5 y5 x1 y1
  by_cases hnm : n = m
  · subst hnm
    go_enter Try.func26, Try.ntmps26
    go_wp2_with fail
    go_loopw [5] (fun i wr => ∃ j : Nat, j ≤ n ∧ i = .int .i64 j ∧ Kept w wr ∧ Hid (∀ i, i < j → prA xs i = prA ys i)) (fun i _ => n - (intOf i).toNat)
    case atStart => exact ⟨0, by omega, rfl, by repeat (first | exact Kept.refl _ | assumption | (refine Kept.alloc ?_ _) | (refine Kept.setCell ?_ (by first | omega | (simp; omega) | simp) _) | refine Kept.drew ?_ | refine Kept.drewN ?_ _ | (apply Kept.call; rotate_left; assumption)), fun i hi => by omega⟩
    case round =>
      obtain ⟨j, hj, rfl, kr, hall⟩ := hrel
      by_cases hlt : j < n
      · obtain ⟨b, off, rfl, hc⟩ := HX5.out (by omega)
        obtain ⟨b2, off2, rfl, hc2⟩ := HY5.out (by omega)
        have c1 := kr.at_ (hc j hlt).1
        have c2 := kr.at_ (hc j hlt).2
        have c3 := kr.at_ (hc2 j hlt).1
        have c4 := kr.at_ (hc2 j hlt).2
        have HC := Lib.hid hc
        have HC2 := Lib.hid hc2
        clear hc hc2
        by_cases he : prA xs j = prA ys j
        · have hall2 : Hid (∀ i, i < j + 1 → prA xs i = prA ys i) := fun i hi => by
            rcases Nat.lt_or_ge i j with g | g
            · exact hall i g
            · obtain rfl : i = j := by omega
              exact he
          rw [he] at c1 c2
          clear he
          generalize prA ys j = v at *
          obtain ⟨u, v⟩ := v
          simp only at c1 c2 c3 c4
          have hq : ∀ w, (binOp .neq 34 (.agg #[.int .i64 u, .int .i64 v]) (.agg #[.int .i64 u, .int .i64 v])).run Try.prog w = .ok (.bool false) w := fun w => by rw [run_neq_pr]; simp
          go_wp2_with fail
          refine wp_region_text keepsOne (fun wB => Kept w wB ∧ wB.cell? ⟨b, off + j * 2, none⟩ = some (.int .i64 u) ∧ wB.cell? ⟨b, off + j * 2 + 1, none⟩ = some (.int .i64 v) ∧ wB.cell? ⟨b2, off2 + j * 2, none⟩ = some (.int .i64 u) ∧ wB.cell? ⟨b2, off2 + j * 2 + 1, none⟩ = some (.int .i64 v)) ?_ (by kernel_rfl) (by kernel_rfl) _ (by (try simp only [List.append_eq, List.cons_append, List.nil_append, List.toList_toArray]); exact rfl) ?_
          · exact ⟨by repeat (first | exact Kept.refl _ | assumption | (refine Kept.alloc ?_ _) | (refine Kept.setCell ?_ (by first | omega | (simp; omega) | simp) _) | refine Kept.drew ?_ | refine Kept.drewN ?_ _ | (apply Kept.call; rotate_left; assumption)), by first | assumption | go_simp, by first | assumption | go_simp, by first | assumption | go_simp, by first | assumption | go_simp⟩
          rintro wB ⟨hkB, sB1, sB2, sB3, sB4⟩
          repeat (first | (apply DW.det; (focus (intro wd hI; have td1 := hI.at_ sB1; have td2 := hI.at_ sB2; have td3 := hI.at_ sB3; have td4 := hI.at_ sB4; skip; go_wp2_with (fail); refine StepPost.mk _ rfl ⟨rfl, ?_⟩; repeat (first | exact Kept.refl _ | assumption | (refine Kept.alloc ?_ _) | (refine Kept.setCell ?_ (by first | omega | (simp; omega) | simp) _) | refine Kept.drew ?_ | refine Kept.drewN ?_ _ | (apply Kept.call; rotate_left; assumption)))); simp only [Act.put, List.setIfInBounds_toArray, List.set_cons_succ, List.set_cons_zero]) | (refine DW.loud (by kernel_rfl) ?_; intro wd hI; have td1 := hI.at_ sB1; have td2 := hI.at_ sB2; have td3 := hI.at_ sB3; have td4 := hI.at_ sB4; skip; go_wp2_with (fail); refine StepPost.loud _ rfl (by repeat (first | exact Kept.refl _ | assumption | (refine Kept.alloc ?_ _) | (refine Kept.setCell ?_ (by first | omega | (simp; omega) | simp) _) | refine Kept.drew ?_ | refine Kept.drewN ?_ _ | (apply Kept.call; rotate_left; assumption))) (fun hkL => ?_); have hkL := hI.call hkL; have hkB := hkB.call hkL; have sB1 := hkL.at_ sB1; have sB2 := hkL.at_ sB2; have sB3 := hkL.at_ sB3; have sB4 := hkL.at_ sB4; simp only [Act.put, List.setIfInBounds_toArray, List.set_cons_succ, List.set_cons_zero]))
          refine DW.nil ?_
          intro wd hI
          have hkd := hkB.call hI
          have td1 := hI.at_ sB1; have td2 := hI.at_ sB2; have td3 := hI.at_ sB3; have td4 := hI.at_ sB4
          go_wp2_with fail
          go_roundw
          case rel => exact ⟨j + 1, by omega, by go_num, hkd, hall2⟩
          case measure => simp [intOf]; omega
        · have hne : Hid (¬ xs = ys) := fun h => he (by rw [h])
          cases hp : prA xs j with
          | mk u v =>
          cases hp2 : prA ys j with
          | mk x y =>
          rw [hp] at c1 c2
          rw [hp2] at c3 c4
          have hq : ∀ w, (binOp .neq 34 (.agg #[.int .i64 u, .int .i64 v]) (.agg #[.int .i64 x, .int .i64 y])).run Try.prog w = .ok (.bool true) w := fun w => by
            rw [run_neq_pr]
            have : ((u == x) && (v == y)) = false := by
              rw [Bool.eq_false_iff]
              intro h
              rw [Bool.and_eq_true, beq_iff_eq, beq_iff_eq] at h
              exact he (by rw [hp, hp2, h.1, h.2])
            rw [this]; rfl
          simp only at c1 c2 c3 c4
          clear he hp hp2
          go_wp2_with fail
          refine wp_region_text keepsOne (fun wB => Kept w wB ∧ wB.cell? ⟨b, off + j * 2, none⟩ = some (.int .i64 u) ∧ wB.cell? ⟨b, off + j * 2 + 1, none⟩ = some (.int .i64 v) ∧ wB.cell? ⟨b2, off2 + j * 2, none⟩ = some (.int .i64 x) ∧ wB.cell? ⟨b2, off2 + j * 2 + 1, none⟩ = some (.int .i64 y)) ?_ (by kernel_rfl) (by kernel_rfl) _ (by (try simp only [List.append_eq, List.cons_append, List.nil_append, List.toList_toArray]); exact rfl) ?_
          · exact ⟨by repeat (first | exact Kept.refl _ | assumption | (refine Kept.alloc ?_ _) | (refine Kept.setCell ?_ (by first | omega | (simp; omega) | simp) _) | refine Kept.drew ?_ | refine Kept.drewN ?_ _ | (apply Kept.call; rotate_left; assumption)), by first | assumption | go_simp, by first | assumption | go_simp, by first | assumption | go_simp, by first | assumption | go_simp⟩
          rintro wB ⟨hkB, sB1, sB2, sB3, sB4⟩
          repeat (first | (apply DW.det; (focus (intro wd hI; have td1 := hI.at_ sB1; have td2 := hI.at_ sB2; have td3 := hI.at_ sB3; have td4 := hI.at_ sB4; skip; go_wp2_with (fail); refine StepPost.mk _ rfl ⟨rfl, ?_⟩; repeat (first | exact Kept.refl _ | assumption | (refine Kept.alloc ?_ _) | (refine Kept.setCell ?_ (by first | omega | (simp; omega) | simp) _) | refine Kept.drew ?_ | refine Kept.drewN ?_ _ | (apply Kept.call; rotate_left; assumption)))); simp only [Act.put, List.setIfInBounds_toArray, List.set_cons_succ, List.set_cons_zero]) | (refine DW.loud (by kernel_rfl) ?_; intro wd hI; have td1 := hI.at_ sB1; have td2 := hI.at_ sB2; have td3 := hI.at_ sB3; have td4 := hI.at_ sB4; skip; go_wp2_with (fail); refine StepPost.loud _ rfl (by repeat (first | exact Kept.refl _ | assumption | (refine Kept.alloc ?_ _) | (refine Kept.setCell ?_ (by first | omega | (simp; omega) | simp) _) | refine Kept.drew ?_ | refine Kept.drewN ?_ _ | (apply Kept.call; rotate_left; assumption))) (fun hkL => ?_); have hkL := hI.call hkL; have hkB := hkB.call hkL; have sB1 := hkL.at_ sB1; have sB2 := hkL.at_ sB2; have sB3 := hkL.at_ sB3; have sB4 := hkL.at_ sB4; simp only [Act.put, List.setIfInBounds_toArray, List.set_cons_succ, List.set_cons_zero]))
          refine DW.nil ?_
          intro wd hI
          have hkd := hkB.call hI
          have td1 := hI.at_ sB1; have td2 := hI.at_ sB2; have td3 := hI.at_ sB3; have td4 := hI.at_ sB4
          go_wp2_with fail
          go_ret
          exact ⟨ret_bool (decide_eq_false hne.out).symm, hkd⟩
      · obtain rfl : j = n := by omega
        have heq : Hid (xs = ys) := by
          apply List.ext_getElem?
          intro i
          rcases Nat.lt_or_ge i j with g | g
          · have := hall i g
            have e1 := HX1.out
            have e2 := HY1.out
            unfold prA at this
            rw [List.getElem?_eq_getElem (by omega), List.getElem?_eq_getElem (by omega)] at this ⊢
            simpa using this
          · rw [List.getElem?_eq_none (by have := HX1.out; omega), List.getElem?_eq_none (by have := HY1.out; omega)]
        go_wp2_with fail
        go_ret
        refine ⟨ret_bool (decide_eq_true heq.out).symm, ?_⟩
        repeat (first | exact Kept.refl _ | assumption | (refine Kept.alloc ?_ _) | (refine Kept.setCell ?_ (by first | omega | (simp; omega) | simp) _) | refine Kept.drew ?_ | refine Kept.drewN ?_ _ | (apply Kept.call; rotate_left; assumption))
  · have hne : Hid (¬ xs = ys) := fun h => hnm (by rw [← HX1.out, ← HY1.out, h])
    have hv : (((n : Nat) : Int) != (m : Int)) = true := by simp; omega
    go_enter Try.func26, Try.ntmps26
    go_wp2_with fail
    go_ret
    refine ⟨ret_bool (decide_eq_false hne.out).symm, ?_⟩
    repeat (first | exact Kept.refl _ | assumption | (refine Kept.alloc ?_ _) | (refine Kept.setCell ?_ (by first | omega | (simp; omega) | simp) _) | refine Kept.drew ?_ | refine Kept.drewN ?_ _ | (apply Kept.call; rotate_left; assumption))
def p3 : List Int := [-1, 0, 1]
theorem t3 : IsTree p3 := tree_of (by decide) (by decide) (by decide) (by decide) (by decide)
theorem fit3 : FitT [] [4] p3 3 := ⟨⟨⟨by decide, fun i hi => by simp at hi, fun i j _ hj => by simp at hj⟩, rfl, by decide, by decide, by decide⟩, t3⟩
theorem p3_00 : pathOf p3 0 0 = [0] := (path_wk2 t3 (a := 0) (b := 0) (by decide) (by decide)).trans (wk_self t3 (by decide))
theorem p3_11 : pathOf p3 1 1 = [1] := (path_wk2 t3 (a := 1) (b := 1) (by decide) (by decide)).trans (wk_self t3 (by decide))
theorem p3_01 : pathOf p3 0 1 = [0, 1] := (path_wk2 t3 (a := 0) (b := 1) (by decide) (by decide)).trans (wk_near t3 (by decide) (by decide) (.inr rfl))
theorem p3_10 : pathOf p3 1 0 = [1, 0] := (path_wk2 t3 (a := 1) (b := 0) (by decide) (by decide)).trans (wk_near t3 (by decide) (by decide) (.inl rfl))
theorem p3_12 : pathOf p3 1 2 = [1, 2] := (path_wk2 t3 (a := 1) (b := 2) (by decide) (by decide)).trans (wk_near t3 (by decide) (by decide) (.inr rfl))
theorem p3_02 : pathOf p3 0 2 = [0, 1, 2] := (path_wk2 t3 (a := 0) (b := 2) (by decide) (by decide)).trans (wk_is t3 (((W.one (x := 2) (by decide)).cons (a := 1) (by decide) (.inr rfl) (by decide)).cons (a := 0) (by decide) (.inr rfl) (by decide)) ⟨rfl, rfl⟩)
theorem s3_01 : sideTo p3 0 1 3 = 6 := by
  have e0 : firstIs p3 0 1 0 = false := by unfold firstIs; rw [show ((0 : Nat) : Int) = 0 from rfl, p3_00]; rfl
  have e1 : firstIs p3 0 1 1 = true := by unfold firstIs; rw [show ((1 : Nat) : Int) = 1 from rfl, p3_01]; rfl
  have e2 : firstIs p3 0 1 2 = true := by unfold firstIs; rw [show ((2 : Nat) : Int) = 2 from rfl, p3_02]; rfl
  simp [sideTo, e0, e1, e2]
theorem s3_12 : sideTo p3 1 2 3 = 4 := by
  have e0 : firstIs p3 1 2 0 = false := by unfold firstIs; rw [show ((0 : Nat) : Int) = 0 from rfl, p3_10]; rfl
  have e1 : firstIs p3 1 2 1 = false := by unfold firstIs; rw [show ((1 : Nat) : Int) = 1 from rfl, p3_11]; rfl
  have e2 : firstIs p3 1 2 2 = true := by unfold firstIs; rw [show ((2 : Nat) : Int) = 2 from rfl, p3_12]; rfl
  simp [sideTo, e0, e1, e2]
theorem n3 (a : Nat) (ha : a < 3) : nearOf p3 a = nearTo p3 a 3 := by
  unfold nearOf
  rw [if_pos ⟨t3, by omega, by simp [p3]; omega⟩, Int.toNat_natCast]
  rfl
theorem and64 : bits .and .i64 6 4 = 4 ∧ bits .and .i64 4 4 = 4 := ⟨by kernel_rfl, by kernel_rfl⟩
theorem nx0 : nxt p3 3 4 (-1) 0 = [1] := by
  unfold nxt keepL
  rw [show nearOf p3 0 = nearTo p3 0 3 from n3 0 (by decide), show nearTo p3 0 3 = [1] from by decide]
  unfold delB
  simp [show sideTo p3 0 1 3 = 6 from s3_01, and64.1]
theorem nx1 : nxt p3 3 4 0 1 = [2] := by
  unfold nxt keepL
  rw [show nearOf p3 1 = nearTo p3 1 3 from n3 1 (by decide), show nearTo p3 1 3 = [0, 2] from by decide]
  unfold delB
  simp [show sideTo p3 1 2 3 = 4 from s3_12, and64.2]
theorem nx2 : nxt p3 3 4 1 2 = [] := by
  unfold nxt keepL
  rw [show nearOf p3 2 = nearTo p3 2 3 from n3 2 (by decide), show nearTo p3 2 3 = [1] from by decide]
  unfold delB
  simp
theorem all3 : allQ (nxt p3 3 4) 0 = [(-1, 0), (0, 1), (1, 2)] := by
  have q1 : qs (nxt p3 3 4) 0 1 = [(-1, 0), (0, 1)] := by rw [qs_step (c := -1) (a := 0) rfl, nx0]; rfl
  have q2 : qs (nxt p3 3 4) 0 2 = [(-1, 0), (0, 1), (1, 2)] := by rw [qs_step (i := 1) (c := 0) (a := 1) (by rw [q1]; rfl), nx1, q1]; rfl
  have q3 : qs (nxt p3 3 4) 0 3 = [(-1, 0), (0, 1), (1, 2)] := by rw [qs_step (i := 2) (c := 1) (a := 2) (by rw [q2]; rfl), nx2, q2]; rfl
  unfold allQ
  rw [qs_stay (i := 3) (by rw [q3]; decide) 7 (by decide), q3]
theorem oa3 : oa [4] (findI [] (hv ⟨#[107]⟩)) = 4 := rfl
theorem small3 : Small (nxt p3 3 4) 0 := small_tree t3 (nxt_goes t3 (by decide) (by decide)) 0
theorem mask3 {m : Int} (h : MaskIs (Came p3 4 0) m) : m = 7 := by
  obtain ⟨M, rfl, h1, h2⟩ := h
  have hc : ∀ s : Nat, Came p3 4 0 s ↔ s < 3 := fun s => by
    unfold Came
    rw [show p3.length = 3 from rfl, show ((0 : Nat) : Int) = 0 from rfl, all3]
    constructor
    · rintro ⟨c, hc⟩
      simp at hc
      omega
    · intro hs
      rcases s with _ | _ | _ | s
      · exact ⟨-1, by simp⟩
      · exact ⟨0, by simp⟩
      · exact ⟨1, by simp⟩
      · omega
  have g := fun k hk => (h2 k hk).trans (hc k)
  have g0 := g 0 (by omega)
  have g1 := g 1 (by omega)
  have g2 := g 2 (by omega)
  have g3 := g 3 (by omega)
  have g4 := g 4 (by omega)
  have g5 := g 5 (by omega)
  simp at g0 g1 g2 g3 g4 g5
  omega
theorem ints_three (w : World) (x y z : Int) (b : Nat) (h : w.cell? ⟨b, 0, none⟩ = some (.int .i64 x)) (h2 : w.cell? ⟨b, 1, none⟩ = some (.int .i64 y)) (h3 : w.cell? ⟨b, 2, none⟩ = some (.int .i64 z)) : IntsAt w (some ⟨b, 0, none⟩) 3 3 [x, y, z] :=
  ⟨rfl, Nat.le_refl _, by unfold maxLen; omega, (fun h => by cases h), fun _ => ⟨_, 0, rfl, fun i hi => by
    rcases i with _ | _ | _ | i
    · exact h
    · exact h2
    · exact h3
    · omega⟩⟩
theorem ints_1 (w : World) (x : Int) (b : Nat) (h : w.cell? ⟨b, 0, none⟩ = some (.int .i64 x)) : IntsAt w (some ⟨b, 0, none⟩) 1 1 [x] :=
  ⟨rfl, Nat.le_refl _, by unfold maxLen; omega, (fun h => by cases h), fun _ => ⟨_, 0, rfl, fun i hi => by
    rcases i with _ | i
    · exact h
    · omega⟩⟩
theorem row3 (w : World) (o : Obj) : RowW ((((w.alloc (.cells #[.string ⟨#[]⟩, .string ⟨#[]⟩] 52)).alloc (.cells #[.int .i64 4] 3)).alloc (.cells #[.int .i64 (-1), .int .i64 0, .int .i64 1] 3)).alloc o) (some ⟨w.heap.size, 0, none⟩) 1 1 (some ⟨w.heap.size + 1, 0, none⟩) 1 1 (some ⟨w.heap.size + 1 + 1, 0, none⟩) 3 3 (rgs []) [4] p3 := by
  refine ⟨⟨rfl, Nat.le_refl _, by unfold maxLen; omega, (fun h => by cases h), fun _ => ⟨_, 0, rfl, fun i hi => ?_⟩⟩, ints_1 _ _ _ (by go_simp), ints_three _ _ _ _ _ (by go_simp) (by go_simp) (by go_simp)⟩
  rcases i with _ | i
  · exact ⟨by go_simp; rfl, by go_simp; rfl⟩
  · omega
theorem prs_two (w : World) (a b c d : Int) (k : Nat) (h0 : w.cell? ⟨k, 0, none⟩ = some (.int .i64 a)) (h1 : w.cell? ⟨k, 1, none⟩ = some (.int .i64 b)) (h2 : w.cell? ⟨k, 2, none⟩ = some (.int .i64 c)) (h3 : w.cell? ⟨k, 3, none⟩ = some (.int .i64 d)) : PrsAt w (some ⟨k, 0, none⟩) 2 2 [(a, b), (c, d)] :=
  ⟨rfl, Nat.le_refl _, by unfold maxLen; omega, (fun h => by cases h), fun _ => ⟨_, 0, rfl, fun i hi => by
    rcases i with _ | _ | i
    · exact ⟨h0, h1⟩
    · exact ⟨h2, h3⟩
    · omega⟩⟩
set_option maxHeartbeats 2000000 in
theorem awake_any (w : World) : Calls Try.prog 9 #[] w fun e w' => e = .returned (.bool true) ∧ Kept w w' := by
  go_enter Try.func9, Try.ntmps9
  go_wp2_with fail
  have R0 := Lib.hid (row3 w)
  have F0 := Lib.hid fit3
  have S0 := Lib.hid small3
  refine (ways_any _ _ _ 1 1 1 1 3 3 [] [4] p3 0 ⟨#[107]⟩ _ (R0.out _) F0.out (by rw [oa3]; exact S0.out)).mono ?_
  rintro e w1 ⟨D, c9, m, rfl, hp, k1⟩
  rw [oa3, all3] at hp
  have K1 : Kept w w1 := Kept.call (by repeat (first | exact Kept.refl _ | assumption | (refine Kept.alloc ?_ _) | (refine Kept.setCell ?_ (by first | omega | (simp; omega) | simp) _) | refine Kept.drew ?_ | refine Kept.drewN ?_ _ | (apply Kept.call; rotate_left; assumption))) k1
  have R1 := Lib.hid ((R0.out _).keep k1)
  have a0 : w1.cell? ⟨w.heap.size + 1 + 1 + 1, 0, none⟩ = some (.slice (some ⟨w.heap.size, 0, none⟩) 1 1) := k1.at_ (by go_simp)
  have a1 : w1.cell? ⟨w.heap.size + 1 + 1 + 1, 1, none⟩ = some (.slice (some ⟨w.heap.size + 1, 0, none⟩) 1 1) := k1.at_ (by go_simp)
  have a2 : w1.cell? ⟨w.heap.size + 1 + 1 + 1, 2, none⟩ = some (.slice (some ⟨w.heap.size + 1 + 1, 0, none⟩) 3 3) := k1.at_ (by go_simp)
  have HP := Lib.hid hp
  have h1 : w.heap.size + 1 + 1 + 1 < w1.heap.size := World.block_lt_of_cell? w1 _ a0
  clear R0 hp
  go_wp2_with fail
  refine (psame_any _ _ m 2 c9 2 _ _ _ (HP.out.keep (by repeat (first | exact Kept.refl _ | assumption | (refine Kept.alloc ?_ _) | (refine Kept.setCell ?_ (by first | omega | (simp; omega) | simp) _) | refine Kept.drew ?_ | refine Kept.drewN ?_ _ | (apply Kept.call; rotate_left; assumption)))) (prs_two _ 0 1 1 2 w1.heap.size (by go_simp) (by go_simp) (by go_simp) (by go_simp))).mono ?_
  rintro e w2 ⟨rfl, k2⟩
  rw [show decide ([((-1 : Int), (0 : Int)), (0, 1), (1, 2)].tail = [(0, 1), (1, 2)]) = true from rfl]
  have K12 : Kept w1 w2 := Kept.call (by repeat (first | exact Kept.refl _ | assumption | (refine Kept.alloc ?_ _) | (refine Kept.setCell ?_ (by first | omega | (simp; omega) | simp) _) | refine Kept.drew ?_ | refine Kept.drewN ?_ _ | (apply Kept.call; rotate_left; assumption))) k2
  have R2 := Lib.hid (R1.out.keep K12)
  have K2 := K1.call K12
  have a0 := K12.at_ a0
  have a1 := K12.at_ a1
  have a2 := K12.at_ a2
  clear h1 HP
  go_wp2_with fail
  refine (rcheck_yes _ _ _ 1 1 1 1 3 3 [] [4] p3 _ R2.out F0.out).mono ?_
  rintro e w3 ⟨rfl, k3⟩
  have R3 := Lib.hid (R2.out.keep k3)
  have K3 := K2.call k3
  have a0 := k3.at_ a0
  have a1 := k3.at_ a1
  have a2 := k3.at_ a2
  go_wp2_with fail
  refine (reach_any _ _ _ 1 1 1 1 3 3 [] [4] p3 0 ⟨#[107]⟩ _ R3.out F0.out (by omega)).mono ?_
  rintro e w4 ⟨r, rfl, hr, k4⟩
  rw [oa3] at hr
  obtain rfl := mask3 hr
  clear hr
  go_wp2_with fail
  go_ret
  exact ⟨rfl, K3.call k4⟩
end Go.Proofs.Ytjmfdacokdffiaa
