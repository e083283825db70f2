/- The walk of the law StampMax at an empty row, and at every row. -/
import Derived.Test.YtfiocebipckaaaaStampMaxW
import Derived.Test.YtfiocebipckaaaaStampOpen
set_option linter.unusedSimpArgs false
set_option linter.unusedVariables false
namespace Go.Proofs.Ytfiocebipckaaaa
open Go.RowKit

theorem StampsAt.nil (w : World) (A : Option Addr) : StampsAt w A 0 [] := ⟨rfl, by decide, fun h => absurd h (by omega)⟩

theorem stampsAt1 {w : World} {b : Nat} {a0 a1 : Int} (e0 : w.cell? ⟨b, 0, none⟩ = some (.int .i64 a0)) (e1 : w.cell? ⟨b, 1, none⟩ = some (.int .i64 a1)) : StampsAt w (some ⟨b, 0, none⟩) 1 [(a0, a1)] := by
  refine ⟨rfl, by unfold maxLen; omega, fun _ => ⟨b, 0, rfl, fun i hi => ?_⟩⟩
  obtain rfl : i = 0 := by omega
  exact ⟨by simpa using e0, by simpa using e1⟩


set_option maxHeartbeats 1000000 in
theorem stampMax_nil1 (ad : Addr) (c : Nat) (w : World) :
    Calls Try.prog 6 #[.slice none 0 0] w fun e w' => e = .returned (.bool true) ∧ Kept w w' := by
  have HX : Hid (maxOf [] = ((0 : Int), (0 : Int))) := rfl
  have HXX : Hid (maxOf [((0 : Int), (0 : Int))] = (0, 0)) := by unfold Hid; rfl
  go_enter Try.func6, Try.ntmps6
  go_wp2_with (first | (go_at_call 10; refine (awake_any _).mono ?_; rintro e w1 ⟨rfl, hb1⟩; have hc1 := hb1.cell; have hf1 := hb1.frozen; have hz1 := hb1.size; (try simp only [World.size_alloc, World.size_setCell, World.size_drew] at hz1 hc1 hf1)) | (go_at_call 14; refine (max_is _ _ _ [] 0 0 _ (StampsAt.nil _ _) HX.out).mono ?_; rintro e w2 ⟨rfl, hb2⟩; have hc2 := hb2.cell; have hf2 := hb2.frozen; have hz2 := hb2.size; (try simp only [World.size_alloc, World.size_setCell, World.size_drew] at hz2 hc2 hf2)))
  go_rounds 1
  refine wp_region_dw (fun wB => Kept w wB ∧ wB.cell? ⟨w2.heap.size, 0, none⟩ = some (.int .i64 0) ∧ wB.cell? ⟨w2.heap.size, 1, none⟩ = some (.int .i64 0) ∧ wB.cell? ⟨w2.heap.size + 1 + 1, 0, none⟩ = some (.int .i64 0) ∧ wB.cell? ⟨w2.heap.size + 1 + 1, 1, none⟩ = some (.int .i64 0)) ?_ (by kernel_rfl) (by kernel_rfl) _ rfl ?_
  · exact ⟨by repeat (first | exact Kept.refl _ | assumption | (refine Kept.alloc ?_ _) | (refine Kept.setCell ?_ (by first | omega | (simp; omega) | simp) _) | refine Kept.drew ?_ | refine Kept.drewN ?_ _ | (apply Kept.call; rotate_left; assumption)), by first | assumption | go_simp, by first | assumption | go_simp, by first | assumption | go_simp, by first | assumption | go_simp⟩
  rintro wB ⟨hkB, sB1, sB2, sB3, sB4⟩
  repeat (first | (apply DW.det; (focus (intro wd hI; have td1 := hI.at_ sB1; have td2 := hI.at_ sB2; have td3 := hI.at_ sB3; have td4 := hI.at_ sB4; go_wp2_with (first | (go_at_call 14; refine (max_is _ _ _ [(0, 0)] 0 0 _ (stampsAt1 td3 td4) HXX.out).mono ?_; rintro e w6 ⟨rfl, hb6⟩)); refine StepPost.mk _ rfl ⟨rfl, ?_⟩; repeat (first | exact Kept.refl _ | assumption | (refine Kept.alloc ?_ _) | (refine Kept.setCell ?_ (by first | omega | (simp; omega) | simp) _) | refine Kept.drew ?_ | refine Kept.drewN ?_ _ | (apply Kept.call; rotate_left; assumption)))); simp only [Act.put, List.setIfInBounds_toArray, List.set_cons_succ, List.set_cons_zero]) | (refine DW.loud (by kernel_rfl) ?_; intro wd hI; have td1 := hI.at_ sB1; have td2 := hI.at_ sB2; have td3 := hI.at_ sB3; have td4 := hI.at_ sB4; go_wp2_with (first | (go_at_call 14; refine (max_is _ _ _ [(0, 0)] 0 0 _ (stampsAt1 td3 td4) HXX.out).mono ?_; rintro e w6 ⟨rfl, hb6⟩)); refine StepPost.loud _ rfl (by repeat (first | exact Kept.refl _ | assumption | (refine Kept.alloc ?_ _) | (refine Kept.setCell ?_ (by first | omega | (simp; omega) | simp) _) | refine Kept.drew ?_ | refine Kept.drewN ?_ _ | (apply Kept.call; rotate_left; assumption))) (fun hkL => ?_); have hkL := hI.call hkL; have hkB := hkB.call hkL; have sB1 := hkL.at_ sB1; have sB2 := hkL.at_ sB2; have sB3 := hkL.at_ sB3; have sB4 := hkL.at_ sB4; simp only [Act.put, List.setIfInBounds_toArray, List.set_cons_succ, List.set_cons_zero]))
  refine DW.nil ?_
  intro wd hI
  have hkd := hkB.call hI
  have td1 := hI.at_ sB1; have td2 := hI.at_ sB2; have td3 := hI.at_ sB3; have td4 := hI.at_ sB4
  go_wp2
  go_ret
  exact ⟨rfl, hkd⟩

set_option maxHeartbeats 1000000 in
theorem stampMax_nil2 (ad : Addr) (c : Nat) (w : World) :
    Calls Try.prog 6 #[.slice (some ad) 0 c] w fun e w' => e = .returned (.bool true) ∧ Kept w w' := by
  have HX : Hid (maxOf [] = ((0 : Int), (0 : Int))) := rfl
  have HXX : Hid (maxOf [((0 : Int), (0 : Int))] = (0, 0)) := by unfold Hid; rfl
  go_enter Try.func6, Try.ntmps6
  go_wp2_with (first | (go_at_call 10; refine (awake_any _).mono ?_; rintro e w1 ⟨rfl, hb1⟩; have hc1 := hb1.cell; have hf1 := hb1.frozen; have hz1 := hb1.size; (try simp only [World.size_alloc, World.size_setCell, World.size_drew] at hz1 hc1 hf1)) | (go_at_call 14; refine (max_is _ _ _ [] 0 0 _ (StampsAt.nil _ _) HX.out).mono ?_; rintro e w2 ⟨rfl, hb2⟩; have hc2 := hb2.cell; have hf2 := hb2.frozen; have hz2 := hb2.size; (try simp only [World.size_alloc, World.size_setCell, World.size_drew] at hz2 hc2 hf2)))
  go_rounds 1
  refine wp_region_dw (fun wB => Kept w wB ∧ wB.cell? ⟨w2.heap.size, 0, none⟩ = some (.int .i64 0) ∧ wB.cell? ⟨w2.heap.size, 1, none⟩ = some (.int .i64 0) ∧ wB.cell? ⟨w2.heap.size + 1 + 1, 0, none⟩ = some (.int .i64 0) ∧ wB.cell? ⟨w2.heap.size + 1 + 1, 1, none⟩ = some (.int .i64 0)) ?_ (by kernel_rfl) (by kernel_rfl) _ rfl ?_
  · exact ⟨by repeat (first | exact Kept.refl _ | assumption | (refine Kept.alloc ?_ _) | (refine Kept.setCell ?_ (by first | omega | (simp; omega) | simp) _) | refine Kept.drew ?_ | refine Kept.drewN ?_ _ | (apply Kept.call; rotate_left; assumption)), by first | assumption | go_simp, by first | assumption | go_simp, by first | assumption | go_simp, by first | assumption | go_simp⟩
  rintro wB ⟨hkB, sB1, sB2, sB3, sB4⟩
  repeat (first | (apply DW.det; (focus (intro wd hI; have td1 := hI.at_ sB1; have td2 := hI.at_ sB2; have td3 := hI.at_ sB3; have td4 := hI.at_ sB4; go_wp2_with (first | (go_at_call 14; refine (max_is _ _ _ [(0, 0)] 0 0 _ (stampsAt1 td3 td4) HXX.out).mono ?_; rintro e w6 ⟨rfl, hb6⟩)); refine StepPost.mk _ rfl ⟨rfl, ?_⟩; repeat (first | exact Kept.refl _ | assumption | (refine Kept.alloc ?_ _) | (refine Kept.setCell ?_ (by first | omega | (simp; omega) | simp) _) | refine Kept.drew ?_ | refine Kept.drewN ?_ _ | (apply Kept.call; rotate_left; assumption)))); simp only [Act.put, List.setIfInBounds_toArray, List.set_cons_succ, List.set_cons_zero]) | (refine DW.loud (by kernel_rfl) ?_; intro wd hI; have td1 := hI.at_ sB1; have td2 := hI.at_ sB2; have td3 := hI.at_ sB3; have td4 := hI.at_ sB4; go_wp2_with (first | (go_at_call 14; refine (max_is _ _ _ [(0, 0)] 0 0 _ (stampsAt1 td3 td4) HXX.out).mono ?_; rintro e w6 ⟨rfl, hb6⟩)); refine StepPost.loud _ rfl (by repeat (first | exact Kept.refl _ | assumption | (refine Kept.alloc ?_ _) | (refine Kept.setCell ?_ (by first | omega | (simp; omega) | simp) _) | refine Kept.drew ?_ | refine Kept.drewN ?_ _ | (apply Kept.call; rotate_left; assumption))) (fun hkL => ?_); have hkL := hI.call hkL; have hkB := hkB.call hkL; have sB1 := hkL.at_ sB1; have sB2 := hkL.at_ sB2; have sB3 := hkL.at_ sB3; have sB4 := hkL.at_ sB4; simp only [Act.put, List.setIfInBounds_toArray, List.set_cons_succ, List.set_cons_zero]))
  refine DW.nil ?_
  intro wd hI
  have hkd := hkB.call hI
  have td1 := hI.at_ sB1; have td2 := hI.at_ sB2; have td3 := hI.at_ sB3; have td4 := hI.at_ sB4
  go_wp2
  go_ret
  exact ⟨rfl, hkd⟩

theorem stampMax_walk (A : Option Addr) (n c : Nat) (xs : List (Int × Int)) (w : World) (hr : StampsAt w A n xs) (hc : A = none → c = 0) (hnc : n ≤ c) (_ : ∀ x ∈ xs, (Lit.int .i64 x.1).wf = true ∧ (Lit.int .i64 x.2).wf = true) :
    Calls Try.prog 6 #[.slice A n c] w fun e w' => e = .returned (.bool true) ∧ Kept w w' := by
  have hr0 := hr
  obtain ⟨hl, hm, hcell⟩ := hr
  rcases Nat.eq_zero_or_pos n with rfl | h0
  · cases A with
    | none => rw [hc rfl]; exact stampMax_nil1 ⟨0, 0, none⟩ 0 w
    | some ad => exact stampMax_nil2 ad c w
  · obtain ⟨b, off, rfl, hce⟩ := hcell h0
    unfold maxLen at hm
    rcases Nat.lt_or_ge 8 n with h8 | h8
    · obtain ⟨hl2, _, hc2⟩ := hr0.take 8 (by omega)
      obtain ⟨b2, off2, he, hce2⟩ := hc2 (by omega)
      injection he with he
      injection he with he1 he2 _
      subst he1 he2
      exact stampMax_core8 b off n c (xs.take 8) _ _ w h0 h8 hnc hm hl2 hce2 rfl
    · exact stampMax_coren b off n c xs _ _ w h0 h8 hnc hm hl hce rfl
end Go.Proofs.Ytfiocebipckaaaa
