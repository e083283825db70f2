/- The walk of the law StampMax: it returns true for every row of stamps. -/
import Derived.Test.YtfiocebipckaaaaStampMaxL
import Derived.Test.YtfiocebipckaaaaDet
set_option linter.unusedSimpArgs false
set_option linter.unusedVariables false
namespace Go.Proofs.Ytfiocebipckaaaa
open Go.RowKit

theorem StampsAt.keep {w w2 : World} {A : Option Addr} {n : Nat} {xs : List (Int × Int)} (h : StampsAt w A n xs) (hk : Kept w w2) : StampsAt w2 A n xs := by
  obtain ⟨h1, h2, h3⟩ := h
  refine ⟨h1, h2, fun h0 => ?_⟩
  obtain ⟨b, off, rfl, hc⟩ := h3 h0
  exact ⟨b, off, rfl, fun i hi => ⟨hk.at_ (hc i hi).1, hk.at_ (hc i hi).2⟩⟩
theorem StampsAt.take {w : World} {A : Option Addr} {n : Nat} {xs : List (Int × Int)} (h : StampsAt w A n xs) (k : Nat) (hk : k ≤ n) : StampsAt w A k (xs.take k) := by
  obtain ⟨h1, h2, h3⟩ := h
  refine ⟨by simp; omega, by omega, fun h0 => ?_⟩
  obtain ⟨b, off, rfl, hc⟩ := h3 (by omega)
  refine ⟨b, off, rfl, fun i hi => ?_⟩
  have := hc i (by omega)
  simpa [List.getElem?_take, hi] using this

theorem found_snoc (xs : List (Int × Int)) (m : Int × Int) (k : Nat) (hk : k < xs.length) :
    decide (m = (0, 0) ∨ m ∈ xs.take (k + 1)) = (decide (m = (0, 0) ∨ m ∈ xs.take k) || (decide ((xs[k]?.getD (0, 0)).1 = m.1) && decide ((xs[k]?.getD (0, 0)).2 = m.2))) := by
  rw [List.take_succ_eq_append_getElem hk, List.getElem?_eq_getElem hk, Bool.eq_iff_iff]
  simp only [List.mem_append, List.mem_singleton, Option.getD_some, Bool.or_eq_true, Bool.and_eq_true, decide_eq_true_eq]
  constructor
  · rintro (h | h | h)
    · exact .inl (.inl h)
    · exact .inl (.inr h)
    · exact .inr ⟨by rw [← h], by rw [← h]⟩
  · rintro ((h | h) | ⟨h1, h2⟩)
    · exact .inl h
    · exact .inr (.inl h)
    · exact .inr (.inr (Prod.ext h1.symm h2.symm))

theorem info24 : (Try.prog.info? 24).map (fun i => (i.zero, i.size, i.bytes)) = some (some (.agg #[.int .i64 0, .int .i64 0]), 2, 16) := by kernel_rfl

def cellsOf (xs : List (Int × Int)) : List Value := xs.flatMap fun x => [.int .i64 x.1, .int .i64 x.2]
theorem cellsOf_len (xs : List (Int × Int)) : (cellsOf xs).length = xs.length * 2 := by
  induction xs with
  | nil => rfl
  | cons a r ih => simp only [cellsOf, List.flatMap_cons, List.length_append, List.length_cons, List.length_nil] at ih ⊢; omega
theorem cellsOf_at : ∀ (xs : List (Int × Int)) (i : Nat), i < xs.length → (cellsOf xs)[i * 2]? = some (.int .i64 (xs[i]?.getD (0, 0)).1) ∧ (cellsOf xs)[i * 2 + 1]? = some (.int .i64 (xs[i]?.getD (0, 0)).2)
  | [], i, h => by simp at h
  | a :: r, 0, _ => by simp [cellsOf]
  | a :: r, i + 1, h => by
    have := cellsOf_at r i (by simpa using h)
    have e : cellsOf (a :: r) = .int .i64 a.1 :: .int .i64 a.2 :: cellsOf r := rfl
    rw [e, show (i + 1) * 2 = i * 2 + 1 + 1 by omega]
    simpa using this
theorem cellsOf_one (xs : List (Int × Int)) : ∀ u ∈ cellsOf xs, u.oneCell' = true := by
  intro u hu
  simp only [cellsOf, List.mem_flatMap, List.mem_cons, List.not_mem_nil, or_false] at hu
  obtain ⟨x, _, rfl | rfl⟩ := hu <;> rfl
theorem StampsAt.of_own {w : World} {base e n : Nat} {v : Value} {xs : List (Int × Int)} (h : w.ownsRow base e 2 v n (cellsOf xs)) (hn : n ≤ maxLen) : ∃ A c, v = .slice A n c ∧ StampsAt w A n xs := by
  have hl : xs.length = n := by have := h.1; rw [cellsOf_len] at this; omega
  rcases h.2 with ⟨rfl, rfl⟩ | ⟨g, cap, cur, rfl, _⟩
  · exact ⟨none, 0, rfl, hl, hn, fun h => by omega⟩
  · refine ⟨_, _, rfl, hl, hn, fun _ => ⟨g, 0, rfl, fun i hi => ?_⟩⟩
    have := cellsOf_at xs i (by omega)
    have e1 := h.cellAt (i * 2) (by omega)
    have e2 := h.cellAt (i * 2 + 1) (by omega)
    rw [this.1] at e1; rw [this.2] at e2
    exact ⟨by simpa using e1, by simpa using e2⟩


set_option maxHeartbeats 4000000 in
theorem stampMax_core8 (b off n c : Nat) (xs : List (Int × Int)) (x0 x1 : Int) (w : World) (h0 : 0 < n) (hn : 8 < n) (hnc : n ≤ c) (hmx : n ≤ 9223372036854775807) (hl : xs.length = 8)
    (hc : ∀ i, i < 8 → w.cell? ⟨b, off + i * 2, none⟩ = some (.int .i64 (xs[i]?.getD (0, 0)).1) ∧ w.cell? ⟨b, off + i * 2 + 1, none⟩ = some (.int .i64 (xs[i]?.getD (0, 0)).2)) (hx : maxOf xs = (x0, x1)) :
    Calls Try.prog 6 #[.slice (some ⟨b, off, none⟩) n c] w fun e w' => e = .returned (.bool true) ∧ Kept w w' := by
  have HS : Hid (StampsAt w (some ⟨b, off, none⟩) 8 xs) := ⟨hl, by unfold maxLen; omega, fun _ => ⟨b, off, rfl, hc⟩⟩
  have hb : b < w.heap.size := World.block_lt_of_cell? w _ (hc 0 (by omega)).1
  have HX := Lib.hid hx
  have HL := Lib.hid hl
  have HC := Lib.hid hc
  clear hx hl hc
  go_enter Try.func6, Try.ntmps6
  go_wp2_with (first | (go_at_call 10; refine (awake_any _).mono ?_; rintro e w1 ⟨rfl, hb1⟩; have hc1 := hb1.cell; have hf1 := hb1.frozen; have hz1 := hb1.size; (try simp only [World.size_alloc, World.size_setCell, World.size_drew] at hz1 hc1 hf1)) | (go_at_call 14; refine (max_is _ _ _ xs x0 x1 _ (HS.out.keep (by repeat (first | exact Kept.refl _ | assumption | (refine Kept.alloc ?_ _) | (refine Kept.setCell ?_ (by first | omega | (simp; omega) | simp) _) | refine Kept.drew ?_ | refine Kept.drewN ?_ _ | (apply Kept.call; rotate_left; assumption)))) HX.out).mono ?_; rintro e w2 ⟨rfl, hb2⟩; have hc2 := hb2.cell; have hf2 := hb2.frozen; have hz2 := hb2.size; (try simp only [World.size_alloc, World.size_setCell, World.size_drew] at hz2 hc2 hf2)))
  all_goals
    have HF0 : Hid (decide ((x0, x1) = ((0 : Int), (0 : Int)) ∨ (x0, x1) ∈ xs.take 0) = (decide (x0 = 0) && decide (x1 = 0))) := by unfold Hid; simp [Bool.decide_and]
    go_loopw [6, 7] (fun f i wr => ∃ k : Nat, k ≤ 8 ∧ i = .int .i64 k ∧ f = .bool (decide ((x0, x1) = (0, 0) ∨ (x0, x1) ∈ xs.take k)) ∧ Kept w wr ∧ w2.heap.size < wr.heap.size ∧
      wr.cell? ⟨w2.heap.size, 0, none⟩ = some (.int .i64 x0) ∧ wr.cell? ⟨w2.heap.size, 1, none⟩ = some (.int .i64 x1)) (fun _ i _ => 8 - (intOf i).toNat)
    case atStart =>
      refine ⟨0, by omega, rfl, ?_, by repeat (first | exact Kept.refl _ | assumption | (refine Kept.alloc ?_ _) | (refine Kept.setCell ?_ (by first | omega | (simp; omega) | simp) _) | refine Kept.drew ?_ | refine Kept.drewN ?_ _ | (apply Kept.call; rotate_left; assumption)), by first | (simp; omega) | simp, by go_simp, by go_simp⟩
      rw [HF0.out]; simp [*]
    case round =>
      obtain ⟨k, hk, rfl, hf, hkept, hsz, q0, q1⟩ := hrel
      clear HF0
      (try clear ‹x0 = 0›); (try clear ‹x1 = 0›)
      by_cases hlt : k < 8
      · obtain ⟨y0, y1, HY⟩ : ∃ y0 y1, Hid (xs[k]?.getD (0, 0) = (y0, y1)) := ⟨_, _, rfl⟩
        obtain ⟨z0, z1⟩ := HC.out k hlt
        rw [HY.out, ← hkept.cell _ _ hb] at z0 z1
        have hle : lessB x0 x1 y0 y1 = false := by
          have := maxOf_ge xs (y0, y1) (by rw [← HY.out, List.getElem?_eq_getElem (by have := HL.out; omega)]; simp)
          rw [HX.out] at this; exact this
        have HN := Lib.hid (found_snoc xs (x0, x1) k (by have := HL.out; omega))
        have hkz : (k : Int) < ((8 : Nat) : Int) := by omega
        have hk0 : (0 : Int) ≤ (k : Int) := by omega
        cases hF : decide ((x0, x1) = (0, 0) ∨ (x0, x1) ∈ xs.take k)
        · rw [hF] at hf HN
          subst hf
          clear hF
          by_cases e0 : y0 = x0
          · subst e0
            by_cases e1 : y1 = x1
            · subst e1
              go_wp2_with fail
              refine wp_region_text keepsOne (fun wB => Kept w wB ∧ wB.cell? ⟨w2.heap.size, 0, none⟩ = some (.int .i64 y0) ∧ wB.cell? ⟨w2.heap.size, 1, none⟩ = some (.int .i64 y1) ∧ wB.cell? ⟨b, off + k * 2, none⟩ = some (.int .i64 y0) ∧ wB.cell? ⟨b, off + k * 2 + 1, none⟩ = some (.int .i64 y1)) ?_ (by kernel_rfl) (by kernel_rfl) _ rfl ?_
              · exact ⟨by repeat (first | exact Kept.refl _ | assumption | (refine Kept.alloc ?_ _) | (refine Kept.setCell ?_ (by first | omega | (simp; omega) | simp) _) | refine Kept.drew ?_ | refine Kept.drewN ?_ _ | (apply Kept.call; rotate_left; assumption)), by first | assumption | go_simp, by first | assumption | go_simp, by first | assumption | go_simp, by first | assumption | go_simp⟩
              rintro wB ⟨hkB, sB1, sB2, sB3, sB4⟩
              repeat (first | (apply DW.det; (focus (intro wd hI; have td1 := hI.at_ sB1; have td2 := hI.at_ sB2; have td3 := hI.at_ sB3; have td4 := hI.at_ sB4; skip; go_wp2_with (first | (go_at_call 12; refine (less_is _ _ _ _ false _ (by assumption)).mono ?_; rintro e w6 ⟨rfl, hb6⟩)); refine StepPost.mk _ rfl ⟨rfl, ?_⟩; repeat (first | exact Kept.refl _ | assumption | (refine Kept.alloc ?_ _) | (refine Kept.setCell ?_ (by first | omega | (simp; omega) | simp) _) | refine Kept.drew ?_ | refine Kept.drewN ?_ _ | (apply Kept.call; rotate_left; assumption)))); simp only [Act.put, List.setIfInBounds_toArray, List.set_cons_succ, List.set_cons_zero]) | (refine DW.loud (by kernel_rfl) ?_; intro wd hI; have td1 := hI.at_ sB1; have td2 := hI.at_ sB2; have td3 := hI.at_ sB3; have td4 := hI.at_ sB4; skip; go_wp2_with (first | (go_at_call 12; refine (less_is _ _ _ _ false _ (by assumption)).mono ?_; rintro e w6 ⟨rfl, hb6⟩)); refine StepPost.loud _ rfl (by repeat (first | exact Kept.refl _ | assumption | (refine Kept.alloc ?_ _) | (refine Kept.setCell ?_ (by first | omega | (simp; omega) | simp) _) | refine Kept.drew ?_ | refine Kept.drewN ?_ _ | (apply Kept.call; rotate_left; assumption))) (fun hkL => ?_); have hkL := hI.call hkL; have hkB := hkB.call hkL; have sB1 := hkL.at_ sB1; have sB2 := hkL.at_ sB2; have sB3 := hkL.at_ sB3; have sB4 := hkL.at_ sB4; simp only [Act.put, List.setIfInBounds_toArray, List.set_cons_succ, List.set_cons_zero]))
              refine DW.nil ?_
              intro wd hI
              have hkd := hkB.call hI
              have td1 := hI.at_ sB1; have td2 := hI.at_ sB2; have td3 := hI.at_ sB3; have td4 := hI.at_ sB4
              go_wp2_with fail
              refine wp_region_text keepsOne (fun wB => Kept w wB ∧ wB.cell? ⟨w2.heap.size, 0, none⟩ = some (.int .i64 y0) ∧ wB.cell? ⟨w2.heap.size, 1, none⟩ = some (.int .i64 y1) ∧ wB.cell? ⟨b, off + k * 2, none⟩ = some (.int .i64 y0) ∧ wB.cell? ⟨b, off + k * 2 + 1, none⟩ = some (.int .i64 y1)) ?_ (by kernel_rfl) (by kernel_rfl) _ rfl ?_
              · exact ⟨by repeat (first | exact Kept.refl _ | assumption | (refine Kept.alloc ?_ _) | (refine Kept.setCell ?_ (by first | omega | (simp; omega) | simp) _) | refine Kept.drew ?_ | refine Kept.drewN ?_ _ | (apply Kept.call; rotate_left; assumption)), by first | assumption | go_simp, by first | assumption | go_simp, by first | assumption | go_simp, by first | assumption | go_simp⟩
              rintro wB ⟨hkB, sB1, sB2, sB3, sB4⟩
              repeat (first | (apply DW.det; (focus (intro wd hI; have td1 := hI.at_ sB1; have td2 := hI.at_ sB2; have td3 := hI.at_ sB3; have td4 := hI.at_ sB4; skip; go_wp2_with (fail); refine StepPost.mk _ rfl ⟨rfl, ?_⟩; repeat (first | exact Kept.refl _ | assumption | (refine Kept.alloc ?_ _) | (refine Kept.setCell ?_ (by first | omega | (simp; omega) | simp) _) | refine Kept.drew ?_ | refine Kept.drewN ?_ _ | (apply Kept.call; rotate_left; assumption)))); simp only [Act.put, List.setIfInBounds_toArray, List.set_cons_succ, List.set_cons_zero]) | (refine DW.loud (by kernel_rfl) ?_; intro wd hI; have td1 := hI.at_ sB1; have td2 := hI.at_ sB2; have td3 := hI.at_ sB3; have td4 := hI.at_ sB4; skip; go_wp2_with (fail); refine StepPost.loud _ rfl (by repeat (first | exact Kept.refl _ | assumption | (refine Kept.alloc ?_ _) | (refine Kept.setCell ?_ (by first | omega | (simp; omega) | simp) _) | refine Kept.drew ?_ | refine Kept.drewN ?_ _ | (apply Kept.call; rotate_left; assumption))) (fun hkL => ?_); have hkL := hI.call hkL; have hkB := hkB.call hkL; have sB1 := hkL.at_ sB1; have sB2 := hkL.at_ sB2; have sB3 := hkL.at_ sB3; have sB4 := hkL.at_ sB4; simp only [Act.put, List.setIfInBounds_toArray, List.set_cons_succ, List.set_cons_zero]))
              refine DW.nil ?_
              intro wd hI
              have hkd := hkB.call hI
              have td1 := hI.at_ sB1; have td2 := hI.at_ sB2; have td3 := hI.at_ sB3; have td4 := hI.at_ sB4
              go_wp2
              go_roundw
              case rel => exact ⟨k + 1, by omega, by go_num, by rw [HN.out, HY.out]; simp [*], hkd, World.block_lt_of_cell? wd _ td1, td1, td2⟩
              case measure => simp [intOf]; omega
            · go_wp2_with fail
              refine wp_region_text keepsOne (fun wB => Kept w wB ∧ wB.cell? ⟨w2.heap.size, 0, none⟩ = some (.int .i64 y0) ∧ wB.cell? ⟨w2.heap.size, 1, none⟩ = some (.int .i64 x1) ∧ wB.cell? ⟨b, off + k * 2, none⟩ = some (.int .i64 y0) ∧ wB.cell? ⟨b, off + k * 2 + 1, none⟩ = some (.int .i64 y1)) ?_ (by kernel_rfl) (by kernel_rfl) _ rfl ?_
              · exact ⟨by repeat (first | exact Kept.refl _ | assumption | (refine Kept.alloc ?_ _) | (refine Kept.setCell ?_ (by first | omega | (simp; omega) | simp) _) | refine Kept.drew ?_ | refine Kept.drewN ?_ _ | (apply Kept.call; rotate_left; assumption)), by first | assumption | go_simp, by first | assumption | go_simp, by first | assumption | go_simp, by first | assumption | go_simp⟩
              rintro wB ⟨hkB, sB1, sB2, sB3, sB4⟩
              repeat (first | (apply DW.det; (focus (intro wd hI; have td1 := hI.at_ sB1; have td2 := hI.at_ sB2; have td3 := hI.at_ sB3; have td4 := hI.at_ sB4; skip; go_wp2_with (first | (go_at_call 12; refine (less_is _ _ _ _ false _ (by assumption)).mono ?_; rintro e w6 ⟨rfl, hb6⟩)); refine StepPost.mk _ rfl ⟨rfl, ?_⟩; repeat (first | exact Kept.refl _ | assumption | (refine Kept.alloc ?_ _) | (refine Kept.setCell ?_ (by first | omega | (simp; omega) | simp) _) | refine Kept.drew ?_ | refine Kept.drewN ?_ _ | (apply Kept.call; rotate_left; assumption)))); simp only [Act.put, List.setIfInBounds_toArray, List.set_cons_succ, List.set_cons_zero]) | (refine DW.loud (by kernel_rfl) ?_; intro wd hI; have td1 := hI.at_ sB1; have td2 := hI.at_ sB2; have td3 := hI.at_ sB3; have td4 := hI.at_ sB4; skip; go_wp2_with (first | (go_at_call 12; refine (less_is _ _ _ _ false _ (by assumption)).mono ?_; rintro e w6 ⟨rfl, hb6⟩)); refine StepPost.loud _ rfl (by repeat (first | exact Kept.refl _ | assumption | (refine Kept.alloc ?_ _) | (refine Kept.setCell ?_ (by first | omega | (simp; omega) | simp) _) | refine Kept.drew ?_ | refine Kept.drewN ?_ _ | (apply Kept.call; rotate_left; assumption))) (fun hkL => ?_); have hkL := hI.call hkL; have hkB := hkB.call hkL; have sB1 := hkL.at_ sB1; have sB2 := hkL.at_ sB2; have sB3 := hkL.at_ sB3; have sB4 := hkL.at_ sB4; simp only [Act.put, List.setIfInBounds_toArray, List.set_cons_succ, List.set_cons_zero]))
              refine DW.nil ?_
              intro wd hI
              have hkd := hkB.call hI
              have td1 := hI.at_ sB1; have td2 := hI.at_ sB2; have td3 := hI.at_ sB3; have td4 := hI.at_ sB4
              go_wp2_with fail
              refine wp_region_text keepsOne (fun wB => Kept w wB ∧ wB.cell? ⟨w2.heap.size, 0, none⟩ = some (.int .i64 y0) ∧ wB.cell? ⟨w2.heap.size, 1, none⟩ = some (.int .i64 x1) ∧ wB.cell? ⟨b, off + k * 2, none⟩ = some (.int .i64 y0) ∧ wB.cell? ⟨b, off + k * 2 + 1, none⟩ = some (.int .i64 y1)) ?_ (by kernel_rfl) (by kernel_rfl) _ rfl ?_
              · exact ⟨by repeat (first | exact Kept.refl _ | assumption | (refine Kept.alloc ?_ _) | (refine Kept.setCell ?_ (by first | omega | (simp; omega) | simp) _) | refine Kept.drew ?_ | refine Kept.drewN ?_ _ | (apply Kept.call; rotate_left; assumption)), by first | assumption | go_simp, by first | assumption | go_simp, by first | assumption | go_simp, by first | assumption | go_simp⟩
              rintro wB ⟨hkB, sB1, sB2, sB3, sB4⟩
              repeat (first | (apply DW.det; (focus (intro wd hI; have td1 := hI.at_ sB1; have td2 := hI.at_ sB2; have td3 := hI.at_ sB3; have td4 := hI.at_ sB4; skip; go_wp2_with (fail); refine StepPost.mk _ rfl ⟨rfl, ?_⟩; repeat (first | exact Kept.refl _ | assumption | (refine Kept.alloc ?_ _) | (refine Kept.setCell ?_ (by first | omega | (simp; omega) | simp) _) | refine Kept.drew ?_ | refine Kept.drewN ?_ _ | (apply Kept.call; rotate_left; assumption)))); simp only [Act.put, List.setIfInBounds_toArray, List.set_cons_succ, List.set_cons_zero]) | (refine DW.loud (by kernel_rfl) ?_; intro wd hI; have td1 := hI.at_ sB1; have td2 := hI.at_ sB2; have td3 := hI.at_ sB3; have td4 := hI.at_ sB4; skip; go_wp2_with (fail); refine StepPost.loud _ rfl (by repeat (first | exact Kept.refl _ | assumption | (refine Kept.alloc ?_ _) | (refine Kept.setCell ?_ (by first | omega | (simp; omega) | simp) _) | refine Kept.drew ?_ | refine Kept.drewN ?_ _ | (apply Kept.call; rotate_left; assumption))) (fun hkL => ?_); have hkL := hI.call hkL; have hkB := hkB.call hkL; have sB1 := hkL.at_ sB1; have sB2 := hkL.at_ sB2; have sB3 := hkL.at_ sB3; have sB4 := hkL.at_ sB4; simp only [Act.put, List.setIfInBounds_toArray, List.set_cons_succ, List.set_cons_zero]))
              refine DW.nil ?_
              intro wd hI
              have hkd := hkB.call hI
              have td1 := hI.at_ sB1; have td2 := hI.at_ sB2; have td3 := hI.at_ sB3; have td4 := hI.at_ sB4
              go_wp2
              go_roundw
              case rel => exact ⟨k + 1, by omega, by go_num, by rw [HN.out, HY.out]; simp [*], hkd, World.block_lt_of_cell? wd _ td1, td1, td2⟩
              case measure => simp [intOf]; omega
          · go_wp2_with fail
            refine wp_region_text keepsOne (fun wB => Kept w wB ∧ wB.cell? ⟨w2.heap.size, 0, none⟩ = some (.int .i64 x0) ∧ wB.cell? ⟨w2.heap.size, 1, none⟩ = some (.int .i64 x1) ∧ wB.cell? ⟨b, off + k * 2, none⟩ = some (.int .i64 y0) ∧ wB.cell? ⟨b, off + k * 2 + 1, none⟩ = some (.int .i64 y1)) ?_ (by kernel_rfl) (by kernel_rfl) _ rfl ?_
            · exact ⟨by repeat (first | exact Kept.refl _ | assumption | (refine Kept.alloc ?_ _) | (refine Kept.setCell ?_ (by first | omega | (simp; omega) | simp) _) | refine Kept.drew ?_ | refine Kept.drewN ?_ _ | (apply Kept.call; rotate_left; assumption)), by first | assumption | go_simp, by first | assumption | go_simp, by first | assumption | go_simp, by first | assumption | go_simp⟩
            rintro wB ⟨hkB, sB1, sB2, sB3, sB4⟩
            repeat (first | (apply DW.det; (focus (intro wd hI; have td1 := hI.at_ sB1; have td2 := hI.at_ sB2; have td3 := hI.at_ sB3; have td4 := hI.at_ sB4; skip; go_wp2_with (first | (go_at_call 12; refine (less_is _ _ _ _ false _ (by assumption)).mono ?_; rintro e w6 ⟨rfl, hb6⟩)); refine StepPost.mk _ rfl ⟨rfl, ?_⟩; repeat (first | exact Kept.refl _ | assumption | (refine Kept.alloc ?_ _) | (refine Kept.setCell ?_ (by first | omega | (simp; omega) | simp) _) | refine Kept.drew ?_ | refine Kept.drewN ?_ _ | (apply Kept.call; rotate_left; assumption)))); simp only [Act.put, List.setIfInBounds_toArray, List.set_cons_succ, List.set_cons_zero]) | (refine DW.loud (by kernel_rfl) ?_; intro wd hI; have td1 := hI.at_ sB1; have td2 := hI.at_ sB2; have td3 := hI.at_ sB3; have td4 := hI.at_ sB4; skip; go_wp2_with (first | (go_at_call 12; refine (less_is _ _ _ _ false _ (by assumption)).mono ?_; rintro e w6 ⟨rfl, hb6⟩)); refine StepPost.loud _ rfl (by repeat (first | exact Kept.refl _ | assumption | (refine Kept.alloc ?_ _) | (refine Kept.setCell ?_ (by first | omega | (simp; omega) | simp) _) | refine Kept.drew ?_ | refine Kept.drewN ?_ _ | (apply Kept.call; rotate_left; assumption))) (fun hkL => ?_); have hkL := hI.call hkL; have hkB := hkB.call hkL; have sB1 := hkL.at_ sB1; have sB2 := hkL.at_ sB2; have sB3 := hkL.at_ sB3; have sB4 := hkL.at_ sB4; simp only [Act.put, List.setIfInBounds_toArray, List.set_cons_succ, List.set_cons_zero]))
            refine DW.nil ?_
            intro wd hI
            have hkd := hkB.call hI
            have td1 := hI.at_ sB1; have td2 := hI.at_ sB2; have td3 := hI.at_ sB3; have td4 := hI.at_ sB4
            go_wp2_with fail
            refine wp_region_text keepsOne (fun wB => Kept w wB ∧ wB.cell? ⟨w2.heap.size, 0, none⟩ = some (.int .i64 x0) ∧ wB.cell? ⟨w2.heap.size, 1, none⟩ = some (.int .i64 x1) ∧ wB.cell? ⟨b, off + k * 2, none⟩ = some (.int .i64 y0) ∧ wB.cell? ⟨b, off + k * 2 + 1, none⟩ = some (.int .i64 y1)) ?_ (by kernel_rfl) (by kernel_rfl) _ rfl ?_
            · exact ⟨by repeat (first | exact Kept.refl _ | assumption | (refine Kept.alloc ?_ _) | (refine Kept.setCell ?_ (by first | omega | (simp; omega) | simp) _) | refine Kept.drew ?_ | refine Kept.drewN ?_ _ | (apply Kept.call; rotate_left; assumption)), by first | assumption | go_simp, by first | assumption | go_simp, by first | assumption | go_simp, by first | assumption | go_simp⟩
            rintro wB ⟨hkB, sB1, sB2, sB3, sB4⟩
            repeat (first | (apply DW.det; (focus (intro wd hI; have td1 := hI.at_ sB1; have td2 := hI.at_ sB2; have td3 := hI.at_ sB3; have td4 := hI.at_ sB4; skip; go_wp2_with (fail); refine StepPost.mk _ rfl ⟨rfl, ?_⟩; repeat (first | exact Kept.refl _ | assumption | (refine Kept.alloc ?_ _) | (refine Kept.setCell ?_ (by first | omega | (simp; omega) | simp) _) | refine Kept.drew ?_ | refine Kept.drewN ?_ _ | (apply Kept.call; rotate_left; assumption)))); simp only [Act.put, List.setIfInBounds_toArray, List.set_cons_succ, List.set_cons_zero]) | (refine DW.loud (by kernel_rfl) ?_; intro wd hI; have td1 := hI.at_ sB1; have td2 := hI.at_ sB2; have td3 := hI.at_ sB3; have td4 := hI.at_ sB4; skip; go_wp2_with (fail); refine StepPost.loud _ rfl (by repeat (first | exact Kept.refl _ | assumption | (refine Kept.alloc ?_ _) | (refine Kept.setCell ?_ (by first | omega | (simp; omega) | simp) _) | refine Kept.drew ?_ | refine Kept.drewN ?_ _ | (apply Kept.call; rotate_left; assumption))) (fun hkL => ?_); have hkL := hI.call hkL; have hkB := hkB.call hkL; have sB1 := hkL.at_ sB1; have sB2 := hkL.at_ sB2; have sB3 := hkL.at_ sB3; have sB4 := hkL.at_ sB4; simp only [Act.put, List.setIfInBounds_toArray, List.set_cons_succ, List.set_cons_zero]))
            refine DW.nil ?_
            intro wd hI
            have hkd := hkB.call hI
            have td1 := hI.at_ sB1; have td2 := hI.at_ sB2; have td3 := hI.at_ sB3; have td4 := hI.at_ sB4
            go_wp2
            go_roundw
            case rel => exact ⟨k + 1, by omega, by go_num, by rw [HN.out, HY.out]; simp [*], hkd, World.block_lt_of_cell? wd _ td1, td1, td2⟩
            case measure => simp [intOf]; omega
        · rw [hF] at hf HN
          subst hf
          clear hF
          go_wp2_with fail
          refine wp_region_text keepsOne (fun wB => Kept w wB ∧ wB.cell? ⟨w2.heap.size, 0, none⟩ = some (.int .i64 x0) ∧ wB.cell? ⟨w2.heap.size, 1, none⟩ = some (.int .i64 x1) ∧ wB.cell? ⟨b, off + k * 2, none⟩ = some (.int .i64 y0) ∧ wB.cell? ⟨b, off + k * 2 + 1, none⟩ = some (.int .i64 y1)) ?_ (by kernel_rfl) (by kernel_rfl) _ rfl ?_
          · exact ⟨by repeat (first | exact Kept.refl _ | assumption | (refine Kept.alloc ?_ _) | (refine Kept.setCell ?_ (by first | omega | (simp; omega) | simp) _) | refine Kept.drew ?_ | refine Kept.drewN ?_ _ | (apply Kept.call; rotate_left; assumption)), by first | assumption | go_simp, by first | assumption | go_simp, by first | assumption | go_simp, by first | assumption | go_simp⟩
          rintro wB ⟨hkB, sB1, sB2, sB3, sB4⟩
          repeat (first | (apply DW.det; (focus (intro wd hI; have td1 := hI.at_ sB1; have td2 := hI.at_ sB2; have td3 := hI.at_ sB3; have td4 := hI.at_ sB4; skip; go_wp2_with (first | (go_at_call 12; refine (less_is _ _ _ _ false _ (by assumption)).mono ?_; rintro e w6 ⟨rfl, hb6⟩)); refine StepPost.mk _ rfl ⟨rfl, ?_⟩; repeat (first | exact Kept.refl _ | assumption | (refine Kept.alloc ?_ _) | (refine Kept.setCell ?_ (by first | omega | (simp; omega) | simp) _) | refine Kept.drew ?_ | refine Kept.drewN ?_ _ | (apply Kept.call; rotate_left; assumption)))); simp only [Act.put, List.setIfInBounds_toArray, List.set_cons_succ, List.set_cons_zero]) | (refine DW.loud (by kernel_rfl) ?_; intro wd hI; have td1 := hI.at_ sB1; have td2 := hI.at_ sB2; have td3 := hI.at_ sB3; have td4 := hI.at_ sB4; skip; go_wp2_with (first | (go_at_call 12; refine (less_is _ _ _ _ false _ (by assumption)).mono ?_; rintro e w6 ⟨rfl, hb6⟩)); refine StepPost.loud _ rfl (by repeat (first | exact Kept.refl _ | assumption | (refine Kept.alloc ?_ _) | (refine Kept.setCell ?_ (by first | omega | (simp; omega) | simp) _) | refine Kept.drew ?_ | refine Kept.drewN ?_ _ | (apply Kept.call; rotate_left; assumption))) (fun hkL => ?_); have hkL := hI.call hkL; have hkB := hkB.call hkL; have sB1 := hkL.at_ sB1; have sB2 := hkL.at_ sB2; have sB3 := hkL.at_ sB3; have sB4 := hkL.at_ sB4; simp only [Act.put, List.setIfInBounds_toArray, List.set_cons_succ, List.set_cons_zero]))
          refine DW.nil ?_
          intro wd hI
          have hkd := hkB.call hI
          have td1 := hI.at_ sB1; have td2 := hI.at_ sB2; have td3 := hI.at_ sB3; have td4 := hI.at_ sB4
          go_wp2_with fail
          refine wp_region_text keepsOne (fun wB => Kept w wB ∧ wB.cell? ⟨w2.heap.size, 0, none⟩ = some (.int .i64 x0) ∧ wB.cell? ⟨w2.heap.size, 1, none⟩ = some (.int .i64 x1) ∧ wB.cell? ⟨b, off + k * 2, none⟩ = some (.int .i64 y0) ∧ wB.cell? ⟨b, off + k * 2 + 1, none⟩ = some (.int .i64 y1)) ?_ (by kernel_rfl) (by kernel_rfl) _ rfl ?_
          · exact ⟨by repeat (first | exact Kept.refl _ | assumption | (refine Kept.alloc ?_ _) | (refine Kept.setCell ?_ (by first | omega | (simp; omega) | simp) _) | refine Kept.drew ?_ | refine Kept.drewN ?_ _ | (apply Kept.call; rotate_left; assumption)), by first | assumption | go_simp, by first | assumption | go_simp, by first | assumption | go_simp, by first | assumption | go_simp⟩
          rintro wB ⟨hkB, sB1, sB2, sB3, sB4⟩
          repeat (first | (apply DW.det; (focus (intro wd hI; have td1 := hI.at_ sB1; have td2 := hI.at_ sB2; have td3 := hI.at_ sB3; have td4 := hI.at_ sB4; skip; go_wp2_with (fail); refine StepPost.mk _ rfl ⟨rfl, ?_⟩; repeat (first | exact Kept.refl _ | assumption | (refine Kept.alloc ?_ _) | (refine Kept.setCell ?_ (by first | omega | (simp; omega) | simp) _) | refine Kept.drew ?_ | refine Kept.drewN ?_ _ | (apply Kept.call; rotate_left; assumption)))); simp only [Act.put, List.setIfInBounds_toArray, List.set_cons_succ, List.set_cons_zero]) | (refine DW.loud (by kernel_rfl) ?_; intro wd hI; have td1 := hI.at_ sB1; have td2 := hI.at_ sB2; have td3 := hI.at_ sB3; have td4 := hI.at_ sB4; skip; go_wp2_with (fail); refine StepPost.loud _ rfl (by repeat (first | exact Kept.refl _ | assumption | (refine Kept.alloc ?_ _) | (refine Kept.setCell ?_ (by first | omega | (simp; omega) | simp) _) | refine Kept.drew ?_ | refine Kept.drewN ?_ _ | (apply Kept.call; rotate_left; assumption))) (fun hkL => ?_); have hkL := hI.call hkL; have hkB := hkB.call hkL; have sB1 := hkL.at_ sB1; have sB2 := hkL.at_ sB2; have sB3 := hkL.at_ sB3; have sB4 := hkL.at_ sB4; simp only [Act.put, List.setIfInBounds_toArray, List.set_cons_succ, List.set_cons_zero]))
          refine DW.nil ?_
          intro wd hI
          have hkd := hkB.call hI
          have td1 := hI.at_ sB1; have td2 := hI.at_ sB2; have td3 := hI.at_ sB3; have td4 := hI.at_ sB4
          go_wp2
          go_roundw
          case rel => exact ⟨k + 1, by omega, by go_num, by rw [HN.out, HY.out]; simp [*], hkd, World.block_lt_of_cell? wd _ td1, td1, td2⟩
          case measure => simp [intOf]; omega
      · have hT : decide ((x0, x1) = (0, 0) ∨ (x0, x1) ∈ xs.take k) = true := by
          rw [List.take_of_length_le (by have := HL.out; omega)]
          have := maxOf_mem xs
          rw [HX.out] at this
          simpa using this
        rw [hT] at hf
        subst hf
        clear hT
        have HXX : Hid (maxOf ((x0, x1) :: xs) = (x0, x1)) := by unfold Hid; rw [← HX.out]; exact maxOf_again xs
        have hown := own_new wr 24 [.int .i64 x0, .int .i64 x1] 1 2 rfl (by decide)
        have hSr := (HS.out.keep hkept).2.2 (by omega)
        obtain ⟨i0, hi, hz0, hz1, hz2⟩ := info_parts info24
        have hge : ¬ (k : Int) < ((8 : Nat) : Int) := by omega
        have HC2 : Hid (∀ j u, (cellsOf xs)[j]? = some u → (wr.alloc (.cells #[.int .i64 x0, .int .i64 x1] 24)).cell? ((⟨b, off, none⟩ : Addr).add j) = some u) := by
          intro j u hu
          have hj : j < 8 * 2 := by obtain ⟨hlt2, _⟩ := List.getElem?_eq_some_iff.1 hu; have h3 := cellsOf_len xs; have := HL.out; omega
          have h4 := cellsOf_at xs (j / 2) (by have := HL.out; omega)
          have h5 := HC.out (j / 2) (by omega)
          have hk2 : Kept w (wr.alloc (.cells #[.int .i64 x0, .int .i64 x1] 24)) := hkept.alloc _
          have : j = j / 2 * 2 ∨ j = j / 2 * 2 + 1 := by omega
          have ea : ((⟨b, off, none⟩ : Addr).add j) = ⟨b, off + j, none⟩ := by simp [Addr.add]
          rw [ea]
          rcases this with h | h
          · rw [h] at hu ⊢; rw [h4.1] at hu; rw [← hu]; exact hk2.at_ h5.1
          · rw [h] at hu ⊢; rw [h4.2] at hu; rw [← hu]; rw [show off + (j / 2 * 2 + 1) = off + j / 2 * 2 + 1 by omega]; exact hk2.at_ h5.2
        go_wp2_with (at_builtin; refine wpList_append_own _ rfl _ _ 33 rfl wr.heap.size 24 i0 (.agg #[.int .i64 0, .int .i64 0]) 2 16 Try.underlying33 hi hz0 hz1 hz2 rfl (by decide) _ 1 [.int .i64 x0, .int .i64 x1] rfl hown ⟨b, off, none⟩ 8 _ (cellsOf xs) rfl (by rw [cellsOf_len]; have := HL.out; omega) HC2.out (cellsOf_one xs) (by unfold maxLen; omega) (by omega) (by simp) ?_; intro v3 w3 hown3 hgrow3 _)
        obtain ⟨A3, c3, hv3, hst3⟩ := StampsAt.of_own (xs := (x0, x1) :: xs) hown3 (by unfold maxLen; omega)
        have hk3 : Kept wr w3 := Kept.grown ((Kept.refl wr).alloc _) hgrow3 (by intro g hg; have h9 : some wr.heap.size = some g := hg; injection h9 with h9; exact Nat.le_of_eq h9)
        have hk4 : Kept w w3 := hkept.call hk3
        have r0 := hk3.at_ q0
        have r1 := hk3.at_ q1
        rw [hv3]
        clear hown3 hgrow3 hv3 hown HC2 hSr
        refine wp_region_text keepsOne (fun wB => Kept w wB ∧ Kept w3 wB ∧ wB.cell? ⟨w2.heap.size, 0, none⟩ = some (.int .i64 x0) ∧ wB.cell? ⟨w2.heap.size, 1, none⟩ = some (.int .i64 x1)) ?_ (by kernel_rfl) (by kernel_rfl) _ rfl ?_
        · exact ⟨by repeat (first | exact Kept.refl _ | assumption | (refine Kept.alloc ?_ _) | (refine Kept.setCell ?_ (by first | omega | (simp; omega) | simp) _) | refine Kept.drew ?_ | refine Kept.drewN ?_ _ | (apply Kept.call; rotate_left; assumption)), by repeat (first | exact Kept.refl _ | assumption | (refine Kept.alloc ?_ _) | (refine Kept.setCell ?_ (by first | omega | (simp; omega) | simp) _) | refine Kept.drew ?_ | refine Kept.drewN ?_ _ | (apply Kept.call; rotate_left; assumption)), by first | assumption | go_simp, by first | assumption | go_simp⟩
        rintro wB ⟨hkB, hkB1, sB1, sB2⟩
        repeat (first | (apply DW.det; (focus (intro wd hI; have hkd1 := hkB1.call hI; have td1 := hI.at_ sB1; have td2 := hI.at_ sB2; skip; go_wp2_with (first | (go_at_call 14; refine (max_is _ _ _ ((x0, x1) :: xs) x0 x1 _ (hst3.keep hkd1) HXX.out).mono ?_; rintro e w6 ⟨rfl, hb6⟩)); refine StepPost.mk _ rfl ⟨rfl, ?_⟩; repeat (first | exact Kept.refl _ | assumption | (refine Kept.alloc ?_ _) | (refine Kept.setCell ?_ (by first | omega | (simp; omega) | simp) _) | refine Kept.drew ?_ | refine Kept.drewN ?_ _ | (apply Kept.call; rotate_left; assumption)))); simp only [Act.put, List.setIfInBounds_toArray, List.set_cons_succ, List.set_cons_zero]) | (refine DW.loud (by kernel_rfl) ?_; intro wd hI; have hkd1 := hkB1.call hI; have td1 := hI.at_ sB1; have td2 := hI.at_ sB2; skip; go_wp2_with (first | (go_at_call 14; refine (max_is _ _ _ ((x0, x1) :: xs) x0 x1 _ (hst3.keep hkd1) HXX.out).mono ?_; rintro e w6 ⟨rfl, hb6⟩)); refine StepPost.loud _ rfl (by repeat (first | exact Kept.refl _ | assumption | (refine Kept.alloc ?_ _) | (refine Kept.setCell ?_ (by first | omega | (simp; omega) | simp) _) | refine Kept.drew ?_ | refine Kept.drewN ?_ _ | (apply Kept.call; rotate_left; assumption))) (fun hkL => ?_); have hkL := hI.call hkL; have hkB := hkB.call hkL; have hkB1 := hkB1.call hkL; have sB1 := hkL.at_ sB1; have sB2 := hkL.at_ sB2; simp only [Act.put, List.setIfInBounds_toArray, List.set_cons_succ, List.set_cons_zero]))
        refine DW.nil ?_
        intro wd hI
        have hkd := hkB.call hI
        have hkd1 := hkB1.call hI; have td1 := hI.at_ sB1; have td2 := hI.at_ sB2
        go_wp2
        go_ret
        exact ⟨rfl, hkd⟩

set_option maxHeartbeats 4000000 in
theorem stampMax_coren (b off n c : Nat) (xs : List (Int × Int)) (x0 x1 : Int) (w : World) (h0 : 0 < n) (hn : n ≤ 8) (hnc : n ≤ c) (hmx : n ≤ 9223372036854775807) (hl : xs.length = n)
    (hc : ∀ i, i < n → w.cell? ⟨b, off + i * 2, none⟩ = some (.int .i64 (xs[i]?.getD (0, 0)).1) ∧ w.cell? ⟨b, off + i * 2 + 1, none⟩ = some (.int .i64 (xs[i]?.getD (0, 0)).2)) (hx : maxOf xs = (x0, x1)) :
    Calls Try.prog 6 #[.slice (some ⟨b, off, none⟩) n c] w fun e w' => e = .returned (.bool true) ∧ Kept w w' := by
  have HS : Hid (StampsAt w (some ⟨b, off, none⟩) n xs) := ⟨hl, by unfold maxLen; omega, fun _ => ⟨b, off, rfl, hc⟩⟩
  have hb : b < w.heap.size := World.block_lt_of_cell? w _ (hc 0 (by omega)).1
  have HX := Lib.hid hx
  have HL := Lib.hid hl
  have HC := Lib.hid hc
  clear hx hl hc
  go_enter Try.func6, Try.ntmps6
  go_wp2_with (first | (go_at_call 10; refine (awake_any _).mono ?_; rintro e w1 ⟨rfl, hb1⟩; have hc1 := hb1.cell; have hf1 := hb1.frozen; have hz1 := hb1.size; (try simp only [World.size_alloc, World.size_setCell, World.size_drew] at hz1 hc1 hf1)) | (go_at_call 14; refine (max_is _ _ _ xs x0 x1 _ (HS.out.keep (by repeat (first | exact Kept.refl _ | assumption | (refine Kept.alloc ?_ _) | (refine Kept.setCell ?_ (by first | omega | (simp; omega) | simp) _) | refine Kept.drew ?_ | refine Kept.drewN ?_ _ | (apply Kept.call; rotate_left; assumption)))) HX.out).mono ?_; rintro e w2 ⟨rfl, hb2⟩; have hc2 := hb2.cell; have hf2 := hb2.frozen; have hz2 := hb2.size; (try simp only [World.size_alloc, World.size_setCell, World.size_drew] at hz2 hc2 hf2)))
  all_goals
    have HF0 : Hid (decide ((x0, x1) = ((0 : Int), (0 : Int)) ∨ (x0, x1) ∈ xs.take 0) = (decide (x0 = 0) && decide (x1 = 0))) := by unfold Hid; simp [Bool.decide_and]
    go_loopw [6, 7] (fun f i wr => ∃ k : Nat, k ≤ n ∧ i = .int .i64 k ∧ f = .bool (decide ((x0, x1) = (0, 0) ∨ (x0, x1) ∈ xs.take k)) ∧ Kept w wr ∧ w2.heap.size < wr.heap.size ∧
      wr.cell? ⟨w2.heap.size, 0, none⟩ = some (.int .i64 x0) ∧ wr.cell? ⟨w2.heap.size, 1, none⟩ = some (.int .i64 x1)) (fun _ i _ => n - (intOf i).toNat)
    case atStart =>
      refine ⟨0, by omega, rfl, ?_, by repeat (first | exact Kept.refl _ | assumption | (refine Kept.alloc ?_ _) | (refine Kept.setCell ?_ (by first | omega | (simp; omega) | simp) _) | refine Kept.drew ?_ | refine Kept.drewN ?_ _ | (apply Kept.call; rotate_left; assumption)), by first | (simp; omega) | simp, by go_simp, by go_simp⟩
      rw [HF0.out]; simp [*]
    case round =>
      obtain ⟨k, hk, rfl, hf, hkept, hsz, q0, q1⟩ := hrel
      clear HF0
      (try clear ‹x0 = 0›); (try clear ‹x1 = 0›)
      by_cases hlt : k < n
      · obtain ⟨y0, y1, HY⟩ : ∃ y0 y1, Hid (xs[k]?.getD (0, 0) = (y0, y1)) := ⟨_, _, rfl⟩
        obtain ⟨z0, z1⟩ := HC.out k hlt
        rw [HY.out, ← hkept.cell _ _ hb] at z0 z1
        have hle : lessB x0 x1 y0 y1 = false := by
          have := maxOf_ge xs (y0, y1) (by rw [← HY.out, List.getElem?_eq_getElem (by have := HL.out; omega)]; simp)
          rw [HX.out] at this; exact this
        have HN := Lib.hid (found_snoc xs (x0, x1) k (by have := HL.out; omega))
        have hkz : (k : Int) < ((n : Nat) : Int) := by omega
        have hk0 : (0 : Int) ≤ (k : Int) := by omega
        cases hF : decide ((x0, x1) = (0, 0) ∨ (x0, x1) ∈ xs.take k)
        · rw [hF] at hf HN
          subst hf
          clear hF
          by_cases e0 : y0 = x0
          · subst e0
            by_cases e1 : y1 = x1
            · subst e1
              go_wp2_with fail
              refine wp_region_text keepsOne (fun wB => Kept w wB ∧ wB.cell? ⟨w2.heap.size, 0, none⟩ = some (.int .i64 y0) ∧ wB.cell? ⟨w2.heap.size, 1, none⟩ = some (.int .i64 y1) ∧ wB.cell? ⟨b, off + k * 2, none⟩ = some (.int .i64 y0) ∧ wB.cell? ⟨b, off + k * 2 + 1, none⟩ = some (.int .i64 y1)) ?_ (by kernel_rfl) (by kernel_rfl) _ rfl ?_
              · exact ⟨by repeat (first | exact Kept.refl _ | assumption | (refine Kept.alloc ?_ _) | (refine Kept.setCell ?_ (by first | omega | (simp; omega) | simp) _) | refine Kept.drew ?_ | refine Kept.drewN ?_ _ | (apply Kept.call; rotate_left; assumption)), by first | assumption | go_simp, by first | assumption | go_simp, by first | assumption | go_simp, by first | assumption | go_simp⟩
              rintro wB ⟨hkB, sB1, sB2, sB3, sB4⟩
              repeat (first | (apply DW.det; (focus (intro wd hI; have td1 := hI.at_ sB1; have td2 := hI.at_ sB2; have td3 := hI.at_ sB3; have td4 := hI.at_ sB4; skip; go_wp2_with (first | (go_at_call 12; refine (less_is _ _ _ _ false _ (by assumption)).mono ?_; rintro e w6 ⟨rfl, hb6⟩)); refine StepPost.mk _ rfl ⟨rfl, ?_⟩; repeat (first | exact Kept.refl _ | assumption | (refine Kept.alloc ?_ _) | (refine Kept.setCell ?_ (by first | omega | (simp; omega) | simp) _) | refine Kept.drew ?_ | refine Kept.drewN ?_ _ | (apply Kept.call; rotate_left; assumption)))); simp only [Act.put, List.setIfInBounds_toArray, List.set_cons_succ, List.set_cons_zero]) | (refine DW.loud (by kernel_rfl) ?_; intro wd hI; have td1 := hI.at_ sB1; have td2 := hI.at_ sB2; have td3 := hI.at_ sB3; have td4 := hI.at_ sB4; skip; go_wp2_with (first | (go_at_call 12; refine (less_is _ _ _ _ false _ (by assumption)).mono ?_; rintro e w6 ⟨rfl, hb6⟩)); refine StepPost.loud _ rfl (by repeat (first | exact Kept.refl _ | assumption | (refine Kept.alloc ?_ _) | (refine Kept.setCell ?_ (by first | omega | (simp; omega) | simp) _) | refine Kept.drew ?_ | refine Kept.drewN ?_ _ | (apply Kept.call; rotate_left; assumption))) (fun hkL => ?_); have hkL := hI.call hkL; have hkB := hkB.call hkL; have sB1 := hkL.at_ sB1; have sB2 := hkL.at_ sB2; have sB3 := hkL.at_ sB3; have sB4 := hkL.at_ sB4; simp only [Act.put, List.setIfInBounds_toArray, List.set_cons_succ, List.set_cons_zero]))
              refine DW.nil ?_
              intro wd hI
              have hkd := hkB.call hI
              have td1 := hI.at_ sB1; have td2 := hI.at_ sB2; have td3 := hI.at_ sB3; have td4 := hI.at_ sB4
              go_wp2_with fail
              refine wp_region_text keepsOne (fun wB => Kept w wB ∧ wB.cell? ⟨w2.heap.size, 0, none⟩ = some (.int .i64 y0) ∧ wB.cell? ⟨w2.heap.size, 1, none⟩ = some (.int .i64 y1) ∧ wB.cell? ⟨b, off + k * 2, none⟩ = some (.int .i64 y0) ∧ wB.cell? ⟨b, off + k * 2 + 1, none⟩ = some (.int .i64 y1)) ?_ (by kernel_rfl) (by kernel_rfl) _ rfl ?_
              · exact ⟨by repeat (first | exact Kept.refl _ | assumption | (refine Kept.alloc ?_ _) | (refine Kept.setCell ?_ (by first | omega | (simp; omega) | simp) _) | refine Kept.drew ?_ | refine Kept.drewN ?_ _ | (apply Kept.call; rotate_left; assumption)), by first | assumption | go_simp, by first | assumption | go_simp, by first | assumption | go_simp, by first | assumption | go_simp⟩
              rintro wB ⟨hkB, sB1, sB2, sB3, sB4⟩
              repeat (first | (apply DW.det; (focus (intro wd hI; have td1 := hI.at_ sB1; have td2 := hI.at_ sB2; have td3 := hI.at_ sB3; have td4 := hI.at_ sB4; skip; go_wp2_with (fail); refine StepPost.mk _ rfl ⟨rfl, ?_⟩; repeat (first | exact Kept.refl _ | assumption | (refine Kept.alloc ?_ _) | (refine Kept.setCell ?_ (by first | omega | (simp; omega) | simp) _) | refine Kept.drew ?_ | refine Kept.drewN ?_ _ | (apply Kept.call; rotate_left; assumption)))); simp only [Act.put, List.setIfInBounds_toArray, List.set_cons_succ, List.set_cons_zero]) | (refine DW.loud (by kernel_rfl) ?_; intro wd hI; have td1 := hI.at_ sB1; have td2 := hI.at_ sB2; have td3 := hI.at_ sB3; have td4 := hI.at_ sB4; skip; go_wp2_with (fail); refine StepPost.loud _ rfl (by repeat (first | exact Kept.refl _ | assumption | (refine Kept.alloc ?_ _) | (refine Kept.setCell ?_ (by first | omega | (simp; omega) | simp) _) | refine Kept.drew ?_ | refine Kept.drewN ?_ _ | (apply Kept.call; rotate_left; assumption))) (fun hkL => ?_); have hkL := hI.call hkL; have hkB := hkB.call hkL; have sB1 := hkL.at_ sB1; have sB2 := hkL.at_ sB2; have sB3 := hkL.at_ sB3; have sB4 := hkL.at_ sB4; simp only [Act.put, List.setIfInBounds_toArray, List.set_cons_succ, List.set_cons_zero]))
              refine DW.nil ?_
              intro wd hI
              have hkd := hkB.call hI
              have td1 := hI.at_ sB1; have td2 := hI.at_ sB2; have td3 := hI.at_ sB3; have td4 := hI.at_ sB4
              go_wp2
              go_roundw
              case rel => exact ⟨k + 1, by omega, by go_num, by rw [HN.out, HY.out]; simp [*], hkd, World.block_lt_of_cell? wd _ td1, td1, td2⟩
              case measure => simp [intOf]; omega
            · go_wp2_with fail
              refine wp_region_text keepsOne (fun wB => Kept w wB ∧ wB.cell? ⟨w2.heap.size, 0, none⟩ = some (.int .i64 y0) ∧ wB.cell? ⟨w2.heap.size, 1, none⟩ = some (.int .i64 x1) ∧ wB.cell? ⟨b, off + k * 2, none⟩ = some (.int .i64 y0) ∧ wB.cell? ⟨b, off + k * 2 + 1, none⟩ = some (.int .i64 y1)) ?_ (by kernel_rfl) (by kernel_rfl) _ rfl ?_
              · exact ⟨by repeat (first | exact Kept.refl _ | assumption | (refine Kept.alloc ?_ _) | (refine Kept.setCell ?_ (by first | omega | (simp; omega) | simp) _) | refine Kept.drew ?_ | refine Kept.drewN ?_ _ | (apply Kept.call; rotate_left; assumption)), by first | assumption | go_simp, by first | assumption | go_simp, by first | assumption | go_simp, by first | assumption | go_simp⟩
              rintro wB ⟨hkB, sB1, sB2, sB3, sB4⟩
              repeat (first | (apply DW.det; (focus (intro wd hI; have td1 := hI.at_ sB1; have td2 := hI.at_ sB2; have td3 := hI.at_ sB3; have td4 := hI.at_ sB4; skip; go_wp2_with (first | (go_at_call 12; refine (less_is _ _ _ _ false _ (by assumption)).mono ?_; rintro e w6 ⟨rfl, hb6⟩)); refine StepPost.mk _ rfl ⟨rfl, ?_⟩; repeat (first | exact Kept.refl _ | assumption | (refine Kept.alloc ?_ _) | (refine Kept.setCell ?_ (by first | omega | (simp; omega) | simp) _) | refine Kept.drew ?_ | refine Kept.drewN ?_ _ | (apply Kept.call; rotate_left; assumption)))); simp only [Act.put, List.setIfInBounds_toArray, List.set_cons_succ, List.set_cons_zero]) | (refine DW.loud (by kernel_rfl) ?_; intro wd hI; have td1 := hI.at_ sB1; have td2 := hI.at_ sB2; have td3 := hI.at_ sB3; have td4 := hI.at_ sB4; skip; go_wp2_with (first | (go_at_call 12; refine (less_is _ _ _ _ false _ (by assumption)).mono ?_; rintro e w6 ⟨rfl, hb6⟩)); refine StepPost.loud _ rfl (by repeat (first | exact Kept.refl _ | assumption | (refine Kept.alloc ?_ _) | (refine Kept.setCell ?_ (by first | omega | (simp; omega) | simp) _) | refine Kept.drew ?_ | refine Kept.drewN ?_ _ | (apply Kept.call; rotate_left; assumption))) (fun hkL => ?_); have hkL := hI.call hkL; have hkB := hkB.call hkL; have sB1 := hkL.at_ sB1; have sB2 := hkL.at_ sB2; have sB3 := hkL.at_ sB3; have sB4 := hkL.at_ sB4; simp only [Act.put, List.setIfInBounds_toArray, List.set_cons_succ, List.set_cons_zero]))
              refine DW.nil ?_
              intro wd hI
              have hkd := hkB.call hI
              have td1 := hI.at_ sB1; have td2 := hI.at_ sB2; have td3 := hI.at_ sB3; have td4 := hI.at_ sB4
              go_wp2_with fail
              refine wp_region_text keepsOne (fun wB => Kept w wB ∧ wB.cell? ⟨w2.heap.size, 0, none⟩ = some (.int .i64 y0) ∧ wB.cell? ⟨w2.heap.size, 1, none⟩ = some (.int .i64 x1) ∧ wB.cell? ⟨b, off + k * 2, none⟩ = some (.int .i64 y0) ∧ wB.cell? ⟨b, off + k * 2 + 1, none⟩ = some (.int .i64 y1)) ?_ (by kernel_rfl) (by kernel_rfl) _ rfl ?_
              · exact ⟨by repeat (first | exact Kept.refl _ | assumption | (refine Kept.alloc ?_ _) | (refine Kept.setCell ?_ (by first | omega | (simp; omega) | simp) _) | refine Kept.drew ?_ | refine Kept.drewN ?_ _ | (apply Kept.call; rotate_left; assumption)), by first | assumption | go_simp, by first | assumption | go_simp, by first | assumption | go_simp, by first | assumption | go_simp⟩
              rintro wB ⟨hkB, sB1, sB2, sB3, sB4⟩
              repeat (first | (apply DW.det; (focus (intro wd hI; have td1 := hI.at_ sB1; have td2 := hI.at_ sB2; have td3 := hI.at_ sB3; have td4 := hI.at_ sB4; skip; go_wp2_with (fail); refine StepPost.mk _ rfl ⟨rfl, ?_⟩; repeat (first | exact Kept.refl _ | assumption | (refine Kept.alloc ?_ _) | (refine Kept.setCell ?_ (by first | omega | (simp; omega) | simp) _) | refine Kept.drew ?_ | refine Kept.drewN ?_ _ | (apply Kept.call; rotate_left; assumption)))); simp only [Act.put, List.setIfInBounds_toArray, List.set_cons_succ, List.set_cons_zero]) | (refine DW.loud (by kernel_rfl) ?_; intro wd hI; have td1 := hI.at_ sB1; have td2 := hI.at_ sB2; have td3 := hI.at_ sB3; have td4 := hI.at_ sB4; skip; go_wp2_with (fail); refine StepPost.loud _ rfl (by repeat (first | exact Kept.refl _ | assumption | (refine Kept.alloc ?_ _) | (refine Kept.setCell ?_ (by first | omega | (simp; omega) | simp) _) | refine Kept.drew ?_ | refine Kept.drewN ?_ _ | (apply Kept.call; rotate_left; assumption))) (fun hkL => ?_); have hkL := hI.call hkL; have hkB := hkB.call hkL; have sB1 := hkL.at_ sB1; have sB2 := hkL.at_ sB2; have sB3 := hkL.at_ sB3; have sB4 := hkL.at_ sB4; simp only [Act.put, List.setIfInBounds_toArray, List.set_cons_succ, List.set_cons_zero]))
              refine DW.nil ?_
              intro wd hI
              have hkd := hkB.call hI
              have td1 := hI.at_ sB1; have td2 := hI.at_ sB2; have td3 := hI.at_ sB3; have td4 := hI.at_ sB4
              go_wp2
              go_roundw
              case rel => exact ⟨k + 1, by omega, by go_num, by rw [HN.out, HY.out]; simp [*], hkd, World.block_lt_of_cell? wd _ td1, td1, td2⟩
              case measure => simp [intOf]; omega
          · go_wp2_with fail
            refine wp_region_text keepsOne (fun wB => Kept w wB ∧ wB.cell? ⟨w2.heap.size, 0, none⟩ = some (.int .i64 x0) ∧ wB.cell? ⟨w2.heap.size, 1, none⟩ = some (.int .i64 x1) ∧ wB.cell? ⟨b, off + k * 2, none⟩ = some (.int .i64 y0) ∧ wB.cell? ⟨b, off + k * 2 + 1, none⟩ = some (.int .i64 y1)) ?_ (by kernel_rfl) (by kernel_rfl) _ rfl ?_
            · exact ⟨by repeat (first | exact Kept.refl _ | assumption | (refine Kept.alloc ?_ _) | (refine Kept.setCell ?_ (by first | omega | (simp; omega) | simp) _) | refine Kept.drew ?_ | refine Kept.drewN ?_ _ | (apply Kept.call; rotate_left; assumption)), by first | assumption | go_simp, by first | assumption | go_simp, by first | assumption | go_simp, by first | assumption | go_simp⟩
            rintro wB ⟨hkB, sB1, sB2, sB3, sB4⟩
            repeat (first | (apply DW.det; (focus (intro wd hI; have td1 := hI.at_ sB1; have td2 := hI.at_ sB2; have td3 := hI.at_ sB3; have td4 := hI.at_ sB4; skip; go_wp2_with (first | (go_at_call 12; refine (less_is _ _ _ _ false _ (by assumption)).mono ?_; rintro e w6 ⟨rfl, hb6⟩)); refine StepPost.mk _ rfl ⟨rfl, ?_⟩; repeat (first | exact Kept.refl _ | assumption | (refine Kept.alloc ?_ _) | (refine Kept.setCell ?_ (by first | omega | (simp; omega) | simp) _) | refine Kept.drew ?_ | refine Kept.drewN ?_ _ | (apply Kept.call; rotate_left; assumption)))); simp only [Act.put, List.setIfInBounds_toArray, List.set_cons_succ, List.set_cons_zero]) | (refine DW.loud (by kernel_rfl) ?_; intro wd hI; have td1 := hI.at_ sB1; have td2 := hI.at_ sB2; have td3 := hI.at_ sB3; have td4 := hI.at_ sB4; skip; go_wp2_with (first | (go_at_call 12; refine (less_is _ _ _ _ false _ (by assumption)).mono ?_; rintro e w6 ⟨rfl, hb6⟩)); refine StepPost.loud _ rfl (by repeat (first | exact Kept.refl _ | assumption | (refine Kept.alloc ?_ _) | (refine Kept.setCell ?_ (by first | omega | (simp; omega) | simp) _) | refine Kept.drew ?_ | refine Kept.drewN ?_ _ | (apply Kept.call; rotate_left; assumption))) (fun hkL => ?_); have hkL := hI.call hkL; have hkB := hkB.call hkL; have sB1 := hkL.at_ sB1; have sB2 := hkL.at_ sB2; have sB3 := hkL.at_ sB3; have sB4 := hkL.at_ sB4; simp only [Act.put, List.setIfInBounds_toArray, List.set_cons_succ, List.set_cons_zero]))
            refine DW.nil ?_
            intro wd hI
            have hkd := hkB.call hI
            have td1 := hI.at_ sB1; have td2 := hI.at_ sB2; have td3 := hI.at_ sB3; have td4 := hI.at_ sB4
            go_wp2_with fail
            refine wp_region_text keepsOne (fun wB => Kept w wB ∧ wB.cell? ⟨w2.heap.size, 0, none⟩ = some (.int .i64 x0) ∧ wB.cell? ⟨w2.heap.size, 1, none⟩ = some (.int .i64 x1) ∧ wB.cell? ⟨b, off + k * 2, none⟩ = some (.int .i64 y0) ∧ wB.cell? ⟨b, off + k * 2 + 1, none⟩ = some (.int .i64 y1)) ?_ (by kernel_rfl) (by kernel_rfl) _ rfl ?_
            · exact ⟨by repeat (first | exact Kept.refl _ | assumption | (refine Kept.alloc ?_ _) | (refine Kept.setCell ?_ (by first | omega | (simp; omega) | simp) _) | refine Kept.drew ?_ | refine Kept.drewN ?_ _ | (apply Kept.call; rotate_left; assumption)), by first | assumption | go_simp, by first | assumption | go_simp, by first | assumption | go_simp, by first | assumption | go_simp⟩
            rintro wB ⟨hkB, sB1, sB2, sB3, sB4⟩
            repeat (first | (apply DW.det; (focus (intro wd hI; have td1 := hI.at_ sB1; have td2 := hI.at_ sB2; have td3 := hI.at_ sB3; have td4 := hI.at_ sB4; skip; go_wp2_with (fail); refine StepPost.mk _ rfl ⟨rfl, ?_⟩; repeat (first | exact Kept.refl _ | assumption | (refine Kept.alloc ?_ _) | (refine Kept.setCell ?_ (by first | omega | (simp; omega) | simp) _) | refine Kept.drew ?_ | refine Kept.drewN ?_ _ | (apply Kept.call; rotate_left; assumption)))); simp only [Act.put, List.setIfInBounds_toArray, List.set_cons_succ, List.set_cons_zero]) | (refine DW.loud (by kernel_rfl) ?_; intro wd hI; have td1 := hI.at_ sB1; have td2 := hI.at_ sB2; have td3 := hI.at_ sB3; have td4 := hI.at_ sB4; skip; go_wp2_with (fail); refine StepPost.loud _ rfl (by repeat (first | exact Kept.refl _ | assumption | (refine Kept.alloc ?_ _) | (refine Kept.setCell ?_ (by first | omega | (simp; omega) | simp) _) | refine Kept.drew ?_ | refine Kept.drewN ?_ _ | (apply Kept.call; rotate_left; assumption))) (fun hkL => ?_); have hkL := hI.call hkL; have hkB := hkB.call hkL; have sB1 := hkL.at_ sB1; have sB2 := hkL.at_ sB2; have sB3 := hkL.at_ sB3; have sB4 := hkL.at_ sB4; simp only [Act.put, List.setIfInBounds_toArray, List.set_cons_succ, List.set_cons_zero]))
            refine DW.nil ?_
            intro wd hI
            have hkd := hkB.call hI
            have td1 := hI.at_ sB1; have td2 := hI.at_ sB2; have td3 := hI.at_ sB3; have td4 := hI.at_ sB4
            go_wp2
            go_roundw
            case rel => exact ⟨k + 1, by omega, by go_num, by rw [HN.out, HY.out]; simp [*], hkd, World.block_lt_of_cell? wd _ td1, td1, td2⟩
            case measure => simp [intOf]; omega
        · rw [hF] at hf HN
          subst hf
          clear hF
          go_wp2_with fail
          refine wp_region_text keepsOne (fun wB => Kept w wB ∧ wB.cell? ⟨w2.heap.size, 0, none⟩ = some (.int .i64 x0) ∧ wB.cell? ⟨w2.heap.size, 1, none⟩ = some (.int .i64 x1) ∧ wB.cell? ⟨b, off + k * 2, none⟩ = some (.int .i64 y0) ∧ wB.cell? ⟨b, off + k * 2 + 1, none⟩ = some (.int .i64 y1)) ?_ (by kernel_rfl) (by kernel_rfl) _ rfl ?_
          · exact ⟨by repeat (first | exact Kept.refl _ | assumption | (refine Kept.alloc ?_ _) | (refine Kept.setCell ?_ (by first | omega | (simp; omega) | simp) _) | refine Kept.drew ?_ | refine Kept.drewN ?_ _ | (apply Kept.call; rotate_left; assumption)), by first | assumption | go_simp, by first | assumption | go_simp, by first | assumption | go_simp, by first | assumption | go_simp⟩
          rintro wB ⟨hkB, sB1, sB2, sB3, sB4⟩
          repeat (first | (apply DW.det; (focus (intro wd hI; have td1 := hI.at_ sB1; have td2 := hI.at_ sB2; have td3 := hI.at_ sB3; have td4 := hI.at_ sB4; skip; go_wp2_with (first | (go_at_call 12; refine (less_is _ _ _ _ false _ (by assumption)).mono ?_; rintro e w6 ⟨rfl, hb6⟩)); refine StepPost.mk _ rfl ⟨rfl, ?_⟩; repeat (first | exact Kept.refl _ | assumption | (refine Kept.alloc ?_ _) | (refine Kept.setCell ?_ (by first | omega | (simp; omega) | simp) _) | refine Kept.drew ?_ | refine Kept.drewN ?_ _ | (apply Kept.call; rotate_left; assumption)))); simp only [Act.put, List.setIfInBounds_toArray, List.set_cons_succ, List.set_cons_zero]) | (refine DW.loud (by kernel_rfl) ?_; intro wd hI; have td1 := hI.at_ sB1; have td2 := hI.at_ sB2; have td3 := hI.at_ sB3; have td4 := hI.at_ sB4; skip; go_wp2_with (first | (go_at_call 12; refine (less_is _ _ _ _ false _ (by assumption)).mono ?_; rintro e w6 ⟨rfl, hb6⟩)); refine StepPost.loud _ rfl (by repeat (first | exact Kept.refl _ | assumption | (refine Kept.alloc ?_ _) | (refine Kept.setCell ?_ (by first | omega | (simp; omega) | simp) _) | refine Kept.drew ?_ | refine Kept.drewN ?_ _ | (apply Kept.call; rotate_left; assumption))) (fun hkL => ?_); have hkL := hI.call hkL; have hkB := hkB.call hkL; have sB1 := hkL.at_ sB1; have sB2 := hkL.at_ sB2; have sB3 := hkL.at_ sB3; have sB4 := hkL.at_ sB4; simp only [Act.put, List.setIfInBounds_toArray, List.set_cons_succ, List.set_cons_zero]))
          refine DW.nil ?_
          intro wd hI
          have hkd := hkB.call hI
          have td1 := hI.at_ sB1; have td2 := hI.at_ sB2; have td3 := hI.at_ sB3; have td4 := hI.at_ sB4
          go_wp2_with fail
          refine wp_region_text keepsOne (fun wB => Kept w wB ∧ wB.cell? ⟨w2.heap.size, 0, none⟩ = some (.int .i64 x0) ∧ wB.cell? ⟨w2.heap.size, 1, none⟩ = some (.int .i64 x1) ∧ wB.cell? ⟨b, off + k * 2, none⟩ = some (.int .i64 y0) ∧ wB.cell? ⟨b, off + k * 2 + 1, none⟩ = some (.int .i64 y1)) ?_ (by kernel_rfl) (by kernel_rfl) _ rfl ?_
          · exact ⟨by repeat (first | exact Kept.refl _ | assumption | (refine Kept.alloc ?_ _) | (refine Kept.setCell ?_ (by first | omega | (simp; omega) | simp) _) | refine Kept.drew ?_ | refine Kept.drewN ?_ _ | (apply Kept.call; rotate_left; assumption)), by first | assumption | go_simp, by first | assumption | go_simp, by first | assumption | go_simp, by first | assumption | go_simp⟩
          rintro wB ⟨hkB, sB1, sB2, sB3, sB4⟩
          repeat (first | (apply DW.det; (focus (intro wd hI; have td1 := hI.at_ sB1; have td2 := hI.at_ sB2; have td3 := hI.at_ sB3; have td4 := hI.at_ sB4; skip; go_wp2_with (fail); refine StepPost.mk _ rfl ⟨rfl, ?_⟩; repeat (first | exact Kept.refl _ | assumption | (refine Kept.alloc ?_ _) | (refine Kept.setCell ?_ (by first | omega | (simp; omega) | simp) _) | refine Kept.drew ?_ | refine Kept.drewN ?_ _ | (apply Kept.call; rotate_left; assumption)))); simp only [Act.put, List.setIfInBounds_toArray, List.set_cons_succ, List.set_cons_zero]) | (refine DW.loud (by kernel_rfl) ?_; intro wd hI; have td1 := hI.at_ sB1; have td2 := hI.at_ sB2; have td3 := hI.at_ sB3; have td4 := hI.at_ sB4; skip; go_wp2_with (fail); refine StepPost.loud _ rfl (by repeat (first | exact Kept.refl _ | assumption | (refine Kept.alloc ?_ _) | (refine Kept.setCell ?_ (by first | omega | (simp; omega) | simp) _) | refine Kept.drew ?_ | refine Kept.drewN ?_ _ | (apply Kept.call; rotate_left; assumption))) (fun hkL => ?_); have hkL := hI.call hkL; have hkB := hkB.call hkL; have sB1 := hkL.at_ sB1; have sB2 := hkL.at_ sB2; have sB3 := hkL.at_ sB3; have sB4 := hkL.at_ sB4; simp only [Act.put, List.setIfInBounds_toArray, List.set_cons_succ, List.set_cons_zero]))
          refine DW.nil ?_
          intro wd hI
          have hkd := hkB.call hI
          have td1 := hI.at_ sB1; have td2 := hI.at_ sB2; have td3 := hI.at_ sB3; have td4 := hI.at_ sB4
          go_wp2
          go_roundw
          case rel => exact ⟨k + 1, by omega, by go_num, by rw [HN.out, HY.out]; simp [*], hkd, World.block_lt_of_cell? wd _ td1, td1, td2⟩
          case measure => simp [intOf]; omega
      · have hT : decide ((x0, x1) = (0, 0) ∨ (x0, x1) ∈ xs.take k) = true := by
          rw [List.take_of_length_le (by have := HL.out; omega)]
          have := maxOf_mem xs
          rw [HX.out] at this
          simpa using this
        rw [hT] at hf
        subst hf
        clear hT
        have HXX : Hid (maxOf ((x0, x1) :: xs) = (x0, x1)) := by unfold Hid; rw [← HX.out]; exact maxOf_again xs
        have hown := own_new wr 24 [.int .i64 x0, .int .i64 x1] 1 2 rfl (by decide)
        have hSr := (HS.out.keep hkept).2.2 (by omega)
        obtain ⟨i0, hi, hz0, hz1, hz2⟩ := info_parts info24
        have hge : ¬ (k : Int) < ((n : Nat) : Int) := by omega
        have HC2 : Hid (∀ j u, (cellsOf xs)[j]? = some u → (wr.alloc (.cells #[.int .i64 x0, .int .i64 x1] 24)).cell? ((⟨b, off, none⟩ : Addr).add j) = some u) := by
          intro j u hu
          have hj : j < n * 2 := by obtain ⟨hlt2, _⟩ := List.getElem?_eq_some_iff.1 hu; have h3 := cellsOf_len xs; have := HL.out; omega
          have h4 := cellsOf_at xs (j / 2) (by have := HL.out; omega)
          have h5 := HC.out (j / 2) (by omega)
          have hk2 : Kept w (wr.alloc (.cells #[.int .i64 x0, .int .i64 x1] 24)) := hkept.alloc _
          have : j = j / 2 * 2 ∨ j = j / 2 * 2 + 1 := by omega
          have ea : ((⟨b, off, none⟩ : Addr).add j) = ⟨b, off + j, none⟩ := by simp [Addr.add]
          rw [ea]
          rcases this with h | h
          · rw [h] at hu ⊢; rw [h4.1] at hu; rw [← hu]; exact hk2.at_ h5.1
          · rw [h] at hu ⊢; rw [h4.2] at hu; rw [← hu]; rw [show off + (j / 2 * 2 + 1) = off + j / 2 * 2 + 1 by omega]; exact hk2.at_ h5.2
        go_wp2_with (at_builtin; refine wpList_append_own _ rfl _ _ 33 rfl wr.heap.size 24 i0 (.agg #[.int .i64 0, .int .i64 0]) 2 16 Try.underlying33 hi hz0 hz1 hz2 rfl (by decide) _ 1 [.int .i64 x0, .int .i64 x1] rfl hown ⟨b, off, none⟩ n _ (cellsOf xs) rfl (by rw [cellsOf_len]; have := HL.out; omega) HC2.out (cellsOf_one xs) (by unfold maxLen; omega) (by omega) (by simp) ?_; intro v3 w3 hown3 hgrow3 _)
        obtain ⟨A3, c3, hv3, hst3⟩ := StampsAt.of_own (xs := (x0, x1) :: xs) hown3 (by unfold maxLen; omega)
        have hk3 : Kept wr w3 := Kept.grown ((Kept.refl wr).alloc _) hgrow3 (by intro g hg; have h9 : some wr.heap.size = some g := hg; injection h9 with h9; exact Nat.le_of_eq h9)
        have hk4 : Kept w w3 := hkept.call hk3
        have r0 := hk3.at_ q0
        have r1 := hk3.at_ q1
        rw [hv3]
        clear hown3 hgrow3 hv3 hown HC2 hSr
        refine wp_region_text keepsOne (fun wB => Kept w wB ∧ Kept w3 wB ∧ wB.cell? ⟨w2.heap.size, 0, none⟩ = some (.int .i64 x0) ∧ wB.cell? ⟨w2.heap.size, 1, none⟩ = some (.int .i64 x1)) ?_ (by kernel_rfl) (by kernel_rfl) _ rfl ?_
        · exact ⟨by repeat (first | exact Kept.refl _ | assumption | (refine Kept.alloc ?_ _) | (refine Kept.setCell ?_ (by first | omega | (simp; omega) | simp) _) | refine Kept.drew ?_ | refine Kept.drewN ?_ _ | (apply Kept.call; rotate_left; assumption)), by repeat (first | exact Kept.refl _ | assumption | (refine Kept.alloc ?_ _) | (refine Kept.setCell ?_ (by first | omega | (simp; omega) | simp) _) | refine Kept.drew ?_ | refine Kept.drewN ?_ _ | (apply Kept.call; rotate_left; assumption)), by first | assumption | go_simp, by first | assumption | go_simp⟩
        rintro wB ⟨hkB, hkB1, sB1, sB2⟩
        repeat (first | (apply DW.det; (focus (intro wd hI; have hkd1 := hkB1.call hI; have td1 := hI.at_ sB1; have td2 := hI.at_ sB2; skip; go_wp2_with (first | (go_at_call 14; refine (max_is _ _ _ ((x0, x1) :: xs) x0 x1 _ (hst3.keep hkd1) HXX.out).mono ?_; rintro e w6 ⟨rfl, hb6⟩)); refine StepPost.mk _ rfl ⟨rfl, ?_⟩; repeat (first | exact Kept.refl _ | assumption | (refine Kept.alloc ?_ _) | (refine Kept.setCell ?_ (by first | omega | (simp; omega) | simp) _) | refine Kept.drew ?_ | refine Kept.drewN ?_ _ | (apply Kept.call; rotate_left; assumption)))); simp only [Act.put, List.setIfInBounds_toArray, List.set_cons_succ, List.set_cons_zero]) | (refine DW.loud (by kernel_rfl) ?_; intro wd hI; have hkd1 := hkB1.call hI; have td1 := hI.at_ sB1; have td2 := hI.at_ sB2; skip; go_wp2_with (first | (go_at_call 14; refine (max_is _ _ _ ((x0, x1) :: xs) x0 x1 _ (hst3.keep hkd1) HXX.out).mono ?_; rintro e w6 ⟨rfl, hb6⟩)); refine StepPost.loud _ rfl (by repeat (first | exact Kept.refl _ | assumption | (refine Kept.alloc ?_ _) | (refine Kept.setCell ?_ (by first | omega | (simp; omega) | simp) _) | refine Kept.drew ?_ | refine Kept.drewN ?_ _ | (apply Kept.call; rotate_left; assumption))) (fun hkL => ?_); have hkL := hI.call hkL; have hkB := hkB.call hkL; have hkB1 := hkB1.call hkL; have sB1 := hkL.at_ sB1; have sB2 := hkL.at_ sB2; simp only [Act.put, List.setIfInBounds_toArray, List.set_cons_succ, List.set_cons_zero]))
        refine DW.nil ?_
        intro wd hI
        have hkd := hkB.call hI
        have hkd1 := hkB1.call hI; have td1 := hI.at_ sB1; have td2 := hI.at_ sB2
        go_wp2
        go_ret
        exact ⟨rfl, hkd⟩

end Go.Proofs.Ytfiocebipckaaaa
