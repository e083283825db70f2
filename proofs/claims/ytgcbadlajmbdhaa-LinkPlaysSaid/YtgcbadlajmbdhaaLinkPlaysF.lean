/- The walk of the law LinkPlays: it returns true for every script. -/
import Derived.Test.YtgcbadlajmbdhaaLinkQ
import Derived.Deep.CutBlock
import Derived.Deep.DeepCutAuto
set_option linter.unusedSimpArgs false
set_option linter.unusedVariables false
namespace Go.Proofs.Ytgcbadlajmbdhaa
open Go.RowKit


set_option maxHeartbeats 20000000 in
set_option maxRecDepth 20000 in
theorem linkPlays_walk (A : Option Addr) (n c : Nat) (x : Nat → Int × Int × Bool × ByteArray) (w : World) (hr : RowAt w A n c 4 (fun i => opCells (x i)))
    (hx : ∀ i, i < n → (Lit.int .i64 (x i).1).wf = true ∧ (Lit.int .i64 (x i).2.1).wf = true ∧ (x i).2.2.2.size ≤ maxLen) :
    Calls Try.prog 7 #[.slice A n c] w fun e w' => e = .returned (.bool true) ∧ Kept w w' := by
  go_enter Try.func7, Try.ntmps7
  go_wp2_with fail
  refine (awake_any _).mono ?_
  rintro e w1 ⟨rfl, k1⟩
  have z1 := k1.size
  go_wp2_with fail
  refine (newSender_any w1).mono ?_
  rintro e w2 ⟨rfl, k2, S2⟩
  go_wp2_with fail
  refine (newReceiver_any w2).mono ?_
  rintro e w3 ⟨rfl, k3, R3⟩
  go_wp2_with fail
  have P4 : Pl w [] ((w3.alloc (.cells #[.slice none 0 0, .int .i64 0] 49)).alloc (.cells #[.int .i64 0] 52)) w1.heap.size w2.heap.size w3.heap.size (w3.heap.size + 1) 0 0 0 0 [] [] := by
    have e1 := S2.lt
    have e2 := R3.lt
    have z2 := k2.size
    have z3 := k3.size
    have kk : Kept w3 ((w3.alloc (.cells #[.slice none 0 0, .int .i64 0] 49)).alloc (.cells #[.int .i64 0] 52)) := ((Kept.refl _).alloc _).alloc _
    refine ⟨none, none, (S2.kept k3).kept kk, ?_, R3.kept kk, ?_, ?_, by simp, by simp, ⟨by omega, by omega, by omega, by omega, by omega, by omega⟩, by simp, by simp, by simp⟩
    · exact ⟨_, ((Kept.refl _).alloc _).heap (heap_alloc_new w3 _), .inl ⟨rfl, rfl⟩, by simp, by simp⟩
    · have := heap_alloc_new (w3.alloc (.cells #[.slice none 0 0, .int .i64 0] 49)) (.cells #[.int .i64 0] 52)
      rwa [World.size_alloc] at this
    · intro x hx; simp only [List.mem_cons, List.not_mem_nil, or_false] at hx; omega
  have K4 : Kept w ((w3.alloc (.cells #[.slice none 0 0, .int .i64 0] 49)).alloc (.cells #[.int .i64 0] 52)) := by repeat (first | exact Kept.refl _ | assumption | (refine Kept.alloc ?_ _) | (refine Kept.setCell ?_ (by first | omega | (simp; omega) | simp) _) | refine Kept.drew ?_ | refine Kept.drewN ?_ _ | (apply Kept.call; rotate_left; assumption))
  have b2 : Hid (w1.heap.size < w3.heap.size) := by have e1 := S2.lt; have z3 := k3.size; unfold Hid; omega
  clear S2 R3 k1 k2 k3 z1
  have hnn := hr.2.1
  have hnc := hr.1
  unfold maxLen at hnn
  go_loopw [8] (fun i wr => ∃ (j lo k : Nat) (all : List ByteArray), j ≤ n ∧ j ≤ 60 ∧ lo ≤ all.length ∧ all.length ≤ j ∧ k ≤ j ∧ i = .int .i64 j ∧ Kept w wr ∧ Pl w [] wr w1.heap.size w2.heap.size w3.heap.size (w3.heap.size + 1) lo lo k k (all.drop lo) all) (fun i _ => 60 - (intOf i).toNat)
  case atStart => exact ⟨0, 0, 0, [], by omega, by omega, by simp, by simp, by omega, rfl, K4, P4⟩
  case round =>
    obtain ⟨j, lo, k, all, hjn, hj60, hlo, hall, hkj, rfl, kr, Pr⟩ := hrel
    by_cases h12 : j < n ∧ j < 60
    · obtain ⟨h1, h2⟩ := h12
      obtain ⟨b, off, rfl, hb, hc⟩ := (ops_at (hr.kept kr) (by omega))
      obtain ⟨c0, c1, c2, c3⟩ := hc j h1
      clear hc
      obtain ⟨wf1, wf2, wf3⟩ := hx j h1
      generalize x j = o at *
      obtain ⟨ok, oN, near, text⟩ := o
      obtain ⟨hK1, hK2⟩ := and_bd ok 7 (by omega) (by omega)
      generalize hKK : bits .and .i64 ok 7 = KK at *
      simp only at c0 c1 c2 c3 wf1 wf2 wf3
      have O0 := heap_alloc_new wr (.cells #[.int .i64 ok, .int .i64 oN, .bool near, .string text] 54)
      have P0 := Pr.more ((Kept.refl wr).alloc (.cells #[.int .i64 ok, .int .i64 oN, .bool near, .string text] 54)) wr.heap.size (Nat.le_refl _) (by simp)
      have K0 : Kept w (wr.alloc (.cells #[.int .i64 ok, .int .i64 oN, .bool near, .string text] 54)) := kr.alloc _
      go_upto_block 2 with fail
      go_cut [10] (fun v wx => v = .bool true ∧ Kept w wx ∧ ∃ (lo2 k2 : Nat) (al : List ByteArray), lo2 ≤ al.length ∧ al.length ≤ j + 1 ∧ k2 ≤ j + 1 ∧ Pl w [] wx w1.heap.size w2.heap.size w3.heap.size (w3.heap.size + 1) lo2 lo2 k2 k2 (al.drop lo2) al)
      case first =>
        by_cases c3' : KK = 3
        · subst c3'
          clear hK1 hK2
          have hln : Hid ((all.drop lo).length = all.length - lo) := by unfold Hid; rw [List.length_drop]
          cases near
          · as_aux_lemma =>
              go_wp2_with fail
              refine (plAnswerQ (oN) P0 K0 (by rw [hln.out]; omega)).mono ?_
              rintro e w4 ⟨rfl, P4, K4, z4, x4⟩
              rw [hln.out] at P4 ⊢
              go_wp2_with fail
              refine (plRAnswerQ (oN) (all.length - lo) P4 K4 (by omega) hlo rfl).mono ?_
              rintro e w5 ⟨rfl, P5, K5, z5, x5⟩
              have hle := ansN_le lo (all.length - lo) (oN)
              rw [List.drop_drop] at P5
              go_wp2_with fail
              go_meet
              case rel => exact ⟨by first | rfl | simp, K5, lo + ansN lo (all.length - lo) (oN), k, all, by omega, by omega, by omega, P5.less (by simp)⟩
          · as_aux_lemma =>
              obtain ⟨hq1, hq2⟩ := tmod_bd oN 70 (by omega)
              obtain ⟨AT, cT, t0, _⟩ := P0.allCell
              obtain ⟨d0, d1, d2, d3⟩ := four_cells O0
              go_wp2_with fail
              refine wp_region_text keepsOne (fun wB => Kept w wB ∧ Kept (wr.alloc (.cells #[.int .i64 ok, .int .i64 oN, .bool true, .string text] 54)) wB ∧ wB.cell? ⟨wr.heap.size, 1, none⟩ = some (.int .i64 oN) ∧ wB.cell? ⟨w3.heap.size, 0, none⟩ = some (.slice AT all.length cT)) ?_ (by kernel_rfl) (by kernel_rfl) _ rfl ?_
              · exact ⟨by repeat (first | exact Kept.refl _ | assumption | (refine Kept.alloc ?_ _) | (refine Kept.setCell ?_ (by first | omega | (simp; omega) | simp) _) | refine Kept.drew ?_ | refine Kept.drewN ?_ _ | (apply Kept.call; rotate_left; assumption)), by repeat (first | exact Kept.refl _ | assumption | (refine Kept.alloc ?_ _) | (refine Kept.setCell ?_ (by first | omega | (simp; omega) | simp) _) | refine Kept.drew ?_ | refine Kept.drewN ?_ _ | (apply Kept.call; rotate_left; assumption)), by first | assumption | go_simp, by first | assumption | go_simp⟩
              rintro wB ⟨hkB, hkB1, sB1, sB2⟩
              repeat (first | (apply DW.det; (focus (intro wd hI; have hkd1 := hkB1.call hI; have td1 := hI.at_ sB1; have td2 := hI.at_ sB2; go_wp2_with fail; refine StepPost.mk _ rfl ⟨rfl, ?_⟩; repeat (first | exact Kept.refl _ | assumption | (refine Kept.alloc ?_ _) | (refine Kept.setCell ?_ (by first | omega | (simp; omega) | simp) _) | refine Kept.drew ?_ | refine Kept.drewN ?_ _ | (apply Kept.call; rotate_left; assumption)))); simp only [Act.put, List.setIfInBounds_toArray, List.set_cons_succ, List.set_cons_zero]) | (refine DW.loud (by kernel_rfl) ?_; intro wd hI; have hkd1 := hkB1.call hI; have td1 := hI.at_ sB1; have td2 := hI.at_ sB2; go_wp2_with fail; refine StepPost.loud _ rfl (by repeat (first | exact Kept.refl _ | assumption | (refine Kept.alloc ?_ _) | (refine Kept.setCell ?_ (by first | omega | (simp; omega) | simp) _) | refine Kept.drew ?_ | refine Kept.drewN ?_ _ | (apply Kept.call; rotate_left; assumption))) (fun hkL => ?_); have hkL := hI.call hkL; have hkB := hkB.call hkL; have hkB1 := hkB1.call hkL; have sB1 := hkL.at_ sB1; have sB2 := hkL.at_ sB2; simp only [Act.put, List.setIfInBounds_toArray, List.set_cons_succ, List.set_cons_zero]))
              refine DW.nil ?_
              intro wd hI
              have hkd := hkB.call hI
              have hkd1 := hkB1.call hI; have td1 := hI.at_ sB1; have td2 := hI.at_ sB2
              go_wp2_with fail
              refine (plAnswerQ (oN.tmod 70 + (all.length : Int) - 5) (P0.kept hkd1) (K0.call hkd1) (by rw [hln.out]; omega)).mono ?_
              rintro e w4 ⟨rfl, P4, K4, z4, x4⟩
              rw [hln.out] at P4 ⊢
              go_wp2_with fail
              refine (plRAnswerQ (oN.tmod 70 + (all.length : Int) - 5) (all.length - lo) P4 K4 (by omega) hlo rfl).mono ?_
              rintro e w5 ⟨rfl, P5, K5, z5, x5⟩
              have hle := ansN_le lo (all.length - lo) (oN.tmod 70 + (all.length : Int) - 5)
              rw [List.drop_drop] at P5
              go_wp2_with fail
              go_meet
              case rel => exact ⟨by first | rfl | simp, K5, lo + ansN lo (all.length - lo) (oN.tmod 70 + (all.length : Int) - 5), k, all, by omega, by omega, by omega, P5.less (by simp)⟩
        · by_cases c4 : KK = 4 ∨ KK = 5 ∨ KK = 6
          · rcases c4 with rfl | rfl | rfl
            all_goals
              clear hK1 hK2
              have Q0 := heap_alloc_new (wr.alloc (.cells #[.int .i64 ok, .int .i64 oN, .bool near, .string text] 54)) (.cells #[.int .i64 oN, .string text] 23)
              have P1 := P0.more ((Kept.refl (wr.alloc (.cells #[.int .i64 ok, .int .i64 oN, .bool near, .string text] 54))).alloc (.cells #[.int .i64 oN, .string text] 23)) (wr.heap.size + 1) (by simp) (by simp)
              rw [World.size_alloc] at Q0
              cases near
              · as_aux_lemma =>
                  go_wp2_with fail
                  refine (plTakeQ (oN) text P1 (K0.alloc _) (by omega)).mono ?_
                  rintro e w4 ⟨rfl, P4, K4, z4, x4⟩
                  have Q4 := (x4 (wr.heap.size + 1) (by simp)).trans Q0
                  (try simp only [World.size_alloc] at Q4 z4)
                  obtain ⟨d0, d1, _, _⟩ := two_cells Q4
                  go_wp2_with fail
                  refine (plRTakeQ (oN) text P4 K4 (by omega)).mono ?_
                  rintro e w5 ⟨rfl, P5, K5, z5, x5⟩
                  have hle := tkN_le k (oN)
                  go_wp2_with fail
                  go_meet
                  case rel => exact ⟨by first | rfl | simp, K5, lo, tkN k (oN), all, by omega, by omega, by omega, P5.less (by simp)⟩
              · obtain ⟨AT, cT, t0, tc⟩ := Pr.allCell
                have ltT := World.block_lt_of_cell? wr _ t0
                simp only at ltT
                rcases Nat.eq_zero_or_pos all.length with hz | hz
                · as_aux_lemma =>
                    replace hz : all.length ≤ 0 := by omega
                    clear tc
                    go_wp2_with fail
                    refine (plTakeQ (oN) text P1 (K0.alloc _) (by omega)).mono ?_
                    rintro e w4 ⟨rfl, P4, K4, z4, x4⟩
                    have Q4 := (x4 (wr.heap.size + 1) (by simp)).trans Q0
                    (try simp only [World.size_alloc] at Q4 z4)
                    obtain ⟨d0, d1, _, _⟩ := two_cells Q4
                    go_wp2_with fail
                    refine (plRTakeQ (oN) text P4 K4 (by omega)).mono ?_
                    rintro e w5 ⟨rfl, P5, K5, z5, x5⟩
                    have hle := tkN_le k (oN)
                    go_wp2_with fail
                    go_meet
                    case rel => exact ⟨by first | rfl | simp, K5, lo, tkN k (oN), all, by omega, by omega, by omega, P5.less (by simp)⟩
                · as_aux_lemma =>
                    obtain ⟨bT, oT, rfl, hT1, hT2, tc⟩ := tc hz
                    obtain ⟨kk, hkk, hidx⟩ := place_of oN all.length hz (by omega)
                    obtain ⟨d, hd⟩ : ∃ d, all[kk]? = some d := ⟨_, List.getElem?_eq_getElem hkk⟩
                    have tk := tc kk d hd
                    have ltB := World.block_lt_of_cell? wr _ tk
                    simp only at ltB
                    clear tc hd
                    go_wp2_with fail
                    refine wp_region_text keepsOne (fun wB => Kept w wB ∧ Kept ((wr.alloc (.cells #[.int .i64 ok, .int .i64 oN, .bool true, .string text] 54)).alloc (.cells #[.int .i64 oN, .string text] 23)) wB ∧ wB.cell? ⟨wr.heap.size, 1, none⟩ = some (.int .i64 oN) ∧ wB.cell? ⟨w3.heap.size, 0, none⟩ = some (.slice (some ⟨bT, oT, none⟩) all.length cT)) ?_ (by kernel_rfl) (by kernel_rfl) _ rfl ?_
                    · exact ⟨by repeat (first | exact Kept.refl _ | assumption | (refine Kept.alloc ?_ _) | (refine Kept.setCell ?_ (by first | omega | (simp; omega) | simp) _) | refine Kept.drew ?_ | refine Kept.drewN ?_ _ | (apply Kept.call; rotate_left; assumption)), by repeat (first | exact Kept.refl _ | assumption | (refine Kept.alloc ?_ _) | (refine Kept.setCell ?_ (by first | omega | (simp; omega) | simp) _) | refine Kept.drew ?_ | refine Kept.drewN ?_ _ | (apply Kept.call; rotate_left; assumption)), by first | assumption | go_simp, by first | assumption | go_simp⟩
                    rintro wB ⟨hkB, hkB1, sB1, sB2⟩
                    repeat (first | (apply DW.det; (focus (intro wd hI; have hkd1 := hkB1.call hI; have td1 := hI.at_ sB1; have td2 := hI.at_ sB2; go_wp2_with fail; refine StepPost.mk _ rfl ⟨rfl, ?_⟩; repeat (first | exact Kept.refl _ | assumption | (refine Kept.alloc ?_ _) | (refine Kept.setCell ?_ (by first | omega | (simp; omega) | simp) _) | refine Kept.drew ?_ | refine Kept.drewN ?_ _ | (apply Kept.call; rotate_left; assumption)))); simp only [Act.put, List.setIfInBounds_toArray, List.set_cons_succ, List.set_cons_zero]) | (refine DW.loud (by kernel_rfl) ?_; intro wd hI; have hkd1 := hkB1.call hI; have td1 := hI.at_ sB1; have td2 := hI.at_ sB2; go_wp2_with fail; refine StepPost.loud _ rfl (by repeat (first | exact Kept.refl _ | assumption | (refine Kept.alloc ?_ _) | (refine Kept.setCell ?_ (by first | omega | (simp; omega) | simp) _) | refine Kept.drew ?_ | refine Kept.drewN ?_ _ | (apply Kept.call; rotate_left; assumption))) (fun hkL => ?_); have hkL := hI.call hkL; have hkB := hkB.call hkL; have hkB1 := hkB1.call hkL; have sB1 := hkL.at_ sB1; have sB2 := hkL.at_ sB2; simp only [Act.put, List.setIfInBounds_toArray, List.set_cons_succ, List.set_cons_zero]))
                    refine DW.nil ?_
                    intro wd hI
                    have hkd := hkB.call hI
                    have hkd1 := hkB1.call hI; have td1 := hI.at_ sB1; have td2 := hI.at_ sB2
                    have kkd : Kept wr wd := Kept.call (by repeat (first | exact Kept.refl _ | assumption | (refine Kept.alloc ?_ _) | (refine Kept.setCell ?_ (by first | omega | (simp; omega) | simp) _) | refine Kept.drew ?_ | refine Kept.drewN ?_ _ | (apply Kept.call; rotate_left; assumption))) hkd1
                    have tkd := kkd.at_ tk
                    have ted := kkd.at_ t0
                    have B0 := hkd1.heap Q0
                    obtain ⟨e0, e1, f0, f1⟩ := two_cells B0
                    have PS := (P1.kept hkd1).butX (wr.heap.size + 1) (((But.refl [wr.heap.size + 1] wd).setCell (p := ⟨wr.heap.size + 1, 0, none⟩) (by simp) (.int .i64 kk)).setCell (p := ⟨wr.heap.size + 1, 1, none⟩) (by simp) (.string d)) (by simp)
                    have QS : ((wd.setCell ⟨wr.heap.size + 1, 0, none⟩ (.int .i64 kk)).setCell ⟨wr.heap.size + 1, 1, none⟩ (.string d)).heap[wr.heap.size + 1]? = some (.cells #[.int .i64 kk, .string d] 23 (0, 0)) := by
                      simp [World.setCell, Array.getElem?_modify, B0]
                    have KS : Kept w ((wd.setCell ⟨wr.heap.size + 1, 0, none⟩ (.int .i64 kk)).setCell ⟨wr.heap.size + 1, 1, none⟩ (.string d)) := (hkd.setCell (by have := kr.size; simp; omega) _).setCell (by have := kr.size; simp; omega) _
                    have HQS := Lib.hid QS
                    have HB0 := Lib.hid B0
                    clear QS B0 hidx Q0
                    go_wp2_with fail
                    refine (plTakeQ (kk) d PS KS (by omega)).mono ?_
                    rintro e w4 ⟨rfl, P4, K4, z4, x4⟩
                    have Q4 := (x4 (wr.heap.size + 1) (by simp)).trans HQS.out
                    (try simp only [World.size_alloc] at Q4 z4)
                    obtain ⟨d0, d1, _, _⟩ := two_cells Q4
                    go_wp2_with fail
                    refine (plRTakeQ (kk) d P4 K4 (by omega)).mono ?_
                    rintro e w5 ⟨rfl, P5, K5, z5, x5⟩
                    have hle := tkN_le k (kk)
                    go_wp2_with fail
                    go_meet
                    case rel => exact ⟨by first | rfl | simp, K5, lo, tkN k (kk), all, by omega, by omega, by omega, P5.less (by simp)⟩
          · go_wp2_with fail
            by_cases h8 : all.length < lo + 8
            · as_aux_lemma =>
                refine (plSend (all.length : Int) text P0 K0 (by rw [List.length_drop]; omega) (by rw [List.length_drop]; omega) (by rw [List.length_drop]; omega)).mono ?_
                rintro e w4 ⟨rfl, P4, K4, z4, x4⟩
                have O4 := (x4 wr.heap.size (by simp)).trans O0
                have A4 := heap_alloc_new w4 (.cells #[.int .i64 all.length, .string text] 23)
                have k5 : Kept w4 (w4.alloc (.cells #[.int .i64 all.length, .string text] 23)) := (Kept.refl _).alloc _
                have P5 := P4.more k5 w4.heap.size (Nat.le_refl _) (by simp)
                obtain ⟨d0, d1, d2, d3⟩ := four_cells O4
                have y4 : wr.heap.size < w4.heap.size := by simp at z4; omega
                go_wp2_with fail
                refine (plRSend (all.length : Int) text P5 (K4.call k5) h8 (by omega) hlo rfl).mono ?_
                rintro e w6 ⟨rfl, P6, K6, z6, x6⟩
                have A6 := (x6 w4.heap.size (by simp)).trans A4
                obtain ⟨e0, e1, _, _⟩ := two_cells A6
                have y6 : w4.heap.size < w6.heap.size := by simp at z6; omega
                clear d0 d1 d2 d3 c0 c1 c2 c3 P0 P4 P5 Pr O0 O4 A4 A6 x4 x6
                rw [← List.drop_append_of_le_length hlo] at P6
                go_wp2_with fail
                go_meet
                case rel => exact ⟨by first | rfl | simp, Kept.call K6 (by repeat (first | exact Kept.refl _ | assumption | (refine Kept.alloc ?_ _) | (refine Kept.setCell ?_ (by first | omega | (simp; omega) | simp) _) | refine Kept.drew ?_ | refine Kept.drewN ?_ _ | (apply Kept.call; rotate_left; assumption))), lo, k, all ++ [text], by simp; omega, by simp; omega, by omega, (P6.kept (by repeat (first | exact Kept.refl _ | assumption | (refine Kept.alloc ?_ _) | (refine Kept.setCell ?_ (by first | omega | (simp; omega) | simp) _) | refine Kept.drew ?_ | refine Kept.drewN ?_ _ | (apply Kept.call; rotate_left; assumption)))).less (by simp)⟩
            · as_aux_lemma =>
                refine (plSend_full text P0 (by rw [List.length_drop]; omega)).mono ?_
                rintro e w4 ⟨rfl, k4⟩
                have O4 := k4.heap O0
                have P4 := P0.kept k4
                have A4 := heap_alloc_new w4 (.cells #[.int .i64 0, .string ⟨#[]⟩] 23)
                have k5 : Kept w4 (w4.alloc (.cells #[.int .i64 0, .string ⟨#[]⟩] 23)) := (Kept.refl _).alloc _
                have P5 := P4.kept k5
                obtain ⟨d0, d1, d2, d3⟩ := four_cells O4
                have y4 : wr.heap.size < w4.heap.size := by have := k4.size; simp at this; omega
                have K4 := K0.call k4
                go_wp2_with fail
                refine (plRSend_full text P5 (by omega) (by omega)).mono ?_
                rintro e w6 ⟨rfl, k6⟩
                have P6 := P5.kept k6
                have A6 := k6.heap A4
                obtain ⟨e0, e1, _, _⟩ := two_cells A6
                have y6 : w4.heap.size < w6.heap.size := by have := k6.size; simp at this; omega
                have K6 := (K4.call k5).call k6
                clear d0 d1 d2 d3 c0 c1 c2 c3 P0 P4 P5 Pr O0 O4 A4 A6
                go_wp2_with fail
                go_meet
                case rel => exact ⟨by first | rfl | simp, Kept.call K6 (by repeat (first | exact Kept.refl _ | assumption | (refine Kept.alloc ?_ _) | (refine Kept.setCell ?_ (by first | omega | (simp; omega) | simp) _) | refine Kept.drew ?_ | refine Kept.drewN ?_ _ | (apply Kept.call; rotate_left; assumption))), lo, k, all, by omega, by omega, by omega, (P6.kept (by repeat (first | exact Kept.refl _ | assumption | (refine Kept.alloc ?_ _) | (refine Kept.setCell ?_ (by first | omega | (simp; omega) | simp) _) | refine Kept.drew ?_ | refine Kept.drewN ?_ _ | (apply Kept.call; rotate_left; assumption)))).less (by simp)⟩
      case rest =>
        as_aux_lemma =>
          obtain ⟨rfl, Kc, lo2, k2, al, hl3, hl2, hk2, PT⟩ := hcut
          clear Pr P0 K0 O0 c0 c1 c2 c3 kr
          go_wp2_with fail
          refine (plOpen (al.length - lo2) (PT.kept (by repeat (first | exact Kept.refl _ | assumption | (refine Kept.alloc ?_ _) | (refine Kept.setCell ?_ (by first | omega | (simp; omega) | simp) _) | refine Kept.drew ?_ | refine Kept.drewN ?_ _ | (apply Kept.call; rotate_left; assumption)))) (by rw [List.length_drop]) (by omega)).mono ?_
          rintro e wa ⟨Aa, ca, rfl, Ra, ka⟩
          have KA : Kept w wa := Kept.call (by repeat (first | exact Kept.refl _ | assumption | (refine Kept.alloc ?_ _) | (refine Kept.setCell ?_ (by first | omega | (simp; omega) | simp) _) | refine Kept.drew ?_ | refine Kept.drewN ?_ _ | (apply Kept.call; rotate_left; assumption))) ka
          have PA := PT.kept (Kept.call (by repeat (first | exact Kept.refl _ | assumption | (refine Kept.alloc ?_ _) | (refine Kept.setCell ?_ (by first | omega | (simp; omega) | simp) _) | refine Kept.drew ?_ | refine Kept.drewN ?_ _ | (apply Kept.call; rotate_left; assumption))) ka)
          go_wp2_with fail
          refine (plROpen (al.length - lo2) PA rfl (by omega) (by omega)).mono ?_
          rintro e wb ⟨Ab, cb, rfl, Rb, kb⟩
          go_wp2_with fail
          refine (same_row Aa Ab ca cb (al.length - lo2) lo2 (al.drop lo2) _ (Ra.kept (by repeat (first | exact Kept.refl _ | assumption | (refine Kept.alloc ?_ _) | (refine Kept.setCell ?_ (by first | omega | (simp; omega) | simp) _) | refine Kept.drew ?_ | refine Kept.drewN ?_ _ | (apply Kept.call; rotate_left; assumption)))) (Rb.kept (by repeat (first | exact Kept.refl _ | assumption | (refine Kept.alloc ?_ _) | (refine Kept.setCell ?_ (by first | omega | (simp; omega) | simp) _) | refine Kept.drew ?_ | refine Kept.drewN ?_ _ | (apply Kept.call; rotate_left; assumption)))) (by omega)).mono ?_
          rintro e wc ⟨rfl, kc⟩
          have PC := PA.kept (kb.call kc)
          have KC := KA.call (kb.call kc)
          clear Ra Rb PA
          obtain ⟨AT, cT, t0, _⟩ := PC.allCell
          have u0 := PC.waitCell
          have HN := Lib.hid (show ((al.length : Nat) : Int) = ((lo2 + (al.drop lo2).length : Nat) : Int) by rw [List.length_drop]; omega)
          go_wp2_with fail
          refine wp_region_text keepsOne (fun wB => Kept w wB ∧ Kept wc wB ∧ wB.cell? ⟨w3.heap.size, 0, none⟩ = some (.slice AT al.length cT) ∧ wB.cell? ⟨w3.heap.size + 1, 0, none⟩ = some (.int .i64 k2)) ?_ (by kernel_rfl) (by kernel_rfl) _ rfl ?_
          · exact ⟨by repeat (first | exact Kept.refl _ | assumption | (refine Kept.alloc ?_ _) | (refine Kept.setCell ?_ (by first | omega | (simp; omega) | simp) _) | refine Kept.drew ?_ | refine Kept.drewN ?_ _ | (apply Kept.call; rotate_left; assumption)), by repeat (first | exact Kept.refl _ | assumption | (refine Kept.alloc ?_ _) | (refine Kept.setCell ?_ (by first | omega | (simp; omega) | simp) _) | refine Kept.drew ?_ | refine Kept.drewN ?_ _ | (apply Kept.call; rotate_left; assumption)), by first | assumption | go_simp, by first | assumption | go_simp⟩
          rintro wB ⟨hkB, hkB1, sB1, sB2⟩
          repeat (first | (apply DW.det; (focus (intro wd hI; have hkd1 := hkB1.call hI; have td1 := hI.at_ sB1; have td2 := hI.at_ sB2; go_wp2_with (first | (go_at_call 18; refine (plNext _ (PC.kept hkd1) HN.out).mono ?_; rintro e w8 ⟨rfl, hb8⟩) | (go_at_call 13; refine (plWaits (PC.kept hkd1)).mono ?_; rintro e w9 ⟨rfl, hb9⟩)); refine StepPost.mk _ rfl ⟨rfl, ?_⟩; repeat (first | exact Kept.refl _ | assumption | (refine Kept.alloc ?_ _) | (refine Kept.setCell ?_ (by first | omega | (simp; omega) | simp) _) | refine Kept.drew ?_ | refine Kept.drewN ?_ _ | (apply Kept.call; rotate_left; assumption)))); simp only [Act.put, List.setIfInBounds_toArray, List.set_cons_succ, List.set_cons_zero]) | (refine DW.loud (by kernel_rfl) ?_; intro wd hI; have hkd1 := hkB1.call hI; have td1 := hI.at_ sB1; have td2 := hI.at_ sB2; go_wp2_with (first | (go_at_call 18; refine (plNext _ (PC.kept hkd1) HN.out).mono ?_; rintro e w8 ⟨rfl, hb8⟩) | (go_at_call 13; refine (plWaits (PC.kept hkd1)).mono ?_; rintro e w9 ⟨rfl, hb9⟩)); refine StepPost.loud _ rfl (by repeat (first | exact Kept.refl _ | assumption | (refine Kept.alloc ?_ _) | (refine Kept.setCell ?_ (by first | omega | (simp; omega) | simp) _) | refine Kept.drew ?_ | refine Kept.drewN ?_ _ | (apply Kept.call; rotate_left; assumption))) (fun hkL => ?_); have hkL := hI.call hkL; have hkB := hkB.call hkL; have hkB1 := hkB1.call hkL; have sB1 := hkL.at_ sB1; have sB2 := hkL.at_ sB2; simp only [Act.put, List.setIfInBounds_toArray, List.set_cons_succ, List.set_cons_zero]))
          refine DW.nil ?_
          intro wd hI
          have hkd := hkB.call hI
          have hkd1 := hkB1.call hI; have td1 := hI.at_ sB1; have td2 := hI.at_ sB2
          go_wp2_with fail
          go_roundw
          case rel => first | exact ⟨j + 1, lo2, k2, al, by omega, by omega, hl3, hl2, hk2, by go_num, KC.call hkd1, PC.kept hkd1⟩ | ((repeat apply Exists.intro); exact ⟨⟨j + 1, lo2, k2, al, by omega, by omega, hl3, hl2, hk2, by go_num, KC.call hkd1, PC.kept hkd1⟩, rfl⟩)
          case measure => simp [intOf]; omega
    · have hex : j = n ∨ (j < n ∧ j = 60) := by omega
      rcases hex with rfl | ⟨h1, rfl⟩
      · go_wp2_with fail
        go_ret
        exact ⟨rfl, kr⟩
      · go_wp2_with fail
        go_ret
        exact ⟨rfl, kr⟩
end Go.Proofs.Ytgcbadlajmbdhaa
