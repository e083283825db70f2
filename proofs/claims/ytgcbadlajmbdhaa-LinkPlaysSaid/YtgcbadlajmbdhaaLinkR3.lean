/- The document's own ends (archipelagoref10): Open; Same. -/
import Derived.Test.YtgcbadlajmbdhaaLinkR2
set_option linter.unusedSimpArgs false
set_option linter.unusedVariables false
namespace Go.Proofs.Ytgcbadlajmbdhaa
open Go.RowKit

set_option maxHeartbeats 1000000 in
theorem ropen_go (s : Nat) (G : Option Nat) (A : Option Addr) (n cap lo : Nat) (ds : List ByteArray) (w : World) (hn : n = ds.length) (hb : n < 4294967296) (hl : lo ≤ n)
    (h2 : w.heap[s]? = some (.cells #[.slice A n cap, .int .i64 (lo : Int)] 49 (0, 0))) (h3 : OpenK w G (.slice A n cap) n 1 (strs ds)) :
    Calls Try.prog 23 #[.pointer (some ⟨s, 0, none⟩)] w fun e w' => ∃ v', e = .returned v' ∧ w'.ownsRow w.heap.size 23 2 v' (n - lo) (pk lo (ds.drop lo)) ∧ Kept w w' := by
  obtain ⟨c0, c1, f0, f1⟩ := two_cells h2
  have hs : s < w.heap.size := (Array.getElem?_eq_some_iff.1 h2).1
  have H2 := Lib.hid h2
  have H3 := Lib.hid h3
  have HN := Lib.hid hn
  clear h2 h3 hn
  go_enter Try.func23, Try.ntmps23
  go_wp2
  obtain ⟨i0, hi, hz0, hz1, hz2⟩ := info_parts infoPk
  have HI := Lib.hid hi
  clear hi
  go_loopw [3, 4] (fun o i wr => ∃ j : Nat, lo + j ≤ n ∧ i = .int .i64 ((lo + j : Nat) : Int) ∧ Kept w wr ∧ wr.ownsRow w.heap.size 23 2 o j (pk lo ((ds.drop lo).take j))) (fun _ i _ => n - (intOf i).toNat)
  case atStart => exact ⟨0, by omega, by simp, Kept.refl w, by rw [List.take_zero]; exact World.ownsRow_nil _ _ _ _⟩
  case round =>
    obtain ⟨j, hj, rfl, kr, ho⟩ := hrel
    have d0 := kr.at_ c0
    have d1 := kr.at_ c1
    by_cases hlt : lo + j < n
    · obtain ⟨b, off, rfl, _, hnc, hcm, hc⟩ := (H3.out.kept kr).cells (by omega)
      unfold maxLen at hcm
      obtain ⟨d, hd⟩ : ∃ d, ds[lo + j]? = some d := ⟨_, List.getElem?_eq_getElem (by have := HN.out; omega)⟩
      have hcj : _ := hc (lo + j) (.string d) (by simp [strs, hd])
      have HO := Lib.hid ho
      have HD := Lib.hid hd
      clear hc ho hd
      have hz : w.heap.size ≤ wr.heap.size := kr.size
      have hlen : Hid ((pk lo ((ds.drop lo).take j)).length = j * 2) := by unfold Hid; rw [pk_len, List.length_take, List.length_drop]; have := HN.out; omega
      generalize hM : lo + j = m at *
      go_wp2_with (at_builtin; refine wpList_append_own _ rfl _ _ 35 rfl w.heap.size 23 i0 (.agg #[.int .i64 0, .string ⟨#[]⟩]) 2 24 Try.underlying35 HI.out hz0 hz1 hz2 rfl (by decide) _ j _ rfl (HO.out.alloc _) ⟨wr.heap.size, 0, none⟩ 1 1 [.int .i64 (m : Int), .string d] rfl rfl (news_two (heap_alloc_new wr _)) (one_two _ _) (by unfold maxLen; omega) (by omega) (by simp; omega) ?_; intro v3 w3 hown3 hgrow3 _)
      have HL := HO.out.lt
      have hlo : Hid ((((ds.drop lo).take j).length : Nat) = j) := by unfold Hid; rw [List.length_take, List.length_drop]; have := HN.out; omega
      have hown4 : w3.ownsRow w.heap.size 23 2 v3 (j + 1) (pk lo ((ds.drop lo).take (j + 1))) := by
        have e : (ds.drop lo).take (j + 1) = (ds.drop lo).take j ++ [d] := by
          rw [List.take_add_one, List.getElem?_drop, hM, HD.out]; rfl
        rw [e, pk_snoc, hlo.out, hM]
        exact hown3
      have HW := Lib.hid hown4
      have k3 : Kept w w3 := (kr.alloc _).grown hgrow3 (fun g hg => (HL g hg).1)
      clear hown3 hown4
      go_roundw
      case rel => first | exact ⟨j + 1, by omega, by rw [show ((lo + (j + 1) : Nat) : Int) = (m : Int) + 1 by omega], k3, HW.out⟩ | ((repeat apply Exists.intro); exact ⟨⟨j + 1, by omega, by rw [show ((lo + (j + 1) : Nat) : Int) = (m : Int) + 1 by omega], k3, HW.out⟩, rfl⟩)
      case measure => simp [intOf]; omega
    · have hjn : lo + j = n := by omega
      have HO := Lib.hid ho
      have hM := Lib.hid hjn
      clear ho
      rw [hjn] at *
      go_wp2
      go_ret
      refine ⟨_, rfl, ?_, kr⟩
      have e : (ds.drop lo).take j = ds.drop lo := List.take_of_length_le (by rw [List.length_drop]; have := HN.out; have := hM.out; omega)
      rw [show n - lo = j by have := hM.out; omega, ← e]
      exact HO.out
theorem ropen_any (s : Nat) (G : Option Nat) (lo : Nat) (ds : List ByteArray) (w : World) (h : RSnd w s G lo ds) (hb : ds.length < 4294967296) (hl : lo ≤ ds.length) :
    Calls Try.prog 23 #[.pointer (some ⟨s, 0, none⟩)] w fun e w' => ∃ A c, e = .returned (.slice A (ds.length - lo) c) ∧ Row w' A (ds.length - lo) c lo (ds.drop lo) ∧ Kept w w' := by
  obtain ⟨v, h2, h3, _⟩ := h
  obtain ⟨A, c, rfl⟩ := h3.form
  refine (ropen_go s G A ds.length c lo ds w rfl hb hl h2 h3).mono fun e w' ⟨v', he, hown, hk⟩ => ?_
  rcases hown.2 with ⟨rfl, h0⟩ | ⟨g, cap, cur, rfl, hbg, hg, hnc, _⟩
  · exact ⟨none, 0, by rw [he, h0], ⟨by simp, by omega, fun h => by omega⟩, hk⟩
  · refine ⟨_, cap, he, ⟨by simp, hnc, fun h0 => ⟨g, rfl, (Array.getElem?_eq_some_iff.1 hg).1, fun i hi => ?_⟩⟩, hk⟩
    have hp := pk_at lo (ds.drop lo) i (by simpa using hi)
    exact ⟨by rw [hown.cellAt (i * 2) (by omega), hp.1], by rw [hown.cellAt (i * 2 + 1) (by omega), hp.2]⟩

set_option maxHeartbeats 1000000 in
theorem same_row (A1 A2 : Option Addr) (c1 c2 n lo : Nat) (ds : List ByteArray) (w : World) (h1 : Row w A1 n c1 lo ds) (h2 : Row w A2 n c2 lo ds) (hb : n < 4294967296) :
    Calls Try.prog 22 #[.slice A1 n c1, .slice A2 n c2] w fun e w' => e = .returned (.bool true) ∧ Kept w w' := by
  go_enter Try.func22, Try.ntmps22
  go_wp2
  go_loopw [5] (fun i wr => ∃ j : Nat, j ≤ n ∧ i = .int .i64 (j : Int) ∧ Kept w wr) (fun i _ => n - (intOf i).toNat)
  case atStart => exact ⟨0, by omega, rfl, Kept.refl w⟩
  case round =>
    obtain ⟨j, hj, rfl, kr⟩ := hrel
    by_cases hlt : j < n
    · obtain ⟨g, rfl, hg, hc⟩ := (h1.kept kr).2.2 (by omega)
      obtain ⟨g2, rfl, hg2, hc2⟩ := (h2.kept kr).2.2 (by omega)
      obtain ⟨x0, x1⟩ := hc j hlt
      obtain ⟨y0, y1⟩ := hc2 j hlt
      clear hc hc2
      have m1 := h1.2.1
      have m2 := h2.2.1
      generalize ds[j]?.getD ⟨#[]⟩ = d at *
      go_wp2
      refine wp_region_text keepsOne (fun wB => Kept w wB ∧ wB.cell? ⟨g, j * 2, none⟩ = some (.int .i64 ((lo + j : Nat) : Int)) ∧ wB.cell? ⟨g, j * 2 + 1, none⟩ = some (.string d) ∧ wB.cell? ⟨g2, j * 2, none⟩ = some (.int .i64 ((lo + j : Nat) : Int)) ∧ wB.cell? ⟨g2, j * 2 + 1, none⟩ = some (.string d)) ?_ (by kernel_rfl) (by kernel_rfl) _ rfl ?_
      · exact ⟨by repeat (first | exact Kept.refl _ | assumption | (refine Kept.alloc ?_ _) | (refine Kept.setCell ?_ (by first | omega | (simp; omega) | simp) _) | refine Kept.drew ?_ | refine Kept.drewN ?_ _ | (apply Kept.call; rotate_left; assumption)), by first | assumption | go_simp, by first | assumption | go_simp, by first | assumption | go_simp, by first | assumption | go_simp⟩
      rintro wB ⟨hkB, sB1, sB2, sB3, sB4⟩
      repeat (first | (apply DW.det; (focus (intro wd hI; have td1 := hI.at_ sB1; have td2 := hI.at_ sB2; have td3 := hI.at_ sB3; have td4 := hI.at_ sB4; go_wp2_with fail; refine StepPost.mk _ rfl ⟨rfl, ?_⟩; repeat (first | exact Kept.refl _ | assumption | (refine Kept.alloc ?_ _) | (refine Kept.setCell ?_ (by first | omega | (simp; omega) | simp) _) | refine Kept.drew ?_ | refine Kept.drewN ?_ _ | (apply Kept.call; rotate_left; assumption)))); simp only [Act.put, List.setIfInBounds_toArray, List.set_cons_succ, List.set_cons_zero]) | (refine DW.loud (by kernel_rfl) ?_; intro wd hI; have td1 := hI.at_ sB1; have td2 := hI.at_ sB2; have td3 := hI.at_ sB3; have td4 := hI.at_ sB4; go_wp2_with fail; refine StepPost.loud _ rfl (by repeat (first | exact Kept.refl _ | assumption | (refine Kept.alloc ?_ _) | (refine Kept.setCell ?_ (by first | omega | (simp; omega) | simp) _) | refine Kept.drew ?_ | refine Kept.drewN ?_ _ | (apply Kept.call; rotate_left; assumption))) (fun hkL => ?_); have hkL := hI.call hkL; have hkB := hkB.call hkL; have sB1 := hkL.at_ sB1; have sB2 := hkL.at_ sB2; have sB3 := hkL.at_ sB3; have sB4 := hkL.at_ sB4; simp only [Act.put, List.setIfInBounds_toArray, List.set_cons_succ, List.set_cons_zero]))
      refine DW.nil ?_
      intro wd hI
      have hkd := hkB.call hI
      have td1 := hI.at_ sB1; have td2 := hI.at_ sB2; have td3 := hI.at_ sB3; have td4 := hI.at_ sB4
      go_wp2
      go_roundw
      case rel => first | exact ⟨j + 1, by omega, by go_num, hkd⟩ | ((repeat apply Exists.intro); exact ⟨⟨j + 1, by omega, by go_num, hkd⟩, rfl⟩)
      case measure => simp [intOf]; omega
    · obtain rfl : j = n := by omega
      go_wp2
      go_ret
      exact ⟨rfl, kr⟩
end Go.Proofs.Ytgcbadlajmbdhaa
