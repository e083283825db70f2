/- The walks of the link's Answer and Open. -/
import Derived.Test.YtbofoafcglmboaaLinkU
set_option linter.unusedSimpArgs false
set_option linter.unusedVariables false
namespace Go.Proofs.Ytbofoafcglmboaa
open Go.RowKit

set_option maxHeartbeats 400000 in
theorem answer_nil (q : Int) (w : World) :
    Calls Try.prog 25 #[.pointer none, .int .i64 q] w fun e w' => e = .returned (.int .i64 0) ∧ Kept w w' := by
  go_enter Try.func25, Try.ntmps25
  go_wp2
  go_ret
  exact ⟨rfl, by repeat (first | exact Kept.refl _ | assumption | (refine Kept.alloc ?_ _) | (refine Kept.setCell ?_ (by first | omega | (simp; omega) | simp) _) | refine Kept.drew ?_ | refine Kept.drewN ?_ _ | (apply Kept.call; rotate_left; assumption))⟩

set_option maxHeartbeats 400000 in
theorem answer_above (s : Nat) (G : Option Nat) (lo : Nat) (ds : List ByteArray) (q : Int) (w : World) (h : Snd w s G lo ds) (hq : ((lo + ds.length : Nat) : Int) < q) :
    Calls Try.prog 25 #[.pointer (some ⟨s, 0, none⟩), .int .i64 q] w fun e w' => e = .returned (.int .i64 0) ∧ Kept w w' := by
  obtain ⟨v, h2, _⟩ := h
  have hc := cellOf h2 0
  clear h2
  generalize lo + ds.length = N at hc hq
  go_enter Try.func25, Try.ntmps25
  go_wp2
  go_ret
  exact ⟨rfl, by repeat (first | exact Kept.refl _ | assumption | (refine Kept.alloc ?_ _) | (refine Kept.setCell ?_ (by first | omega | (simp; omega) | simp) _) | refine Kept.drew ?_ | refine Kept.drewN ?_ _ | (apply Kept.call; rotate_left; assumption))⟩

set_option maxHeartbeats 1000000 in
theorem answer_go (s b off cap N lo n k : Nat) (q : Int) (w : World) (hn : 0 < n) (hnc : n ≤ cap) (hcm : cap ≤ 9223372036854775807) (hN : N = lo + n) (hlo : N < 4611686018427387904)
    (hk : k ≤ n) (hk1 : 0 < k → (lo : Int) + k ≤ q) (hk2 : q ≤ (lo : Int) + k)
    (h2 : w.heap[s]? = some (.cells #[.int .i64 N, .slice (some ⟨b, off, none⟩) n cap] 71 (0, 0)))
    (hc : ∀ i, i < n → w.cell? ⟨b, off + i * 2, none⟩ = some (.int .i64 ((lo + i : Nat) : Int))) :
    Calls Try.prog 25 #[.pointer (some ⟨s, 0, none⟩), .int .i64 q] w fun e w' => e = .returned (.int .i64 k) ∧
      ∃ v, w'.heap[s]? = some (.cells #[.int .i64 N, v] 71 (0, 0)) ∧ v = .slice (some (if n = k then ⟨b, off, none⟩ else ⟨b, off + k * 2, none⟩)) (n - k) (n - k) ∧ But [s] w w' := by
  have hs : s < w.heap.size := (Array.getElem?_eq_some_iff.1 h2).1
  obtain ⟨c0, c1, f0, f1⟩ := two_cells h2
  have H2 := Lib.hid h2
  have HC := Lib.hid hc
  have HN := Lib.hid hN
  have hqN : q ≤ (N : Int) := by omega
  clear h2 hc hN
  go_enter Try.func25, Try.ntmps25
  go_wp2
  go_loop [5] (fun i => ∃ j : Nat, j ≤ k ∧ i = .int .i64 j) (fun i => k - (intOf i).toNat)
  case atStart => exact ⟨0, by omega, rfl⟩
  case round =>
    obtain ⟨j, hj, rfl⟩ := hrel
    by_cases hjn : j < n
    · have hcell := HC.out j hjn
      by_cases hlt : j < k
      · have ht : (((lo + j : Nat) : Int) < q) := by omega
        go_wp2
        go_round
        case rel => exact ⟨j + 1, by omega, by go_num⟩
        case measure => simp [intOf]; omega
      · obtain rfl : j = k := by omega
        have ht : ¬ (((lo + j : Nat) : Int) < q) := by omega
        go_wp2
        refine wp_region_text keepsOne (fun wB => Kept w wB ∧ wB.cell? ⟨s, 0, none⟩ = some (.int .i64 N) ∧ wB.cell? ⟨s, 1, none⟩ = some (.slice (some ⟨b, off, none⟩) n cap)) ?_ (by kernel_rfl) (by kernel_rfl) _ (by (try simp only [List.append_eq, List.cons_append, List.nil_append, List.toList_toArray]); exact rfl) ?_
        · exact ⟨by repeat (first | exact Kept.refl _ | assumption | (refine Kept.alloc ?_ _) | (refine Kept.setCell ?_ (by first | omega | (simp; omega) | simp) _) | refine Kept.drew ?_ | refine Kept.drewN ?_ _ | (apply Kept.call; rotate_left; assumption)), by first | assumption | go_simp, by first | assumption | go_simp⟩
        rintro wB ⟨hkB, sB1, sB2⟩
        repeat (first | (apply DW.det; (focus (intro wd hI; have td1 := hI.at_ sB1; have td2 := hI.at_ sB2; skip; go_wp2_with (fail); refine StepPost.mk _ rfl ⟨rfl, ?_⟩; repeat (first | exact Kept.refl _ | assumption | (refine Kept.alloc ?_ _) | (refine Kept.setCell ?_ (by first | omega | (simp; omega) | simp) _) | refine Kept.drew ?_ | refine Kept.drewN ?_ _ | (apply Kept.call; rotate_left; assumption)))); simp only [Act.put, List.setIfInBounds_toArray, List.set_cons_succ, List.set_cons_zero]) | (refine DW.loud (by kernel_rfl) ?_; intro wd hI; have td1 := hI.at_ sB1; have td2 := hI.at_ sB2; skip; go_wp2_with (fail); refine StepPost.loud _ rfl (by repeat (first | exact Kept.refl _ | assumption | (refine Kept.alloc ?_ _) | (refine Kept.setCell ?_ (by first | omega | (simp; omega) | simp) _) | refine Kept.drew ?_ | refine Kept.drewN ?_ _ | (apply Kept.call; rotate_left; assumption))) (fun hkL => ?_); have hkL := hI.call hkL; have hkB := hkB.call hkL; have sB1 := hkL.at_ sB1; have sB2 := hkL.at_ sB2; simp only [Act.put, List.setIfInBounds_toArray, List.set_cons_succ, List.set_cons_zero]))
        refine DW.tail (by kernel_rfl) ?_
        intro wd hI
        have hkd := hkB.call hI
        have td1 := hI.at_ sB1; have td2 := hI.at_ sB2
        have D5 := hkd.heap H2.out
        have y1 := freeOf D5 1
        have HD := Lib.hid D5
        clear D5
        go_wp2
        go_ret
        refine ⟨rfl, .slice (some ⟨b, off + j * 2, none⟩) (n - j) (n - j), by have := HD.out; simp [World.setCell, Array.getElem?_modify, this], ?_, (But.of_kept hkd).setCell (by simp) _⟩
        simp
        try omega
    · obtain rfl : j = k := by omega
      go_wp2
      refine wp_region_text keepsOne (fun wB => Kept w wB ∧ wB.cell? ⟨s, 0, none⟩ = some (.int .i64 N) ∧ wB.cell? ⟨s, 1, none⟩ = some (.slice (some ⟨b, off, none⟩) n cap)) ?_ (by kernel_rfl) (by kernel_rfl) _ (by (try simp only [List.append_eq, List.cons_append, List.nil_append, List.toList_toArray]); exact rfl) ?_
      · exact ⟨by repeat (first | exact Kept.refl _ | assumption | (refine Kept.alloc ?_ _) | (refine Kept.setCell ?_ (by first | omega | (simp; omega) | simp) _) | refine Kept.drew ?_ | refine Kept.drewN ?_ _ | (apply Kept.call; rotate_left; assumption)), by first | assumption | go_simp, by first | assumption | go_simp⟩
      rintro wB ⟨hkB, sB1, sB2⟩
      repeat (first | (apply DW.det; (focus (intro wd hI; have td1 := hI.at_ sB1; have td2 := hI.at_ sB2; skip; go_wp2_with (fail); refine StepPost.mk _ rfl ⟨rfl, ?_⟩; repeat (first | exact Kept.refl _ | assumption | (refine Kept.alloc ?_ _) | (refine Kept.setCell ?_ (by first | omega | (simp; omega) | simp) _) | refine Kept.drew ?_ | refine Kept.drewN ?_ _ | (apply Kept.call; rotate_left; assumption)))); simp only [Act.put, List.setIfInBounds_toArray, List.set_cons_succ, List.set_cons_zero]) | (refine DW.loud (by kernel_rfl) ?_; intro wd hI; have td1 := hI.at_ sB1; have td2 := hI.at_ sB2; skip; go_wp2_with (fail); refine StepPost.loud _ rfl (by repeat (first | exact Kept.refl _ | assumption | (refine Kept.alloc ?_ _) | (refine Kept.setCell ?_ (by first | omega | (simp; omega) | simp) _) | refine Kept.drew ?_ | refine Kept.drewN ?_ _ | (apply Kept.call; rotate_left; assumption))) (fun hkL => ?_); have hkL := hI.call hkL; have hkB := hkB.call hkL; have sB1 := hkL.at_ sB1; have sB2 := hkL.at_ sB2; simp only [Act.put, List.setIfInBounds_toArray, List.set_cons_succ, List.set_cons_zero]))
      refine DW.tail (by kernel_rfl) ?_
      intro wd hI
      have hkd := hkB.call hI
      have td1 := hI.at_ sB1; have td2 := hI.at_ sB2
      have D5 := hkd.heap H2.out
      have y1 := freeOf D5 1
      have HD := Lib.hid D5
      clear D5
      go_wp2
      go_ret
      refine ⟨rfl, .slice (some ⟨b, off, none⟩) 0 0, by have := HD.out; simp [World.setCell, Array.getElem?_modify, this], ?_, (But.of_kept hkd).setCell (by simp) _⟩
      simp
      try omega

set_option maxHeartbeats 400000 in
theorem answer_empty (s N cap : Nat) (A : Option Addr) (q : Int) (w : World) (hq : q ≤ (N : Int)) (hcm : cap ≤ 9223372036854775807) (hA : A = none → cap = 0)
    (h2 : w.heap[s]? = some (.cells #[.int .i64 N, .slice A 0 cap] 71 (0, 0))) :
    Calls Try.prog 25 #[.pointer (some ⟨s, 0, none⟩), .int .i64 q] w fun e w' => e = .returned (.int .i64 0) ∧
      w'.heap[s]? = some (.cells #[.int .i64 N, .slice A 0 0] 71 (0, 0)) ∧ But [s] w w' := by
  have hs : s < w.heap.size := (Array.getElem?_eq_some_iff.1 h2).1
  obtain ⟨c0, c1, f0, f1⟩ := two_cells h2
  have H2 := Lib.hid h2
  clear h2
  cases A with
  | none =>
    obtain rfl := hA rfl
    clear hA
    go_enter Try.func25, Try.ntmps25
    go_wp2
    go_rounds 1
    refine wp_region_text keepsOne (fun wB => Kept w wB ∧ wB.cell? ⟨s, 0, none⟩ = some (.int .i64 N) ∧ wB.cell? ⟨s, 1, none⟩ = some (.slice none 0 0)) ?_ (by kernel_rfl) (by kernel_rfl) _ (by (try simp only [List.append_eq, List.cons_append, List.nil_append, List.toList_toArray]); exact rfl) ?_
    · exact ⟨by repeat (first | exact Kept.refl _ | assumption | (refine Kept.alloc ?_ _) | (refine Kept.setCell ?_ (by first | omega | (simp; omega) | simp) _) | refine Kept.drew ?_ | refine Kept.drewN ?_ _ | (apply Kept.call; rotate_left; assumption)), by first | assumption | go_simp, by first | assumption | go_simp⟩
    rintro wB ⟨hkB, sB1, sB2⟩
    repeat (first | (apply DW.det; (focus (intro wd hI; have td1 := hI.at_ sB1; have td2 := hI.at_ sB2; skip; go_wp2_with (fail); refine StepPost.mk _ rfl ⟨rfl, ?_⟩; repeat (first | exact Kept.refl _ | assumption | (refine Kept.alloc ?_ _) | (refine Kept.setCell ?_ (by first | omega | (simp; omega) | simp) _) | refine Kept.drew ?_ | refine Kept.drewN ?_ _ | (apply Kept.call; rotate_left; assumption)))); simp only [Act.put, List.setIfInBounds_toArray, List.set_cons_succ, List.set_cons_zero]) | (refine DW.loud (by kernel_rfl) ?_; intro wd hI; have td1 := hI.at_ sB1; have td2 := hI.at_ sB2; skip; go_wp2_with (fail); refine StepPost.loud _ rfl (by repeat (first | exact Kept.refl _ | assumption | (refine Kept.alloc ?_ _) | (refine Kept.setCell ?_ (by first | omega | (simp; omega) | simp) _) | refine Kept.drew ?_ | refine Kept.drewN ?_ _ | (apply Kept.call; rotate_left; assumption))) (fun hkL => ?_); have hkL := hI.call hkL; have hkB := hkB.call hkL; have sB1 := hkL.at_ sB1; have sB2 := hkL.at_ sB2; simp only [Act.put, List.setIfInBounds_toArray, List.set_cons_succ, List.set_cons_zero]))
    refine DW.tail (by kernel_rfl) ?_
    intro wd hI
    have hkd := hkB.call hI
    have td1 := hI.at_ sB1; have td2 := hI.at_ sB2
    have D5 := hkd.heap H2.out
    have y1 := freeOf D5 1
    have HD := Lib.hid D5
    clear D5
    go_wp2
    go_ret
    exact ⟨rfl, by have := HD.out; simp [World.setCell, Array.getElem?_modify, this], (But.of_kept hkd).setCell (by simp) _⟩
  | some a =>
    clear hA
    go_enter Try.func25, Try.ntmps25
    go_wp2
    go_rounds 1
    refine wp_region_text keepsOne (fun wB => Kept w wB ∧ wB.cell? ⟨s, 0, none⟩ = some (.int .i64 N) ∧ wB.cell? ⟨s, 1, none⟩ = some (.slice (some a) 0 cap)) ?_ (by kernel_rfl) (by kernel_rfl) _ (by (try simp only [List.append_eq, List.cons_append, List.nil_append, List.toList_toArray]); exact rfl) ?_
    · exact ⟨by repeat (first | exact Kept.refl _ | assumption | (refine Kept.alloc ?_ _) | (refine Kept.setCell ?_ (by first | omega | (simp; omega) | simp) _) | refine Kept.drew ?_ | refine Kept.drewN ?_ _ | (apply Kept.call; rotate_left; assumption)), by first | assumption | go_simp, by first | assumption | go_simp⟩
    rintro wB ⟨hkB, sB1, sB2⟩
    repeat (first | (apply DW.det; (focus (intro wd hI; have td1 := hI.at_ sB1; have td2 := hI.at_ sB2; skip; go_wp2_with (fail); refine StepPost.mk _ rfl ⟨rfl, ?_⟩; repeat (first | exact Kept.refl _ | assumption | (refine Kept.alloc ?_ _) | (refine Kept.setCell ?_ (by first | omega | (simp; omega) | simp) _) | refine Kept.drew ?_ | refine Kept.drewN ?_ _ | (apply Kept.call; rotate_left; assumption)))); simp only [Act.put, List.setIfInBounds_toArray, List.set_cons_succ, List.set_cons_zero]) | (refine DW.loud (by kernel_rfl) ?_; intro wd hI; have td1 := hI.at_ sB1; have td2 := hI.at_ sB2; skip; go_wp2_with (fail); refine StepPost.loud _ rfl (by repeat (first | exact Kept.refl _ | assumption | (refine Kept.alloc ?_ _) | (refine Kept.setCell ?_ (by first | omega | (simp; omega) | simp) _) | refine Kept.drew ?_ | refine Kept.drewN ?_ _ | (apply Kept.call; rotate_left; assumption))) (fun hkL => ?_); have hkL := hI.call hkL; have hkB := hkB.call hkL; have sB1 := hkL.at_ sB1; have sB2 := hkL.at_ sB2; simp only [Act.put, List.setIfInBounds_toArray, List.set_cons_succ, List.set_cons_zero]))
    refine DW.tail (by kernel_rfl) ?_
    intro wd hI
    have hkd := hkB.call hI
    have td1 := hI.at_ sB1; have td2 := hI.at_ sB2
    have D5 := hkd.heap H2.out
    have y1 := freeOf D5 1
    have HD := Lib.hid D5
    clear D5
    go_wp2
    go_ret
    exact ⟨rfl, by have := HD.out; simp [World.setCell, Array.getElem?_modify, this], (But.of_kept hkd).setCell (by simp) _⟩

theorem answer_ok (s : Nat) (G : Option Nat) (lo : Nat) (ds : List ByteArray) (q : Int) (k : Nat) (w : World) (h : Snd w s G lo ds) (hlo : lo + ds.length < 4611686018427387904) (hk : k ≤ ds.length)
    (hk1 : 0 < k → (lo : Int) + k ≤ q) (hk2 : q ≤ (lo : Int) + k) :
    Calls Try.prog 25 #[.pointer (some ⟨s, 0, none⟩), .int .i64 q] w fun e w' => e = .returned (.int .i64 k) ∧ Snd w' s G (lo + k) (ds.drop k) ∧ But [s] w w' := by
  obtain ⟨v, h2, h3, h4, h5⟩ := h
  have hlen : (ds.drop k).length = ds.length - k := by simp
  have hsum : lo + k + (ds.length - k) = lo + ds.length := by omega
  have hpk := pk_drop k lo ds hk
  rcases h3 with ⟨rfl, h0⟩ | ⟨b, off, cap, rfl, hG, p1, p2, p3, p4, p5⟩
  · obtain rfl : ds = [] := List.eq_nil_of_length_eq_zero h0
    obtain rfl : k = 0 := by simpa using hk
    refine (answer_empty s lo 0 none q w (by omega) (by omega) (fun _ => rfl) h2).mono fun e w' ⟨he, hh, hb⟩ => ⟨he, ⟨_, hh, .inl ⟨rfl, rfl⟩, h4, fun g hg => Nat.lt_of_lt_of_le (h5 g hg) hb.size⟩, hb⟩
  · have hbs : b ≠ s := fun e => h4 (by rw [hG, e])
    unfold maxLen at p2
    have keep : ∀ w', But [s] w w' → (∀ j, j < cap * 2 → (w'.cell? ⟨b, off + j, none⟩).isSome = true ∧ w'.frozen? ⟨b, off + j, none⟩ = false) ∧ ∀ j u, (pk lo ds)[j]? = some u → w'.cell? ⟨b, off + j, none⟩ = some u := by
      intro w' hb
      refine ⟨fun j hj => ?_, fun j u hu => hb.at_ (p5 j u hu) (by simpa using hbs)⟩
      obtain ⟨e1, e2⟩ := p4 j hj
      obtain ⟨u, hu⟩ := Option.isSome_iff_exists.1 e1
      exact ⟨by rw [hb.at_ hu (by simpa using hbs)]; rfl, by rw [hb.frozen (World.block_lt_of_cell? w _ hu) (by simpa using hbs)]; exact e2⟩
    rcases Nat.eq_zero_or_pos ds.length with h0 | h0
    · obtain rfl : ds = [] := List.eq_nil_of_length_eq_zero h0
      obtain rfl : k = 0 := by simpa using hk
      refine (answer_empty s lo cap (some ⟨b, off, none⟩) q w (by omega) p2 (fun h => by cases h) h2).mono fun e w' ⟨he, hh, hb⟩ => ⟨he, ⟨_, hh, .inr ⟨b, off, 0, rfl, hG, Nat.le_refl _, by decide, rfl, fun j hj => by omega, fun j u hu => by simp [pk] at hu⟩, h4, fun g hg => Nat.lt_of_lt_of_le (h5 g hg) hb.size⟩, hb⟩
    · refine (answer_go s b off cap (lo + ds.length) lo ds.length k q w h0 p1 p2 rfl hlo hk hk1 hk2 h2 (fun i hi => p5 (i * 2) _ (pk_at lo ds i hi).1)).mono fun e w' ⟨he, v, hh, hv, hb⟩ => ⟨he, ⟨v, ?_, ?_, h4, fun g hg => Nat.lt_of_lt_of_le (h5 g hg) hb.size⟩, hb⟩
      · rw [hlen, hsum]; exact hh
      · rw [hlen, ← hpk]
        obtain ⟨k1, k2⟩ := keep w' hb
        by_cases hnk : ds.length = k
        · rw [hv, if_pos hnk]
          refine .inr ⟨b, off, _, rfl, hG, Nat.le_refl _, by unfold maxLen; omega, by rw [List.length_drop, p3, Nat.sub_mul], fun j hj => by omega, fun j u hu => ?_⟩
          have := (List.getElem?_eq_some_iff.1 hu).1
          rw [List.length_drop, p3] at this; omega
        · rw [hv, if_neg hnk]
          refine .inr ⟨b, off + k * 2, _, rfl, hG, Nat.le_refl _, by unfold maxLen; omega, by rw [List.length_drop, p3, Nat.sub_mul], fun j hj => ?_, fun j u hu => ?_⟩
          · have := k1 (k * 2 + j) (by omega)
            rwa [← Nat.add_assoc] at this
          · rw [List.getElem?_drop] at hu
            have := k2 _ u hu
            rwa [← Nat.add_assoc] at this
end Go.Proofs.Ytbofoafcglmboaa
