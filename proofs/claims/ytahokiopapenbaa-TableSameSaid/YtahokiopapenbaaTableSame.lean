/- The law TableSame: keys of one range have the same owners; the first of them is one, and none is less. -/
import Derived.Test.YtahokiopapenbaaTabY
set_option linter.unusedSimpArgs false
set_option linter.unusedVariables false
namespace Go.Proofs.Ytahokiopapenbaa
open Go.RowKit

theorem owners_is (A B C : Option Addr) (n1 c1 n2 c2 n3 c3 : Nat) (es : List Nat) (os ps : List Int) (k : ByteArray) (w : World) (f : Nat) (o : Int) (hr : RowW w A n1 c1 B n2 c2 C n3 c3 (rgs es) os ps) (hf : Fit es os n3) (h1 : findI es (hv k) = f) (h2 : oa os f = o) :
    Calls Try.prog 17 #[.agg #[.slice A n1 c1, .slice B n2 c2, .slice C n3 c3], .string k] w fun e w' => e = .returned (.int .i64 o) ∧ Kept w w' := by
  subst h1 h2
  exact towners_yes A B C n1 c1 n2 c2 n3 c3 es os ps k w hr hf
set_option maxRecDepth 100000 in
set_option maxHeartbeats 4000000 in
theorem tableSame_walk (A : Option Addr) (m c : Nat) (x : Nat → Int) (B : Option Addr) (m2 c2 : Nat) (y : Nat → Int) (s : Int) (k0 k1 : ByteArray) (w : World) (rx : RowAt w A m c 1 (fun i => [.int .i64 (x i)])) (_rx2 : ∀ i, i < m → (Lit.int .i64 (x i)).wf = true) (ry : RowAt w B m2 c2 1 (fun i => [.int .i64 (y i)])) (_ry2 : ∀ i, i < m2 → (Lit.int .i64 (y i)).wf = true) (_ws : (Lit.int .i64 s).wf = true) (_w0 : k0.size ≤ maxLen) (_w1 : k1.size ≤ maxLen) :
    Calls Try.prog 5 #[.agg #[.slice A m c, .slice B m2 c2, .int .i64 s], .agg #[.string k0, .string k1]] w fun e w' => e = .returned (.bool true) ∧ Kept w w' := by
  have HX := Lib.hid (IntsAt.of_row rx)
  have HY := Lib.hid (IntsAt.of_row ry)
  clear rx _rx2 ry _ry2 _ws _w0 _w1
  generalize (List.range m).map x = xs at *
  generalize (List.range m2).map y = ys at *
  go_enter Try.func5, Try.ntmps5
  go_wp2_with fail
  refine (awake_any _).mono ?_
  rintro e w1 ⟨rfl, k1_⟩
  have K1 : Kept w w1 := Kept.call (by repeat (first | exact Kept.refl _ | assumption | (refine Kept.alloc ?_ _) | (refine Kept.setCell ?_ (by first | omega | (simp; omega) | simp) _) | refine Kept.drew ?_ | refine Kept.drewN ?_ _ | (apply Kept.call; rotate_left; assumption))) k1_
  have cs0 : w1.cell? ⟨w.heap.size, 0, none⟩ = some (.slice A m c) := k1_.at_ (by go_simp)
  have cs1 : w1.cell? ⟨w.heap.size, 1, none⟩ = some (.slice B m2 c2) := k1_.at_ (by go_simp)
  have cs2 : w1.cell? ⟨w.heap.size, 2, none⟩ = some (.int .i64 s) := k1_.at_ (by go_simp)
  have ck0 : w1.cell? ⟨w.heap.size + 1, 0, none⟩ = some (.string k0) := k1_.at_ (by go_simp)
  have ck1 : w1.cell? ⟨w.heap.size + 1, 1, none⟩ = some (.string k1) := k1_.at_ (by go_simp)
  go_wp2_with fail
  refine (row_any A B m c m2 c2 xs ys s _ (HX.out.keep (by repeat (first | exact Kept.refl _ | assumption | (refine Kept.alloc ?_ _) | (refine Kept.setCell ?_ (by first | omega | (simp; omega) | simp) _) | refine Kept.drew ?_ | refine Kept.drewN ?_ _ | (apply Kept.call; rotate_left; assumption)))) (HY.out.keep (by repeat (first | exact Kept.refl _ | assumption | (refine Kept.alloc ?_ _) | (refine Kept.setCell ?_ (by first | omega | (simp; omega) | simp) _) | refine Kept.drew ?_ | refine Kept.drewN ?_ _ | (apply Kept.call; rotate_left; assumption))))).mono ?_
  rintro e w2 ⟨a1, b1, c1, n1, d1, n2, d2, n3, d3, es, os, ps, rfl, ⟨l1, l2, l3⟩, hr, hf, k2⟩
  have K2 : Kept w w2 := Kept.call (by repeat (first | exact Kept.refl _ | assumption | (refine Kept.alloc ?_ _) | (refine Kept.setCell ?_ (by first | omega | (simp; omega) | simp) _) | refine Kept.drew ?_ | refine Kept.drewN ?_ _ | (apply Kept.call; rotate_left; assumption))) k2
  have HR := Lib.hid hr
  have HF := Lib.hid hf
  have ck0 := k2.at_ ck0
  have ck1 := k2.at_ ck1
  have hlt0 : w.heap.size + 1 < w2.heap.size := World.block_lt_of_cell? w2 _ ck0
  have hb := hr.bd
  obtain ⟨ob, oo, e, hoc⟩ := hr.os.2.2.2.2 (by have := hr.os.1; have := hf.len; omega)
  cases e
  have hle := find_le es (hv k0)
  have h2n : n2 = es.length + 1 := by have := hr.os.1; have := hf.len; omega
  have hc2 : n2 ≤ d2 := hr.os.2.1
  obtain ⟨f0, hf0⟩ : ∃ f, findI es (hv k0) = f := ⟨_, rfl⟩
  obtain ⟨f1, hf1⟩ : ∃ f, findI es (hv k1) = f := ⟨_, rfl⟩
  have HF0 := Lib.hid hf0
  have HF1 := Lib.hid hf1
  have hfl : f0 < n2 := by omega
  have co := hoc f0 hfl
  obtain ⟨o, ho⟩ : ∃ o, oa os f0 = o := ⟨_, rfl⟩
  have ho' : os[f0]?.getD (-2) = o := ho
  rw [ho'] at co
  have HO := Lib.hid ho
  have hob : 0 ≤ o ∧ o < 64 := by rw [← ho]; exact oa_bd hf (by omega)
  clear hr hf l1 l2 l3 cs0 cs1 cs2 hoc hle h2n hf0 hf1 ho ho'
  rw [Nat.zero_add] at co
  have hbb : b1 < w2.heap.size := World.block_lt_of_cell? w2 _ co
  go_wp2_with fail
  refine (rfind_any _ n1 d1 (rgs es) k0 _ (HR.out.rs.keep (by repeat (first | exact Kept.refl _ | assumption | (refine Kept.alloc ?_ _) | (refine Kept.setCell ?_ (by first | omega | (simp; omega) | simp) _) | refine Kept.drew ?_ | refine Kept.drewN ?_ _ | (apply Kept.call; rotate_left; assumption))))).mono ?_
  rintro e w3 ⟨r0, rfl, hr0, k3⟩
  have hr0' : r0 = (f0 : Int) := by rw [first_rgs HF.out.up hr0, HF0.out]
  subst hr0'
  have K3 : Kept w2 w3 := Kept.call (by repeat (first | exact Kept.refl _ | assumption | (refine Kept.alloc ?_ _) | (refine Kept.setCell ?_ (by first | omega | (simp; omega) | simp) _) | refine Kept.drew ?_ | refine Kept.drewN ?_ _ | (apply Kept.call; rotate_left; assumption))) k3
  have x0 : w3.cell? ⟨w2.heap.size, 0, none⟩ = some (.slice (some ⟨a1, 0, none⟩) n1 d1) := k3.at_ (by go_simp)
  have x1 : w3.cell? ⟨w2.heap.size, 1, none⟩ = some (.slice (some ⟨b1, 0, none⟩) n2 d2) := k3.at_ (by go_simp)
  have x2 : w3.cell? ⟨w2.heap.size, 2, none⟩ = some (.slice (some ⟨c1, 0, none⟩) n3 d3) := k3.at_ (by go_simp)
  have ck0 := K3.at_ ck0
  have ck1 := K3.at_ ck1
  have co := K3.at_ co
  clear hr0
  go_wp2_with fail
  refine (rfind_any _ n1 d1 (rgs es) k1 _ (HR.out.rs.keep K3)).mono ?_
  rintro e w4 ⟨r1, rfl, hr1, k4⟩
  have hr1' : r1 = (f1 : Int) := by rw [first_rgs HF.out.up hr1, HF1.out]
  subst hr1'
  have K4 := K3.call k4
  have x0 := k4.at_ x0
  have x1 := k4.at_ x1
  have x2 := k4.at_ x2
  have ck0 := k4.at_ ck0
  have ck1 := k4.at_ ck1
  have co := k4.at_ co
  clear hr1
  go_wp2_with fail
  refine (tfirst_yes _ _ _ n1 d1 n2 d2 n3 d3 es os ps k0 _ (HR.out.keep K4) HF.out).mono ?_
  rintro e w5 ⟨r, rfl, hfb, k5⟩
  rw [HF0.out, HO.out] at hfb
  have K5 := K4.call k5
  have x0 := Lib.hid (k5.at_ x0)
  have x1 := Lib.hid (k5.at_ x1)
  have x2 := Lib.hid (k5.at_ x2)
  have ck0 := Lib.hid (k5.at_ ck0)
  have ck1 := Lib.hid (k5.at_ ck1)
  have co := Lib.hid (k5.at_ co)
  have hrr : -1 ≤ r ∧ r ≤ 5 ∧ Hid (∀ j : Nat, (j : Int) < r → bitB o j = false) := by
    rcases hfb with ⟨rfl, _⟩ | ⟨i, rfl, hi, _, h⟩
    · exact ⟨by omega, by omega, fun j hj => by omega⟩
    · exact ⟨by omega, by omega, fun j hj => h j (by omega)⟩
  obtain ⟨hr1, hr2, hr3⟩ := hrr
  clear hfb
  go_wp2_with fail
  go_loopw [10] (fun sv wr => ∃ j : Nat, ((j : Int) ≤ r ∨ j = 0) ∧ sv = .int .i64 j ∧ Kept w5 wr) (fun sv _ => 6 - (intOf sv).toNat)
  case atStart => exact ⟨0, .inr rfl, rfl, Kept.refl _⟩
  case round =>
    obtain ⟨j, hj, rfl, kr⟩ := hrel
    have x0 := kr.at_ x0.out
    have x1 := kr.at_ x1.out
    have x2 := kr.at_ x2.out
    have ck0 := kr.at_ ck0.out
    have ck1 := kr.at_ ck1.out
    have co := kr.at_ co.out
    by_cases hlt : (j : Int) < r
    · go_wp2_with fail
      refine (towns_yes _ _ _ n1 d1 n2 d2 n3 d3 es os ps j k0 _ (HR.out.keep (K5.call kr)) HF.out).mono ?_
      rintro e w6 ⟨rfl, k6⟩
      rw [HF0.out, HO.out, hr3.out j hlt]
      have K6 := kr.call k6
      go_wp2_with fail
      go_roundw
      case rel => first | exact ⟨j + 1, .inl (by omega), by go_num, K6⟩ | ((repeat apply Exists.intro); exact ⟨⟨j + 1, .inl (by omega), by go_num, K6⟩, rfl⟩)
      case measure => simp [intOf]; omega
    · by_cases hff : f0 = f1
      · subst hff
        go_wp2_with fail
        refine wp_region_text keepsOne (fun wB => Kept w5 wB ∧ wB.cell? ⟨w2.heap.size, 0, none⟩ = some (.slice (some ⟨a1, 0, none⟩) n1 d1) ∧ wB.cell? ⟨w2.heap.size, 1, none⟩ = some (.slice (some ⟨b1, 0, none⟩) n2 d2) ∧ wB.cell? ⟨w2.heap.size, 2, none⟩ = some (.slice (some ⟨c1, 0, none⟩) n3 d3) ∧ wB.cell? ⟨w.heap.size + 1, 0, none⟩ = some (.string k0) ∧ wB.cell? ⟨w.heap.size + 1, 1, none⟩ = some (.string k1) ∧ wB.cell? ⟨b1, f0, none⟩ = some (.int .i64 o)) ?_ (by kernel_rfl) (by kernel_rfl) _ (by (try simp only [List.append_eq, List.cons_append, List.nil_append, List.toList_toArray]); exact rfl) ?_
        · exact ⟨by repeat (first | exact Kept.refl _ | assumption | (refine Kept.alloc ?_ _) | (refine Kept.setCell ?_ (by first | omega | (simp; omega) | simp) _) | refine Kept.drew ?_ | refine Kept.drewN ?_ _ | (apply Kept.call; rotate_left; assumption)), by first | assumption | go_simp, by first | assumption | go_simp, by first | assumption | go_simp, by first | assumption | go_simp, by first | assumption | go_simp, by first | assumption | go_simp⟩
        rintro wB ⟨hkB, sB1, sB2, sB3, sB4, sB5, sB6⟩
        repeat (first | (apply DW.det; (focus (intro wd hI; have td1 := hI.at_ sB1; have td2 := hI.at_ sB2; have td3 := hI.at_ sB3; have td4 := hI.at_ sB4; have td5 := hI.at_ sB5; have td6 := hI.at_ sB6; skip; go_wp2_with (first | (go_at_call 17; refine (owners_is _ _ _ n1 d1 n2 d2 n3 d3 es os ps _ _ f0 o (HR.out.keep (K5.call (hkB.call hI))) HF.out (by first | exact HF0.out | exact HF1.out) HO.out).mono ?_; rintro e w6 ⟨rfl, hb6⟩)); refine StepPost.mk _ rfl ⟨rfl, ?_⟩; repeat (first | exact Kept.refl _ | assumption | (refine Kept.alloc ?_ _) | (refine Kept.setCell ?_ (by first | omega | (simp; omega) | simp) _) | refine Kept.drew ?_ | refine Kept.drewN ?_ _ | (apply Kept.call; rotate_left; assumption)))); simp only [Act.put, List.setIfInBounds_toArray, List.set_cons_succ, List.set_cons_zero]) | (refine DW.loud (by kernel_rfl) ?_; intro wd hI; have td1 := hI.at_ sB1; have td2 := hI.at_ sB2; have td3 := hI.at_ sB3; have td4 := hI.at_ sB4; have td5 := hI.at_ sB5; have td6 := hI.at_ sB6; skip; go_wp2_with (first | (go_at_call 17; refine (owners_is _ _ _ n1 d1 n2 d2 n3 d3 es os ps _ _ f0 o (HR.out.keep (K5.call (hkB.call hI))) HF.out (by first | exact HF0.out | exact HF1.out) HO.out).mono ?_; rintro e w6 ⟨rfl, hb6⟩)); refine StepPost.loud _ rfl (by repeat (first | exact Kept.refl _ | assumption | (refine Kept.alloc ?_ _) | (refine Kept.setCell ?_ (by first | omega | (simp; omega) | simp) _) | refine Kept.drew ?_ | refine Kept.drewN ?_ _ | (apply Kept.call; rotate_left; assumption))) (fun hkL => ?_); have hkL := hI.call hkL; have hkB := hkB.call hkL; have sB1 := hkL.at_ sB1; have sB2 := hkL.at_ sB2; have sB3 := hkL.at_ sB3; have sB4 := hkL.at_ sB4; have sB5 := hkL.at_ sB5; have sB6 := hkL.at_ sB6; simp only [Act.put, List.setIfInBounds_toArray, List.set_cons_succ, List.set_cons_zero]))
        refine DW.nil ?_
        intro wd hI
        have hkd := hkB.call hI
        have td1 := hI.at_ sB1; have td2 := hI.at_ sB2; have td3 := hI.at_ sB3; have td4 := hI.at_ sB4; have td5 := hI.at_ sB5; have td6 := hI.at_ sB6
        go_wp2_with fail
        go_ret
        exact ⟨by first | rfl | exact ret_bool (by simp), K2.call (K5.call hkd)⟩
      · have d1_ : ((f0 : Int) != (f1 : Int)) = true := by simp; omega
        have d2_ : (f0 != f1) = true := by simp; exact hff
        clear hff
        go_wp2_with fail
        refine wp_region_text keepsOne (fun wB => Kept w5 wB ∧ wB.cell? ⟨w2.heap.size, 0, none⟩ = some (.slice (some ⟨a1, 0, none⟩) n1 d1) ∧ wB.cell? ⟨w2.heap.size, 1, none⟩ = some (.slice (some ⟨b1, 0, none⟩) n2 d2) ∧ wB.cell? ⟨w2.heap.size, 2, none⟩ = some (.slice (some ⟨c1, 0, none⟩) n3 d3) ∧ wB.cell? ⟨w.heap.size + 1, 0, none⟩ = some (.string k0) ∧ wB.cell? ⟨w.heap.size + 1, 1, none⟩ = some (.string k1) ∧ wB.cell? ⟨b1, f0, none⟩ = some (.int .i64 o)) ?_ (by kernel_rfl) (by kernel_rfl) _ (by (try simp only [List.append_eq, List.cons_append, List.nil_append, List.toList_toArray]); exact rfl) ?_
        · exact ⟨by repeat (first | exact Kept.refl _ | assumption | (refine Kept.alloc ?_ _) | (refine Kept.setCell ?_ (by first | omega | (simp; omega) | simp) _) | refine Kept.drew ?_ | refine Kept.drewN ?_ _ | (apply Kept.call; rotate_left; assumption)), by first | assumption | go_simp, by first | assumption | go_simp, by first | assumption | go_simp, by first | assumption | go_simp, by first | assumption | go_simp, by first | assumption | go_simp⟩
        rintro wB ⟨hkB, sB1, sB2, sB3, sB4, sB5, sB6⟩
        repeat (first | (apply DW.det; (focus (intro wd hI; have td1 := hI.at_ sB1; have td2 := hI.at_ sB2; have td3 := hI.at_ sB3; have td4 := hI.at_ sB4; have td5 := hI.at_ sB5; have td6 := hI.at_ sB6; skip; go_wp2_with (first | (go_at_call 17; refine (owners_is _ _ _ n1 d1 n2 d2 n3 d3 es os ps _ _ f0 o (HR.out.keep (K5.call (hkB.call hI))) HF.out (by first | exact HF0.out | exact HF1.out) HO.out).mono ?_; rintro e w6 ⟨rfl, hb6⟩)); refine StepPost.mk _ rfl ⟨rfl, ?_⟩; repeat (first | exact Kept.refl _ | assumption | (refine Kept.alloc ?_ _) | (refine Kept.setCell ?_ (by first | omega | (simp; omega) | simp) _) | refine Kept.drew ?_ | refine Kept.drewN ?_ _ | (apply Kept.call; rotate_left; assumption)))); simp only [Act.put, List.setIfInBounds_toArray, List.set_cons_succ, List.set_cons_zero]) | (refine DW.loud (by kernel_rfl) ?_; intro wd hI; have td1 := hI.at_ sB1; have td2 := hI.at_ sB2; have td3 := hI.at_ sB3; have td4 := hI.at_ sB4; have td5 := hI.at_ sB5; have td6 := hI.at_ sB6; skip; go_wp2_with (first | (go_at_call 17; refine (owners_is _ _ _ n1 d1 n2 d2 n3 d3 es os ps _ _ f0 o (HR.out.keep (K5.call (hkB.call hI))) HF.out (by first | exact HF0.out | exact HF1.out) HO.out).mono ?_; rintro e w6 ⟨rfl, hb6⟩)); refine StepPost.loud _ rfl (by repeat (first | exact Kept.refl _ | assumption | (refine Kept.alloc ?_ _) | (refine Kept.setCell ?_ (by first | omega | (simp; omega) | simp) _) | refine Kept.drew ?_ | refine Kept.drewN ?_ _ | (apply Kept.call; rotate_left; assumption))) (fun hkL => ?_); have hkL := hI.call hkL; have hkB := hkB.call hkL; have sB1 := hkL.at_ sB1; have sB2 := hkL.at_ sB2; have sB3 := hkL.at_ sB3; have sB4 := hkL.at_ sB4; have sB5 := hkL.at_ sB5; have sB6 := hkL.at_ sB6; simp only [Act.put, List.setIfInBounds_toArray, List.set_cons_succ, List.set_cons_zero]))
        refine DW.nil ?_
        intro wd hI
        have hkd := hkB.call hI
        have td1 := hI.at_ sB1; have td2 := hI.at_ sB2; have td3 := hI.at_ sB3; have td4 := hI.at_ sB4; have td5 := hI.at_ sB5; have td6 := hI.at_ sB6
        go_wp2_with fail
        go_ret
        exact ⟨by first | rfl | exact ret_bool (by simp), K2.call (K5.call hkd)⟩
end Go.Proofs.Ytahokiopapenbaa
