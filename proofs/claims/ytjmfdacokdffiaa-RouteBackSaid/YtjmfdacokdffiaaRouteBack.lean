/- The law RouteBack: a label does not go back where it came from; from elsewhere it goes to the same sites, but for that one. -/
import Derived.Test.YtjmfdacokdffiaaRouI
set_option linter.unusedSimpArgs false
set_option linter.unusedVariables false
namespace Go.Proofs.Ytjmfdacokdffiaa
open Go.RowKit

theorem keep_back (ps : List Int) (n : Nat) (a o : Int) (s : Nat) (l : List Nat) : keepL (delB ps n a s o) l = (keepL (delB ps n a (-1) o) l).filter (fun x => x != s) := by
  unfold keepL
  rw [List.filter_filter]
  refine List.filter_congr fun x _ => ?_
  unfold delB
  have h1 : (((x : Nat) : Int) == -1) = false := by first | (simp; done) | (simp; omega)
  have h2 : (((x : Nat) : Int) == (s : Nat)) = (x == s) := by
    rw [Bool.eq_iff_iff, beq_iff_eq, beq_iff_eq]
    omega
  rw [h1, h2]
  simp [bne]
theorem filt_pos {L : List Nat} {p : Nat → Bool} : ∀ {i x : Nat}, L[i]? = some x → p x = true → (L.filter p)[((L.take i).filter p).length]? = some x ∧ ((L.take (i + 1)).filter p).length = ((L.take i).filter p).length + 1 := by
  intro i x h hp
  obtain ⟨hlt, he⟩ := List.getElem?_eq_some_iff.1 h
  have e : L.take (i + 1) = L.take i ++ [x] := by rw [List.take_succ_eq_append_getElem hlt, he]
  have e2 : L.filter p = (L.take i).filter p ++ x :: (L.drop (i + 1)).filter p := by
    conv => lhs; rw [← List.take_append_drop (i + 1) L, e]
    simp [hp]
  refine ⟨?_, by rw [e]; simp [hp]⟩
  rw [e2, List.getElem?_append_right (Nat.le_refl _), Nat.sub_self]
  rfl
theorem filt_neg {L : List Nat} {p : Nat → Bool} {i x : Nat} (h : L[i]? = some x) (hp : p x = false) : ((L.take (i + 1)).filter p).length = ((L.take i).filter p).length := by
  obtain ⟨hlt, he⟩ := List.getElem?_eq_some_iff.1 h
  rw [List.take_succ_eq_append_getElem hlt, he]
  simp [hp]
set_option maxHeartbeats 4000000 in
theorem routeBack_walk (A : Option Addr) (m c : Nat) (x : Nat → Int) (B : Option Addr) (m2 c2 : Nat) (y : Nat → Int) (C : Option Addr) (m3 c3 : Nat) (z : Nat → Int) (key : ByteArray) (at_ : Int) (w : World) (rx : RowAt w A m c 1 (fun i => [.int .i64 (x i)])) (_rx2 : ∀ i, i < m → (Lit.int .i64 (x i)).wf = true) (ry : RowAt w B m2 c2 1 (fun i => [.int .i64 (y i)])) (_ry2 : ∀ i, i < m2 → (Lit.int .i64 (y i)).wf = true) (rz : RowAt w C m3 c3 1 (fun i => [.int .i64 (z i)])) (_rz2 : ∀ i, i < m3 → (Lit.int .i64 (z i)).wf = true) (_wk : key.size ≤ maxLen) (_wa : (Lit.int .i64 at_).wf = true) :
    Calls Try.prog 5 #[.agg #[.slice A m c, .slice B m2 c2, .slice C m3 c3], .string key, .int .i64 at_] w fun e w' => e = .returned (.bool true) ∧ Kept w w' := by
  have HX := Lib.hid (IntsAt.of_row rx)
  have HY := Lib.hid (IntsAt.of_row ry)
  have HZ := Lib.hid (IntsAt.of_row rz)
  clear rx _rx2 ry _ry2 rz _rz2 _wk _wa
  generalize (List.range m).map x = xs at *
  generalize (List.range m2).map y = ys at *
  generalize (List.range m3).map z = zs at *
  go_enter Try.func5, Try.ntmps5
  go_wp2_with fail
  refine (awake_any _).mono ?_
  rintro e w1 ⟨rfl, k1_⟩
  have K1 : Kept w w1 := Kept.call (by repeat (first | exact Kept.refl _ | assumption | (refine Kept.alloc ?_ _) | (refine Kept.setCell ?_ (by first | omega | (simp; omega) | simp) _) | refine Kept.drew ?_ | refine Kept.drewN ?_ _ | (apply Kept.call; rotate_left; assumption))) k1_
  have cs0 : w1.cell? ⟨w.heap.size, 0, none⟩ = some (.slice A m c) := k1_.at_ (by go_simp)
  have cs1 : w1.cell? ⟨w.heap.size, 1, none⟩ = some (.slice B m2 c2) := k1_.at_ (by go_simp)
  have cs2 : w1.cell? ⟨w.heap.size, 2, none⟩ = some (.slice C m3 c3) := k1_.at_ (by go_simp)
  go_wp2_with fail
  refine (row_any A B C m c m2 c2 m3 c3 xs ys zs _ (HX.out.keep (by repeat (first | exact Kept.refl _ | assumption | (refine Kept.alloc ?_ _) | (refine Kept.setCell ?_ (by first | omega | (simp; omega) | simp) _) | refine Kept.drew ?_ | refine Kept.drewN ?_ _ | (apply Kept.call; rotate_left; assumption)))) (HY.out.keep (by repeat (first | exact Kept.refl _ | assumption | (refine Kept.alloc ?_ _) | (refine Kept.setCell ?_ (by first | omega | (simp; omega) | simp) _) | refine Kept.drew ?_ | refine Kept.drewN ?_ _ | (apply Kept.call; rotate_left; assumption)))) (HZ.out.keep (by repeat (first | exact Kept.refl _ | assumption | (refine Kept.alloc ?_ _) | (refine Kept.setCell ?_ (by first | omega | (simp; omega) | simp) _) | refine Kept.drew ?_ | refine Kept.drewN ?_ _ | (apply Kept.call; rotate_left; assumption))))).mono ?_
  rintro e w2 ⟨a1, b1, g1, n1, d1, n2, d2, n3, d3, es, os, ps, rfl, ⟨l1, l2, l3⟩, hr, hf, k2⟩
  have K2 : Kept w w2 := K1.call k2
  have HR := Lib.hid hr
  have HF := Lib.hid hf
  have hpl : ps.length = n3 := hr.ps.1
  have HPL := Lib.hid hpl
  have h1n : 1 ≤ n3 := hf.fit.one
  have h6n : n3 ≤ 6 := hf.fit.six
  have hne0 : ((n3 : Int) == 0) = false := by simp; omega
  have hatb := tmod_bd at_ n3 (by omega)
  obtain ⟨f, hat, hfn⟩ : ∃ r : Nat, (at_.tmod (n3 : Int) + n3).tmod (n3 : Int) = r ∧ r < n3 := by
    have h2 := Int.tmod_nonneg (n3 : Int) (show 0 ≤ at_.tmod (n3 : Int) + n3 by omega)
    have h3 := Int.tmod_lt_of_pos (at_.tmod (n3 : Int) + n3) (show 0 < (n3 : Int) by omega)
    exact ⟨_, (Int.toNat_of_nonneg h2).symm, by omega⟩
  have hbd3 : n3 ≤ d3 ∧ d3 ≤ 9223372036854775807 := by have h1 := hr.ps.2.1; have h2 := hr.ps.2.2.1; unfold maxLen at h2; omega
  clear hr hf hpl cs0 cs1 cs2 l1 l2 l3 K1 HX HY HZ
  go_wp2_with fail
  refine (next_any _ _ _ n1 d1 n2 d2 n3 d3 es os ps f (-1) key _ (HR.out.keep (by repeat (first | exact Kept.refl _ | assumption | (refine Kept.alloc ?_ _) | (refine Kept.setCell ?_ (by first | omega | (simp; omega) | simp) _) | refine Kept.drew ?_ | refine Kept.drewN ?_ _ | (apply Kept.call; rotate_left; assumption)))) HF.out).mono ?_
  rintro e w3 ⟨A3, e3, rfl, hia, _, k3⟩
  have K3 : Kept w2 w3 := Kept.call (by repeat (first | exact Kept.refl _ | assumption | (refine Kept.alloc ?_ _) | (refine Kept.setCell ?_ (by first | omega | (simp; omega) | simp) _) | refine Kept.drew ?_ | refine Kept.drewN ?_ _ | (apply Kept.call; rotate_left; assumption))) k3
  have x0 : w3.cell? ⟨w2.heap.size, 0, none⟩ = some (.slice (some ⟨a1, 0, none⟩) n1 d1) := k3.at_ (by go_simp)
  have x1 : w3.cell? ⟨w2.heap.size, 1, none⟩ = some (.slice (some ⟨b1, 0, none⟩) n2 d2) := k3.at_ (by go_simp)
  have x2 : w3.cell? ⟨w2.heap.size, 2, none⟩ = some (.slice (some ⟨g1, 0, none⟩) n3 d3) := k3.at_ (by go_simp)
  have HB : Hid (∀ s : Nat, keepL (delB ps n3 f s (oa os (findI es (hv key)))) (nearOf ps f) = (keepL (delB ps n3 f (-1) (oa os (findI es (hv key)))) (nearOf ps f)).filter (fun x => x != s)) := fun s => keep_back _ _ _ _ _ _
  have hNX : Hid (∀ (s : Nat) (w9 : World), Kept w3 w9 → Calls Try.prog 19 #[.agg #[.slice (some ⟨a1, 0, none⟩) n1 d1, .slice (some ⟨b1, 0, none⟩) n2 d2, .slice (some ⟨g1, 0, none⟩) n3 d3], .int .i64 f, .int .i64 s, .string key] w9 (RowNew ((keepL (delB ps n3 f (-1) (oa os (findI es (hv key)))) (nearOf ps f)).filter (fun x => x != s)) w9)) := fun s w9 hk => by
    rw [← HB.out s]
    exact next_any _ _ _ n1 d1 n2 d2 n3 d3 es os ps f s key _ (HR.out.keep (K3.call hk)) HF.out
  clear HB
  generalize keepL (delB ps n3 f (-1) (oa os (findI es (hv key)))) (nearOf ps f) = AL at *
  obtain ⟨M, hM⟩ : ∃ M, AL.length = M := ⟨_, rfl⟩
  have HM := Lib.hid hM
  rw [hM] at hia ⊢
  have hmc : M ≤ e3 ∧ e3 ≤ 9223372036854775807 := by have h1 := hia.2.1; have h2 := hia.2.2.1; unfold maxLen at h2; omega
  have HIA := Lib.hid hia
  clear hia hM HR HF
  go_wp2_with fail
  go_loopw [12] (fun sv wr => ∃ s : Nat, s ≤ n3 ∧ sv = .int .i64 s ∧ Kept w3 wr) (fun sv _ => n3 - (intOf sv).toNat)
  case atStart => exact ⟨0, by omega, rfl, Kept.refl _⟩
  case round =>
    obtain ⟨s, hs, rfl, kr⟩ := hrel
    have y0 := kr.at_ x0
    have y1 := kr.at_ x1
    have y2 := kr.at_ x2
    by_cases hlt : s < n3
    · go_wp2_with fail
      refine (hNX.out s _ kr).mono ?_
      rintro e w4 ⟨A4, e4, rfl, hib, _, k4⟩
      have K4 := kr.call k4
      obtain ⟨LS, hLS⟩ : ∃ l, AL.filter (fun x => x != s) = l := ⟨_, rfl⟩
      have HLS := Lib.hid hLS
      rw [hLS] at hib ⊢
      obtain ⟨M2, hM2⟩ : ∃ M, LS.length = M := ⟨_, rfl⟩
      have HM2 := Lib.hid hM2
      rw [hM2] at hib ⊢
      have hmc2 : M2 ≤ e4 ∧ e4 ≤ 9223372036854775807 := by have h1 := hib.2.1; have h2 := hib.2.2.1; unfold maxLen at h2; omega
      have HIB := Lib.hid hib
      clear hib hM2 hLS
      go_wp2_with fail
      go_loopw [14, 15] (fun kv iv w9 => ∃ k i : Nat, i ≤ M ∧ k ≤ M2 ∧ kv = .int .i64 k ∧ iv = .int .i64 i ∧ Hid (((AL.take i).filter (fun x => x != s)).length = k) ∧ Kept w4 w9) (fun _ iv _ => M - (intOf iv).toNat)
      case atStart => exact ⟨0, 0, by omega, by omega, rfl, rfl, rfl, Kept.refl _⟩
      case round =>
        obtain ⟨k, i, hi, hk, rfl, rfl, hc, kr2⟩ := hrel
        by_cases hil : i < M
        · obtain ⟨x, hx⟩ : ∃ x, AL[i]? = some x := ⟨_, List.getElem?_eq_getElem (by rw [HM.out]; exact hil)⟩
          obtain ⟨b, off, rfl, hcc⟩ := HIA.out.2.2.2.2 (by omega)
          have q1 : wr.cell? ⟨b, off + i, none⟩ = some (.int .i64 (x : Nat)) := by rw [(K4.call kr2).at_ (hcc i hil), ints_get hx]
          by_cases hxs : x = s
          · have hc2 : Hid (((AL.take (i + 1)).filter (fun x => x != s)).length = k) := (filt_neg hx (by simp [hxs])).trans hc.out
            clear hcc hx
            subst hxs
            go_wp2_with fail
            go_roundw
            case rel => first | exact ⟨k, i + 1, by omega, hk, rfl, by go_num, hc2, kr2⟩ | ((repeat apply Exists.intro); exact ⟨⟨k, i + 1, by omega, hk, rfl, by go_num, hc2, kr2⟩, rfl⟩)
            case measure => simp [intOf]; omega
          · obtain ⟨hg, hc1⟩ := filt_pos (p := fun x => x != s) hx (by simp [hxs])
            rw [hc.out, HLS.out] at hg
            rw [hc.out] at hc1
            have hc2 := Lib.hid hc1
            have hkl : k < M2 := by have := (List.getElem?_eq_some_iff.1 hg).1; have := HM2.out; omega
            obtain ⟨b2, off2, rfl, hcc2⟩ := HIB.out.2.2.2.2 (by omega)
            have q2 : wr.cell? ⟨b2, off2 + k, none⟩ = some (.int .i64 (x : Nat)) := by rw [kr2.at_ (hcc2 k hkl), ints_get hg]
            have hxi : (((x : Nat) : Int) == (s : Nat)) = false := by simp; omega
            clear hcc hcc2 hx hg hc1 hc
            go_wp2_with fail
            refine wp_region_text keepsOne (fun wB => Kept w4 wB ∧ wB.cell? ⟨b, off + i, none⟩ = some (.int .i64 (x : Nat)) ∧ wB.cell? ⟨b2, off2 + k, none⟩ = some (.int .i64 (x : Nat))) ?_ (by kernel_rfl) (by kernel_rfl) _ (by (try simp only [List.append_eq, List.cons_append, List.nil_append, List.toList_toArray]); exact rfl) ?_
            · exact ⟨by repeat (first | exact Kept.refl _ | assumption | (refine Kept.alloc ?_ _) | (refine Kept.setCell ?_ (by first | omega | (simp; omega) | simp) _) | refine Kept.drew ?_ | refine Kept.drewN ?_ _ | (apply Kept.call; rotate_left; assumption)), by first | assumption | go_simp, by first | assumption | go_simp⟩
            rintro wB ⟨hkB, sB1, sB2⟩
            repeat (first | (apply DW.det; (focus (intro wd hI; have td1 := hI.at_ sB1; have td2 := hI.at_ sB2; skip; go_wp2_with (fail); refine StepPost.mk _ rfl ⟨rfl, ?_⟩; repeat (first | exact Kept.refl _ | assumption | (refine Kept.alloc ?_ _) | (refine Kept.setCell ?_ (by first | omega | (simp; omega) | simp) _) | refine Kept.drew ?_ | refine Kept.drewN ?_ _ | (apply Kept.call; rotate_left; assumption)))); simp only [Act.put, List.setIfInBounds_toArray, List.set_cons_succ, List.set_cons_zero]) | (refine DW.loud (by kernel_rfl) ?_; intro wd hI; have td1 := hI.at_ sB1; have td2 := hI.at_ sB2; skip; go_wp2_with (fail); refine StepPost.loud _ rfl (by repeat (first | exact Kept.refl _ | assumption | (refine Kept.alloc ?_ _) | (refine Kept.setCell ?_ (by first | omega | (simp; omega) | simp) _) | refine Kept.drew ?_ | refine Kept.drewN ?_ _ | (apply Kept.call; rotate_left; assumption))) (fun hkL => ?_); have hkL := hI.call hkL; have hkB := hkB.call hkL; have sB1 := hkL.at_ sB1; have sB2 := hkL.at_ sB2; simp only [Act.put, List.setIfInBounds_toArray, List.set_cons_succ, List.set_cons_zero]))
            refine DW.nil ?_
            intro wd hI
            have hkd := hkB.call hI
            have td1 := hI.at_ sB1; have td2 := hI.at_ sB2
            go_wp2_with fail
            go_roundw
            case rel => first | exact ⟨k + 1, i + 1, by omega, by omega, by go_num, by go_num, hc2, hkd⟩ | ((repeat apply Exists.intro); exact ⟨⟨k + 1, i + 1, by omega, by omega, by go_num, by go_num, hc2, hkd⟩, rfl⟩)
            case measure => simp [intOf]; omega
        · obtain rfl : i = M := by omega
          obtain rfl : k = M2 := by
            have h := hc.out
            rw [List.take_of_length_le (by rw [HM.out]; exact Nat.le_refl _), HLS.out, HM2.out] at h
            exact h.symm
          have kk := K4.call kr2
          go_wp2_with fail
          go_roundw
          case rel => first | exact ⟨s + 1, by omega, by go_num, kk⟩ | ((repeat apply Exists.intro); exact ⟨⟨s + 1, by omega, by go_num, kk⟩, rfl⟩)
          case measure => simp [intOf]; omega
    · obtain rfl : s = n3 := by omega
      go_wp2_with fail
      go_ret
      exact ⟨rfl, K2.call (K3.call kr)⟩
end Go.Proofs.Ytjmfdacokdffiaa
