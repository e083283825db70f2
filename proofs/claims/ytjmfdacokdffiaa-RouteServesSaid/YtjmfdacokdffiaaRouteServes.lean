/- The law RouteServes: a label goes over a step just if the step serves its key. -/
import Derived.Test.YtjmfdacokdffiaaRouN
set_option linter.unusedSimpArgs false
set_option linter.unusedVariables false
namespace Go.Proofs.Ytjmfdacokdffiaa
open Go.RowKit

theorem rfind_is (B : Option Addr) (m d : Nat) (rs : List Rg) (k : ByteArray) (G : Bool) (w : World) (hx : RowS w B m d rs) (hG : (∃ x ∈ rs, hasB x.1 x.2 k = true) ↔ G = true) :
    Calls Try.prog 30 #[.slice B m d, .string k] w fun e w' => ∃ r : Int, e = .returned (.int .i64 r) ∧ decide (0 ≤ r) = G ∧ Kept w w' :=
  (rfind_any B m d rs k w hx).mono fun e w' ⟨r, h1, h2, h3⟩ => ⟨r, h1, by
    have := (first_some h2).trans hG
    cases G
    · exact decide_eq_false fun h => by have := this.1 h; cases this
    · exact decide_eq_true (this.2 rfl), h3⟩
theorem keep_side {ps : List Int} {n : Nat} {a : Int} {o : Int} {l : List Nat} {s : Nat} (h : s ∈ l) : s ∈ keepL (delB ps n a (-1) o) l ↔ (bits .and .i64 (sideTo ps a s n : Nat) o == 0) = false := by
  unfold keepL
  rw [List.mem_filter]
  unfold delB
  have h1 : (((s : Nat) : Int) == -1) = false := by first | (simp; done) | (simp; omega)
  rw [h1]
  simp [h]
set_option maxRecDepth 20000 in
set_option maxHeartbeats 4000000 in
theorem routeServes_walk (A : Option Addr) (m c : Nat) (x : Nat → Int) (B : Option Addr) (m2 c2 : Nat) (y : Nat → Int) (C : Option Addr) (m3 c3 : Nat) (z : Nat → Int) (key : ByteArray) (at_ : Int) (w : World) (rx : RowAt w A m c 1 (fun i => [.int .i64 (x i)])) (_rx2 : ∀ i, i < m → (Lit.int .i64 (x i)).wf = true) (ry : RowAt w B m2 c2 1 (fun i => [.int .i64 (y i)])) (_ry2 : ∀ i, i < m2 → (Lit.int .i64 (y i)).wf = true) (rz : RowAt w C m3 c3 1 (fun i => [.int .i64 (z i)])) (_rz2 : ∀ i, i < m3 → (Lit.int .i64 (z i)).wf = true) (_wk : key.size ≤ maxLen) (_wa : (Lit.int .i64 at_).wf = true) :
    Calls Try.prog 8 #[.agg #[.slice A m c, .slice B m2 c2, .slice C m3 c3], .string key, .int .i64 at_] w fun e w' => e = .returned (.bool true) ∧ Kept w w' := by
  have HX := Lib.hid (IntsAt.of_row rx)
  have HY := Lib.hid (IntsAt.of_row ry)
  have HZ := Lib.hid (IntsAt.of_row rz)
  clear rx _rx2 ry _ry2 rz _rz2 _wk _wa
  generalize (List.range m).map x = xs at *
  generalize (List.range m2).map y = ys at *
  generalize (List.range m3).map z = zs at *
  go_enter Try.func8, Try.ntmps8
  go_wp2_with fail
  refine (awake_any _).mono ?_
  rintro e w1 ⟨rfl, k1_⟩
  have K1 : Kept w w1 := Kept.call (by repeat (first | exact Kept.refl _ | assumption | (refine Kept.alloc ?_ _) | (refine Kept.setCell ?_ (by first | omega | (simp; omega) | simp) _) | refine Kept.drew ?_ | refine Kept.drewN ?_ _ | (apply Kept.call; rotate_left; assumption))) k1_
  have cs0 : w1.cell? ⟨w.heap.size, 0, none⟩ = some (.slice A m c) := k1_.at_ (by go_simp)
  have cs1 : w1.cell? ⟨w.heap.size, 1, none⟩ = some (.slice B m2 c2) := k1_.at_ (by go_simp)
  have cs2 : w1.cell? ⟨w.heap.size, 2, none⟩ = some (.slice C m3 c3) := k1_.at_ (by go_simp)
  go_wp2_with fail
  refine (row_any A B C m c m2 c2 m3 c3 xs ys zs _ (HX.out.keep (by repeat (first | exact Kept.refl _ | assumption | (refine Kept.alloc ?_ _) | (refine Kept.setCell ?_ (by first | omega | (simp; omega) | simp) _) | refine Kept.drew ?_ | refine Kept.drewN ?_ _ | (apply Kept.call; rotate_left; assumption)))) (HY.out.keep (by repeat (first | exact Kept.refl _ | assumption | (refine Kept.alloc ?_ _) | (refine Kept.setCell ?_ (by first | omega | (simp; omega) | simp) _) | refine Kept.drew ?_ | refine Kept.drewN ?_ _ | (apply Kept.call; rotate_left; assumption)))) (HZ.out.keep (by repeat (first | exact Kept.refl _ | assumption | (refine Kept.alloc ?_ _) | (refine Kept.setCell ?_ (by first | omega | (simp; omega) | simp) _) | refine Kept.drew ?_ | refine Kept.drewN ?_ _ | (apply Kept.call; rotate_left; assumption))))).mono ?_
  rintro e w2 ⟨a1, b1, g1, n1, d1, n2, d2, n3, d3, es, os, ps, rfl, ⟨l1, l2, l3⟩, hr, hf, k2⟩
  have K2 : Kept w w2 := K1.call k2
  have HR := Lib.hid hr
  have HF := Lib.hid hf
  have hpl : ps.length = n3 := hr.ps.1
  have HPL := Lib.hid hpl
  have h1n : 1 ≤ n3 := hf.fit.one
  have h6n : n3 ≤ 6 := hf.fit.six
  have hne0 : ((n3 : Int) == 0) = false := by simp; omega
  have hatb := tmod_bd at_ n3 (by omega)
  obtain ⟨f, hat, hfn⟩ : ∃ r : Nat, (at_.tmod (n3 : Int) + n3).tmod (n3 : Int) = r ∧ r < n3 := by
    have h2 := Int.tmod_nonneg (n3 : Int) (show 0 ≤ at_.tmod (n3 : Int) + n3 by omega)
    have h3 := Int.tmod_lt_of_pos (at_.tmod (n3 : Int) + n3) (show 0 < (n3 : Int) by omega)
    exact ⟨_, (Int.toNat_of_nonneg h2).symm, by omega⟩
  have hbd3 : n3 ≤ d3 ∧ d3 ≤ 9223372036854775807 := by have h1 := hr.ps.2.1; have h2 := hr.ps.2.2.1; unfold maxLen at h2; omega
  clear hr hf hpl cs0 cs1 cs2 l1 l2 l3 K1 HX HY HZ
  go_wp2_with fail
  refine (rnear _ n3 d3 ps f _ (HR.out.ps.keep (by repeat (first | exact Kept.refl _ | assumption | (refine Kept.alloc ?_ _) | (refine Kept.setCell ?_ (by first | omega | (simp; omega) | simp) _) | refine Kept.drew ?_ | refine Kept.drewN ?_ _ | (apply Kept.call; rotate_left; assumption))))).mono ?_
  rintro e w3 ⟨A3, e3, rfl, hia, k3⟩
  have K3 : Kept w2 w3 := Kept.call (by repeat (first | exact Kept.refl _ | assumption | (refine Kept.alloc ?_ _) | (refine Kept.setCell ?_ (by first | omega | (simp; omega) | simp) _) | refine Kept.drew ?_ | refine Kept.drewN ?_ _ | (apply Kept.call; rotate_left; assumption))) k3
  have x0 : w3.cell? ⟨w2.heap.size, 0, none⟩ = some (.slice (some ⟨a1, 0, none⟩) n1 d1) := k3.at_ (by go_simp)
  have x1 : w3.cell? ⟨w2.heap.size, 1, none⟩ = some (.slice (some ⟨b1, 0, none⟩) n2 d2) := k3.at_ (by go_simp)
  have x2 : w3.cell? ⟨w2.heap.size, 2, none⟩ = some (.slice (some ⟨g1, 0, none⟩) n3 d3) := k3.at_ (by go_simp)
  have HIA := Lib.hid hia
  clear hia
  go_wp2_with fail
  refine (next_any _ _ _ n1 d1 n2 d2 n3 d3 es os ps f (-1) key _ (HR.out.keep K3) HF.out).mono ?_
  rintro e w4 ⟨A4, e4, rfl, hib, _, k4⟩
  have K4 := K3.call k4
  have y0 := k4.at_ x0
  have y1 := k4.at_ x1
  have y2 := k4.at_ x2
  have HIA4 := Lib.hid (HIA.out.keep k4)
  obtain ⟨o, ho⟩ : ∃ o, oa os (findI es (hv key)) = o := ⟨_, rfl⟩
  have HOO := Lib.hid ho
  rw [ho] at hib ⊢
  have HKS : Hid (∀ s, s ∈ nearOf ps f → (s ∈ keepL (delB ps n3 f (-1) o) (nearOf ps f) ↔ (bits .and .i64 (sideTo ps f s n3 : Nat) o == 0) = false)) := fun s h => keep_side h
  have HLN : Hid ((keepL (delB ps n3 f (-1) o) (nearOf ps f)).length ≤ (nearOf ps f).length) := List.length_filter_le _ _
  have HSV : Hid (∀ s, s ∈ nearOf ps f → srv es os ps n3 f (s : Nat) = srvTo es os (sideTo ps f s n3 : Nat) (es.length + 1)) := fun s h => by
    unfold srv
    rw [if_pos (by unfold ints; exact List.mem_map.2 ⟨s, h, rfl⟩)]
  clear ho
  generalize keepL (delB ps n3 f (-1) o) (nearOf ps f) = LS at *
  generalize nearOf ps f = NS at *
  obtain ⟨M, hM⟩ : ∃ M, NS.length = M := ⟨_, rfl⟩
  have HM := Lib.hid hM
  obtain ⟨M2, hM2⟩ : ∃ M, LS.length = M := ⟨_, rfl⟩
  have HM2 := Lib.hid hM2
  have hMM : M2 ≤ M := by rw [← hM, ← hM2]; exact HLN.out
  rw [hM] at HIA4 ⊢
  rw [hM2] at hib ⊢
  have HIB := Lib.hid hib
  have hmc : M ≤ e3 ∧ e3 ≤ 9223372036854775807 := by have h1 := HIA4.out.2.1; have h2 := HIA4.out.2.2.1; unfold maxLen at h2; omega
  have hmc2 : M2 ≤ e4 ∧ e4 ≤ 9223372036854775807 := by have h1 := hib.2.1; have h2 := hib.2.2.1; unfold maxLen at h2; omega
  clear hib hM hM2 HIA x0 x1 x2
  go_wp2_with fail
  go_loopw [13] (fun iv wr => ∃ i : Nat, i ≤ M ∧ iv = .int .i64 i ∧ Kept w4 wr) (fun iv _ => M - (intOf iv).toNat)
  case atStart => exact ⟨0, by omega, rfl, Kept.refl _⟩
  case round =>
    obtain ⟨i, hi, rfl, kr⟩ := hrel
    by_cases hlt : i < M
    · obtain ⟨s, hs⟩ : ∃ s, NS[i]? = some s := ⟨_, List.getElem?_eq_getElem (by rw [HM.out]; exact hlt)⟩
      have hsm : s ∈ NS := List.mem_of_getElem? hs
      obtain ⟨b, off, rfl, hcc⟩ := HIA4.out.2.2.2.2 (by omega)
      have q1 : wr.cell? ⟨b, off + i, none⟩ = some (.int .i64 (s : Nat)) := by rw [kr.at_ (hcc i hlt), ints_get hs]
      obtain ⟨G, hG⟩ : ∃ G : Bool, (bits .and .i64 (sideTo ps f s n3 : Nat) o == 0) = !G := ⟨!(bits .and .i64 (sideTo ps f s n3 : Nat) o == 0), by simp⟩
      have HG1 : Hid ((∃ x ∈ srv es os ps n3 f (s : Nat), hasB x.1 x.2 key = true) ↔ G = true) := by
        unfold Hid
        rw [HSV.out s hsm, srv_key HF.out.fit.up, HOO.out, and_comm64, hG]
        simp
      have HG2 : Hid (s ∈ LS ↔ G = true) := by
        unfold Hid
        rw [HKS.out s hsm, hG]
        simp
      have z0 := kr.at_ y0
      have z1 := kr.at_ y1
      have z2 := kr.at_ y2
      clear hcc hs hsm hG
      go_wp2_with fail
      refine wp_region_dw keepsOne [0, 1, 2, 3, 4, 5, 7, 6, 8, 9, 10] (fun wB => Kept w4 wB ∧ wB.cell? ⟨w2.heap.size, 0, none⟩ = some (.slice (some ⟨a1, 0, none⟩) n1 d1) ∧ wB.cell? ⟨w2.heap.size, 1, none⟩ = some (.slice (some ⟨b1, 0, none⟩) n2 d2) ∧ wB.cell? ⟨w2.heap.size, 2, none⟩ = some (.slice (some ⟨g1, 0, none⟩) n3 d3) ∧ wB.cell? ⟨b, off + i, none⟩ = some (.int .i64 (s : Nat))) ?_ (by kernel_rfl) (by kernel_rfl) _ (by (try simp only [List.append_eq, List.cons_append, List.nil_append, List.toList_toArray]); exact rfl) ?_
      · exact ⟨by repeat (first | exact Kept.refl _ | assumption | (refine Kept.alloc ?_ _) | (refine Kept.setCell ?_ (by first | omega | (simp; omega) | simp) _) | refine Kept.drew ?_ | refine Kept.drewN ?_ _ | (apply Kept.call; rotate_left; assumption)), by first | assumption | go_simp, by first | assumption | go_simp, by first | assumption | go_simp, by first | assumption | go_simp⟩
      rintro wB ⟨hkB, sB1, sB2, sB3, sB4⟩
      simp only [List.map_cons, List.map_nil, List.toList_toArray, List.getElem?_cons_zero, List.getElem?_cons_succ, Option.getD_some]
      repeat (first | (apply DW.det; (focus (intro wd hI; have td1 := hI.at_ sB1; have td2 := hI.at_ sB2; have td3 := hI.at_ sB3; have td4 := hI.at_ sB4; skip; go_wp2_with (first | (go_at_call 23; refine (serves_any _ _ _ n1 d1 n2 d2 n3 d3 es os ps f s _ (HR.out.keep (K4.call (hkB.call hI))) HF.out).mono ?_; rintro e w6 ⟨D6, n6, c6, rfl, hs6, hb6⟩; have HS6 := Lib.hid hs6; clear hs6) | (go_at_call 30; refine (rfind_is D6 n6 c6 _ key G _ (HS6.out.keep hI) HG1.out).mono ?_; rintro e w7 ⟨r7, rfl, hr7, hb7⟩)); refine StepPost.mk _ rfl ⟨rfl, ?_⟩; repeat (first | exact Kept.refl _ | assumption | (refine Kept.alloc ?_ _) | (refine Kept.setCell ?_ (by first | omega | (simp; omega) | simp) _) | refine Kept.drew ?_ | refine Kept.drewN ?_ _ | (apply Kept.call; rotate_left; assumption)))); simp only [Act.put, List.setIfInBounds_toArray, List.set_cons_succ, List.set_cons_zero]) | (refine DW.loud (by kernel_rfl) ?_; intro wd hI; have td1 := hI.at_ sB1; have td2 := hI.at_ sB2; have td3 := hI.at_ sB3; have td4 := hI.at_ sB4; skip; go_wp2_with (first | (go_at_call 23; refine (serves_any _ _ _ n1 d1 n2 d2 n3 d3 es os ps f s _ (HR.out.keep (K4.call (hkB.call hI))) HF.out).mono ?_; rintro e w6 ⟨D6, n6, c6, rfl, hs6, hb6⟩; have HS6 := Lib.hid hs6; clear hs6) | (go_at_call 30; refine (rfind_is D6 n6 c6 _ key G _ (HS6.out.keep hI) HG1.out).mono ?_; rintro e w7 ⟨r7, rfl, hr7, hb7⟩)); refine StepPost.loud _ rfl (by repeat (first | exact Kept.refl _ | assumption | (refine Kept.alloc ?_ _) | (refine Kept.setCell ?_ (by first | omega | (simp; omega) | simp) _) | refine Kept.drew ?_ | refine Kept.drewN ?_ _ | (apply Kept.call; rotate_left; assumption))) (fun hkL => ?_); have hkL := hI.call hkL; have hkB := hkB.call hkL; have sB1 := hkL.at_ sB1; have sB2 := hkL.at_ sB2; have sB3 := hkL.at_ sB3; have sB4 := hkL.at_ sB4; simp only [Act.put, List.setIfInBounds_toArray, List.set_cons_succ, List.set_cons_zero]))
      refine DW.nil ?_
      intro wd hI
      have hkd := hkB.call hI
      have td1 := hI.at_ sB1; have td2 := hI.at_ sB2; have td3 := hI.at_ sB3; have td4 := hI.at_ sB4
      clear hr7 HS6 HG1 q1 sB1 sB2 sB3 sB4
      have q1 := td4
      clear td1 td2 td3 td4
      go_wp2_with fail
      go_loopw [15, 16] (fun gv kv wr => ∃ (k : Nat) (H : Bool), k ≤ M2 ∧ gv = .bool H ∧ kv = .int .i64 k ∧ Hid (H = decide (s ∈ LS.take k)) ∧ Kept wd wr) (fun _ kv _ => M2 - (intOf kv).toNat)
      case atStart => exact ⟨0, false, by omega, rfl, rfl, by unfold Hid; simp, Kept.refl _⟩
      case round =>
        obtain ⟨k, H, hk, rfl, rfl, hH, kr2⟩ := hrel
        have KK := hkd.call kr2
        by_cases hkl : k < M2
        · obtain ⟨y, hy⟩ : ∃ y, LS[k]? = some y := ⟨_, List.getElem?_eq_getElem (by rw [HM2.out]; exact hkl)⟩
          obtain ⟨b2, off2, rfl, hcc⟩ := HIB.out.2.2.2.2 (by omega)
          have q2 : wr.cell? ⟨b2, off2 + k, none⟩ = some (.int .i64 (y : Nat)) := by rw [KK.at_ (hcc k hkl), ints_get hy]
          have q3 := kr2.at_ q1
          have htk : Hid (s ∈ LS.take (k + 1) ↔ s ∈ LS.take k ∨ s = y) := by
            obtain ⟨hlt9, he9⟩ := List.getElem?_eq_some_iff.1 hy
            unfold Hid
            rw [List.take_succ_eq_append_getElem hlt9, he9]
            simp
          clear hcc hy q1
          cases H
          · have hno : Hid (¬ s ∈ LS.take k) := fun h => by
              have := hH.out
              rw [decide_eq_true h] at this
              cases this
            by_cases hys : y = s
            · have h2 : Hid (true = decide (s ∈ LS.take (k + 1))) := (decide_eq_true (htk.out.2 (.inr hys.symm))).symm
              subst hys
              clear hH
              go_wp2_with fail
              refine wp_region_text keepsOne (fun wB => Kept wd wB ∧ wB.cell? ⟨b2, off2 + k, none⟩ = some (.int .i64 (y : Nat)) ∧ wB.cell? ⟨b, off + i, none⟩ = some (.int .i64 (y : Nat))) ?_ (by kernel_rfl) (by kernel_rfl) _ (by (try simp only [List.append_eq, List.cons_append, List.nil_append, List.toList_toArray]); exact rfl) ?_
              · exact ⟨by repeat (first | exact Kept.refl _ | assumption | (refine Kept.alloc ?_ _) | (refine Kept.setCell ?_ (by first | omega | (simp; omega) | simp) _) | refine Kept.drew ?_ | refine Kept.drewN ?_ _ | (apply Kept.call; rotate_left; assumption)), by first | assumption | go_simp, by first | assumption | go_simp⟩
              rintro wB ⟨hkB, sB1, sB2⟩
              repeat (first | (apply DW.det; (focus (intro wd hI; have td1 := hI.at_ sB1; have td2 := hI.at_ sB2; skip; go_wp2_with (fail); refine StepPost.mk _ rfl ⟨rfl, ?_⟩; repeat (first | exact Kept.refl _ | assumption | (refine Kept.alloc ?_ _) | (refine Kept.setCell ?_ (by first | omega | (simp; omega) | simp) _) | refine Kept.drew ?_ | refine Kept.drewN ?_ _ | (apply Kept.call; rotate_left; assumption)))); simp only [Act.put, List.setIfInBounds_toArray, List.set_cons_succ, List.set_cons_zero]) | (refine DW.loud (by kernel_rfl) ?_; intro wd hI; have td1 := hI.at_ sB1; have td2 := hI.at_ sB2; skip; go_wp2_with (fail); refine StepPost.loud _ rfl (by repeat (first | exact Kept.refl _ | assumption | (refine Kept.alloc ?_ _) | (refine Kept.setCell ?_ (by first | omega | (simp; omega) | simp) _) | refine Kept.drew ?_ | refine Kept.drewN ?_ _ | (apply Kept.call; rotate_left; assumption))) (fun hkL => ?_); have hkL := hI.call hkL; have hkB := hkB.call hkL; have sB1 := hkL.at_ sB1; have sB2 := hkL.at_ sB2; simp only [Act.put, List.setIfInBounds_toArray, List.set_cons_succ, List.set_cons_zero]))
              refine DW.nil ?_
              intro wd hI
              have hkd := hkB.call hI
              have td1 := hI.at_ sB1; have td2 := hI.at_ sB2
              go_wp2_with fail
              go_roundw
              case rel => first | exact ⟨k + 1, true, by omega, rfl, by go_num, h2, hkd⟩ | ((repeat apply Exists.intro); exact ⟨⟨k + 1, true, by omega, rfl, by go_num, h2, hkd⟩, rfl⟩)
              case measure => simp [intOf]; omega
            · have h2 : Hid (false = decide (s ∈ LS.take (k + 1))) := (decide_eq_false (fun h => (htk.out.1 h).elim hno.out (fun e => hys e.symm))).symm
              have d1 : (((y : Nat) : Int) == (s : Nat)) = false := by simp; omega
              clear hH hys
              go_wp2_with fail
              refine wp_region_text keepsOne (fun wB => Kept wd wB ∧ wB.cell? ⟨b2, off2 + k, none⟩ = some (.int .i64 (y : Nat)) ∧ wB.cell? ⟨b, off + i, none⟩ = some (.int .i64 (s : Nat))) ?_ (by kernel_rfl) (by kernel_rfl) _ (by (try simp only [List.append_eq, List.cons_append, List.nil_append, List.toList_toArray]); exact rfl) ?_
              · exact ⟨by repeat (first | exact Kept.refl _ | assumption | (refine Kept.alloc ?_ _) | (refine Kept.setCell ?_ (by first | omega | (simp; omega) | simp) _) | refine Kept.drew ?_ | refine Kept.drewN ?_ _ | (apply Kept.call; rotate_left; assumption)), by first | assumption | go_simp, by first | assumption | go_simp⟩
              rintro wB ⟨hkB, sB1, sB2⟩
              repeat (first | (apply DW.det; (focus (intro wd hI; have td1 := hI.at_ sB1; have td2 := hI.at_ sB2; skip; go_wp2_with (fail); refine StepPost.mk _ rfl ⟨rfl, ?_⟩; repeat (first | exact Kept.refl _ | assumption | (refine Kept.alloc ?_ _) | (refine Kept.setCell ?_ (by first | omega | (simp; omega) | simp) _) | refine Kept.drew ?_ | refine Kept.drewN ?_ _ | (apply Kept.call; rotate_left; assumption)))); simp only [Act.put, List.setIfInBounds_toArray, List.set_cons_succ, List.set_cons_zero]) | (refine DW.loud (by kernel_rfl) ?_; intro wd hI; have td1 := hI.at_ sB1; have td2 := hI.at_ sB2; skip; go_wp2_with (fail); refine StepPost.loud _ rfl (by repeat (first | exact Kept.refl _ | assumption | (refine Kept.alloc ?_ _) | (refine Kept.setCell ?_ (by first | omega | (simp; omega) | simp) _) | refine Kept.drew ?_ | refine Kept.drewN ?_ _ | (apply Kept.call; rotate_left; assumption))) (fun hkL => ?_); have hkL := hI.call hkL; have hkB := hkB.call hkL; have sB1 := hkL.at_ sB1; have sB2 := hkL.at_ sB2; simp only [Act.put, List.setIfInBounds_toArray, List.set_cons_succ, List.set_cons_zero]))
              refine DW.nil ?_
              intro wd hI
              have hkd := hkB.call hI
              have td1 := hI.at_ sB1; have td2 := hI.at_ sB2
              go_wp2_with fail
              go_roundw
              case rel => first | exact ⟨k + 1, false, by omega, rfl, by go_num, h2, hkd⟩ | ((repeat apply Exists.intro); exact ⟨⟨k + 1, false, by omega, rfl, by go_num, h2, hkd⟩, rfl⟩)
              case measure => simp [intOf]; omega
          · have h2 : Hid (true = decide (s ∈ LS.take (k + 1))) := (decide_eq_true (htk.out.2 (.inl (of_decide_eq_true hH.out.symm)))).symm
            clear hH
            go_wp2_with fail
            refine wp_region_text keepsOne (fun wB => Kept wd wB ∧ wB.cell? ⟨b2, off2 + k, none⟩ = some (.int .i64 (y : Nat)) ∧ wB.cell? ⟨b, off + i, none⟩ = some (.int .i64 (s : Nat))) ?_ (by kernel_rfl) (by kernel_rfl) _ (by (try simp only [List.append_eq, List.cons_append, List.nil_append, List.toList_toArray]); exact rfl) ?_
            · exact ⟨by repeat (first | exact Kept.refl _ | assumption | (refine Kept.alloc ?_ _) | (refine Kept.setCell ?_ (by first | omega | (simp; omega) | simp) _) | refine Kept.drew ?_ | refine Kept.drewN ?_ _ | (apply Kept.call; rotate_left; assumption)), by first | assumption | go_simp, by first | assumption | go_simp⟩
            rintro wB ⟨hkB, sB1, sB2⟩
            repeat (first | (apply DW.det; (focus (intro wd hI; have td1 := hI.at_ sB1; have td2 := hI.at_ sB2; skip; go_wp2_with (fail); refine StepPost.mk _ rfl ⟨rfl, ?_⟩; repeat (first | exact Kept.refl _ | assumption | (refine Kept.alloc ?_ _) | (refine Kept.setCell ?_ (by first | omega | (simp; omega) | simp) _) | refine Kept.drew ?_ | refine Kept.drewN ?_ _ | (apply Kept.call; rotate_left; assumption)))); simp only [Act.put, List.setIfInBounds_toArray, List.set_cons_succ, List.set_cons_zero]) | (refine DW.loud (by kernel_rfl) ?_; intro wd hI; have td1 := hI.at_ sB1; have td2 := hI.at_ sB2; skip; go_wp2_with (fail); refine StepPost.loud _ rfl (by repeat (first | exact Kept.refl _ | assumption | (refine Kept.alloc ?_ _) | (refine Kept.setCell ?_ (by first | omega | (simp; omega) | simp) _) | refine Kept.drew ?_ | refine Kept.drewN ?_ _ | (apply Kept.call; rotate_left; assumption))) (fun hkL => ?_); have hkL := hI.call hkL; have hkB := hkB.call hkL; have sB1 := hkL.at_ sB1; have sB2 := hkL.at_ sB2; simp only [Act.put, List.setIfInBounds_toArray, List.set_cons_succ, List.set_cons_zero]))
            refine DW.nil ?_
            intro wd hI
            have hkd := hkB.call hI
            have td1 := hI.at_ sB1; have td2 := hI.at_ sB2
            go_wp2_with fail
            go_roundw
            case rel => first | exact ⟨k + 1, true, by omega, rfl, by go_num, h2, hkd⟩ | ((repeat apply Exists.intro); exact ⟨⟨k + 1, true, by omega, rfl, by go_num, h2, hkd⟩, rfl⟩)
            case measure => simp [intOf]; omega
        · obtain rfl : k = M2 := by omega
          obtain rfl : H = G := by
            rw [hH.out, List.take_of_length_le (by rw [HM2.out]; exact Nat.le_refl _)]
            cases H <;> cases G <;> simp [HG2.out]
          clear hH HG2
          go_wp2_with fail
          go_roundw
          case rel => first | exact ⟨i + 1, by omega, by go_num, KK⟩ | ((repeat apply Exists.intro); exact ⟨⟨i + 1, by omega, by go_num, KK⟩, rfl⟩)
          case measure => simp [intOf]; omega
    · obtain rfl : i = M := by omega
      go_wp2_with fail
      go_ret
      exact ⟨by first | rfl | exact ret_bool (by simp; omega), K2.call (K4.call kr)⟩
end Go.Proofs.Ytjmfdacokdffiaa
