/- The law RouteOnly: where all own the key, a label goes everywhere; where its beginning alone does, nowhere. -/
import Derived.Test.YtjmfdacokdffiaaRouP
set_option linter.unusedSimpArgs false
set_option linter.unusedVariables false
namespace Go.Proofs.Ytjmfdacokdffiaa
open Go.RowKit

set_option maxRecDepth 20000 in
set_option maxHeartbeats 8000000 in
theorem routeOnly_walk (A : Option Addr) (m c : Nat) (x : Nat → Int) (B : Option Addr) (m2 c2 : Nat) (y : Nat → Int) (C : Option Addr) (m3 c3 : Nat) (z : Nat → Int) (key : ByteArray) (at_ : Int) (w : World) (rx : RowAt w A m c 1 (fun i => [.int .i64 (x i)])) (_rx2 : ∀ i, i < m → (Lit.int .i64 (x i)).wf = true) (ry : RowAt w B m2 c2 1 (fun i => [.int .i64 (y i)])) (_ry2 : ∀ i, i < m2 → (Lit.int .i64 (y i)).wf = true) (rz : RowAt w C m3 c3 1 (fun i => [.int .i64 (z i)])) (_rz2 : ∀ i, i < m3 → (Lit.int .i64 (z i)).wf = true) (_wk : key.size ≤ maxLen) (_wa : (Lit.int .i64 at_).wf = true) :
    Calls Try.prog 6 #[.agg #[.slice A m c, .slice B m2 c2, .slice C m3 c3], .string key, .int .i64 at_] w fun e w' => e = .returned (.bool true) ∧ Kept w w' := by
  obtain ⟨i0, hi, hz0, hz1, hz2⟩ := info_parts infoInt
  have HI := Lib.hid hi
  clear hi
  have HX := Lib.hid (IntsAt.of_row rx)
  have HY := Lib.hid (IntsAt.of_row ry)
  have HZ := Lib.hid (IntsAt.of_row rz)
  clear rx _rx2 ry _ry2 rz _rz2 _wk _wa
  generalize (List.range m).map x = xs at *
  generalize (List.range m2).map y = ys at *
  generalize (List.range m3).map z = zs at *
  go_enter Try.func6, Try.ntmps6
  go_wp2_with fail
  refine (awake_any _).mono ?_
  rintro e w1 ⟨rfl, k1_⟩
  have K1 : Kept w w1 := Kept.call (by repeat (first | exact Kept.refl _ | assumption | (refine Kept.alloc ?_ _) | (refine Kept.setCell ?_ (by first | omega | (simp; omega) | simp) _) | refine Kept.drew ?_ | refine Kept.drewN ?_ _ | (apply Kept.call; rotate_left; assumption))) k1_
  have cs0 : w1.cell? ⟨w.heap.size, 0, none⟩ = some (.slice A m c) := k1_.at_ (by go_simp)
  have cs1 : w1.cell? ⟨w.heap.size, 1, none⟩ = some (.slice B m2 c2) := k1_.at_ (by go_simp)
  have cs2 : w1.cell? ⟨w.heap.size, 2, none⟩ = some (.slice C m3 c3) := k1_.at_ (by go_simp)
  go_wp2_with fail
  refine (row_any A B C m c m2 c2 m3 c3 xs ys zs _ (HX.out.keep (by repeat (first | exact Kept.refl _ | assumption | (refine Kept.alloc ?_ _) | (refine Kept.setCell ?_ (by first | omega | (simp; omega) | simp) _) | refine Kept.drew ?_ | refine Kept.drewN ?_ _ | (apply Kept.call; rotate_left; assumption)))) (HY.out.keep (by repeat (first | exact Kept.refl _ | assumption | (refine Kept.alloc ?_ _) | (refine Kept.setCell ?_ (by first | omega | (simp; omega) | simp) _) | refine Kept.drew ?_ | refine Kept.drewN ?_ _ | (apply Kept.call; rotate_left; assumption)))) (HZ.out.keep (by repeat (first | exact Kept.refl _ | assumption | (refine Kept.alloc ?_ _) | (refine Kept.setCell ?_ (by first | omega | (simp; omega) | simp) _) | refine Kept.drew ?_ | refine Kept.drewN ?_ _ | (apply Kept.call; rotate_left; assumption))))).mono ?_
  rintro e w2 ⟨a1, b1, g1, n1, d1, n2, d2, n3, d3, es, os, ps, rfl, ⟨l1, l2, l3⟩, hr, hf, k2⟩
  have K2 : Kept w w2 := K1.call k2
  have HR := Lib.hid hr
  have HF := Lib.hid hf
  have hpl : ps.length = n3 := hr.ps.1
  have HPL := Lib.hid hpl
  have h1n : 1 ≤ n3 := hf.fit.one
  have h6n : n3 ≤ 6 := hf.fit.six
  have hne0 : ((n3 : Int) == 0) = false := by simp; omega
  have hatb := tmod_bd at_ n3 (by omega)
  obtain ⟨f, hat, hfn⟩ : ∃ r : Nat, (at_.tmod (n3 : Int) + n3).tmod (n3 : Int) = r ∧ r < n3 := by
    have h2 := Int.tmod_nonneg (n3 : Int) (show 0 ≤ at_.tmod (n3 : Int) + n3 by omega)
    have h3 := Int.tmod_lt_of_pos (at_.tmod (n3 : Int) + n3) (show 0 < (n3 : Int) by omega)
    exact ⟨_, (Int.toNat_of_nonneg h2).symm, by omega⟩
  have hbd3 : n3 ≤ d3 ∧ d3 ≤ 9223372036854775807 := by have h1 := hr.ps.2.1; have h2 := hr.ps.2.2.1; unfold maxLen at h2; omega
  clear hr hf hpl cs0 cs1 cs2 l1 l2 l3 K1 HX HY HZ
  go_wp2_with fail
  have x0 : (w2.alloc (.cells #[.slice (some ⟨a1, 0, none⟩) n1 d1, .slice (some ⟨b1, 0, none⟩) n2 d2, .slice (some ⟨g1, 0, none⟩) n3 d3] 28)).cell? ⟨w2.heap.size, 0, none⟩ = some (.slice (some ⟨a1, 0, none⟩) n1 d1) := by go_simp
  have x1 : (w2.alloc (.cells #[.slice (some ⟨a1, 0, none⟩) n1 d1, .slice (some ⟨b1, 0, none⟩) n2 d2, .slice (some ⟨g1, 0, none⟩) n3 d3] 28)).cell? ⟨w2.heap.size, 1, none⟩ = some (.slice (some ⟨b1, 0, none⟩) n2 d2) := by go_simp
  have x2 : (w2.alloc (.cells #[.slice (some ⟨a1, 0, none⟩) n1 d1, .slice (some ⟨b1, 0, none⟩) n2 d2, .slice (some ⟨g1, 0, none⟩) n3 d3] 28)).cell? ⟨w2.heap.size, 2, none⟩ = some (.slice (some ⟨g1, 0, none⟩) n3 d3) := by go_simp
  have K3 : Kept w2 (w2.alloc (.cells #[.slice (some ⟨a1, 0, none⟩) n1 d1, .slice (some ⟨b1, 0, none⟩) n2 d2, .slice (some ⟨g1, 0, none⟩) n3 d3] 28)) := by repeat (first | exact Kept.refl _ | assumption | (refine Kept.alloc ?_ _) | (refine Kept.setCell ?_ (by first | omega | (simp; omega) | simp) _) | refine Kept.drew ?_ | refine Kept.drewN ?_ _ | (apply Kept.call; rotate_left; assumption))
  generalize w2.alloc (.cells #[.slice (some ⟨a1, 0, none⟩) n1 d1, .slice (some ⟨b1, 0, none⟩) n2 d2, .slice (some ⟨g1, 0, none⟩) n3 d3] 28) = w3 at *
  have hn1 : Hid (n1 = es.length + 1) := by have := HR.out.rs.1; rw [rgs_len] at this; exact this.symm
  have hbd1 : n1 ≤ d1 ∧ d1 ≤ 9223372036854775807 ∧ n1 ≤ 7 := by
    have h1 := HR.out.rs.2.1; have h2 := HR.out.rs.2.2.1; have h3 := HF.out.fit.up.six; have h4 := hn1.out; unfold maxLen at h2; omega
  go_loopw [11, 12, 13] (fun av bv iv wr => ∃ i : Nat, i ≤ n3 ∧ av = .int .i64 ((2 ^ i : Nat) : Int) ∧ bv = .int .i64 ((2 ^ (min i f) : Nat) : Int) ∧ iv = .int .i64 i ∧ Kept w3 wr) (fun _ _ iv _ => n3 - (intOf iv).toNat)
  case atStart => exact ⟨0, by omega, rfl, by simp, rfl, Kept.refl _⟩
  case round =>
    obtain ⟨i, hi, rfl, rfl, rfl, kr⟩ := hrel
    have ht := two_le (n := i) (by omega)
    have hu := two_le (n := min i f) (by omega)
    by_cases hlt : i < n3
    · have hp2 : Hid (2 ^ (i + 1) = 2 * 2 ^ i) := by unfold Hid; rw [Nat.pow_succ, Nat.mul_comm]
      by_cases hif : i < f
      · have hm2 : Hid (2 ^ (min (i + 1) f) = 2 * 2 ^ (min i f)) := by
          unfold Hid
          rw [Nat.min_eq_left (by omega), Nat.min_eq_left (by omega), Nat.pow_succ, Nat.mul_comm]
        generalize 2 ^ i = t at *
        generalize 2 ^ (min i f) = u at *
        go_wp2_with fail
        go_roundw
        case rel => first | exact ⟨i + 1, by omega, by rw [hp2.out]; go_num, by rw [hm2.out]; go_num, by go_num, kr⟩ | ((repeat apply Exists.intro); exact ⟨⟨i + 1, by omega, by rw [hp2.out]; go_num, by rw [hm2.out]; go_num, by go_num, kr⟩, rfl⟩)
        case measure => simp [intOf]; omega
      · have hm2 : Hid (2 ^ (min (i + 1) f) = 2 ^ (min i f)) := by
          unfold Hid
          rw [Nat.min_eq_right (by omega), Nat.min_eq_right (by omega)]
        generalize 2 ^ i = t at *
        generalize 2 ^ (min i f) = u at *
        go_wp2_with fail
        go_roundw
        case rel => first | exact ⟨i + 1, by omega, by rw [hp2.out]; go_num, by rw [hm2.out], by go_num, kr⟩ | ((repeat apply Exists.intro); exact ⟨⟨i + 1, by omega, by rw [hp2.out]; go_num, by rw [hm2.out], by go_num, kr⟩, rfl⟩)
        case measure => simp [intOf]; omega
    · obtain rfl : i = n3 := by omega
      rw [Nat.min_eq_right (by omega)] at hu ⊢
      have hT2 := two_big h1n
      have HP2 := Lib.hid HPL.out
      have HUT : Hid (2 ^ f < 2 ^ i) := Nat.pow_lt_pow_right (by omega) hfn
      have hU1 : 1 ≤ 2 ^ f := Nat.pow_pos (by omega)
      obtain ⟨T, hT⟩ : ∃ T, 2 ^ i = T := ⟨_, rfl⟩
      obtain ⟨U, hU⟩ : ∃ U, 2 ^ f = U := ⟨_, rfl⟩
      have HT := Lib.hid hT
      have HU := Lib.hid hU
      rw [hT] at ht hT2 HUT ⊢
      rw [hU] at hu hU1 HUT ⊢
      have hUT : U < T := HUT.out
      have y0 := kr.at_ x0
      have y1 := kr.at_ x1
      have y2 := kr.at_ x2
      have hlw : w2.heap.size < wr.heap.size := World.block_lt_of_cell? wr _ y0
      clear hT hU HUT hlt x0 x1 x2
      obtain ⟨n, rfl⟩ : ∃ n, n = i := ⟨_, rfl⟩
      go_wp2_with fail
      have ST0 := Lib.hid (⟨But.refl _ _, by go_simp, by go_simp, by go_simp, by go_simp, by go_simp, by go_simp, fun i => by go_simp, fun i => by go_simp, World.ownsRow_nil _ _ _ _, World.ownsRow_nil _ _ _ _, (fun g e => by cases e), ⟨by simp only [World.size_alloc]; omega, by simp only [World.size_alloc]; omega, by omega⟩⟩ : Two ((wr.alloc (.cells #[.slice (some ⟨a1, 0, none⟩) n1 d1, .slice none 0 0, .slice (some ⟨g1, 0, none⟩) n d3] 28)).alloc (.cells #[.slice (some ⟨a1, 0, none⟩) n1 d1, .slice none 0 0, .slice (some ⟨g1, 0, none⟩) n d3] 28)) wr.heap.size (wr.heap.size + 1) ((wr.alloc (.cells #[.slice (some ⟨a1, 0, none⟩) n1 d1, .slice none 0 0, .slice (some ⟨g1, 0, none⟩) n d3] 28)).alloc (.cells #[.slice (some ⟨a1, 0, none⟩) n1 d1, .slice none 0 0, .slice (some ⟨g1, 0, none⟩) n d3] 28)) (.slice (some ⟨a1, 0, none⟩) n1 d1) (.slice (some ⟨g1, 0, none⟩) n d3) (.slice none 0 0) (.slice none 0 0) 0 0 [] [])
      have KW : Kept wr ((wr.alloc (.cells #[.slice (some ⟨a1, 0, none⟩) n1 d1, .slice none 0 0, .slice (some ⟨g1, 0, none⟩) n d3] 28)).alloc (.cells #[.slice (some ⟨a1, 0, none⟩) n1 d1, .slice none 0 0, .slice (some ⟨g1, 0, none⟩) n d3] 28)) := by repeat (first | exact Kept.refl _ | assumption | (refine Kept.alloc ?_ _) | (refine Kept.setCell ?_ (by first | omega | (simp; omega) | simp) _) | refine Kept.drew ?_ | refine Kept.drewN ?_ _ | (apply Kept.call; rotate_left; assumption))
      have Y0 := KW.at_ y0
      have hE : wr.heap.size ≤ wr.heap.size ∧ wr.heap.size ≤ wr.heap.size + 1 ∧ w2.heap.size < wr.heap.size := by omega
      clear y0 y1 y2
      generalize ((wr.alloc (.cells #[.slice (some ⟨a1, 0, none⟩) n1 d1, .slice none 0 0, .slice (some ⟨g1, 0, none⟩) n d3] 28)).alloc (.cells #[.slice (some ⟨a1, 0, none⟩) n1 d1, .slice none 0 0, .slice (some ⟨g1, 0, none⟩) n d3] 28)) = W at *
      have hE1 : Hid (w2.heap.size ≠ wr.heap.size ∧ w2.heap.size ≠ wr.heap.size + 1) := by unfold Hid; omega
      have hE2 : Hid (∀ w9, But [wr.heap.size, wr.heap.size + 1] W w9 → Kept wr w9) := fun w9 h9 => KW.but h9 (by simp)
      have K4 : Kept w3 wr := kr
      generalize wr.heap.size = E1 at *
      generalize E1 + 1 = E2 at *
      have HE2 := hE2
      clear hE hE2 KW hlw
      go_loopw [16] (fun iv wx => ∃ (i : Nat) (v1 v2 : Value), i ≤ n1 ∧ iv = .int .i64 i ∧ Hid (Two W E1 E2 wx (.slice (some ⟨a1, 0, none⟩) n1 d1) (.slice (some ⟨g1, 0, none⟩) n d3) v1 v2 i i (List.replicate i ((T : Int) - 1)) (List.replicate i (U : Int)))) (fun iv _ => n1 - (intOf iv).toNat)
      case atStart => exact ⟨0, _, _, by omega, rfl, ST0⟩
      case round =>
        rename_i wq _ _
        obtain ⟨i, v1, v2, hi, rfl, st⟩ := hrel
        have ST := Lib.hid st.out
        have YY := st.out.but.at_ Y0 (by simp; exact hE1.out)
        have ca1 := st.out.a1
        have cb1 := st.out.b1
        have hws : W.heap.size ≤ wr.heap.size := st.out.but.size
        have hlE := st.out.lt
        have hl2 : w2.heap.size < wr.heap.size := World.block_lt_of_cell? wr _ YY
        by_cases hlt : i < n1
        · have hol1 : Hid ((intC (List.replicate i ((T : Int) - 1))).length = i * 1) := by unfold Hid; simp [intC]
          have hol2 : Hid ((intC (List.replicate i (U : Int))).length = i * 1) := by unfold Hid; simp [intC]
          clear st
          go_wp2_with (first
            | (at_builtin; refine wpList_append_own_at _ rfl _ _ 22 rfl W.heap.size 3 i0 (.int .i64 0) 1 8 Try.underlying22 HI.out hz0 hz1 hz2 rfl (by decide) _ i _ rfl (ST.out.o1.alloc _) ⟨wr.heap.size, 0, none⟩ 1 1 [.int .i64 ((T : Int) - 1)] rfl rfl (cell_one_new _ _ _) (by simp [Value.oneCell']) (by unfold maxLen; omega) (by omega) (by simp; omega) ?_; intro v3 w3b hown3 hgrow3 _ hob3; rw [rep_succ] at hown3; have SK := Lib.hid (ST.out.keep ((Kept.refl wr).alloc (.cells #[.int .i64 ((T : Int) - 1)] 3))); have P3 := SK.out.pre hgrow3; have P31 := P3.1; have P32 := P3.2; obtain ⟨A3, c3', rfl⟩ := own_slice hown3; have S1 := Lib.hid (SK.out.push hown3 hgrow3 hob3); have S1b := S1.out.b1; have S1s : W.heap.size ≤ w3b.heap.size := (by have h9 := S1.out.but.size; simpa only [World.size_setCell] using h9); clear hown3 hgrow3 hob3 P3 SK)
            | (at_builtin; refine wpList_append_own_at _ rfl _ _ 22 rfl W.heap.size 3 i0 (.int .i64 0) 1 8 Try.underlying22 HI.out hz0 hz1 hz2 rfl (by decide) _ i _ rfl (S1.out.o2.alloc _) ⟨w3b.heap.size, 0, none⟩ 1 1 [.int .i64 (U : Int)] rfl rfl (cell_one_new2 _ _ _ _ _) (by simp [Value.oneCell']) (by unfold maxLen; omega) (by omega) (by simp only [World.size_alloc, World.size_setCell]; omega) ?_; intro v4 w4b hown4 hgrow4 _ hob4; rw [rep_succ] at hown4; have SK := Lib.hid (S1.out.keep ((Kept.refl _).alloc (.cells #[.int .i64 (U : Int)] 3))).swap; have P4 := SK.out.pre hgrow4; have P41 := P4.1; have P42 := P4.2; obtain ⟨A4, c4', rfl⟩ := own_slice hown4; have S2 := Lib.hid (SK.out.push hown4 hgrow4 hob4).swap; clear hown4 hgrow4 hob4 P4 SK))
          go_roundw
          case rel => first | exact ⟨i + 1, _, _, by omega, by go_num, S2⟩ | ((repeat apply Exists.intro); exact ⟨⟨i + 1, _, _, by omega, by go_num, S2⟩, rfl⟩)
          case measure => simp [intOf]; omega
        · obtain rfl : i = n1 := by omega
          have KX : Kept w2 wr := K3.call (K4.call (HE2.out _ st.out.but))
          obtain ⟨A1, e1, rfl, hi1⟩ := IntsAt.of_ownI st.out.o1
          obtain ⟨A2, e2, rfl, hi2⟩ := IntsAt.of_ownI st.out.o2
          have R1 : Hid (RowW wr (some ⟨a1, 0, none⟩) i d1 A1 i e1 (some ⟨g1, 0, none⟩) n d3 (rgs es) (List.replicate (es.length + 1) ((T : Int) - 1)) ps) := ⟨HR.out.rs.keep KX, by rw [← hn1.out]; exact hi1, HR.out.ps.keep KX⟩
          have R2 : Hid (RowW wr (some ⟨a1, 0, none⟩) i d1 A2 i e2 (some ⟨g1, 0, none⟩) n d3 (rgs es) (List.replicate (es.length + 1) (U : Int)) ps) := ⟨HR.out.rs.keep KX, by rw [← hn1.out]; exact hi2, HR.out.ps.keep KX⟩
          have F1 := Lib.hid (fit_rep HF.out (v := (T : Int) - 1) (by omega) (by rw [HT.out]; omega))
          have F2 := Lib.hid (fit_rep HF.out (v := (U : Int)) (by omega) (by rw [HT.out]; omega))
          have ET : Hid ((T : Int) - 1 = ((2 ^ ps.length - 1 : Nat) : Int)) := by unfold Hid; rw [HPL.out, HT.out]; omega
          have EU : Hid ((U : Int) = ((2 ^ f : Nat) : Int)) := by unfold Hid; rw [HU.out]
          have O1 : Hid (oa (List.replicate (es.length + 1) ((T : Int) - 1)) (findI es (hv key)) = (T : Int) - 1) := oa_rep (by have := find_le es (hv key); omega)
          have O2 : Hid (oa (List.replicate (es.length + 1) (U : Int)) (findI es (hv key)) = (U : Int)) := oa_rep (by have := find_le es (hv key); omega)
          have hfp : Hid (f < ps.length) := by unfold Hid; rw [HPL.out]; exact hfn
          have G1 : Hid (Small (nxt ps n ((T : Int) - 1)) f) := by
            have h := nxt_goes HF.out.tree (o := (T : Int) - 1) (by omega) (by omega)
            rw [HPL.out] at h
            exact small_tree HF.out.tree h f
          have G2 : Hid (Small (nxt ps n (U : Int)) f) := by
            have h := nxt_goes HF.out.tree (o := (U : Int)) (by omega) (by omega)
            rw [HPL.out] at h
            exact small_tree HF.out.tree h f
          have L1 : Hid ((allQ (nxt ps n ((T : Int) - 1)) f).tail.length = n - 1) := by
            have h := len_every HF.out.tree hfp.out
            rw [← ET.out, HPL.out] at h
            exact h
          have L2 : Hid ((allQ (nxt ps n (U : Int)) f).tail.length = 0) := by
            have h := len_only HF.out.tree hfp.out
            rw [← EU.out, HPL.out] at h
            exact h
          have M1 : Hid (∀ m, MaskIs (Came ps ((T : Int) - 1) f) m → m = (T : Int) - 1) := fun m hm => by
            rw [ET.out] at hm
            rw [hm.eq (N := T - 1) (by omega) fun k hk => by
              rw [came_every HF.out.tree hfp.out, HPL.out, ← HT.out]
              exact (bits_all ⟨n, by omega⟩ ⟨k, hk⟩).symm]
            omega
          have M2 : Hid (∀ m, MaskIs (Came ps (U : Int) f) m → m = (U : Int)) := fun m hm => by
            rw [EU.out] at hm
            exact hm.eq (N := U) (by omega) fun k hk => by
              rw [came_only HF.out.tree hfp.out, ← HU.out]
              exact (bits_one ⟨f, by omega⟩ ⟨k, hk⟩).symm
          have ca0 := st.out.a0
          have ca2 := st.out.a2
          have cb0 := st.out.b0
          have cb2 := st.out.b2
          clear st hi1 hi2 ST
          go_wp2_with fail
          refine (reach_any _ _ _ i d1 i e1 n d3 es _ ps f key _ R1.out F1.out hfn).mono ?_
          rintro e w4 ⟨mm, rfl, hmm, k4⟩
          rw [O1.out] at hmm
          obtain rfl := M1.out mm hmm
          have ca0 := k4.at_ ca0
          have ca1 := k4.at_ ca1
          have ca2 := k4.at_ ca2
          have cb0 := k4.at_ cb0
          have cb1 := k4.at_ cb1
          have cb2 := k4.at_ cb2
          clear hmm
          go_wp2_with fail
          refine (ways_any _ _ _ i d1 i e1 n d3 es _ ps f key _ (R1.out.keep k4) F1.out (by rw [O1.out]; exact G1.out)).mono ?_
          rintro e w5 ⟨D, c9, mw, rfl, hpr, k5⟩
          rw [O1.out] at hpr
          obtain rfl : mw = n - 1 := by rw [← hpr.1]; exact L1.out
          have K5 := k4.call k5
          have cb0 := k5.at_ cb0
          have cb1 := k5.at_ cb1
          have cb2 := k5.at_ cb2
          have dl : ((n - 1 : Nat) : Int) = (n : Int) - 1 := by omega
          clear hpr ca0 ca1 ca2
          go_wp2_with fail
          refine (reach_any _ _ _ i d1 i e2 n d3 es _ ps f key _ (R2.out.keep K5) F2.out hfn).mono ?_
          rintro e w6 ⟨mm, rfl, hmm, k6⟩
          rw [O2.out] at hmm
          obtain rfl := M2.out mm hmm
          have K6 := K5.call k6
          have cb0 := k6.at_ cb0
          have cb1 := k6.at_ cb1
          have cb2 := k6.at_ cb2
          clear hmm
          go_wp2_with fail
          refine (ways_any _ _ _ i d1 i e2 n d3 es _ ps f key _ (R2.out.keep K6) F2.out (by rw [O2.out]; exact G2.out)).mono ?_
          rintro e w7 ⟨D2, c92, mw2, rfl, hpr2, k7⟩
          rw [O2.out] at hpr2
          obtain rfl : mw2 = 0 := by rw [← hpr2.1]; exact L2.out
          clear hpr2
          go_wp2_with fail
          go_ret
          exact ⟨by first | rfl | exact ret_bool (by simp), K2.call (KX.call (K6.call k7))⟩
end Go.Proofs.Ytjmfdacokdffiaa
