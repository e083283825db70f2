/- The law RouteOwners: a label comes to all owners of its key, to each site once, and to none behind which, and at which, there is no owner. -/
import Derived.Test.YtjmfdacokdffiaaRouM
set_option linter.unusedSimpArgs false
set_option linter.unusedVariables false
namespace Go.Proofs.Ytjmfdacokdffiaa
open Go.RowKit

/-- Was a site come to, in the first t? -/
def CameTo (L : List Pr) (t x : Nat) : Prop := ∃ (j : Nat) (c : Int), j < t ∧ L[j]? = some (c, (x : Int))
theorem cameto_one {N : Int → Int → List Nat} {f : Nat} (x : Nat) : CameTo (allQ N f) 1 x ↔ x = f := by
  obtain ⟨t, ht⟩ := all_start N f
  unfold CameTo
  rw [ht]
  constructor
  · rintro ⟨j, c, h1, h2⟩
    obtain rfl : j = 0 := by omega
    injection h2 with h2
    injection h2 with _ h2
    omega
  · rintro rfl
    exact ⟨0, -1, by omega, rfl⟩
theorem cameto_succ {L : List Pr} {t x : Nat} {c : Int} {s : Nat} (h : L[t]? = some (c, (s : Int))) : CameTo L (t + 1) x ↔ CameTo L t x ∨ x = s := by
  constructor
  · rintro ⟨j, d, h1, h2⟩
    rcases Nat.lt_or_ge j t with g | g
    · exact .inl ⟨j, d, g, h2⟩
    · obtain rfl : j = t := by omega
      rw [h] at h2
      injection h2 with h2
      injection h2 with _ h2
      exact .inr (by omega)
  · rintro (⟨j, d, h1, h2⟩ | rfl)
    · exact ⟨j, d, by omega, h2⟩
    · exact ⟨t, c, by omega, h⟩
theorem side_meets {ps : List Int} (hp : IsTree ps) {O : Nat} (hO : O < 64) {x s : Nat} (h : Behind ps O x s) : Meets (sideTo ps x s ps.length) O := by
  have h6 : ps.length ≤ 6 := hp.choose_spec.six
  obtain ⟨k, h1, h2, h3⟩ := h
  rw [bitB_nat (by omega) k (by omega)] at h2
  exact ⟨k, (side_bit ps x s _ k).2 ⟨h1, h3⟩, by simpa using h2⟩
/-- What is known of a step. -/
theorem step_is {ps : List Int} (hp : IsTree ps) {O : Nat} (hO : O < 64) {f : Nat} (hf : f < ps.length) {t : Nat} (ht : 0 < t) (hl : t < (allQ (nxt ps ps.length O) f).length) :
    ∃ x s : Nat, (allQ (nxt ps ps.length O) f)[t]? = some ((x : Int), (s : Int)) ∧ x < ps.length ∧ s < ps.length ∧ CameTo (allQ (nxt ps ps.length O) f) t x ∧ ¬ CameTo (allQ (nxt ps ps.length O) f) t s ∧ Meets (sideTo ps x s ps.length) O := by
  have hG := nxt_goes hp (o := (O : Int)) (by omega) (by omega)
  have hq := QI.all hp hf hG 7
  have hq2 : QI ps (nxt ps ps.length O) f 7 (allQ (nxt ps ps.length O) f) := hq
  clear hq
  generalize hL : allQ (nxt ps ps.length O) f = L at *
  obtain ⟨⟨c, a⟩, hca⟩ : ∃ p, L[t]? = some p := ⟨_, List.getElem?_eq_getElem hl⟩
  rcases hq2.from_ t c a hca with ⟨h0, _⟩ | ⟨j, d, s, h1, h2, h3, h4, h5⟩
  · omega
  · obtain ⟨x, e1, e2, e3, e4, e5, e6⟩ := (nxt_mem hp (by omega) (by omega) d c s).1 h5
    subst e1 h4
    refine ⟨x, s, hca, e2, e3, ⟨j, d, h2, h3⟩, ?_, side_meets hp hO e6⟩
    rintro ⟨i, e, g1, g2⟩
    have := snd_one hq2.nd g2 hca
    omega
/-- All owners are come to. -/
theorem owner_come {ps : List Int} (hp : IsTree ps) {O : Nat} (hO : O < 64) {f : Nat} (hf : f < ps.length) {s : Nat} (hs : s < ps.length) (hb : O / 2 ^ s % 2 = 1) : CameTo (allQ (nxt ps ps.length O) f) (allQ (nxt ps ps.length O) f).length s := by
  have h6 : ps.length ≤ 6 := hp.choose_spec.six
  have h : Came ps O f s := (came_iff hp (by omega) (by omega) hf s).2 (.inr ⟨s, hs, by rw [bitB_nat (by omega) s (by omega)]; simpa using hb, by
    obtain ⟨_, _, h3⟩ := wk_spec hp hf hs
    exact List.mem_of_getLast? h3⟩)
  obtain ⟨c, hc⟩ := h
  obtain ⟨t, ht⟩ := List.getElem?_of_mem hc
  exact ⟨t, c, (List.getElem?_eq_some_iff.1 ht).1, ht⟩
def MarksI (F : Nat → Value) (S : Nat → Prop) : Prop := ∃ B : Nat → Bool, (∀ k, F k = .int .i64 (if B k then 1 else 0)) ∧ ∀ k, k < 6 → (B k = true ↔ S k)
theorem MarksI.put {F : Nat → Value} {S : Nat → Prop} (h : MarksI F S) (i : Nat) : MarksI (fun k => if k = i then .int .i64 1 else F k) (fun k => S k ∨ k = i) := by
  obtain ⟨B, h1, h2⟩ := h
  refine ⟨fun k => if k = i then true else B k, fun k => ?_, fun k hk => ?_⟩
  · by_cases e : k = i <;> simp [e, h1]
  · by_cases e : k = i
    · simp [e]
    · simp [e, h2 k hk]
theorem MarksI.of {F : Nat → Value} {S T : Nat → Prop} (h : MarksI F S) (e : ∀ k, k < 6 → (S k ↔ T k)) : MarksI F T := by
  obtain ⟨B, h1, h2⟩ := h
  exact ⟨B, h1, fun k hk => (h2 k hk).trans (e k hk)⟩
theorem MarksI.yes {F : Nat → Value} {S : Nat → Prop} (h : MarksI F S) {k : Nat} (hk : k < 6) (hs : S k) : F k = .int .i64 1 := by
  obtain ⟨B, h1, h2⟩ := h
  rw [h1, (h2 k hk).2 hs]; rfl
theorem MarksI.no {F : Nat → Value} {S : Nat → Prop} (h : MarksI F S) {k : Nat} (hk : k < 6) (hs : ¬ S k) : F k = .int .i64 0 := by
  obtain ⟨B, h1, h2⟩ := h
  rw [h1, Bool.eq_false_iff.2 (fun g => hs ((h2 k hk).1 g))]; rfl
theorem MarksI.int {F : Nat → Value} {S : Nat → Prop} (h : MarksI F S) (k : Nat) : ∃ i, F k = .int .i64 i := by
  obtain ⟨B, h1, _⟩ := h
  exact ⟨_, h1 k⟩
set_option maxRecDepth 20000 in
set_option maxHeartbeats 4000000 in
theorem routeOwners_walk (A : Option Addr) (m c : Nat) (x : Nat → Int) (B : Option Addr) (m2 c2 : Nat) (y : Nat → Int) (C : Option Addr) (m3 c3 : Nat) (z : Nat → Int) (key : ByteArray) (at_ : Int) (w : World) (rx : RowAt w A m c 1 (fun i => [.int .i64 (x i)])) (_rx2 : ∀ i, i < m → (Lit.int .i64 (x i)).wf = true) (ry : RowAt w B m2 c2 1 (fun i => [.int .i64 (y i)])) (_ry2 : ∀ i, i < m2 → (Lit.int .i64 (y i)).wf = true) (rz : RowAt w C m3 c3 1 (fun i => [.int .i64 (z i)])) (_rz2 : ∀ i, i < m3 → (Lit.int .i64 (z i)).wf = true) (_wk : key.size ≤ maxLen) (_wa : (Lit.int .i64 at_).wf = true) :
    Calls Try.prog 3 #[.agg #[.slice A m c, .slice B m2 c2, .slice C m3 c3], .string key, .int .i64 at_] w fun e w' => e = .returned (.bool true) ∧ Kept w w' := by
  have HX := Lib.hid (IntsAt.of_row rx)
  have HY := Lib.hid (IntsAt.of_row ry)
  have HZ := Lib.hid (IntsAt.of_row rz)
  clear rx _rx2 ry _ry2 rz _rz2 _wk _wa
  generalize (List.range m).map x = xs at *
  generalize (List.range m2).map y = ys at *
  generalize (List.range m3).map z = zs at *
  go_enter Try.func3, Try.ntmps3
  go_wp2_with fail
  refine (awake_any _).mono ?_
  rintro e w1 ⟨rfl, k1_⟩
  have K1 : Kept w w1 := Kept.call (by repeat (first | exact Kept.refl _ | assumption | (refine Kept.alloc ?_ _) | (refine Kept.setCell ?_ (by first | omega | (simp; omega) | simp) _) | refine Kept.drew ?_ | refine Kept.drewN ?_ _ | (apply Kept.call; rotate_left; assumption))) k1_
  have cs0 : w1.cell? ⟨w.heap.size, 0, none⟩ = some (.slice A m c) := k1_.at_ (by go_simp)
  have cs1 : w1.cell? ⟨w.heap.size, 1, none⟩ = some (.slice B m2 c2) := k1_.at_ (by go_simp)
  have cs2 : w1.cell? ⟨w.heap.size, 2, none⟩ = some (.slice C m3 c3) := k1_.at_ (by go_simp)
  go_wp2_with fail
  refine (row_any A B C m c m2 c2 m3 c3 xs ys zs _ (HX.out.keep (by repeat (first | exact Kept.refl _ | assumption | (refine Kept.alloc ?_ _) | (refine Kept.setCell ?_ (by first | omega | (simp; omega) | simp) _) | refine Kept.drew ?_ | refine Kept.drewN ?_ _ | (apply Kept.call; rotate_left; assumption)))) (HY.out.keep (by repeat (first | exact Kept.refl _ | assumption | (refine Kept.alloc ?_ _) | (refine Kept.setCell ?_ (by first | omega | (simp; omega) | simp) _) | refine Kept.drew ?_ | refine Kept.drewN ?_ _ | (apply Kept.call; rotate_left; assumption)))) (HZ.out.keep (by repeat (first | exact Kept.refl _ | assumption | (refine Kept.alloc ?_ _) | (refine Kept.setCell ?_ (by first | omega | (simp; omega) | simp) _) | refine Kept.drew ?_ | refine Kept.drewN ?_ _ | (apply Kept.call; rotate_left; assumption))))).mono ?_
  rintro e w2 ⟨a1, b1, g1, n1, d1, n2, d2, n3, d3, es, os, ps, rfl, ⟨l1, l2, l3⟩, hr, hf, k2⟩
  have K2 : Kept w w2 := K1.call k2
  have HR := Lib.hid hr
  have HF := Lib.hid hf
  have hpl : ps.length = n3 := hr.ps.1
  have HPL := Lib.hid hpl
  have h1n : 1 ≤ n3 := hf.fit.one
  have h6n : n3 ≤ 6 := hf.fit.six
  have hne0 : ((n3 : Int) == 0) = false := by simp; omega
  have hatb := tmod_bd at_ n3 (by omega)
  obtain ⟨f, hat, hfn⟩ : ∃ r : Nat, (at_.tmod (n3 : Int) + n3).tmod (n3 : Int) = r ∧ r < n3 := by
    have h2 := Int.tmod_nonneg (n3 : Int) (show 0 ≤ at_.tmod (n3 : Int) + n3 by omega)
    have h3 := Int.tmod_lt_of_pos (at_.tmod (n3 : Int) + n3) (show 0 < (n3 : Int) by omega)
    exact ⟨_, (Int.toNat_of_nonneg h2).symm, by omega⟩
  have hbd3 : n3 ≤ d3 ∧ d3 ≤ 9223372036854775807 := by have h1 := hr.ps.2.1; have h2 := hr.ps.2.2.1; unfold maxLen at h2; omega
  clear hr hf hpl cs0 cs1 cs2 l1 l2 l3 K1 HX HY HZ
  go_wp2_with fail
  refine (rowners_yes _ _ _ n1 d1 n2 d2 n3 d3 es os ps key _ (HR.out.keep (by repeat (first | exact Kept.refl _ | assumption | (refine Kept.alloc ?_ _) | (refine Kept.setCell ?_ (by first | omega | (simp; omega) | simp) _) | refine Kept.drew ?_ | refine Kept.drewN ?_ _ | (apply Kept.call; rotate_left; assumption)))) HF.out.fit).mono ?_
  rintro e w3 ⟨rfl, k3⟩
  have K3 : Kept w2 w3 := Kept.call (by repeat (first | exact Kept.refl _ | assumption | (refine Kept.alloc ?_ _) | (refine Kept.setCell ?_ (by first | omega | (simp; omega) | simp) _) | refine Kept.drew ?_ | refine Kept.drewN ?_ _ | (apply Kept.call; rotate_left; assumption))) k3
  have x0 : w3.cell? ⟨w2.heap.size, 0, none⟩ = some (.slice (some ⟨a1, 0, none⟩) n1 d1) := k3.at_ (by go_simp)
  have x1 : w3.cell? ⟨w2.heap.size, 1, none⟩ = some (.slice (some ⟨b1, 0, none⟩) n2 d2) := k3.at_ (by go_simp)
  have x2 : w3.cell? ⟨w2.heap.size, 2, none⟩ = some (.slice (some ⟨g1, 0, none⟩) n3 d3) := k3.at_ (by go_simp)
  have hlC : w2.heap.size < w3.heap.size := World.block_lt_of_cell? w3 _ x0
  obtain ⟨O, hO, hO64⟩ : ∃ O : Nat, oa os (findI es (hv key)) = O ∧ O < 64 := by
    have h := oa_bd HF.out.fit (find_le es (hv key))
    exact ⟨(oa os (findI es (hv key))).toNat, by omega, by omega⟩
  have HO := Lib.hid hO
  rw [hO]
  have hf6 : f < 6 := by omega
  have HSM : Hid (Small (nxt ps n3 O) f) := by
    have h := nxt_goes HF.out.tree (o := (O : Int)) (by omega) (by omega)
    rw [HPL.out] at h
    exact small_tree HF.out.tree h f
  have HST : Hid (∀ t, 0 < t → t < (allQ (nxt ps n3 O) f).length → ∃ x s : Nat, (allQ (nxt ps n3 O) f)[t]? = some ((x : Int), (s : Int)) ∧ x < n3 ∧ s < n3 ∧ CameTo (allQ (nxt ps n3 O) f) t x ∧ ¬ CameTo (allQ (nxt ps n3 O) f) t s ∧ Meets (sideTo ps x s n3) O) := fun t h1 h2 => by
    have h := step_is HF.out.tree hO64 (show f < ps.length by rw [HPL.out]; exact hfn) h1 (by rw [HPL.out]; exact h2)
    rwa [HPL.out] at h
  have HOC : Hid (∀ s, s < n3 → O / 2 ^ s % 2 = 1 → CameTo (allQ (nxt ps n3 O) f) (allQ (nxt ps n3 O) f).length s) := fun s h1 h2 => by
    have h := owner_come HF.out.tree hO64 (show f < ps.length by rw [HPL.out]; exact hfn) (by rw [HPL.out]; exact h1) h2
    rwa [HPL.out] at h
  have HC1 : Hid (∀ x, CameTo (allQ (nxt ps n3 O) f) 1 x ↔ x = f) := fun x => cameto_one x
  clear hO
  go_wp2_with fail
  have A0 := Lib.hid (Arr6.one w3 (.int .i64 0) (.int .i64 1) 31 hf6)
  have M0 : Hid (MarksI (fun k => if k = f then Value.int .i64 1 else .int .i64 0) (CameTo (allQ (nxt ps n3 O) f) 1)) := by
    refine ((show MarksI (fun _ => .int .i64 0) (fun _ => False) from ⟨fun _ => false, fun _ => rfl, fun k _ => by simp⟩).put f).of fun k _ => ?_
    rw [HC1.out]
    simp
  refine (ways_new _ _ _ n1 d1 n2 d2 n3 d3 es os ps f key _ (HR.out.keep (K3.call A0.out.kept)) HF.out (by rw [HO.out]; exact HSM.out)).mono ?_
  rintro e w4 ⟨D, c9, mw, rfl, hpr, k4, hfr⟩
  rw [HO.out] at hpr
  obtain ⟨L, hL⟩ : ∃ L, allQ (nxt ps n3 O) f = L := ⟨_, rfl⟩
  rw [hL] at hpr HST HOC HC1 M0
  have A1 := Lib.hid (A0.out.keep k4)
  have HFR : Hid (∀ b off, D = some ⟨b, off, none⟩ → w3.heap.size < b) := fun b off e => by have := hfr b off e; simp at this; omega
  have hll : Hid (L.length = mw + 1) := by
    obtain ⟨t, ht⟩ := all_start (nxt ps n3 O) f
    rw [hL] at ht
    have := hpr.1
    rw [ht] at this ⊢
    simp at this ⊢
    exact this
  have HTL : Hid (∀ i, prA L.tail i = prA L (i + 1)) := fun i => by unfold prA; simp
  have hmc : mw ≤ c9 ∧ c9 ≤ 9223372036854775807 := by have h1 := hpr.2.1; have h2 := hpr.2.2.1; unfold maxLen at h2; omega
  have HP := Lib.hid hpr
  have hCQ : w2.heap.size < w3.heap.size := hlC
  have K4 : Kept w3 w4 := A0.out.kept.call k4
  have x0 := K4.at_ x0
  have x1 := K4.at_ x1
  have x2 := K4.at_ x2
  clear hpr hfr hL hlC A0
  generalize hQ : w3.heap.size = Q at *
  have HQ := Lib.hid hQ
  clear hQ
  go_wp2_with fail
  go_loopw [14] (fun iv wr => ∃ (i : Nat) (F : Nat → Value), i ≤ mw ∧ iv = .int .i64 i ∧ Arr6 w3 Q wr F ∧ Hid (MarksI F (CameTo L (i + 1))) ∧ Hid (But [Q] w4 wr)) (fun iv _ => mw - (intOf iv).toNat)
  case atStart => exact ⟨0, _, by omega, rfl, A1.out, M0, But.refl _ _⟩
  case round =>
    obtain ⟨i, F, hi, rfl, ha, hm, hb⟩ := hrel
    have HA := Lib.hid ha
    have kr := ha.kept
    have y0 := hb.out.at_ x0 (by simp; omega)
    have y1 := hb.out.at_ x1 (by simp; omega)
    have y2 := hb.out.at_ x2 (by simp; omega)
    by_cases hlt : i < mw
    · obtain ⟨x, s, hxs, hx, hs, hcx, hcs, hme⟩ := HST.out (i + 1) (by omega) (by rw [hll.out]; omega)
      obtain ⟨b, off, rfl, hcc⟩ := HP.out.2.2.2.2 (by omega)
      have hbQ : b ≠ Q := by have := HFR.out b off rfl; omega
      have q1 : wr.cell? ⟨b, off + i * 2, none⟩ = some (.int .i64 (x : Nat)) := by
        rw [hb.out.at_ (hcc i hlt).1 (by simpa using hbQ), HTL.out]
        unfold prA
        rw [hxs]; rfl
      have q2 : wr.cell? ⟨b, off + i * 2 + 1, none⟩ = some (.int .i64 (s : Nat)) := by
        rw [hb.out.at_ (hcc i hlt).2 (by simpa using hbQ), HTL.out]
        unfold prA
        rw [hxs]; rfl
      have q3 : wr.cell? ⟨Q, x, none⟩ = some (.int .i64 1) := by rw [ha.cells x (by omega), hm.out.yes (by omega) hcx]
      have q4 : wr.cell? ⟨Q, s, none⟩ = some (.int .i64 0) := by rw [ha.cells s (by omega), hm.out.no (by omega) hcs]
      have f4 := ha.frz s
      have hs6 : s < 6 := by omega
      have hx6 : x < 6 := by omega
      have A2 := Lib.hid (ha.put (by have := HQ.out; omega) hs6 (.int .i64 1))
      have M2 : Hid (MarksI (fun k => if k = s then Value.int .i64 1 else F k) (CameTo L (i + 1 + 1))) := (hm.out.put s).of fun k _ => (cameto_succ hxs).symm
      have B2 := Lib.hid (hb.out.setCell (p := ⟨Q, s, none⟩) (.inl (by simp)) (.int .i64 1))
      have HME := Lib.hid hme
      have y2b : (wr.setCell ⟨Q, s, none⟩ (.int .i64 1)).cell? ⟨w2.heap.size, 2, none⟩ = some (.slice (some ⟨g1, 0, none⟩) n3 d3) := by
        rw [World.cell?_setCell_other _ _ _ _ (by intro g; cases g; omega)]
        exact y2
      have dx0 : decide ((x : Int) < 0) = false := by first | (simp; done) | (simp; omega)
      have dx1 : decide ((n3 : Int) ≤ (x : Int)) = false := by simp; omega
      have ds0 : decide ((s : Int) < 0) = false := by first | (simp; done) | (simp; omega)
      have ds1 : decide ((n3 : Int) ≤ (s : Int)) = false := by simp; omega
      clear ha hcc hxs hcx hcs hme hm
      go_wp2_with fail
      refine (rside _ n3 d3 ps x s _ (HR.out.ps.keep (K3.call A2.out.kept))).mono ?_
      rintro e w5 ⟨rfl, k5⟩
      have A3 := Lib.hid (A2.out.keep k5)
      have hsl : sideTo ps x s n3 < 64 := Nat.lt_of_lt_of_le (sideTo_lt ps x s n3) (two_le (by omega))
      have B3 := Lib.hid (B2.out.trans (But.of_kept (S := [Q]) k5))
      generalize sideTo ps x s n3 = sd at *
      go_wp2_with fail
      refine (rmeet_any sd O _ hsl hO64).mono ?_
      rintro e w6 ⟨BB, rfl, hBB, k6⟩
      obtain rfl : BB = true := hBB.2 HME.out
      have A4 := Lib.hid (A3.out.keep k6)
      have B4 := Lib.hid (B3.out.trans (But.of_kept (S := [Q]) k6))
      clear hBB y2b
      go_wp2_with fail
      go_roundw
      case rel => first | exact ⟨i + 1, _, by omega, by go_num, A4.out, M2, B4⟩ | ((repeat apply Exists.intro); exact ⟨⟨i + 1, _, by omega, by go_num, A4.out, M2, B4⟩, rfl⟩)
      case measure => simp [intOf]; omega
    · obtain rfl : i = mw := by omega
      have HOC2 : Hid (∀ s, s < n3 → O / 2 ^ s % 2 = 1 → wr.cell? ⟨Q, s, none⟩ = some (.int .i64 1)) := fun s h1 h2 => by
        rw [ha.cells s (by omega), hm.out.yes (by omega)]
        rw [← hll.out]
        exact HOC.out s h1 h2
      have HCI : Hid (∀ s, s < n3 → ∃ v, wr.cell? ⟨Q, s, none⟩ = some (.int .i64 v)) := fun s h1 => by
        obtain ⟨v, hv⟩ := hm.out.int s
        exact ⟨v, by rw [ha.cells s (by omega), hv]⟩
      clear ha hm
      go_wp2_with fail
      go_loopw [18] (fun sv w9 => ∃ s : Nat, s ≤ n3 ∧ sv = .int .i64 s ∧ Kept wr w9) (fun sv _ => n3 - (intOf sv).toNat)
      case atStart => exact ⟨0, by omega, rfl, Kept.refl _⟩
      case round =>
        rename_i wq _
        obtain ⟨s, hs, rfl, kr9⟩ := hrel
        by_cases hsl : s < n3
        · have hs6 : s < 6 := by omega
          go_wp2_with fail
          refine (rbit_any O s _ hO64 hs6).mono ?_
          rintro e w5 ⟨rfl, k5⟩
          have K5 := kr9.call k5
          by_cases hbit : O / 2 ^ s % 2 = 1
          · have q1 := K5.at_ (HOC2.out s hsl hbit)
            rw [decide_eq_true hbit]
            clear hbit
            go_wp2_with fail
            go_roundw
            case rel => first | exact ⟨s + 1, by omega, by go_num, K5⟩ | ((repeat apply Exists.intro); exact ⟨⟨s + 1, by omega, by go_num, K5⟩, rfl⟩)
            case measure => simp [intOf]; omega
          · rw [decide_eq_false hbit]
            clear hbit
            go_wp2_with fail
            go_roundw
            case rel => first | exact ⟨s + 1, by omega, by go_num, K5⟩ | ((repeat apply Exists.intro); exact ⟨⟨s + 1, by omega, by go_num, K5⟩, rfl⟩)
            case measure => simp [intOf]; omega
        · obtain rfl : s = n3 := by omega
          have z0 := kr9.at_ y0
          have z1 := kr9.at_ y1
          have z2 := kr9.at_ y2
          go_wp2_with fail
          refine (rcheck_yes _ _ _ n1 d1 n2 d2 s d3 es os ps _ (HR.out.keep (K3.call (kr.call kr9))) HF.out).mono ?_
          rintro e w5 ⟨rfl, k5⟩
          go_wp2_with fail
          go_ret
          exact ⟨rfl, K2.call (K3.call ((kr.call kr9).call k5))⟩
end Go.Proofs.Ytjmfdacokdffiaa
