/- The law RouteReach: what a label comes to has its beginning, all owners, and all that lies on the ways to them: no less, no more. -/
import Derived.Test.YtjmfdacokdffiaaRouM
set_option linter.unusedSimpArgs false
set_option linter.unusedVariables false
namespace Go.Proofs.Ytjmfdacokdffiaa
open Go.RowKit

/-- What is wanted, of the owners below s. -/
def Wanted (ps : List Int) (O f s x : Nat) : Prop := x = f ∨ ∃ k, k < s ∧ O / 2 ^ k % 2 = 1 ∧ x ∈ wk ps f k
theorem wanted_no {ps : List Int} {O f s x : Nat} (h : ¬ O / 2 ^ s % 2 = 1) : Wanted ps O f (s + 1) x ↔ Wanted ps O f s x := by
  unfold Wanted
  refine or_congr Iff.rfl ⟨?_, ?_⟩
  · rintro ⟨k, h1, h2, h3⟩
    rcases Nat.lt_or_ge k s with g | g
    · exact ⟨k, g, h2, h3⟩
    · obtain rfl : k = s := by omega
      exact absurd h2 h
  · rintro ⟨k, h1, h2, h3⟩
    exact ⟨k, by omega, h2, h3⟩
theorem wanted_yes {ps : List Int} {O f s x : Nat} (h : O / 2 ^ s % 2 = 1) : Wanted ps O f (s + 1) x ↔ Wanted ps O f s x ∨ x ∈ wk ps f s := by
  unfold Wanted
  rw [or_assoc]
  refine or_congr Iff.rfl ⟨?_, ?_⟩
  · rintro ⟨k, h1, h2, h3⟩
    rcases Nat.lt_or_ge k s with g | g
    · exact .inl ⟨k, g, h2, h3⟩
    · obtain rfl : k = s := by omega
      exact .inr h3
  · rintro (⟨k, h1, h2, h3⟩ | h3)
    · exact ⟨k, by omega, h2, h3⟩
    · exact ⟨s, by omega, h, h3⟩
theorem wanted_came {ps : List Int} (hp : IsTree ps) {O : Nat} (h1 : O < 64) {f : Nat} (hf : f < ps.length) (s : Nat) : Wanted ps O f ps.length s ↔ Came ps O f s := by
  have h6 : ps.length ≤ 6 := hp.choose_spec.six
  rw [came_iff hp (by omega) (by omega) hf]
  unfold Wanted
  refine or_congr Iff.rfl ⟨?_, ?_⟩
  · rintro ⟨k, h1, h2, h3⟩
    exact ⟨k, h1, by rw [bitB_nat (by omega) k (by omega)]; simpa using h2, h3⟩
  · rintro ⟨k, h1, h2, h3⟩
    rw [bitB_nat (by omega) k (by omega)] at h2
    exact ⟨k, h1, by simpa using h2, h3⟩
def Marks (F : Nat → Value) (S : Nat → Prop) : Prop := ∃ B : Nat → Bool, (∀ k, F k = .bool (B k)) ∧ ∀ k, k < 6 → (B k = true ↔ S k)
theorem Marks.put {F : Nat → Value} {S : Nat → Prop} (h : Marks F S) (i : Nat) : Marks (fun k => if k = i then .bool true else F k) (fun k => S k ∨ k = i) := by
  obtain ⟨B, h1, h2⟩ := h
  refine ⟨fun k => if k = i then true else B k, fun k => ?_, fun k hk => ?_⟩
  · by_cases e : k = i <;> simp [e, h1]
  · by_cases e : k = i
    · simp [e]
    · simp [e, h2 k hk]
theorem Marks.of {F : Nat → Value} {S T : Nat → Prop} (h : Marks F S) (e : ∀ k, k < 6 → (S k ↔ T k)) : Marks F T := by
  obtain ⟨B, h1, h2⟩ := h
  exact ⟨B, h1, fun k hk => (h2 k hk).trans (e k hk)⟩
set_option maxRecDepth 20000 in
set_option maxHeartbeats 4000000 in
theorem routeReach_walk (A : Option Addr) (m c : Nat) (x : Nat → Int) (B : Option Addr) (m2 c2 : Nat) (y : Nat → Int) (C : Option Addr) (m3 c3 : Nat) (z : Nat → Int) (key : ByteArray) (at_ : Int) (w : World) (rx : RowAt w A m c 1 (fun i => [.int .i64 (x i)])) (_rx2 : ∀ i, i < m → (Lit.int .i64 (x i)).wf = true) (ry : RowAt w B m2 c2 1 (fun i => [.int .i64 (y i)])) (_ry2 : ∀ i, i < m2 → (Lit.int .i64 (y i)).wf = true) (rz : RowAt w C m3 c3 1 (fun i => [.int .i64 (z i)])) (_rz2 : ∀ i, i < m3 → (Lit.int .i64 (z i)).wf = true) (_wk : key.size ≤ maxLen) (_wa : (Lit.int .i64 at_).wf = true) :
    Calls Try.prog 4 #[.agg #[.slice A m c, .slice B m2 c2, .slice C m3 c3], .string key, .int .i64 at_] w fun e w' => e = .returned (.bool true) ∧ Kept w w' := by
  have HX := Lib.hid (IntsAt.of_row rx)
  have HY := Lib.hid (IntsAt.of_row ry)
  have HZ := Lib.hid (IntsAt.of_row rz)
  clear rx _rx2 ry _ry2 rz _rz2 _wk _wa
  generalize (List.range m).map x = xs at *
  generalize (List.range m2).map y = ys at *
  generalize (List.range m3).map z = zs at *
  go_enter Try.func4, Try.ntmps4
  go_wp2_with fail
  refine (awake_any _).mono ?_
  rintro e w1 ⟨rfl, k1_⟩
  have K1 : Kept w w1 := Kept.call (by repeat (first | exact Kept.refl _ | assumption | (refine Kept.alloc ?_ _) | (refine Kept.setCell ?_ (by first | omega | (simp; omega) | simp) _) | refine Kept.drew ?_ | refine Kept.drewN ?_ _ | (apply Kept.call; rotate_left; assumption))) k1_
  have cs0 : w1.cell? ⟨w.heap.size, 0, none⟩ = some (.slice A m c) := k1_.at_ (by go_simp)
  have cs1 : w1.cell? ⟨w.heap.size, 1, none⟩ = some (.slice B m2 c2) := k1_.at_ (by go_simp)
  have cs2 : w1.cell? ⟨w.heap.size, 2, none⟩ = some (.slice C m3 c3) := k1_.at_ (by go_simp)
  go_wp2_with fail
  refine (row_any A B C m c m2 c2 m3 c3 xs ys zs _ (HX.out.keep (by repeat (first | exact Kept.refl _ | assumption | (refine Kept.alloc ?_ _) | (refine Kept.setCell ?_ (by first | omega | (simp; omega) | simp) _) | refine Kept.drew ?_ | refine Kept.drewN ?_ _ | (apply Kept.call; rotate_left; assumption)))) (HY.out.keep (by repeat (first | exact Kept.refl _ | assumption | (refine Kept.alloc ?_ _) | (refine Kept.setCell ?_ (by first | omega | (simp; omega) | simp) _) | refine Kept.drew ?_ | refine Kept.drewN ?_ _ | (apply Kept.call; rotate_left; assumption)))) (HZ.out.keep (by repeat (first | exact Kept.refl _ | assumption | (refine Kept.alloc ?_ _) | (refine Kept.setCell ?_ (by first | omega | (simp; omega) | simp) _) | refine Kept.drew ?_ | refine Kept.drewN ?_ _ | (apply Kept.call; rotate_left; assumption))))).mono ?_
  rintro e w2 ⟨a1, b1, g1, n1, d1, n2, d2, n3, d3, es, os, ps, rfl, ⟨l1, l2, l3⟩, hr, hf, k2⟩
  have K2 : Kept w w2 := K1.call k2
  have HR := Lib.hid hr
  have HF := Lib.hid hf
  have hpl : ps.length = n3 := hr.ps.1
  have HPL := Lib.hid hpl
  have h1n : 1 ≤ n3 := hf.fit.one
  have h6n : n3 ≤ 6 := hf.fit.six
  have hne0 : ((n3 : Int) == 0) = false := by simp; omega
  have hatb := tmod_bd at_ n3 (by omega)
  obtain ⟨f, hat, hfn⟩ : ∃ r : Nat, (at_.tmod (n3 : Int) + n3).tmod (n3 : Int) = r ∧ r < n3 := by
    have h2 := Int.tmod_nonneg (n3 : Int) (show 0 ≤ at_.tmod (n3 : Int) + n3 by omega)
    have h3 := Int.tmod_lt_of_pos (at_.tmod (n3 : Int) + n3) (show 0 < (n3 : Int) by omega)
    exact ⟨_, (Int.toNat_of_nonneg h2).symm, by omega⟩
  have hbd3 : n3 ≤ d3 ∧ d3 ≤ 9223372036854775807 := by have h1 := hr.ps.2.1; have h2 := hr.ps.2.2.1; unfold maxLen at h2; omega
  clear hr hf hpl cs0 cs1 cs2 l1 l2 l3 K1 HX HY HZ
  go_wp2_with fail
  refine (rowners_yes _ _ _ n1 d1 n2 d2 n3 d3 es os ps key _ (HR.out.keep (by repeat (first | exact Kept.refl _ | assumption | (refine Kept.alloc ?_ _) | (refine Kept.setCell ?_ (by first | omega | (simp; omega) | simp) _) | refine Kept.drew ?_ | refine Kept.drewN ?_ _ | (apply Kept.call; rotate_left; assumption)))) HF.out.fit).mono ?_
  rintro e w3 ⟨rfl, k3⟩
  have K3 : Kept w2 w3 := Kept.call (by repeat (first | exact Kept.refl _ | assumption | (refine Kept.alloc ?_ _) | (refine Kept.setCell ?_ (by first | omega | (simp; omega) | simp) _) | refine Kept.drew ?_ | refine Kept.drewN ?_ _ | (apply Kept.call; rotate_left; assumption))) k3
  have x0 : w3.cell? ⟨w2.heap.size, 0, none⟩ = some (.slice (some ⟨a1, 0, none⟩) n1 d1) := k3.at_ (by go_simp)
  have x1 : w3.cell? ⟨w2.heap.size, 1, none⟩ = some (.slice (some ⟨b1, 0, none⟩) n2 d2) := k3.at_ (by go_simp)
  have x2 : w3.cell? ⟨w2.heap.size, 2, none⟩ = some (.slice (some ⟨g1, 0, none⟩) n3 d3) := k3.at_ (by go_simp)
  have hlC : w2.heap.size < w3.heap.size := World.block_lt_of_cell? w3 _ x0
  obtain ⟨O, hO, hO64⟩ : ∃ O : Nat, oa os (findI es (hv key)) = O ∧ O < 64 := by
    have h := oa_bd HF.out.fit (find_le es (hv key))
    exact ⟨(oa os (findI es (hv key))).toNat, by omega, by omega⟩
  have HO := Lib.hid hO
  rw [hO]
  have hwc : Hid (∀ s, Wanted ps O f n3 s ↔ Came ps O f s) := fun s => by
    rw [← HPL.out]
    exact wanted_came HF.out.tree hO64 (by rw [HPL.out]; exact hfn) s
  have hf6 : f < 6 := by omega
  clear hO
  go_wp2_with fail
  have A0 := Lib.hid (Arr6.one w3 (.bool false) (.bool true) 39 hf6)
  have M0 : Hid (Marks (fun k => if k = f then Value.bool true else .bool false) (Wanted ps O f 0)) := by
    refine ((show Marks (fun _ => .bool false) (fun _ => False) from ⟨fun _ => false, fun _ => rfl, fun k _ => by simp⟩).put f).of fun k _ => ?_
    unfold Wanted
    simp
  have hQ3 : Hid (w3.heap.size ≤ w3.heap.size) := Nat.le_refl _
  have hCQ : w2.heap.size < w3.heap.size := hlC
  generalize hQ : w3.heap.size = Q at *
  have HQ := Lib.hid hQ
  clear hQ hQ3 hlC
  go_loopw [13] (fun sv wr => ∃ (s : Nat) (F : Nat → Value), s ≤ n3 ∧ sv = .int .i64 s ∧ Arr6 w3 Q wr F ∧ Hid (Marks F (Wanted ps O f s))) (fun sv _ => n3 - (intOf sv).toNat)
  case atStart => exact ⟨0, _, by omega, rfl, A0.out, M0⟩
  case round =>
    obtain ⟨s, F, hs, rfl, ha, hm⟩ := hrel
    have HA := Lib.hid ha
    have kr := ha.kept
    have y0 := kr.at_ x0
    have y1 := kr.at_ x1
    have y2 := kr.at_ x2
    clear ha
    by_cases hlt : s < n3
    · go_wp2_with fail
      refine (rbit_any O s _ hO64 (by omega)).mono ?_
      rintro e w4 ⟨rfl, k4⟩
      have HA4 := Lib.hid (HA.out.keep k4)
      have K4 := kr.call k4
      have z2 := k4.at_ y2
      by_cases hbit : O / 2 ^ s % 2 = 1
      · have hm2 : Hid (∀ x, Wanted ps O f (s + 1) x ↔ Wanted ps O f s x ∨ x ∈ wk ps f s) := fun x => wanted_yes hbit
        rw [decide_eq_true hbit]
        clear hbit
        go_wp2_with fail
        refine (rpath _ n3 d3 ps f s _ (HR.out.ps.keep (K3.call K4))).mono ?_
        rintro e w5 ⟨A5, e5, rfl, hia, k5⟩
        have hpw : pathOf ps f s = wk ps f s := path_wk2 HF.out.tree (by rw [HPL.out]; exact hfn) (by rw [HPL.out]; exact hlt)
        rw [hpw] at hia ⊢
        have hlx : Hid (∀ i x, (wk ps f s)[i]? = some x → x < 6) := fun i x hx => by
          have := (wk_spec HF.out.tree (show f < ps.length by rw [HPL.out]; exact hfn) (show s < ps.length by rw [HPL.out]; exact hlt)).1.lt _ _ hx
          rw [HPL.out] at this
          omega
        have K5 := K4.call k5
        have HA5 := Lib.hid (HA4.out.keep k5)
        clear hpw
        generalize wk ps f s = l at *
        obtain ⟨L, hL⟩ : ∃ L, l.length = L := ⟨_, rfl⟩
        have HLL := Lib.hid hL
        rw [hL] at hia ⊢
        have hmc : L ≤ e5 ∧ e5 ≤ 9223372036854775807 := by have h1 := hia.2.1; have h2 := hia.2.2.1; unfold maxLen at h2; omega
        have HIA := Lib.hid hia

        clear hia hL
        go_wp2_with fail
        go_loopw [15] (fun iv w9 => ∃ (i : Nat) (F : Nat → Value), i ≤ L ∧ iv = .int .i64 i ∧ Arr6 w3 Q w9 F ∧ Hid (Marks F (fun x => Wanted ps O f s x ∨ x ∈ l.take i)) ∧ Hid (But [Q] w5 w9)) (fun iv _ => L - (intOf iv).toNat)
        case atStart => exact ⟨0, F, by omega, rfl, HA5.out, Lib.hid (hm.out.of fun k _ => by simp), But.refl _ _⟩
        case round =>
          obtain ⟨i, F2, hi, rfl, ha2, hm3, hb3⟩ := hrel
          have HA9 := Lib.hid ha2
          by_cases hil : i < L
          · obtain ⟨x, hx⟩ : ∃ x, l[i]? = some x := ⟨_, List.getElem?_eq_getElem (by rw [HLL.out]; exact hil)⟩
            obtain ⟨b, off, rfl, hcc⟩ := HIA.out.2.2.2.2 (by omega)
            have hbQ : b ≠ Q := HA5.out.apart (hcc i hil) (fun k => by obtain ⟨B, h1, _⟩ := hm.out; exact ⟨B k, h1 k⟩)
            have q1 : wr.cell? ⟨b, off + i, none⟩ = some (.int .i64 (x : Nat)) := by rw [hb3.out.at_ (hcc i hil) (by simpa using hbQ), ints_get hx]
            have hx6 := hlx.out i x hx
            have c1 := ha2.cells x hx6
            have f1 := ha2.frz x
            have P2 := Lib.hid (HA9.out.put (by have := HQ.out; omega) hx6 (.bool true))
            have M2 : Hid (Marks (fun k => if k = x then Value.bool true else F2 k) (fun y => Wanted ps O f s y ∨ y ∈ l.take (i + 1))) := (hm3.out.put x).of fun k _ => by
              obtain ⟨hlt9, he9⟩ := List.getElem?_eq_some_iff.1 hx
              rw [List.take_succ_eq_append_getElem hlt9, he9]
              simp [or_assoc]
            have B2 := Lib.hid (hb3.out.setCell (p := ⟨Q, x, none⟩) (.inl (by simp)) (.bool true))
            clear ha2 hcc hx
            go_wp2_with fail
            go_roundw
            case rel => first | exact ⟨i + 1, _, by omega, by go_num, P2.out, M2, B2⟩ | ((repeat apply Exists.intro); exact ⟨⟨i + 1, _, by omega, by go_num, P2.out, M2, B2⟩, rfl⟩)
            case measure => simp [intOf]; omega
          · obtain rfl : i = L := by omega
            have hm4 : Hid (Marks F2 (Wanted ps O f (s + 1))) := hm3.out.of fun k _ => by
              rw [hm2.out k, List.take_of_length_le (by rw [HLL.out]; exact Nat.le_refl _)]
            clear ha2
            go_wp2_with fail
            go_roundw
            case rel => first | exact ⟨s + 1, F2, by omega, by go_num, HA9.out, hm4⟩ | ((repeat apply Exists.intro); exact ⟨⟨s + 1, F2, by omega, by go_num, HA9.out, hm4⟩, rfl⟩)
            case measure => simp [intOf]; omega
      · have hm2 : Hid (Marks F (Wanted ps O f (s + 1))) := hm.out.of fun k _ => (wanted_no hbit).symm
        rw [decide_eq_false hbit]
        clear hbit
        go_wp2_with fail
        go_roundw
        case rel => first | exact ⟨s + 1, F, by omega, by go_num, HA4.out, hm2⟩ | ((repeat apply Exists.intro); exact ⟨⟨s + 1, F, by omega, by go_num, HA4.out, hm2⟩, rfl⟩)
        case measure => simp [intOf]; omega
    · obtain rfl : s = n3 := by omega
      have hmc : Hid (Marks F (Came ps O f)) := hm.out.of fun k _ => hwc.out k
      go_wp2_with fail
      refine (reach_any _ _ _ n1 d1 n2 d2 s d3 es os ps f key _ (HR.out.keep (K3.call kr)) HF.out hfn).mono ?_
      rintro e w4 ⟨mm, rfl, hmask, k4⟩
      rw [HO.out] at hmask
      obtain ⟨M, rfl, hM64, hMM⟩ := hmask
      have HMM := Lib.hid hMM
      have HA4 := Lib.hid (HA.out.keep k4)
      have K4 := kr.call k4
      have z0 := k4.at_ y0
      have z1 := k4.at_ y1
      have z2 := k4.at_ y2
      obtain ⟨BB, hB1, hB2⟩ := hmc.out
      have HB2 : Hid (∀ k, k < 6 → (BB k = true ↔ M / 2 ^ k % 2 = 1)) := fun k hk => (hB2 k hk).trans (hMM k hk).symm
      have HCC : Hid (∀ k, k < 6 → w4.cell? ⟨Q, k, none⟩ = some (.bool (BB k))) := fun k hk => by rw [HA4.out.cells k hk, hB1 k]
      have HD : Hid (∀ k, M / 2 ^ (k + 1) = M / 2 ^ k / 2) := fun k => by rw [Nat.pow_succ, Nat.div_div_eq_div_mul]
      clear hB1 hB2 hMM hm hmc
      go_wp2_with fail
      go_loopw [16, 17] (fun mv kv w9 => ∃ k q : Nat, k ≤ 6 ∧ q < 64 ∧ kv = .int .i64 k ∧ mv = .int .i64 q ∧ Hid (q = M / 2 ^ k) ∧ Kept w4 w9) (fun _ kv _ => 6 - (intOf kv).toNat)
      case atStart => exact ⟨0, M, by omega, hM64, rfl, rfl, Lib.hid (by simp), Kept.refl _⟩
      case round =>
        obtain ⟨k, q, hk6, hq64, rfl, rfl, hq, kr9⟩ := hrel
        by_cases hkl : k < 6
        · have ck := kr9.at_ (HCC.out k hkl)
          have hbk := HB2.out k hkl
          rw [← hq.out] at hbk
          have hx2 : ((q : Nat) : Int).tdiv 2 = ((q / 2 : Nat) : Int) := by rw [Int.tdiv_eq_ediv_of_nonneg (by omega)]; omega
          have hq2 : Hid (q / 2 = M / 2 ^ (k + 1)) := by unfold Hid; rw [HD.out k, hq.out]
          have hql : q / 2 < 64 := by omega
          generalize q / 2 = q2 at *
          generalize BB k = Bk at *
          rcases Nat.mod_two_eq_zero_or_one q with h1 | h1
          · have hx3 : ((q : Nat) : Int).tmod 2 = 0 := by rw [Int.tmod_eq_emod_of_nonneg (by omega)]; omega
            obtain rfl : Bk = false := by
              cases Bk
              · rfl
              · have := hbk.1 rfl; omega
            clear hbk h1
            go_wp2_with fail
            go_roundw
            case rel => first | exact ⟨k + 1, q2, by omega, hql, by go_num, rfl, hq2, kr9⟩ | ((repeat apply Exists.intro); exact ⟨⟨k + 1, q2, by omega, hql, by go_num, rfl, hq2, kr9⟩, rfl⟩)
            case measure => simp [intOf]; omega
          · have hx3 : ((q : Nat) : Int).tmod 2 = 1 := by rw [Int.tmod_eq_emod_of_nonneg (by omega)]; omega
            obtain rfl : Bk = true := hbk.2 h1
            clear hbk h1
            go_wp2_with fail
            go_roundw
            case rel => first | exact ⟨k + 1, q2, by omega, hql, by go_num, rfl, hq2, kr9⟩ | ((repeat apply Exists.intro); exact ⟨⟨k + 1, q2, by omega, hql, by go_num, rfl, hq2, kr9⟩, rfl⟩)
            case measure => simp [intOf]; omega
        · obtain rfl : k = 6 := by omega
          obtain rfl : q = 0 := by
            rw [hq.out]
            exact Nat.div_eq_of_lt hM64
          have z0 := kr9.at_ z0
          have z1 := kr9.at_ z1
          have z2 := kr9.at_ z2
          have hGG : Hid (Goes ps (nxt ps s O)) := by
            have := nxt_goes HF.out.tree (o := (O : Int)) (by omega) (by omega)
            rwa [HPL.out] at this
          have hSM : Hid (Small (nxt ps s O) f) := small_tree HF.out.tree hGG.out f
          have hQL : Hid (∀ l : List Pr, l = (allQ (nxt ps s O) f).tail → l.length < s) := fun l hl => by
            have h1 := (QI.all HF.out.tree (show f < ps.length by rw [HPL.out]; exact hfn) hGG.out 7).len
            obtain ⟨t, ht⟩ := all_start (nxt ps s O) f
            have h2 : (allQ (nxt ps s O) f).length ≤ ps.length := h1
            rw [ht] at h2 hl
            rw [HPL.out] at h2
            subst hl
            simp at h2 ⊢
            omega
          go_wp2_with fail
          refine (ways_any _ _ _ n1 d1 n2 d2 s d3 es os ps f key _ (HR.out.keep (K3.call (K4.call kr9))) HF.out (by rw [HO.out]; exact hSM.out)).mono ?_
          rintro e w5 ⟨D, c9, mw, rfl, hpr, k5⟩
          rw [HO.out] at hpr
          have hml : mw < s := by rw [← hpr.1]; exact hQL.out _ rfl
          clear hpr
          go_wp2_with fail
          go_ret
          exact ⟨by first | rfl | exact ret_bool (by simp; omega), K2.call (K3.call ((K4.call kr9).call k5))⟩
end Go.Proofs.Ytjmfdacokdffiaa
