/- The law TreeNear: to be near is mutual; a tree of n sites has n - 1 such pairs; who is near is one step far. -/
import Derived.Test.YtcibbcfkehpmiaaTreeSides
set_option linter.unusedSimpArgs false
set_option linter.unusedVariables false
namespace Go.Proofs.Ytcibbcfkehpmiaa
open Go.RowKit

def sm (f : Nat → Nat) : Nat → Nat
  | 0 => 0
  | n + 1 => sm f n + f n
theorem sm_congr {f g : Nat → Nat} : ∀ n, (∀ i, i < n → f i = g i) → sm f n = sm g n
  | 0, _ => rfl
  | n + 1, h => by rw [sm, sm, sm_congr n (fun i hi => h i (by omega)), h n (by omega)]
theorem sm_add (f g : Nat → Nat) : ∀ n, sm (fun i => f i + g i) n = sm f n + sm g n
  | 0 => rfl
  | n + 1 => by rw [sm, sm, sm, sm_add f g n]; omega
theorem sm_zero : ∀ n, sm (fun _ => 0) n = 0
  | 0 => rfl
  | n + 1 => by rw [sm, sm_zero n]
theorem sm_swap (f : Nat → Nat → Nat) (m : Nat) : ∀ n, sm (fun i => sm (fun k => f i k) m) n = sm (fun k => sm (fun i => f i k) n) m
  | 0 => by simp only [sm]; rw [sm_zero]
  | n + 1 => by
    rw [sm, sm_swap f m n, ← sm_add]
    rfl
def up1 (p : List Int) (i k : Nat) : Nat := if pa p i = k then 1 else 0
theorem sm_up (p : List Int) (i : Nat) : ∀ n, sm (fun k => up1 p i k) n = if 0 ≤ pa p i ∧ pa p i < n then 1 else 0
  | 0 => by simp only [sm]; rw [if_neg (by omega)]
  | n + 1 => by
    rw [sm, sm_up p i n]
    unfold up1
    by_cases e : pa p i = n
    · rw [if_pos e, if_neg (by omega), if_pos (by omega)]
    · rw [if_neg e]
      by_cases h : 0 ≤ pa p i ∧ pa p i < n
      · rw [if_pos h, if_pos (by omega)]
      · rw [if_neg h, if_neg (by omega)]
theorem near_len {p : List Int} (hp : IsTree p) {i : Nat} (hi : i < p.length) : ∀ n, n ≤ p.length → (nearTo p i n).length = sm (fun k => up1 p i k + up1 p k i) n
  | 0, _ => rfl
  | n + 1, hn => by
    have ih := near_len hp hi n (by omega)
    rw [sm, ← ih]
    obtain ⟨R, hR⟩ := hp
    unfold up1
    by_cases e1 : pa p i = n
    · by_cases e2 : pa p n = i
      · have h1 := hR.rk i hi n e1
        have h2 := hR.rk n (by omega) i e2
        omega
      · rw [if_pos e1, if_neg e2, nearTo_yes (by simp [nearB, e1]), List.length_append]
        rfl
    · by_cases e2 : pa p n = i
      · rw [if_neg e1, if_pos e2, nearTo_yes (by simp [nearB, e2]), List.length_append]
        rfl
      · rw [if_neg e1, if_neg e2, nearTo_no (by simp [nearB, e1, e2])]
        rfl
theorem up_all2 {p : List Int} (hp : IsTree p) : ∀ n, n ≤ p.length → sm (fun i => sm (fun k => up1 p i k) p.length) n + rootsTo p n = n
  | 0, _ => rfl
  | n + 1, hn => by
    have ih := up_all2 hp n (by omega)
    obtain ⟨R, hR⟩ := hp
    have hr := hR.rng n (by omega)
    rw [sm, rootsTo, sm_up]
    by_cases e : pa p n = -1
    · rw [if_neg (by omega), if_pos e]; omega
    · rw [if_pos (by omega), if_neg e]; omega
def pairsTo (p : List Int) (n : Nat) : Nat → Nat := sm (fun i => (nearTo p i n).length)
theorem pairs_all {p : List Int} (hp : IsTree p) : pairsTo p p.length p.length = 2 * (p.length - 1) := by
  unfold pairsTo
  rw [sm_congr p.length (fun i hi => near_len hp hi p.length (Nat.le_refl _))]
  rw [show sm (fun i => sm (fun k => up1 p i k + up1 p k i) p.length) p.length = sm (fun i => sm (fun k => up1 p i k) p.length) p.length + sm (fun i => sm (fun k => up1 p k i) p.length) p.length from by
    rw [← sm_add]
    exact sm_congr _ (fun i _ => sm_add _ _ _)]
  rw [sm_swap (fun i k => up1 p k i)]
  have h1 := up_all2 hp p.length (Nat.le_refl _)
  have h2 := ((tree_iff p).1 hp).2.2.2.1
  omega
theorem pairs_le (p : List Int) (n : Nat) : ∀ j, pairsTo p n j ≤ j * n
  | 0 => by simp [pairsTo, sm]
  | j + 1 => by
    have := pairs_le p n j
    unfold pairsTo at this ⊢
    rw [sm, Nat.succ_mul]
    have := nearTo_len p j n
    omega
theorem near_up {p : List Int} {a n i k u v : Nat} (hik : i < k) (h1 : (nearTo p a n)[i]? = some u) (h2 : (nearTo p a n)[k]? = some v) : u < v := by
  have h := List.Pairwise.sublist (List.filter_sublist (p := nearB p a)) (List.pairwise_lt_range (n := n))
  obtain ⟨g1, rfl⟩ := List.getElem?_eq_some_iff.1 h1
  obtain ⟨g2, rfl⟩ := List.getElem?_eq_some_iff.1 h2
  exact List.pairwise_iff_getElem.1 h i k g1 g2 hik
theorem far_near {p : List Int} (hp : IsTree p) {a b : Nat} (ha : a < p.length) (hb : b < p.length) : (((pathOf p a b).length : Int) - 1 = 1 ↔ Nr p a b) ∧ (((pathOf p a b).length : Int) - 1 = 0 ↔ a = b) ∧ (pathOf p a b).length ≤ 6 ∧ 1 ≤ (pathOf p a b).length := by
  rw [path_wk2 hp ha hb]
  obtain ⟨h1, h2, h3⟩ := wk_spec hp ha hb
  obtain ⟨t, ht⟩ := wk_cons hp ha hb
  have hlen : (wk p a b).length ≤ 6 := by
    obtain ⟨R, hR⟩ := hp
    have := h1.len hR
    have := hR.six
    omega
  refine ⟨⟨fun h => ?_, fun h => ?_⟩, ⟨fun h => ?_, fun h => ?_⟩, hlen, by rw [ht]; simp⟩
  · rw [ht] at h h1 h3
    match t, h with
    | [v], _ => obtain rfl : v = b := by simpa using h3
                exact h1.nr 0 a v rfl rfl
    | [], h => simp at h
    | _ :: _ :: t, h => simp at h; omega
  · rw [wk_near hp ha hb h]; rfl
  · rw [ht] at h h3
    match t, h with
    | [], _ => simpa using h3
    | _ :: t, h => simp at h; omega
  · subst h; rw [wk_self hp ha]; rfl
theorem tfarv (A : Option Addr) (n c : Nat) (p : List Int) (a b : Int) (w : World) (v : Int) (hx : IntsAt w A n c p) (hv : ((pathOf p a b).length : Int) - 1 = v) :
    Calls Try.prog 12 #[.slice A n c, .int .i64 a, .int .i64 b] w fun e w' => e = .returned (.int .i64 v) ∧ Kept w w' := by
  rw [← hv]; exact tfar A n c p a b w hx
set_option maxRecDepth 100000 in
set_option maxHeartbeats 4000000 in
theorem treeNear_walk (A : Option Addr) (m c : Nat) (x : Nat → Int) (tn q0 q1 : Int) (w : World) (r : RowAt w A m c 1 (fun i => [.int .i64 (x i)])) (_r2 : ∀ i, i < m → (Lit.int .i64 (x i)).wf = true) (_wt : (Lit.int .i64 tn).wf = true) (_wa : (Lit.int .i64 q0).wf = true) (_wb : (Lit.int .i64 q1).wf = true) :
    Calls Try.prog 8 #[.slice A m c, .int .i64 tn, .agg #[.int .i64 q0, .int .i64 q1]] w fun e w' => e = .returned (.bool true) ∧ Kept w w' := by
  have HX := Lib.hid (IntsAt.of_row r)
  clear r _r2 _wa _wt _wb
  generalize (List.range m).map x = l at *
  go_enter Try.func8, Try.ntmps8
  go_wp2_with fail
  refine (awake_any _).mono ?_
  rintro e w1 ⟨rfl, k1⟩
  have K1 : Kept w w1 := Kept.call (by repeat (first | exact Kept.refl _ | assumption | (refine Kept.alloc ?_ _) | (refine Kept.setCell ?_ (by first | omega | (simp; omega) | simp) _) | refine Kept.drew ?_ | refine Kept.drewN ?_ _ | (apply Kept.call; rotate_left; assumption))) k1
  have cq0 : w1.cell? ⟨w.heap.size, 0, none⟩ = some (.int .i64 q0) := k1.at_ (by go_simp)
  have cq1 : w1.cell? ⟨w.heap.size, 1, none⟩ = some (.int .i64 q1) := k1.at_ (by go_simp)
  go_wp2_with fail
  refine (made_any A m c l tn _ (HX.out.keep (by repeat (first | exact Kept.refl _ | assumption | (refine Kept.alloc ?_ _) | (refine Kept.setCell ?_ (by first | omega | (simp; omega) | simp) _) | refine Kept.drew ?_ | refine Kept.drewN ?_ _ | (apply Kept.call; rotate_left; assumption))))).mono ?_
  rintro e w2 ⟨p, n, t, g, hn, _, _, rfl, hg, hp, hm, k2⟩
  have K2 : Kept w w2 := K1.call k2
  have HP := Lib.hid hp
  have h1 := hm.one
  have h6 := hm.six
  have HT := Lib.hid hm.tree
  have HL := Lib.hid hm.len
  have cq0 := k2.at_ cq0
  have cq1 := k2.at_ cq1
  clear hn hm hp
  go_wp2_with fail
  go_loopw [10, 11] (fun pv iv wr => ∃ i : Nat, i ≤ n ∧ pv = .int .i64 (pairsTo p n i : Nat) ∧ iv = .int .i64 i ∧ Kept w2 wr) (fun _ iv _ => n - (intOf iv).toNat)
  case atStart => exact ⟨0, by omega, rfl, rfl, Kept.refl _⟩
  case round =>
    obtain ⟨i, hi, rfl, rfl, kr⟩ := hrel
    have hple : pairsTo p n i ≤ 36 := Nat.le_trans (pairs_le p n i) (Nat.mul_le_mul (show i ≤ 6 by omega) h6)
    by_cases hlt : i < n
    · have hstep : Hid (pairsTo p n (i + 1) = pairsTo p n i + (nearTo p i n).length) := rfl
      generalize pairsTo p n i = P at *
      go_wp2_with fail
      refine (tnear _ n n p i _ (HP.out.keep kr)).mono ?_
      rintro e w3 ⟨A3, c3, rfl, h3, k3⟩
      have K3 := kr.call k3
      have hno : nearOf p (i : Int) = nearTo p i n := by
        unfold nearOf
        rw [if_pos ⟨HT.out, by omega, by rw [HL.out]; omega⟩, Int.toNat_natCast, HL.out]
      rw [hno] at h3 ⊢
      have hN : (nearTo p i n).length ≤ n := nearTo_len p i n
      have HG : Hid (∀ k, k < (nearTo p i n).length → ∃ b, (nearTo p i n)[k]? = some b ∧ b < n ∧ Nr p i b ∧ ((pathOf p (i : Nat) (b : Nat)).length : Int) - 1 = 1) := fun k hk => by
        have hm := near_mem.1 (List.getElem_mem hk)
        exact ⟨_, List.getElem?_eq_getElem hk, hm.1, hm.2, (far_near HT.out (by rw [HL.out]; exact hlt) (by rw [HL.out]; exact hm.1)).1.2 hm.2⟩
      have HUP : Hid (∀ k u v, 0 < k → (nearTo p i n)[k - 1]? = some u → (nearTo p i n)[k]? = some v → u < v) := fun k u v hk h1 h2 => near_up (by omega) h1 h2
      have H3 := Lib.hid h3
      have hc3 : (nearTo p i n).length ≤ c3 ∧ c3 ≤ 9223372036854775807 := by have h1 := h3.2.1; have h2 := h3.2.2.1; unfold maxLen at h2; omega
      clear h3 hno
      generalize nearTo p i n = N at *
      obtain ⟨L, hL⟩ : ∃ L, N.length = L := ⟨_, rfl⟩
      rw [hL] at H3 hN HG hc3 hstep ⊢
      clear hL
      go_wp2_with fail
      go_loopw [13] (fun kv wr => ∃ k : Nat, k ≤ L ∧ kv = .int .i64 k ∧ Kept w3 wr) (fun kv _ => L - (intOf kv).toNat)
      case atStart => exact ⟨0, by omega, rfl, Kept.refl _⟩
      case round =>
        obtain ⟨k, hk, rfl, kr2⟩ := hrel
        by_cases hkl : k < L
        · obtain ⟨b, hb1, hb2, hb3, hb4⟩ := HG.out k hkl
          obtain ⟨nb, no, rfl, hnc⟩ := (H3.out.keep kr2).2.2.2.2 (by omega)
          have cb : wr.cell? ⟨nb, no + k, none⟩ = some (.int .i64 (b : Nat)) := by rw [hnc k hkl, ints_get hb1]
          have HB4 := Lib.hid hb4
          have d1 : decide (((b : Nat) : Int) < 0) = false := by simp
          have d2 : decide ((n : Int) ≤ ((b : Nat) : Int)) = false := by simp; omega
          have d3 : decide (n ≤ b) = false := by simp; omega
          by_cases h0 : k = 0
          · have e1 : decide ((0 : Int) < (k : Int)) = false := by simp; omega
            have e2 : decide (0 < k) = false := by simp; omega
            clear hb1 hb3 hb4 hnc h0
            go_wp2_with fail
            refine wp_region_text keepsOne (fun wB => Kept w2 wB ∧ Kept w3 wB ∧ wB.cell? ⟨nb, no + k, none⟩ = some (.int .i64 (b : Nat))) ?_ (by kernel_rfl) (by kernel_rfl) _ (by (try simp only [List.append_eq, List.cons_append, List.nil_append, List.toList_toArray]); exact rfl) ?_
            · exact ⟨by repeat (first | exact Kept.refl _ | assumption | (refine Kept.alloc ?_ _) | (refine Kept.setCell ?_ (by first | omega | (simp; omega) | simp) _) | refine Kept.drew ?_ | refine Kept.drewN ?_ _ | (apply Kept.call; rotate_left; assumption)), by repeat (first | exact Kept.refl _ | assumption | (refine Kept.alloc ?_ _) | (refine Kept.setCell ?_ (by first | omega | (simp; omega) | simp) _) | refine Kept.drew ?_ | refine Kept.drewN ?_ _ | (apply Kept.call; rotate_left; assumption)), by first | assumption | go_simp⟩
            rintro wB ⟨hkB, hkB1, sB1⟩
            repeat (first | (apply DW.det; (focus (intro wd hI; have hkd1 := hkB1.call hI; have td1 := hI.at_ sB1; skip; go_wp2_with (first | (go_at_call 12; refine (tfarv _ n n p i (b : Nat) _ 1 (HP.out.keep (hkB.call hI)) HB4.out).mono ?_; rintro e w5 ⟨rfl, hb5⟩)); refine StepPost.mk _ rfl ⟨rfl, ?_⟩; repeat (first | exact Kept.refl _ | assumption | (refine Kept.alloc ?_ _) | (refine Kept.setCell ?_ (by first | omega | (simp; omega) | simp) _) | refine Kept.drew ?_ | refine Kept.drewN ?_ _ | (apply Kept.call; rotate_left; assumption)))); simp only [Act.put, List.setIfInBounds_toArray, List.set_cons_succ, List.set_cons_zero]) | (refine DW.loud (by kernel_rfl) ?_; intro wd hI; have hkd1 := hkB1.call hI; have td1 := hI.at_ sB1; skip; go_wp2_with (first | (go_at_call 12; refine (tfarv _ n n p i (b : Nat) _ 1 (HP.out.keep (hkB.call hI)) HB4.out).mono ?_; rintro e w5 ⟨rfl, hb5⟩)); refine StepPost.loud _ rfl (by repeat (first | exact Kept.refl _ | assumption | (refine Kept.alloc ?_ _) | (refine Kept.setCell ?_ (by first | omega | (simp; omega) | simp) _) | refine Kept.drew ?_ | refine Kept.drewN ?_ _ | (apply Kept.call; rotate_left; assumption))) (fun hkL => ?_); have hkL := hI.call hkL; have hkB := hkB.call hkL; have hkB1 := hkB1.call hkL; have sB1 := hkL.at_ sB1; simp only [Act.put, List.setIfInBounds_toArray, List.set_cons_succ, List.set_cons_zero]))
            refine DW.nil ?_
            intro wd hI
            have hkd := hkB.call hI
            have hkd1 := hkB1.call hI; have td1 := hI.at_ sB1
            go_wp2_with fail
            go_roundw
            case rel => first | exact ⟨k + 1, by omega, by go_num, hkd1⟩ | ((repeat apply Exists.intro); exact ⟨⟨k + 1, by omega, by go_num, hkd1⟩, rfl⟩)
            case measure => simp [intOf]; omega
          · obtain ⟨u, hu1, hu2, _, _⟩ := HG.out (k - 1) (by omega)
            have cu : wr.cell? ⟨nb, no + (k - 1), none⟩ = some (.int .i64 (u : Nat)) := by rw [hnc (k - 1) (by omega), ints_get hu1]
            have hub := HUP.out k u b (by omega) hu1 hb1
            have e1 : decide ((0 : Int) < (k : Int)) = true := by simp; omega
            have e2 : decide (0 < k) = true := by simp; omega
            have e3 : decide (((b : Nat) : Int) ≤ ((u : Nat) : Int)) = false := by simp; omega
            have e4 : decide (b ≤ u) = false := by simp; omega
            have hkk : (k : Int) - 1 = ((k - 1 : Nat) : Int) := by omega
            clear hb1 hb3 hb4 hnc hu1 h0
            go_wp2_with fail
            refine wp_region_text keepsOne (fun wB => Kept w2 wB ∧ Kept w3 wB ∧ wB.cell? ⟨nb, no + k, none⟩ = some (.int .i64 (b : Nat)) ∧ wB.cell? ⟨nb, no + (k - 1), none⟩ = some (.int .i64 (u : Nat))) ?_ (by kernel_rfl) (by kernel_rfl) _ (by (try simp only [List.append_eq, List.cons_append, List.nil_append, List.toList_toArray]); exact rfl) ?_
            · exact ⟨by repeat (first | exact Kept.refl _ | assumption | (refine Kept.alloc ?_ _) | (refine Kept.setCell ?_ (by first | omega | (simp; omega) | simp) _) | refine Kept.drew ?_ | refine Kept.drewN ?_ _ | (apply Kept.call; rotate_left; assumption)), by repeat (first | exact Kept.refl _ | assumption | (refine Kept.alloc ?_ _) | (refine Kept.setCell ?_ (by first | omega | (simp; omega) | simp) _) | refine Kept.drew ?_ | refine Kept.drewN ?_ _ | (apply Kept.call; rotate_left; assumption)), by first | assumption | go_simp, by first | assumption | go_simp⟩
            rintro wB ⟨hkB, hkB1, sB1, sB2⟩
            repeat (first | (apply DW.det; (focus (intro wd hI; have hkd1 := hkB1.call hI; have td1 := hI.at_ sB1; have td2 := hI.at_ sB2; skip; go_wp2_with (first | (go_at_call 12; refine (tfarv _ n n p i (b : Nat) _ 1 (HP.out.keep (hkB.call hI)) HB4.out).mono ?_; rintro e w5 ⟨rfl, hb5⟩)); refine StepPost.mk _ rfl ⟨rfl, ?_⟩; repeat (first | exact Kept.refl _ | assumption | (refine Kept.alloc ?_ _) | (refine Kept.setCell ?_ (by first | omega | (simp; omega) | simp) _) | refine Kept.drew ?_ | refine Kept.drewN ?_ _ | (apply Kept.call; rotate_left; assumption)))); simp only [Act.put, List.setIfInBounds_toArray, List.set_cons_succ, List.set_cons_zero]) | (refine DW.loud (by kernel_rfl) ?_; intro wd hI; have hkd1 := hkB1.call hI; have td1 := hI.at_ sB1; have td2 := hI.at_ sB2; skip; go_wp2_with (first | (go_at_call 12; refine (tfarv _ n n p i (b : Nat) _ 1 (HP.out.keep (hkB.call hI)) HB4.out).mono ?_; rintro e w5 ⟨rfl, hb5⟩)); refine StepPost.loud _ rfl (by repeat (first | exact Kept.refl _ | assumption | (refine Kept.alloc ?_ _) | (refine Kept.setCell ?_ (by first | omega | (simp; omega) | simp) _) | refine Kept.drew ?_ | refine Kept.drewN ?_ _ | (apply Kept.call; rotate_left; assumption))) (fun hkL => ?_); have hkL := hI.call hkL; have hkB := hkB.call hkL; have hkB1 := hkB1.call hkL; have sB1 := hkL.at_ sB1; have sB2 := hkL.at_ sB2; simp only [Act.put, List.setIfInBounds_toArray, List.set_cons_succ, List.set_cons_zero]))
            refine DW.nil ?_
            intro wd hI
            have hkd := hkB.call hI
            have hkd1 := hkB1.call hI; have td1 := hI.at_ sB1; have td2 := hI.at_ sB2
            go_wp2_with fail
            go_roundw
            case rel => first | exact ⟨k + 1, by omega, by go_num, hkd1⟩ | ((repeat apply Exists.intro); exact ⟨⟨k + 1, by omega, by go_num, hkd1⟩, rfl⟩)
            case measure => simp [intOf]; omega
        · obtain rfl : k = L := by omega
          go_wp2_with fail
          go_roundw
          case rel => first | exact ⟨i + 1, by omega, by rw [hstep.out]; go_num, by go_num, K3.call kr2⟩ | ((repeat apply Exists.intro); exact ⟨⟨i + 1, by omega, by rw [hstep.out]; go_num, by go_num, K3.call kr2⟩, rfl⟩)
          case measure => simp [intOf]; omega
    · obtain rfl : i = n := by omega
      have hpa : pairsTo p i i = 2 * (i - 1) := by have := pairs_all HT.out; rwa [HL.out] at this
      rw [hpa]
      have cq0 := kr.at_ cq0
      have cq1 := kr.at_ cq1
      have ha0 := tmod_bd q0 (i : Int) (by omega)
      obtain ⟨a, ha1, ha2⟩ : ∃ d : Nat, (q0.tmod i + i).tmod i = d ∧ d < i := by
        have h2 := Int.tmod_nonneg (i : Int) (show 0 ≤ q0.tmod i + i by omega)
        have h3 := Int.tmod_lt_of_pos (q0.tmod i + i) (show 0 < (i : Int) by omega)
        exact ⟨_, (Int.toNat_of_nonneg h2).symm, by omega⟩
      have hb0 := tmod_bd q1 (i : Int) (by omega)
      obtain ⟨b, hb1, hb2⟩ : ∃ d : Nat, (q1.tmod i + i).tmod i = d ∧ d < i := by
        have h2 := Int.tmod_nonneg (i : Int) (show 0 ≤ q1.tmod i + i by omega)
        have h3 := Int.tmod_lt_of_pos (q1.tmod i + i) (show 0 < (i : Int) by omega)
        exact ⟨_, (Int.toNat_of_nonneg h2).symm, by omega⟩
      have hpi : ((2 * (i - 1) : Nat) : Int) = 2 * ((i : Int) - 1) := by omega
      rw [hpi]
      clear hple hpa hpi
      go_wp2_with fail
      refine (tnear _ i i p a _ (HP.out.keep kr)).mono ?_
      rintro e w3 ⟨A3, c3, rfl, h3, k3⟩
      have K3 := kr.call k3
      have hno : nearOf p (a : Int) = nearTo p a i := by
        unfold nearOf
        rw [if_pos ⟨HT.out, by omega, by rw [HL.out]; omega⟩, Int.toNat_natCast, HL.out]
      rw [hno] at h3 ⊢
      have hN : (nearTo p a i).length ≤ i := nearTo_len p a i
      have H3 := Lib.hid h3
      have HM : Hid (b ∈ nearTo p a i ↔ Nr p a b) := near_mem.trans ⟨fun h => h.2, fun h => ⟨hb2, h⟩⟩
      have hc3 : (nearTo p a i).length ≤ c3 ∧ c3 ≤ 9223372036854775807 := by have h1 := h3.2.1; have h2 := h3.2.2.1; unfold maxLen at h2; omega
      clear h3 hno
      generalize nearTo p a i = N at *
      obtain ⟨L, hL⟩ : ∃ L, N.length = L := ⟨_, rfl⟩
      rw [hL] at H3 hN hc3 ⊢
      have HLL := Lib.hid hL
      clear hL
      go_wp2_with fail
      go_loopw [16, 18] (fun ov kv wr => ∃ k : Nat, k ≤ L ∧ ov = .bool (decide (b ∈ N.take k)) ∧ kv = .int .i64 k ∧ Kept w3 wr) (fun _ kv _ => L - (intOf kv).toNat)
      case atStart => exact ⟨0, by omega, rfl, rfl, Kept.refl _⟩
      case round =>
        obtain ⟨k, hk, rfl, rfl, kr2⟩ := hrel
        by_cases hkl : k < L
        · obtain ⟨y, hy⟩ : ∃ y, N[k]? = some y := ⟨_, List.getElem?_eq_getElem (by rw [HLL.out]; exact hkl)⟩
          have hnx : Hid (b ∈ N.take (k + 1) ↔ (b ∈ N.take k ∨ b = y)) := by
            unfold Hid
            rw [List.take_succ_eq_append_getElem (by rw [HLL.out]; exact hkl), (List.getElem?_eq_some_iff.1 hy).2]
            simp
          obtain ⟨nb, no, rfl, hnc⟩ := (H3.out.keep kr2).2.2.2.2 (by omega)
          have cy : wr.cell? ⟨nb, no + k, none⟩ = some (.int .i64 (y : Nat)) := by rw [hnc k hkl, ints_get hy]
          clear hnc hy
          cases ho : decide (b ∈ N.take k)
          · have ho2 : Hid (¬ b ∈ N.take k) := of_decide_eq_false ho
            clear ho
            by_cases hby : b = y
            · have hn1 : Hid (decide (b ∈ N.take (k + 1)) = true) := decide_eq_true (hnx.out.2 (.inr hby))
              have d1 : (((y : Nat) : Int) == ((b : Nat) : Int)) = true := by simp; omega
              have d2 : (y == b) = true := by simp; omega
              clear hby
              go_wp2_with fail
              go_roundw
              case rel => first | exact ⟨k + 1, by omega, by rw [hn1.out], by go_num, kr2⟩ | ((repeat apply Exists.intro); exact ⟨⟨k + 1, by omega, by rw [hn1.out], by go_num, kr2⟩, rfl⟩)
              case measure => simp [intOf]; omega
            · have hn1 : Hid (decide (b ∈ N.take (k + 1)) = false) := decide_eq_false (fun h => (hnx.out.1 h).elim ho2.out hby)
              have d1 : (((y : Nat) : Int) == ((b : Nat) : Int)) = false := by simp; omega
              have d2 : (y == b) = false := by simp; omega
              clear hby
              go_wp2_with fail
              go_roundw
              case rel => first | exact ⟨k + 1, by omega, by rw [hn1.out], by go_num, kr2⟩ | ((repeat apply Exists.intro); exact ⟨⟨k + 1, by omega, by rw [hn1.out], by go_num, kr2⟩, rfl⟩)
              case measure => simp [intOf]; omega
          · have hn1 : Hid (decide (b ∈ N.take (k + 1)) = true) := decide_eq_true (hnx.out.2 (.inl (of_decide_eq_true ho)))
            clear ho
            go_wp2_with fail
            go_roundw
            case rel => first | exact ⟨k + 1, by omega, by rw [hn1.out], by go_num, kr2⟩ | ((repeat apply Exists.intro); exact ⟨⟨k + 1, by omega, by rw [hn1.out], by go_num, kr2⟩, rfl⟩)
            case measure => simp [intOf]; omega
        · obtain rfl : k = L := by omega
          have ht : N.take k = N := by rw [← HLL.out, List.take_length]
          rw [ht]
          obtain ⟨v1, v2, v3, v4⟩ := far_near HT.out (a := a) (b := b) (by rw [HL.out]; exact ha2) (by rw [HL.out]; exact hb2)
          obtain ⟨V, hV⟩ : ∃ V, ((pathOf p a b).length : Int) - 1 = V := ⟨_, rfl⟩
          have HV := Lib.hid hV
          rw [hV] at v1 v2
          have hVb : V ≤ 5 := by omega
          clear hV v3 v4 ht
          by_cases hV1 : V = 1
          · subst hV1
            have hb : decide (b ∈ N) = true := decide_eq_true (HM.out.2 (v1.1 rfl))
            have hab : ¬ a = b := fun h => by have := v2.2 h; omega
            have d1 : (((a : Nat) : Int) == ((b : Nat) : Int)) = false := by simp; omega
            have d2 : (a == b) = false := by simp; exact hab
            rw [hb]
            clear v1 v2 hb hab
            go_wp2_with fail
            refine (tfarv _ i i p a b _ 1 (HP.out.keep (K3.call kr2)) HV.out).mono ?_
            rintro e w5 ⟨rfl, k5⟩
            go_wp2_with fail
            refine (tfarv _ i i p a b _ 1 (HP.out.keep ((K3.call kr2).call k5)) HV.out).mono ?_
            rintro e w6 ⟨rfl, k6⟩
            go_wp2_with fail
            go_ret
            exact ⟨by first | rfl | exact ret_bool (by simp), K2.call (((K3.call kr2).call k5).call k6)⟩
          · have hb : decide (b ∈ N) = false := decide_eq_false (fun h => hV1 (v1.2 (HM.out.1 h)))
            have dV : (V == 1) = false := by simpa using hV1
            rw [hb]
            clear v1 hb hV1
            by_cases hV0 : V = 0
            · subst hV0
              obtain rfl : a = b := v2.1 rfl
              clear v2
              go_wp2_with fail
              refine (tfarv _ i i p a a _ 0 (HP.out.keep (K3.call kr2)) HV.out).mono ?_
              rintro e w5 ⟨rfl, k5⟩
              go_wp2_with fail
              refine (tfarv _ i i p a a _ 0 (HP.out.keep ((K3.call kr2).call k5)) HV.out).mono ?_
              rintro e w6 ⟨rfl, k6⟩
              go_wp2_with fail
              go_ret
              exact ⟨by first | rfl | exact ret_bool (by simp), K2.call (((K3.call kr2).call k5).call k6)⟩
            · have dV0 : (V == 0) = false := by simpa using hV0
              have hab : ¬ a = b := fun h => hV0 (v2.2 h)
              have d1 : (((a : Nat) : Int) == ((b : Nat) : Int)) = false := by simp; omega
              have d2 : (a == b) = false := by simp; exact hab
              clear v2 hab hV0
              go_wp2_with fail
              refine (tfarv _ i i p a b _ V (HP.out.keep (K3.call kr2)) HV.out).mono ?_
              rintro e w5 ⟨rfl, k5⟩
              go_wp2_with fail
              refine (tfarv _ i i p a b _ V (HP.out.keep ((K3.call kr2).call k5)) HV.out).mono ?_
              rintro e w6 ⟨rfl, k6⟩
              go_wp2_with fail
              go_ret
              exact ⟨by first | rfl | exact ret_bool (by simp), K2.call (((K3.call kr2).call k5).call k6)⟩
end Go.Proofs.Ytcibbcfkehpmiaa
