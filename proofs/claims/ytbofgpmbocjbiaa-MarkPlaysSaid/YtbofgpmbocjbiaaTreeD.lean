/- The program's Check: below the root are all, each once. Plain part, and slices.Index, Check. -/
import Derived.Test.YtbofgpmbocjbiaaTreeB
set_option linter.unusedSimpArgs false
set_option linter.unusedVariables false
namespace Go.Proofs.Ytbofgpmbocjbiaa
open Go.RowKit

def rnk : List Nat → Nat → Nat
  | [], _ => 0
  | y :: t, x => if y = x then 0 else rnk t x + 1
theorem rnk_at : ∀ {l : List Nat} {k x : Nat}, l.Nodup → l[k]? = some x → rnk l x = k
  | [], k, x, _, h => by simp at h
  | y :: t, 0, x, _, h => by
    obtain rfl : y = x := by simpa using h
    simp [rnk]
  | y :: t, k + 1, x, hn, h => by
    rw [List.getElem?_cons_succ] at h
    have hx : x ∈ t := List.mem_of_getElem? h
    have hne : y ≠ x := fun e => (List.nodup_cons.1 hn).1 (e ▸ hx)
    rw [rnk, if_neg hne, rnk_at (List.nodup_cons.1 hn).2 h]
theorem nodup_sub : ∀ (l m : List Nat), l.Nodup → (∀ x ∈ l, x ∈ m) → l.length ≤ m.length
  | [], m, _, _ => by simp
  | y :: t, m, hn, h => by
    have hy := h y (by simp)
    have := nodup_sub t (m.erase y) (List.nodup_cons.1 hn).2 (fun x hx => (List.mem_erase_of_ne (fun e : x = y => (List.nodup_cons.1 hn).1 (e ▸ hx))).2 (h x (by simp [hx])))
    rw [List.length_erase_of_mem hy] at this
    have : 0 < m.length := List.length_pos_of_mem hy
    simp
    omega
theorem below_tree {p : List Int} {l : List Nat} {r : Nat} (h1 : 1 ≤ p.length) (h6 : p.length ≤ 6) (hr : ∀ x, x < p.length → -1 ≤ pa p x ∧ pa p x < p.length) (hrl : r < p.length) (hroot : ∀ x, x < p.length → (pa p x = -1 ↔ x = r)) (be : Belo p l) (hm : r ∈ l) (has : ∀ y ∈ l, Has p l y) :
    l.length = p.length ↔ IsTree p := by
  constructor
  · intro he
    have all : ∀ x, x < p.length → x ∈ l := fun x hx => by
      refine Classical.byContradiction fun hn => ?_
      have := nodup_lt p.length (x :: l) (List.nodup_cons.2 ⟨hn, be.nd⟩) (fun y hy => by
        rcases List.mem_cons.1 hy with rfl | hy
        · exact hx
        · exact be.lt y hy)
      simp at this
      omega
    refine ⟨rnk l, h1, h6, hr, ⟨r, hrl, hroot⟩, fun x hx y hy => ?_, fun x hx => ?_⟩
    · obtain ⟨k, hk⟩ := List.getElem?_of_mem (all x hx)
      rw [rnk_at be.nd hk]
      rcases be.gr k x hk with g | ⟨j, z, g1, g2, g3⟩
      · omega
      · obtain rfl : z = y := by omega
        rw [rnk_at be.nd g2]
        exact g1
    · obtain ⟨k, hk⟩ := List.getElem?_of_mem (all x hx)
      rw [rnk_at be.nd hk]
      have : k < l.length := by
        rcases Nat.lt_or_ge k l.length with g | g
        · exact g
        · rw [List.getElem?_eq_none g] at hk; cases hk
      omega
  · rintro ⟨R, hT⟩
    have all : ∀ (k x : Nat), R x ≤ k → x < p.length → x ∈ l := by
      have step : ∀ x, x < p.length → (∀ y : Nat, pa p x = y → y ∈ l) → x ∈ l := fun x hx h => by
        by_cases e : pa p x = -1
        · rw [(hroot x hx).1 e]; exact hm
        · have h2 := hr x hx
          have h3 : (((pa p x).toNat : Nat) : Int) = pa p x := by omega
          exact has _ (h _ h3.symm) x hx h3.symm
      intro k
      induction k with
      | zero =>
        intro x hk hx
        refine step x hx (fun y hy => ?_)
        have := hT.rk x hx y hy
        omega
      | succ k ih =>
        intro x hk hx
        refine step x hx (fun y hy => ih y ?_ ?_)
        · have := hT.rk x hx y hy
          omega
        · have := hr x hx
          omega
    have a := nodup_sub (List.range p.length) l List.nodup_range (fun x hx => all _ x (Nat.le_refl _) (List.mem_range.1 hx))
    have b := be.len
    rw [List.length_range] at a
    omega

set_option maxHeartbeats 1000000 in
theorem index_any (A : Option Addr) (n c : Nat) (p : List Int) (v : Int) (r : Nat) (w : World) (hx : IntsAt w A n c p) (hr : r < n) (hv : pa p r = v) (hf : ∀ x, x < r → pa p x ≠ v) :
    Calls Try.prog 37 #[.slice A n c, .int .i64 v] w fun e w' => e = .returned (.int .i64 r) ∧ Kept w w' := by
  obtain ⟨b, off, rfl, hc⟩ := hx.2.2.2.2 (by omega)
  have HC := Lib.hid hc
  have HF := Lib.hid hf
  have HV := Lib.hid hv
  have hn : n ≤ 9223372036854775807 := by have h1 := hx.2.1; have h2 := hx.2.2.1; unfold maxLen at h2; omega
  clear hc hf hv hx
  go_enter Try.func37, Try.ntmps37
  go_wp2_with fail
  go_loopw [8] (fun iv wr => ∃ j : Nat, j ≤ r ∧ iv = .int .i64 j ∧ Kept w wr) (fun iv _ => n - (intOf iv).toNat)
  case atStart => exact ⟨0, by omega, rfl, by repeat (first | exact Kept.refl _ | assumption | (refine Kept.alloc ?_ _) | (refine Kept.setCell ?_ (by first | omega | (simp; omega) | simp) _) | refine Kept.drew ?_ | refine Kept.drewN ?_ _ | (apply Kept.call; rotate_left; assumption))⟩
  case round =>
    obtain ⟨j, hj, rfl, kr⟩ := hrel
    have hlt : j < n := by omega
    have c1 : wr.cell? ⟨b, off + j, none⟩ = some (.int .i64 (pa p j)) := kr.at_ (HC.out j hlt)
    by_cases e : j = r
    · subst e
      rw [HV.out] at c1
      go_wp2_with fail
      go_ret
      exact ⟨rfl, by repeat (first | exact Kept.refl _ | assumption | (refine Kept.alloc ?_ _) | (refine Kept.setCell ?_ (by first | omega | (simp; omega) | simp) _) | refine Kept.drew ?_ | refine Kept.drewN ?_ _ | (apply Kept.call; rotate_left; assumption))⟩
    · have d1 : (v == pa p j) = false := by simpa using fun h => HF.out j (by omega) h.symm
      generalize pa p j = q at *
      go_wp2_with fail
      go_roundw
      case rel => first | exact ⟨j + 1, by omega, by go_num, kr⟩ | ((repeat apply Exists.intro); exact ⟨⟨j + 1, by omega, by go_num, kr⟩, rfl⟩)
      case measure => simp [intOf]; omega

set_option maxHeartbeats 2000000 in
theorem check_any (A : Option Addr) (n c : Nat) (p : List Int) (w : World) (hx : IntsAt w A n c p) :
    Calls Try.prog 27 #[.slice A n c] w (BoolIs (IsTree p) w) := by
  have HX := Lib.hid hx
  obtain ⟨x1, x2, x3, x4, x5⟩ := hx
  unfold maxLen at x3
  have HX5 := Lib.hid x5
  have HX1 := Lib.hid x1
  clear x4 x5 x1
  rcases Nat.lt_or_ge n 1 with h1 | h1
  · have hn : Hid (¬ IsTree p) := fun h => by have := ((tree_iff p).1 h).1; have := HX1.out; omega
    have d1 : decide ((n : Int) < 1) = true := by simp; omega
    go_enter Try.func27, Try.ntmps27
    go_wp2_with fail
    go_ret
    exact boolNo rfl hn.out (by repeat (first | exact Kept.refl _ | assumption | (refine Kept.alloc ?_ _) | (refine Kept.setCell ?_ (by first | omega | (simp; omega) | simp) _) | refine Kept.drew ?_ | refine Kept.drewN ?_ _ | (apply Kept.call; rotate_left; assumption)))
  rcases Nat.lt_or_ge 6 n with h6 | h6
  · have hn : Hid (¬ IsTree p) := fun h => by have := ((tree_iff p).1 h).2.1; have := HX1.out; omega
    have d1 : decide ((n : Int) < 1) = false := by simp; omega
    have d6 : decide ((6 : Int) < (n : Int)) = true := by simp; omega
    go_enter Try.func27, Try.ntmps27
    go_wp2_with fail
    go_ret
    exact boolNo rfl hn.out (by repeat (first | exact Kept.refl _ | assumption | (refine Kept.alloc ?_ _) | (refine Kept.setCell ?_ (by first | omega | (simp; omega) | simp) _) | refine Kept.drew ?_ | refine Kept.drewN ?_ _ | (apply Kept.call; rotate_left; assumption)))
  have d1 : decide ((n : Int) < 1) = false := by simp; omega
  have d6 : decide ((6 : Int) < (n : Int)) = false := by simp; omega
  go_enter Try.func27, Try.ntmps27
  go_wp2_with fail
  go_loopw [3, 16] (fun r i wr => ∃ j : Nat, j ≤ n ∧ r = .int .i64 (rootsTo p j : Nat) ∧ i = .int .i64 j ∧ Kept w wr ∧ Hid (∀ x, x < j → (-1 ≤ pa p x ∧ pa p x < n))) (fun _ i _ => n - (intOf i).toNat)
  case atStart => exact ⟨0, by omega, rfl, rfl, by repeat (first | exact Kept.refl _ | assumption | (refine Kept.alloc ?_ _) | (refine Kept.setCell ?_ (by first | omega | (simp; omega) | simp) _) | refine Kept.drew ?_ | refine Kept.drewN ?_ _ | (apply Kept.call; rotate_left; assumption)), fun i hi => by omega⟩
  case round =>
    obtain ⟨j, hj, rfl, rfl, kr, hall⟩ := hrel
    obtain ⟨b, off, rfl, hc⟩ := HX5.out (by omega)
    by_cases hlt : j < n
    · have c1 : wr.cell? ⟨b, off + j, none⟩ = some (.int .i64 (pa p j)) := kr.at_ (hc j hlt)
      have HC := Lib.hid hc
      clear hc
      by_cases hrg : -1 ≤ pa p j ∧ pa p j < n
      · have hall2 : Hid (∀ x, x < j + 1 → (-1 ≤ pa p x ∧ pa p x < n)) := fun x hx => by
          rcases Nat.lt_or_ge x j with g | g
          · exact hall.out x g
          · obtain rfl : x = j := by omega
            exact hrg
        obtain ⟨g1, g2⟩ := hrg
        have hroots : Hid (rootsTo p (j + 1) = rootsTo p j + if pa p j = -1 then 1 else 0) := rfl
        have hrl := roots_le p j
        by_cases hv : pa p j = -1
        · rw [hv] at c1 g2
          have HR : Hid (rootsTo p (j + 1) = rootsTo p j + 1) := by unfold Hid; rw [hroots.out, if_pos hv]
          clear hroots hv g1
          generalize rootsTo p j = r at *
          go_wp2_with fail
          go_roundw
          case rel => first | exact ⟨j + 1, by omega, by rw [HR.out]; go_num, by go_num, kr, hall2⟩ | ((repeat apply Exists.intro); exact ⟨⟨j + 1, by omega, by rw [HR.out]; go_num, by go_num, kr, hall2⟩, rfl⟩)
          case measure => simp [intOf]; omega
        · have HR : Hid (rootsTo p (j + 1) = rootsTo p j) := by unfold Hid; rw [hroots.out, if_neg hv]; rfl
          have hv2 : (pa p j == -1) = false := by simpa using hv
          clear hroots hv
          generalize rootsTo p j = r at *
          generalize pa p j = q at *
          go_wp2_with fail
          go_roundw
          case rel => first | exact ⟨j + 1, by omega, by rw [HR.out], by go_num, kr, hall2⟩ | ((repeat apply Exists.intro); exact ⟨⟨j + 1, by omega, by rw [HR.out], by go_num, kr, hall2⟩, rfl⟩)
          case measure => simp [intOf]; omega
      · have hno : Hid (¬ IsTree p) := fun h => hrg (by have := ((tree_iff p).1 h).2.2.1 j (by rw [HX1.out]; exact hlt); rwa [HX1.out] at this)
        rcases Int.lt_or_le (pa p j) (-1) with g3 | g3
        · clear hrg
          generalize pa p j = v at *
          go_wp2_with fail
          go_ret
          exact boolNo rfl hno.out (by repeat (first | exact Kept.refl _ | assumption | (refine Kept.alloc ?_ _) | (refine Kept.setCell ?_ (by first | omega | (simp; omega) | simp) _) | refine Kept.drew ?_ | refine Kept.drewN ?_ _ | (apply Kept.call; rotate_left; assumption)))
        · have g4 : (n : Int) ≤ pa p j := by omega
          clear hrg
          generalize pa p j = v at *
          go_wp2_with fail
          go_ret
          exact boolNo rfl hno.out (by repeat (first | exact Kept.refl _ | assumption | (refine Kept.alloc ?_ _) | (refine Kept.setCell ?_ (by first | omega | (simp; omega) | simp) _) | refine Kept.drew ?_ | refine Kept.drewN ?_ _ | (apply Kept.call; rotate_left; assumption)))
    · obtain rfl : j = n := by omega
      have hrl := roots_le p j
      by_cases hone : rootsTo p j = 1
      · obtain ⟨r, hr, hroot⟩ := (roots_one p j).1 hone
        have hT : Hid (∀ l : List Nat, Belo p l → r ∈ l → (∀ y ∈ l, Has p l y) → (l.length = j ↔ IsTree p)) := fun l be hm has => by
          have e := HX1.out
          have := below_tree (p := p) (by omega) (by omega) (fun x hx => by rw [e] at hx ⊢; exact hall.out x hx) (by omega) (fun x hx => hroot x (by omega)) be hm has
          rwa [e] at this
        have hr1 := (hroot r hr).2 rfl
        have hr2 : Hid (∀ x, x < r → pa p x ≠ -1) := fun x hx h => by have := (hroot x (by omega)).1 h; omega
        rw [hone]
        have HR1 := Lib.hid hr1
        clear hc hroot hr1 hone hrl hall
        go_wp2_with fail
        refine (index_any (some ⟨b, off, none⟩) j c p (-1) r _ (HX.out.keep kr) hr HR1.out hr2.out).mono ?_
        rintro e w2 ⟨rfl, k2⟩
        have K2 := kr.call k2
        go_wp2_with fail
        refine (below_any (some ⟨b, off, none⟩) j c p r _ h6 (HX.out.keep K2) hr HR1.out).mono ?_
        rintro e w3 ⟨l, ⟨A3, c3, rfl, hia, k3⟩, be, hm, has⟩
        have K3 := K2.call k3
        have hl : Hid (l.length = j ↔ IsTree p) := hT.out l be hm has
        have hlen : l.length ≤ 6 := by have := be.len; rw [HX1.out] at this; omega
        clear hia be hm has
        generalize l.length = m at *
        go_wp2_with fail
        go_ret
        refine ⟨_, rfl, ?_, K3⟩
        rw [← hl.out]
        simp
        omega
      · have hno : Hid (¬ IsTree p) := fun h => hone (by have := ((tree_iff p).1 h).2.2.2.1; rwa [HX1.out] at this)
        have d : ((rootsTo p j : Int) == 1) = false := by simp; omega
        clear hone hc
        generalize rootsTo p j = r at *
        go_wp2_with fail
        go_ret
        exact boolNo rfl hno.out (by repeat (first | exact Kept.refl _ | assumption | (refine Kept.alloc ?_ _) | (refine Kept.setCell ?_ (by first | omega | (simp; omega) | simp) _) | refine Kept.drew ?_ | refine Kept.drewN ?_ _ | (apply Kept.call; rotate_left; assumption)))
end Go.Proofs.Ytbofgpmbocjbiaa
