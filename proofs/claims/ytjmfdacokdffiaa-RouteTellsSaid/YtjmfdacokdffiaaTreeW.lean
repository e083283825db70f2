/- The program's walk: the closure of Path, by depth. -/
import Derived.Test.YtjmfdacokdffiaaTreeA
set_option linter.unusedSimpArgs false
set_option linter.unusedVariables false
namespace Go.Proofs.Ytjmfdacokdffiaa
open Go.RowKit

theorem W.snoc {p : List Int} {l : List Nat} {a y : Nat} (h : W p (l ++ [a])) (hy : y < p.length) (hn : Nr p a y) (hb : l.getLast? ≠ some y) : W p (l ++ [a] ++ [y]) := by
  have h2 := h.rev
  rw [List.reverse_append] at h2
  have h3 : W p (y :: a :: l.reverse) := W.cons (y := a) (t := l.reverse) (by simpa using h2) hy hn.symm (by rw [List.head?_reverse]; exact hb)
  have := h3.rev
  simpa using this
/-- What the walk tells from one that stands behind others. -/
def DfsIs (p : List Int) (pre : List Nat) (x : Nat) (b : Int) (w : World) (e : Ending) (w' : World) : Prop :=
  ∃ (A : Option Addr) (c : Nat) (l : List Nat), e = .returned (.slice A l.length c) ∧ IntsAt w' A l.length c (ints l) ∧ Kept w w' ∧ (l = [] → A = none) ∧
    ((l = [] ∧ ∀ (m : List Nat) (z : Nat), W p (pre ++ (x :: m)) → (x :: m).getLast? = some z → (z : Int) ≠ b) ∨ (W p (pre ++ l) ∧ l.head? = some x ∧ ∃ z : Nat, l.getLast? = some z ∧ (z : Int) = b))
def FromIs (pre : List Nat) (fr : Int) : Prop := (pre = [] ∧ fr = -1) ∨ ∃ u : Nat, pre.getLast? = some u ∧ fr = u
set_option maxHeartbeats 4000000 in
theorem walk_any (A : Option Addr) (n c : Nat) (p : List Int) (R : Nat → Nat) (hT : T p R) (P B K : Nat) (b : Int) (f : Value) (hf : f = .func (.func 61) #[] #[.pointer (some ⟨B, 0, none⟩), .pointer (some ⟨P, 0, none⟩), .pointer (some ⟨K, 0, none⟩)]) : ∀ (k : Nat) (pre : List Nat) (x : Nat) (fr : Int) (w : World), pre.length + k = n → W p (pre ++ [x]) → FromIs pre fr → IntsAt w A n c p → w.cell? ⟨P, 0, none⟩ = some (.slice A n c) → w.cell? ⟨B, 0, none⟩ = some (.int .i64 b) → w.cell? ⟨K, 0, none⟩ = some f →
    Calls Try.prog 61 #[.int .i64 x, .int .i64 fr, .pointer (some ⟨B, 0, none⟩), .pointer (some ⟨P, 0, none⟩), .pointer (some ⟨K, 0, none⟩)] w (DfsIs p pre x b w) := by
  obtain ⟨i0, hi, hz0, hz1, hz2⟩ := info_parts infoInt
  have HI := Lib.hid hi
  have HT := Lib.hid hT
  clear hi hT
  subst hf
  intro k
  induction k with
  | zero =>
    intro pre x fr w hk hw _ hx
    have := hw.len HT.out
    have h1 := hx.1
    simp at this
    omega
  | succ k ih =>
    intro pre x fr w hk hw hfr hx cP cB cK
    have hxl := hw.lt pre.length x (by simp)
    have hpn : p.length = n := hx.1
    have h6 : n ≤ 6 := by rw [← hpn]; exact HT.out.six
    have HX := Lib.hid hx
    have HW := Lib.hid hw
    have HFR := Lib.hid hfr
    have HIH := Lib.hid ih
    have hn64 : n ≤ c := hx.2.1
    have hc64 : c ≤ 9223372036854775807 := by have := hx.2.2.1; unfold maxLen at this; omega
    clear hx hw hfr ih
    by_cases hxb : (x : Int) = b
    · subst hxb
      go_enter Try.func61, Try.ntmps61
      go_wp2_with fail
      go_ret
      have hc1 := heap_alloc_new w (.cells #[.int .i64 (x : Int)] 3)
      refine ⟨_, 1, [x], rfl, ⟨rfl, Nat.le_refl _, by unfold maxLen; omega, (fun h => by cases h), fun _ => ⟨_, 0, rfl, fun i hi => ?_⟩⟩, by repeat (first | exact Kept.refl _ | assumption | (refine Kept.alloc ?_ _) | (refine Kept.setCell ?_ (by first | omega | (simp; omega) | simp) _) | refine Kept.drew ?_ | refine Kept.drewN ?_ _ | (apply Kept.call; rotate_left; assumption)), (fun h => by cases h), .inr ⟨HW.out, rfl, x, rfl, rfl⟩⟩
      obtain rfl : i = 0 := by simp at hi; exact hi
      exact cell_one_new _ _ _ 0 _ rfl
    · have hxb2 : ((x : Int) == b) = false := by simpa using hxb
      have HXB := Lib.hid hxb
      clear hxb
      go_enter Try.func61, Try.ntmps61
      go_wp2_with fail
      go_loopw [17] (fun iv wr => ∃ j : Nat, j ≤ n ∧ iv = .int .i64 j ∧ Kept w wr ∧ Hid (∀ (i : Nat) (m : List Nat) (z : Nat), i < j → W p (pre ++ (x :: i :: m)) → (x :: i :: m).getLast? = some z → (z : Int) ≠ b)) (fun iv _ => n - (intOf iv).toNat)
      case atStart => exact ⟨0, by omega, rfl, by repeat (first | exact Kept.refl _ | assumption | (refine Kept.alloc ?_ _) | (refine Kept.setCell ?_ (by first | omega | (simp; omega) | simp) _) | refine Kept.drew ?_ | refine Kept.drewN ?_ _ | (apply Kept.call; rotate_left; assumption)), fun i m z h => by omega⟩
      case round =>
        obtain ⟨j, hj, rfl, kr, hno⟩ := hrel
        by_cases hlt : j < n
        · have next : Hid ((∀ (m : List Nat) (z : Nat), W p (pre ++ (x :: j :: m)) → (x :: j :: m).getLast? = some z → (z : Int) ≠ b) → ∀ (i : Nat) (m : List Nat) (z : Nat), i < j + 1 → W p (pre ++ (x :: i :: m)) → (x :: i :: m).getLast? = some z → (z : Int) ≠ b) := fun h i m z hi => by
            rcases Nat.lt_or_ge i j with g | g
            · exact hno i m z g
            · obtain rfl : i = j := by omega
              exact h m z
          have e1 := kr.at_ cP
          have e2 := kr.at_ cB
          have e3 := kr.at_ cK
          by_cases hjf : (j : Int) = fr
          · have hn2 : Hid (∀ (i : Nat) (m : List Nat) (z : Nat), i < j + 1 → W p (pre ++ (x :: i :: m)) → (x :: i :: m).getLast? = some z → (z : Int) ≠ b) := next (fun m z hw => by
              exfalso
              rcases HFR.out with ⟨_, h⟩ | ⟨u, h1, h2⟩
              · omega
              · obtain ⟨s, rfl⟩ := last_split h1
                exact hw.nb s.length u j (by simp) (by simp) (by omega))
            clear next
            subst hjf
            go_wp2_with fail
            go_roundw
            case rel => first | exact ⟨j + 1, by omega, by go_num, kr, hn2⟩ | ((repeat apply Exists.intro); exact ⟨⟨j + 1, by omega, by go_num, kr, hn2⟩, rfl⟩)
            case measure => simp [intOf]; omega
          · have d1 : ((j : Int) == fr) = false := by simpa using hjf
            by_cases hjx : j = x
            · have hn2 : Hid (∀ (i : Nat) (m : List Nat) (z : Nat), i < j + 1 → W p (pre ++ (x :: i :: m)) → (x :: i :: m).getLast? = some z → (z : Int) ≠ b) := next (fun m z hw => by
                exfalso
                subst hjx
                exact no_loop HT.out hxl (hw.nr pre.length j j (by simp) (by simp)))
              clear hjf next
              subst hjx
              go_wp2_with fail
              go_roundw
              case rel => first | exact ⟨j + 1, by omega, by go_num, kr, hn2⟩ | ((repeat apply Exists.intro); exact ⟨⟨j + 1, by omega, by go_num, kr, hn2⟩, rfl⟩)
              case measure => simp [intOf]; omega
            · have d2 : ((j : Int) == (x : Int)) = false := by simp; omega
              cases hnr : nearB p x j
              · have hn2 : Hid (∀ (i : Nat) (m : List Nat) (z : Nat), i < j + 1 → W p (pre ++ (x :: i :: m)) → (x :: i :: m).getLast? = some z → (z : Int) ≠ b) := next (fun m z hw => by
                  exfalso
                  have h1 := hw.nr pre.length x j (by simp) (by simp)
                  have h2 : nearB p x j = true := by unfold nearB; rcases h1 with h | h <;> simp [h]
                  rw [h2] at hnr; cases hnr)
                have HNR := Lib.hid hnr
                clear hjf hjx next hnr
                go_wp2_with fail
                refine (near_any A n c p x j _ (HX.out.keep kr) (by omega) hlt).mono ?_
                rintro e w2 ⟨rfl, k2⟩
                have K2 := kr.call k2
                rw [HNR.out]
                go_wp2_with fail
                go_roundw
                case rel => first | exact ⟨j + 1, by omega, by go_num, K2, hn2⟩ | ((repeat apply Exists.intro); exact ⟨⟨j + 1, by omega, by go_num, K2, hn2⟩, rfl⟩)
                case measure => simp [intOf]; omega
              · have HNR := Lib.hid hnr
                have hNr : Hid (Nr p x j) := by
                  unfold nearB at hnr
                  simp at hnr
                  exact hnr
                have HJX := Lib.hid hjx
                have HJF := Lib.hid hjf
                have NEXT := Lib.hid next
                clear hjf hjx next hnr
                go_wp2_with fail
                refine (near_any A n c p x j _ (HX.out.keep kr) (by omega) hlt).mono ?_
                rintro e w2 ⟨rfl, k2⟩
                have K2 := kr.call k2
                have e1 := k2.at_ e1
                have e2 := k2.at_ e2
                have e3 := k2.at_ e3
                rw [HNR.out]
                have hW2 : W p (pre ++ [x] ++ [j]) := HW.out.snoc (by omega) hNr.out (fun h => by
                  rcases HFR.out with ⟨h1, _⟩ | ⟨u, h1, h2⟩
                  · rw [h1] at h; cases h
                  · rw [h1] at h; cases h; exact HJF.out h2.symm)
                go_wp2_with fail
                refine (HIH.out (pre ++ [x]) j x w2 (by simp; omega) hW2 (.inr ⟨x, by simp, rfl⟩) (HX.out.keep K2) e1 e2 e3).mono ?_
                rintro e w3 ⟨A3, c3, l, rfl, hia, k3, hnil, hres⟩
                rcases l with _ | ⟨l0, ls⟩
                · obtain rfl : A3 = none := hnil rfl
                  have hn2 : Hid (∀ (i : Nat) (m : List Nat) (z : Nat), i < j + 1 → W p (pre ++ (x :: i :: m)) → (x :: i :: m).getLast? = some z → (z : Int) ≠ b) := NEXT.out (fun m z hw hz => by
                    rcases hres with ⟨_, h⟩ | ⟨_, h, _⟩
                    · exact h m z (by simpa using hw) (by rwa [List.getLast?_cons_cons] at hz)
                    · cases h)
                  have K3 := K2.call k3
                  clear hres hia hnil
                  go_wp2_with fail
                  go_roundw
                  case rel => first | exact ⟨j + 1, by omega, by go_num, K3, hn2⟩ | ((repeat apply Exists.intro); exact ⟨⟨j + 1, by omega, by go_num, K3, hn2⟩, rfl⟩)
                  case measure => simp [intOf]; omega
                · have hres2 : Hid (W p (pre ++ [x] ++ (l0 :: ls)) ∧ ∃ z : Nat, (l0 :: ls).getLast? = some z ∧ (z : Int) = b) := by
                    rcases hres with ⟨h, _⟩ | ⟨h1, _, h2⟩
                    · cases h
                    · exact ⟨h1, h2⟩
                  have hll : (l0 :: ls).length ≤ 6 := by have := hres2.out.1.len HT.out; simp at this ⊢; omega
                  obtain ⟨rb, ro, rfl, _⟩ := hia.2.2.2.2 (by simp)
                  have HIA := Lib.hid hia
                  have K3 := K2.call k3
                  clear hres hia hnil
                  have hlz : Hid (0 < (l0 :: ls).length) := by unfold Hid; simp
                  generalize l0 :: ls = l at *
                  have hown := own_new w3 3 [.int .i64 (x : Int)] 1 1 rfl (by decide)
                  have HN : Hid (∀ i u, (natC (l.take l.length))[i]? = some u → (w3.alloc (.cells #[.int .i64 (x : Int)] 3)).cell? ((⟨rb, ro, none⟩ : Addr).add i) = some u) := (HIA.out.keep ((Kept.refl w3).alloc _)).news l.length
                  have HNL : Hid ((natC (l.take l.length)).length = l.length * 1) := by unfold Hid; rw [natC_len, List.take_length, Nat.mul_one]
                  go_wp2_with (at_builtin; refine wpList_append_own _ rfl _ _ 22 rfl w3.heap.size 3 i0 (.int .i64 0) 1 8 Try.underlying22 HI.out hz0 hz1 hz2 rfl (by decide) _ 1 [.int .i64 (x : Int)] rfl hown ⟨rb, ro, none⟩ l.length c3 (natC (l.take l.length)) rfl HNL.out HN.out (natC_one _) (by unfold maxLen; omega) (by omega) (by first | omega | (simp; omega) | simp) ?_; intro v5 w5 hown5 hgrow5 _; have K5 : Kept w3 w5 := Kept.grown ((Kept.refl w3).alloc _) hgrow5 (by intro g hg; have h9 : some w3.heap.size = some g := hg; injection h9 with h9; exact Nat.le_of_eq h9))
                  go_ret
                  have ho5 : w5.ownsRow w3.heap.size 3 1 v5 (x :: l).length (natC (x :: l)) := by
                    have e : natC (x :: l) = [.int .i64 (x : Int)] ++ natC (l.take l.length) := by rw [List.take_length]; rfl
                    rw [e, List.length_cons, Nat.add_comm]
                    exact hown5
                  obtain ⟨A6, c6, rfl, h6⟩ := IntsAt.of_own ho5
                  obtain ⟨r1, z, r2, r3⟩ := hres2.out
                  refine ⟨A6, c6, x :: l, rfl, h6, K3.call K5, (fun h => by cases h), .inr ⟨by simpa using r1, rfl, z, ?_, r3⟩⟩
                  cases l with
                  | nil => cases r2
                  | cons l0 ls => rwa [List.getLast?_cons_cons]
        · obtain rfl : j = n := by omega
          go_wp2_with fail
          go_ret
          refine ⟨none, 0, [], rfl, ⟨rfl, Nat.le_refl _, by unfold maxLen; omega, fun _ => ⟨rfl, rfl⟩, fun h => absurd h (Nat.lt_irrefl _)⟩, kr, fun _ => rfl, .inl ⟨rfl, fun m z hw hz => ?_⟩⟩
          cases m with
          | nil =>
            simp at hz
            rw [← hz]
            exact HXB.out
          | cons i m => exact hno i m z (by have := hw.lt (pre.length + 1) i (by simp); omega) hw hz
end Go.Proofs.Ytjmfdacokdffiaa
