/- The law TreeRings: parents that go round, with more roots, or none, are no tree. -/
import Derived.Test.YtcibbcfkehpmiaaTreeH
set_option linter.unusedSimpArgs false
set_option linter.unusedVariables false
namespace Go.Proofs.Ytcibbcfkehpmiaa
open Go.RowKit

def intC (l : List Int) : List Value := l.map fun x => .int .i64 x
theorem intC_len (l : List Int) : (intC l).length = l.length := by simp [intC]
theorem intC_one (l : List Int) : ∀ u ∈ intC l, u.oneCell' = true := by
  intro u hu
  simp only [intC, List.mem_map] at hu
  obtain ⟨x, _, rfl⟩ := hu
  rfl
theorem intC_set (l : List Int) (i : Nat) (x : Int) : intC (l.set i x) = (intC l).set i (.int .i64 x) := by simp [intC, List.map_set]
theorem IntsAt.of_ownI {w : World} {base e : Nat} {v : Value} {n : Nat} {xs : List Int} (h : w.ownsRow base e 1 v n (intC xs)) : ∃ A c, v = .slice A n c ∧ IntsAt w A n c xs := by
  have hl : xs.length = n := by have := h.1; rw [intC_len] at this; omega
  rcases h.2 with ⟨rfl, h0⟩ | ⟨g, cap, cur, rfl, hb, hg, h1, h2, h3, h4⟩
  · exact ⟨none, 0, by rw [h0], hl, by omega, by unfold maxLen; omega, fun _ => ⟨h0, rfl⟩, fun h => by omega⟩
  · refine ⟨_, cap, rfl, hl, h1, h2, (fun h => by cases h), fun h0 => ⟨g, 0, rfl, fun i hi => ?_⟩⟩
    rw [Nat.zero_add, h.cellAt i (by omega)]
    simp [intC, List.getElem?_eq_getElem (show i < xs.length by omega)]
theorem own_some {w : World} {base e k n : Nat} {v : Value} {xs : List Value} (h : w.ownsRow base e k v n xs) (h0 : 0 < n) : ∃ g c, v = .slice (some ⟨g, 0, none⟩) n c ∧ base ≤ g ∧ g < w.heap.size := by
  rcases h.2 with ⟨rfl, h1⟩ | ⟨g, cap, cur, rfl, hb, hg, _⟩
  · omega
  · exact ⟨g, cap, rfl, hb, (Array.getElem?_eq_some_iff.1 hg).1⟩
theorem intNews {w : World} {b n c : Nat} {p : List Int} (h : IntsAt w (some ⟨b, 0, none⟩) n c p) : ∀ j u, (intC p)[j]? = some u → w.cell? ((⟨b, 0, none⟩ : Addr).add j) = some u := by
  intro j u hu
  have hj : j < p.length := by have := (List.getElem?_eq_some_iff.1 hu).1; rwa [intC_len] at this
  obtain ⟨b2, off, e, hc⟩ := h.2.2.2.2 (by have := h.1; omega)
  cases e
  have := hc j (by have := h.1; omega)
  rw [show ((⟨b, 0, none⟩ : Addr).add j) = ⟨b, 0 + j, none⟩ from by unfold Addr.add; split <;> simp_all, this]
  rw [← hu]
  simp [intC, List.getElem?_eq_getElem hj]

theorem own_new2 (w : World) (a : Addr) (b : Value) (e : TypeId) (vals : List Value) (n size : Nat) (h : vals.length = n * size) (hn : n ≤ maxLen) :
    ((w.setCell a b).alloc (.cells vals.toArray e)).ownsRow w.heap.size e size (.slice (some ⟨w.heap.size, 0, none⟩) n n) n vals := by
  have := own_new (w.setCell a b) e vals n size h hn
  simpa only [World.size_setCell] using this
theorem pa_set_same {p : List Int} {i : Nat} (h : i < p.length) (x : Int) : pa (p.set i x) i = x := by simp [pa, h]
theorem pa_set_other {p : List Int} {i j : Nat} (h : j ≠ i) (x : Int) : pa (p.set i x) j = pa p j := by simp [pa, List.getElem?_set, Ne.symm h]
theorem Made.zero {p : List Int} {n : Nat} {f : Nat → Nat} (h : Made p n 0 f) : pa p 0 = -1 ∧ ∀ i, 0 < i → i < n → 0 ≤ pa p i := by
  constructor
  · have := h.at_ 0 h.one
    simpa [Nat.mod_eq_of_lt h.one] using this
  · intro i h1 h2
    have := h.at_ i h2
    rw [Nat.add_zero, Nat.mod_eq_of_lt h2, if_neg (by omega)] at this
    omega
theorem no_two {p : List Int} {n : Nat} {f : Nat → Nat} (h : Made p n 0 f) {a : Nat} (h1 : 0 < a) (h2 : a < n) : ¬ IsTree (p.set a (-1)) := by
  rintro ⟨R, hT⟩
  obtain ⟨r, _, hr⟩ := hT.root
  have hl := h.len
  have e1 := (hr 0 (by simp; omega)).1 (by rw [pa_set_other (by omega)]; exact h.zero.1)
  have e2 := (hr a (by simp; omega)).1 (pa_set_same (by omega) _)
  omega
theorem no_own {p : List Int} {n : Nat} {f : Nat → Nat} (h : Made p n 0 f) {a : Nat} (h2 : a < n) : ¬ IsTree (p.set a (a : Int)) := by
  rintro ⟨R, hT⟩
  have hl := h.len
  have := hT.rk a (by simp; omega) a (pa_set_same (by omega) _)
  omega
theorem no_none {p : List Int} {n : Nat} {f : Nat → Nat} (h : Made p n 0 f) {x : Int} (h2 : 0 ≤ x) : ¬ IsTree (p.set 0 x) := by
  rintro ⟨R, hT⟩
  obtain ⟨r, hr0, hr⟩ := hT.root
  have hl := h.len
  have e1 := (hr r hr0).2 rfl
  by_cases e : r = 0
  · subst e
    rw [pa_set_same (by simpa using hr0)] at e1
    omega
  · rw [pa_set_other e] at e1
    have := h.zero.2 r (by omega) (by simp at hr0; omega)
    omega
theorem not_nil : ¬ IsTree [] := by
  rintro ⟨R, hT⟩
  have := hT.one
  simp at this
set_option maxHeartbeats 4000000 in
theorem treeRings_walk (A : Option Addr) (m c : Nat) (x : Nat → Int) (q0 q1 : Int) (w : World) (r : RowAt w A m c 1 (fun i => [.int .i64 (x i)])) (_r2 : ∀ i, i < m → (Lit.int .i64 (x i)).wf = true) (_wa : (Lit.int .i64 q0).wf = true) (_wb : (Lit.int .i64 q1).wf = true) :
    Calls Try.prog 4 #[.slice A m c, .agg #[.int .i64 q0, .int .i64 q1]] w fun e w' => e = .returned (.bool true) ∧ Kept w w' := by
  obtain ⟨i0, hi, hz0, hz1, hz2⟩ := info_parts infoInt
  have HI := Lib.hid hi
  have HX := Lib.hid (IntsAt.of_row r)
  clear r _r2 _wa _wb hi
  generalize (List.range m).map x = l at *
  go_enter Try.func4, Try.ntmps4
  go_wp2_with fail
  refine (awake_any _).mono ?_
  rintro e w1 ⟨rfl, k1⟩
  have K1 : Kept w w1 := Kept.call (by repeat (first | exact Kept.refl _ | assumption | (refine Kept.alloc ?_ _) | (refine Kept.setCell ?_ (by first | omega | (simp; omega) | simp) _) | refine Kept.drew ?_ | refine Kept.drewN ?_ _ | (apply Kept.call; rotate_left; assumption))) k1
  have cq0 : w1.cell? ⟨w.heap.size, 0, none⟩ = some (.int .i64 q0) := k1.at_ (by go_simp)
  have cq1 : w1.cell? ⟨w.heap.size, 1, none⟩ = some (.int .i64 q1) := k1.at_ (by go_simp)
  go_wp2_with fail
  refine (made_any A m c l 0 _ (HX.out.keep (by repeat (first | exact Kept.refl _ | assumption | (refine Kept.alloc ?_ _) | (refine Kept.setCell ?_ (by first | omega | (simp; omega) | simp) _) | refine Kept.drew ?_ | refine Kept.drewN ?_ _ | (apply Kept.call; rotate_left; assumption))))).mono ?_
  rintro e w2 ⟨p, n, t, g, hn, _, ht0, rfl, hg, hp, hm, k2⟩
  obtain rfl : t = 0 := ht0 rfl
  have K2 : Kept w w2 := Kept.call (by repeat (first | exact Kept.refl _ | assumption | (refine Kept.alloc ?_ _) | (refine Kept.setCell ?_ (by first | omega | (simp; omega) | simp) _) | refine Kept.drew ?_ | refine Kept.drewN ?_ _ | (apply Kept.call; rotate_left; assumption))) k2
  have HP := Lib.hid hp
  have HM := Lib.hid hm
  have HN := Lib.hid hn
  have h1 := hm.one
  have h6 := hm.six
  clear hp hm hn ht0
  by_cases hn2 : n = 1
  · subst hn2
    go_wp2_with fail
    refine (check_any _ _ _ p _ HP.out).mono ?_
    rintro e w3 ⟨B, rfl, hB, k3⟩
    obtain rfl : B = true := hB.2 HM.out.tree
    clear hB
    go_wp2_with fail
    go_ret
    exact ⟨rfl, K2.call k3⟩
  · have cq0 := k2.at_ cq0
    have cq1 := k2.at_ cq1
    have hn3 : 2 ≤ n := by omega
    clear hn2
    have hb0 := tmod_bd q0 ((n : Int) - 1) (by omega)
    obtain ⟨b, hb1, hb2⟩ : ∃ b : Nat, (q0.tmod ((n : Int) - 1) + n - 1).tmod ((n : Int) - 1) = b ∧ b + 1 < n := by
      have h2 := Int.tmod_nonneg ((n : Int) - 1) (show 0 ≤ q0.tmod ((n : Int) - 1) + n - 1 by omega)
      have h3 := Int.tmod_lt_of_pos (q0.tmod ((n : Int) - 1) + n - 1) (show 0 < (n : Int) - 1 by omega)
      exact ⟨_, (Int.toNat_of_nonneg h2).symm, by omega⟩
    have hd0 := tmod_bd q1 (n : Int) (by omega)
    obtain ⟨d, hd1, hd2⟩ : ∃ d : Nat, (q1.tmod n + n).tmod n = d ∧ d < n := by
      have h2 := Int.tmod_nonneg (n : Int) (show 0 ≤ q1.tmod n + n by omega)
      have h3 := Int.tmod_lt_of_pos (q1.tmod n + n) (show 0 < (n : Int) by omega)
      exact ⟨_, (Int.toNat_of_nonneg h2).symm, by omega⟩
    have HNL : Hid ((intC p).length = n * 1) := by unfold Hid; rw [intC_len, HM.out.len, Nat.mul_one]
    go_wp2_with (first
      | (at_builtin; refine wpList_append_own _ rfl _ _ 22 rfl w2.heap.size 3 i0 (.int .i64 0) 1 8 Try.underlying22 HI.out hz0 hz1 hz2 rfl (by decide) _ 0 [] rfl (own_new w2 3 [] 0 1 rfl (by decide)) ⟨g, 0, none⟩ n n (intC p) rfl HNL.out (intNews (HP.out.keep (by repeat (first | exact Kept.refl _ | assumption | (refine Kept.alloc ?_ _) | (refine Kept.setCell ?_ (by first | omega | (simp; omega) | simp) _) | refine Kept.drew ?_ | refine Kept.drewN ?_ _ | (apply Kept.call; rotate_left; assumption))))) (intC_one p) (by unfold maxLen; omega) (by omega) (by first | omega | (simp; omega) | simp) ?_; intro v3 w3 hown3 hgrow3 _; rw [List.nil_append, Nat.zero_add] at hown3; obtain ⟨g3, c3, rfl, hg3, hh3⟩ := own_some hown3 (by omega); have O3 := Lib.hid hown3; have K3 : Kept w2 w3 := (Kept.grown (w := w2) (by repeat (first | exact Kept.refl _ | assumption | (refine Kept.alloc ?_ _) | (refine Kept.setCell ?_ (by first | omega | (simp; omega) | simp) _) | refine Kept.drew ?_ | refine Kept.drewN ?_ _ | (apply Kept.call; rotate_left; assumption))) hgrow3 (by intro g hg; have h9 : some w2.heap.size = some g := hg; injection h9 with h9; first | (simp at h9; omega) | omega)); obtain ⟨u3, cu3⟩ : ∃ u, w3.cell? ⟨g3, 1 + b, none⟩ = some u := ⟨_, (hown3.cellAt (1 + b) (by omega)).trans (List.getElem?_eq_getElem (by rw [HNL.out]; omega))⟩; have fu3 := hown3.frozenAt (1 + b); have KW3 : Kept w2 w3 := (Kept.grown ((Kept.refl (w2)).alloc _) hgrow3 (by intro g hg; have h9 : some w2.heap.size = some g := hg; injection h9 with h9; first | (simp; omega) | (simp [World.setCell]; omega) | omega)); have cq3 := K3.at_ cq1; clear hown3 hgrow3)
      | (at_builtin; refine wpList_append_own _ rfl _ _ 22 rfl w3.heap.size 3 i0 (.int .i64 0) 1 8 Try.underlying22 HI.out hz0 hz1 hz2 rfl (by decide) _ 0 [] rfl (own_new2 w3 _ _ 3 [] 0 1 rfl (by decide)) ⟨g, 0, none⟩ n n (intC p) rfl HNL.out (intNews (HP.out.keep (by repeat (first | exact Kept.refl _ | assumption | (refine Kept.alloc ?_ _) | (refine Kept.setCell ?_ (by first | omega | (simp; omega) | simp) _) | refine Kept.drew ?_ | refine Kept.drewN ?_ _ | (apply Kept.call; rotate_left; assumption))))) (intC_one p) (by unfold maxLen; omega) (by omega) (by first | omega | (simp; omega) | simp) ?_; intro v4 w4 hown4 hgrow4 _; rw [List.nil_append, Nat.zero_add] at hown4; obtain ⟨g4, c4, rfl, hg4, hh4⟩ := own_some hown4 (by omega); have O4 := Lib.hid hown4; have K4 : Kept w2 w4 := (Kept.grown (w := w2) (by repeat (first | exact Kept.refl _ | assumption | (refine Kept.alloc ?_ _) | (refine Kept.setCell ?_ (by first | omega | (simp; omega) | simp) _) | refine Kept.drew ?_ | refine Kept.drewN ?_ _ | (apply Kept.call; rotate_left; assumption))) hgrow4 (by intro g hg; have h9 : some w3.heap.size = some g := hg; injection h9 with h9; first | (simp at h9; omega) | omega)); obtain ⟨u4, cu4⟩ : ∃ u, w4.cell? ⟨g4, 1 + b, none⟩ = some u := ⟨_, (hown4.cellAt (1 + b) (by omega)).trans (List.getElem?_eq_getElem (by rw [HNL.out]; omega))⟩; have fu4 := hown4.frozenAt (1 + b); have KW4 : Kept (w3.setCell ⟨g3, 1 + b, none⟩ (.int .i64 (-1))) w4 := (Kept.grown ((Kept.refl ((w3.setCell ⟨g3, 1 + b, none⟩ (.int .i64 (-1))))).alloc _) hgrow4 (by intro g hg; have h9 : some w3.heap.size = some g := hg; injection h9 with h9; first | (simp; omega) | (simp [World.setCell]; omega) | omega)); have cq4 := K4.at_ cq1; clear hown4 hgrow4)
      | (at_builtin; refine wpList_append_own _ rfl _ _ 22 rfl w4.heap.size 3 i0 (.int .i64 0) 1 8 Try.underlying22 HI.out hz0 hz1 hz2 rfl (by decide) _ 0 [] rfl (own_new2 w4 _ _ 3 [] 0 1 rfl (by decide)) ⟨g, 0, none⟩ n n (intC p) rfl HNL.out (intNews (HP.out.keep (by repeat (first | exact Kept.refl _ | assumption | (refine Kept.alloc ?_ _) | (refine Kept.setCell ?_ (by first | omega | (simp; omega) | simp) _) | refine Kept.drew ?_ | refine Kept.drewN ?_ _ | (apply Kept.call; rotate_left; assumption))))) (intC_one p) (by unfold maxLen; omega) (by omega) (by first | omega | (simp; omega) | simp) ?_; intro v5 w5 hown5 hgrow5 _; rw [List.nil_append, Nat.zero_add] at hown5; obtain ⟨g5, c5, rfl, hg5, hh5⟩ := own_some hown5 (by omega); have O5 := Lib.hid hown5; have K5 : Kept w2 w5 := (Kept.grown (w := w2) (by repeat (first | exact Kept.refl _ | assumption | (refine Kept.alloc ?_ _) | (refine Kept.setCell ?_ (by first | omega | (simp; omega) | simp) _) | refine Kept.drew ?_ | refine Kept.drewN ?_ _ | (apply Kept.call; rotate_left; assumption))) hgrow5 (by intro g hg; have h9 : some w4.heap.size = some g := hg; injection h9 with h9; first | (simp at h9; omega) | omega)); obtain ⟨u5, cu5⟩ : ∃ u, w5.cell? ⟨g5, 0, none⟩ = some u := ⟨_, (hown5.cellAt (0) (by omega)).trans (List.getElem?_eq_getElem (by rw [HNL.out]; omega))⟩; have fu5 := hown5.frozenAt (0); have KW5 : Kept (w4.setCell ⟨g4, 1 + b, none⟩ (.int .i64 (1 + (b : Int)))) w5 := (Kept.grown ((Kept.refl ((w4.setCell ⟨g4, 1 + b, none⟩ (.int .i64 (1 + (b : Int)))))).alloc _) hgrow5 (by intro g hg; have h9 : some w4.heap.size = some g := hg; injection h9 with h9; first | (simp; omega) | (simp [World.setCell]; omega) | omega)); have cq5 := K5.at_ cq1; clear hown5 hgrow5)
      )
    have E3 : IntsAt (w3.setCell ⟨g3, 1 + b, none⟩ (.int .i64 (-1))) (some ⟨g3, 0, none⟩) n c3 (p.set (1 + b) (-1)) := by
      have h := (O3.out.stored (1 + b) (.int .i64 (-1))).1
      rw [← intC_set] at h
      obtain ⟨A9, c9, e9, h9⟩ := IntsAt.of_ownI h
      cases e9
      exact h9
    have E4 : IntsAt (w4.setCell ⟨g4, 1 + b, none⟩ (.int .i64 (1 + (b : Int)))) (some ⟨g4, 0, none⟩) n c4 (p.set (1 + b) (1 + (b : Int))) := by
      have h := (O4.out.stored (1 + b) (.int .i64 (1 + (b : Int)))).1
      rw [← intC_set] at h
      obtain ⟨A9, c9, e9, h9⟩ := IntsAt.of_ownI h
      cases e9
      exact h9
    have E5 : IntsAt (w5.setCell ⟨g5, 0, none⟩ (.int .i64 (d : Int))) (some ⟨g5, 0, none⟩) n c5 (p.set 0 (d : Int)) := by
      have h := (O5.out.stored 0 (.int .i64 (d : Int))).1
      rw [← intC_set] at h
      obtain ⟨A9, c9, e9, h9⟩ := IntsAt.of_ownI h
      cases e9
      exact h9
    have L4 := KW4.setCell (p := ⟨g4, 1 + b, none⟩) (by simp; omega) (.int .i64 (1 + (b : Int)))
    have L5 := KW5.setCell (p := ⟨g5, 0, none⟩) (by simp; omega) (.int .i64 (d : Int))
    have E3 := Lib.hid ((E3.keep L4).keep L5)
    have E4 := Lib.hid (E4.keep L5)
    have E5 := Lib.hid E5
    have K6 : Kept w2 (w5.setCell ⟨g5, 0, none⟩ (.int .i64 (d : Int))) := K5.setCell (by simp; omega) _
    have hb4 : Hid (¬ IsTree (p.set (1 + b) (1 + (b : Int)))) := by
      have := no_own HM.out (a := 1 + b) (by omega)
      rwa [show ((1 + b : Nat) : Int) = 1 + (b : Int) by omega] at this
    refine (check_any _ _ _ p _ (HP.out.keep K6)).mono ?_
    rintro e w7 ⟨B, rfl, hB, k7⟩
    obtain rfl : B = true := hB.2 HM.out.tree
    have E3 := Lib.hid (E3.out.keep k7)
    have E4 := Lib.hid (E4.out.keep k7)
    have E5 := Lib.hid (E5.out.keep k7)
    clear hB
    go_wp2_with fail
    refine (check_any _ _ _ _ _ E3.out).mono ?_
    rintro e w8 ⟨B, rfl, hB, k8⟩
    obtain rfl : B = false := by
      cases B
      · rfl
      · exact absurd (hB.1 rfl) (no_two HM.out (by omega) (by omega))
    have E4 := Lib.hid (E4.out.keep k8)
    have E5 := Lib.hid (E5.out.keep k8)
    clear hB
    go_wp2_with fail
    refine (check_any _ _ _ _ _ E4.out).mono ?_
    rintro e w9 ⟨B, rfl, hB, k9⟩
    obtain rfl : B = false := by
      cases B
      · rfl
      · exact absurd (hB.1 rfl) hb4.out
    have E5 := Lib.hid (E5.out.keep k9)
    clear hB
    go_wp2_with fail
    refine (check_any _ _ _ _ _ E5.out).mono ?_
    rintro e w10 ⟨B, rfl, hB, k10⟩
    obtain rfl : B = false := by
      cases B
      · rfl
      · exact absurd (hB.1 rfl) (no_none HM.out (by omega))
    clear hB
    go_wp2_with fail
    refine (check_any none 0 0 [] _ ⟨rfl, Nat.le_refl _, by unfold maxLen; omega, fun _ => ⟨rfl, rfl⟩, fun h => absurd h (Nat.lt_irrefl _)⟩).mono ?_
    rintro e w11 ⟨B, rfl, hB, k11⟩
    obtain rfl : B = false := by
      cases B
      · rfl
      · exact absurd (hB.1 rfl) not_nil
    clear hB
    go_wp2_with fail
    go_ret
    exact ⟨rfl, (((((K2.call K6).call k7).call k8).call k9).call k10).call k11⟩
end Go.Proofs.Ytcibbcfkehpmiaa
