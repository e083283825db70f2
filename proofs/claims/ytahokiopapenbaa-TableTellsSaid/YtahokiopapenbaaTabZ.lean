/- The law's few. -/
import Derived.Test.YtahokiopapenbaaTabS
set_option linter.unusedSimpArgs false
set_option linter.unusedVariables false
namespace Go.Proofs.Ytahokiopapenbaa
open Go.RowKit

theorem rowS_own3 {w : World} {base e : Nat} {v : Value} {n : Nat} {rs : List Rg} (h : w.ownsRow base e 2 v n (rgC rs)) : ∃ A c, v = .slice A n c ∧ RowS w A n c rs ∧ ∀ b off, A = some ⟨b, off, none⟩ → base ≤ b := by
  have hl : rs.length = n := by have := h.1; rw [rgC_len] at this; omega
  rcases h.2 with ⟨rfl, h0⟩ | ⟨g, cap, cur, rfl, hb, hg, h1, h2, h3, h4⟩
  · exact ⟨none, 0, by rw [h0], ⟨hl, by omega, by unfold maxLen; omega, fun _ => ⟨h0, rfl⟩, fun h => by omega⟩, fun _ _ h => by cases h⟩
  · refine ⟨_, cap, rfl, ⟨hl, h1, h2, (fun h => by cases h), fun h0 => ⟨g, 0, rfl, fun i hi => ?_⟩⟩, fun b off e => by cases e; exact hb⟩
    obtain ⟨e1, e2⟩ := rgC_at rs i (by omega)
    rw [Nat.zero_add, h.cellAt (i * 2) (by omega), h.cellAt (i * 2 + 1) (by omega)]
    exact ⟨e1, e2⟩
theorem rowS_same {w w2 : World} {A : Option Addr} {n c z : Nat} {rs : List Rg} (h : RowS w A n c rs) (hz : ∀ b off, A = some ⟨b, off, none⟩ → z ≤ b) (hs : ∀ g o, z ≤ g → w2.cell? ⟨g, o, none⟩ = w.cell? ⟨g, o, none⟩) : RowS w2 A n c rs := by
  obtain ⟨h1, h2, h3, h4, h5⟩ := h
  refine ⟨h1, h2, h3, h4, fun h0 => ?_⟩
  obtain ⟨b, off, e, hc⟩ := h5 h0
  have hb := hz b off e
  exact ⟨b, off, e, fun i hi => by rw [hs _ _ hb, hs _ _ hb]; exact hc i hi⟩
theorem ints_cut {w : World} {A : Option Addr} {n c m : Nat} {xs : List Int} (h : IntsAt w A n c xs) (hm : m ≤ n) (h0 : 0 < m) : IntsAt w A m c (xs.take m) := by
  obtain ⟨h1, h2, h3, h4, h5⟩ := h
  refine ⟨by rw [List.length_take]; omega, by omega, h3, fun e => by have := (h4 e).1; omega, fun _ => ?_⟩
  obtain ⟨b, off, e, hc⟩ := h5 (by omega)
  exact ⟨b, off, e, fun i hi => by rw [List.getElem?_take_of_lt hi]; exact hc i (by omega)⟩
theorem ints_cut2 {w : World} {A : Option Addr} {n c m : Nat} {xs : List Int} (h : IntsAt w A n c xs) (hm : m = n ∨ (0 < m ∧ m ≤ n)) : ∃ ys, IntsAt w A m c ys := by
  rcases hm with rfl | ⟨h0, hm⟩
  · exact ⟨xs, h⟩
  · exact ⟨_, ints_cut h hm h0⟩
theorem few_end {w wF : World} {A2 : Option Addr} {B C : Option Addr} {n2 c2 n3 c3 j c4 m2 m3 z : Nat} {xs : List Rg} (K : Kept w wF) (RS : RowS wF A2 j c4 xs) (hA : ∀ b off, A2 = some ⟨b, off, none⟩ → z ≤ b) (hz : z = w.heap.size + 2) (hsm : Small xs) (h2 : m2 = n2 ∨ (0 < m2 ∧ m2 ≤ n2)) (h3 : m3 = n3 ∨ (0 < m3 ∧ m3 ≤ n3)) :
    ∃ A1 m1 d1 k2 k3 xs, Ending.returned (.agg #[.slice A2 j c4, .slice B m2 c2, .slice C m3 c3]) = Ending.returned (.agg #[.slice A1 m1 d1, .slice B k2 c2, .slice C k3 c3]) ∧ RowS wF A1 m1 d1 xs ∧ (∀ b off, A1 = some ⟨b, off, none⟩ → w.heap.size ≤ b) ∧ (k2 = n2 ∨ (0 < k2 ∧ k2 ≤ n2)) ∧ (k3 = n3 ∨ (0 < k3 ∧ k3 ≤ n3)) ∧ Small xs ∧ Kept w wF :=
  ⟨_, _, _, _, _, xs, rfl, RS, fun b off e => by have := hA b off e; omega, h2, h3, hsm, K⟩
theorem small_snoc {xs : List Rg} {a b : ByteArray} (h : Small xs) (ha : a.size ≤ 12) (hb : b.size ≤ 12) : Small (xs ++ [(a, b)]) := by
  intro i hi
  rw [List.length_append, List.length_singleton] at hi
  rcases Nat.lt_or_ge i xs.length with g | g
  · have := h i g
    unfold rg at this ⊢
    rwa [List.getElem?_append_left g]
  · obtain rfl : i = xs.length := by omega
    unfold rg
    rw [List.getElem?_append_right (Nat.le_refl _), Nat.sub_self]
    exact ⟨by show a.size ≤ _; omega, by show b.size ≤ _; omega⟩
theorem cells_twoO (w : World) (o : Obj) (a b : Value) (t : TypeId) : ∀ (j : Nat) (u : Value), [a, b][j]? = some u → ((w.alloc o).alloc (.cells #[a, b] t)).cell? ((⟨w.heap.size + 1, 0, none⟩ : Addr).add j) = some u := by
  have h := cells_two (w.alloc o) a b t
  simpa only [World.size_alloc] using h
theorem kset {w w2 : World} {b o : Nat} {v : Value} (hb : w.heap.size ≤ b) (h : Kept w w2) : Kept w (w2.setCell ⟨b, o, none⟩ v) := Kept.setCell h hb v
theorem cfar {w : World} {b o g x : Nat} {v : Value} (h : b ≠ g) : (w.setCell ⟨b, x, none⟩ v).cell? ⟨g, o, none⟩ = w.cell? ⟨g, o, none⟩ := World.cell?_setCell_other _ _ _ _ (by simp only [ne_eq, Addr.mk.injEq]; omega)
theorem ne0 {s z g : Nat} (hz : z = s + 2) (h : z ≤ g) : s ≠ g := by omega
theorem ne1 {s z g : Nat} (hz : z = s + 2) (h : z ≤ g) : s + 1 ≠ g := by omega
set_option maxHeartbeats 16000000 in
theorem few_any (A B C : Option Addr) (n1 c1 n2 c2 n3 c3 : Nat) (rs : List Rg) (os ps : List Int) (w : World) (hr : RowW w A n1 c1 B n2 c2 C n3 c3 rs os ps) :
    Calls Try.prog 18 #[.agg #[.slice A n1 c1, .slice B n2 c2, .slice C n3 c3]] w fun e w' => ∃ A1 m1 d1 k2 k3 xs, e = .returned (.agg #[.slice A1 m1 d1, .slice B k2 c2, .slice C k3 c3]) ∧ RowS w' A1 m1 d1 xs ∧ (∀ b off, A1 = some ⟨b, off, none⟩ → w.heap.size ≤ b) ∧ (k2 = n2 ∨ (0 < k2 ∧ k2 ≤ n2)) ∧ (k3 = n3 ∨ (0 < k3 ∧ k3 ≤ n3)) ∧ Small xs ∧ Kept w w' := by
  obtain ⟨i0, hi, hzz0, hzz1, hzz2⟩ := info_parts infoRg
  have HI := Lib.hid hi
  have HR := Lib.hid hr
  obtain ⟨b1, b2, b3⟩ := hr.bd
  have hb1 : n1 ≤ c1 ∧ c1 ≤ 9223372036854775807 := by have h1 := hr.rs.2.1; have h2 := hr.rs.2.2.1; unfold maxLen at h2; omega
  have hb2 : n2 ≤ c2 ∧ c2 ≤ 9223372036854775807 := by have h1 := hr.os.2.1; have h2 := hr.os.2.2.1; unfold maxLen at h2; omega
  have hb3 : n3 ≤ c3 ∧ c3 ≤ 9223372036854775807 := by have h1 := hr.ps.2.1; have h2 := hr.ps.2.2.1; unfold maxLen at h2; omega
  clear hr hi
  go_enter Try.func18, Try.ntmps18
  go_wp2_with fail
  obtain ⟨w1, hw1⟩ : ∃ w1, w1 = ((w.alloc (.cells #[.slice A n1 c1, .slice B n2 c2, .slice C n3 c3] 31)).alloc (.cells #[.slice none 0 0, .slice none 0 0, .slice none 0 0] 31)) := ⟨_, rfl⟩
  have e0 : w1.cell? ⟨w.heap.size, 0, none⟩ = some (.slice A n1 c1) := by rw [hw1]; go_simp
  have e1 : w1.cell? ⟨w.heap.size, 1, none⟩ = some (.slice B n2 c2) := by rw [hw1]; go_simp
  have e2 : w1.cell? ⟨w.heap.size, 2, none⟩ = some (.slice C n3 c3) := by rw [hw1]; go_simp
  have f0 : w1.cell? ⟨w.heap.size + 1, 0, none⟩ = some (.slice none 0 0) := by rw [hw1]; go_simp
  have f1 : w1.cell? ⟨w.heap.size + 1, 1, none⟩ = some (.slice none 0 0) := by rw [hw1]; go_simp
  have f2 : w1.cell? ⟨w.heap.size + 1, 2, none⟩ = some (.slice none 0 0) := by rw [hw1]; go_simp
  have hz : w1.heap.size = w.heap.size + 2 := by rw [hw1]; simp
  have K1 : Kept w w1 := by rw [hw1]; repeat (first | exact Kept.refl _ | assumption | (refine Kept.alloc ?_ _) | (refine Kept.setCell ?_ (by first | omega | (simp; omega) | simp) _) | refine Kept.drew ?_ | refine Kept.drewN ?_ _ | (apply Kept.call; rotate_left; assumption))
  have z0 : ∀ o, w1.frozen? ⟨w.heap.size, o, none⟩ = false := by intro o; rw [hw1]; go_simp
  have z1 : ∀ o, w1.frozen? ⟨w.heap.size + 1, o, none⟩ = false := by intro o; rw [hw1]; go_simp
  rw [← hw1]
  clear hw1
  go_loopw [3, 4] (fun ov iv wr => ∃ (j : Nat) (v : Value) (xs : List Rg), ov = v ∧ j ≤ n1 ∧ j ≤ 9 ∧ iv = .int .i64 j ∧ xs.length = j ∧ Hid (Small xs) ∧ wr.ownsRow w1.heap.size 35 2 v j (rgC xs) ∧ Kept w1 wr) (fun _ iv _ => n1 - (intOf iv).toNat)
  case atStart => exact ⟨0, _, [], rfl, by omega, by omega, rfl, rfl, fun i h => absurd h (by simp), World.ownsRow_nil _ _ _ _, Kept.refl w1⟩
  case round =>
    obtain ⟨j, v, xs, rfl, hj, hj9, rfl, hl, hsm, ho, kr⟩ := hrel
    have HO := Lib.hid ho
    have HL := Lib.hid hl
    have e0 := kr.at_ e0
    have e1 := kr.at_ e1
    have e2 := kr.at_ e2
    clear ho hl
    by_cases hlt : j < n1 ∧ j < 9
    · obtain ⟨hj1, hj2⟩ := hlt
      obtain ⟨rb, ro, rfl, hrc⟩ := HR.out.rs.2.2.2.2 (by omega)
      have cr1 : wr.cell? ⟨rb, ro + j * 2, none⟩ = some (.string (rg rs j).1) := kr.at_ (K1.at_ (hrc j hj1).1)
      have cr2 : wr.cell? ⟨rb, ro + j * 2 + 1, none⟩ = some (.string (rg rs j).2) := kr.at_ (K1.at_ (hrc j hj1).2)
      clear hrc
      generalize rg rs j = q at *
      obtain ⟨f, t⟩ := q
      simp only at cr1 cr2
      rcases Nat.lt_or_ge 12 f.size with hf | hf
      · have d3 : decide ((12 : Int) < (f.size : Int)) = true := by simp; omega
        rcases Nat.lt_or_ge 12 t.size with ht | ht
        · have d4 : decide ((12 : Int) < (t.size : Int)) = true := by simp; omega
          have HS2 := Lib.hid (small_snoc (a := f.extract 0 12) (b := t.extract 0 12) hsm.out (by first | omega | (rw [ByteArray.size_extract]; omega)) (by first | omega | (rw [ByteArray.size_extract]; omega)))
          have hol : Hid ((rgC xs).length = j * 2) := by unfold Hid; rw [rgC_len, HL.out]
          have hz2 : w1.heap.size ≤ wr.heap.size := kr.size
          clear hsm
          go_wp2_with (at_builtin; refine wpList_append_own _ rfl _ _ 29 rfl w1.heap.size 35 i0 (.agg #[.string ⟨#[]⟩, .string ⟨#[]⟩]) 2 32 Try.underlying29 HI.out hzz0 hzz1 hzz2 rfl (by decide) _ j _ rfl ((HO.out.alloc _).alloc _) ⟨wr.heap.size + 1, 0, none⟩ 1 1 [.string (f.extract 0 12), .string (t.extract 0 12)] rfl rfl (cells_twoO _ _ _ _ _) (by simp [Value.oneCell']) (by unfold maxLen; omega) (by omega) (by simp; omega) ?_; intro v3 w3 hown3 hgrow3 _; have HL3 := HO.out.lt; have K3 : Kept w1 w3 := ((kr.alloc _).alloc _).grown hgrow3 (fun g hg => (HL3 g hg).1); rw [rgC_snoc _ (f.extract 0 12, t.extract 0 12)] at hown3; have HO3 := Lib.hid hown3; clear hown3)
          go_roundw
          case rel => exact ⟨j + 1, _, xs ++ [(f.extract 0 12, t.extract 0 12)], rfl, by omega, by omega, by go_num, by rw [List.length_append, HL.out]; rfl, HS2, HO3.out, K3⟩
          case measure => simp [intOf]; omega
        · have d4 : decide ((12 : Int) < (t.size : Int)) = false := by simp; omega
          have HS2 := Lib.hid (small_snoc (a := f.extract 0 12) (b := t) hsm.out (by first | omega | (rw [ByteArray.size_extract]; omega)) (by first | omega | (rw [ByteArray.size_extract]; omega)))
          have hol : Hid ((rgC xs).length = j * 2) := by unfold Hid; rw [rgC_len, HL.out]
          have hz2 : w1.heap.size ≤ wr.heap.size := kr.size
          clear hsm
          go_wp2_with (at_builtin; refine wpList_append_own _ rfl _ _ 29 rfl w1.heap.size 35 i0 (.agg #[.string ⟨#[]⟩, .string ⟨#[]⟩]) 2 32 Try.underlying29 HI.out hzz0 hzz1 hzz2 rfl (by decide) _ j _ rfl ((HO.out.alloc _).alloc _) ⟨wr.heap.size + 1, 0, none⟩ 1 1 [.string (f.extract 0 12), .string (t)] rfl rfl (cells_twoO _ _ _ _ _) (by simp [Value.oneCell']) (by unfold maxLen; omega) (by omega) (by simp; omega) ?_; intro v3 w3 hown3 hgrow3 _; have HL3 := HO.out.lt; have K3 : Kept w1 w3 := ((kr.alloc _).alloc _).grown hgrow3 (fun g hg => (HL3 g hg).1); rw [rgC_snoc _ (f.extract 0 12, t)] at hown3; have HO3 := Lib.hid hown3; clear hown3)
          go_roundw
          case rel => exact ⟨j + 1, _, xs ++ [(f.extract 0 12, t)], rfl, by omega, by omega, by go_num, by rw [List.length_append, HL.out]; rfl, HS2, HO3.out, K3⟩
          case measure => simp [intOf]; omega
      · have d3 : decide ((12 : Int) < (f.size : Int)) = false := by simp; omega
        rcases Nat.lt_or_ge 12 t.size with ht | ht
        · have d4 : decide ((12 : Int) < (t.size : Int)) = true := by simp; omega
          have HS2 := Lib.hid (small_snoc (a := f) (b := t.extract 0 12) hsm.out (by first | omega | (rw [ByteArray.size_extract]; omega)) (by first | omega | (rw [ByteArray.size_extract]; omega)))
          have hol : Hid ((rgC xs).length = j * 2) := by unfold Hid; rw [rgC_len, HL.out]
          have hz2 : w1.heap.size ≤ wr.heap.size := kr.size
          clear hsm
          go_wp2_with (at_builtin; refine wpList_append_own _ rfl _ _ 29 rfl w1.heap.size 35 i0 (.agg #[.string ⟨#[]⟩, .string ⟨#[]⟩]) 2 32 Try.underlying29 HI.out hzz0 hzz1 hzz2 rfl (by decide) _ j _ rfl ((HO.out.alloc _).alloc _) ⟨wr.heap.size + 1, 0, none⟩ 1 1 [.string (f), .string (t.extract 0 12)] rfl rfl (cells_twoO _ _ _ _ _) (by simp [Value.oneCell']) (by unfold maxLen; omega) (by omega) (by simp; omega) ?_; intro v3 w3 hown3 hgrow3 _; have HL3 := HO.out.lt; have K3 : Kept w1 w3 := ((kr.alloc _).alloc _).grown hgrow3 (fun g hg => (HL3 g hg).1); rw [rgC_snoc _ (f, t.extract 0 12)] at hown3; have HO3 := Lib.hid hown3; clear hown3)
          go_roundw
          case rel => exact ⟨j + 1, _, xs ++ [(f, t.extract 0 12)], rfl, by omega, by omega, by go_num, by rw [List.length_append, HL.out]; rfl, HS2, HO3.out, K3⟩
          case measure => simp [intOf]; omega
        · have d4 : decide ((12 : Int) < (t.size : Int)) = false := by simp; omega
          have HS2 := Lib.hid (small_snoc (a := f) (b := t) hsm.out (by first | omega | (rw [ByteArray.size_extract]; omega)) (by first | omega | (rw [ByteArray.size_extract]; omega)))
          have hol : Hid ((rgC xs).length = j * 2) := by unfold Hid; rw [rgC_len, HL.out]
          have hz2 : w1.heap.size ≤ wr.heap.size := kr.size
          clear hsm
          go_wp2_with (at_builtin; refine wpList_append_own _ rfl _ _ 29 rfl w1.heap.size 35 i0 (.agg #[.string ⟨#[]⟩, .string ⟨#[]⟩]) 2 32 Try.underlying29 HI.out hzz0 hzz1 hzz2 rfl (by decide) _ j _ rfl ((HO.out.alloc _).alloc _) ⟨wr.heap.size + 1, 0, none⟩ 1 1 [.string (f), .string (t)] rfl rfl (cells_twoO _ _ _ _ _) (by simp [Value.oneCell']) (by unfold maxLen; omega) (by omega) (by simp; omega) ?_; intro v3 w3 hown3 hgrow3 _; have HL3 := HO.out.lt; have K3 : Kept w1 w3 := ((kr.alloc _).alloc _).grown hgrow3 (fun g hg => (HL3 g hg).1); rw [rgC_snoc _ (f, t)] at hown3; have HO3 := Lib.hid hown3; clear hown3)
          go_roundw
          case rel => exact ⟨j + 1, _, xs ++ [(f, t)], rfl, by omega, by omega, by go_num, by rw [List.length_append, HL.out]; rfl, HS2, HO3.out, K3⟩
          case measure => simp [intOf]; omega
    · have f0 := kr.at_ f0
      have f1 := kr.at_ f1
      have f2 := kr.at_ f2
      have z0 : ∀ o, wr.frozen? ⟨w.heap.size, o, none⟩ = false := fun o => by rw [kr.frozen _ _ (by omega)]; exact z0 o
      have z1 : ∀ o, wr.frozen? ⟨w.heap.size + 1, o, none⟩ = false := fun o => by rw [kr.frozen _ _ (by omega)]; exact z1 o
      have hcase : (decide ((j : Int) < (n1 : Int)) = false ∧ True) ∨ (decide ((j : Int) < (n1 : Int)) = true ∧ decide ((j : Int) < 9) = false) := by
        simp only [decide_eq_true_eq, decide_eq_false_iff_not, and_true]
        omega
      have hq1 : w.heap.size + 1 < wr.heap.size := World.block_lt_of_cell? wr _ f0
      have K := K1.call kr
      have h0 : w.heap.size ≤ w.heap.size := Nat.le_refl _
      have h1 : w.heap.size ≤ w.heap.size + 1 := Nat.le_succ _
      obtain ⟨A2, c4, rfl, hrow, hzz⟩ := rowS_own3 HO.out
      have HROW := Lib.hid hrow
      have HZ := Lib.hid hzz
      clear hrow hzz
      rcases Nat.lt_or_ge 9 n2 with h2 | h2
      · have d5 : decide ((9 : Int) < (n2 : Int)) = true := by simp; omega
        obtain ⟨ob, oo, rfl, _⟩ := HR.out.os.2.2.2.2 (by omega)
        rcases Nat.lt_or_ge 9 n3 with h3 | h3
        · have d6 : decide ((9 : Int) < (n3 : Int)) = true := by simp; omega
          obtain ⟨pb, po, rfl, _⟩ := HR.out.ps.2.2.2.2 (by omega)
          rcases hcase with ⟨d1, _⟩ | ⟨d1, d2⟩
          all_goals go_wp2_with fail
          all_goals refine bodyPost_ret (v := .agg #[.slice A2 j c4, .slice (some ⟨ob, oo, none⟩) 9 c2, .slice (some ⟨pb, po, none⟩) 9 c3]) (by simp [results, Try.results18, go_sem, f0, f1, f2]) rfl ?_
          all_goals exact few_end (kset h1 (kset h1 (kset h1 (kset h0 (kset h0 (kset h0 (K))))))) (rowS_same HROW.out HZ.out (fun b o hb => (cfar (ne1 hz hb)).trans ((cfar (ne1 hz hb)).trans ((cfar (ne1 hz hb)).trans ((cfar (ne0 hz hb)).trans ((cfar (ne0 hz hb)).trans (cfar (ne0 hz hb)))))))) HZ.out hz hsm.out (.inr ⟨by omega, by omega⟩) (.inr ⟨by omega, by omega⟩)
        · have d6 : decide ((9 : Int) < (n3 : Int)) = false := by simp; omega
          rcases hcase with ⟨d1, _⟩ | ⟨d1, d2⟩
          all_goals go_wp2_with fail
          all_goals refine bodyPost_ret (v := .agg #[.slice A2 j c4, .slice (some ⟨ob, oo, none⟩) 9 c2, .slice C n3 c3]) (by simp [results, Try.results18, go_sem, f0, f1, f2]) rfl ?_
          all_goals exact few_end (kset h1 (kset h1 (kset h1 (kset h0 (kset h0 (K)))))) (rowS_same HROW.out HZ.out (fun b o hb => (cfar (ne1 hz hb)).trans ((cfar (ne1 hz hb)).trans ((cfar (ne1 hz hb)).trans ((cfar (ne0 hz hb)).trans (cfar (ne0 hz hb))))))) HZ.out hz hsm.out (.inr ⟨by omega, by omega⟩) (.inl rfl)
      · have d5 : decide ((9 : Int) < (n2 : Int)) = false := by simp; omega
        rcases Nat.lt_or_ge 9 n3 with h3 | h3
        · have d6 : decide ((9 : Int) < (n3 : Int)) = true := by simp; omega
          obtain ⟨pb, po, rfl, _⟩ := HR.out.ps.2.2.2.2 (by omega)
          rcases hcase with ⟨d1, _⟩ | ⟨d1, d2⟩
          all_goals go_wp2_with fail
          all_goals refine bodyPost_ret (v := .agg #[.slice A2 j c4, .slice B n2 c2, .slice (some ⟨pb, po, none⟩) 9 c3]) (by simp [results, Try.results18, go_sem, f0, f1, f2]) rfl ?_
          all_goals exact few_end (kset h1 (kset h1 (kset h1 (kset h0 (kset h0 (K)))))) (rowS_same HROW.out HZ.out (fun b o hb => (cfar (ne1 hz hb)).trans ((cfar (ne1 hz hb)).trans ((cfar (ne1 hz hb)).trans ((cfar (ne0 hz hb)).trans (cfar (ne0 hz hb))))))) HZ.out hz hsm.out (.inl rfl) (.inr ⟨by omega, by omega⟩)
        · have d6 : decide ((9 : Int) < (n3 : Int)) = false := by simp; omega
          rcases hcase with ⟨d1, _⟩ | ⟨d1, d2⟩
          all_goals go_wp2_with fail
          all_goals refine bodyPost_ret (v := .agg #[.slice A2 j c4, .slice B n2 c2, .slice C n3 c3]) (by simp [results, Try.results18, go_sem, f0, f1, f2]) rfl ?_
          all_goals exact few_end (kset h1 (kset h1 (kset h1 (kset h0 (K))))) (rowS_same HROW.out HZ.out (fun b o hb => (cfar (ne1 hz hb)).trans ((cfar (ne1 hz hb)).trans ((cfar (ne1 hz hb)).trans (cfar (ne0 hz hb)))))) HZ.out hz hsm.out (.inl rfl) (.inl rfl)
end Go.Proofs.Ytahokiopapenbaa
