/- The drain's functions but Stop and Pick. -/
import Derived.Test.YtbofgpmbocjbiaaMrkP
set_option linter.unusedSimpArgs false
set_option linter.unusedVariables false
namespace Go.Proofs.Ytbofgpmbocjbiaa
open Go.RowKit Go.Maps

theorem DrF.c0 {w0 w : World} {X : List Nat} {D : Nat} {ps : List Int} {st : DSt} {PB n c M1 M2 M3 : Nat} {fW : Int × Int → Option Value} {G : Int × Int → Option Nat} {fS : Int → Option Value} {fC : Int × Int → Option Value} (h : DrF w0 X w D ps st PB n c M1 M2 M3 fW G fS fC) :
    w.cell? ⟨D, 0, none⟩ = some (.slice (some ⟨PB, 0, none⟩) n c) ∧ w.cell? ⟨D, 1, none⟩ = some (.map (some M1)) ∧ w.cell? ⟨D, 2, none⟩ = some (.map (some M2)) ∧ w.cell? ⟨D, 3, none⟩ = some (.map (some M3)) ∧ w.cell? ⟨D, 4, none⟩ = some (.int .i64 (st.k : Int)) ∧ w.frozen? ⟨D, 4, none⟩ = false := by
  have c0 := cellOf h.cells 0
  have c1 := cellOf h.cells 1
  have c2 := cellOf h.cells 2
  have c3 := cellOf h.cells 3
  have c4 := cellOf h.cells 4
  simp at c0 c1 c2 c3 c4
  exact ⟨c0, c1, c2, c3, c4, freeOf h.cells 4⟩
theorem dthere_any (w0 : World) (X : List Nat) (D : Nat) (ps : List Int) (st : DSt) (s : Int) (w : World) (h : DrIn w0 X w D ps st) :
    Calls Try.prog 29 #[.pointer (some ⟨D, 0, none⟩), .int .i64 s] w fun e w' => e = .returned (.bool (inB ps.length s)) ∧ Kept w w' := by
  obtain ⟨PB, n, c, M1, M2, M3, fW, G, fS, fC, h⟩ := h
  obtain ⟨c0, _⟩ := h.c0
  have hn : ps.length = n := h.par.1
  rw [hn]
  clear h hn
  rcases Decidable.em (0 ≤ s) with h0 | h0
  · rcases Decidable.em (s < (n : Int)) with h1 | h1
    · have e1 : decide (0 ≤ s) = true := decide_eq_true h0
      have e2 : decide (s < (n : Int)) = true := decide_eq_true h1
      have e3 : inB n s = true := by simp [inB, h0, h1]
      rw [e3]
      clear e3
      go_enter Try.func29, Try.ntmps29
      go_wp2_with fail
      go_ret
      exact ⟨rfl, by repeat (first | exact Kept.refl _ | assumption | (refine Kept.alloc ?_ _) | (refine Kept.setCell ?_ (by first | omega | (simp; omega) | simp) _) | refine Kept.drew ?_ | refine Kept.drewN ?_ _ | (apply Kept.call; rotate_left; assumption))⟩
    · have e1 : decide (0 ≤ s) = true := decide_eq_true h0
      have e2 : decide (s < (n : Int)) = false := decide_eq_false h1
      have e3 : inB n s = false := by simp [inB, h0, h1]
      rw [e3]
      clear e3
      go_enter Try.func29, Try.ntmps29
      go_wp2_with fail
      go_ret
      exact ⟨rfl, by repeat (first | exact Kept.refl _ | assumption | (refine Kept.alloc ?_ _) | (refine Kept.setCell ?_ (by first | omega | (simp; omega) | simp) _) | refine Kept.drew ?_ | refine Kept.drewN ?_ _ | (apply Kept.call; rotate_left; assumption))⟩
  · have e1 : decide (0 ≤ s) = false := decide_eq_false h0
    have e3 : inB n s = false := by simp [inB, h0]
    rw [e3]
    clear e3
    go_enter Try.func29, Try.ntmps29
    go_wp2_with fail
    go_ret
    exact ⟨rfl, by repeat (first | exact Kept.refl _ | assumption | (refine Kept.alloc ?_ _) | (refine Kept.setCell ?_ (by first | omega | (simp; omega) | simp) _) | refine Kept.drew ?_ | refine Kept.drewN ?_ _ | (apply Kept.call; rotate_left; assumption))⟩
theorem dthere_nil (s : Int) (w : World) :
    Calls Try.prog 29 #[.pointer none, .int .i64 s] w fun e w' => e = .returned (.bool false) ∧ Kept w w' := by
  go_enter Try.func29, Try.ntmps29
  go_wp2_with fail
  go_ret
  exact ⟨rfl, by repeat (first | exact Kept.refl _ | assumption | (refine Kept.alloc ?_ _) | (refine Kept.setCell ?_ (by first | omega | (simp; omega) | simp) _) | refine Kept.drew ?_ | refine Kept.drewN ?_ _ | (apply Kept.call; rotate_left; assumption))⟩
theorem index_no (A : Option Addr) (n c : Nat) (p : List Int) (v : Int) (w : World) (hx : IntsAt w A n c p) (hf : ∀ x, x < n → pa p x ≠ v) :
    Calls Try.prog 37 #[.slice A n c, .int .i64 v] w fun e w' => e = .returned (.int .i64 (-1)) ∧ Kept w w' := by
  have HX := Lib.hid hx
  have HF := Lib.hid hf
  have hn : n ≤ 9223372036854775807 := by have h1 := hx.2.1; have h2 := hx.2.2.1; unfold maxLen at h2; omega
  clear hf hx
  go_enter Try.func37, Try.ntmps37
  go_wp2_with fail
  go_loopw [8] (fun iv wr => ∃ j : Nat, j ≤ n ∧ iv = .int .i64 j ∧ Kept w wr) (fun iv _ => n - (intOf iv).toNat)
  case atStart => exact ⟨0, by omega, rfl, by repeat (first | exact Kept.refl _ | assumption | (refine Kept.alloc ?_ _) | (refine Kept.setCell ?_ (by first | omega | (simp; omega) | simp) _) | refine Kept.drew ?_ | refine Kept.drewN ?_ _ | (apply Kept.call; rotate_left; assumption))⟩
  case round =>
    obtain ⟨j, hj, rfl, kr⟩ := hrel
    by_cases hlt : j < n
    · obtain ⟨b, off, rfl, hc⟩ := HX.out.2.2.2.2 (by omega)
      have c1 : wr.cell? ⟨b, off + j, none⟩ = some (.int .i64 (pa p j)) := kr.at_ (hc j hlt)
      have d1 : (v == pa p j) = false := by simpa using fun h => HF.out j (by omega) h.symm
      clear hc
      generalize pa p j = q at *
      go_wp2_with fail
      go_roundw
      case rel => first | exact ⟨j + 1, by omega, by go_num, kr⟩ | ((repeat apply Exists.intro); exact ⟨⟨j + 1, by omega, by go_num, kr⟩, rfl⟩)
      case measure => simp [intOf]; omega
    · obtain rfl : j = n := by omega
      go_wp2_with fail
      go_ret
      exact ⟨rfl, by repeat (first | exact Kept.refl _ | assumption | (refine Kept.alloc ?_ _) | (refine Kept.setCell ?_ (by first | omega | (simp; omega) | simp) _) | refine Kept.drew ?_ | refine Kept.drewN ?_ _ | (apply Kept.call; rotate_left; assumption))⟩
theorem contains_any (A : Option Addr) (m c : Nat) (l : List Nat) (v : Int) (w : World) (hx : IntsAt w A m c (ints l)) :
    Calls Try.prog 40 #[.slice A m c, .int .i64 v] w fun e w' => e = .returned (.bool (decide (∃ y ∈ l, (y : Int) = v))) ∧ Kept w w' := by
  have hlm : l.length = m := by have := hx.1; simpa [ints] using this
  by_cases hin : ∃ y ∈ l, (y : Int) = v
  · rw [decide_eq_true hin]
    have hfst : ∃ r, r < m ∧ pa (ints l) r = v ∧ ∀ x, x < r → pa (ints l) x ≠ v := by
      obtain ⟨y, hy, hyv⟩ := hin
      obtain ⟨i, hi, hiy⟩ := List.getElem_of_mem hy
      have h0 : pa (ints l) i = v := by unfold pa; rw [ints_get (by rw [List.getElem?_eq_getElem hi, hiy]), hyv]
      have key : ∀ k, k ≤ i → pa (ints l) k = v → ∃ r, r < m ∧ pa (ints l) r = v ∧ ∀ x, x < r → pa (ints l) x ≠ v := by
        intro k
        induction k using Nat.strongRecOn with
        | _ k ih =>
          intro hk hv
          by_cases hex : ∃ x, x < k ∧ pa (ints l) x = v
          · obtain ⟨x, hx1, hx2⟩ := hex
            exact ih x hx1 (by omega) hx2
          · exact ⟨k, by omega, hv, fun x hx h => hex ⟨x, hx, h⟩⟩
      exact key i (Nat.le_refl _) h0
    obtain ⟨r, h1, h2, h3⟩ := hfst
    have HX := Lib.hid hx
    have H2 := Lib.hid h2
    have H3 := Lib.hid h3
    clear hx h2 h3 hin hlm
    go_enter Try.func40, Try.ntmps40
    go_wp2_with (go_at_call 37; refine (index_any A m c (ints l) v r _ HX.out h1 H2.out H3.out).mono ?_; rintro e w1 ⟨rfl, k1⟩)
    go_ret
    exact ⟨rfl, by repeat (first | exact Kept.refl _ | assumption | (refine Kept.alloc ?_ _) | (refine Kept.setCell ?_ (by first | omega | (simp; omega) | simp) _) | refine Kept.drew ?_ | refine Kept.drewN ?_ _ | (apply Kept.call; rotate_left; assumption))⟩
  · rw [decide_eq_false hin]
    have hno : ∀ x, x < m → pa (ints l) x ≠ v := fun x hxm h => hin ⟨l[x]'(by omega), List.getElem_mem _, by
      unfold pa at h
      rwa [ints_get (List.getElem?_eq_getElem (by omega))] at h⟩
    have HX := Lib.hid hx
    have HNO := Lib.hid hno
    clear hx hno hin hlm
    go_enter Try.func40, Try.ntmps40
    go_wp2_with (go_at_call 37; refine (index_no A m c (ints l) v _ HX.out HNO.out).mono ?_; rintro e w1 ⟨rfl, k1⟩)
    go_ret
    exact ⟨rfl, by repeat (first | exact Kept.refl _ | assumption | (refine Kept.alloc ?_ _) | (refine Kept.setCell ?_ (by first | omega | (simp; omega) | simp) _) | refine Kept.drew ?_ | refine Kept.drewN ?_ _ | (apply Kept.call; rotate_left; assumption))⟩
/-- Two sites are near. -/
noncomputable def nbB (ps : List Int) (a b : Int) : Bool := decide (∃ y ∈ nearOf ps a, (y : Int) = b)
theorem near_out {ps : List Int} {a : Int} (h : inB ps.length a = false) : nearOf ps a = [] := by
  unfold nearOf
  rw [if_neg]
  rintro ⟨_, h0, h1⟩
  rw [(inB_iff _ _).2 ⟨h0, h1⟩] at h
  cases h
theorem nearD_any (w0 : World) (X : List Nat) (D : Nat) (ps : List Int) (st : DSt) (a b : Int) (w : World) (h : DrIn w0 X w D ps st) :
    Calls Try.prog 32 #[.pointer (some ⟨D, 0, none⟩), .int .i64 a, .int .i64 b] w fun e w' => e = .returned (.bool (nbB ps a b)) ∧ Kept w w' := by
  have HD := Lib.hid h
  obtain ⟨PB, n, c, M1, M2, M3, fW, G, fS, fC, h⟩ := h
  obtain ⟨c0, _⟩ := h.c0
  have HP := Lib.hid h.par
  have hDl := (h.own D (by simp)).2.1
  clear h
  rcases hB : inB ps.length a with _ | _
  · have hno : nbB ps a b = false := by unfold nbB; rw [near_out hB]; simp
    rw [hno]
    clear hno
    have HB := Lib.hid hB
    clear hB
    go_enter Try.func32, Try.ntmps32
    go_wp2_with (go_at_call 29; refine (dthere_any w0 X D ps st a _ HD.out).mono ?_; rintro e w1 ⟨rfl, k1⟩; rw [HB.out])
    go_ret
    exact ⟨rfl, by repeat (first | exact Kept.refl _ | assumption | (refine Kept.alloc ?_ _) | (refine Kept.setCell ?_ (by first | omega | (simp; omega) | simp) _) | refine Kept.drew ?_ | refine Kept.drewN ?_ _ | (apply Kept.call; rotate_left; assumption))⟩
  · have HB := Lib.hid hB
    clear hB
    go_enter Try.func32, Try.ntmps32
    go_wp2_with (first | (go_at_call 29; refine (dthere_any w0 X D ps st a _ HD.out).mono ?_; rintro e w1 ⟨rfl, k1⟩; rw [HB.out]; have c0 := k1.at_ c0) | (go_at_call 30; refine (tnear _ n c ps a _ (HP.out.keep k1)).mono ?_; rintro e w2 ⟨A2, c2, rfl, hl2, k2⟩; have HL2 := Lib.hid hl2; clear hl2) | (go_at_call 40; refine (contains_any A2 _ c2 _ b _ HL2.out).mono ?_; rintro e w3 ⟨rfl, k3⟩))
    go_ret
    exact ⟨rfl, by repeat (first | exact Kept.refl _ | assumption | (refine Kept.alloc ?_ _) | (refine Kept.setCell ?_ (by first | omega | (simp; omega) | simp) _) | refine Kept.drew ?_ | refine Kept.drewN ?_ _ | (apply Kept.call; rotate_left; assumption))⟩
theorem nearD_nil (a b : Int) (w : World) :
    Calls Try.prog 32 #[.pointer none, .int .i64 a, .int .i64 b] w fun e w' => e = .returned (.bool false) ∧ Kept w w' := by
  go_enter Try.func32, Try.ntmps32
  go_wp2_with (first | (go_at_call 29; refine (dthere_nil a _).mono ?_; rintro e w1 ⟨rfl, hb1⟩))
  go_ret
  exact ⟨rfl, by repeat (first | exact Kept.refl _ | assumption | (refine Kept.alloc ?_ _) | (refine Kept.setCell ?_ (by first | omega | (simp; omega) | simp) _) | refine Kept.drew ?_ | refine Kept.drewN ?_ _ | (apply Kept.call; rotate_left; assumption))⟩
theorem flying_any (w0 : World) (X : List Nat) (D : Nat) (ps : List Int) (st : DSt) (a b : Int) (w : World) (h : DrIn w0 X w D ps st) (ha : gd a) (hb : gd b) :
    Calls Try.prog 17 #[.pointer (some ⟨D, 0, none⟩), .int .i64 a, .int .i64 b] w fun e w' => e = .returned (.int .i64 ((st.W (a, b)).length : Nat)) ∧ Kept w w' := by
  obtain ⟨PB, n, c, M1, M2, M3, fW, G, fS, fC, h⟩ := h
  obtain ⟨_, c1, _⟩ := h.c0
  have hl := h.lookW ha hb
  obtain ⟨A0, cp, hv⟩ := (h.ways (a, b)).form
  rw [hv] at hl
  clear h hv
  go_enter Try.func17, Try.ntmps17
  go_wp2_with fail
  go_ret
  exact ⟨rfl, by repeat (first | exact Kept.refl _ | assumption | (refine Kept.alloc ?_ _) | (refine Kept.setCell ?_ (by first | omega | (simp; omega) | simp) _) | refine Kept.drew ?_ | refine Kept.drewN ?_ _ | (apply Kept.call; rotate_left; assumption))⟩
theorem flying_nil (a b : Int) (w : World) :
    Calls Try.prog 17 #[.pointer none, .int .i64 a, .int .i64 b] w fun e w' => e = .returned (.int .i64 0) ∧ Kept w w' := by
  go_enter Try.func17, Try.ntmps17
  go_wp2_with fail
  go_ret
  exact ⟨rfl, by repeat (first | exact Kept.refl _ | assumption | (refine Kept.alloc ?_ _) | (refine Kept.setCell ?_ (by first | omega | (simp; omega) | simp) _) | refine Kept.drew ?_ | refine Kept.drewN ?_ _ | (apply Kept.call; rotate_left; assumption))⟩
theorem stopped_any (w0 : World) (X : List Nat) (D : Nat) (ps : List Int) (st : DSt) (a : Int) (w : World) (h : DrIn w0 X w D ps st) (ha : gd a) :
    Calls Try.prog 14 #[.pointer (some ⟨D, 0, none⟩), .int .i64 a] w fun e w' => e = .returned (.bool (inB ps.length a && st.S a)) ∧ Kept w w' := by
  have HD := Lib.hid h
  obtain ⟨PB, n, c, M1, M2, M3, fW, G, fS, fC, h⟩ := h
  obtain ⟨_, _, c2, _⟩ := h.c0
  have HH := Lib.hid h
  clear h
  rcases hB : inB ps.length a with _ | _
  · have HB := Lib.hid hB
    clear hB
    go_enter Try.func14, Try.ntmps14
    go_wp2_with (go_at_call 29; refine (dthere_any w0 X D ps st a _ HD.out).mono ?_; rintro e w1 ⟨rfl, k1⟩; rw [HB.out])
    go_ret
    exact ⟨rfl, by repeat (first | exact Kept.refl _ | assumption | (refine Kept.alloc ?_ _) | (refine Kept.setCell ?_ (by first | omega | (simp; omega) | simp) _) | refine Kept.drew ?_ | refine Kept.drewN ?_ _ | (apply Kept.call; rotate_left; assumption))⟩
  · have HB := Lib.hid hB
    clear hB
    go_enter Try.func14, Try.ntmps14
    go_wp2_with (go_at_call 29; refine (dthere_any w0 X D ps st a _ HD.out).mono ?_; rintro e w1 ⟨rfl, k1⟩; rw [HB.out]; have c2 := k1.at_ c2; have hl := (HH.out.keep k1).lookS ha)
    go_ret
    exact ⟨by simp, by repeat (first | exact Kept.refl _ | assumption | (refine Kept.alloc ?_ _) | (refine Kept.setCell ?_ (by first | omega | (simp; omega) | simp) _) | refine Kept.drew ?_ | refine Kept.drewN ?_ _ | (apply Kept.call; rotate_left; assumption))⟩
theorem stopped_nil (a : Int) (w : World) :
    Calls Try.prog 14 #[.pointer none, .int .i64 a] w fun e w' => e = .returned (.bool false) ∧ Kept w w' := by
  go_enter Try.func14, Try.ntmps14
  go_wp2_with (first | (go_at_call 29; refine (dthere_nil a _).mono ?_; rintro e w1 ⟨rfl, hb1⟩))
  go_ret
  exact ⟨rfl, by repeat (first | exact Kept.refl _ | assumption | (refine Kept.alloc ?_ _) | (refine Kept.setCell ?_ (by first | omega | (simp; omega) | simp) _) | refine Kept.drew ?_ | refine Kept.drewN ?_ _ | (apply Kept.call; rotate_left; assumption))⟩
theorem markers_any (w0 : World) (X : List Nat) (D : Nat) (ps : List Int) (st : DSt) (w : World) (h : DrIn w0 X w D ps st) :
    Calls Try.prog 22 #[.pointer (some ⟨D, 0, none⟩)] w fun e w' => e = .returned (.int .i64 (st.k : Nat)) ∧ Kept w w' := by
  obtain ⟨PB, n, c, M1, M2, M3, fW, G, fS, fC, h⟩ := h
  obtain ⟨_, _, _, _, c4, _⟩ := h.c0
  clear h
  go_enter Try.func22, Try.ntmps22
  go_wp2_with fail
  go_ret
  exact ⟨rfl, by repeat (first | exact Kept.refl _ | assumption | (refine Kept.alloc ?_ _) | (refine Kept.setCell ?_ (by first | omega | (simp; omega) | simp) _) | refine Kept.drew ?_ | refine Kept.drewN ?_ _ | (apply Kept.call; rotate_left; assumption))⟩
theorem markers_nil (w : World) :
    Calls Try.prog 22 #[.pointer none] w fun e w' => e = .returned (.int .i64 0) ∧ Kept w w' := by
  go_enter Try.func22, Try.ntmps22
  go_wp2_with fail
  go_ret
  exact ⟨rfl, by repeat (first | exact Kept.refl _ | assumption | (refine Kept.alloc ?_ _) | (refine Kept.setCell ?_ (by first | omega | (simp; omega) | simp) _) | refine Kept.drew ?_ | refine Kept.drewN ?_ _ | (apply Kept.call; rotate_left; assumption))⟩
end Go.Proofs.Ytbofgpmbocjbiaa
