/- Rows that fit, over a tree or not: the checks; the document's Next. -/
import Derived.Test.YtjmfdacokdffiaaRouN
set_option linter.unusedSimpArgs false
set_option linter.unusedVariables false
namespace Go.Proofs.Ytjmfdacokdffiaa
open Go.RowKit

noncomputable def treeB (ps : List Int) : Bool := @decide (IsTree ps) (Classical.propDecidable _)
theorem treeB_yes {ps : List Int} (h : IsTree ps) : treeB ps = true := @decide_eq_true _ (Classical.propDecidable _) h
theorem treeB_no {ps : List Int} (h : ¬ IsTree ps) : treeB ps = false := @decide_eq_false _ (Classical.propDecidable _) h
theorem treeB_is {ps : List Int} {B : Bool} (h : B = true ↔ IsTree ps) : B = treeB ps := by
  by_cases ht : IsTree ps
  · rw [treeB_yes ht, h.2 ht]
  · rw [treeB_no ht]
    cases B
    · rfl
    · exact absurd (h.1 rfl) ht
theorem rcheck_is (A B C : Option Addr) (n1 c1 n2 c2 n3 c3 : Nat) (es : List Nat) (os ps : List Int) (w : World) (hr : RowW w A n1 c1 B n2 c2 C n3 c3 (rgs es) os ps) (hf : Fit es os n3) :
    Calls Try.prog 16 #[.agg #[.slice A n1 c1, .slice B n2 c2, .slice C n3 c3]] w fun e w' => e = .returned (.bool (treeB ps)) ∧ Kept w w' := by
  have HR := Lib.hid hr
  have HF := Lib.hid hf
  clear hr hf
  go_enter Try.func16, Try.ntmps16
  go_wp2_with fail
  refine (tcheck_yes A B C n1 c1 n2 c2 n3 c3 es os ps _ (HR.out.keep (by repeat (first | exact Kept.refl _ | assumption | (refine Kept.alloc ?_ _) | (refine Kept.setCell ?_ (by first | omega | (simp; omega) | simp) _) | refine Kept.drew ?_ | refine Kept.drewN ?_ _ | (apply Kept.call; rotate_left; assumption)))) HF.out).mono ?_
  rintro e w1 ⟨rfl, k1⟩
  have K1 : Kept w w1 := Kept.call (by repeat (first | exact Kept.refl _ | assumption | (refine Kept.alloc ?_ _) | (refine Kept.setCell ?_ (by first | omega | (simp; omega) | simp) _) | refine Kept.drew ?_ | refine Kept.drewN ?_ _ | (apply Kept.call; rotate_left; assumption))) k1
  have x2 : w1.cell? ⟨w.heap.size, 2, none⟩ = some (.slice C n3 c3) := k1.at_ (by go_simp)
  go_wp2_with fail
  refine (check_any C n3 c3 ps _ (HR.out.ps.keep K1)).mono ?_
  rintro e w2 ⟨D, rfl, hB, k2⟩
  have hD := Lib.hid (treeB_is hB)
  clear hB
  go_wp2_with fail
  go_ret
  exact ⟨by rw [← hD.out]; rfl, K1.call k2⟩
theorem r9check_is (A B C : Option Addr) (n1 c1 n2 c2 n3 c3 : Nat) (es : List Nat) (os ps : List Int) (w : World) (hr : RowW w A n1 c1 B n2 c2 C n3 c3 (rgs es) os ps) (hf : Fit es os n3) :
    Calls Try.prog 25 #[.agg #[.slice A n1 c1, .slice B n2 c2, .slice C n3 c3]] w fun e w' => e = .returned (.bool (treeB ps)) ∧ Kept w w' := by
  have HR := Lib.hid hr
  have HF := Lib.hid hf
  clear hr hf
  go_enter Try.func25, Try.ntmps25
  go_wp2_with fail
  refine (r7check_yes A B C n1 c1 n2 c2 n3 c3 es os ps _ (HR.out.keep (by repeat (first | exact Kept.refl _ | assumption | (refine Kept.alloc ?_ _) | (refine Kept.setCell ?_ (by first | omega | (simp; omega) | simp) _) | refine Kept.drew ?_ | refine Kept.drewN ?_ _ | (apply Kept.call; rotate_left; assumption)))) HF.out).mono ?_
  rintro e w1 ⟨rfl, k1⟩
  have K1 : Kept w w1 := Kept.call (by repeat (first | exact Kept.refl _ | assumption | (refine Kept.alloc ?_ _) | (refine Kept.setCell ?_ (by first | omega | (simp; omega) | simp) _) | refine Kept.drew ?_ | refine Kept.drewN ?_ _ | (apply Kept.call; rotate_left; assumption))) k1
  have x2 : w1.cell? ⟨w.heap.size, 2, none⟩ = some (.slice C n3 c3) := k1.at_ (by go_simp)
  go_wp2_with fail
  refine (rtree_check C n3 c3 ps _ (HR.out.ps.keep K1)).mono ?_
  rintro e w2 ⟨D, rfl, hB, k2⟩
  have hD := Lib.hid (treeB_is hB)
  clear hB
  go_wp2_with fail
  go_ret
  exact ⟨by rw [← hD.out]; rfl, K1.call k2⟩
theorem next_no (A B C : Option Addr) (n1 c1 n2 c2 n3 c3 : Nat) (es : List Nat) (os ps : List Int) (a f : Int) (k : ByteArray) (w : World) (hr : RowW w A n1 c1 B n2 c2 C n3 c3 (rgs es) os ps) (hf : Fit es os n3) (hn : ¬ IsTree ps) :
    Calls Try.prog 19 #[.agg #[.slice A n1 c1, .slice B n2 c2, .slice C n3 c3], .int .i64 a, .int .i64 f, .string k] w fun e w' => e = .returned (.slice none 0 0) ∧ Kept w w' := by
  have HR := Lib.hid hr
  have HF := Lib.hid hf
  have HN := Lib.hid (treeB_no hn)
  clear hr hf hn
  go_enter Try.func19, Try.ntmps19
  go_wp2_with fail
  (try go_step3)
  (try go_wp2_with fail)
  refine (rcheck_is A B C n1 c1 n2 c2 n3 c3 es os ps _ (HR.out.keep (by repeat (first | exact Kept.refl _ | assumption | (refine Kept.alloc ?_ _) | (refine Kept.setCell ?_ (by first | omega | (simp; omega) | simp) _) | refine Kept.drew ?_ | refine Kept.drewN ?_ _ | (apply Kept.call; rotate_left; assumption)))) HF.out).mono ?_
  rintro e w1 ⟨rfl, k1⟩
  rw [HN.out]
  have K1 : Kept w w1 := Kept.call (by repeat (first | exact Kept.refl _ | assumption | (refine Kept.alloc ?_ _) | (refine Kept.setCell ?_ (by first | omega | (simp; omega) | simp) _) | refine Kept.drew ?_ | refine Kept.drewN ?_ _ | (apply Kept.call; rotate_left; assumption))) k1
  go_wp2_with fail
  (try rw [Exit.noGoto_ret])
  go_ret
  exact ⟨rfl, K1⟩
theorem serves_no (A B C : Option Addr) (n1 c1 n2 c2 n3 c3 : Nat) (es : List Nat) (os ps : List Int) (a f : Int) (w : World) (hr : RowW w A n1 c1 B n2 c2 C n3 c3 (rgs es) os ps) (hf : Fit es os n3) (hn : ¬ IsTree ps) :
    Calls Try.prog 23 #[.agg #[.slice A n1 c1, .slice B n2 c2, .slice C n3 c3], .int .i64 a, .int .i64 f] w fun e w' => e = .returned (.slice none 0 0) ∧ Kept w w' := by
  have HR := Lib.hid hr
  have HF := Lib.hid hf
  have HN := Lib.hid (treeB_no hn)
  clear hr hf hn
  go_enter Try.func23, Try.ntmps23
  go_wp2_with fail
  (try go_step3)
  (try go_wp2_with fail)
  refine (rcheck_is A B C n1 c1 n2 c2 n3 c3 es os ps _ (HR.out.keep (by repeat (first | exact Kept.refl _ | assumption | (refine Kept.alloc ?_ _) | (refine Kept.setCell ?_ (by first | omega | (simp; omega) | simp) _) | refine Kept.drew ?_ | refine Kept.drewN ?_ _ | (apply Kept.call; rotate_left; assumption)))) HF.out).mono ?_
  rintro e w1 ⟨rfl, k1⟩
  rw [HN.out]
  have K1 : Kept w w1 := Kept.call (by repeat (first | exact Kept.refl _ | assumption | (refine Kept.alloc ?_ _) | (refine Kept.setCell ?_ (by first | omega | (simp; omega) | simp) _) | refine Kept.drew ?_ | refine Kept.drewN ?_ _ | (apply Kept.call; rotate_left; assumption))) k1
  go_wp2_with fail
  (try rw [Exit.noGoto_ret])
  go_ret
  exact ⟨rfl, K1⟩
theorem reach_no (A B C : Option Addr) (n1 c1 n2 c2 n3 c3 : Nat) (es : List Nat) (os ps : List Int) (a : Int) (k : ByteArray) (w : World) (hr : RowW w A n1 c1 B n2 c2 C n3 c3 (rgs es) os ps) (hf : Fit es os n3) (hn : ¬ IsTree ps) :
    Calls Try.prog 18 #[.agg #[.slice A n1 c1, .slice B n2 c2, .slice C n3 c3], .int .i64 a, .string k] w fun e w' => e = .returned (.int .i64 0) ∧ Kept w w' := by
  have HR := Lib.hid hr
  have HF := Lib.hid hf
  have HN := Lib.hid (treeB_no hn)
  clear hr hf hn
  go_enter Try.func18, Try.ntmps18
  go_wp2_with fail
  (try go_step3)
  (try go_wp2_with fail)
  refine (rcheck_is A B C n1 c1 n2 c2 n3 c3 es os ps _ (HR.out.keep (by repeat (first | exact Kept.refl _ | assumption | (refine Kept.alloc ?_ _) | (refine Kept.setCell ?_ (by first | omega | (simp; omega) | simp) _) | refine Kept.drew ?_ | refine Kept.drewN ?_ _ | (apply Kept.call; rotate_left; assumption)))) HF.out).mono ?_
  rintro e w1 ⟨rfl, k1⟩
  rw [HN.out]
  have K1 : Kept w w1 := Kept.call (by repeat (first | exact Kept.refl _ | assumption | (refine Kept.alloc ?_ _) | (refine Kept.setCell ?_ (by first | omega | (simp; omega) | simp) _) | refine Kept.drew ?_ | refine Kept.drewN ?_ _ | (apply Kept.call; rotate_left; assumption))) k1
  go_wp2_with fail
  (try rw [Exit.noGoto_ret])
  go_ret
  exact ⟨rfl, K1⟩
theorem r9next_no (A B C : Option Addr) (n1 c1 n2 c2 n3 c3 : Nat) (es : List Nat) (os ps : List Int) (a f : Int) (k : ByteArray) (w : World) (hr : RowW w A n1 c1 B n2 c2 C n3 c3 (rgs es) os ps) (hf : Fit es os n3) (hn : ¬ IsTree ps) :
    Calls Try.prog 21 #[.agg #[.slice A n1 c1, .slice B n2 c2, .slice C n3 c3], .int .i64 a, .int .i64 f, .string k] w fun e w' => e = .returned (.slice none 0 0) ∧ Kept w w' := by
  have HR := Lib.hid hr
  have HF := Lib.hid hf
  have HN := Lib.hid (treeB_no hn)
  clear hr hf hn
  go_enter Try.func21, Try.ntmps21
  go_wp2_with fail
  (try go_step3)
  (try go_wp2_with fail)
  refine (r9check_is A B C n1 c1 n2 c2 n3 c3 es os ps _ (HR.out.keep (by repeat (first | exact Kept.refl _ | assumption | (refine Kept.alloc ?_ _) | (refine Kept.setCell ?_ (by first | omega | (simp; omega) | simp) _) | refine Kept.drew ?_ | refine Kept.drewN ?_ _ | (apply Kept.call; rotate_left; assumption)))) HF.out).mono ?_
  rintro e w1 ⟨rfl, k1⟩
  rw [HN.out]
  have K1 : Kept w w1 := Kept.call (by repeat (first | exact Kept.refl _ | assumption | (refine Kept.alloc ?_ _) | (refine Kept.setCell ?_ (by first | omega | (simp; omega) | simp) _) | refine Kept.drew ?_ | refine Kept.drewN ?_ _ | (apply Kept.call; rotate_left; assumption))) k1
  go_wp2_with fail
  (try rw [Exit.noGoto_ret])
  go_ret
  exact ⟨rfl, K1⟩
theorem r9serves_no (A B C : Option Addr) (n1 c1 n2 c2 n3 c3 : Nat) (es : List Nat) (os ps : List Int) (a f : Int) (w : World) (hr : RowW w A n1 c1 B n2 c2 C n3 c3 (rgs es) os ps) (hf : Fit es os n3) (hn : ¬ IsTree ps) :
    Calls Try.prog 24 #[.agg #[.slice A n1 c1, .slice B n2 c2, .slice C n3 c3], .int .i64 a, .int .i64 f] w fun e w' => e = .returned (.slice none 0 0) ∧ Kept w w' := by
  have HR := Lib.hid hr
  have HF := Lib.hid hf
  have HN := Lib.hid (treeB_no hn)
  clear hr hf hn
  go_enter Try.func24, Try.ntmps24
  go_wp2_with fail
  (try go_step3)
  (try go_wp2_with fail)
  refine (r9check_is A B C n1 c1 n2 c2 n3 c3 es os ps _ (HR.out.keep (by repeat (first | exact Kept.refl _ | assumption | (refine Kept.alloc ?_ _) | (refine Kept.setCell ?_ (by first | omega | (simp; omega) | simp) _) | refine Kept.drew ?_ | refine Kept.drewN ?_ _ | (apply Kept.call; rotate_left; assumption)))) HF.out).mono ?_
  rintro e w1 ⟨rfl, k1⟩
  rw [HN.out]
  have K1 : Kept w w1 := Kept.call (by repeat (first | exact Kept.refl _ | assumption | (refine Kept.alloc ?_ _) | (refine Kept.setCell ?_ (by first | omega | (simp; omega) | simp) _) | refine Kept.drew ?_ | refine Kept.drewN ?_ _ | (apply Kept.call; rotate_left; assumption))) k1
  go_wp2_with fail
  (try rw [Exit.noGoto_ret])
  go_ret
  exact ⟨rfl, K1⟩
theorem r9reach_no (A B C : Option Addr) (n1 c1 n2 c2 n3 c3 : Nat) (es : List Nat) (os ps : List Int) (a : Int) (k : ByteArray) (w : World) (hr : RowW w A n1 c1 B n2 c2 C n3 c3 (rgs es) os ps) (hf : Fit es os n3) (hn : ¬ IsTree ps) :
    Calls Try.prog 28 #[.agg #[.slice A n1 c1, .slice B n2 c2, .slice C n3 c3], .int .i64 a, .string k] w fun e w' => e = .returned (.int .i64 0) ∧ Kept w w' := by
  have HR := Lib.hid hr
  have HF := Lib.hid hf
  have HN := Lib.hid (treeB_no hn)
  clear hr hf hn
  go_enter Try.func28, Try.ntmps28
  go_wp2_with fail
  (try go_step3)
  (try go_wp2_with fail)
  refine (r9check_is A B C n1 c1 n2 c2 n3 c3 es os ps _ (HR.out.keep (by repeat (first | exact Kept.refl _ | assumption | (refine Kept.alloc ?_ _) | (refine Kept.setCell ?_ (by first | omega | (simp; omega) | simp) _) | refine Kept.drew ?_ | refine Kept.drewN ?_ _ | (apply Kept.call; rotate_left; assumption)))) HF.out).mono ?_
  rintro e w1 ⟨rfl, k1⟩
  rw [HN.out]
  have K1 : Kept w w1 := Kept.call (by repeat (first | exact Kept.refl _ | assumption | (refine Kept.alloc ?_ _) | (refine Kept.setCell ?_ (by first | omega | (simp; omega) | simp) _) | refine Kept.drew ?_ | refine Kept.drewN ?_ _ | (apply Kept.call; rotate_left; assumption))) k1
  go_wp2_with fail
  (try rw [Exit.noGoto_ret])
  go_ret
  exact ⟨rfl, K1⟩
theorem meets_and : ∀ x : Fin 64, ∀ y : Fin 64, ((List.range 6).any fun k => (decide ((x : Nat) / 2 ^ k % 2 = 1) && decide ((y : Nat) / 2 ^ k % 2 = 1))) = !(bits .and .i64 ((x : Nat) : Int) ((y : Nat) : Int) == 0) := fun x y => by rw [and_bits_all x y, Bool.not_not]
theorem meets_iff {x y : Nat} (hx : x < 64) (hy : y < 64) : Meets x y ↔ (!(bits .and .i64 (x : Int) (y : Int) == 0)) = true := by
  have h := meets_and ⟨x, hx⟩ ⟨y, hy⟩
  simp only at h
  rw [← h, List.any_eq_true]
  constructor
  · rintro ⟨k, h1, h2⟩
    refine ⟨k, List.mem_range.2 ?_, by rw [decide_eq_true h1, decide_eq_true h2]; rfl⟩
    rcases Nat.lt_or_ge k 6 with g | g
    · exact g
    · have : x / 2 ^ k = 0 := Nat.div_eq_of_lt (Nat.lt_of_lt_of_le hx (Nat.pow_le_pow_right (n := 2) (i := 6) (by omega) g))
      rw [this] at h1
      omega
  · rintro ⟨k, _, h1⟩
    rw [Bool.and_eq_true, decide_eq_true_eq, decide_eq_true_eq] at h1
    exact ⟨k, h1⟩
theorem rmeet_is (a b : Nat) (w : World) (ha : a < 64) (hb : b < 64) :
    Calls Try.prog 13 #[.int .i64 a, .int .i64 b] w fun e w' => e = .returned (.bool (!(bits .and .i64 (a : Int) (b : Int) == 0))) ∧ Kept w w' :=
  (rmeet_any a b w ha hb).mono fun e w' ⟨B, h1, h2, h3⟩ => ⟨by rw [h1]; congr 2; rw [Bool.eq_iff_iff]; exact h2.trans (meets_iff ha hb), h3⟩
theorem keepL_snoc {D : Nat → Bool} {l : List Nat} {i x : Nat} (h : l[i]? = some x) : keepL D (l.take (i + 1)) = keepL D (l.take i) ++ (if D x then [] else [x]) := by
  obtain ⟨hlt, he⟩ := List.getElem?_eq_some_iff.1 h
  rw [List.take_succ_eq_append_getElem hlt, he]
  unfold keepL
  rw [List.filter_append]
  cases hd : D x <;> simp [hd]
end Go.Proofs.Ytjmfdacokdffiaa
