/- The program's table at any row. -/
import Derived.Test.YtahokiopapenbaaTabC
import Derived.Test.YtahokiopapenbaaTabU
set_option linter.unusedSimpArgs false
set_option linter.unusedVariables false
namespace Go.Proofs.Ytahokiopapenbaa
open Go.RowKit

/-- A row of the table fits. -/
def FitP (rs : List Rg) (os : List Int) (n : Nat) : Prop := 1 ≤ n ∧ n ≤ 6 ∧ rs.length ≤ 8 ∧ os.length = rs.length ∧ wholeB rs = true ∧ ∀ i, i < os.length → 1 ≤ oa os i ∧ oa os i < ((2 ^ n : Nat) : Int)
open Classical in
noncomputable def fitB (rs : List Rg) (os : List Int) (n : Nat) : Bool := @decide (FitP rs os n) (propDecidable _)
theorem fitB_iff (rs : List Rg) (os : List Int) (n : Nat) : fitB rs os n = true ↔ FitP rs os n := by unfold fitB; exact @decide_eq_true_iff _ (Classical.propDecidable _)
theorem fitB_no {rs : List Rg} {os : List Int} {n : Nat} (h : ¬ FitP rs os n) : fitB rs os n = false := by
  cases hc : fitB rs os n with
  | false => rfl
  | true => exact absurd ((fitB_iff rs os n).1 hc) h
set_option maxHeartbeats 4000000 in
theorem tcheck_g (A B C : Option Addr) (n1 c1 n2 c2 n3 c3 : Nat) (rs : List Rg) (os ps : List Int) (w : World) (hr : RowW w A n1 c1 B n2 c2 C n3 c3 rs os ps) (hs : Small rs) :
    Calls Try.prog 14 #[.agg #[.slice A n1 c1, .slice B n2 c2, .slice C n3 c3]] w fun e w' => e = .returned (.bool (fitB rs os n3)) ∧ Kept w w' := by
  have HR := Lib.hid hr
  have HS := Lib.hid hs
  have h1 : rs.length = n1 := hr.rs.1
  have h2 : os.length = n2 := hr.os.1
  have H1 := Lib.hid h1
  have H2 := Lib.hid h2
  obtain ⟨b1, b2, b3⟩ := hr.bd
  clear hr hs h1 h2
  by_cases g3 : 1 ≤ n3 ∧ n3 ≤ 6
  · obtain ⟨h31, h36⟩ := g3
    have d1 : decide ((n3 : Int) < 1) = false := by simp; omega
    have d2 : decide ((6 : Int) < (n3 : Int)) = false := by simp; omega
    by_cases g1 : n1 ≤ 8
    · have d3 : decide ((8 : Int) < (n1 : Int)) = false := by simp; omega
      by_cases g2 : n2 = n1
      · subst g2
        obtain ⟨wb, hwb⟩ : ∃ wb, wholeB rs = wb := ⟨_, rfl⟩
        have HWB := Lib.hid hwb
        clear hwb
        have hcc : n2 ≤ c2 ∧ c2 ≤ 9223372036854775807 := by have h1 := HR.out.os.2.1; have h2 := HR.out.os.2.2.1; unfold maxLen at h2; omega
        go_enter Try.func14, Try.ntmps14
        go_wp2_with fail
        refine (sites_any _ _ C n3 c3 _ (by omega) ⟨_, _, _, rfl⟩ ⟨_, _, _, rfl⟩).mono ?_
        rintro e w1 ⟨rfl, k1⟩
        have K1 : Kept w w1 := Kept.call (by repeat (first | exact Kept.refl _ | assumption | (refine Kept.alloc ?_ _) | (refine Kept.setCell ?_ (by first | omega | (simp; omega) | simp) _) | refine Kept.drew ?_ | refine Kept.drewN ?_ _ | (apply Kept.call; rotate_left; assumption))) k1
        have e0 : w1.cell? ⟨w.heap.size, 0, none⟩ = some (.slice A n2 c1) := k1.at_ (by go_simp)
        have e1 : w1.cell? ⟨w.heap.size, 1, none⟩ = some (.slice B n2 c2) := k1.at_ (by go_simp)
        go_wp2_with fail
        refine (whole_g A n2 c1 rs _ (HR.out.rs.keep K1) HS.out).mono ?_
        rintro e w2 ⟨rfl, k2⟩
        rw [HWB.out]
        have K2 := K1.call k2
        have e1 := k2.at_ e1
        cases wb
        · have hf : Hid (fitB rs os n3 = false) := fitB_no fun h => by have := h.2.2.2.2.1; rw [HWB.out] at this; cases this
          go_wp2_with fail
          go_ret
          exact ⟨ret_bool hf.out.symm, K2⟩
        · go_wp2_with fail
          go_loopw [38] (fun iv wr => ∃ i : Nat, i ≤ n2 ∧ iv = .int .i64 i ∧ Hid (∀ j, j < i → 1 ≤ oa os j ∧ oa os j < ((2 ^ n3 : Nat) : Int)) ∧ Kept w wr) (fun iv _ => n2 - (intOf iv).toNat)
          case atStart => exact ⟨0, by omega, rfl, fun j hj => by omega, K2⟩
          case round =>
            obtain ⟨i, hi, rfl, HA, kr⟩ := hrel
            by_cases hlt : i < n2
            · have e9 : decide ((i : Int) < (n2 : Int)) = true := by simp; omega
              obtain ⟨ob, oo, rfl, hoc⟩ := HR.out.os.2.2.2.2 (by omega)
              have co : wr.cell? ⟨ob, oo + i, none⟩ = some (.int .i64 (oa os i)) := kr.at_ (hoc i hlt)
              have HBAD : Hid (¬ (1 ≤ oa os i ∧ oa os i < ((2 ^ n3 : Nat) : Int)) → fitB rs os n3 = false) := fun h => fitB_no fun hh => h (hh.2.2.2.2.2 i (by rw [H2.out]; exact hlt))
              have HA2 : Hid ((1 ≤ oa os i ∧ oa os i < ((2 ^ n3 : Nat) : Int)) → ∀ j, j < i + 1 → 1 ≤ oa os j ∧ oa os j < ((2 ^ n3 : Nat) : Int)) := fun h j hj => by
                rcases Nat.lt_or_ge j i with g | g
                · exact HA.out j g
                · obtain rfl : j = i := by omega
                  exact h
              have hpow : ((2 ^ n3 : Nat) : Int) = (2 : Int) ^ n3 := by simp
              have hpp : (0 : Int) < (2 : Int) ^ n3 := by rw [← hpow]; have := Nat.pow_pos (n := n3) (show 0 < 2 by omega); omega
              clear hoc
              generalize oa os i = o at *
              by_cases ho1 : 1 ≤ o
              · have d5 : decide (o < 1) = false := by simp; omega
                by_cases ho2 : o < ((2 ^ n3 : Nat) : Int)
                · have hok := Lib.hid (HA2.out ⟨ho1, ho2⟩)
                  have hsh : o / (2 : Int) ^ n3 = 0 := by rw [← hpow]; exact Int.ediv_eq_zero_of_lt (by omega) ho2
                  have h64 : o < 64 := by have := two_le h36; omega
                  clear hpow hpp ho2
                  go_wp2_with fail
                  go_roundw
                  case rel => first | exact ⟨i + 1, by omega, by go_num, hok, kr⟩ | ((repeat apply Exists.intro); exact ⟨⟨i + 1, by omega, by go_num, hok, kr⟩, rfl⟩)
                  case measure => simp [intOf]; omega
                · have hbad := Lib.hid (HBAD.out fun h => ho2 h.2)
                  have hsh : 1 ≤ o / (2 : Int) ^ n3 := by
                    rw [hpow] at ho2
                    exact (Int.le_ediv_iff_mul_le hpp).2 (by omega)
                  have hsn : (o / (2 : Int) ^ n3 == 0) = false := by
                    have : ¬ o / (2 : Int) ^ n3 = 0 := by omega
                    simpa using this
                  clear hpow hpp ho2 hsh
                  go_wp2_with fail
                  all_goals go_ret
                  all_goals exact ⟨ret_bool hbad.out.symm, kr⟩
              · have hbad := Lib.hid (HBAD.out fun h => ho1 h.1)
                have d5 : decide (o < 1) = true := by simp; omega
                clear hpow hpp
                go_wp2_with fail
                go_ret
                exact ⟨ret_bool hbad.out.symm, kr⟩
            · obtain rfl : i = n2 := by omega
              have e9 : decide ((i : Int) < (i : Int)) = false := by simp
              have hf : Hid (fitB rs os n3 = true) := (fitB_iff _ _ _).2 ⟨h31, h36, by rw [H1.out]; exact g1, by rw [H1.out, H2.out], HWB.out, fun j hj => HA.out j (by rw [H2.out] at hj; exact hj)⟩
              go_wp2_with fail
              go_ret
              exact ⟨ret_bool hf.out.symm, kr⟩
      · have hf : Hid (fitB rs os n3 = false) := fitB_no fun h => g2 (by have := h.2.2.2.1; rw [H1.out, H2.out] at this; exact this)
        have d4 : ((n2 : Int) != (n1 : Int)) = true := by simp; omega
        go_enter Try.func14, Try.ntmps14
        go_wp2_with fail
        refine (sites_any _ _ C n3 c3 _ (by omega) ⟨_, _, _, rfl⟩ ⟨_, _, _, rfl⟩).mono ?_
        rintro e w1 ⟨rfl, k1⟩
        have K1 : Kept w w1 := Kept.call (by repeat (first | exact Kept.refl _ | assumption | (refine Kept.alloc ?_ _) | (refine Kept.setCell ?_ (by first | omega | (simp; omega) | simp) _) | refine Kept.drew ?_ | refine Kept.drewN ?_ _ | (apply Kept.call; rotate_left; assumption))) k1
        have e0 : w1.cell? ⟨w.heap.size, 0, none⟩ = some (.slice A n1 c1) := k1.at_ (by go_simp)
        have e1 : w1.cell? ⟨w.heap.size, 1, none⟩ = some (.slice B n2 c2) := k1.at_ (by go_simp)
        go_wp2_with fail
        go_ret
        exact ⟨ret_bool hf.out.symm, K1⟩
    · have hf : Hid (fitB rs os n3 = false) := fitB_no fun h => g1 (by have := h.2.2.1; rw [H1.out] at this; exact this)
      have d3 : decide ((8 : Int) < (n1 : Int)) = true := by simp; omega
      go_enter Try.func14, Try.ntmps14
      go_wp2_with fail
      refine (sites_any _ _ C n3 c3 _ (by omega) ⟨_, _, _, rfl⟩ ⟨_, _, _, rfl⟩).mono ?_
      rintro e w1 ⟨rfl, k1⟩
      have K1 : Kept w w1 := Kept.call (by repeat (first | exact Kept.refl _ | assumption | (refine Kept.alloc ?_ _) | (refine Kept.setCell ?_ (by first | omega | (simp; omega) | simp) _) | refine Kept.drew ?_ | refine Kept.drewN ?_ _ | (apply Kept.call; rotate_left; assumption))) k1
      have e0 : w1.cell? ⟨w.heap.size, 0, none⟩ = some (.slice A n1 c1) := k1.at_ (by go_simp)
      go_wp2_with fail
      go_ret
      exact ⟨ret_bool hf.out.symm, K1⟩
  · have hf : Hid (fitB rs os n3 = false) := fitB_no fun h => g3 ⟨h.1, h.2.1⟩
    have hcase : decide ((n3 : Int) < 1) = true ∨ (decide ((n3 : Int) < 1) = false ∧ decide ((6 : Int) < (n3 : Int)) = true) := by
      simp only [decide_eq_true_eq, decide_eq_false_iff_not]
      omega
    rcases hcase with d1 | ⟨d1, d2⟩
    all_goals
      (go_enter Try.func14, Try.ntmps14
       go_wp2_with fail
       refine (sites_any _ _ C n3 c3 _ (by omega) ⟨_, _, _, rfl⟩ ⟨_, _, _, rfl⟩).mono ?_
       rintro e w1 ⟨rfl, k1⟩
       have K1 : Kept w w1 := Kept.call (by repeat (first | exact Kept.refl _ | assumption | (refine Kept.alloc ?_ _) | (refine Kept.setCell ?_ (by first | omega | (simp; omega) | simp) _) | refine Kept.drew ?_ | refine Kept.drewN ?_ _ | (apply Kept.call; rotate_left; assumption))) k1
       go_wp2_with fail
       go_ret
       exact ⟨ret_bool hf.out.symm, K1⟩)
theorem first_one {rs : List Rg} {k : ByteArray} {r q : Int} (h : FirstIs rs k r) (g : FirstIs rs k q) : r = q := by
  rcases h with ⟨rfl, h⟩ | ⟨i, rfl, hi, h, h2⟩ <;> rcases g with ⟨rfl, g⟩ | ⟨j, rfl, hj, g, g2⟩
  · rfl
  · rw [h j hj] at g; cases g
  · rw [g i hi] at h; cases h
  · rcases Nat.lt_trichotomy i j with e | e | e
    · rw [g2 i e] at h; cases h
    · rw [e]
    · rw [h2 j e] at g; cases g
/-- Whose a key is. -/
def OwnR (rs : List Rg) (os : List Int) (n : Nat) (k : ByteArray) (o : Int) : Prop := (fitB rs os n = false ∧ o = 0) ∨ (fitB rs os n = true ∧ ∃ r, FirstIs rs k r ∧ ((r = -1 ∧ o = 0) ∨ ∃ i : Nat, r = i ∧ i < rs.length ∧ o = oa os i))
theorem OwnR.one {rs : List Rg} {os : List Int} {n : Nat} {k : ByteArray} {o p : Int} (h : OwnR rs os n k o) (g : OwnR rs os n k p) : o = p := by
  rcases h with ⟨h, rfl⟩ | ⟨h, r, h1, h2⟩ <;> rcases g with ⟨g, rfl⟩ | ⟨g, q, g1, g2⟩
  · rfl
  · rw [h] at g; cases g
  · rw [g] at h; cases h
  · have e := first_one h1 g1
    subst e
    rcases h2 with ⟨h2, rfl⟩ | ⟨i, h2, hi, rfl⟩ <;> rcases g2 with ⟨g2, rfl⟩ | ⟨j, g2, hj, rfl⟩
    · rfl
    · omega
    · omega
    · have : i = j := by omega
      rw [this]
theorem OwnR.bd {rs : List Rg} {os : List Int} {n : Nat} {k : ByteArray} {o : Int} (h : OwnR rs os n k o) : 0 ≤ o ∧ o < 64 := by
  rcases h with ⟨_, rfl⟩ | ⟨h, r, _, ⟨_, rfl⟩ | ⟨i, _, hi, rfl⟩⟩
  · omega
  · omega
  · have hf := (fitB_iff _ _ _).1 h
    have h2 := hf.2.2.2.2.2 i (by rw [hf.2.2.2.1]; exact hi)
    have := two_le hf.2.1
    omega
theorem firstIs_cases {rs : List Rg} {k : ByteArray} {r : Int} (h : FirstIs rs k r) : r = -1 ∨ ∃ i : Nat, r = i ∧ i < rs.length := by
  rcases h with ⟨h, _⟩ | ⟨i, h, hi, _⟩
  · exact .inl h
  · exact .inr ⟨i, h, hi⟩
set_option maxHeartbeats 2000000 in
theorem towners_g (A B C : Option Addr) (n1 c1 n2 c2 n3 c3 : Nat) (rs : List Rg) (os ps : List Int) (k : ByteArray) (w : World) (hr : RowW w A n1 c1 B n2 c2 C n3 c3 rs os ps) (hs : Small rs) :
    Calls Try.prog 17 #[.agg #[.slice A n1 c1, .slice B n2 c2, .slice C n3 c3], .string k] w fun e w' => ∃ o, e = .returned (.int .i64 o) ∧ OwnR rs os n3 k o ∧ Kept w w' := by
  have HR := Lib.hid hr
  have HS := Lib.hid hs
  have H1 := Lib.hid hr.rs.1
  have H2 := Lib.hid hr.os.1
  have hb := hr.bd
  obtain ⟨fb, hfb⟩ : ∃ fb, fitB rs os n3 = fb := ⟨_, rfl⟩
  have HFB := Lib.hid hfb
  clear hr hs hfb
  go_enter Try.func17, Try.ntmps17
  go_wp2_with fail
  refine (tcheck_g A B C n1 c1 n2 c2 n3 c3 rs os ps _ (HR.out.keep (by repeat (first | exact Kept.refl _ | assumption | (refine Kept.alloc ?_ _) | (refine Kept.setCell ?_ (by first | omega | (simp; omega) | simp) _) | refine Kept.drew ?_ | refine Kept.drewN ?_ _ | (apply Kept.call; rotate_left; assumption)))) HS.out).mono ?_
  rintro e w1 ⟨rfl, k1⟩
  rw [HFB.out]
  have K1 : Kept w w1 := Kept.call (by repeat (first | exact Kept.refl _ | assumption | (refine Kept.alloc ?_ _) | (refine Kept.setCell ?_ (by first | omega | (simp; omega) | simp) _) | refine Kept.drew ?_ | refine Kept.drewN ?_ _ | (apply Kept.call; rotate_left; assumption))) k1
  have e0 : w1.cell? ⟨w.heap.size, 0, none⟩ = some (.slice A n1 c1) := k1.at_ (by go_simp)
  have e1 : w1.cell? ⟨w.heap.size, 1, none⟩ = some (.slice B n2 c2) := k1.at_ (by go_simp)
  cases fb
  · go_wp2_with fail
    go_ret
    exact ⟨0, rfl, .inl ⟨HFB.out, rfl⟩, K1⟩
  · go_wp2_with fail
    refine (find_any A n1 c1 rs k _ (HR.out.rs.keep K1)).mono ?_
    rintro e w2 ⟨r, rfl, hfi, k2⟩
    have HFI := Lib.hid hfi
    have K2 := K1.call k2
    have e1 := k2.at_ e1
    rcases firstIs_cases hfi with rfl | ⟨i, rfl, hi⟩
    · clear hfi
      go_wp2_with fail
      go_ret
      exact ⟨0, rfl, .inr ⟨HFB.out, -1, HFI.out, .inl ⟨rfl, rfl⟩⟩, K2⟩
    · have hfit := (fitB_iff _ _ _).1 HFB.out
      have hi2 : i < n2 := by have := hfit.2.2.2.1; rw [H2.out] at this; omega
      have HIL := Lib.hid hi
      obtain ⟨ob, oo, rfl, hoc⟩ := HR.out.os.2.2.2.2 (by omega)
      have co : w2.cell? ⟨ob, oo + i, none⟩ = some (.int .i64 (oa os i)) := K2.at_ (hoc i hi2)
      have hc2 : n2 ≤ c2 := HR.out.os.2.1
      obtain ⟨o, ho⟩ : ∃ o, oa os i = o := ⟨_, rfl⟩
      have HO := Lib.hid ho
      rw [ho] at co
      have d1 : decide ((i : Int) < 0) = false := by simp
      clear hfi hoc hfit ho hi
      go_wp2_with fail
      go_ret
      exact ⟨o, rfl, .inr ⟨HFB.out, i, HFI.out, .inr ⟨i, rfl, HIL.out, HO.out.symm⟩⟩, K2⟩
set_option maxHeartbeats 1000000 in
theorem towns_g (A B C : Option Addr) (n1 c1 n2 c2 n3 c3 : Nat) (rs : List Rg) (os ps : List Int) (s : Int) (k : ByteArray) (w : World) (hr : RowW w A n1 c1 B n2 c2 C n3 c3 rs os ps) (hs : Small rs) :
    Calls Try.prog 13 #[.agg #[.slice A n1 c1, .slice B n2 c2, .slice C n3 c3], .int .i64 s, .string k] w fun e w' => ∃ o, e = .returned (.bool (bitB o s)) ∧ OwnR rs os n3 k o ∧ Kept w w' := by
  have HR := Lib.hid hr
  have HS := Lib.hid hs
  clear hr hs
  go_enter Try.func13, Try.ntmps13
  go_wp2_with fail
  refine (towners_g A B C n1 c1 n2 c2 n3 c3 rs os ps k _ (HR.out.keep (by repeat (first | exact Kept.refl _ | assumption | (refine Kept.alloc ?_ _) | (refine Kept.setCell ?_ (by first | omega | (simp; omega) | simp) _) | refine Kept.drew ?_ | refine Kept.drewN ?_ _ | (apply Kept.call; rotate_left; assumption)))) HS.out).mono ?_
  rintro e w1 ⟨o, rfl, ho, k1⟩
  have HO := Lib.hid ho
  have hb := ho.bd
  clear ho
  go_wp2_with fail
  refine (thas o s _ hb.1 hb.2).mono ?_
  rintro e w2 ⟨rfl, k2⟩
  go_wp2_with fail
  go_ret
  exact ⟨o, rfl, HO.out, (Kept.call (by repeat (first | exact Kept.refl _ | assumption | (refine Kept.alloc ?_ _) | (refine Kept.setCell ?_ (by first | omega | (simp; omega) | simp) _) | refine Kept.drew ?_ | refine Kept.drewN ?_ _ | (apply Kept.call; rotate_left; assumption))) k1).call k2⟩

set_option maxHeartbeats 1000000 in
theorem tfirst_g (A B C : Option Addr) (n1 c1 n2 c2 n3 c3 : Nat) (rs : List Rg) (os ps : List Int) (k : ByteArray) (w : World) (hr : RowW w A n1 c1 B n2 c2 C n3 c3 rs os ps) (hs : Small rs) :
    Calls Try.prog 16 #[.agg #[.slice A n1 c1, .slice B n2 c2, .slice C n3 c3], .string k] w fun e w' => ∃ o r, e = .returned (.int .i64 r) ∧ OwnR rs os n3 k o ∧ FirstB o r ∧ Kept w w' := by
  have HR := Lib.hid hr
  have HS := Lib.hid hs
  clear hr hs
  go_enter Try.func16, Try.ntmps16
  go_wp2_with fail
  refine (towners_g A B C n1 c1 n2 c2 n3 c3 rs os ps k _ (HR.out.keep (by repeat (first | exact Kept.refl _ | assumption | (refine Kept.alloc ?_ _) | (refine Kept.setCell ?_ (by first | omega | (simp; omega) | simp) _) | refine Kept.drew ?_ | refine Kept.drewN ?_ _ | (apply Kept.call; rotate_left; assumption)))) HS.out).mono ?_
  rintro e w1 ⟨o, rfl, ho, k1⟩
  have HO := Lib.hid ho
  have hb := ho.bd
  have K1 : Kept w w1 := Kept.call (by repeat (first | exact Kept.refl _ | assumption | (refine Kept.alloc ?_ _) | (refine Kept.setCell ?_ (by first | omega | (simp; omega) | simp) _) | refine Kept.drew ?_ | refine Kept.drewN ?_ _ | (apply Kept.call; rotate_left; assumption))) k1
  clear ho HR HS
  go_wp2_with fail
  go_loopw [10] (fun iv wr => ∃ i : Nat, i ≤ 6 ∧ iv = .int .i64 i ∧ Kept w wr ∧ Hid (∀ j : Nat, j < i → bitB o j = false)) (fun iv _ => 6 - (intOf iv).toNat)
  case atStart => exact ⟨0, by omega, rfl, K1, fun j h => by omega⟩
  case round =>
    obtain ⟨i, hi, rfl, kr, hall⟩ := hrel
    by_cases hlt : i < 6
    · go_wp2_with fail
      refine (thas o i _ hb.1 hb.2).mono ?_
      rintro e w2 ⟨rfl, k2⟩
      have K2 := kr.call k2
      cases hv : bitB o i
      · have hn : Hid (∀ j : Nat, j < i + 1 → bitB o j = false) := fun j hj => by
          rcases Nat.lt_or_ge j i with g | g
          · exact hall.out j g
          · obtain rfl : j = i := by omega
            exact hv
        clear hv
        go_wp2_with fail
        go_roundw
        case rel => first | exact ⟨i + 1, by omega, by go_num, K2, hn⟩ | ((repeat apply Exists.intro); exact ⟨⟨i + 1, by omega, by go_num, K2, hn⟩, rfl⟩)
        case measure => simp [intOf]; omega
      · have HV := Lib.hid hv
        clear hv
        go_wp2_with fail
        go_ret
        exact ⟨o, i, rfl, HO.out, .inr ⟨i, rfl, hlt, HV.out, hall.out⟩, K2⟩
    · obtain rfl : i = 6 := by omega
      go_wp2_with fail
      go_ret
      exact ⟨o, -1, rfl, HO.out, .inl ⟨rfl, hall.out⟩, kr⟩
theorem firstB_one {o r q : Int} (h : FirstB o r) (g : FirstB o q) : r = q := by
  rcases h with ⟨rfl, h⟩ | ⟨i, rfl, hi, h, h2⟩ <;> rcases g with ⟨rfl, g⟩ | ⟨j, rfl, hj, g, g2⟩
  · rfl
  · rw [h j hj] at g; cases g
  · rw [g i hi] at h; cases h
  · rcases Nat.lt_trichotomy i j with e | e | e
    · rw [g2 i e] at h; cases h
    · rw [e]
    · rw [h2 j e] at g; cases g
end Go.Proofs.Ytahokiopapenbaa
