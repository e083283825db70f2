/- Find, by the program and by the document. -/
import Derived.Test.YtahokiopapenbaaTabM
set_option linter.unusedSimpArgs false
set_option linter.unusedVariables false
namespace Go.Proofs.Ytahokiopapenbaa
open Go.RowKit

theorem find_in (f t k : ByteArray) (K : Nat) (w : World) (cK : w.cell? ⟨K, 0, none⟩ = some (.string k)) :
    Calls Try.prog 41 #[.agg #[.string f, .string t], .pointer (some ⟨K, 0, none⟩)] w fun e w' => e = .returned (.bool (hasB f t k)) ∧ Kept w w' := by
  have hK : K < w.heap.size := World.block_lt_of_cell? w _ cK
  go_enter Try.func41, Try.ntmps41
  go_wp2_with fail
  refine (has_any f t k _).mono ?_
  rintro e w2 ⟨rfl, k2⟩
  go_wp2_with fail
  go_ret
  exact ⟨rfl, Kept.call (by repeat (first | exact Kept.refl _ | assumption | (refine Kept.alloc ?_ _) | (refine Kept.setCell ?_ (by first | omega | (simp; omega) | simp) _) | refine Kept.drew ?_ | refine Kept.drewN ?_ _ | (apply Kept.call; rotate_left; assumption))) k2⟩
set_option maxHeartbeats 1000000 in
theorem indexr_any (K : Nat) (B : Option Addr) (m d : Nat) (rs : List Rg) (k : ByteArray) (w : World) (cK : w.cell? ⟨K, 0, none⟩ = some (.string k)) (hx : RowS w B m d rs) :
    Calls Try.prog 40 #[.slice B m d, .func (.func 41) #[] #[.pointer (some ⟨K, 0, none⟩)]] w fun e w' => ∃ r : Int, e = .returned (.int .i64 r) ∧ FirstIs rs k r ∧ Kept w w' := by
  have hm : m ≤ d ∧ d ≤ 9223372036854775807 := by have h1 := hx.2.1; have h2 := hx.2.2.1; unfold maxLen at h2; omega
  have HX := Lib.hid hx
  clear hx
  go_enter Try.func40, Try.ntmps40
  go_wp2_with fail
  go_loopw [8] (fun iv wr => ∃ j : Nat, j ≤ m ∧ iv = .int .i64 j ∧ Kept w wr ∧ Hid (∀ i, i < j → hasB (rg rs i).1 (rg rs i).2 k = false)) (fun iv _ => m - (intOf iv).toNat)
  case atStart => exact ⟨0, by omega, rfl, by repeat (first | exact Kept.refl _ | assumption | (refine Kept.alloc ?_ _) | (refine Kept.setCell ?_ (by first | omega | (simp; omega) | simp) _) | refine Kept.drew ?_ | refine Kept.drewN ?_ _ | (apply Kept.call; rotate_left; assumption)), fun i hi => by omega⟩
  case round =>
    obtain ⟨j, hj, rfl, kr, hall⟩ := hrel
    by_cases hlt : j < m
    · have hlt2 := hlt
      obtain ⟨b, off, rfl, hc⟩ := (HX.out.keep kr).2.2.2.2 (by omega)
      obtain ⟨c1, c2⟩ := hc j hlt
      have HNX : Hid (hasB (rg rs j).1 (rg rs j).2 k = false → ∀ i, i < j + 1 → hasB (rg rs i).1 (rg rs i).2 k = false) := fun h i hi => by
        rcases Nat.lt_or_ge i j with g | g
        · exact hall.out i g
        · obtain rfl : i = j := by omega
          exact h
      have HFI : Hid (hasB (rg rs j).1 (rg rs j).2 k = true → FirstIs rs k j) := fun h => .inr ⟨j, rfl, by rw [HX.out.1]; exact hlt, h, hall.out⟩
      clear hc
      generalize (rg rs j).1 = f at *
      generalize (rg rs j).2 = t at *
      have cK2 := kr.at_ cK
      go_wp2_with fail
      refine (find_in f t k K wr cK2).mono ?_
      rintro e w2 ⟨rfl, k2⟩
      have K2 := kr.call k2
      cases hv : hasB f t k
      · have hn := HNX.out hv
        go_wp2_with fail
        go_roundw
        case rel => first | exact ⟨j + 1, by omega, by go_num, K2, hn⟩ | ((repeat apply Exists.intro); exact ⟨⟨j + 1, by omega, by go_num, K2, hn⟩, rfl⟩)
        case measure => simp [intOf]; omega
      · have hn := Lib.hid (HFI.out hv)
        go_wp2_with fail
        go_ret
        exact ⟨j, rfl, hn.out, K2⟩
    · obtain rfl : j = m := by omega
      go_wp2_with fail
      go_ret
      exact ⟨-1, rfl, .inl ⟨rfl, fun i hi => hall.out i (by rw [HX.out.1] at hi; exact hi)⟩, kr⟩
theorem find_any (B : Option Addr) (m d : Nat) (rs : List Rg) (k : ByteArray) (w : World) (hx : RowS w B m d rs) :
    Calls Try.prog 33 #[.slice B m d, .string k] w fun e w' => ∃ r : Int, e = .returned (.int .i64 r) ∧ FirstIs rs k r ∧ Kept w w' := by
  have hmf : ∀ fn first cap w, (Instr.makeFunc fn first cap).run Try.prog w = .ok (.func fn first cap) w := fun _ _ _ _ => rfl
  have HX := Lib.hid hx
  clear hx
  go_enter Try.func33, Try.ntmps33
  go_wp2_with fail
  refine (indexr_any w.heap.size B m d rs k _ (by go_simp) (HX.out.keep (by repeat (first | exact Kept.refl _ | assumption | (refine Kept.alloc ?_ _) | (refine Kept.setCell ?_ (by first | omega | (simp; omega) | simp) _) | refine Kept.drew ?_ | refine Kept.drewN ?_ _ | (apply Kept.call; rotate_left; assumption))))).mono ?_
  rintro e w2 ⟨r, rfl, hr, k2⟩
  have HR := Lib.hid hr
  clear hr
  go_wp2_with fail
  go_ret
  exact ⟨r, rfl, HR.out, Kept.call (by repeat (first | exact Kept.refl _ | assumption | (refine Kept.alloc ?_ _) | (refine Kept.setCell ?_ (by first | omega | (simp; omega) | simp) _) | refine Kept.drew ?_ | refine Kept.drewN ?_ _ | (apply Kept.call; rotate_left; assumption))) k2⟩
theorem rhas_any (f t k : ByteArray) (w : World) :
    Calls Try.prog 12 #[.agg #[.string f, .string t], .string k] w fun e w' => e = .returned (.bool (hasB f t k)) ∧ Kept w w' := by
  have hh : Hid (hasB f t k = (!Op.bytesLess k.toList f.toList && (t.toList.isEmpty || Op.bytesLess k.toList t.toList))) := rfl
  cases h1 : Op.bytesLess k.toList f.toList <;> cases h2 : t.toList.isEmpty <;> cases h3 : Op.bytesLess k.toList t.toList
  all_goals
    (rw [h1, h2, h3] at hh
     go_enter Try.func12, Try.ntmps12
     go_wp2_with fail
     go_ret
     exact ⟨by rw [hh.out]; rfl, by repeat (first | exact Kept.refl _ | assumption | (refine Kept.alloc ?_ _) | (refine Kept.setCell ?_ (by first | omega | (simp; omega) | simp) _) | refine Kept.drew ?_ | refine Kept.drewN ?_ _ | (apply Kept.call; rotate_left; assumption))⟩)
set_option maxHeartbeats 1000000 in
theorem rfind_any (B : Option Addr) (m d : Nat) (rs : List Rg) (k : ByteArray) (w : World) (hx : RowS w B m d rs) :
    Calls Try.prog 15 #[.slice B m d, .string k] w fun e w' => ∃ r : Int, e = .returned (.int .i64 r) ∧ FirstIs rs k r ∧ Kept w w' := by
  have hm : m ≤ d ∧ d ≤ 9223372036854775807 := by have h1 := hx.2.1; have h2 := hx.2.2.1; unfold maxLen at h2; omega
  have HX := Lib.hid hx
  clear hx
  go_enter Try.func15, Try.ntmps15
  go_wp2_with fail
  go_loopw [5] (fun iv wr => ∃ j : Nat, j ≤ m ∧ iv = .int .i64 j ∧ Kept w wr ∧ Hid (∀ i, i < j → hasB (rg rs i).1 (rg rs i).2 k = false)) (fun iv _ => m - (intOf iv).toNat)
  case atStart => exact ⟨0, by omega, rfl, by repeat (first | exact Kept.refl _ | assumption | (refine Kept.alloc ?_ _) | (refine Kept.setCell ?_ (by first | omega | (simp; omega) | simp) _) | refine Kept.drew ?_ | refine Kept.drewN ?_ _ | (apply Kept.call; rotate_left; assumption)), fun i hi => by omega⟩
  case round =>
    obtain ⟨j, hj, rfl, kr, hall⟩ := hrel
    by_cases hlt : j < m
    · have hlt2 := hlt
      obtain ⟨b, off, rfl, hc⟩ := (HX.out.keep kr).2.2.2.2 (by omega)
      obtain ⟨c1, c2⟩ := hc j hlt
      have HNX : Hid (hasB (rg rs j).1 (rg rs j).2 k = false → ∀ i, i < j + 1 → hasB (rg rs i).1 (rg rs i).2 k = false) := fun h i hi => by
        rcases Nat.lt_or_ge i j with g | g
        · exact hall.out i g
        · obtain rfl : i = j := by omega
          exact h
      have HFI : Hid (hasB (rg rs j).1 (rg rs j).2 k = true → FirstIs rs k j) := fun h => .inr ⟨j, rfl, by rw [HX.out.1]; exact hlt, h, hall.out⟩
      clear hc
      generalize (rg rs j).1 = f at *
      generalize (rg rs j).2 = t at *
      go_wp2_with fail
      refine (rhas_any f t k _).mono ?_
      rintro e w2 ⟨rfl, k2⟩
      have K2 := kr.call k2
      cases hv : hasB f t k
      · have hn := HNX.out hv
        go_wp2_with fail
        go_roundw
        case rel => first | exact ⟨j + 1, by omega, by go_num, K2, hn⟩ | ((repeat apply Exists.intro); exact ⟨⟨j + 1, by omega, by go_num, K2, hn⟩, rfl⟩)
        case measure => simp [intOf]; omega
      · have hn := Lib.hid (HFI.out hv)
        go_wp2_with fail
        go_ret
        exact ⟨j, rfl, hn.out, K2⟩
    · obtain rfl : j = m := by omega
      go_wp2_with fail
      go_ret
      exact ⟨-1, rfl, .inl ⟨rfl, fun i hi => hall.out i (by rw [HX.out.1] at hi; exact hi)⟩, kr⟩
end Go.Proofs.Ytahokiopapenbaa
