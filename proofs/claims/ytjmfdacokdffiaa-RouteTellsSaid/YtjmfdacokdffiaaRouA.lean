/- The program's route: Check, Next. -/
import Derived.Test.YtjmfdacokdffiaaTreeF
import Derived.Test.YtjmfdacokdffiaaTabT
set_option linter.unusedSimpArgs false
set_option linter.unusedVariables false
namespace Go.Proofs.Ytjmfdacokdffiaa
open Go.RowKit

/-- A row that fits, over a tree. -/
structure FitT (es : List Nat) (os ps : List Int) (n : Nat) : Prop where
  fit : Fit es os n
  tree : IsTree ps
set_option maxHeartbeats 1000000 in
theorem rcheck_yes (A B C : Option Addr) (n1 c1 n2 c2 n3 c3 : Nat) (es : List Nat) (os ps : List Int) (w : World) (hr : RowW w A n1 c1 B n2 c2 C n3 c3 (rgs es) os ps) (hf : FitT es os ps n3) :
    Calls Try.prog 16 #[.agg #[.slice A n1 c1, .slice B n2 c2, .slice C n3 c3]] w fun e w' => e = .returned (.bool true) ∧ Kept w w' := by
  have HR := Lib.hid hr
  have HF := Lib.hid hf
  clear hr hf
  go_enter Try.func16, Try.ntmps16
  go_wp2_with fail
  refine (tcheck_yes A B C n1 c1 n2 c2 n3 c3 es os ps _ (HR.out.keep (by repeat (first | exact Kept.refl _ | assumption | (refine Kept.alloc ?_ _) | (refine Kept.setCell ?_ (by first | omega | (simp; omega) | simp) _) | refine Kept.drew ?_ | refine Kept.drewN ?_ _ | (apply Kept.call; rotate_left; assumption)))) HF.out.fit).mono ?_
  rintro e w1 ⟨rfl, k1⟩
  have K1 : Kept w w1 := Kept.call (by repeat (first | exact Kept.refl _ | assumption | (refine Kept.alloc ?_ _) | (refine Kept.setCell ?_ (by first | omega | (simp; omega) | simp) _) | refine Kept.drew ?_ | refine Kept.drewN ?_ _ | (apply Kept.call; rotate_left; assumption))) k1
  have x2 : w1.cell? ⟨w.heap.size, 2, none⟩ = some (.slice C n3 c3) := k1.at_ (by go_simp)
  go_wp2_with fail
  refine (check_any C n3 c3 ps _ (HR.out.ps.keep K1)).mono ?_
  rintro e w2 ⟨D, rfl, hB, k2⟩
  obtain rfl : D = true := hB.2 HF.out.tree
  clear hB
  go_wp2_with fail
  go_ret
  exact ⟨rfl, K1.call k2⟩
/-- Is a site not gone to? -/
noncomputable def delB (ps : List Int) (n : Nat) (a f o : Int) (s : Nat) : Bool := (((s : Nat) : Int) == f) || (bits .and .i64 (sideTo ps a s n : Nat) o == 0)
/-- What the closure has caught. -/
structure Cap (w : World) (F C AT OW : Nat) (Cv : Option Addr) (n3 c3 : Nat) (a f o : Int) (ps : List Int) : Prop where
  cF : w.cell? ⟨F, 0, none⟩ = some (.int .i64 f)
  cC : w.cell? ⟨C, 2, none⟩ = some (.slice Cv n3 c3)
  cA : w.cell? ⟨AT, 0, none⟩ = some (.int .i64 a)
  cO : w.cell? ⟨OW, 0, none⟩ = some (.int .i64 o)
  ps : IntsAt w Cv n3 c3 ps
theorem Cap.keep {w w2 : World} {F C AT OW : Nat} {Cv : Option Addr} {n3 c3 : Nat} {a f o : Int} {ps : List Int} (h : Cap w F C AT OW Cv n3 c3 a f o ps) (hk : Kept w w2) : Cap w2 F C AT OW Cv n3 c3 a f o ps :=
  ⟨hk.at_ h.cF, hk.at_ h.cC, hk.at_ h.cA, hk.at_ h.cO, h.ps.keep hk⟩
set_option maxHeartbeats 1000000 in
theorem none_any (F C AT OW : Nat) (Cv : Option Addr) (n3 c3 : Nat) (a f o : Int) (ps : List Int) (s : Nat) (w : World) (hc : Cap w F C AT OW Cv n3 c3 a f o ps) :
    Calls Try.prog 40 #[.int .i64 s, .pointer (some ⟨F, 0, none⟩), .pointer (some ⟨C, 0, none⟩), .pointer (some ⟨AT, 0, none⟩), .pointer (some ⟨OW, 0, none⟩)] w fun e w' => e = .returned (.bool (delB ps n3 a f o s)) ∧ Kept w w' := by
  have HC := Lib.hid hc
  obtain ⟨cF, cC, cA, cO, hps⟩ := hc
  have HPS := Lib.hid hps
  clear hps
  have hd : Hid (delB ps n3 a f o s = ((((s : Nat) : Int) == f) || (bits .and .i64 (sideTo ps a s n3 : Nat) o == 0))) := rfl
  cases h1 : (((s : Nat) : Int) == f)
  · rw [h1] at hd
    cases h2 : (bits .and .i64 (sideTo ps a s n3 : Nat) o == 0)
    · rw [h2] at hd
      go_enter Try.func40, Try.ntmps40
      go_wp2_with fail
      refine wp_region_text keepsOne (fun wB => Kept w wB ∧ wB.cell? ⟨F, 0, none⟩ = some (.int .i64 f) ∧ wB.cell? ⟨C, 2, none⟩ = some (.slice Cv n3 c3) ∧ wB.cell? ⟨AT, 0, none⟩ = some (.int .i64 a) ∧ wB.cell? ⟨OW, 0, none⟩ = some (.int .i64 o)) ?_ (by kernel_rfl) (by kernel_rfl) _ (by (try simp only [List.append_eq, List.cons_append, List.nil_append, List.toList_toArray]); exact rfl) ?_
      · exact ⟨by repeat (first | exact Kept.refl _ | assumption | (refine Kept.alloc ?_ _) | (refine Kept.setCell ?_ (by first | omega | (simp; omega) | simp) _) | refine Kept.drew ?_ | refine Kept.drewN ?_ _ | (apply Kept.call; rotate_left; assumption)), by first | assumption | go_simp, by first | assumption | go_simp, by first | assumption | go_simp, by first | assumption | go_simp⟩
      rintro wB ⟨hkB, sB1, sB2, sB3, sB4⟩
      repeat (first | (apply DW.det; (focus (intro wd hI; have td1 := hI.at_ sB1; have td2 := hI.at_ sB2; have td3 := hI.at_ sB3; have td4 := hI.at_ sB4; skip; go_wp2_with (first | (go_at_call 41; refine (tside Cv n3 c3 ps a s _ (HPS.out.keep (hkB.call hI))).mono ?_; rintro e w6 ⟨rfl, hb6⟩)); refine StepPost.mk _ rfl ⟨rfl, ?_⟩; repeat (first | exact Kept.refl _ | assumption | (refine Kept.alloc ?_ _) | (refine Kept.setCell ?_ (by first | omega | (simp; omega) | simp) _) | refine Kept.drew ?_ | refine Kept.drewN ?_ _ | (apply Kept.call; rotate_left; assumption)))); simp only [Act.put, List.setIfInBounds_toArray, List.set_cons_succ, List.set_cons_zero]) | (refine DW.loud (by kernel_rfl) ?_; intro wd hI; have td1 := hI.at_ sB1; have td2 := hI.at_ sB2; have td3 := hI.at_ sB3; have td4 := hI.at_ sB4; skip; go_wp2_with (first | (go_at_call 41; refine (tside Cv n3 c3 ps a s _ (HPS.out.keep (hkB.call hI))).mono ?_; rintro e w6 ⟨rfl, hb6⟩)); refine StepPost.loud _ rfl (by repeat (first | exact Kept.refl _ | assumption | (refine Kept.alloc ?_ _) | (refine Kept.setCell ?_ (by first | omega | (simp; omega) | simp) _) | refine Kept.drew ?_ | refine Kept.drewN ?_ _ | (apply Kept.call; rotate_left; assumption))) (fun hkL => ?_); have hkL := hI.call hkL; have hkB := hkB.call hkL; have sB1 := hkL.at_ sB1; have sB2 := hkL.at_ sB2; have sB3 := hkL.at_ sB3; have sB4 := hkL.at_ sB4; simp only [Act.put, List.setIfInBounds_toArray, List.set_cons_succ, List.set_cons_zero]))
      refine DW.nil ?_
      intro wd hI
      have hkd := hkB.call hI
      have td1 := hI.at_ sB1; have td2 := hI.at_ sB2; have td3 := hI.at_ sB3; have td4 := hI.at_ sB4
      go_wp2_with fail
      go_ret
      exact ⟨by rw [hd.out]; rfl, hkd⟩
    · rw [h2] at hd
      go_enter Try.func40, Try.ntmps40
      go_wp2_with fail
      refine wp_region_text keepsOne (fun wB => Kept w wB ∧ wB.cell? ⟨F, 0, none⟩ = some (.int .i64 f) ∧ wB.cell? ⟨C, 2, none⟩ = some (.slice Cv n3 c3) ∧ wB.cell? ⟨AT, 0, none⟩ = some (.int .i64 a) ∧ wB.cell? ⟨OW, 0, none⟩ = some (.int .i64 o)) ?_ (by kernel_rfl) (by kernel_rfl) _ (by (try simp only [List.append_eq, List.cons_append, List.nil_append, List.toList_toArray]); exact rfl) ?_
      · exact ⟨by repeat (first | exact Kept.refl _ | assumption | (refine Kept.alloc ?_ _) | (refine Kept.setCell ?_ (by first | omega | (simp; omega) | simp) _) | refine Kept.drew ?_ | refine Kept.drewN ?_ _ | (apply Kept.call; rotate_left; assumption)), by first | assumption | go_simp, by first | assumption | go_simp, by first | assumption | go_simp, by first | assumption | go_simp⟩
      rintro wB ⟨hkB, sB1, sB2, sB3, sB4⟩
      repeat (first | (apply DW.det; (focus (intro wd hI; have td1 := hI.at_ sB1; have td2 := hI.at_ sB2; have td3 := hI.at_ sB3; have td4 := hI.at_ sB4; skip; go_wp2_with (first | (go_at_call 41; refine (tside Cv n3 c3 ps a s _ (HPS.out.keep (hkB.call hI))).mono ?_; rintro e w6 ⟨rfl, hb6⟩)); refine StepPost.mk _ rfl ⟨rfl, ?_⟩; repeat (first | exact Kept.refl _ | assumption | (refine Kept.alloc ?_ _) | (refine Kept.setCell ?_ (by first | omega | (simp; omega) | simp) _) | refine Kept.drew ?_ | refine Kept.drewN ?_ _ | (apply Kept.call; rotate_left; assumption)))); simp only [Act.put, List.setIfInBounds_toArray, List.set_cons_succ, List.set_cons_zero]) | (refine DW.loud (by kernel_rfl) ?_; intro wd hI; have td1 := hI.at_ sB1; have td2 := hI.at_ sB2; have td3 := hI.at_ sB3; have td4 := hI.at_ sB4; skip; go_wp2_with (first | (go_at_call 41; refine (tside Cv n3 c3 ps a s _ (HPS.out.keep (hkB.call hI))).mono ?_; rintro e w6 ⟨rfl, hb6⟩)); refine StepPost.loud _ rfl (by repeat (first | exact Kept.refl _ | assumption | (refine Kept.alloc ?_ _) | (refine Kept.setCell ?_ (by first | omega | (simp; omega) | simp) _) | refine Kept.drew ?_ | refine Kept.drewN ?_ _ | (apply Kept.call; rotate_left; assumption))) (fun hkL => ?_); have hkL := hI.call hkL; have hkB := hkB.call hkL; have sB1 := hkL.at_ sB1; have sB2 := hkL.at_ sB2; have sB3 := hkL.at_ sB3; have sB4 := hkL.at_ sB4; simp only [Act.put, List.setIfInBounds_toArray, List.set_cons_succ, List.set_cons_zero]))
      refine DW.nil ?_
      intro wd hI
      have hkd := hkB.call hI
      have td1 := hI.at_ sB1; have td2 := hI.at_ sB2; have td3 := hI.at_ sB3; have td4 := hI.at_ sB4
      go_wp2_with fail
      go_ret
      exact ⟨by rw [hd.out]; rfl, hkd⟩
  · rw [h1] at hd
    go_enter Try.func40, Try.ntmps40
    go_wp2_with fail
    refine wp_region_text keepsOne (fun wB => Kept w wB ∧ wB.cell? ⟨F, 0, none⟩ = some (.int .i64 f) ∧ wB.cell? ⟨C, 2, none⟩ = some (.slice Cv n3 c3) ∧ wB.cell? ⟨AT, 0, none⟩ = some (.int .i64 a) ∧ wB.cell? ⟨OW, 0, none⟩ = some (.int .i64 o)) ?_ (by kernel_rfl) (by kernel_rfl) _ (by (try simp only [List.append_eq, List.cons_append, List.nil_append, List.toList_toArray]); exact rfl) ?_
    · exact ⟨by repeat (first | exact Kept.refl _ | assumption | (refine Kept.alloc ?_ _) | (refine Kept.setCell ?_ (by first | omega | (simp; omega) | simp) _) | refine Kept.drew ?_ | refine Kept.drewN ?_ _ | (apply Kept.call; rotate_left; assumption)), by first | assumption | go_simp, by first | assumption | go_simp, by first | assumption | go_simp, by first | assumption | go_simp⟩
    rintro wB ⟨hkB, sB1, sB2, sB3, sB4⟩
    repeat (first | (apply DW.det; (focus (intro wd hI; have td1 := hI.at_ sB1; have td2 := hI.at_ sB2; have td3 := hI.at_ sB3; have td4 := hI.at_ sB4; skip; go_wp2_with (first | (go_at_call 41; refine (tside Cv n3 c3 ps a s _ (HPS.out.keep (hkB.call hI))).mono ?_; rintro e w6 ⟨rfl, hb6⟩)); refine StepPost.mk _ rfl ⟨rfl, ?_⟩; repeat (first | exact Kept.refl _ | assumption | (refine Kept.alloc ?_ _) | (refine Kept.setCell ?_ (by first | omega | (simp; omega) | simp) _) | refine Kept.drew ?_ | refine Kept.drewN ?_ _ | (apply Kept.call; rotate_left; assumption)))); simp only [Act.put, List.setIfInBounds_toArray, List.set_cons_succ, List.set_cons_zero]) | (refine DW.loud (by kernel_rfl) ?_; intro wd hI; have td1 := hI.at_ sB1; have td2 := hI.at_ sB2; have td3 := hI.at_ sB3; have td4 := hI.at_ sB4; skip; go_wp2_with (first | (go_at_call 41; refine (tside Cv n3 c3 ps a s _ (HPS.out.keep (hkB.call hI))).mono ?_; rintro e w6 ⟨rfl, hb6⟩)); refine StepPost.loud _ rfl (by repeat (first | exact Kept.refl _ | assumption | (refine Kept.alloc ?_ _) | (refine Kept.setCell ?_ (by first | omega | (simp; omega) | simp) _) | refine Kept.drew ?_ | refine Kept.drewN ?_ _ | (apply Kept.call; rotate_left; assumption))) (fun hkL => ?_); have hkL := hI.call hkL; have hkB := hkB.call hkL; have sB1 := hkL.at_ sB1; have sB2 := hkL.at_ sB2; have sB3 := hkL.at_ sB3; have sB4 := hkL.at_ sB4; simp only [Act.put, List.setIfInBounds_toArray, List.set_cons_succ, List.set_cons_zero]))
    refine DW.nil ?_
    intro wd hI
    have hkd := hkB.call hI
    have td1 := hI.at_ sB1; have td2 := hI.at_ sB2; have td3 := hI.at_ sB3; have td4 := hI.at_ sB4
    go_wp2_with fail
    go_ret
    exact ⟨by rw [hd.out]; rfl, hkd⟩
/-- The first one that is not gone to, or -1. -/
def FirstD (D : Nat → Bool) (l : List Nat) (r : Int) : Prop := (r = -1 ∧ ∀ i x : Nat, l[i]? = some x → D x = false) ∨ ∃ i x : Nat, r = i ∧ l[i]? = some x ∧ D x = true ∧ ∀ j y : Nat, j < i → l[j]? = some y → D y = false
set_option maxHeartbeats 1000000 in
theorem indexn_any (F C AT OW : Nat) (Cv : Option Addr) (n3 c3 : Nat) (a f o : Int) (ps : List Int) (B : Option Addr) (m d : Nat) (l : List Nat) (w : World) (hc : Cap w F C AT OW Cv n3 c3 a f o ps) (hx : IntsAt w B m d (ints l)) :
    Calls Try.prog 52 #[.slice B m d, .func (.func 40) #[] #[.pointer (some ⟨F, 0, none⟩), .pointer (some ⟨C, 0, none⟩), .pointer (some ⟨AT, 0, none⟩), .pointer (some ⟨OW, 0, none⟩)]] w fun e w' => ∃ r : Int, e = .returned (.int .i64 r) ∧ FirstD (delB ps n3 a f o) l r ∧ Kept w w' := by
  have hm : m ≤ d ∧ d ≤ 9223372036854775807 := by have h1 := hx.2.1; have h2 := hx.2.2.1; unfold maxLen at h2; omega
  have hl : l.length = m := by have := hx.1; simpa [ints] using this
  have HL := Lib.hid hl
  have HX := Lib.hid hx
  have HC := Lib.hid hc
  clear hx hc hl
  go_enter Try.func52, Try.ntmps52
  go_wp2_with fail
  go_loopw [8] (fun iv wr => ∃ j : Nat, j ≤ m ∧ iv = .int .i64 j ∧ Kept w wr ∧ Hid (∀ i x, i < j → l[i]? = some x → delB ps n3 a f o x = false)) (fun iv _ => m - (intOf iv).toNat)
  case atStart => exact ⟨0, by omega, rfl, by repeat (first | exact Kept.refl _ | assumption | (refine Kept.alloc ?_ _) | (refine Kept.setCell ?_ (by first | omega | (simp; omega) | simp) _) | refine Kept.drew ?_ | refine Kept.drewN ?_ _ | (apply Kept.call; rotate_left; assumption)), fun i x hi => by omega⟩
  case round =>
    obtain ⟨j, hj, rfl, kr, hall⟩ := hrel
    by_cases hlt : j < m
    · obtain ⟨x, hx⟩ : ∃ x, l[j]? = some x := ⟨_, List.getElem?_eq_getElem (by rw [HL.out]; exact hlt)⟩
      obtain ⟨b, off, rfl, hcc⟩ := HX.out.2.2.2.2 (by omega)
      have c1 : wr.cell? ⟨b, off + j, none⟩ = some (.int .i64 (x : Nat)) := by rw [kr.at_ (hcc j hlt), ints_get hx]
      have HXJ := Lib.hid hx
      clear hcc hx
      go_wp2_with fail
      refine (none_any F C AT OW Cv n3 c3 a f o ps x wr (HC.out.keep kr)).mono ?_
      rintro e w2 ⟨rfl, k2⟩
      have K2 := kr.call k2
      cases hv : delB ps n3 a f o x
      · have hn : Hid (∀ i x, i < j + 1 → l[i]? = some x → delB ps n3 a f o x = false) := fun i y hi hy => by
          rcases Nat.lt_or_ge i j with g | g
          · exact hall.out i y g hy
          · obtain rfl : i = j := by omega
            rw [HXJ.out] at hy
            obtain rfl := Option.some.inj hy
            exact hv
        clear hv
        go_wp2_with fail
        go_roundw
        case rel => first | exact ⟨j + 1, by omega, by go_num, K2, hn⟩ | ((repeat apply Exists.intro); exact ⟨⟨j + 1, by omega, by go_num, K2, hn⟩, rfl⟩)
        case measure => simp [intOf]; omega
      · have HV := Lib.hid hv
        clear hv
        go_wp2_with fail
        go_ret
        exact ⟨j, rfl, .inr ⟨j, x, rfl, HXJ.out, HV.out, hall.out⟩, K2⟩
    · obtain rfl : j = m := by omega
      go_wp2_with fail
      go_ret
      exact ⟨-1, rfl, .inl ⟨rfl, fun i x hx => hall.out i x (by have := (List.getElem?_eq_some_iff.1 hx).1; have := HL.out; omega) hx⟩, kr⟩
end Go.Proofs.Ytjmfdacokdffiaa
