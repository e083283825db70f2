/- Runes counted, in plain Lean; the program's Runes and Check at any text. -/
import Derived.Test.YtahokiopapenbaaTabG
import Derived.Test.YtahokiopapenbaaTabK
import Derived.Laws.Strings
import Derived.Outline
set_option linter.unusedSimpArgs false
set_option linter.unusedVariables false
namespace Go.Proofs.Ytahokiopapenbaa
open Go.RowKit

open Classical in
/-- How many runes there are from a place on, n ahead of it; -1: something is none. -/
noncomputable def runAt (s : ByteArray) : Nat → Nat → Int → Int
  | 0, _, _ => -1
  | f + 1, p, n => if p < s.size then (if okR s p then runAt s f (p + lng (by_ s p)) (n + 1) else -1) else n
noncomputable def runesI (s : ByteArray) : Int := runAt s (s.size + 1) 0 0
/-- Where a count stands. -/
structure Rn (s : ByteArray) (p n : Nat) : Prop where
  le : p ≤ s.size
  np : n ≤ p
  ex : ∃ f, s.size + 1 ≤ p + f ∧ runAt s f p n = runesI s
theorem Rn.zero (s : ByteArray) : Rn s 0 0 := ⟨by omega, by omega, s.size + 1, by omega, rfl⟩
theorem Rn.next {s : ByteArray} {p n : Nat} (h : Rn s p n) (hp : p < s.size) (hk : okR s p) : Rn s (p + lng (by_ s p)) (n + 1) ∧ 1 ≤ lng (by_ s p) := by
  obtain ⟨h1, h2, f, h3, h4⟩ := h
  have hl := hk.1
  have hs := hk.2.1
  obtain ⟨f, rfl⟩ : ∃ g, f = g + 1 := ⟨f - 1, by omega⟩
  rw [runAt, if_pos hp, if_pos hk] at h4
  exact ⟨⟨hs, by omega, f, by omega, by rw [← h4]; simp⟩, by omega⟩
theorem Rn.bad {s : ByteArray} {p n : Nat} (h : Rn s p n) (hp : p < s.size) (hk : ¬ okR s p) : runesI s = -1 := by
  obtain ⟨h1, h2, f, h3, h4⟩ := h
  obtain ⟨f, rfl⟩ : ∃ g, f = g + 1 := ⟨f - 1, by omega⟩
  rw [runAt, if_pos hp, if_neg hk] at h4
  exact h4.symm
theorem Rn.end {s : ByteArray} {p n : Nat} (h : Rn s p n) (hp : ¬ p < s.size) : runesI s = n := by
  obtain ⟨h1, h2, f, h3, h4⟩ := h
  obtain ⟨f, rfl⟩ : ∃ g, f = g + 1 := ⟨f - 1, by omega⟩
  rw [runAt, if_neg hp] at h4
  exact h4.symm
theorem index_at {P : Program} {s : ByteArray} {p : Nat} (ty : TypeId) (ht : P.underlying ty = some .string) (h : p < s.size) (w : World) : (Instr.index ty (.string s) (.int .i64 (p : Int))).run P w = .ok (.int .u8 (by_ s p : Nat)) w := by
  rw [run_index_string w ty s .i64 p ht, dif_pos ⟨by omega, by omega⟩]
  congr 3
  have := by_at h
  simp only [Int.toNat_natCast]
  rw [this]
/-- The text of U+FFFD. -/
def fffd : ByteArray := ⟨#[239, 191, 189]⟩
theorem ext3_toList (s : ByteArray) (p : Nat) (h : p + 3 ≤ s.size) : (s.extract p (p + 3)).toList = [s.get! p, s.get! (p + 1), s.get! (p + 2)] := by
  have hsz : (s.extract p (p + 3)).size = 3 := by simp; omega
  rw [ByteArray.toList_eq]
  apply List.ext_getElem
  · simp; omega
  · intro i h1 h2
    have hi : i < 3 := by simpa using h2
    have e : (s.extract p (p + 3)).data.toList[i] = s.data[p + i]'(by have := ByteArray.size_data (a := s); omega) := by
      simp
    rw [e]
    have hg : ∀ q (hq : q < s.size), s.get! q = s.data[q]'hq := fun q hq => by
      show s.data[q]! = _
      simp [getElem!_pos, hq]
    rcases i with _ | _ | _ | i
    · simp [hg p (by omega)]
    · simp [hg (p + 1) (by omega)]
    · simp [hg (p + 2) (by omega)]
    · omega
theorem ext3_eq (s : ByteArray) (p : Nat) (h : p + 3 ≤ s.size) : ((s.extract p (p + 3)).toList == [239, 191, 189]) = decide (by_ s p = 239 ∧ by_ s (p + 1) = 191 ∧ by_ s (p + 2) = 189) := by
  rw [ext3_toList s p h, Bool.eq_iff_iff, beq_iff_eq, decide_eq_true_iff]
  unfold by_
  constructor
  · intro e
    simp only [List.cons.injEq, and_true] at e
    obtain ⟨e1, e2, e3⟩ := e
    rw [e1, e2, e3]; decide
  · rintro ⟨e1, e2, e3⟩
    simp only [List.cons.injEq, and_true]
    exact ⟨UInt8.toNat_inj.1 e1, UInt8.toNat_inj.1 e2, UInt8.toNat_inj.1 e3⟩
set_option maxHeartbeats 2000000 in
theorem runes_any (s : ByteArray) (w : World) (hz : s.size ≤ 4294967296) :
    Calls Try.prog 47 #[.string s] w fun e w' => e = .returned (.int .i64 (runesI s)) ∧ Kept w w' := by
  have hi2 : ∀ w, (Instr.index 9 (.string ⟨#[239, 191, 189]⟩) (.int .i64 0)).run Try.prog w = .ok (.int .u8 239) w := fun w => by kernel_rfl
  go_enter Try.func47, Try.ntmps47
  go_wp2_with fail
  go_loopw [3] (fun nv wr => ∃ p n : Nat, nv = .int .i64 n ∧ Hid (Rn s p n) ∧ Kept w wr ∧ Hid (wr.heap[w.heap.size]? = some (.stringIter s p))) (fun _ wr => s.size - wr.iterPos w.heap.size)
  case atStart => exact ⟨0, 0, rfl, Rn.zero s, (Kept.refl w).alloc _, World.iter_heap _ _ _⟩
  case round =>
    obtain ⟨p, n, rfl, HR, kr, HIT⟩ := hrel
    by_cases hp : p < s.size
    · obtain ⟨hv1, hv2⟩ := rune_same hp
      have hc := decode_le s p
      have hnx0 := fun ty => next_more (P := Try.prog) ty HIT.out hp
      have k1 : Kept w { wr with heap := wr.heap.setIfInBounds w.heap.size (.stringIter s (p + (Utf8.decode s p).2)) } := kr.iter (Nat.le_refl _) _
      have hit1 : ({ wr with heap := wr.heap.setIfInBounds w.heap.size (.stringIter s (p + (Utf8.decode s p).2)) } : World).heap[w.heap.size]? = some (.stringIter s (p + (Utf8.decode s p).2)) := by
        show (wr.heap.setIfInBounds w.heap.size _)[w.heap.size]? = _
        rw [Array.getElem?_setIfInBounds_self_of_lt (Array.getElem?_eq_some_iff.1 HIT.out).1]
      generalize ({ wr with heap := wr.heap.setIfInBounds w.heap.size (.stringIter s (p + (Utf8.decode s p).2)) } : World) = W1 at *
      have HI1 := Lib.hid hit1
      by_cases hk : okR s p
      · obtain ⟨hw1, _⟩ := hv2 hk
        obtain ⟨hn, hn1⟩ := HR.out.next hp hk
        rw [hw1] at HI1
        have HN := Lib.hid hn
        have hnp := hn.np
        have hle := hn.le
        have hov := hv1.2 hk
        have hix := fun w => index_at (P := Try.prog) 9 Try.underlying9 hp w
        obtain ⟨k, hkk⟩ : ∃ k, lng (by_ s p) = k := ⟨_, rfl⟩
        rw [hkk] at HN HI1 hn1 hle hnp
        unfold okV at hov
        obtain ⟨c, hcc⟩ : ∃ c, (Utf8.decode s p).1 = c := ⟨_, rfl⟩
        rw [hcc] at hov hc hnx0
        by_cases h1 : c = 65533
        · rcases hov with h2 | ⟨h2, h3, h4, h5⟩
          · exact absurd h1 h2
          · subst h1
            rw [h2] at hix
            have hex := ext3_eq s p h3
            rw [h2, h4, h5] at hex
            simp only [and_self, decide_true] at hex
            have d2 : decide ((s.size : Int) - (p : Int) < 3) = false := by simp; omega
            clear hv1 hv2 hw1 hn hit1 hkk hcc hk
            go_wp2_with fail
            refine wp_region_text keepsOne (fun wB => Kept w wB ∧ Kept W1 wB) ?_ (by kernel_rfl) (by kernel_rfl) _ (by (try simp only [List.append_eq, List.cons_append, List.nil_append, List.toList_toArray]); exact rfl) ?_
            · exact ⟨by repeat (first | exact Kept.refl _ | assumption | (refine Kept.alloc ?_ _) | (refine Kept.setCell ?_ (by first | omega | (simp; omega) | simp) _) | refine Kept.drew ?_ | refine Kept.drewN ?_ _ | (apply Kept.call; rotate_left; assumption)), by repeat (first | exact Kept.refl _ | assumption | (refine Kept.alloc ?_ _) | (refine Kept.setCell ?_ (by first | omega | (simp; omega) | simp) _) | refine Kept.drew ?_ | refine Kept.drewN ?_ _ | (apply Kept.call; rotate_left; assumption))⟩
            rintro wB ⟨hkB, hkB1⟩
            repeat (first | (apply DW.det; (focus (intro wd hI; have hkd1 := hkB1.call hI; skip; go_wp2_with (fail); refine StepPost.mk _ rfl ⟨rfl, ?_⟩; repeat (first | exact Kept.refl _ | assumption | (refine Kept.alloc ?_ _) | (refine Kept.setCell ?_ (by first | omega | (simp; omega) | simp) _) | refine Kept.drew ?_ | refine Kept.drewN ?_ _ | (apply Kept.call; rotate_left; assumption)))); simp only [Act.put, List.setIfInBounds_toArray, List.set_cons_succ, List.set_cons_zero]) | (refine DW.loud (by kernel_rfl) ?_; intro wd hI; have hkd1 := hkB1.call hI; skip; go_wp2_with (fail); refine StepPost.loud _ rfl (by repeat (first | exact Kept.refl _ | assumption | (refine Kept.alloc ?_ _) | (refine Kept.setCell ?_ (by first | omega | (simp; omega) | simp) _) | refine Kept.drew ?_ | refine Kept.drewN ?_ _ | (apply Kept.call; rotate_left; assumption))) (fun hkL => ?_); have hkL := hI.call hkL; have hkB := hkB.call hkL; have hkB1 := hkB1.call hkL; simp only [Act.put, List.setIfInBounds_toArray, List.set_cons_succ, List.set_cons_zero]))
            refine DW.nil ?_
            intro wd hI
            have hkd := hkB.call hI
            have hkd1 := hkB1.call hI
            go_wp2_with fail
            go_roundw
            case rel => first | exact ⟨p + k, n + 1, by go_num, HN, hkd, hkd1.heap HI1.out⟩ | ((repeat apply Exists.intro); exact ⟨⟨p + k, n + 1, by go_num, HN, hkd, hkd1.heap HI1.out⟩, rfl⟩)
            case measure =>
              unfold World.iterPos
              rw [HIT.out, hkd1.heap HI1.out]
              simp
              omega
        · have d1 : ((c : Int) == 65533) = false := by simp; omega
          clear hv1 hv2 hw1 hn hit1 hkk hcc hk hix h1 hov
          go_wp2_with fail
          refine wp_region_text keepsOne (fun wB => Kept w wB ∧ Kept W1 wB) ?_ (by kernel_rfl) (by kernel_rfl) _ (by (try simp only [List.append_eq, List.cons_append, List.nil_append, List.toList_toArray]); exact rfl) ?_
          · exact ⟨by repeat (first | exact Kept.refl _ | assumption | (refine Kept.alloc ?_ _) | (refine Kept.setCell ?_ (by first | omega | (simp; omega) | simp) _) | refine Kept.drew ?_ | refine Kept.drewN ?_ _ | (apply Kept.call; rotate_left; assumption)), by repeat (first | exact Kept.refl _ | assumption | (refine Kept.alloc ?_ _) | (refine Kept.setCell ?_ (by first | omega | (simp; omega) | simp) _) | refine Kept.drew ?_ | refine Kept.drewN ?_ _ | (apply Kept.call; rotate_left; assumption))⟩
          rintro wB ⟨hkB, hkB1⟩
          repeat (first | (apply DW.det; (focus (intro wd hI; have hkd1 := hkB1.call hI; skip; go_wp2_with (fail); refine StepPost.mk _ rfl ⟨rfl, ?_⟩; repeat (first | exact Kept.refl _ | assumption | (refine Kept.alloc ?_ _) | (refine Kept.setCell ?_ (by first | omega | (simp; omega) | simp) _) | refine Kept.drew ?_ | refine Kept.drewN ?_ _ | (apply Kept.call; rotate_left; assumption)))); simp only [Act.put, List.setIfInBounds_toArray, List.set_cons_succ, List.set_cons_zero]) | (refine DW.loud (by kernel_rfl) ?_; intro wd hI; have hkd1 := hkB1.call hI; skip; go_wp2_with (fail); refine StepPost.loud _ rfl (by repeat (first | exact Kept.refl _ | assumption | (refine Kept.alloc ?_ _) | (refine Kept.setCell ?_ (by first | omega | (simp; omega) | simp) _) | refine Kept.drew ?_ | refine Kept.drewN ?_ _ | (apply Kept.call; rotate_left; assumption))) (fun hkL => ?_); have hkL := hI.call hkL; have hkB := hkB.call hkL; have hkB1 := hkB1.call hkL; simp only [Act.put, List.setIfInBounds_toArray, List.set_cons_succ, List.set_cons_zero]))
          refine DW.nil ?_
          intro wd hI
          have hkd := hkB.call hI
          have hkd1 := hkB1.call hI
          go_wp2_with fail
          go_roundw
          case rel => first | exact ⟨p + k, n + 1, by go_num, HN, hkd, hkd1.heap HI1.out⟩ | ((repeat apply Exists.intro); exact ⟨⟨p + k, n + 1, by go_num, HN, hkd, hkd1.heap HI1.out⟩, rfl⟩)
          case measure =>
            unfold World.iterPos
            rw [HIT.out, hkd1.heap HI1.out]
            simp
            omega
      · have hbad := Lib.hid (HR.out.bad hp hk)
        have hov : ¬ okV s p := fun h => hk (hv1.1 h)
        unfold okV at hov
        have hix := fun w => index_at (P := Try.prog) 9 Try.underlying9 hp w
        obtain ⟨c, hcc⟩ : ∃ c, (Utf8.decode s p).1 = c := ⟨_, rfl⟩
        rw [hcc] at hov hc hnx0
        have h1 : c = 65533 := by
          by_cases h : c = 65533
          · exact h
          · exact absurd (.inl h) hov
        subst h1
        have h2 : ¬ (by_ s p = 239 ∧ p + 3 ≤ s.size ∧ by_ s (p + 1) = 191 ∧ by_ s (p + 2) = 189) := fun h => hov (.inr h)
        by_cases g1 : by_ s p = 239
        · by_cases g2 : p + 3 ≤ s.size
          · have hex := ext3_eq s p g2
            have hf : decide (by_ s p = 239 ∧ by_ s (p + 1) = 191 ∧ by_ s (p + 2) = 189) = false := decide_eq_false (fun h => h2 ⟨h.1, g2, h.2⟩)
            rw [hf] at hex
            have d2 : decide ((s.size : Int) - (p : Int) < 3) = false := by simp; omega
            rw [g1] at hix
            clear hv1 hv2 hit1 hcc hk hov h2 hf g1
            go_wp2_with fail
            refine wp_region_text keepsOne (fun wB => Kept w wB ∧ Kept W1 wB) ?_ (by kernel_rfl) (by kernel_rfl) _ (by (try simp only [List.append_eq, List.cons_append, List.nil_append, List.toList_toArray]); exact rfl) ?_
            · exact ⟨by repeat (first | exact Kept.refl _ | assumption | (refine Kept.alloc ?_ _) | (refine Kept.setCell ?_ (by first | omega | (simp; omega) | simp) _) | refine Kept.drew ?_ | refine Kept.drewN ?_ _ | (apply Kept.call; rotate_left; assumption)), by repeat (first | exact Kept.refl _ | assumption | (refine Kept.alloc ?_ _) | (refine Kept.setCell ?_ (by first | omega | (simp; omega) | simp) _) | refine Kept.drew ?_ | refine Kept.drewN ?_ _ | (apply Kept.call; rotate_left; assumption))⟩
            rintro wB ⟨hkB, hkB1⟩
            repeat (first | (apply DW.det; (focus (intro wd hI; have hkd1 := hkB1.call hI; skip; go_wp2_with (fail); refine StepPost.mk _ rfl ⟨rfl, ?_⟩; repeat (first | exact Kept.refl _ | assumption | (refine Kept.alloc ?_ _) | (refine Kept.setCell ?_ (by first | omega | (simp; omega) | simp) _) | refine Kept.drew ?_ | refine Kept.drewN ?_ _ | (apply Kept.call; rotate_left; assumption)))); simp only [Act.put, List.setIfInBounds_toArray, List.set_cons_succ, List.set_cons_zero]) | (refine DW.loud (by kernel_rfl) ?_; intro wd hI; have hkd1 := hkB1.call hI; skip; go_wp2_with (fail); refine StepPost.loud _ rfl (by repeat (first | exact Kept.refl _ | assumption | (refine Kept.alloc ?_ _) | (refine Kept.setCell ?_ (by first | omega | (simp; omega) | simp) _) | refine Kept.drew ?_ | refine Kept.drewN ?_ _ | (apply Kept.call; rotate_left; assumption))) (fun hkL => ?_); have hkL := hI.call hkL; have hkB := hkB.call hkL; have hkB1 := hkB1.call hkL; simp only [Act.put, List.setIfInBounds_toArray, List.set_cons_succ, List.set_cons_zero]))
            refine DW.nil ?_
            intro wd hI
            have hkd := hkB.call hI
            have hkd1 := hkB1.call hI
            go_wp2_with fail
            go_ret
            exact ⟨ret_int hbad.out.symm, hkd⟩
          · have d2 : decide ((s.size : Int) - (p : Int) < 3) = true := by simp; omega
            rw [g1] at hix
            clear hv1 hv2 hit1 hcc hk hov h2 g1
            go_wp2_with fail
            refine wp_region_text keepsOne (fun wB => Kept w wB ∧ Kept W1 wB) ?_ (by kernel_rfl) (by kernel_rfl) _ (by (try simp only [List.append_eq, List.cons_append, List.nil_append, List.toList_toArray]); exact rfl) ?_
            · exact ⟨by repeat (first | exact Kept.refl _ | assumption | (refine Kept.alloc ?_ _) | (refine Kept.setCell ?_ (by first | omega | (simp; omega) | simp) _) | refine Kept.drew ?_ | refine Kept.drewN ?_ _ | (apply Kept.call; rotate_left; assumption)), by repeat (first | exact Kept.refl _ | assumption | (refine Kept.alloc ?_ _) | (refine Kept.setCell ?_ (by first | omega | (simp; omega) | simp) _) | refine Kept.drew ?_ | refine Kept.drewN ?_ _ | (apply Kept.call; rotate_left; assumption))⟩
            rintro wB ⟨hkB, hkB1⟩
            repeat (first | (apply DW.det; (focus (intro wd hI; have hkd1 := hkB1.call hI; skip; go_wp2_with (fail); refine StepPost.mk _ rfl ⟨rfl, ?_⟩; repeat (first | exact Kept.refl _ | assumption | (refine Kept.alloc ?_ _) | (refine Kept.setCell ?_ (by first | omega | (simp; omega) | simp) _) | refine Kept.drew ?_ | refine Kept.drewN ?_ _ | (apply Kept.call; rotate_left; assumption)))); simp only [Act.put, List.setIfInBounds_toArray, List.set_cons_succ, List.set_cons_zero]) | (refine DW.loud (by kernel_rfl) ?_; intro wd hI; have hkd1 := hkB1.call hI; skip; go_wp2_with (fail); refine StepPost.loud _ rfl (by repeat (first | exact Kept.refl _ | assumption | (refine Kept.alloc ?_ _) | (refine Kept.setCell ?_ (by first | omega | (simp; omega) | simp) _) | refine Kept.drew ?_ | refine Kept.drewN ?_ _ | (apply Kept.call; rotate_left; assumption))) (fun hkL => ?_); have hkL := hI.call hkL; have hkB := hkB.call hkL; have hkB1 := hkB1.call hkL; simp only [Act.put, List.setIfInBounds_toArray, List.set_cons_succ, List.set_cons_zero]))
            refine DW.nil ?_
            intro wd hI
            have hkd := hkB.call hI
            have hkd1 := hkB1.call hI
            go_wp2_with fail
            go_ret
            exact ⟨ret_int hbad.out.symm, hkd⟩
        · obtain ⟨b0, hb0⟩ : ∃ b0, by_ s p = b0 := ⟨_, rfl⟩
          rw [hb0] at hix g1
          have d3 : ((b0 : Int) == 239) = false := by simp; omega
          clear hv1 hv2 hit1 hcc hk hov h2 hb0 g1
          go_wp2_with fail
          refine wp_region_text keepsOne (fun wB => Kept w wB ∧ Kept W1 wB) ?_ (by kernel_rfl) (by kernel_rfl) _ (by (try simp only [List.append_eq, List.cons_append, List.nil_append, List.toList_toArray]); exact rfl) ?_
          · exact ⟨by repeat (first | exact Kept.refl _ | assumption | (refine Kept.alloc ?_ _) | (refine Kept.setCell ?_ (by first | omega | (simp; omega) | simp) _) | refine Kept.drew ?_ | refine Kept.drewN ?_ _ | (apply Kept.call; rotate_left; assumption)), by repeat (first | exact Kept.refl _ | assumption | (refine Kept.alloc ?_ _) | (refine Kept.setCell ?_ (by first | omega | (simp; omega) | simp) _) | refine Kept.drew ?_ | refine Kept.drewN ?_ _ | (apply Kept.call; rotate_left; assumption))⟩
          rintro wB ⟨hkB, hkB1⟩
          repeat (first | (apply DW.det; (focus (intro wd hI; have hkd1 := hkB1.call hI; skip; go_wp2_with (fail); refine StepPost.mk _ rfl ⟨rfl, ?_⟩; repeat (first | exact Kept.refl _ | assumption | (refine Kept.alloc ?_ _) | (refine Kept.setCell ?_ (by first | omega | (simp; omega) | simp) _) | refine Kept.drew ?_ | refine Kept.drewN ?_ _ | (apply Kept.call; rotate_left; assumption)))); simp only [Act.put, List.setIfInBounds_toArray, List.set_cons_succ, List.set_cons_zero]) | (refine DW.loud (by kernel_rfl) ?_; intro wd hI; have hkd1 := hkB1.call hI; skip; go_wp2_with (fail); refine StepPost.loud _ rfl (by repeat (first | exact Kept.refl _ | assumption | (refine Kept.alloc ?_ _) | (refine Kept.setCell ?_ (by first | omega | (simp; omega) | simp) _) | refine Kept.drew ?_ | refine Kept.drewN ?_ _ | (apply Kept.call; rotate_left; assumption))) (fun hkL => ?_); have hkL := hI.call hkL; have hkB := hkB.call hkL; have hkB1 := hkB1.call hkL; simp only [Act.put, List.setIfInBounds_toArray, List.set_cons_succ, List.set_cons_zero]))
          refine DW.nil ?_
          intro wd hI
          have hkd := hkB.call hI
          have hkd1 := hkB1.call hI
          go_wp2_with fail
          go_ret
          exact ⟨ret_int hbad.out.symm, hkd⟩
    · have hend := Lib.hid (HR.out.end hp)
      have hnx : ∀ ty, (Instr.next (.pointer (some ⟨w.heap.size, 0, none⟩)) true ty).run Try.prog wr = .ok (.tuple #[.bool false]) wr := fun ty => next_end ty HIT.out hp
      go_wp2_with fail
      go_ret
      exact ⟨ret_int hend.out.symm, kr⟩
end Go.Proofs.Ytahokiopapenbaa
