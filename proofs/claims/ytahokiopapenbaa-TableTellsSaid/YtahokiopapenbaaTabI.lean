/- The program's Check and Good at any text and range. -/
import Derived.Test.YtahokiopapenbaaTabH
set_option linter.unusedSimpArgs false
set_option linter.unusedVariables false
namespace Go.Proofs.Ytahokiopapenbaa
open Go.RowKit

/-- A text may be a key. -/
def KeyOk (s : ByteArray) : Prop := 1 ≤ runesI s ∧ runesI s ≤ 8 ∧ ∀ i, i < s.size → 33 ≤ by_ s i
open Classical in
noncomputable def checkB (s : ByteArray) : Bool := decide (KeyOk s)
theorem checkB_iff (s : ByteArray) : checkB s = true ↔ KeyOk s := by unfold checkB; exact @decide_eq_true_iff _ (Classical.propDecidable _)
theorem checkB_no {s : ByteArray} (h : ¬ KeyOk s) : checkB s = false := by
  cases hc : checkB s with
  | false => rfl
  | true => exact absurd ((checkB_iff s).1 hc) h
theorem okR_cont {s : ByteArray} {p : Nat} (hk : okR s p) (h : 128 ≤ by_ s p) : ∀ i, p ≤ i → i < p + lng (by_ s p) → 33 ≤ by_ s i := by
  intro i h1 h2
  obtain ⟨_, _, h3, _⟩ := hk
  by_cases e : i = p
  · rw [e]; omega
  · have := h3 (i - p) (by omega) (by omega)
    unfold cont at this
    rw [show p + (i - p) = i by omega] at this
    omega
theorem lng_low {c : Nat} (h : c < 128) : lng c = 1 := by unfold lng; rw [if_pos h]
set_option maxHeartbeats 2000000 in
theorem check_any (s : ByteArray) (w : World) (hz : s.size ≤ 4294967296) :
    Calls Try.prog 45 #[.string s] w fun e w' => e = .returned (.bool (checkB s)) ∧ Kept w w' := by
  obtain ⟨R, hR⟩ : ∃ R, runesI s = R := ⟨_, rfl⟩
  have HRR := Lib.hid hR
  by_cases hr : 1 ≤ R ∧ R ≤ 8
  · obtain ⟨hr1, hr8⟩ := hr
    have d1 : decide (1 ≤ R) = true := by simpa using hr1
    have d2 : decide (R ≤ 8) = true := by simpa using hr8
    clear hR
    go_enter Try.func45, Try.ntmps45
    go_wp2_with fail
    go_step3
    go_wp2_with (go_at_call 47; refine (runes_any s _ hz).mono ?_; rintro e w1 ⟨rfl, k1⟩; rw [HRR.out])
    go_step3
    go_wp2_with fail
    go_loopw [4] (fun rv wr => ∃ (p : Nat) (rb : Bool), rv = .bool rb ∧ Hid (rb = true → ∃ n, Rn s p n ∧ ∀ i, i < p → 33 ≤ by_ s i) ∧ Hid (rb = false → checkB s = false) ∧ Kept w1 wr ∧ Hid (wr.heap[w1.heap.size]? = some (.stringIter s p))) (fun _ wr => s.size - wr.iterPos w1.heap.size)
    case atStart => exact ⟨0, true, rfl, fun _ => ⟨0, Rn.zero s, fun i hi => by omega⟩, (fun h => Bool.noConfusion h), (Kept.refl w1).alloc _, World.iter_heap _ _ _⟩
    case round =>
      obtain ⟨p, rb, rfl, HT, HF, kr, HIT⟩ := hrel
      by_cases hp : p < s.size
      · obtain ⟨hv1, hv2⟩ := rune_same hp
        have hc := decode_le s p
        have hnx0 := fun ty => next_more (P := Try.prog) ty HIT.out hp
        have k1 : Kept w1 { wr with heap := wr.heap.setIfInBounds w1.heap.size (.stringIter s (p + (Utf8.decode s p).2)) } := kr.iter (Nat.le_refl _) _
        have hit1 : ({ wr with heap := wr.heap.setIfInBounds w1.heap.size (.stringIter s (p + (Utf8.decode s p).2)) } : World).heap[w1.heap.size]? = some (.stringIter s (p + (Utf8.decode s p).2)) := by
          show (wr.heap.setIfInBounds w1.heap.size _)[w1.heap.size]? = _
          rw [Array.getElem?_setIfInBounds_self_of_lt (Array.getElem?_eq_some_iff.1 HIT.out).1]
        generalize ({ wr with heap := wr.heap.setIfInBounds w1.heap.size (.stringIter s (p + (Utf8.decode s p).2)) } : World) = W1 at *
        have HI1 := Lib.hid hit1
        cases rb
        · have hfin := Lib.hid (HF.out rfl)
          obtain ⟨c, hcc⟩ : ∃ c, (Utf8.decode s p).1 = c := ⟨_, rfl⟩
          rw [hcc] at hnx0
          clear hv1 hv2 hit1 hcc hc
          go_wp2_with fail
          (try rw [Exit.noGoto_ret])
          go_ret
          exact ⟨ret_bool hfin.out.symm, (by assumption : Kept w w1).call (by assumption)⟩
        · obtain ⟨n, hrn, hall⟩ := HT.out rfl
          have hk : okR s p := by
            by_cases hk : okR s p
            · exact hk
            · have := hrn.bad hp hk
              have := HRR.out
              omega
          obtain ⟨hw1, hlo, hhi⟩ := hv2 hk
          rw [hw1] at HI1
          obtain ⟨hn, hn1⟩ := hrn.next hp hk
          have hrng := okR_cont hk
          have hl1 := lng_low (c := by_ s p)
          obtain ⟨c, hcc⟩ : ∃ c, (Utf8.decode s p).1 = c := ⟨_, rfl⟩
          rw [hcc] at hnx0 hlo hhi hc
          have HT2 : Hid (decide ((33 : Int) ≤ (c : Int)) = true → ∃ m, Rn s (p + lng (by_ s p)) m ∧ ∀ i, i < p + lng (by_ s p) → 33 ≤ by_ s i) := fun h => by
            have h33 : 33 ≤ c := by have := of_decide_eq_true h; omega
            refine ⟨_, hn, fun i hi => ?_⟩
            rcases Nat.lt_or_ge i p with g | g
            · exact hall i g
            · rcases Nat.lt_or_ge (by_ s p) 128 with g2 | g2
              · have e1 := hl1 g2
                have e2 := hlo g2
                have : i = p := by omega
                subst this
                omega
              · exact hrng g2 i g hi
          have HF2 : Hid (decide ((33 : Int) ≤ (c : Int)) = false → checkB s = false) := fun h => by
            have h33 : c < 33 := by have := of_decide_eq_false h; omega
            refine checkB_no fun hko => ?_
            have := hko.2.2 p hp
            rcases Nat.lt_or_ge (by_ s p) 128 with g2 | g2
            · have e2 := hlo g2; omega
            · have e2 := hhi g2; omega
          obtain ⟨k, hkk⟩ : ∃ k, lng (by_ s p) = k := ⟨_, rfl⟩
          have hle := hn.le
          rw [hkk] at HI1 hn1 hle HT2
          obtain ⟨db, hdb⟩ : ∃ db, decide ((33 : Int) ≤ (c : Int)) = db := ⟨_, rfl⟩
          rw [hdb] at HT2 HF2
          clear hv1 hv2 hit1 hcc hc hw1 hk hn hall hrn hlo hhi hrng hl1 hkk
          go_wp2_with fail
          go_roundw
          case rel => first | exact ⟨p + k, db, rfl, HT2, HF2, by assumption, HI1⟩ | ((repeat apply Exists.intro); exact ⟨⟨p + k, db, rfl, HT2, HF2, by assumption, HI1⟩, rfl⟩)
          case measure =>
            unfold World.iterPos
            rw [HIT.out, HI1.out]
            simp
            omega
      · have hnx : ∀ ty, (Instr.next (.pointer (some ⟨w1.heap.size, 0, none⟩)) true ty).run Try.prog wr = .ok (.tuple #[.bool false]) wr := fun ty => next_end ty HIT.out hp
        have hres : Hid (rb = checkB s) := by
          unfold Hid
          cases rb
          · exact (HF.out rfl).symm
          · obtain ⟨n, hrn, hall⟩ := HT.out rfl
            have := hrn.le
            refine ((checkB_iff s).2 ⟨by rw [HRR.out]; exact hr1, by rw [HRR.out]; exact hr8, fun i hi => hall i (by omega)⟩).symm
        go_wp2_with fail
        (try rw [Exit.noGoto_ret])
        go_ret
        exact ⟨ret_bool hres.out, (by assumption : Kept w w1).call kr⟩
  · have hfin : Hid (checkB s = false) := checkB_no fun h => hr ⟨by rw [← hR]; exact h.1, by rw [← hR]; exact h.2.1⟩
    have hcase : decide (1 ≤ R) = false ∨ (decide (1 ≤ R) = true ∧ decide (R ≤ 8) = false) := by
      simp only [decide_eq_true_eq, decide_eq_false_iff_not]
      omega
    clear hR hr
    rcases hcase with d1 | ⟨d1, d2⟩
    all_goals
      (go_enter Try.func45, Try.ntmps45
       go_wp2_with fail
       go_step3
       go_wp2_with (go_at_call 47; refine (runes_any s _ hz).mono ?_; rintro e w1 ⟨rfl, k1⟩; rw [HRR.out])
       go_step3
       go_wp2_with fail
       go_loopw [4] (fun rv wr => rv = .bool false ∧ Kept w1 wr ∧ Hid (wr.heap[w1.heap.size]? = some (.stringIter s 0))) (fun _ wr => s.size - wr.iterPos w1.heap.size)
       case atStart => exact ⟨rfl, (Kept.refl w1).alloc _, World.iter_heap _ _ _⟩
       case round =>
         obtain ⟨rfl, kr, HIT⟩ := hrel
         by_cases hp : 0 < s.size
         · have hnx0 := fun ty => next_more (P := Try.prog) ty HIT.out hp
           have k2 : Kept w1 { wr with heap := wr.heap.setIfInBounds w1.heap.size (.stringIter s (0 + (Utf8.decode s 0).2)) } := kr.iter (Nat.le_refl _) _
           generalize ({ wr with heap := wr.heap.setIfInBounds w1.heap.size (.stringIter s (0 + (Utf8.decode s 0).2)) } : World) = W1 at *
           obtain ⟨c, hcc⟩ : ∃ c, (Utf8.decode s 0).1 = c := ⟨_, rfl⟩
           rw [hcc] at hnx0
           have hnx : ∀ ty, (Instr.next (.pointer (some ⟨w1.heap.size, 0, none⟩)) true ty).run Try.prog wr = .ok (.tuple #[.bool true, .int .i64 0, .int .i32 (c : Int)]) W1 := hnx0
           clear hcc hnx0
           go_wp2_with fail
           (try rw [Exit.noGoto_ret])
           go_ret
           exact ⟨ret_bool hfin.out.symm, k1.call k2⟩
         · have hnx : ∀ ty, (Instr.next (.pointer (some ⟨w1.heap.size, 0, none⟩)) true ty).run Try.prog wr = .ok (.tuple #[.bool false]) wr := fun ty => next_end ty HIT.out hp
           go_wp2_with fail
           (try rw [Exit.noGoto_ret])
           go_ret
           exact ⟨ret_bool hfin.out.symm, k1.call kr⟩)
end Go.Proofs.Ytahokiopapenbaa
