/- The program's keys, at ranges whose ends are letters. -/
import Derived.Test.YtahokiopapenbaaTabA
import Derived.Test.YtahokiopapenbaaDet
import Derived.Laws.RangeAny
import Derived.Laws.RangeString
import Derived.WalkMore
import Derived.Outline
set_option linter.unusedSimpArgs false
set_option linter.unusedVariables false
namespace Go.Proofs.Ytahokiopapenbaa
open Go.RowKit

theorem next_more {P : Program} {W : World} {b : Nat} {s : ByteArray} {pos : Nat} (ty : TypeId) (hb : W.heap[b]? = some (.stringIter s pos)) (h : pos < s.size) :
    (Instr.next (.pointer (some ⟨b, 0, none⟩)) true ty).run P W = .ok (.tuple #[.bool true, .int .i64 pos, .int .i32 (Utf8.decode s pos).1]) { W with heap := W.heap.setIfInBounds b (.stringIter s (pos + (Utf8.decode s pos).2)) } := by
  simp only [Instr.next, getObj, setObj, Sem.run_bind, Sem.run, hb, Result.andThen, h, if_true]
  simp [goInt]
theorem next_end {P : Program} {W : World} {b : Nat} {s : ByteArray} {pos : Nat} (ty : TypeId) (hb : W.heap[b]? = some (.stringIter s pos)) (h : ¬ pos < s.size) :
    (Instr.next (.pointer (some ⟨b, 0, none⟩)) true ty).run P W = .ok (.tuple #[.bool false]) W := by
  simp [Instr.next, getObj, Sem.run, hb, h]
theorem Kept.iter {w W : World} (h : Kept w W) {b : Nat} (hb : w.heap.size ≤ b) (o : Obj) : Kept w { W with heap := W.heap.setIfInBounds b o } :=
  ⟨h.os, h.tape, h.output, by simpa using h.size, fun k hk => by
    show (W.heap.setIfInBounds b o)[k]? = _
    rw [Array.getElem?_setIfInBounds_ne (by omega)]
    exact h.block k hk⟩
theorem ch_size (c : Nat) : (ch c).size = 1 := rfl
theorem decode_ch {c : Nat} (hc : c < 128) : Utf8.decode (ch c) 0 = (c, 1) := by
  have e : ((ch c)[0]'(by rw [ch_size]; omega)).toNat = c := by
    show (UInt8.ofNat c).toNat = c
    simp
    omega
  rw [decode_ascii (ch c) 0 (by rw [ch_size]; omega) (by rw [e]; exact hc), e]
set_option maxHeartbeats 1000000 in
theorem runes_ch (c : Nat) (w : World) (h1 : 33 ≤ c) (h2 : c < 128) :
    Calls Try.prog 47 #[.string (ch c)] w fun e w' => e = .returned (.int .i64 1) ∧ Kept w w' := by
  have hd := Lib.hid (decode_ch h2)
  obtain ⟨s, hs⟩ : ∃ s, s = ch c := ⟨_, rfl⟩
  have hsz : s.size = 1 := by rw [hs]; rfl
  rw [← hs] at hd ⊢
  have HS := Lib.hid hsz
  clear hs hsz
  go_enter Try.func47, Try.ntmps47
  go_wp2_with fail
  go_loopw [3] (fun nv wr => ∃ pos : Nat, pos ≤ 1 ∧ nv = .int .i64 pos ∧ Kept w wr ∧ wr.heap[w.heap.size]? = some (.stringIter s pos)) (fun nv _ => 1 - (intOf nv).toNat)
  case atStart => exact ⟨0, by omega, rfl, (Kept.refl w).alloc _, World.iter_heap _ _ _⟩
  case round =>
    obtain ⟨pos, hp, rfl, kr, hit⟩ := hrel
    by_cases h0 : pos = 0
    · subst h0
      have hnx0 := fun ty => next_more (P := Try.prog) ty hit (by rw [HS.out]; omega)
      rw [hd.out] at hnx0
      have k1 : Kept w { wr with heap := wr.heap.setIfInBounds w.heap.size (.stringIter s (0 + 1)) } := kr.iter (Nat.le_refl _) _
      have hit1 : ({ wr with heap := wr.heap.setIfInBounds w.heap.size (.stringIter s (0 + 1)) } : World).heap[w.heap.size]? = some (.stringIter s 1) := by
        show (wr.heap.setIfInBounds w.heap.size _)[w.heap.size]? = _
        rw [Array.getElem?_setIfInBounds_self_of_lt (Array.getElem?_eq_some_iff.1 hit).1]
      generalize ({ wr with heap := wr.heap.setIfInBounds w.heap.size (.stringIter s (0 + 1)) } : World) = W1 at *
      have hnx : ∀ ty, (Instr.next (.pointer (some ⟨w.heap.size, 0, none⟩)) true ty).run Try.prog wr = .ok (.tuple #[.bool true, .int .i64 0, .int .i32 (c : Int)]) W1 := hnx0
      have dr : (((c : Nat) : Int) == 65533) = false := by simp; omega
      have HI1 := Lib.hid hit1
      clear hnx0 hit hit1 hd
      go_wp2_with fail
      refine wp_region_text keepsOne (fun wB => Kept w wB ∧ Kept W1 wB) ?_ (by kernel_rfl) (by kernel_rfl) _ (by (try simp only [List.append_eq, List.cons_append, List.nil_append, List.toList_toArray]); exact rfl) ?_
      · exact ⟨by repeat (first | exact Kept.refl _ | assumption | (refine Kept.alloc ?_ _) | (refine Kept.setCell ?_ (by first | omega | (simp; omega) | simp) _) | refine Kept.drew ?_ | refine Kept.drewN ?_ _ | (apply Kept.call; rotate_left; assumption)), by repeat (first | exact Kept.refl _ | assumption | (refine Kept.alloc ?_ _) | (refine Kept.setCell ?_ (by first | omega | (simp; omega) | simp) _) | refine Kept.drew ?_ | refine Kept.drewN ?_ _ | (apply Kept.call; rotate_left; assumption))⟩
      rintro wB ⟨hkB, hkB1⟩
      repeat (first | (apply DW.det; (focus (intro wd hI; have hkd1 := hkB1.call hI; skip; go_wp2_with (fail); refine StepPost.mk _ rfl ⟨rfl, ?_⟩; repeat (first | exact Kept.refl _ | assumption | (refine Kept.alloc ?_ _) | (refine Kept.setCell ?_ (by first | omega | (simp; omega) | simp) _) | refine Kept.drew ?_ | refine Kept.drewN ?_ _ | (apply Kept.call; rotate_left; assumption)))); simp only [Act.put, List.setIfInBounds_toArray, List.set_cons_succ, List.set_cons_zero]) | (refine DW.loud (by kernel_rfl) ?_; intro wd hI; have hkd1 := hkB1.call hI; skip; go_wp2_with (fail); refine StepPost.loud _ rfl (by repeat (first | exact Kept.refl _ | assumption | (refine Kept.alloc ?_ _) | (refine Kept.setCell ?_ (by first | omega | (simp; omega) | simp) _) | refine Kept.drew ?_ | refine Kept.drewN ?_ _ | (apply Kept.call; rotate_left; assumption))) (fun hkL => ?_); have hkL := hI.call hkL; have hkB := hkB.call hkL; have hkB1 := hkB1.call hkL; simp only [Act.put, List.setIfInBounds_toArray, List.set_cons_succ, List.set_cons_zero]))
      refine DW.nil ?_
      intro wd hI
      have hkd := hkB.call hI
      have hkd1 := hkB1.call hI
      go_wp2_with fail
      go_roundw
      case rel => first | exact ⟨1, by omega, by go_num, hkd, hkd1.heap HI1.out⟩ | ((repeat apply Exists.intro); exact ⟨⟨1, by omega, by go_num, hkd, hkd1.heap HI1.out⟩, rfl⟩)
      case measure => first | (simp [intOf]; done) | (simp [intOf]; omega)
    · obtain rfl : pos = 1 := by omega
      have hnx : ∀ ty, (Instr.next (.pointer (some ⟨w.heap.size, 0, none⟩)) true ty).run Try.prog wr = .ok (.tuple #[.bool false]) wr := fun ty => next_end ty hit (by rw [HS.out]; omega)
      go_wp2_with fail
      go_ret
      exact ⟨rfl, kr⟩
set_option maxHeartbeats 1000000 in
theorem check_ch (c : Nat) (w : World) (h1 : 33 ≤ c) (h2 : c < 128) :
    Calls Try.prog 45 #[.string (ch c)] w fun e w' => e = .returned (.bool true) ∧ Kept w w' := by
  have hd := Lib.hid (decode_ch h2)
  obtain ⟨s, hs⟩ : ∃ s, s = ch c := ⟨_, rfl⟩
  have hsz : s.size = 1 := by rw [hs]; rfl
  rw [← hs] at hd ⊢
  have HS := Lib.hid hsz
  have HSS := Lib.hid hs
  clear hs hsz
  go_enter Try.func45, Try.ntmps45
  go_wp2_with fail
  go_step3
  go_wp2_with fail
  rw [HSS.out]
  refine (runes_ch c _ h1 h2).mono ?_
  rintro e w1 ⟨rfl, k1⟩
  rw [← HSS.out]
  go_wp2_with fail
  go_step3
  go_wp2_with fail
  go_loopw [4] (fun rv wr => ∃ pos : Nat, pos ≤ 1 ∧ rv = .bool true ∧ Kept w1 wr ∧ wr.heap[w1.heap.size]? = some (.stringIter s pos)) (fun _ wr => 1 - wr.iterPos w1.heap.size)
  case atStart => exact ⟨0, by omega, rfl, (Kept.refl w1).alloc _, World.iter_heap _ _ _⟩
  case round =>
    obtain ⟨pos, hp, rfl, kr, hit⟩ := hrel
    by_cases h0 : pos = 0
    · subst h0
      have hnx0 := fun ty => next_more (P := Try.prog) ty hit (by rw [HS.out]; omega)
      rw [hd.out] at hnx0
      have k2 : Kept w1 { wr with heap := wr.heap.setIfInBounds w1.heap.size (.stringIter s (0 + 1)) } := kr.iter (Nat.le_refl _) _
      have hit1 : ({ wr with heap := wr.heap.setIfInBounds w1.heap.size (.stringIter s (0 + 1)) } : World).heap[w1.heap.size]? = some (.stringIter s 1) := by
        show (wr.heap.setIfInBounds w1.heap.size _)[w1.heap.size]? = _
        rw [Array.getElem?_setIfInBounds_self_of_lt (Array.getElem?_eq_some_iff.1 hit).1]
      generalize ({ wr with heap := wr.heap.setIfInBounds w1.heap.size (.stringIter s (0 + 1)) } : World) = W1 at *
      have hnx : ∀ ty, (Instr.next (.pointer (some ⟨w1.heap.size, 0, none⟩)) true ty).run Try.prog wr = .ok (.tuple #[.bool true, .int .i64 0, .int .i32 (c : Int)]) W1 := hnx0
      have dr : decide ((33 : Int) ≤ ((c : Nat) : Int)) = true := by simp; omega
      have HI0 := Lib.hid hit
      have HI1 := Lib.hid hit1
      clear hnx0 hit hit1 hd
      go_wp2_with fail
      go_roundw
      case rel => first | exact ⟨1, by omega, rfl, k2, HI1.out⟩ | ((repeat apply Exists.intro); exact ⟨⟨1, by omega, rfl, k2, HI1.out⟩, rfl⟩)
      case measure =>
        unfold World.iterPos
        rw [HI0.out, HI1.out]
        simp
    · obtain rfl : pos = 1 := by omega
      have hnx : ∀ ty, (Instr.next (.pointer (some ⟨w1.heap.size, 0, none⟩)) true ty).run Try.prog wr = .ok (.tuple #[.bool false]) wr := fun ty => next_end ty hit (by rw [HS.out]; omega)
      go_wp2_with fail
      (try rw [Exit.noGoto_ret])
      go_ret
      exact ⟨rfl, k1.call kr⟩
/-- Nothing, or a letter. -/
def Plain (s : ByteArray) : Prop := s = nil ∨ ∃ c, s = ch c ∧ 33 ≤ c ∧ c < 128
theorem may_any (s : ByteArray) (w : World) (h : Plain s) :
    Calls Try.prog 44 #[.string s] w fun e w' => e = .returned (.bool true) ∧ Kept w w' := by
  rcases h with rfl | ⟨c, rfl, h1, h2⟩
  · have he : nil.toList.isEmpty = true := by rw [nil_toList]; rfl
    generalize nil = s at *
    go_enter Try.func44, Try.ntmps44
    go_wp2_with fail
    go_ret
    exact ⟨rfl, by repeat (first | exact Kept.refl _ | assumption | (refine Kept.alloc ?_ _) | (refine Kept.setCell ?_ (by first | omega | (simp; omega) | simp) _) | refine Kept.drew ?_ | refine Kept.drewN ?_ _ | (apply Kept.call; rotate_left; assumption))⟩
  · have he : (ch c).toList.isEmpty = false := by rw [ch_toList]; rfl
    have HC := Lib.hid (fun w => check_ch c w h1 h2)
    generalize ch c = s at *
    go_enter Try.func44, Try.ntmps44
    go_wp2_with fail
    refine (HC.out _).mono ?_
    rintro e w1 ⟨rfl, k1⟩
    go_wp2_with fail
    go_ret
    exact ⟨rfl, k1⟩
theorem good_any (f t : ByteArray) (w : World) (hf : Plain f) (ht : Plain t) (h : t = nil ∨ Op.bytesLess f.toList t.toList = true) :
    Calls Try.prog 39 #[.agg #[.string f, .string t]] w fun e w' => e = .returned (.bool true) ∧ Kept w w' := by
  have hmf : ∀ fn first cap w, (Instr.makeFunc fn first cap).run Try.prog w = .ok (.func fn first cap) w := fun _ _ _ _ => rfl
  have HF := Lib.hid hf
  have HT := Lib.hid ht
  have hb : t.toList.isEmpty = true ∨ (t.toList.isEmpty = false ∧ Op.bytesLess f.toList t.toList = true) := by
    rcases h with rfl | h
    · left; rw [nil_toList]; rfl
    · cases he : t.toList.isEmpty
      · exact .inr ⟨rfl, h⟩
      · exact .inl rfl
  clear hf ht h
  go_enter Try.func39, Try.ntmps39
  go_wp2_with fail
  refine (may_any f _ HF.out).mono ?_
  rintro e w1 ⟨rfl, k1⟩
  have K1 : Kept w w1 := Kept.call (by repeat (first | exact Kept.refl _ | assumption | (refine Kept.alloc ?_ _) | (refine Kept.setCell ?_ (by first | omega | (simp; omega) | simp) _) | refine Kept.drew ?_ | refine Kept.drewN ?_ _ | (apply Kept.call; rotate_left; assumption))) k1
  have c0 : w1.cell? ⟨w.heap.size, 0, none⟩ = some (.string f) := k1.at_ (by go_simp)
  have c1 : w1.cell? ⟨w.heap.size, 1, none⟩ = some (.string t) := k1.at_ (by go_simp)
  go_wp2_with fail
  refine (may_any t _ HT.out).mono ?_
  rintro e w2 ⟨rfl, k2⟩
  have K2 := K1.call k2
  have c0 := k2.at_ c0
  have c1 := k2.at_ c1
  rcases hb with hb | ⟨hb1, hb2⟩
  · go_wp2_with fail
    go_ret
    exact ⟨rfl, K2⟩
  · go_wp2_with fail
    go_ret
    exact ⟨rfl, K2⟩
theorem has_any (f t k : ByteArray) (w : World) :
    Calls Try.prog 42 #[.agg #[.string f, .string t], .string k] w fun e w' => e = .returned (.bool (hasB f t k)) ∧ Kept w w' := by
  have hh : Hid (hasB f t k = (!Op.bytesLess k.toList f.toList && (t.toList.isEmpty || Op.bytesLess k.toList t.toList))) := rfl
  cases h1 : Op.bytesLess k.toList f.toList <;> cases h2 : t.toList.isEmpty <;> cases h3 : Op.bytesLess k.toList t.toList
  all_goals
    (rw [h1, h2, h3] at hh
     go_enter Try.func42, Try.ntmps42
     go_wp2_with fail
     go_ret
     exact ⟨by rw [hh.out]; rfl, by repeat (first | exact Kept.refl _ | assumption | (refine Kept.alloc ?_ _) | (refine Kept.setCell ?_ (by first | omega | (simp; omega) | simp) _) | refine Kept.drew ?_ | refine Kept.drewN ?_ _ | (apply Kept.call; rotate_left; assumption))⟩)
end Go.Proofs.Ytahokiopapenbaa
