/- The document's own ends (archipelagoref10): Answer, Take. -/
import Derived.Test.YtgcbadlajmbdhaaLinkR
set_option linter.unusedSimpArgs false
set_option linter.unusedVariables false
namespace Go.Proofs.Ytgcbadlajmbdhaa
open Go.RowKit

set_option maxHeartbeats 400000 in
theorem ranswer_no (s : Nat) (G : Option Nat) (lo : Nat) (ds : List ByteArray) (q : Int) (w : World) (h : RSnd w s G lo ds) (hb : ds.length < 4294967296) (hq : (ds.length : Int) < q ∨ q ≤ (lo : Int)) :
    Calls Try.prog 19 #[.pointer (some ⟨s, 0, none⟩), .int .i64 q] w fun e w' => e = .returned (.int .i64 0) ∧ Kept w w' := by
  obtain ⟨v, h2, h3, _⟩ := h
  obtain ⟨A, c, rfl⟩ := h3.form
  obtain ⟨c0, c1, f0, f1⟩ := two_cells h2
  have hs : s < w.heap.size := (Array.getElem?_eq_some_iff.1 h2).1
  clear h2 h3
  generalize ds.length = n at *
  go_enter Try.func19, Try.ntmps19
  by_cases h1 : (n : Int) < q
  · go_wp2
    go_ret
    exact ⟨rfl, by repeat (first | exact Kept.refl _ | assumption | (refine Kept.alloc ?_ _) | (refine Kept.setCell ?_ (by first | omega | (simp; omega) | simp) _) | refine Kept.drew ?_ | refine Kept.drewN ?_ _ | (apply Kept.call; rotate_left; assumption))⟩
  · have h2 : q ≤ (lo : Int) := by omega
    go_wp2
    go_ret
    exact ⟨rfl, by repeat (first | exact Kept.refl _ | assumption | (refine Kept.alloc ?_ _) | (refine Kept.setCell ?_ (by first | omega | (simp; omega) | simp) _) | refine Kept.drew ?_ | refine Kept.drewN ?_ _ | (apply Kept.call; rotate_left; assumption))⟩

set_option maxHeartbeats 400000 in
theorem ranswer_ok (s : Nat) (G : Option Nat) (lo k : Nat) (ds : List ByteArray) (w : World) (h : RSnd w s G lo ds) (hb : ds.length < 4294967296) (h1 : lo < k) (h2k : k ≤ ds.length) :
    Calls Try.prog 19 #[.pointer (some ⟨s, 0, none⟩), .int .i64 k] w fun e w' => e = .returned (.int .i64 ((k : Int) - (lo : Int))) ∧ RSnd w' s G k ds ∧ But [s] w w' := by
  obtain ⟨v, h2, h3, h4, h5⟩ := h
  obtain ⟨A, c, rfl⟩ := h3.form
  obtain ⟨c0, c1, f0, f1⟩ := two_cells h2
  have hs : s < w.heap.size := (Array.getElem?_eq_some_iff.1 h2).1
  have H2 := Lib.hid h2
  have H3 := Lib.hid h3
  have HN : Hid (∃ n, n = ds.length) := ⟨_, rfl⟩
  clear h2 h3
  obtain ⟨n, hn⟩ := HN.out
  rw [← hn] at H2 H3 hb c0 h2k
  have HN := Lib.hid hn
  clear hn
  go_enter Try.func19, Try.ntmps19
  go_wp2
  go_ret
  have hb2 : But [s] w (w.setCell ⟨s, 1, none⟩ (.int .i64 k)) := (But.refl _ _).setCell (by simp) _
  refine ⟨rfl, ⟨.slice A n c, ?_, ?_, h4, fun g hg => by simpa using h5 g hg⟩, hb2⟩
  · have := H2.out
    simp [World.setCell, Array.getElem?_modify, this]
  · rw [← HN.out]
    exact H3.out.but hb2 (fun g hg => by simp; rintro rfl; exact h4 hg)

/-- The document's receiver in block u. -/
def RRecv (w : World) (r : Nat) (n : Nat) : Prop := w.heap[r]? = some (.cells #[.int .i64 n] 52 (0, 0))
theorem RRecv.but {S : List Nat} {w w2 : World} {r n : Nat} (h : RRecv w r n) (hb : But S w w2) (hn : r ∉ S) : RRecv w2 r n := hb.heap h hn
theorem RRecv.kept {w w2 : World} {r n : Nat} (h : RRecv w r n) (hb : Kept w w2) : RRecv w2 r n := hb.heap h
theorem RRecv.lt {w : World} {r n : Nat} (h : RRecv w r n) : r < w.heap.size := (Array.getElem?_eq_some_iff.1 h).1

set_option maxHeartbeats 400000 in
theorem rtake_no (r n : Nat) (q : Int) (d : ByteArray) (w : World) (h : RRecv w r n) (hn : ¬ q = n) :
    Calls Try.prog 20 #[.pointer (some ⟨r, 0, none⟩), .agg #[.int .i64 q, .string d]] w fun e w' => e = .returned (.tuple #[.string ⟨#[]⟩, .bool false]) ∧ Kept w w' := by
  have hc := cellOf h 0
  have hr := h.lt
  have HH := Lib.hid h
  clear h
  go_enter Try.func20, Try.ntmps20
  go_wp2
  refine wp_region_text keepsOne (fun wB => Kept w wB ∧ wB.cell? ⟨r, 0, none⟩ = some (.int .i64 n) ∧ wB.cell? ⟨w.heap.size, 0, none⟩ = some (.int .i64 q)) ?_ (by kernel_rfl) (by kernel_rfl) _ rfl ?_
  · exact ⟨by repeat (first | exact Kept.refl _ | assumption | (refine Kept.alloc ?_ _) | (refine Kept.setCell ?_ (by first | omega | (simp; omega) | simp) _) | refine Kept.drew ?_ | refine Kept.drewN ?_ _ | (apply Kept.call; rotate_left; assumption)), by first | assumption | go_simp, by first | assumption | go_simp⟩
  rintro wB ⟨hkB, sB1, sB2⟩
  repeat (first | (apply DW.det; (focus (intro wd hI; have td1 := hI.at_ sB1; have td2 := hI.at_ sB2; go_wp2_with (fail); refine StepPost.mk _ rfl ⟨rfl, ?_⟩; repeat (first | exact Kept.refl _ | assumption | (refine Kept.alloc ?_ _) | (refine Kept.setCell ?_ (by first | omega | (simp; omega) | simp) _) | refine Kept.drew ?_ | refine Kept.drewN ?_ _ | (apply Kept.call; rotate_left; assumption)))); simp only [Act.put, List.setIfInBounds_toArray, List.set_cons_succ, List.set_cons_zero]) | (refine DW.loud (by kernel_rfl) ?_; intro wd hI; have td1 := hI.at_ sB1; have td2 := hI.at_ sB2; go_wp2_with (fail); refine StepPost.loud _ rfl (by repeat (first | exact Kept.refl _ | assumption | (refine Kept.alloc ?_ _) | (refine Kept.setCell ?_ (by first | omega | (simp; omega) | simp) _) | refine Kept.drew ?_ | refine Kept.drewN ?_ _ | (apply Kept.call; rotate_left; assumption))) (fun hkL => ?_); have hkL := hI.call hkL; have hkB := hkB.call hkL; have sB1 := hkL.at_ sB1; have sB2 := hkL.at_ sB2; simp only [Act.put, List.setIfInBounds_toArray, List.set_cons_succ, List.set_cons_zero]))
  refine DW.nil ?_
  intro wd hI
  have hkd := hkB.call hI
  have td1 := hI.at_ sB1; have td2 := hI.at_ sB2
  go_wp2
  go_ret2
  exact ⟨rfl, by repeat (first | exact Kept.refl _ | assumption | (refine Kept.alloc ?_ _) | (refine Kept.setCell ?_ (by first | omega | (simp; omega) | simp) _) | refine Kept.drew ?_ | refine Kept.drewN ?_ _ | (apply Kept.call; rotate_left; assumption))⟩

set_option maxHeartbeats 400000 in
theorem rtake_yes (r n : Nat) (d : ByteArray) (w : World) (h : RRecv w r n) (hn : n < 4611686018427387904) :
    Calls Try.prog 20 #[.pointer (some ⟨r, 0, none⟩), .agg #[.int .i64 n, .string d]] w fun e w' => e = .returned (.tuple #[.string d, .bool true]) ∧ But [r] w w' ∧ RRecv w' r (n + 1) := by
  have hc := cellOf h 0
  have hfr := freeOf h 0
  have hr := h.lt
  have HH := Lib.hid h
  clear h
  go_enter Try.func20, Try.ntmps20
  go_wp2
  refine wp_region_text keepsOne (fun wB => Kept w wB ∧ wB.cell? ⟨r, 0, none⟩ = some (.int .i64 n) ∧ wB.cell? ⟨w.heap.size, 0, none⟩ = some (.int .i64 n) ∧ wB.cell? ⟨w.heap.size, 1, none⟩ = some (.string d)) ?_ (by kernel_rfl) (by kernel_rfl) _ rfl ?_
  · exact ⟨by repeat (first | exact Kept.refl _ | assumption | (refine Kept.alloc ?_ _) | (refine Kept.setCell ?_ (by first | omega | (simp; omega) | simp) _) | refine Kept.drew ?_ | refine Kept.drewN ?_ _ | (apply Kept.call; rotate_left; assumption)), by first | assumption | go_simp, by first | assumption | go_simp, by first | assumption | go_simp⟩
  rintro wB ⟨hkB, sB1, sB2, sB3⟩
  repeat (first | (apply DW.det; (focus (intro wd hI; have td1 := hI.at_ sB1; have td2 := hI.at_ sB2; have td3 := hI.at_ sB3; go_wp2_with (fail); refine StepPost.mk _ rfl ⟨rfl, ?_⟩; repeat (first | exact Kept.refl _ | assumption | (refine Kept.alloc ?_ _) | (refine Kept.setCell ?_ (by first | omega | (simp; omega) | simp) _) | refine Kept.drew ?_ | refine Kept.drewN ?_ _ | (apply Kept.call; rotate_left; assumption)))); simp only [Act.put, List.setIfInBounds_toArray, List.set_cons_succ, List.set_cons_zero]) | (refine DW.loud (by kernel_rfl) ?_; intro wd hI; have td1 := hI.at_ sB1; have td2 := hI.at_ sB2; have td3 := hI.at_ sB3; go_wp2_with (fail); refine StepPost.loud _ rfl (by repeat (first | exact Kept.refl _ | assumption | (refine Kept.alloc ?_ _) | (refine Kept.setCell ?_ (by first | omega | (simp; omega) | simp) _) | refine Kept.drew ?_ | refine Kept.drewN ?_ _ | (apply Kept.call; rotate_left; assumption))) (fun hkL => ?_); have hkL := hI.call hkL; have hkB := hkB.call hkL; have sB1 := hkL.at_ sB1; have sB2 := hkL.at_ sB2; have sB3 := hkL.at_ sB3; simp only [Act.put, List.setIfInBounds_toArray, List.set_cons_succ, List.set_cons_zero]))
  refine DW.nil ?_
  intro wd hI
  have hkd := hkB.call hI
  have td1 := hI.at_ sB1; have td2 := hI.at_ sB2; have td3 := hI.at_ sB3
  have hR := HH.out.kept hkd
  have hfd := freeOf hR 0
  have HRd := Lib.hid hR
  clear hR HH hc hfr
  go_wp2
  go_ret2
  refine ⟨rfl, (But.of_kept hkd).setCell (by simp) _, ?_⟩
  have := HRd.out
  unfold RRecv at this ⊢
  simp [World.setCell, Array.getElem?_modify, this]
end Go.Proofs.Ytgcbadlajmbdhaa
