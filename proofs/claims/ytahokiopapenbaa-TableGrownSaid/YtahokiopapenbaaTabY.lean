/- The laws' row, of a Spec. -/
import Derived.Test.YtahokiopapenbaaTabX
import Derived.Test.YtahokiopapenbaaFld
set_option linter.unusedSimpArgs false
set_option linter.unusedVariables false
namespace Go.Proofs.Ytahokiopapenbaa
open Go.RowKit

theorem RowW.but {S : List Nat} {w w2 : World} {a b c n1 d1 n2 d2 n3 d3 : Nat} {rs : List Rg} {os ps : List Int} (h : RowW w (some ⟨a, 0, none⟩) n1 d1 (some ⟨b, 0, none⟩) n2 d2 (some ⟨c, 0, none⟩) n3 d3 rs os ps) (hb : But S w w2) (ha : a ∉ S) (hb1 : b ∉ S) (hc : c ∉ S) : RowW w2 (some ⟨a, 0, none⟩) n1 d1 (some ⟨b, 0, none⟩) n2 d2 (some ⟨c, 0, none⟩) n3 d3 rs os ps := ⟨h.rs.but hb ha, h.os.but hb hb1, h.ps.but hb hc⟩
set_option maxHeartbeats 2000000 in
theorem row_any (A B : Option Addr) (m c m2 c2 : Nat) (xs ys : List Int) (s : Int) (w : World) (hx : IntsAt w A m c xs) (hy : IntsAt w B m2 c2 ys) :
    Calls Try.prog 11 #[.agg #[.slice A m c, .slice B m2 c2, .int .i64 s]] w (MadeRow w) := by
  have HX := Lib.hid hx
  have HY := Lib.hid hy
  clear hx hy
  go_enter Try.func11, Try.ntmps11
  go_wp2_with fail
  refine (made_any A B m c m2 c2 xs ys s _ (HX.out.keep (by repeat (first | exact Kept.refl _ | assumption | (refine Kept.alloc ?_ _) | (refine Kept.setCell ?_ (by first | omega | (simp; omega) | simp) _) | refine Kept.drew ?_ | refine Kept.drewN ?_ _ | (apply Kept.call; rotate_left; assumption)))) (HY.out.keep (by repeat (first | exact Kept.refl _ | assumption | (refine Kept.alloc ?_ _) | (refine Kept.setCell ?_ (by first | omega | (simp; omega) | simp) _) | refine Kept.drew ?_ | refine Kept.drewN ?_ _ | (apply Kept.call; rotate_left; assumption))))).mono ?_
  rintro e w2 ⟨a1, b1, c1, n1, d1, n2, d2, n3, d3, es, os, ps, rfl, ⟨l1, l2, l3⟩, hr, hf, k2⟩
  have HR := Lib.hid hr
  have HF := Lib.hid hf
  have K2 : Kept w w2 := Kept.call (by repeat (first | exact Kept.refl _ | assumption | (refine Kept.alloc ?_ _) | (refine Kept.setCell ?_ (by first | omega | (simp; omega) | simp) _) | refine Kept.drew ?_ | refine Kept.drewN ?_ _ | (apply Kept.call; rotate_left; assumption))) k2
  simp only [World.size_alloc] at l1 l2 l3
  have hH : w2.heap[w.heap.size + 1]? = some (.cells #[.slice none 0 0, .slice none 0 0, .slice none 0 0] 31) := k2.heap (by
    have := heap_alloc_new (w.alloc (.cells #[.slice A m c, .slice B m2 c2, .int .i64 s] 27)) (.cells #[.slice none 0 0, .slice none 0 0, .slice none 0 0] 31)
    simpa only [World.size_alloc] using this)
  have r0 : w2.cell? ⟨w.heap.size + 1, 0, none⟩ = some (.slice none 0 0) := by rw [cell_of_row _ _ 0 _ _ (0, 0) hH]; rfl
  have r1 : w2.cell? ⟨w.heap.size + 1, 1, none⟩ = some (.slice none 0 0) := by rw [cell_of_row _ _ 1 _ _ (0, 0) hH]; rfl
  have r2 : w2.cell? ⟨w.heap.size + 1, 2, none⟩ = some (.slice none 0 0) := by rw [cell_of_row _ _ 2 _ _ (0, 0) hH]; rfl
  have q0 : ∀ i, w2.frozen? ⟨w.heap.size + 1, i, none⟩ = false := fun i => frozen_of_row w2 _ i _ _ hH
  have q00 := q0 0
  have q01 := q0 1
  have q02 := q0 2
  have HH := Lib.hid hH
  clear hr hf k2 q0 hH
  go_wp2_with fail
  have s1 := heap_setCell_same w2 (w.heap.size + 1) 0 _ _ (.slice (some ⟨a1, 0, none⟩) n1 d1) HH.out
  have s2 := heap_setCell_same _ (w.heap.size + 1) 1 _ _ (.slice (some ⟨b1, 0, none⟩) n2 d2) s1
  have s3 := heap_setCell_same _ (w.heap.size + 1) 2 _ _ (.slice (some ⟨c1, 0, none⟩) n3 d3) s2
  have hBR : But [w.heap.size + 1] w2 (((w2.setCell ⟨w.heap.size + 1, 0, none⟩ (.slice (some ⟨a1, 0, none⟩) n1 d1)).setCell ⟨w.heap.size + 1, 1, none⟩ (.slice (some ⟨b1, 0, none⟩) n2 d2)).setCell ⟨w.heap.size + 1, 2, none⟩ (.slice (some ⟨c1, 0, none⟩) n3 d3)) := (((But.refl _ _).setCell (.inl (by simp)) _).setCell (.inl (by simp)) _).setCell (.inl (by simp)) _
  (try simp only [Exit.inBlock, Exit.then])
  refine bodyPost_ret (results_cell_row rfl _ _ (w.heap.size + 1) _ #[.slice (some ⟨a1, 0, none⟩) n1 d1, .slice (some ⟨b1, 0, none⟩) n2 d2, .slice (some ⟨c1, 0, none⟩) n3 d3] (0, 0) _ rfl s3 Try.underlying31 rfl (by kernel_rfl)) rfl ?_
  exact ⟨a1, b1, c1, n1, d1, n2, d2, n3, d3, es, os, ps, rfl, ⟨by omega, by omega, by omega⟩, HR.out.but hBR (by simp; omega) (by simp; omega) (by simp; omega), HF.out, K2.but hBR (by simp)⟩
end Go.Proofs.Ytahokiopapenbaa
