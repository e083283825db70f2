/- The walk of the document's own Read of a stamp. -/
import Derived.Test.YtfiocebipckaaaaStampT
set_option linter.unusedSimpArgs false
set_option linter.unusedVariables false
namespace Go.Proofs.Ytfiocebipckaaaa
open Go.RowKit

theorem rd_pos {s : ByteArray} {a : Int} {n : Nat} {en : Int} (h : Rd s.data.toList a n en true) : 1 ≤ en := by
  rcases h with ⟨_, _, h1, h2, rfl⟩ | ⟨h, _⟩
  · have := enc_pos n; omega
  · cases h
def RSRdPost (s : ByteArray) (a : Int) (w : World) (e : Ending) (w' : World) : Prop :=
  ∃ (n m : Nat) (en : Int) (ok : Bool), e = .returned (.agg #[.int .i64 n, .int .i64 m, .int .i64 en]) ∧ SRd s.data.toList a n m en ok ∧ Kept w w'
set_option maxHeartbeats 4000000 in
set_option maxRecDepth 100000 in
theorem rsread_rel (s : ByteArray) (a : Int) (w : World) (hs : s.size ≤ 1099511627776) :
    Calls Try.prog 21 #[.string s, .int .i64 a] w (RSRdPost s a w) := by
  have X0 := heap_alloc_new w (.cells #[.int .i64 0, .int .i64 0, .int .i64 0] 40)
  have HX0 := Lib.hid X0
  clear X0
  go_enter Try.func21, Try.ntmps21
  go_wp2_with fail
  refine (rread_rel s a _ hs).mono ?_
  rintro e w1 ⟨n, mid, ok1, rfl, h1, k1⟩
  have K1 : Kept w w1 := Kept.call (by repeat (first | exact Kept.refl _ | assumption | (refine Kept.alloc ?_ _) | (refine Kept.setCell ?_ (by first | omega | (simp; omega) | simp) _) | refine Kept.drew ?_ | refine Kept.drewN ?_ _ | (apply Kept.call; rotate_left; assumption))) k1
  have H1 := Lib.hid h1
  have hn64 : n < 18446744073709551616 := by rcases h1 with ⟨_, h, _⟩ | ⟨_, h, _⟩ <;> omega
  have X1 := k1.heap HX0.out
  have HX1 := Lib.hid X1
  have G1 := heap_alloc_new w1 (.cells #[.int .u64 n, .int .i64 mid] 50)
  have HG1 := Lib.hid G1
  have hz1 : w.heap.size < w1.heap.size := (Array.getElem?_eq_some_iff.1 X1).1
  have HN64 := Lib.hid hn64
  clear h1 X1 G1 hn64
  cases ok1
  · have hmid : mid = 0 := by rcases H1.out with ⟨h, _⟩ | ⟨_, _, h, _⟩; cases h; exact h
    subst hmid
    have x0 : w1.cell? ⟨w.heap.size, 0, none⟩ = some (.int .i64 0) := by rw [Lib.cell_of_heap HX1.out]; rfl
    have x1 : w1.cell? ⟨w.heap.size, 1, none⟩ = some (.int .i64 0) := by rw [Lib.cell_of_heap HX1.out]; rfl
    have x2 : w1.cell? ⟨w.heap.size, 2, none⟩ = some (.int .i64 0) := by rw [Lib.cell_of_heap HX1.out]; rfl
    have f0 : w1.frozen? ⟨w.heap.size, 0, none⟩ = false := Lib.frozen_of_heap HX1.out 0
    have f1 : w1.frozen? ⟨w.heap.size, 1, none⟩ = false := Lib.frozen_of_heap HX1.out 1
    have f2 : w1.frozen? ⟨w.heap.size, 2, none⟩ = false := Lib.frozen_of_heap HX1.out 2
    go_wp2_with fail
    refine bodyPost_ret (v := .agg #[.int .i64 0, .int .i64 0, .int .i64 0]) (by simp [results, Try.results21, go_sem, x0, x1, x2, hz1, Nat.ne_of_lt hz1]) rfl ⟨0, 0, 0, false, rfl, srd_no1 H1.out, ?_⟩
    repeat (first | exact Kept.refl _ | assumption | (refine Kept.alloc ?_ _) | (refine Kept.setCell ?_ (by first | omega | (simp; omega) | simp) _) | refine Kept.drew ?_ | refine Kept.drewN ?_ _ | (apply Kept.call; rotate_left; assumption))
  · have hp := rd_pos H1.out
    have hne : (mid == 0) = false := by simp; omega
    go_wp2_with fail
    refine (rread_rel s mid _ hs).mono ?_
    rintro e w2 ⟨m, en, ok2, rfl, h2, k2⟩
    have K2 : Kept w w2 := (K1.alloc _).call k2
    have H2 := Lib.hid h2
    clear h2
    have HX2 := Lib.hid (k2.heap (((Kept.refl w1).alloc (.cells #[.int .u64 n, .int .i64 mid] 50)).heap HX1.out))
    have HG2 := Lib.hid (k2.heap HG1.out)
    have hz2 : w1.heap.size < w2.heap.size := (Array.getElem?_eq_some_iff.1 HG2.out).1
    have hzz : w.heap.size < w2.heap.size := by omega
    have hz3 : w.heap.size ≠ w1.heap.size := by omega
    have g0 : w2.cell? ⟨w1.heap.size, 0, none⟩ = some (.int .u64 n) := by rw [Lib.cell_of_heap HG2.out]; rfl
    have g1 : w2.cell? ⟨w1.heap.size, 1, none⟩ = some (.int .i64 mid) := by rw [Lib.cell_of_heap HG2.out]; rfl
    have x0 : w2.cell? ⟨w.heap.size, 0, none⟩ = some (.int .i64 0) := by rw [Lib.cell_of_heap HX2.out]; rfl
    have f0 : w2.frozen? ⟨w.heap.size, 0, none⟩ = false := Lib.frozen_of_heap HX2.out 0
    have x1 : w2.cell? ⟨w.heap.size, 1, none⟩ = some (.int .i64 0) := by rw [Lib.cell_of_heap HX2.out]; rfl
    have f1 : w2.frozen? ⟨w.heap.size, 1, none⟩ = false := Lib.frozen_of_heap HX2.out 1
    have x2 : w2.cell? ⟨w.heap.size, 2, none⟩ = some (.int .i64 0) := by rw [Lib.cell_of_heap HX2.out]; rfl
    have f2 : w2.frozen? ⟨w.heap.size, 2, none⟩ = false := Lib.frozen_of_heap HX2.out 2
    cases ok2
    · have hen : en = 0 := by rcases H2.out with ⟨h, _⟩ | ⟨_, _, h, _⟩; cases h; exact h
      subst hen
      go_wp2_with fail
      refine bodyPost_ret (v := .agg #[.int .i64 0, .int .i64 0, .int .i64 0]) (by simp [results, Try.results21, go_sem, x0, x1, x2, *]) rfl ⟨0, 0, 0, false, rfl, srd_no2 H1.out H2.out, ?_⟩
      repeat (first | exact Kept.refl _ | assumption | (refine Kept.alloc ?_ _) | (refine Kept.setCell ?_ (by first | omega | (simp; omega) | simp) _) | refine Kept.drew ?_ | refine Kept.drewN ?_ _ | (apply Kept.call; rotate_left; assumption))
    · have hp2 := rd_pos H2.out
      have hne2 : (en == 0) = false := by simp; omega
      rcases Nat.lt_or_ge 1099511627776 n with h1 | h1
      · have hno : Hid (SRd s.data.toList a 0 0 0 false) := srd_no3 H1.out H2.out (by omega)
        go_wp2_with fail
        refine bodyPost_ret (v := .agg #[.int .i64 0, .int .i64 0, .int .i64 0]) (by simp [results, Try.results21, go_sem, x0, x1, x2, *]) rfl ⟨0, 0, 0, false, rfl, hno.out, ?_⟩
        repeat (first | exact Kept.refl _ | assumption | (refine Kept.alloc ?_ _) | (refine Kept.setCell ?_ (by first | omega | (simp; omega) | simp) _) | refine Kept.drew ?_ | refine Kept.drewN ?_ _ | (apply Kept.call; rotate_left; assumption))
      · rcases Nat.lt_or_ge 5 m with h5 | h5
        · have hno : Hid (SRd s.data.toList a 0 0 0 false) := srd_no3 H1.out H2.out (by omega)
          go_wp2_with fail
          refine bodyPost_ret (v := .agg #[.int .i64 0, .int .i64 0, .int .i64 0]) (by simp [results, Try.results21, go_sem, x0, x1, x2, *]) rfl ⟨0, 0, 0, false, rfl, hno.out, ?_⟩
          repeat (first | exact Kept.refl _ | assumption | (refine Kept.alloc ?_ _) | (refine Kept.setCell ?_ (by first | omega | (simp; omega) | simp) _) | refine Kept.drew ?_ | refine Kept.drewN ?_ _ | (apply Kept.call; rotate_left; assumption))
        · go_wp2_with fail
          rcases Nat.eq_zero_or_pos n with hz | hz
          · have hno : Hid (SRd s.data.toList a 0 0 0 false) := srd_no3 H1.out H2.out (by omega)
            refine (rcheck_no n m _ (by omega)).mono ?_
            rintro e w5 ⟨rfl, k5⟩
            have HX5 := Lib.hid (k5.heap ((((Kept.refl w2).alloc (.cells #[.int .u64 m, .int .i64 en] 50)).alloc (.cells #[.int .i64 n, .int .i64 m] 24)).heap HX2.out))
            have HM5 := Lib.hid (k5.heap (((Kept.refl _).alloc (.cells #[.int .i64 n, .int .i64 m] 24)).heap (heap_alloc_new w2 (.cells #[.int .u64 m, .int .i64 en] 50))))
            have hs5 : Hid (w5.heap[w2.heap.size + 1]? = some (.cells #[.int .i64 n, .int .i64 m] 24 (0, 0))) := by
              have h1 := k5.heap (heap_alloc_new (w2.alloc (.cells #[.int .u64 m, .int .i64 en] 50)) (.cells #[.int .i64 n, .int .i64 m] 24))
              rwa [World.size_alloc] at h1
            have hz5 : w2.heap.size + 1 < w5.heap.size := (Array.getElem?_eq_some_iff.1 hs5.out).1
            have K5 : Kept w w5 := ((K2.alloc _).alloc _).call k5
            have s0 : w5.cell? ⟨w2.heap.size + 1, 0, none⟩ = some (.int .i64 n) := by rw [Lib.cell_of_heap hs5.out]; rfl
            have s1 : w5.cell? ⟨w2.heap.size + 1, 1, none⟩ = some (.int .i64 m) := by rw [Lib.cell_of_heap hs5.out]; rfl
            have m1 : w5.cell? ⟨w2.heap.size, 1, none⟩ = some (.int .i64 en) := by rw [Lib.cell_of_heap HM5.out]; rfl
            have x0 : w5.cell? ⟨w.heap.size, 0, none⟩ = some (.int .i64 0) := by rw [Lib.cell_of_heap HX5.out]; rfl
            have f0 : w5.frozen? ⟨w.heap.size, 0, none⟩ = false := Lib.frozen_of_heap HX5.out 0
            have x1 : w5.cell? ⟨w.heap.size, 1, none⟩ = some (.int .i64 0) := by rw [Lib.cell_of_heap HX5.out]; rfl
            have f1 : w5.frozen? ⟨w.heap.size, 1, none⟩ = false := Lib.frozen_of_heap HX5.out 1
            have x2 : w5.cell? ⟨w.heap.size, 2, none⟩ = some (.int .i64 0) := by rw [Lib.cell_of_heap HX5.out]; rfl
            have f2 : w5.frozen? ⟨w.heap.size, 2, none⟩ = false := Lib.frozen_of_heap HX5.out 2
            go_wp2_with fail
            refine bodyPost_ret (v := .agg #[.int .i64 0, .int .i64 0, .int .i64 0]) (by simp [results, Try.results21, go_sem, x0, x1, x2]) rfl ⟨0, 0, 0, false, rfl, hno.out, ?_⟩
            repeat (first | exact Kept.refl _ | assumption | (refine Kept.alloc ?_ _) | (refine Kept.setCell ?_ (by first | omega | (simp; omega) | simp) _) | refine Kept.drew ?_ | refine Kept.drewN ?_ _ | (apply Kept.call; rotate_left; assumption))
          · have hyes : Hid (SRd s.data.toList a n m en true) := srd_yes H1.out H2.out hz h1 (by omega)
            refine (rcheck_yes n m _ (by omega)).mono ?_
            rintro e w5 ⟨rfl, k5⟩
            have HX5 := Lib.hid (k5.heap ((((Kept.refl w2).alloc (.cells #[.int .u64 m, .int .i64 en] 50)).alloc (.cells #[.int .i64 n, .int .i64 m] 24)).heap HX2.out))
            have HM5 := Lib.hid (k5.heap (((Kept.refl _).alloc (.cells #[.int .i64 n, .int .i64 m] 24)).heap (heap_alloc_new w2 (.cells #[.int .u64 m, .int .i64 en] 50))))
            have hs5 : Hid (w5.heap[w2.heap.size + 1]? = some (.cells #[.int .i64 n, .int .i64 m] 24 (0, 0))) := by
              have h1 := k5.heap (heap_alloc_new (w2.alloc (.cells #[.int .u64 m, .int .i64 en] 50)) (.cells #[.int .i64 n, .int .i64 m] 24))
              rwa [World.size_alloc] at h1
            have hz5 : w2.heap.size + 1 < w5.heap.size := (Array.getElem?_eq_some_iff.1 hs5.out).1
            have K5 : Kept w w5 := ((K2.alloc _).alloc _).call k5
            have s0 : w5.cell? ⟨w2.heap.size + 1, 0, none⟩ = some (.int .i64 n) := by rw [Lib.cell_of_heap hs5.out]; rfl
            have s1 : w5.cell? ⟨w2.heap.size + 1, 1, none⟩ = some (.int .i64 m) := by rw [Lib.cell_of_heap hs5.out]; rfl
            have m1 : w5.cell? ⟨w2.heap.size, 1, none⟩ = some (.int .i64 en) := by rw [Lib.cell_of_heap HM5.out]; rfl
            have x0 : w5.cell? ⟨w.heap.size, 0, none⟩ = some (.int .i64 0) := by rw [Lib.cell_of_heap HX5.out]; rfl
            have f0 : w5.frozen? ⟨w.heap.size, 0, none⟩ = false := Lib.frozen_of_heap HX5.out 0
            have x1 : w5.cell? ⟨w.heap.size, 1, none⟩ = some (.int .i64 0) := by rw [Lib.cell_of_heap HX5.out]; rfl
            have f1 : w5.frozen? ⟨w.heap.size, 1, none⟩ = false := Lib.frozen_of_heap HX5.out 1
            have x2 : w5.cell? ⟨w.heap.size, 2, none⟩ = some (.int .i64 0) := by rw [Lib.cell_of_heap HX5.out]; rfl
            have f2 : w5.frozen? ⟨w.heap.size, 2, none⟩ = false := Lib.frozen_of_heap HX5.out 2
            go_wp2_with fail
            refine bodyPost_ret (v := .agg #[.int .i64 n, .int .i64 m, .int .i64 en]) (by simp [results, Try.results21, go_sem, x0, x1, x2]) rfl ⟨n, m, en, true, rfl, hyes.out, ?_⟩
            repeat (first | exact Kept.refl _ | assumption | (refine Kept.alloc ?_ _) | (refine Kept.setCell ?_ (by first | omega | (simp; omega) | simp) _) | refine Kept.drew ?_ | refine Kept.drewN ?_ _ | (apply Kept.call; rotate_left; assumption))
end Go.Proofs.Ytfiocebipckaaaa
