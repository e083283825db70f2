/- The walk of stamp.Max: the greatest of a row of stamps. -/
import Derived.Test.YtfiocebipckaaaaStamp
import Derived.Handy
set_option linter.unusedSimpArgs false
set_option linter.unusedVariables false
namespace Go.Proofs.Ytfiocebipckaaaa
open Go.RowKit

def maxStep (m x : Int × Int) : Int × Int := if lessB m.1 m.2 x.1 x.2 = true then x else m
def maxOf (l : List (Int × Int)) : Int × Int := l.foldl maxStep (0, 0)

/-- A slice of stamps: the first n elements are xs. -/
def StampsAt (w : World) (A : Option Addr) (n : Nat) (xs : List (Int × Int)) : Prop :=
  xs.length = n ∧ n ≤ maxLen ∧ (0 < n → ∃ b off, A = some ⟨b, off, none⟩ ∧ ∀ i, i < n → w.cell? ⟨b, off + i * 2, none⟩ = some (.int .i64 (xs[i]?.getD (0, 0)).1) ∧ w.cell? ⟨b, off + i * 2 + 1, none⟩ = some (.int .i64 (xs[i]?.getD (0, 0)).2))

theorem maxOf_snoc (xs : List (Int × Int)) (k : Nat) (hk : k < xs.length) : maxOf (xs.take (k + 1)) = maxStep (maxOf (xs.take k)) (xs[k]?.getD (0, 0)) := by
  unfold maxOf
  rw [List.take_succ_eq_append_getElem hk, List.foldl_append]
  simp [List.getElem?_eq_getElem hk]

set_option maxHeartbeats 1000000 in
theorem max_some (b off n c : Nat) (xs : List (Int × Int)) (w : World) (h0 : 0 < n) (hn : n ≤ maxLen) (hl : xs.length = n)
    (hcell : ∀ i, i < n → w.cell? ⟨b, off + i * 2, none⟩ = some (.int .i64 (xs[i]?.getD (0, 0)).1) ∧ w.cell? ⟨b, off + i * 2 + 1, none⟩ = some (.int .i64 (xs[i]?.getD (0, 0)).2)) :
    Calls Try.prog 14 #[.slice (some ⟨b, off, none⟩) n c] w fun e w' => e = .returned (.agg #[.int .i64 (maxOf xs).1, .int .i64 (maxOf xs).2]) ∧ Kept w w' := by
  unfold maxLen at hn
  have hb : b < w.heap.size := World.block_lt_of_cell? w _ (hcell 0 h0).1
  have HL := Lib.hid hl
  have HC := Lib.hid hcell
  clear hl hcell
  go_enter Try.func14, Try.ntmps14
  go_wp2_with fail
  go_loopw [8] (fun i wr => ∃ k : Nat, k ≤ n ∧ i = .int .i64 k ∧ Kept w wr ∧ w.heap.size + 1 < wr.heap.size ∧
      wr.cell? ⟨w.heap.size + 1, 0, none⟩ = some (.int .i64 (maxOf (xs.take k)).1) ∧ wr.cell? ⟨w.heap.size + 1, 1, none⟩ = some (.int .i64 (maxOf (xs.take k)).2) ∧
      wr.frozen? ⟨w.heap.size + 1, 0, none⟩ = false ∧ wr.frozen? ⟨w.heap.size + 1, 1, none⟩ = false ∧
      wr.cell? ⟨w.heap.size, 0, none⟩ = some (.int .i64 0) ∧ wr.cell? ⟨w.heap.size, 1, none⟩ = some (.int .i64 0) ∧
      wr.frozen? ⟨w.heap.size, 0, none⟩ = false ∧ wr.frozen? ⟨w.heap.size, 1, none⟩ = false) (fun i _ => n - (intOf i).toNat)
  case atStart => 
    refine ⟨0, by omega, rfl, by repeat (first | exact Kept.refl _ | assumption | (refine Kept.alloc ?_ _) | (refine Kept.setCell ?_ (by first | omega | (simp; omega) | simp) _) | refine Kept.drew ?_ | refine Kept.drewN ?_ _ | (apply Kept.call; rotate_left; assumption)), by simp, ?_, ?_, ?_, ?_, ?_, ?_, ?_, ?_⟩ 
    all_goals (simp [maxOf, go_sem]; try rfl)
  case round =>
    obtain ⟨k, hk, rfl, hkept, hsz, q0, q1, f0, f1, r0, r1, g0, g1⟩ := hrel
    by_cases hlt : k < n
    · obtain ⟨x0, x1⟩ := HC.out k hlt
      rw [← hkept.cell _ _ hb] at x0 x1
      go_wp2_with (first | (go_at_call 12; refine (less_any _ _ _ _ _).mono ?_; rintro e w4 ⟨rfl, hb4⟩; have hc4 := hb4.cell; have hf4 := hb4.frozen; have hz4 := hb4.size; (try simp only [World.size_alloc, World.size_setCell, World.size_drew] at hz4 hc4 hf4); have hy4a : b < w4.heap.size := (by omega); have hq4a := fun o => hb4.cell (b) o (by first | omega | (simp only [World.size_alloc, World.size_setCell, World.size_drew]; done) | (simp only [World.size_alloc, World.size_setCell, World.size_drew]; omega)); have hr4a := fun o => hb4.frozen (b) o (by first | omega | (simp only [World.size_alloc, World.size_setCell, World.size_drew]; done) | (simp only [World.size_alloc, World.size_setCell, World.size_drew]; omega)); have hy4b : w.heap.size < w4.heap.size := (by omega); have hq4b := fun o => hb4.cell (w.heap.size) o (by first | omega | (simp only [World.size_alloc, World.size_setCell, World.size_drew]; done) | (simp only [World.size_alloc, World.size_setCell, World.size_drew]; omega)); have hr4b := fun o => hb4.frozen (w.heap.size) o (by first | omega | (simp only [World.size_alloc, World.size_setCell, World.size_drew]; done) | (simp only [World.size_alloc, World.size_setCell, World.size_drew]; omega)); have hy4c : w.heap.size + 1 < w4.heap.size := (by omega); have hq4c := fun o => hb4.cell (w.heap.size + 1) o (by first | omega | (simp only [World.size_alloc, World.size_setCell, World.size_drew]; done) | (simp only [World.size_alloc, World.size_setCell, World.size_drew]; omega)); have hr4c := fun o => hb4.frozen (w.heap.size + 1) o (by first | omega | (simp only [World.size_alloc, World.size_setCell, World.size_drew]; done) | (simp only [World.size_alloc, World.size_setCell, World.size_drew]; omega)); have hy4d : wr.heap.size < w4.heap.size := (by omega); have hq4d := fun o => hb4.cell (wr.heap.size) o (by first | omega | (simp only [World.size_alloc, World.size_setCell, World.size_drew]; done) | (simp only [World.size_alloc, World.size_setCell, World.size_drew]; omega)); have hr4d := fun o => hb4.frozen (wr.heap.size) o (by first | omega | (simp only [World.size_alloc, World.size_setCell, World.size_drew]; done) | (simp only [World.size_alloc, World.size_setCell, World.size_drew]; omega)); clear hc4 hf4))
      all_goals
        have HT := Lib.hid (maxOf_snoc xs k (by have := HL.out; omega))
        first | (have HB : Hid (lessB (maxOf (xs.take k)).1 (maxOf (xs.take k)).2 (xs[k]?.getD (0, 0)).1 (xs[k]?.getD (0, 0)).2 = true) := by assumption) | (have HB : Hid (lessB (maxOf (xs.take k)).1 (maxOf (xs.take k)).2 (xs[k]?.getD (0, 0)).1 (xs[k]?.getD (0, 0)).2 = false) := by assumption)
        have hwr : w.heap.size < wr.heap.size := by omega
        have hw : w.heap.size < w4.heap.size := by omega
        go_roundw
        case rel =>
          refine ⟨k + 1, by omega, by go_num, by repeat (first | exact Kept.refl _ | assumption | (refine Kept.alloc ?_ _) | (refine Kept.setCell ?_ (by first | omega | (simp; omega) | simp) _) | refine Kept.drew ?_ | refine Kept.drewN ?_ _ | (apply Kept.call; rotate_left; assumption)), by (try simp only [World.size_setCell]); omega, ?_, ?_, ?_, ?_, ?_, ?_, ?_, ?_⟩
          all_goals
            (try (rw [HT.out]; unfold maxStep; rw [HB.out]))
            go_simp
            try rfl
        case measure => simp [intOf]; omega
    · obtain rfl : k = n := by omega
      have HT : Hid (xs.take k = xs) := List.take_of_length_le (by have := HL.out; omega)
      go_wp2
      refine bodyPost_ret (v := .agg #[.int .i64 (maxOf xs).1, .int .i64 (maxOf xs).2]) (by simp [results, Try.results14, go_sem, HT.out, *]) rfl ⟨rfl, ?_⟩
      repeat (first | exact Kept.refl _ | assumption | (refine Kept.alloc ?_ _) | (refine Kept.setCell ?_ (by first | omega | (simp; omega) | simp) _) | refine Kept.drew ?_ | refine Kept.drewN ?_ _ | (apply Kept.call; rotate_left; assumption))

set_option maxHeartbeats 400000 in
theorem max_none (A : Option Addr) (c : Nat) (w : World) :
    Calls Try.prog 14 #[.slice A 0 c] w fun e w' => e = .returned (.agg #[.int .i64 0, .int .i64 0]) ∧ Kept w w' := by
  go_enter Try.func14, Try.ntmps14
  go_wp2_with fail
  go_rounds 1
  refine bodyPost_ret (v := .agg #[.int .i64 0, .int .i64 0]) (by simp [results, Try.results14, go_sem]) rfl ⟨rfl, ?_⟩
  repeat (first | exact Kept.refl _ | assumption | (refine Kept.alloc ?_ _) | (refine Kept.setCell ?_ (by first | omega | (simp; omega) | simp) _) | refine Kept.drew ?_ | refine Kept.drewN ?_ _ | (apply Kept.call; rotate_left; assumption))

theorem max_any (A : Option Addr) (n c : Nat) (xs : List (Int × Int)) (w : World) (h : StampsAt w A n xs) :
    Calls Try.prog 14 #[.slice A n c] w fun e w' => e = .returned (.agg #[.int .i64 (maxOf xs).1, .int .i64 (maxOf xs).2]) ∧ Kept w w' := by
  obtain ⟨hl, hn, hc⟩ := h
  rcases Nat.eq_zero_or_pos n with rfl | h0
  · obtain rfl : xs = [] := List.eq_nil_of_length_eq_zero hl
    exact max_none A c w
  · obtain ⟨b, off, rfl, hcell⟩ := hc h0
    exact max_some b off n c xs w h0 hn hl hcell
theorem max_is (A : Option Addr) (n c : Nat) (xs : List (Int × Int)) (x0 x1 : Int) (w : World) (h : StampsAt w A n xs) (hx : maxOf xs = (x0, x1)) :
    Calls Try.prog 14 #[.slice A n c] w fun e w' => e = .returned (.agg #[.int .i64 x0, .int .i64 x1]) ∧ Kept w w' := by
  have := max_any A n c xs w h
  rw [hx] at this
  exact this
end Go.Proofs.Ytfiocebipckaaaa
