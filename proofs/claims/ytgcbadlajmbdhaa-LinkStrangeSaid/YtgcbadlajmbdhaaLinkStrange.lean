/- The walk of the law LinkStrange: it returns true for every number and every packet. -/
import Derived.Test.YtgcbadlajmbdhaaLinkX
set_option linter.unusedSimpArgs false
set_option linter.unusedVariables false
namespace Go.Proofs.Ytgcbadlajmbdhaa
open Go.RowKit

set_option maxHeartbeats 1000000 in
theorem linkStrange_walk (n q : Int) (d : ByteArray) (w : World) (_ : (Lit.int .i64 n).wf = true) (_ : (Lit.int .i64 q).wf = true) (_ : d.size ≤ maxLen) :
    Calls Try.prog 3 #[.int .i64 n, .agg #[.int .i64 q, .string d]] w fun e w' => e = .returned (.bool true) ∧ Kept w w' := by
  obtain ⟨ha1, ha2⟩ := tmod_bd n 21 (by omega)
  go_enter Try.func3, Try.ntmps3
  go_wp2_with fail
  refine (awake_any _).mono ?_
  rintro e w1 ⟨rfl, k1⟩
  have B1 := k1.heap (heap_alloc_new w (.cells #[.int .i64 q, .string d] 23))
  have K1 : Kept w w1 := ((Kept.refl w).alloc _).call k1
  have z1 := k1.size
  simp only [World.size_alloc] at z1
  go_wp2_with fail
  refine (newReceiver_any w1).mono ?_
  rintro e w2 ⟨rfl, k2, R2⟩
  go_wp2_with fail
  simp only [show (n.tmod 21 + 21) % 21 = n.tmod 21 % 21 by omega]
  go_loopw [8] (fun i wr => ∃ k : Nat, (k : Int) ≤ n.tmod 21 % 21 ∧ i = .int .i64 k ∧ Kept w wr ∧ Recv wr w1.heap.size k ∧ wr.heap[w.heap.size]? = some (.cells #[.int .i64 q, .string d] 23 (0, 0))) (fun i _ => 21 - (intOf i).toNat)
  case atStart => exact ⟨0, by omega, rfl, K1.call k2, R2, k2.heap B1⟩
  case round =>
    obtain ⟨k, hk, rfl, kr, Rr, Br⟩ := hrel
    have ne : w.heap.size ≠ w1.heap.size := by omega
    by_cases hlt : (k : Int) < n.tmod 21 % 21
    · go_wp2_with fail
      refine (take_yes w1.heap.size k ⟨#[121]⟩ _ Rr (by omega)).mono ?_
      rintro e w3 ⟨rfl, k3, R3⟩
      have K3 : Kept w w3 := kr.but k3 (by simp; omega)
      have B3 := k3.heap Br (by simp; exact ne)
      go_wp2
      go_roundw
      case rel => first | exact ⟨k + 1, by omega, by go_num, K3, R3, B3⟩ | ((repeat apply Exists.intro); exact ⟨⟨k + 1, by omega, by go_num, K3, R3, B3⟩, rfl⟩)
      case measure => simp [intOf]; omega
    · obtain ⟨b0, b1, _, _⟩ := two_cells Br
      by_cases hq : q = (k : Int)
      · subst hq
        go_wp2_with fail
        refine (take_yes w1.heap.size k d _ Rr (by omega)).mono ?_
        rintro e w3 ⟨rfl, k3, R3⟩
        have K3 : Kept w w3 := kr.but k3 (by simp; omega)
        have B3 := k3.heap Br (by simp; exact ne)
        obtain ⟨d0, d1, _, _⟩ := two_cells B3
        go_wp2_with (first | (go_at_call 13; refine (waits_any _ (k + 1) _ R3).mono ?_; rintro e w6 ⟨rfl, hb6⟩))
        go_ret
        exact ⟨ret_bool (by simp; omega), K3.call (by assumption)⟩
      · go_wp2_with fail
        refine (take_no w1.heap.size k q d _ Rr hq).mono ?_
        rintro e w3 ⟨rfl, k3⟩
        have B3 := k3.heap Br
        obtain ⟨d0, d1, _, _⟩ := two_cells B3
        go_wp2_with (first | (go_at_call 13; refine (waits_any _ k _ (Rr.kept k3)).mono ?_; rintro e w6 ⟨rfl, hb6⟩))
        go_ret
        exact ⟨ret_bool (by simp; omega), kr.call (k3.call (by assumption))⟩
end Go.Proofs.Ytgcbadlajmbdhaa
