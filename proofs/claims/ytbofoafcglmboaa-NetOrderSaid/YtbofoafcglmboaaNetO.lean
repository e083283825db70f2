/- The net's of, Open, Flying, Send. -/
import Derived.Test.YtbofoafcglmboaaNetS
set_option linter.unusedSimpArgs false
set_option linter.unusedVariables false
namespace Go.Proofs.Ytbofoafcglmboaa
open Go.RowKit

def NetAt (w : World) (N M : Nat) : Prop := w.heap[N]? = some (.cells #[.map (some M)] 48 (0, 0))
theorem NetAt.but {w w2 : World} {X : List Nat} {N M : Nat} (h : NetAt w N M) (hb : But X w w2) (hn : N ∉ X) : NetAt w2 N M := hb.heap h hn
theorem NetAt.keep {w w2 : World} {N M : Nat} (h : NetAt w N M) (hk : Kept w w2) : NetAt w2 N M := hk.heap h
theorem of_any (N M n a c : Nat) (S : Who) (w : World) (hN : NetAt w N M) (hM : PM w M n S) (ha : a < 6) (hc : c < 6) :
    Calls Try.prog 21 #[.pointer (some ⟨N, 0, none⟩), .int .i64 a, .int .i64 c] w fun e w' => e = .returned (ptr (S a c)) ∧ Kept w w' := by
  have c0 := cellOf hN 0
  simp only [List.getElem?_toArray, List.getElem?_cons_zero] at c0
  have hl := hM.look ha hc
  clear hN hM
  generalize ptr (S a c) = v at *
  go_enter Try.func21, Try.ntmps21
  go_wp2_with fail
  go_ret
  exact ⟨rfl, by repeat (first | exact Kept.refl _ | assumption | (refine Kept.alloc ?_ _) | (refine Kept.setCell ?_ (by first | omega | (simp; omega) | simp) _) | refine Kept.drew ?_ | refine Kept.drewN ?_ _ | (apply Kept.call; rotate_left; assumption))⟩
theorem of_nil (a c : Int) (w : World) :
    Calls Try.prog 21 #[.pointer none, .int .i64 a, .int .i64 c] w fun e w' => e = .returned (.pointer none) ∧ Kept w w' := by
  go_enter Try.func21, Try.ntmps21
  go_wp2_with fail
  go_ret
  exact ⟨rfl, by repeat (first | exact Kept.refl _ | assumption | (refine Kept.alloc ?_ _) | (refine Kept.setCell ?_ (by first | omega | (simp; omega) | simp) _) | refine Kept.drew ?_ | refine Kept.drewN ?_ _ | (apply Kept.call; rotate_left; assumption))⟩
theorem OpenK.at2 {w : World} {G : Option Nat} {v : Value} {n : Nat} {xs : List Value} (h : OpenK w G v n 2 xs) : OpenAt w G v n xs := h
theorem three_cells {t : TypeId} {w : World} {g : Nat} {a b c : Value} (h : w.heap[g]? = some (.cells #[a, b, c] t (0, 0))) : w.cell? ⟨g, 0, none⟩ = some a ∧ w.cell? ⟨g, 1, none⟩ = some b ∧ w.cell? ⟨g, 2, none⟩ = some c ∧ w.frozen? ⟨g, 2, none⟩ = false := by
  have c0 := cellOf h 0
  have c1 := cellOf h 1
  have c2 := cellOf h 2
  simp at c0 c1 c2
  exact ⟨c0, c1, c2, freeOf h 2⟩
/-- How many packets are open. -/
theorem nopen_any (N M n a c s lo : Nat) (F : List Nat) (S : Who) (T : List ByteArray) (way : List Nat) (w : World) (hN : NetAt w N M) (hM : PM w M n S) (ha : a < 6) (hc : c < 6) (hs : S a c = some s) (h : Sess w F s T lo way) (hT : T.length ≤ 4294967296) :
    Calls Try.prog 14 #[.pointer (some ⟨N, 0, none⟩), .int .i64 a, .int .i64 c] w fun e w' => e = .returned (.int .i64 ((T.length - lo : Nat) : Int)) ∧ Kept w w' := by
  obtain ⟨sb, rb, Go, Gw, v, h1, h2, h3, h4, h5, h6, h7, h8, h9⟩ := h
  obtain ⟨c0, c1, c2, _⟩ := three_cells h4
  have HN := Lib.hid hN
  have HM := Lib.hid hM
  have HS := Lib.hid hs
  have H5 := Lib.hid h5
  clear hN hM hs h1 h2 h3 h4 h5 h6 h7 h9
  go_enter Try.func14, Try.ntmps14
  go_wp2_with fail
  refine (of_any N M n a c S _ HN.out HM.out ha hc).mono ?_
  rintro e w1 ⟨rfl, k1⟩
  rw [HS.out]
  have c0 := k1.at_ c0
  unfold ptr
  go_wp2_with fail
  refine (open_any sb Go lo _ _ (H5.out.kept k1) (by rw [List.length_drop]; omega)).mono ?_
  rintro e w2 ⟨v', rfl, hown, k2⟩
  obtain ⟨A, cp, rfl⟩ := (OpenK.of_own hown).1.form
  have hl : Hid ((T.drop lo).length = T.length - lo) := List.length_drop
  rw [hl.out]
  clear hown
  go_wp2_with fail
  go_ret
  exact ⟨rfl, k1.call k2⟩
theorem nflying_any (N M n a c s lo : Nat) (F : List Nat) (S : Who) (T : List ByteArray) (way : List Nat) (w : World) (hN : NetAt w N M) (hM : PM w M n S) (ha : a < 6) (hc : c < 6) (hs : S a c = some s) (h : Sess w F s T lo way) (hT : way.length ≤ 4294967296) :
    Calls Try.prog 15 #[.pointer (some ⟨N, 0, none⟩), .int .i64 a, .int .i64 c] w fun e w' => ∃ v', e = .returned v' ∧ w'.ownsRow w.heap.size 60 2 v' way.length (wayC T way) ∧ Kept w w' := by
  obtain ⟨sb, rb, Go, Gw, v, h1, h2, h3, h4, h5, h6, h7, h8, h9⟩ := h
  obtain ⟨c0, c1, c2, _⟩ := three_cells h4
  have HN := Lib.hid hN
  have HM := Lib.hid hM
  have HS := Lib.hid hs
  have H7 := Lib.hid h7
  clear hN hM hs h1 h2 h3 h4 h5 h6 h7 h9
  go_enter Try.func15, Try.ntmps15
  go_wp2_with fail
  refine (of_any N M n a c S _ HN.out HM.out ha hc).mono ?_
  rintro e w1 ⟨rfl, k1⟩
  rw [HS.out]
  have c2 := k1.at_ c2
  unfold ptr
  go_wp2_with fail
  refine (clone_any Gw v way.length (wayC T way) _ (H7.out.kept k1).at2 (fun h0 => by rw [List.eq_nil_of_length_eq_zero h0]; rfl) hT (wayC_one T way)).mono ?_
  rintro e w2 ⟨v', rfl, hown, k2⟩
  have HO := Lib.hid hown
  have hz := k1.size
  clear hown
  go_wp2_with fail
  go_ret
  exact ⟨v', rfl, ⟨HO.out.1, HO.out.2.imp id fun ⟨g, cap, cur, e1, e2, r⟩ => ⟨g, cap, cur, e1, by omega, r⟩⟩, k1.call k2⟩
end Go.Proofs.Ytbofoafcglmboaa
