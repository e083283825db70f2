/- The document's there, up and Near. -/
import Derived.Test.YtbofgpmbocjbiaaTreeR
set_option linter.unusedSimpArgs false
set_option linter.unusedVariables false
namespace Go.Proofs.Ytbofgpmbocjbiaa
open Go.RowKit

def ints (l : List Nat) : List Int := l.map Int.ofNat
def natC (l : List Nat) : List Value := l.map fun x => .int .i64 (x : Nat)
theorem natC_snoc (l : List Nat) (n : Nat) : natC l ++ [.int .i64 (n : Nat)] = natC (l ++ [n]) := by simp [natC]
theorem natC_len (l : List Nat) : (natC l).length = l.length := by simp [natC]
theorem IntsAt.of_own {w : World} {base e : Nat} {v : Value} {n : Nat} {xs : List Nat} (h : w.ownsRow base e 1 v n (natC xs)) : ∃ A c, v = .slice A n c ∧ IntsAt w A n c (ints xs) := by
  have hl : xs.length = n := by have := h.1; rw [natC_len] at this; omega
  rcases h.2 with ⟨rfl, h0⟩ | ⟨g, cap, cur, rfl, hb, hg, h1, h2, h3, h4⟩
  · exact ⟨none, 0, by rw [h0], by simp [ints, hl], by omega, by unfold maxLen; omega, fun _ => ⟨h0, rfl⟩, fun h => by omega⟩
  · refine ⟨_, cap, rfl, by simp [ints, hl], h1, h2, (fun h => by cases h), fun h0 => ⟨g, 0, rfl, fun i hi => ?_⟩⟩
    rw [Nat.zero_add, h.cellAt i (by omega)]
    simp [natC, ints, List.getElem?_eq_getElem (show i < xs.length by omega)]
/-- A row of sites is told. -/
def RowIs (l : List Nat) (w : World) (e : Ending) (w' : World) : Prop := ∃ A c, e = .returned (.slice A l.length c) ∧ IntsAt w' A l.length c (ints l) ∧ Kept w w'

set_option maxHeartbeats 1000000 in
theorem rthere (A : Option Addr) (n c : Nat) (p : List Int) (a : Int) (w : World) (hx : IntsAt w A n c p) :
    Calls Try.prog 33 #[.slice A n c, .int .i64 a] w (BoolIs (IsTree p ∧ 0 ≤ a ∧ a < n) w) := by
  have HX := Lib.hid hx
  clear hx
  go_enter Try.func33, Try.ntmps33
  go_wp2_with fail
  refine (rtree_check A n c p w HX.out).mono ?_
  rintro e w1 ⟨B, rfl, hB, k1⟩
  have HB := Lib.hid hB
  clear hB
  cases B
  · go_wp2_with fail
    go_ret
    exact boolNo rfl (fun h => by have := HB.out.2 h.1; cases this) k1
  · have ht : Hid (IsTree p) := HB.out.1 rfl
    rcases Int.lt_or_le a 0 with h0 | h0
    · go_wp2_with fail
      go_ret
      exact boolNo rfl (fun h => by omega) k1
    · rcases Int.lt_or_le a n with h1 | h1
      · have d : decide (a < (n : Int)) = true := by simp; omega
        go_wp2_with fail
        go_ret
        exact boolYes rfl ⟨ht.out, h0, h1⟩ k1
      · have d : decide (a < (n : Int)) = false := by simp; omega
        go_wp2_with fail
        go_ret
        exact boolNo rfl (fun h => by omega) k1

/-- The sites from one to the root. -/
def upl (p : List Int) : Nat → Nat → List Nat
  | 0, _ => []
  | k + 1, x => x :: if pa p x < 0 then [] else upl p k (pa p x).toNat
def UpIs (p : List Int) (R : Nat → Nat) (a : Nat) (pre : List Nat) (cur : Int) : Prop :=
  ∃ k, pre.length + k = 7 ∧ ((cur = -1 ∧ upl p 7 a = pre) ∨ ∃ y : Nat, cur = y ∧ y < p.length ∧ R y < k ∧ upl p 7 a = pre ++ upl p k y)
theorem UpIs.next {p : List Int} {R : Nat → Nat} (hT : T p R) {a : Nat} {pre : List Nat} {y : Nat} (h : UpIs p R a pre y) : y < p.length ∧ pre.length < 7 ∧ UpIs p R a (pre ++ [y]) (pa p y) := by
  obtain ⟨k, hk, ⟨h1, _⟩ | ⟨z, h1, h2, h3, h4⟩⟩ := h
  · omega
  · obtain rfl : z = y := by omega
    obtain ⟨k', rfl⟩ : ∃ k', k = k' + 1 := ⟨k - 1, by omega⟩
    refine ⟨h2, by omega, k', by simp; omega, ?_⟩
    have hr := hT.rng z h2
    by_cases e : pa p z = -1
    · refine .inl ⟨e, ?_⟩
      rw [h4, upl, if_pos (by omega)]
    · refine .inr ⟨(pa p z).toNat, by omega, by omega, ?_, ?_⟩
      · have := hT.rk z h2 (pa p z).toNat (by omega)
        omega
      · rw [h4, upl, if_neg (by omega)]
        simp
end Go.Proofs.Ytbofgpmbocjbiaa
