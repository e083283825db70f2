/- The document's there, up and Near. -/
import Derived.Test.YtjmfdacokdffiaaTreeR
set_option linter.unusedSimpArgs false
set_option linter.unusedVariables false
namespace Go.Proofs.Ytjmfdacokdffiaa
open Go.RowKit

def ints (l : List Nat) : List Int := l.map Int.ofNat
def natC (l : List Nat) : List Value := l.map fun x => .int .i64 (x : Nat)
theorem natC_snoc (l : List Nat) (n : Nat) : natC l ++ [.int .i64 (n : Nat)] = natC (l ++ [n]) := by simp [natC]
theorem natC_len (l : List Nat) : (natC l).length = l.length := by simp [natC]
theorem IntsAt.of_own {w : World} {base e : Nat} {v : Value} {n : Nat} {xs : List Nat} (h : w.ownsRow base e 1 v n (natC xs)) : ∃ A c, v = .slice A n c ∧ IntsAt w A n c (ints xs) := by
  have hl : xs.length = n := by have := h.1; rw [natC_len] at this; omega
  rcases h.2 with ⟨rfl, h0⟩ | ⟨g, cap, cur, rfl, hb, hg, h1, h2, h3, h4⟩
  · exact ⟨none, 0, by rw [h0], by simp [ints, hl], by omega, by unfold maxLen; omega, fun _ => ⟨h0, rfl⟩, fun h => by omega⟩
  · refine ⟨_, cap, rfl, by simp [ints, hl], h1, h2, (fun h => by cases h), fun h0 => ⟨g, 0, rfl, fun i hi => ?_⟩⟩
    rw [Nat.zero_add, h.cellAt i (by omega)]
    simp [natC, ints, List.getElem?_eq_getElem (show i < xs.length by omega)]
/-- A row of sites is told. -/
def RowIs (l : List Nat) (w : World) (e : Ending) (w' : World) : Prop := ∃ A c, e = .returned (.slice A l.length c) ∧ IntsAt w' A l.length c (ints l) ∧ Kept w w'

set_option maxHeartbeats 1000000 in
theorem rthere (A : Option Addr) (n c : Nat) (p : List Int) (a : Int) (w : World) (hx : IntsAt w A n c p) :
    Calls Try.prog 36 #[.slice A n c, .int .i64 a] w (BoolIs (IsTree p ∧ 0 ≤ a ∧ a < n) w) := by
  have HX := Lib.hid hx
  clear hx
  go_enter Try.func36, Try.ntmps36
  go_wp2_with fail
  refine (rtree_check A n c p w HX.out).mono ?_
  rintro e w1 ⟨B, rfl, hB, k1⟩
  have HB := Lib.hid hB
  clear hB
  cases B
  · go_wp2_with fail
    go_ret
    exact boolNo rfl (fun h => by have := HB.out.2 h.1; cases this) k1
  · have ht : Hid (IsTree p) := HB.out.1 rfl
    rcases Int.lt_or_le a 0 with h0 | h0
    · go_wp2_with fail
      go_ret
      exact boolNo rfl (fun h => by omega) k1
    · rcases Int.lt_or_le a n with h1 | h1
      · have d : decide (a < (n : Int)) = true := by simp; omega
        go_wp2_with fail
        go_ret
        exact boolYes rfl ⟨ht.out, h0, h1⟩ k1
      · have d : decide (a < (n : Int)) = false := by simp; omega
        go_wp2_with fail
        go_ret
        exact boolNo rfl (fun h => by omega) k1

/-- The sites from one to the root. -/
def upl (p : List Int) : Nat → Nat → List Nat
  | 0, _ => []
  | k + 1, x => x :: if pa p x < 0 then [] else upl p k (pa p x).toNat
def UpIs (p : List Int) (R : Nat → Nat) (a : Nat) (pre : List Nat) (cur : Int) : Prop :=
  ∃ k, pre.length + k = 7 ∧ ((cur = -1 ∧ upl p 7 a = pre) ∨ ∃ y : Nat, cur = y ∧ y < p.length ∧ R y < k ∧ upl p 7 a = pre ++ upl p k y)
theorem UpIs.next {p : List Int} {R : Nat → Nat} (hT : T p R) {a : Nat} {pre : List Nat} {y : Nat} (h : UpIs p R a pre y) : y < p.length ∧ pre.length < 7 ∧ UpIs p R a (pre ++ [y]) (pa p y) := by
  obtain ⟨k, hk, ⟨h1, _⟩ | ⟨z, h1, h2, h3, h4⟩⟩ := h
  · omega
  · obtain rfl : z = y := by omega
    obtain ⟨k', rfl⟩ : ∃ k', k = k' + 1 := ⟨k - 1, by omega⟩
    refine ⟨h2, by omega, k', by simp; omega, ?_⟩
    have hr := hT.rng z h2
    by_cases e : pa p z = -1
    · refine .inl ⟨e, ?_⟩
      rw [h4, upl, if_pos (by omega)]
    · refine .inr ⟨(pa p z).toNat, by omega, by omega, ?_, ?_⟩
      · have := hT.rk z h2 (pa p z).toNat (by omega)
        omega
      · rw [h4, upl, if_neg (by omega)]
        simp
set_option maxHeartbeats 2000000 in
theorem rup (A : Option Addr) (n c : Nat) (p : List Int) (R : Nat → Nat) (a : Nat) (w : World) (hx : IntsAt w A n c p) (hT : T p R) (ha : a < n) :
    Calls Try.prog 37 #[.slice A n c, .int .i64 a] w (RowIs (upl p 7 a) w) := by
  obtain ⟨i0, hi, hz0, hz1, hz2⟩ := info_parts infoInt
  have HI := Lib.hid hi
  clear hi
  obtain ⟨x1, x2, x3, x4, x5⟩ := hx
  unfold maxLen at x3
  have HX5 := Lib.hid x5
  have HX1 := Lib.hid x1
  clear x4 x5 x1
  have HT := Lib.hid hT
  have hs : Hid (UpIs p R a [] a) := ⟨7, rfl, .inr ⟨a, rfl, by rw [HX1.out]; exact ha, hT.r7 a (by rw [HX1.out]; exact ha), rfl⟩⟩
  clear hT
  go_enter Try.func37, Try.ntmps37
  go_wp2_with fail
  go_loopw [1, 5] (fun av ov wr => ∃ (pre : List Nat) (l : Nat) (cur : Int) (v : Value), ov = v ∧ pre.length = l ∧ l ≤ 7 ∧ av = .int .i64 cur ∧ UpIs p R a pre cur ∧ wr.ownsRow w.heap.size 3 1 v l (natC pre) ∧ Kept w wr) (fun _ ov _ => 7 - lenOf ov)
  case atStart => exact ⟨[], 0, a, _, rfl, rfl, by omega, rfl, hs.out, World.ownsRow_nil _ _ _ _, Kept.refl w⟩
  case round =>
    obtain ⟨pre, l, cur, v, rfl, hl, hl7, rfl, hu, ho, kr⟩ := hrel
    have HL := Lib.hid hl
    have HU := Lib.hid hu
    have HO := Lib.hid ho
    clear ho
    by_cases hneg : cur = -1
    · subst hneg
      obtain ⟨k, _, ⟨_, h2⟩ | ⟨y, h1, _⟩⟩ := hu
      · obtain ⟨A2, c2, rfl, hia⟩ := IntsAt.of_own HO.out
        have HIA := Lib.hid hia
        have H2 := Lib.hid h2
        clear hia hl h2
        go_wp2_with fail
        go_ret
        refine ⟨A2, c2, by rw [H2.out, HL.out]; rfl, ?_, kr⟩
        rw [H2.out, HL.out]
        exact HIA.out
      · omega
    · obtain ⟨y, rfl⟩ : ∃ y : Nat, cur = y := by
        obtain ⟨k, _, ⟨h1, _⟩ | ⟨y, h1, _⟩⟩ := hu
        · exact absurd h1 hneg
        · exact ⟨y, h1⟩
      obtain ⟨hy, hl2, hu2⟩ := hu.next HT.out
      have hyn : y < n := by rw [HX1.out] at hy; exact hy
      have hl6 : l < 7 := by omega
      obtain ⟨b, off, rfl, hc⟩ := HX5.out (by omega)
      have c1 : wr.cell? ⟨b, off + y, none⟩ = some (.int .i64 (pa p y)) := kr.at_ (hc y hyn)
      have hbw : b < wr.heap.size := World.block_lt_of_cell? wr _ c1
      have hbw0 : b < w.heap.size := World.block_lt_of_cell? w _ (hc y hyn)
      have hz : w.heap.size ≤ wr.heap.size := kr.size
      have hm := own_len HO.out
      have HCy : Hid (w.cell? ⟨b, off + y, none⟩ = some (.int .i64 (pa p y))) := hc y hyn
      have HC := Lib.hid hc
      have HU2 := Lib.hid hu2
      have hol : Hid ((natC pre).length = l * 1) := by unfold Hid; rw [natC_len, HL.out, Nat.mul_one]
      clear hc hu hu2 hl hneg hy hl2
      generalize pa p y = z at *
      go_wp2_with (at_builtin; refine wpList_append_own _ rfl _ _ 22 rfl w.heap.size 3 i0 (.int .i64 0) 1 8 Try.underlying22 HI.out hz0 hz1 hz2 rfl (by decide) _ l _ rfl (HO.out.alloc _) ⟨wr.heap.size, 0, none⟩ 1 1 [.int .i64 (y : Nat)] rfl rfl (cell_one_new _ _ _) (by simp [Value.oneCell']) (by unfold maxLen; omega) (by omega) (by simp; omega) ?_; intro v3 w3 hown3 hgrow3 _; have HL3 := HO.out.lt; have K3 : Kept w w3 := (kr.alloc _).grown hgrow3 (fun g hg => (HL3 g hg).1); rw [natC_snoc] at hown3; have HO3 := Lib.hid hown3; clear hown3; have c3 := K3.at_ HCy.out)
      go_roundw
      case rel => exact ⟨pre ++ [y], l + 1, z, _, rfl, by rw [List.length_append, HL.out]; rfl, by omega, by go_num, HU2.out, HO3.out, K3⟩
      case measure => rw [own_len HO3.out, hm]; omega
end Go.Proofs.Ytjmfdacokdffiaa
