/- Small general facts for all walks of this seat: 'Kept w w2': nothing that was there in w has turned in w2. -/
import Derived.Test.YtfiocebipckaaaaRows
import Derived.WalkKit
import Derived.WalkSpells
import Derived.WalkLawsBesides
import Derived.Below
import Derived.Lib.Hide
set_option linter.unusedSimpArgs false
set_option linter.unusedVariables false
namespace Go.Proofs.Ytfiocebipckaaaa
open Go.RowKit

/-- Nothing that was there in w has turned in w2. -/
def Kept (w w2 : World) : Prop := Below w.heap.size w w2
theorem Kept.below {w w2 : World} (h : Kept w w2) : Below w.heap.size w w2 := h
theorem Kept.refl (w : World) : Kept w w := Below.refl _ _
theorem Kept.size {w w2 : World} (h : Kept w w2) : w.heap.size ≤ w2.heap.size := Below.size h
theorem Kept.alloc {w w2 : World} (h : Kept w w2) (o : Obj) : Kept w (w2.alloc o) := Below.alloc h h.size o
theorem Kept.setCell {w w2 : World} (h : Kept w w2) {p : Addr} (hp : w.heap.size ≤ p.block) (u : Value) : Kept w (w2.setCell p u) := Below.setCell h hp u
theorem Kept.drew {w w2 : World} (h : Kept w w2) : Kept w w2.drew := Below.drew h
theorem Kept.drewN {w w2 : World} (h : Kept w w2) (n : Nat) : Kept w (w2.drewN n) := ⟨h.os, h.tape, h.output, h.size, h.block⟩
theorem Kept.call {w w1 w2 : World} (h : Kept w w1) (k : Kept w1 w2) : Kept w w2 := Below.trans h (Below.mono k h.size)
theorem Kept.cell {w w2 : World} (h : Kept w w2) : ∀ b o, b < w.heap.size → w2.cell? ⟨b, o, none⟩ = w.cell? ⟨b, o, none⟩ := fun b o hb => Below.cell (p := ⟨b, o, none⟩) h hb
theorem Kept.frozen {w w2 : World} (h : Kept w w2) : ∀ b o, b < w.heap.size → w2.frozen? ⟨b, o, none⟩ = w.frozen? ⟨b, o, none⟩ := fun b o hb => Below.frozen (p := ⟨b, o, none⟩) h hb

theorem Kept.at_ {w w2 : World} (h : Kept w w2) {p : Addr} {v : Value} (hc : w.cell? p = some v) : w2.cell? p = some v := by
  rw [Below.cell h (World.block_lt_of_cell? w _ hc)]; exact hc

theorem Kept.grown {w W w3 : World} {row : Option Nat} (h : Kept w W) (hg : W.grownBy w3 row) (hr : ∀ g, row = some g → w.heap.size ≤ g) : Kept w w3 := Below.grown h hg h.size hr
/-- A slice over a block that has just been made. -/
theorem own_new (w : World) (e : TypeId) (vals : List Value) (n size : Nat) (h : vals.length = n * size) (hn : n ≤ maxLen) :
    (w.alloc (.cells vals.toArray e)).ownsRow w.heap.size e size (.slice (some ⟨w.heap.size, 0, none⟩) n n) n vals :=
  ⟨h, .inr ⟨w.heap.size, n, vals.toArray, rfl, Nat.le_refl _, heap_alloc_new w _, Nat.le_refl _, hn, by simpa using h, by rw [← h]; simp⟩⟩

theorem ret_bool {a b : Bool} (h : a = b) : Ending.returned (.bool a) = .returned (.bool b) := by rw [h]
theorem ret_int {k : IntKind} {a b : Int} (h : a = b) : Ending.returned (.int k a) = .returned (.int k b) := by rw [h]
theorem ret_val {a b : Value} (h : a = b) : Ending.returned a = .returned b := by rw [h]

theorem tmod_bd (a c : Int) (hc : 0 < c) : -c < a.tmod c ∧ a.tmod c < c := by
  have h1 := Int.tmod_lt_of_pos a hc
  have h2 := Int.tmod_lt_of_pos (-a) hc
  rw [Int.neg_tmod] at h2
  omega

theorem and_bd (n c : Int) (h0 : 0 ≤ c) (h1 : c < 9223372036854775808) : 0 ≤ bits .and .i64 n c ∧ bits .and .i64 n c ≤ c := by
  obtain ⟨m, rfl⟩ := Int.eq_ofNat_of_zero_le h0
  have hm : m < 9223372036854775808 := by omega
  have h2 : (BitVec.ofInt 64 (m : Int)).toNat = m := by
    rw [BitVec.ofInt_natCast, BitVec.toNat_ofNat]; exact Nat.mod_eq_of_lt (by omega)
  show 0 ≤ IntKind.i64.wrap ((BitVec.ofInt 64 n &&& BitVec.ofInt 64 (m : Int)).toNat : Int) ∧ IntKind.i64.wrap ((BitVec.ofInt 64 n &&& BitVec.ofInt 64 (m : Int)).toNat : Int) ≤ (m : Int)
  rw [BitVec.toNat_and, h2, IntKind.wrap_i64]
  have h3 : (BitVec.ofInt 64 n).toNat &&& m ≤ m := Nat.and_le_right
  omega
end Go.Proofs.Ytfiocebipckaaaa
