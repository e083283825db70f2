/- Small general facts for all walks of this seat: 'Kept w w2': nothing that was there in w has turned in w2. -/
import Derived.Test.YtahokiopapenbaaRows
import Derived.WalkKit
import Derived.WalkSpells
import Derived.WalkLawsBesides
import Derived.Below
import Derived.Lib.Hide
set_option linter.unusedSimpArgs false
set_option linter.unusedVariables false
namespace Go.Proofs.Ytahokiopapenbaa
open Go.RowKit

/-- Nothing that was there in w has turned in w2. -/
def Kept (w w2 : World) : Prop := Below w.heap.size w w2
theorem Kept.below {w w2 : World} (h : Kept w w2) : Below w.heap.size w w2 := h
theorem Kept.refl (w : World) : Kept w w := Below.refl _ _
theorem Kept.size {w w2 : World} (h : Kept w w2) : w.heap.size ≤ w2.heap.size := Below.size h
theorem Kept.alloc {w w2 : World} (h : Kept w w2) (o : Obj) : Kept w (w2.alloc o) := Below.alloc h h.size o
theorem Kept.setCell {w w2 : World} (h : Kept w w2) {p : Addr} (hp : w.heap.size ≤ p.block) (u : Value) : Kept w (w2.setCell p u) := Below.setCell h hp u
theorem Kept.drew {w w2 : World} (h : Kept w w2) : Kept w w2.drew := Below.drew h
theorem Kept.drewN {w w2 : World} (h : Kept w w2) (n : Nat) : Kept w (w2.drewN n) := ⟨h.os, h.tape, h.output, h.size, h.block⟩
theorem Kept.call {w w1 w2 : World} (h : Kept w w1) (k : Kept w1 w2) : Kept w w2 := Below.trans h (Below.mono k h.size)
theorem Kept.cell {w w2 : World} (h : Kept w w2) : ∀ b o, b < w.heap.size → w2.cell? ⟨b, o, none⟩ = w.cell? ⟨b, o, none⟩ := fun b o hb => Below.cell (p := ⟨b, o, none⟩) h hb
theorem Kept.frozen {w w2 : World} (h : Kept w w2) : ∀ b o, b < w.heap.size → w2.frozen? ⟨b, o, none⟩ = w.frozen? ⟨b, o, none⟩ := fun b o hb => Below.frozen (p := ⟨b, o, none⟩) h hb

theorem Kept.at_ {w w2 : World} (h : Kept w w2) {p : Addr} {v : Value} (hc : w.cell? p = some v) : w2.cell? p = some v := by
  rw [Below.cell h (World.block_lt_of_cell? w _ hc)]; exact hc

theorem Kept.grown {w W w3 : World} {row : Option Nat} (h : Kept w W) (hg : W.grownBy w3 row) (hr : ∀ g, row = some g → w.heap.size ≤ g) : Kept w w3 := Below.grown h hg h.size hr
/-- A slice over a block that has just been made. -/
theorem own_new (w : World) (e : TypeId) (vals : List Value) (n size : Nat) (h : vals.length = n * size) (hn : n ≤ maxLen) :
    (w.alloc (.cells vals.toArray e)).ownsRow w.heap.size e size (.slice (some ⟨w.heap.size, 0, none⟩) n n) n vals :=
  ⟨h, .inr ⟨w.heap.size, n, vals.toArray, rfl, Nat.le_refl _, heap_alloc_new w _, Nat.le_refl _, hn, by simpa using h, by rw [← h]; simp⟩⟩

/-- Nothing that was there in w has turned in w2, but for the blocks S. -/
structure But (S : List Nat) (w w2 : World) : Prop where
  os : w2.os = w.os
  tape : w2.tape = w.tape
  output : w2.output = w.output
  size : w.heap.size ≤ w2.heap.size
  block : ∀ k, k < w.heap.size → k ∉ S → w2.heap[k]? = w.heap[k]?
theorem But.refl (S : List Nat) (w : World) : But S w w := ⟨rfl, rfl, rfl, Nat.le_refl _, fun _ _ _ => rfl⟩
theorem But.trans {S : List Nat} {a b c : World} (h : But S a b) (k : But S b c) : But S a c :=
  ⟨k.os.trans h.os, k.tape.trans h.tape, k.output.trans h.output, Nat.le_trans h.size k.size, fun i hi hn => (k.block i (Nat.lt_of_lt_of_le hi h.size) hn).trans (h.block i hi hn)⟩
theorem But.drew {S : List Nat} {a b : World} (h : But S a b) : But S a b.drew := ⟨h.os, h.tape, h.output, h.size, h.block⟩
theorem But.drewN {S : List Nat} {a b : World} (h : But S a b) (n : Nat) : But S a (b.drewN n) := ⟨h.os, h.tape, h.output, h.size, h.block⟩
theorem But.of_kept {S : List Nat} {a b : World} (h : Kept a b) : But S a b := ⟨h.os, h.tape, h.output, h.size, fun k hk _ => h.block k hk⟩
theorem But.mono {S T : List Nat} {a b : World} (h : But S a b) (hS : ∀ x ∈ S, x ∈ T) : But T a b := ⟨h.os, h.tape, h.output, h.size, fun k hk hn => h.block k hk fun hx => hn (hS k hx)⟩
theorem But.alloc {S : List Nat} {a b : World} (h : But S a b) (o : Obj) : But S a (b.alloc o) := h.trans (.of_kept ((Kept.refl b).alloc o))
theorem But.setCell {S : List Nat} {a b : World} (h : But S a b) {p : Addr} (hp : p.block ∈ S ∨ a.heap.size ≤ p.block) (u : Value) : But S a (b.setCell p u) :=
  ⟨h.os, h.tape, h.output, by simpa [World.setCell] using h.size, fun k hk hn => (Below.heap_setCell b p u k (by
    rintro rfl
    rcases hp with hp | hp
    · exact hn hp
    · omega)).trans (h.block k hk hn)⟩
theorem But.grown {S : List Nat} {a b c : World} {row : Option Nat} (h : But S a b) (hg : b.grownBy c row) (hr : ∀ g, row = some g → g ∈ S ∨ a.heap.size ≤ g) : But S a c :=
  ⟨hg.os.trans h.os, hg.tape.trans h.tape, hg.output.trans h.output, Nat.le_trans h.size hg.size, fun k hk hn => (hg.block k (Nat.lt_of_lt_of_le hk h.size) (by
    rintro e
    rcases hr k e.symm with h1 | h1
    · exact hn h1
    · omega)).trans (h.block k hk hn)⟩
theorem But.at_ {S : List Nat} {w w2 : World} (h : But S w w2) {p : Addr} {v : Value} (hc : w.cell? p = some v) (hn : p.block ∉ S) : w2.cell? p = some v := by
  rw [World.cell?_of_block (h.block p.block (World.block_lt_of_cell? w _ hc) hn)]; exact hc
theorem But.frozen {S : List Nat} {w w2 : World} (h : But S w w2) {p : Addr} (hl : p.block < w.heap.size) (hn : p.block ∉ S) : w2.frozen? p = w.frozen? p := by
  unfold World.frozen?
  rw [h.block p.block hl hn]
theorem But.heap {S : List Nat} {w w2 : World} (h : But S w w2) {k : Nat} {o : Obj} (hc : w.heap[k]? = some o) (hn : k ∉ S) : w2.heap[k]? = some o := by
  rw [h.block k (Array.getElem?_eq_some_iff.1 hc).1 hn]; exact hc
theorem Kept.heap {w w2 : World} (h : Kept w w2) {k : Nat} {o : Obj} (hc : w.heap[k]? = some o) : w2.heap[k]? = some o := by
  rw [h.block k (Array.getElem?_eq_some_iff.1 hc).1]; exact hc
theorem Kept.but {S : List Nat} {a b c : World} (h : Kept a b) (k : But S b c) (hS : ∀ x ∈ S, a.heap.size ≤ x) : Kept a c :=
  ⟨k.os.trans h.os, k.tape.trans h.tape, k.output.trans h.output, Nat.le_trans h.size k.size, fun i hi => (k.block i (Nat.lt_of_lt_of_le hi h.size) (fun hx => by have := hS i hx; omega)).trans (h.block i hi)⟩
theorem But.kept {a b : World} (h : But [] a b) : Kept a b := ⟨h.os, h.tape, h.output, h.size, fun k hk => h.block k hk (by simp)⟩

theorem ret_bool {a b : Bool} (h : a = b) : Ending.returned (.bool a) = .returned (.bool b) := by rw [h]
theorem ret_int {k : IntKind} {a b : Int} (h : a = b) : Ending.returned (.int k a) = .returned (.int k b) := by rw [h]
theorem ret_val {a b : Value} (h : a = b) : Ending.returned a = .returned b := by rw [h]

theorem tmod_bd (a c : Int) (hc : 0 < c) : -c < a.tmod c ∧ a.tmod c < c := by
  have h1 := Int.tmod_lt_of_pos a hc
  have h2 := Int.tmod_lt_of_pos (-a) hc
  rw [Int.neg_tmod] at h2
  omega

theorem and_bd (n c : Int) (h0 : 0 ≤ c) (h1 : c < 9223372036854775808) : 0 ≤ bits .and .i64 n c ∧ bits .and .i64 n c ≤ c := by
  obtain ⟨m, rfl⟩ := Int.eq_ofNat_of_zero_le h0
  have hm : m < 9223372036854775808 := by omega
  have h2 : (BitVec.ofInt 64 (m : Int)).toNat = m := by
    rw [BitVec.ofInt_natCast, BitVec.toNat_ofNat]; exact Nat.mod_eq_of_lt (by omega)
  show 0 ≤ IntKind.i64.wrap ((BitVec.ofInt 64 n &&& BitVec.ofInt 64 (m : Int)).toNat : Int) ∧ IntKind.i64.wrap ((BitVec.ofInt 64 n &&& BitVec.ofInt 64 (m : Int)).toNat : Int) ≤ (m : Int)
  rw [BitVec.toNat_and, h2, IntKind.wrap_i64]
  have h3 : (BitVec.ofInt 64 n).toNat &&& m ≤ m := Nat.and_le_right
  omega
end Go.Proofs.Ytahokiopapenbaa
