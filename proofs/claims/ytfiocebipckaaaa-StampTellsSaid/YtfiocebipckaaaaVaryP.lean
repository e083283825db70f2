/- The walks of vary's put, Join, Number, Text, Long. -/
import Derived.Test.YtfiocebipckaaaaVaryB
import Derived.Laws.EntriesVeiled
set_option linter.unusedSimpArgs false
set_option linter.unusedVariables false
namespace Go.Proofs.Ytfiocebipckaaaa
open Go.RowKit

theorem or128 : ∀ x : Nat, x < 256 → bits .or .u8 (x : Int) 128 = ((128 + x % 128 : Nat) : Int) := by
  intro x hx
  have h : ∀ y : Fin 256, bits .or .u8 ((y.val : Nat) : Int) 128 = ((128 + y.val % 128 : Nat) : Int) := by decide +kernel
  exact h ⟨x, hx⟩
theorem cells_snoc (l : List UInt8) (m : Nat) (h : m < 256) (c : Int) (hc : c = (m : Int)) : Lib.byteCells l ++ [.int .u8 c] = Lib.byteCells (l ++ [UInt8.ofNat m]) := by
  subst hc
  simp [Lib.byteCells, Nat.mod_eq_of_lt h]
theorem cells_len (l : List UInt8) : (Lib.byteCells l).length = l.length := by simp [Lib.byteCells]

/-- What put leaves. -/
def Put (B b : Nat) (l : List UInt8) (w : World) (e : Ending) (w' : World) : Prop := e = .returned (.tuple #[]) ∧ Lib.IsBuilder 56 5 B b (Lib.byteCells l) w' ∧ Below B w w'
set_option maxHeartbeats 2000000 in
set_option maxRecDepth 100000 in
theorem put_any (B b : Nat) (l : List UInt8) (n : Nat) (w : World) (hn : n < 18446744073709551616) (h : Lib.IsBuilder 56 5 B b (Lib.byteCells l) w) (hl : l.length + 11 ≤ 140737488355328) (hB : B ≤ w.heap.size) :
    Calls Try.prog 28 #[.pointer (some ⟨b, 0, none⟩), .int .u64 n] w (Put B b (l ++ enc n) w) := by
  have hten := enc_ten n hn
  have HN := Lib.hid hn
  clear hn
  go_enter Try.func28, Try.ntmps28
  go_wp2_with fail
  go_loopw [1] (fun v wr => ∃ (m : Nat) (l2 : List UInt8), m ≤ n ∧ v = .int .u64 m ∧ l ++ enc n = l2 ++ enc m ∧ Lib.IsBuilder 56 5 B b (Lib.byteCells l2) wr ∧ Below B w wr) (fun v _ => (intOf v).toNat)
  case atStart => exact ⟨n, l, Nat.le_refl _, rfl, rfl, h, Below.refl _ _⟩
  case round =>
    obtain ⟨m, l2, hmn, rfl, heq, hb, kb⟩ := hrel
    have HEQ := Lib.hid heq
    have hl2 : l2.length ≤ l.length + 10 := by
      have := congrArg List.length heq
      simp only [List.length_append] at this
      have := enc_pos m
      omega
    clear heq
    have HL := Lib.hid hl
    clear hl
    have hB2 : B ≤ wr.heap.size := Nat.le_trans hB kb.size
    rcases Nat.lt_or_ge m 128 with hm | hm
    · go_wp2_with fail
      refine (writeByte_any B b (Lib.byteCells l2) _ wr hb (by rw [cells_len]; have := HL.out; omega) hB2).mono ?_
      rintro e w4 ⟨rfl, h4, k4⟩
      rw [cells_snoc l2 m (by omega) _ rfl] at h4
      go_wp2_with fail
      go_end0
      refine ⟨rfl, ?_, kb.trans k4⟩
      rw [HEQ.out, enc_lo hm]
      exact h4
    · have h7 : 0 < m / 128 := by omega
      go_wp2_with fail
      refine (writeByte_any B b (Lib.byteCells l2) _ wr hb (by rw [cells_len]; have := HL.out; omega) hB2).mono ?_
      rintro e w4 ⟨rfl, h4, k4⟩
      rw [cells_snoc l2 (128 + m % 128) (by omega) _ (by
        rw [show ((m : Int) % 256) = ((m % 256 : Nat) : Int) by omega, or128 (m % 256) (by omega), show m % 256 % 128 = m % 128 by omega])] at h4
      have heq2 : Hid (l ++ enc n = (l2 ++ [UInt8.ofNat (128 + m % 128)]) ++ enc (m / 128)) := by
        unfold Hid
        rw [HEQ.out, enc_hi hm, List.append_assoc]; rfl
      generalize hl3 : l2 ++ [UInt8.ofNat (128 + m % 128)] = l3 at *
      clear hl3
      go_wp2_with fail
      go_roundw
      case rel => first | exact ⟨m / 128, l3, by omega, by go_num, heq2.out, h4, kb.trans k4⟩ | ((repeat apply Exists.intro); exact ⟨⟨m / 128, l3, by omega, by go_num, heq2.out, h4, kb.trans k4⟩, rfl⟩)
      case measure => simp [intOf]; omega

set_option maxHeartbeats 2000000 in
set_option maxRecDepth 100000 in
theorem each_any (B b : Nat) (l : List UInt8) (n : Nat) (w : World) (hn : n < 18446744073709551616) (h : Lib.IsBuilder 56 5 B b (Lib.byteCells l) w) (hl : l.length + 11 ≤ 140737488355328) (hB : B ≤ w.heap.size) (fn : Fn) (w0 : World) :
    Calls Try.prog 27 #[.int .u64 n, .pointer (some ⟨b, 0, none⟩)] w (Put B b (l ++ enc n) w) := by
  have HN := Lib.hid hn
  have HL := Lib.hid hl
  clear hn hl
  go_enter Try.func27, Try.ntmps27
  go_wp2_with fail
  refine (put_any B b l n w HN.out h HL.out hB).mono ?_
  rintro e w1 ⟨rfl, h1, k1⟩
  go_wp2_with fail
  go_end0
  exact ⟨rfl, h1, k1⟩

/-- Numbers, one behind the other. -/
def encs (l : List Nat) : List UInt8 := (l.map enc).flatten
theorem encs_snoc (l : List Nat) (n : Nat) : encs (l ++ [n]) = encs l ++ enc n := by simp [encs]
theorem encs_len (l : List Nat) (h : ∀ n ∈ l, n < 18446744073709551616) : (encs l).length ≤ l.length * 10 := by
  induction l with
  | nil => simp [encs]
  | cons a l ih =>
    have h1 := enc_ten a (h a (by simp))
    have h2 := ih fun n hn => h n (by simp [hn])
    have e : encs (a :: l) = enc a ++ encs l := rfl
    rw [e, List.length_append, List.length_cons]
    omega

def Str (l : List UInt8) (w : World) (e : Ending) (w' : World) : Prop := e = .returned (.string ⟨l.toArray⟩) ∧ Kept w w'
set_option maxHeartbeats 2000000 in
set_option maxRecDepth 100000 in
theorem join_any (A : Option Addr) (n c : Nat) (xs : List Nat) (w : World) (hn : xs.length = n) (hnb : n ≤ 1000) (hnc : n ≤ c) (hx : ∀ x ∈ xs, x < 18446744073709551616)
    (hc : 0 < n → ∃ b off, A = some ⟨b, off, none⟩ ∧ b < w.heap.size ∧ ∀ i, i < n → w.cell? ⟨b, off + i, none⟩ = some (.int .u64 (xs[i]?.getD 0 : Nat))) :
    Calls Try.prog 23 #[.slice A n c] w (Str (encs xs) w) := by
  have HN := Lib.hid hn
  have HX := Lib.hid hx
  have HC := Lib.hid hc
  clear hn hx hc
  have hmf : ∀ (fn : Fn) (first cap : Array Value) (w : World), (Instr.makeFunc fn first cap).run Try.prog w = .ok (.func fn first cap) w := fun _ _ _ _ => rfl
  have B0 : Lib.IsBuilder 56 5 w.heap.size w.heap.size (Lib.byteCells []) (w.alloc (.cells #[.pointer none, .slice none 0 0] 56)) :=
    .inl ⟨Nat.le_refl _, _, heap_alloc_new w _, World.ownsRow_nil _ _ _ _, by simp [Value.ownBlock]⟩
  go_enter Try.func23, Try.ntmps23
  go_wp2_with fail
  go_loopw [10] (fun v wr => ∃ k : Nat, k ≤ n ∧ v = .int .i64 k ∧ Lib.IsBuilder 56 5 w.heap.size w.heap.size (Lib.byteCells (encs (xs.take k))) wr ∧ Kept w wr) (fun v _ => n - (intOf v).toNat)
  case atStart => exact ⟨0, Nat.zero_le _, rfl, B0, by repeat (first | exact Kept.refl _ | assumption | (refine Kept.alloc ?_ _) | (refine Kept.setCell ?_ (by first | omega | (simp; omega) | simp) _) | refine Kept.drew ?_ | refine Kept.drewN ?_ _ | (apply Kept.call; rotate_left; assumption))⟩
  case round =>
    clear B0
    obtain ⟨k, hk, rfl, hb, kr⟩ := hrel
    have hz := kr.size
    have HLL : Hid ((encs (xs.take k)).length ≤ 10000) := by
      unfold Hid
      have h1 := encs_len (xs.take k) (fun x hx => HX.out x (List.mem_of_mem_take hx))
      have h2 : (xs.take k).length ≤ k := List.length_take_le _ _
      omega
    by_cases hlt : k < n
    · obtain ⟨b, off, rfl, hbl, hc⟩ := HC.out (by omega)
      have ck := kr.at_ (hc k hlt)
      clear hc
      obtain ⟨y, hy⟩ : ∃ y, y = xs[k]?.getD 0 := ⟨_, rfl⟩
      rw [← hy] at ck
      have HY := Lib.hid hy
      clear hy
      go_wp2_with fail
      refine (each_any w.heap.size w.heap.size (encs (xs.take k)) y wr (by
        rw [HY.out, List.getElem?_eq_getElem (by rw [HN.out]; exact hlt)]
        exact HX.out _ (List.getElem_mem _)) hb (by have := HLL.out; omega) hz (.func 27) wr).mono ?_
      rintro e w4 ⟨rfl, h4, k4⟩
      have he : Hid (encs (xs.take k) ++ enc y = encs (xs.take (k + 1))) := by
        unfold Hid
        rw [List.take_add_one, List.getElem?_eq_getElem (by rw [HN.out]; exact hlt), Option.toList_some, encs_snoc, HY.out, List.getElem?_eq_getElem (by rw [HN.out]; exact hlt)]
        rfl
      rw [he.out] at h4
      have k5 : Kept w w4 := Below.trans kr k4
      go_wp2_with fail
      go_roundw
      case rel => first | exact ⟨k + 1, by omega, by go_num, h4, k5⟩ | ((repeat apply Exists.intro); exact ⟨⟨k + 1, by omega, by go_num, h4, k5⟩, rfl⟩)
      case measure => simp [intOf]; omega
    · obtain rfl : n = k := by omega
      rw [List.take_of_length_le (by rw [HN.out]; exact Nat.le_refl _)] at hb
      go_wp2_with fail
      refine (Try.Builder_String_any w.heap.size w.heap.size (encs xs) wr hb hz).mono ?_
      rintro e w4 ⟨rfl, k4⟩
      have k5 : Kept w w4 := Below.trans kr k4
      go_wp2_with fail
      go_ret
      exact ⟨rfl, k5⟩

/-- A number's bytes as a text. -/
def num (n : Nat) : ByteArray := ⟨(enc n).toArray⟩

/-- A text with how many bytes it has ahead. -/
def txt (s : ByteArray) : ByteArray := num s.size ++ s
end Go.Proofs.Ytfiocebipckaaaa
