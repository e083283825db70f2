/- Both ends and the document's ends: Answer and Take at any number, in one form each. -/
import Derived.Test.YtgcbadlajmbdhaaLinkOp
set_option linter.unusedSimpArgs false
set_option linter.unusedVariables false
namespace Go.Proofs.Ytgcbadlajmbdhaa
open Go.RowKit

/-- How many are answered: of n open ones from lo on, by the number q. -/
def ansN (lo n : Nat) (q : Int) : Nat := if ((lo + n : Nat) : Int) < q then 0 else if q ≤ (lo : Int) then 0 else (q - (lo : Int)).toNat
theorem ansN_le (lo n : Nat) (q : Int) : ansN lo n q ≤ n := by unfold ansN; split <;> (try split) <;> omega
def tkB (k : Nat) (q : Int) : Bool := decide (q = k)
def tkS (k : Nat) (q : Int) (d : ByteArray) : ByteArray := if q = k then d else ⟨#[]⟩
def tkN (k : Nat) (q : Int) : Nat := if q = k then k + 1 else k
theorem tkN_le (k : Nat) (q : Int) : tkN k q ≤ k + 1 := by unfold tkN; split <;> omega

section
variable {w0 w : World} {X : List Nat} {s r t u lo lo2 k k2 : Nat} {ds all : List ByteArray}
theorem Pl.sz (h : Pl w0 X w s r t u lo lo2 k k2 ds all) : ∀ x ∈ X, x < w.heap.size := by
  obtain ⟨G, H, h1, h2, h3, h4, h5, h6, h7, h8, h9, h10, hX⟩ := h
  exact fun x hx => (hX x hx).1
/-- A store into a block that is apart. -/
theorem Pl.butX {w2 : World} (x : Nat) (h : Pl w0 X w s r t u lo lo2 k k2 ds all) (hb : But [x] w w2) (hx : x ∈ X) : Pl w0 X w2 s r t u lo lo2 k k2 ds all := by
  obtain ⟨G, H, h1, h2, h3, h4, h5, h6, h7, h8, h9, h10, hX⟩ := h
  obtain ⟨b0, b1, b2, b3, b4, b5, b6⟩ := hX x hx
  exact ⟨G, H, h1.but hb (by simpa using Ne.symm b1) (fun g hg => by simp; rintro rfl; exact b5 (by simp [hg])), h2.but hb (by simpa using Ne.symm b3) (fun g hg => by simp; rintro rfl; exact b6 (by simp [hg])),
    h3.but hb (by simpa using Ne.symm b2), h4.but hb (by simpa using Ne.symm b4), h5, h6, h7, h8, h9, h10, fun y hy => ⟨Nat.lt_of_lt_of_le (hX y hy).1 hb.size, (hX y hy).2⟩⟩
theorem plAnswerQ (q : Int) (h : Pl w0 X w s r t u lo lo2 k k2 ds all) (hk : Kept w0 w) (hlo : lo + ds.length < 4294967296) :
    Calls Try.prog 16 #[.pointer (some ⟨s, 0, none⟩), .int .i64 q] w fun e w' => e = .returned (.int .i64 (ansN lo ds.length q : Int)) ∧ Pl w0 X w' s r t u (lo + ansN lo ds.length q) lo2 k k2 (ds.drop (ansN lo ds.length q)) all ∧ Kept w0 w' ∧ w.heap.size ≤ w'.heap.size ∧ ∀ x ∈ X, w'.heap[x]? = w.heap[x]? := by
  rcases Int.lt_or_le ((lo + ds.length : Nat) : Int) q with h1 | h1
  · have e : ansN lo ds.length q = 0 := by unfold ansN; rw [if_pos h1]
    refine (plAnswer_above q h h1).mono fun e' w' ⟨he, hk2⟩ => ⟨by rw [he, e]; rfl, by rw [e]; exact h.kept hk2, hk.call hk2, hk2.size, fun x hx => hk2.block x (h.sz x hx)⟩
  · rcases Int.lt_or_le (lo : Int) q with h2 | h2
    · have e : ansN lo ds.length q = (q - (lo : Int)).toNat := by unfold ansN; rw [if_neg (by omega), if_neg (by omega)]
      rw [e]
      exact plAnswer q _ _ h hk hlo (by omega) (by omega) (by omega) rfl
    · have e : ansN lo ds.length q = 0 := by unfold ansN; rw [if_neg (by omega), if_pos (by omega)]
      rw [e]
      exact plAnswer q 0 _ h hk hlo (by omega) (by omega) (by omega) rfl
theorem plRAnswerQ (q : Int) (n : Nat) (h : Pl w0 X w s r t u lo lo2 k k2 ds all) (hk : Kept w0 w) (hb : all.length < 4294967296) (hl : lo2 ≤ all.length) (hn : n = all.length - lo2) :
    Calls Try.prog 19 #[.pointer (some ⟨t, 0, none⟩), .int .i64 q] w fun e w' => e = .returned (.int .i64 (ansN lo2 n q : Int)) ∧ Pl w0 X w' s r t u lo (lo2 + ansN lo2 n q) k k2 ds all ∧ Kept w0 w' ∧ w.heap.size ≤ w'.heap.size ∧ ∀ x ∈ X, w'.heap[x]? = w.heap[x]? := by
  by_cases h1 : (all.length : Int) < q ∨ q ≤ (lo2 : Int)
  · have e : ansN lo2 n q = 0 := by
      unfold ansN
      rcases h1 with h1 | h1
      · rw [if_pos (by omega)]
      · split
        · rfl
        · rfl
    refine (plRAnswer_no q h hb h1).mono fun e' w' ⟨he, hk2⟩ => ⟨by rw [he, e]; rfl, by rw [e]; exact h.kept hk2, hk.call hk2, hk2.size, fun x hx => hk2.block x (h.sz x hx)⟩
  · have e : ansN lo2 n q = (q - (lo2 : Int)).toNat := by unfold ansN; rw [if_neg (by omega), if_neg (by omega)]
    have e2 : lo2 + (q - (lo2 : Int)).toNat = q.toNat := by omega
    rw [e, e2]
    exact plRAnswer q.toNat q _ h hk hb (by omega) (by omega) (by omega) (by omega)
theorem plTakeQ (q : Int) (d : ByteArray) (h : Pl w0 X w s r t u lo lo2 k k2 ds all) (hk : Kept w0 w) (hb : k < 4611686018427387904) :
    Calls Try.prog 12 #[.pointer (some ⟨r, 0, none⟩), .agg #[.int .i64 q, .string d]] w fun e w' => e = .returned (.tuple #[.string (tkS k q d), .bool (tkB k q)]) ∧ Pl w0 X w' s r t u lo lo2 (tkN k q) k2 ds all ∧ Kept w0 w' ∧ w.heap.size ≤ w'.heap.size ∧ ∀ x ∈ X, w'.heap[x]? = w.heap[x]? := by
  by_cases hq : q = k
  · rw [tkS, tkB, tkN, if_pos hq, if_pos hq, decide_eq_true hq]
    exact plTake_yes q d h hk hq hb
  · rw [tkS, tkB, tkN, if_neg hq, if_neg hq, decide_eq_false hq]
    exact (plTake_no q d h hq).mono fun e' w' ⟨he, hk2⟩ => ⟨he, h.kept hk2, hk.call hk2, hk2.size, fun x hx => hk2.block x (h.sz x hx)⟩
theorem plRTakeQ (q : Int) (d : ByteArray) (h : Pl w0 X w s r t u lo lo2 k k2 ds all) (hk : Kept w0 w) (hb : k2 < 4611686018427387904) :
    Calls Try.prog 20 #[.pointer (some ⟨u, 0, none⟩), .agg #[.int .i64 q, .string d]] w fun e w' => e = .returned (.tuple #[.string (tkS k2 q d), .bool (tkB k2 q)]) ∧ Pl w0 X w' s r t u lo lo2 k (tkN k2 q) ds all ∧ Kept w0 w' ∧ w.heap.size ≤ w'.heap.size ∧ ∀ x ∈ X, w'.heap[x]? = w.heap[x]? := by
  by_cases hq : q = k2
  · rw [tkS, tkB, tkN, if_pos hq, if_pos hq, decide_eq_true hq]
    exact plRTake_yes q d h hk hq hb
  · rw [tkS, tkB, tkN, if_neg hq, if_neg hq, decide_eq_false hq]
    exact (plRTake_no q d h hq).mono fun e' w' ⟨he, hk2⟩ => ⟨he, h.kept hk2, hk.call hk2, hk2.size, fun x hx => hk2.block x (h.sz x hx)⟩
end
end Go.Proofs.Ytgcbadlajmbdhaa
