/- Texts' runes in plain Lean: what the program's loop sees is what the document says of bytes. -/
import Derived.Test.YtahokiopapenbaaKit
import Derived.Laws.RangeAny
set_option linter.unusedSimpArgs false
set_option linter.unusedVariables false
namespace Go.Proofs.Ytahokiopapenbaa

def by_ (s : ByteArray) (i : Nat) : Nat := (s.get! i).toNat
theorem by_lt (s : ByteArray) (i : Nat) : by_ s i < 256 := (s.get! i).toNat_lt
theorem by_at {s : ByteArray} {i : Nat} (h : i < s.size) : (s[i]'h).toNat = by_ s i := by
  have := get_at s i h
  rw [Nat.add_zero] at this
  unfold by_
  rw [this]
/-- How many bytes a rune's first one tells of. -/
def lng (c : Nat) : Nat := if c < 128 then 1 else if 194 ≤ c ∧ c ≤ 223 then 2 else if 224 ≤ c ∧ c ≤ 239 then 3 else if 240 ≤ c ∧ c ≤ 244 then 4 else 0
def cont (s : ByteArray) (i : Nat) : Prop := 128 ≤ by_ s i ∧ by_ s i ≤ 191
/-- A rune begins at a place. -/
def okR (s : ByteArray) (p : Nat) : Prop := lng (by_ s p) ≠ 0 ∧ p + lng (by_ s p) ≤ s.size ∧ (∀ i, 1 ≤ i → i < lng (by_ s p) → cont s (p + i)) ∧
  ¬ (by_ s p = 224 ∧ by_ s (p + 1) < 160) ∧ ¬ (by_ s p = 237 ∧ 159 < by_ s (p + 1)) ∧ ¬ (by_ s p = 240 ∧ by_ s (p + 1) < 144) ∧ ¬ (by_ s p = 244 ∧ 143 < by_ s (p + 1))
/-- What the program asks of a rune. -/
def okV (s : ByteArray) (p : Nat) : Prop := (Utf8.decode s p).1 ≠ 65533 ∨ (by_ s p = 239 ∧ p + 3 ≤ s.size ∧ by_ s (p + 1) = 191 ∧ by_ s (p + 2) = 189)
theorem lng_le (c : Nat) : lng c ≤ 4 := by unfold lng; split <;> (try split) <;> (try split) <;> (try split) <;> omega
theorem valid_iff (n : Nat) : Utf8.valid ((n : Nat) : Int) = true ↔ (n < 55296 ∨ (57344 ≤ n ∧ n ≤ 1114111)) := by
  unfold Utf8.valid
  rw [Bool.or_eq_true, Bool.and_eq_true, Bool.and_eq_true, decide_eq_true_iff, decide_eq_true_iff, decide_eq_true_iff, decide_eq_true_iff]
  omega
theorem and_iff (a b : Bool) : (a && b) = true ↔ (a = true ∧ b = true) := by rw [Bool.and_eq_true]
theorem dec_iff (p : Prop) [Decidable p] : decide p = true ↔ p := decide_eq_true_iff
theorem beq_iff (a b : Nat) : (a == b) = true ↔ a = b := beq_iff_eq
set_option maxHeartbeats 4000000 in
theorem rune_same {s : ByteArray} {p : Nat} (h : p < s.size) : (okV s p ↔ okR s p) ∧ (okR s p → (Utf8.decode s p).2 = lng (by_ s p) ∧ ((by_ s p < 128 → (Utf8.decode s p).1 = by_ s p) ∧ (128 ≤ by_ s p → 128 ≤ (Utf8.decode s p).1))) := by
  have hd : Utf8.decode s p = (if by_ s p < 128 then (by_ s p, 1)
    else if (by_ s p / 32 == 6 && (decide (p + 1 < s.size) && by_ s (p + 1) / 64 == 2)) = true then
      (if (by_ s p % 32) * 64 + by_ s (p + 1) % 64 ≥ 128 then ((by_ s p % 32) * 64 + by_ s (p + 1) % 64, 2) else (65533, 1))
    else if (by_ s p / 16 == 14 && (decide (p + 1 < s.size) && by_ s (p + 1) / 64 == 2) && (decide (p + 2 < s.size) && by_ s (p + 2) / 64 == 2)) = true then
      (if ((decide ((by_ s p % 16) * 4096 + (by_ s (p + 1) % 64) * 64 + by_ s (p + 2) % 64 ≥ 2048)) && Utf8.valid (((by_ s p % 16) * 4096 + (by_ s (p + 1) % 64) * 64 + by_ s (p + 2) % 64 : Nat) : Int)) = true then ((by_ s p % 16) * 4096 + (by_ s (p + 1) % 64) * 64 + by_ s (p + 2) % 64, 3) else (65533, 1))
    else if (by_ s p / 8 == 30 && (decide (p + 1 < s.size) && by_ s (p + 1) / 64 == 2) && (decide (p + 2 < s.size) && by_ s (p + 2) / 64 == 2) && (decide (p + 3 < s.size) && by_ s (p + 3) / 64 == 2)) = true then
      (if ((decide ((by_ s p % 8) * 262144 + (by_ s (p + 1) % 64) * 4096 + (by_ s (p + 2) % 64) * 64 + by_ s (p + 3) % 64 ≥ 65536)) && Utf8.valid (((by_ s p % 8) * 262144 + (by_ s (p + 1) % 64) * 4096 + (by_ s (p + 2) % 64) * 64 + by_ s (p + 3) % 64 : Nat) : Int)) = true then ((by_ s p % 8) * 262144 + (by_ s (p + 1) % 64) * 4096 + (by_ s (p + 2) % 64) * 64 + by_ s (p + 3) % 64, 4) else (65533, 1))
    else (65533, 1)) := rfl
  have g0 := by_lt s p
  have g1 := by_lt s (p + 1)
  have g2 := by_lt s (p + 2)
  have g3 := by_lt s (p + 3)
  have hiff : (∀ i, 1 ≤ i → i < lng (by_ s p) → cont s (p + i)) ↔ ((2 ≤ lng (by_ s p) → cont s (p + 1)) ∧ (3 ≤ lng (by_ s p) → cont s (p + 2)) ∧ (4 ≤ lng (by_ s p) → cont s (p + 3))) := by
    have h4 := lng_le (by_ s p)
    constructor
    · exact fun hk => ⟨fun h => hk 1 (by omega) (by omega), fun h => hk 2 (by omega) (by omega), fun h => hk 3 (by omega) (by omega)⟩
    · rintro ⟨h1, h2, h3⟩ i hi1 hi2
      rcases i with _ | _ | _ | _ | i
      · omega
      · exact h1 (by omega)
      · exact h2 (by omega)
      · exact h3 (by omega)
      · omega
  unfold okV okR
  rw [hd, hiff]
  clear hd hiff
  unfold cont
  generalize by_ s p = c at *
  generalize by_ s (p + 1) = c1 at *
  generalize by_ s (p + 2) = c2 at *
  generalize by_ s (p + 3) = c3 at *
  generalize s.size = z at *
  have hl : (c < 128 ∧ lng c = 1) ∨ ((128 ≤ c ∧ c < 194) ∧ lng c = 0) ∨ ((194 ≤ c ∧ c ≤ 223) ∧ lng c = 2) ∨ ((224 ≤ c ∧ c ≤ 239) ∧ lng c = 3) ∨ ((240 ≤ c ∧ c ≤ 244) ∧ lng c = 4) ∨ (244 < c ∧ lng c = 0) := by
    unfold lng
    split
    · exact .inl ⟨by assumption, rfl⟩
    · split
      · exact .inr (.inr (.inl ⟨by omega, rfl⟩))
      · split
        · exact .inr (.inr (.inr (.inl ⟨by omega, rfl⟩)))
        · split
          · exact .inr (.inr (.inr (.inr (.inl ⟨by omega, rfl⟩))))
          · rcases Nat.lt_or_ge c 194 with h | h
            · exact .inr (.inl ⟨by omega, rfl⟩)
            · exact .inr (.inr (.inr (.inr (.inr ⟨by omega, rfl⟩))))
  rcases hl with ⟨h1, h2⟩ | ⟨h1, h2⟩ | ⟨h1, h2⟩ | ⟨h1, h2⟩ | ⟨h1, h2⟩ | ⟨h1, h2⟩
  · rw [h2, if_pos h1]
    dsimp only
    omega
  · rw [h2, if_neg (by omega)]
    simp only [and_iff, dec_iff, beq_iff, valid_iff]
    repeat' split
    all_goals (dsimp only; omega)
  · rw [h2, if_neg (by omega)]
    simp only [and_iff, dec_iff, beq_iff, valid_iff]
    repeat' split
    all_goals (dsimp only; omega)
  · rw [h2, if_neg (by omega)]
    simp only [and_iff, dec_iff, beq_iff, valid_iff]
    repeat' split
    all_goals (dsimp only; omega)
  · rw [h2, if_neg (by omega)]
    simp only [and_iff, dec_iff, beq_iff, valid_iff]
    repeat' split
    all_goals (dsimp only; omega)
  · rw [h2, if_neg (by omega)]
    simp only [and_iff, dec_iff, beq_iff, valid_iff]
    repeat' split
    all_goals (dsimp only; omega)
end Go.Proofs.Ytahokiopapenbaa
