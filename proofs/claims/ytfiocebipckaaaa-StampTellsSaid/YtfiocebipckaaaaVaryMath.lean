/- Plain facts on numbers' bytes: seven bits a byte, the last byte below 128. No program. -/
namespace Go.Proofs.Ytfiocebipckaaaa

/-- A number's bytes. -/
def enc (n : Nat) : List UInt8 := if n < 128 then [UInt8.ofNat n] else UInt8.ofNat (128 + n % 128) :: enc (n / 128)
termination_by n
decreasing_by omega
theorem enc_lo {n : Nat} (h : n < 128) : enc n = [UInt8.ofNat n] := by rw [enc, if_pos h]
theorem enc_hi {n : Nat} (h : 128 ≤ n) : enc n = UInt8.ofNat (128 + n % 128) :: enc (n / 128) := by rw [enc, if_neg (by omega)]
theorem enc_ne (n : Nat) : enc n ≠ [] := by rw [enc]; split <;> simp
theorem enc_pos (n : Nat) : 0 < (enc n).length := by
  have := enc_ne n
  cases h : enc n with
  | nil => exact absurd h this
  | cons a l => simp

theorem u8_nat (n : Nat) (h : n < 256) : (UInt8.ofNat n).toNat = n := by simp [UInt8.toNat_ofNat']; omega

theorem enc_at_lo (m : Nat) (c : UInt8) (r : List UInt8) (hc : c.toNat < 128) : enc m <+: c :: r ↔ m = c.toNat := by
  constructor
  · intro h
    rcases Nat.lt_or_ge m 128 with hm | hm
    · rw [enc_lo hm, List.cons_prefix_cons] at h
      rw [← h.1, u8_nat m (by omega)]
    · rw [enc_hi hm, List.cons_prefix_cons] at h
      have := h.1
      have h2 : c.toNat = 128 + m % 128 := by rw [← this, u8_nat _ (by omega)]
      omega
  · rintro rfl
    rw [enc_lo hc]
    simp
theorem enc_at_hi (m : Nat) (c : UInt8) (r : List UInt8) (hc : 128 ≤ c.toNat) : enc m <+: c :: r ↔ ∃ k, m = (c.toNat - 128) + 128 * k ∧ 0 < k ∧ enc k <+: r := by
  have hc2 : c.toNat < 256 := c.toNat_lt
  constructor
  · intro h
    rcases Nat.lt_or_ge m 128 with hm | hm
    · rw [enc_lo hm, List.cons_prefix_cons] at h
      have h2 : c.toNat = m := by rw [← h.1, u8_nat m (by omega)]
      omega
    · rw [enc_hi hm, List.cons_prefix_cons] at h
      have h2 : c.toNat = 128 + m % 128 := by rw [← h.1, u8_nat _ (by omega)]
      exact ⟨m / 128, by omega, by omega, h.2⟩
  · rintro ⟨k, rfl, hk, h⟩
    rw [enc_hi (by omega), List.cons_prefix_cons]
    refine ⟨?_, ?_⟩
    · apply UInt8.toNat_inj.1
      rw [u8_nat _ (by omega)]; omega
    · rw [show (c.toNat - 128 + 128 * k) / 128 = k by omega]; exact h
theorem enc_at_nil (m : Nat) : ¬ enc m <+: [] := by
  intro h
  exact enc_ne m (List.prefix_nil.1 h)

/-- What is known when j bytes, none of them a last one, were read: their number is n. -/
def Half (L : List UInt8) (j n : Nat) : Prop := n < 128 ^ j ∧ ∀ m, enc m <+: L ↔ ∃ k, m = n + 128 ^ j * k ∧ (0 < j → 0 < k) ∧ enc k <+: L.drop j
theorem Half.zero (L : List UInt8) : Half L 0 0 := ⟨by simp, fun m => by simp⟩
theorem drop_cons {L : List UInt8} {j : Nat} {c : UInt8} (h : L[j]? = some c) : L.drop j = c :: L.drop (j + 1) := by
  obtain ⟨hl, he⟩ := List.getElem?_eq_some_iff.1 h
  rw [List.drop_eq_getElem_cons hl, he]
theorem Half.next {L : List UInt8} {j n : Nat} (h : Half L j n) {c : UInt8} (hc : L[j]? = some c) (h1 : 128 ≤ c.toNat) : Half L (j + 1) (n + (c.toNat - 128) * 128 ^ j) := by
  have hc2 : c.toNat < 256 := c.toNat_lt
  refine ⟨?_, fun m => ?_⟩
  · have h0 := h.1
    have : (c.toNat - 128) * 128 ^ j ≤ 127 * 128 ^ j := Nat.mul_le_mul_right _ (by omega)
    rw [Nat.pow_succ]; omega
  · rw [h.2, drop_cons hc]
    constructor
    · rintro ⟨k, rfl, _, hk⟩
      obtain ⟨k2, rfl, h3, h4⟩ := (enc_at_hi k c _ h1).1 hk
      refine ⟨k2, ?_, fun _ => h3, h4⟩
      rw [Nat.pow_succ, Nat.mul_add, Nat.mul_comm (128 ^ j) (c.toNat - 128), Nat.mul_assoc]; omega
    · rintro ⟨k2, rfl, h3, h4⟩
      refine ⟨(c.toNat - 128) + 128 * k2, ?_, fun _ => by have := h3 (by omega); omega, (enc_at_hi _ c _ h1).2 ⟨k2, rfl, h3 (by omega), h4⟩⟩
      rw [Nat.pow_succ, Nat.mul_add, Nat.mul_comm (128 ^ j) (c.toNat - 128), Nat.mul_assoc]; omega
theorem Half.done {L : List UInt8} {j n : Nat} (h : Half L j n) {c : UInt8} (hc : L[j]? = some c) (h1 : c.toNat < 128) (h2 : 0 < j → 0 < c.toNat) (m : Nat) : enc m <+: L ↔ m = n + c.toNat * 128 ^ j := by
  rw [h.2, drop_cons hc]
  constructor
  · rintro ⟨k, rfl, _, hk⟩
    rw [(enc_at_lo k c _ h1).1 hk, Nat.mul_comm]
  · rintro rfl
    exact ⟨c.toNat, by rw [Nat.mul_comm], h2, (enc_at_lo _ c _ h1).2 rfl⟩
theorem Half.bad {L : List UInt8} {j n : Nat} (h : Half L j n) {c : UInt8} (hc : L[j]? = some c) (h1 : c.toNat = 0) (h2 : 0 < j) (m : Nat) : ¬ enc m <+: L := by
  rw [h.2, drop_cons hc]
  rintro ⟨k, rfl, h3, hk⟩
  have := (enc_at_lo k c _ (by omega)).1 hk
  have := h3 h2
  omega
theorem Half.over {L : List UInt8} {j n : Nat} (h : Half L j n) (h2 : L.length ≤ j) (m : Nat) : ¬ enc m <+: L := by
  rw [h.2, List.drop_eq_nil_of_le h2]
  rintro ⟨k, _, _, hk⟩
  exact enc_at_nil k hk
/-- A byte too great at its place: no number below a bound has it. -/
theorem Half.big {L : List UInt8} {j n : Nat} (h : Half L j n) {c : UInt8} (hc : L[j]? = some c) (B : Nat) (h1 : B ≤ (c.toNat % 128) * 128 ^ j) (m : Nat) (hm : m < B) : ¬ enc m <+: L := by
  have hc2 : c.toNat < 256 := c.toNat_lt
  rw [h.2, drop_cons hc]
  rintro ⟨k, rfl, h3, hk⟩
  have hk2 : c.toNat % 128 ≤ k := by
    rcases Nat.lt_or_ge c.toNat 128 with hlt | hge
    · have := (enc_at_lo k c _ hlt).1 hk; omega
    · obtain ⟨k2, rfl, _, _⟩ := (enc_at_hi k c _ hge).1 hk; omega
  have := Nat.mul_le_mul_left (128 ^ j) hk2
  rw [Nat.mul_comm (128 ^ j) (c.toNat % 128)] at this
  omega
theorem Half.long {L : List UInt8} {n : Nat} (h : Half L 10 n) (m : Nat) (hm : m < 18446744073709551616) : ¬ enc m <+: L := by
  rw [h.2]
  rintro ⟨k, rfl, h3, hk⟩
  have := h3 (by omega)
  have : 128 ^ 10 * 1 ≤ 128 ^ 10 * k := Nat.mul_le_mul_left _ (by omega)
  omega

/-- No number's bytes begin with another's. -/
theorem enc_prefix (m n : Nat) (L : List UInt8) (h1 : enc m <+: L) (h2 : enc n <+: L) : m = n := by
  induction m using Nat.strongRecOn generalizing n L with
  | _ m ih =>
    cases L with
    | nil => exact absurd h1 (enc_at_nil m)
    | cons c r =>
      rcases Nat.lt_or_ge c.toNat 128 with hc | hc
      · rw [(enc_at_lo m c r hc).1 h1, (enc_at_lo n c r hc).1 h2]
      · obtain ⟨k, hk, k0, k1⟩ := (enc_at_hi m c r hc).1 h1
        obtain ⟨l, hl, l0, l1⟩ := (enc_at_hi n c r hc).1 h2
        have := ih k (by omega) l r k1 l1
        omega
/-- How many bytes. -/
theorem enc_len (n : Nat) : ∀ j, (enc n).length ≤ j + 1 ↔ n < 128 ^ (j + 1) := by
  induction n using Nat.strongRecOn with
  | _ n ih =>
    intro j
    rcases Nat.lt_or_ge n 128 with h | h
    · rw [enc_lo h]
      have : 128 ^ 1 ≤ 128 ^ (j + 1) := Nat.pow_le_pow_right (by omega) (by omega)
      simp only [List.length_cons, List.length_nil]
      omega
    · rw [enc_hi h]
      simp only [List.length_cons]
      cases j with
      | zero => have := enc_pos (n / 128); omega
      | succ j =>
        rw [Nat.add_le_add_iff_right, ih (n / 128) (by omega) j, Nat.pow_succ 128 (j + 1), Nat.div_lt_iff_lt_mul (by omega)]
theorem Half.len {L : List UInt8} {j n : Nat} (h : Half L j n) (c m : Nat) (h1 : c < 128) (h2 : 0 < j → 0 < c) (hm : n + c * 128 ^ j = m) : (enc m).length = j + 1 := by
  have h0 := h.1
  have h3 : c * 128 ^ j ≤ 127 * 128 ^ j := Nat.mul_le_mul_right _ (by omega)
  have h4 : (enc m).length ≤ j + 1 := (enc_len m j).2 (by rw [Nat.pow_succ]; omega)
  rcases j with _ | j
  · have := enc_pos m; omega
  · have h5 : ¬ (enc m).length ≤ j + 1 := by
      rw [enc_len]
      have : 1 * 128 ^ (j + 1) ≤ c * 128 ^ (j + 1) := Nat.mul_le_mul_right _ (h2 (by omega))
      omega
    omega
theorem enc_le (n j : Nat) (h : n < 128 ^ (j + 1)) : (enc n).length ≤ j + 1 := (enc_len n j).2 h
theorem enc_ten (n : Nat) (h : n < 18446744073709551616) : (enc n).length ≤ 10 := enc_le n 9 (by omega)
theorem enc_mono (m n : Nat) (h : m ≤ n) : (enc m).length ≤ (enc n).length := by
  have h1 := enc_pos n
  obtain ⟨j, hj⟩ : ∃ j, (enc n).length = j + 1 := ⟨(enc n).length - 1, by omega⟩
  rw [hj, enc_len]
  have := (enc_len n j).1 (by omega)
  omega
/-- With its last byte gone it is none. -/
theorem enc_cut (m n : Nat) (h : enc m <+: (enc n).take ((enc n).length - 1)) : False := by
  have h1 : enc m <+: enc n := h.trans (List.take_prefix _ _)
  have := enc_prefix m n (enc n) h1 (List.prefix_refl _)
  subst this
  have h2 := h.length_le
  have := enc_pos m
  rw [List.length_take] at h2
  omega
end Go.Proofs.Ytfiocebipckaaaa
