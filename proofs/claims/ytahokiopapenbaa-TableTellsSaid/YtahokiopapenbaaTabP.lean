/- The program's Many at any mask. -/
import Derived.Test.YtahokiopapenbaaTabV
import Derived.Laws.Bits64b
set_option linter.unusedSimpArgs false
set_option linter.unusedVariables false
namespace Go.Proofs.Ytahokiopapenbaa
open Go.RowKit

/-- How many bits are 1, of so many. -/
def bct : Nat → Nat → Nat
  | 0, _ => 0
  | n + 1, x => x % 2 + bct n (x / 2)
theorem bct_succ (n x : Nat) : bct (n + 1) x = x % 2 + bct n (x / 2) := rfl
theorem bct_add (n : Nat) : ∀ (k x : Nat), bct (k + n) x = bct k x + bct n (x / 2 ^ k)
  | 0, x => by simp [bct]
  | k + 1, x => by
    rw [show k + 1 + n = (k + n) + 1 by omega, bct_succ, bct_succ, bct_add n k (x / 2), Nat.div_div_eq_div_mul, Nat.pow_succ, Nat.mul_comm 2, Nat.add_assoc]
theorem bct_zero : ∀ n, bct n 0 = 0
  | 0 => rfl
  | n + 1 => by rw [bct_succ, bct_zero n]
theorem bct_snoc (k x : Nat) : bct (k + 1) x = bct k x + x / 2 ^ k % 2 := by rw [bct_add 1 k x]; rfl
theorem bct_le : ∀ n x, bct n x ≤ n
  | 0, _ => Nat.le_refl _
  | n + 1, x => by rw [bct_succ]; have := bct_le n (x / 2); omega
def valB : List Nat → Nat
  | [] => 0
  | b :: t => b + 256 * valB t
def repB (k : Nat) : Nat → Nat
  | 0 => 0
  | n + 1 => k + 256 * repB k n
theorem and_split (A C m k : Nat) (hc : C < 256) (hk : k < 256) : (C + 256 * A) &&& (k + 256 * m) = (C &&& k) + 256 * (A &&& m) := by
  have h1 := Nat.and_div_two_pow (a := C + 256 * A) (b := k + 256 * m) (n := 8)
  have h2 := Nat.and_mod_two_pow (a := C + 256 * A) (b := k + 256 * m) (n := 8)
  rw [show (2 : Nat) ^ 8 = 256 from rfl, show (C + 256 * A) / 256 = A by omega, show (k + 256 * m) / 256 = m by omega] at h1
  rw [show (2 : Nat) ^ 8 = 256 from rfl, show (C + 256 * A) % 256 = C by omega, show (k + 256 * m) % 256 = k by omega] at h2
  generalize (C + 256 * A) &&& (k + 256 * m) = z at *
  generalize A &&& m = u at *
  generalize C &&& k = v at *
  omega
theorem dd1 : ∀ r : Fin 2, ∀ b : Fin 256, ((b : Nat) / 2 + 128 * (r : Nat)) &&& 85 = (b : Nat) / 2 &&& 85 := of_decide_eq_true (by kernel_rfl)
theorem dd2 : ∀ r : Fin 4, ∀ b : Fin 256, ((b : Nat) / 4 + 64 * (r : Nat)) &&& 51 = (b : Nat) / 4 &&& 51 := of_decide_eq_true (by kernel_rfl)
theorem dd3 : ∀ r : Fin 5, ∀ b : Fin 256, ((b : Nat) / 16 + b + 16 * (r : Nat)) &&& 15 = ((b : Nat) / 16 + b) &&& 15 := of_decide_eq_true (by kernel_rfl)
theorem stp0 (k : Nat) (hk : k < 256) : ∀ bs : List Nat, (∀ b ∈ bs, b < 256) → (valB bs &&& repB k bs.length) = valB (bs.map fun b => b &&& k)
  | [], _ => by
    show 0 &&& repB k 0 = 0
    exact Nat.zero_and _
  | b :: t, h => by
    have hb := h b (List.mem_cons_self ..)
    have ih := stp0 k hk t (fun x hx => h x (List.mem_cons_of_mem _ hx))
    show (b + 256 * valB t) &&& (k + 256 * repB k t.length) = (b &&& k) + 256 * valB (t.map fun b => b &&& k)
    rw [and_split _ _ _ _ hb hk, ih]
theorem stp1 : ∀ bs : List Nat, (∀ b ∈ bs, b < 256) → (valB bs / 2 &&& repB 85 bs.length) = valB (bs.map fun b => b / 2 &&& 85)
  | [], _ => rfl
  | b :: t, h => by
    have hb := h b (List.mem_cons_self ..)
    have ih := stp1 t (fun x hx => h x (List.mem_cons_of_mem _ hx))
    have hd : (b / 2 + 128 * (valB t % 2)) &&& 85 = b / 2 &&& 85 := dd1 ⟨valB t % 2, by omega⟩ ⟨b, hb⟩
    show (b + 256 * valB t) / 2 &&& (85 + 256 * repB 85 t.length) = (b / 2 &&& 85) + 256 * valB (t.map fun b => b / 2 &&& 85)
    rw [show (b + 256 * valB t) / 2 = (b / 2 + 128 * (valB t % 2)) + 256 * (valB t / 2) by omega, and_split _ _ _ _ (by omega) (by omega), ih, hd]
theorem stp2 : ∀ bs : List Nat, (∀ b ∈ bs, b < 256) → (valB bs / 4 &&& repB 51 bs.length) = valB (bs.map fun b => b / 4 &&& 51)
  | [], _ => rfl
  | b :: t, h => by
    have hb := h b (List.mem_cons_self ..)
    have ih := stp2 t (fun x hx => h x (List.mem_cons_of_mem _ hx))
    have hd : (b / 4 + 64 * (valB t % 4)) &&& 51 = b / 4 &&& 51 := dd2 ⟨valB t % 4, by omega⟩ ⟨b, hb⟩
    show (b + 256 * valB t) / 4 &&& (51 + 256 * repB 51 t.length) = (b / 4 &&& 51) + 256 * valB (t.map fun b => b / 4 &&& 51)
    rw [show (b + 256 * valB t) / 4 = (b / 4 + 64 * (valB t % 4)) + 256 * (valB t / 4) by omega, and_split _ _ _ _ (by omega) (by omega), ih, hd]
def Nib (b : Nat) : Prop := b < 256 ∧ b % 16 ≤ 4 ∧ b / 16 ≤ 4
theorem stp3 : ∀ bs : List Nat, (∀ b ∈ bs, Nib b) → valB bs % 16 ≤ 4 ∧ ((valB bs / 16 + valB bs) &&& repB 15 bs.length) = valB (bs.map fun b => (b / 16 + b) &&& 15)
  | [], _ => ⟨by decide, rfl⟩
  | b :: t, h => by
    obtain ⟨hb, hb1, hb2⟩ := h b (List.mem_cons_self ..)
    obtain ⟨i1, ih⟩ := stp3 t (fun x hx => h x (List.mem_cons_of_mem _ hx))
    have hd : (b / 16 + b + 16 * (valB t % 16)) &&& 15 = (b / 16 + b) &&& 15 := dd3 ⟨valB t % 16, by omega⟩ ⟨b, hb⟩
    refine ⟨?_, ?_⟩
    · show (b + 256 * valB t) % 16 ≤ 4
      omega
    show ((b + 256 * valB t) / 16 + (b + 256 * valB t)) &&& (15 + 256 * repB 15 t.length) = ((b / 16 + b) &&& 15) + 256 * valB (t.map fun b => (b / 16 + b) &&& 15)
    rw [show (b + 256 * valB t) / 16 + (b + 256 * valB t) = (b / 16 + b + 16 * (valB t % 16)) + 256 * (valB t / 16 + valB t) by omega, and_split _ _ _ _ (by omega) (by omega), ih, hd]
theorem valB_add (f g : Nat → Nat) : ∀ bs : List Nat, valB (bs.map f) + valB (bs.map g) = valB (bs.map fun b => f b + g b)
  | [] => rfl
  | b :: t => by
    have := valB_add f g t
    show (f b + 256 * valB (t.map f)) + (g b + 256 * valB (t.map g)) = (f b + g b) + 256 * valB (t.map fun b => f b + g b)
    omega
def sw1 (b : Nat) : Nat := (b / 2 &&& 85) + (b &&& 85)
def sw2 (b : Nat) : Nat := (b / 4 &&& 51) + (b &&& 51)
def sw3 (b : Nat) : Nat := (b / 16 + b) &&& 15
theorem dall : ∀ b : Fin 256, sw1 b < 256 ∧ (sw2 (sw1 b) < 256 ∧ sw2 (sw1 b) % 16 ≤ 4 ∧ sw2 (sw1 b) / 16 ≤ 4) ∧ sw3 (sw2 (sw1 b)) = bct 8 b := of_decide_eq_true (by kernel_rfl)
def digs : Nat → Nat → List Nat
  | 0, _ => []
  | n + 1, x => x % 256 :: digs n (x / 256)
theorem digs_len : ∀ n x, (digs n x).length = n
  | 0, _ => rfl
  | n + 1, x => by unfold digs; rw [List.length_cons, digs_len n]
theorem digs_lt : ∀ n x, ∀ b ∈ digs n x, b < 256
  | 0, _, b, h => by cases h
  | n + 1, x, b, h => by
    unfold digs at h
    rcases List.mem_cons.1 h with rfl | h
    · omega
    · exact digs_lt n _ b h
theorem valB_digs : ∀ n x, x < 256 ^ n → valB (digs n x) = x
  | 0, x, h => by simp at h; subst h; rfl
  | n + 1, x, h => by
    unfold digs
    show x % 256 + 256 * valB (digs n (x / 256)) = x
    rw [valB_digs n (x / 256) (by rw [Nat.pow_succ] at h; omega)]
    omega
theorem bct8 (x : Nat) : bct 8 (x % 256) = bct 8 x := by
  simp only [bct]
  omega
theorem bct_digs : ∀ n x, bct (8 * n) x = ((digs n x).map (bct 8)).sum
  | 0, _ => rfl
  | n + 1, x => by
    rw [show 8 * (n + 1) = 8 + 8 * n by omega, bct_add]
    unfold digs
    rw [List.map_cons, List.sum_cons, bct8, ← bct_digs n, show (2 : Nat) ^ 8 = 256 from rfl]
def A1 (x : Nat) : Nat := (x / 2 &&& 6148914691236517205) + (x &&& 6148914691236517205)
def A2 (x : Nat) : Nat := (x / 4 &&& 3689348814741910323) + (x &&& 3689348814741910323)
def A3 (x : Nat) : Nat := (x / 16 + x) &&& 1085102592571150095
theorem A1_val (bs : List Nat) (hl : bs.length = 8) (h : ∀ b ∈ bs, b < 256) : A1 (valB bs) = valB (bs.map sw1) := by
  unfold A1
  rw [show 6148914691236517205 = repB 85 bs.length by rw [hl]; decide, stp1 bs h, stp0 85 (by omega) bs h, valB_add]
  rfl
theorem A2_val (bs : List Nat) (hl : bs.length = 8) (h : ∀ b ∈ bs, b < 256) : A2 (valB bs) = valB (bs.map sw2) := by
  unfold A2
  rw [show 3689348814741910323 = repB 51 bs.length by rw [hl]; decide, stp2 bs h, stp0 51 (by omega) bs h, valB_add]
  rfl
theorem A3_val (bs : List Nat) (hl : bs.length = 8) (h : ∀ b ∈ bs, Nib b) : A3 (valB bs) = valB (bs.map sw3) := by
  unfold A3
  rw [show 1085102592571150095 = repB 15 bs.length by rw [hl]; decide, (stp3 bs h).2]
  rfl
theorem A_all (x : Nat) (h : x < 18446744073709551616) : A3 (A2 (A1 x)) = valB ((digs 8 x).map (bct 8)) := by
  have hx : x < 256 ^ 8 := h
  have hv := valB_digs 8 x hx
  have hl := digs_len 8 x
  have hd := digs_lt 8 x
  generalize digs 8 x = bs at *
  rw [← hv, A1_val bs hl hd, A2_val _ (by rw [List.length_map, hl]) (fun b hb => ?_), A3_val _ (by rw [List.length_map, List.length_map, hl]) (fun b hb => ?_)]
  · congr 1
    rw [List.map_map, List.map_map]
    exact List.map_congr_left fun b hb => (dall ⟨b, hd b hb⟩).2.2
  · obtain ⟨c, hc, rfl⟩ := List.mem_map.1 hb
    obtain ⟨a, ha, rfl⟩ := List.mem_map.1 hc
    exact (dall ⟨a, hd a ha⟩).2.1
  · obtain ⟨c, hc, rfl⟩ := List.mem_map.1 hb
    exact (dall ⟨c, hd c hc⟩).1
theorem divK {y L H K : Nat} (h : y = L + K * H) (hL : L < K) : y / K = H := by
  rw [h, Nat.add_mul_div_left _ _ (by omega), Nat.div_eq_of_lt hL, Nat.zero_add]
theorem fin8 (q0 q1 q2 q3 q4 q5 q6 q7 y : Nat) (h0 : q0 ≤ 8) (h1 : q1 ≤ 8) (h2 : q2 ≤ 8) (h3 : q3 ≤ 8) (h4 : q4 ≤ 8) (h5 : q5 ≤ 8) (h6 : q6 ≤ 8) (h7 : q7 ≤ 8) (hy : y = q0 + 256 * q1 + 65536 * q2 + 16777216 * q3 + 4294967296 * q4 + 1099511627776 * q5 + 281474976710656 * q6 + 72057594037927936 * q7) :
    ∃ y1 y2 y3, y1 = y + y / 256 ∧ y2 = y1 + y1 / 65536 ∧ y3 = y2 + y2 / 4294967296 ∧ y3 < 9223372036854775808 ∧ y2 < 9223372036854775808 ∧ y1 < 9223372036854775808 ∧ y < 9223372036854775808 ∧ y3 % 128 = q0 + q1 + q2 + q3 + q4 + q5 + q6 + q7 := by
  have b0 : y < 9223372036854775808 := by omega
  have e1 : y / 256 = q1 + 256 * q2 + 65536 * q3 + 16777216 * q4 + 4294967296 * q5 + 1099511627776 * q6 + 281474976710656 * q7 := divK (L := q0) (by omega) (by omega)
  obtain ⟨y1, hy1⟩ : ∃ y1, y + y / 256 = y1 := ⟨_, rfl⟩
  have f1 : y1 = (q0 + q1) + 256 * (q1 + q2) + 65536 * (q2 + q3) + 16777216 * (q3 + q4) + 4294967296 * (q4 + q5) + 1099511627776 * (q5 + q6) + 281474976710656 * (q6 + q7) + 72057594037927936 * q7 := by rw [e1] at hy1; clear e1; omega
  have b1 : y1 < 9223372036854775808 := by clear e1 hy1 hy; omega
  have e2 : y1 / 65536 = (q2 + q3) + 256 * (q3 + q4) + 65536 * (q4 + q5) + 16777216 * (q5 + q6) + 4294967296 * (q6 + q7) + 1099511627776 * q7 := by
    clear e1 hy1 hy
    exact divK (L := (q0 + q1) + 256 * (q1 + q2)) (by omega) (by clear f1; omega)
  obtain ⟨y2, hy2⟩ : ∃ y2, y1 + y1 / 65536 = y2 := ⟨_, rfl⟩
  have f2 : y2 = (q0 + q1 + q2 + q3) + 256 * (q1 + q2 + q3 + q4) + 65536 * (q2 + q3 + q4 + q5) + 16777216 * (q3 + q4 + q5 + q6) + 4294967296 * (q4 + q5 + q6 + q7) + 1099511627776 * (q5 + q6 + q7) + 281474976710656 * (q6 + q7) + 72057594037927936 * q7 := by rw [e2] at hy2; clear e1 hy1 hy e2; omega
  have b2 : y2 < 4611686018427387904 := by clear e1 hy1 hy e2 f1 hy2; omega
  have e3 : y2 / 4294967296 = (q4 + q5 + q6 + q7) + 256 * (q5 + q6 + q7) + 65536 * (q6 + q7) + 16777216 * q7 := by
    clear e1 hy1 hy e2 f1 hy2
    exact divK (L := (q0 + q1 + q2 + q3) + 256 * (q1 + q2 + q3 + q4) + 65536 * (q2 + q3 + q4 + q5) + 16777216 * (q3 + q4 + q5 + q6)) (by omega) (by clear f2; omega)
  have f3 : y2 + y2 / 4294967296 = (q0 + q1 + q2 + q3 + q4 + q5 + q6 + q7) + 128 * (2 * (q1 + q2 + q3 + q4 + q5 + q6 + q7) + 512 * (q2 + q3 + q4 + q5 + q6 + q7) + 131072 * (q3 + q4 + q5 + q6 + q7) + 33554432 * (q4 + q5 + q6 + q7) + 8589934592 * (q5 + q6 + q7) + 2199023255552 * (q6 + q7) + 562949953421312 * q7) := by rw [e3]; clear e1 hy1 hy e2 f1 hy2 e3; omega
  have b3 : y2 + y2 / 4294967296 < 9223372036854775808 := by
    clear e1 hy1 hy e2 f1 hy2 e3 f2
    rw [f3]
    clear f3
    omega
  refine ⟨y1, y2, _, hy1.symm, hy2.symm, rfl, b3, by clear e1 hy1 hy e2 f1 hy2 e3 f2 f3 b3; omega, b1, b0, ?_⟩
  rw [f3, Nat.add_mul_mod_self_left]
  exact Nat.mod_eq_of_lt (by clear e1 hy1 hy e2 f1 hy2 e3 f2 f3 b3 b2 b1 b0; omega)
end Go.Proofs.Ytahokiopapenbaa
