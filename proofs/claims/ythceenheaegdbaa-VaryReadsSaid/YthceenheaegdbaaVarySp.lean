/- The walks of vary's Split and of the law's same. -/
import Derived.Test.YthceenheaegdbaaVaryTexts
import Derived.Deep.Upon
set_option linter.unusedSimpArgs false
set_option linter.unusedVariables false
namespace Go.Proofs.Ythceenheaegdbaa
open Go.RowKit

theorem encs_nil : encs [] = [] := rfl
theorem encs_cons (a : Nat) (l : List Nat) : encs (a :: l) = enc a ++ encs l := rfl
theorem encs_app (l m : List Nat) : encs (l ++ m) = encs l ++ encs m := by simp [encs]
theorem encs_split (ns : List Nat) : ∀ (ms : List Nat) (R : List UInt8), encs ms = encs ns ++ R → ∃ ms', ms = ns ++ ms' ∧ R = encs ms' := by
  induction ns with
  | nil => intro ms R h; exact ⟨ms, rfl, by rw [h]; rfl⟩
  | cons a l ih =>
    intro ms R h
    rw [encs_cons, List.append_assoc] at h
    cases ms with
    | nil =>
      rw [encs_nil] at h
      have := congrArg List.length h
      have h2 := enc_pos a
      rw [List.length_append, List.length_nil] at this
      omega
    | cons b ms =>
      rw [encs_cons] at h
      have e : b = a := enc_prefix b a (enc b ++ encs ms) (List.prefix_append _ _) (by rw [h]; exact List.prefix_append _ _)
      subst e
      obtain ⟨ms', h1, h2⟩ := ih ms R (List.append_cancel_left h)
      exact ⟨ms', by rw [h1]; rfl, h2⟩
theorem encs_inj {ns ms : List Nat} (h : encs ms = encs ns) : ms = ns := by
  obtain ⟨r, h1, h2⟩ := encs_split ns ms [] (by rw [h]; simp)
  cases r with
  | nil => simpa using h1
  | cons a r =>
    rw [encs_cons] at h2
    have := congrArg List.length h2
    have h3 := enc_pos a
    rw [List.length_append, List.length_nil] at this
    omega

/-- Numbers below two to the 64. -/
def Small (l : List Nat) : Prop := ∀ n ∈ l, n < 18446744073709551616
/-- A row of such numbers. -/
def R64 (w : World) (A : Option Addr) (n c : Nat) (xs : List Nat) : Prop :=
  xs.length = n ∧ n ≤ c ∧ c ≤ maxLen ∧ (0 < n → ∃ b off, A = some ⟨b, off, none⟩ ∧ b < w.heap.size ∧ ∀ i, i < n → w.cell? ⟨b, off + i, none⟩ = some (.int .u64 (xs[i]?.getD 0 : Nat)))
theorem R64.kept {w w2 : World} {A : Option Addr} {n c : Nat} {xs : List Nat} (h : R64 w A n c xs) (hk : Kept w w2) : R64 w2 A n c xs :=
  ⟨h.1, h.2.1, h.2.2.1, fun h0 => by obtain ⟨b, off, h1, h2, h3⟩ := h.2.2.2 h0; exact ⟨b, off, h1, Nat.lt_of_lt_of_le h2 hk.size, fun i hi => hk.at_ (h3 i hi)⟩⟩

def u64s (l : List Nat) : List Value := l.map fun n => .int .u64 (n : Nat)
theorem u64s_snoc (l : List Nat) (n : Nat) : u64s l ++ [.int .u64 (n : Nat)] = u64s (l ++ [n]) := by simp [u64s]
theorem u64s_len (l : List Nat) : (u64s l).length = l.length := by simp [u64s]
theorem R64.of_own {w : World} {base e : Nat} {v : Value} {n : Nat} {xs : List Nat} (h : w.ownsRow base e 1 v n (u64s xs)) : ∃ A c, v = .slice A n c ∧ R64 w A n c xs := by
  have hl : xs.length = n := by have := h.1; rw [u64s_len] at this; omega
  rcases h.2 with ⟨rfl, h0⟩ | ⟨g, cap, cur, rfl, hb, hg, h1, h2, h3, h4⟩
  · exact ⟨none, 0, by rw [h0], hl, by omega, by unfold maxLen; omega, fun h => by omega⟩
  · refine ⟨_, cap, rfl, hl, h1, h2, fun h0 => ⟨g, 0, rfl, (Array.getElem?_eq_some_iff.1 hg).1, fun i hi => ?_⟩⟩
    rw [Nat.zero_add, h.cellAt i (by omega)]
    simp [u64s, List.getElem?_eq_getElem (show i < xs.length by omega)]

theorem infoU64 : (Try.prog.info? 22).map (fun i => (i.zero, i.size, i.bytes)) = some (some (.int .u64 0), 1, 8) := by kernel_rfl

theorem Kept.own {w w2 : World} {base e k n : Nat} {v : Value} {xs : List Value} (h : w.ownsRow base e k v n xs) (hk : Kept w w2) : w2.ownsRow base e k v n xs := by
  refine h.kept (row := none) ⟨hk.os, hk.tape, hk.output, hk.size, fun k hlt _ => hk.block k hlt⟩ ?_
  rcases hv : v.ownBlock with _ | g
  · exact .inl rfl
  · exact .inr (by simp)
def SplitPost (s : ByteArray) (w : World) (e : Ending) (w' : World) : Prop :=
  (∃ (ns : List Nat) (A : Option Addr) (n c : Nat), e = .returned (.tuple #[.slice A n c, .bool true]) ∧ s.data.toList = encs ns ∧ Small ns ∧ R64 w' A n c ns ∧ Kept w w') ∨
  (e = .returned (.tuple #[.slice none 0 0, .bool false]) ∧ (∀ ms, Small ms → s.data.toList ≠ encs ms) ∧ Kept w w')
set_option maxHeartbeats 4000000 in
set_option maxRecDepth 100000 in
theorem split_rel (s : ByteArray) (w : World) (hs : s.size ≤ 4294967296) :
    Calls Try.prog 24 #[.string s] w (SplitPost s w) := by
  obtain ⟨i0, hi, hz0, hz1, hz2⟩ := info_parts infoU64
  have HI := Lib.hid hi
  clear hi
  go_enter Try.func24, Try.ntmps24
  go_wp2_with fail
  go_loopw [4, 5] (fun ov av wr => ∃ (a : Nat) (ns : List Nat) (l : Nat) (v : Value), ov = v ∧ a ≤ s.size ∧ l ≤ a ∧ av = .int .i64 a ∧ (encs ns).length = a ∧ ns.length = l ∧ encs ns <+: s.data.toList ∧ Small ns ∧ wr.ownsRow w.heap.size 22 1 v l (u64s ns) ∧ Kept w wr) (fun _ a _ => s.size - (intOf a).toNat)
  case atStart => exact ⟨0, [], 0, _, rfl, by omega, by omega, rfl, rfl, rfl, List.nil_prefix, (fun n h => by cases h), World.ownsRow_nil _ _ _ _, Kept.refl w⟩
  case round =>
    obtain ⟨a, ns, l, v, rfl, ha, hla, rfl, hal, hll, hp, hsm, ho, kr⟩ := hrel
    have HAL := Lib.hid hal
    have HLL := Lib.hid hll
    have HP := Lib.hid hp
    have HSM := Lib.hid hsm
    have HO := Lib.hid ho
    clear hal hll hp hsm ho
    by_cases hlt : a < s.size
    · go_wp2_with fail
      refine (read_rel s a wr (by omega)).mono ?_
      rintro e w2 ⟨n, en, ok, rfl, hr, k2⟩
      have K2 := kr.call k2
      have hz : w.heap.size ≤ w2.heap.size := K2.size
      have HO2 := Lib.hid (Kept.own HO.out k2)
      rcases hr with ⟨rfl, hn, _, hpre, rfl⟩ | ⟨rfl, rfl, rfl, hno⟩
      · obtain ⟨len, hlen⟩ : ∃ len, (enc n).length = len := ⟨_, rfl⟩
        rw [hlen]
        have HN := Lib.hid hn
        have HPRE := Lib.hid hpre
        have HLEN := Lib.hid hlen
        clear hn hpre hlen
        have hol : Hid ((u64s ns).length = l * 1) := by unfold Hid; rw [u64s_len, HLL.out, Nat.mul_one]
        have hcons : Hid (encs (ns ++ [n]) <+: s.data.toList ∧ (encs (ns ++ [n])).length = a + len) := by
          unfold Hid
          obtain ⟨R, hR⟩ := HP.out
          have h1 := HPRE.out
          have hd : s.data.toList.drop (a : Int).toNat = R := by
            show s.data.toList.drop a = R
            rw [← hR, ← HAL.out, List.drop_left]
          rw [hd] at h1
          obtain ⟨R2, hR2⟩ := h1
          exact ⟨⟨R2, by rw [encs_snoc, List.append_assoc, hR2, hR]⟩, by rw [encs_snoc, List.length_append, HAL.out, HLEN.out]⟩
        have hle : a + len ≤ s.size := by
          have := hcons.out.1.length_le
          rw [hcons.out.2] at this
          exact this
        have hlp : 0 < len := by have := enc_pos n; rw [HLEN.out] at this; exact this
        go_wp2_with (at_builtin; refine wpList_append_own _ rfl _ _ 38 rfl w.heap.size 22 i0 (.int .u64 0) 1 8 Try.underlying38 HI.out hz0 hz1 hz2 rfl (by decide) _ l _ rfl (HO2.out.alloc _) ⟨w2.heap.size, 0, none⟩ 1 1 [.int .u64 (n : Nat)] rfl rfl (cell_one_new _ _ _) (by simp [Value.oneCell']) (by unfold maxLen; omega) (by omega) (by simp; omega) ?_; intro v3 w3 hown3 hgrow3 _)
        have HL3 := HO2.out.lt
        have K3 : Kept w w3 := (K2.alloc _).grown hgrow3 (fun g hg => (HL3 g hg).1)
        rw [u64s_snoc] at hown3
        have HO3 := Lib.hid hown3
        clear hown3
        go_roundw
        case rel => first | exact ⟨a + len, ns ++ [n], l + 1, _, rfl, hle, by omega, by go_num, hcons.out.2, by rw [List.length_append, HLL.out]; rfl, hcons.out.1, fun x hx => by rcases List.mem_append.1 hx with h | h; exact HSM.out x h; (simp only [List.mem_singleton] at h; rw [h]; exact HN.out), HO3.out, K3⟩ | ((repeat apply Exists.intro); exact ⟨⟨a + len, ns ++ [n], l + 1, _, rfl, hle, by omega, by go_num, hcons.out.2, by rw [List.length_append, HLL.out]; rfl, hcons.out.1, fun x hx => by rcases List.mem_append.1 hx with h | h; exact HSM.out x h; (simp only [List.mem_singleton] at h; rw [h]; exact HN.out), HO3.out, K3⟩, rfl⟩)
        case measure => simp [intOf]; omega
      · have HNO := Lib.hid hno
        clear hno
        go_wp2_with fail
        go_ret2
        refine .inr ⟨rfl, fun ms hms he => ?_, K2⟩
        obtain ⟨R, hR⟩ := HP.out
        have hd : s.data.toList.drop a = R := by rw [← hR, ← HAL.out, List.drop_left]
        obtain ⟨ms', h1, h2⟩ := encs_split ns ms R (by rw [← he, hR])
        cases ms' with
        | nil =>
          have := congrArg List.length hd
          rw [h2, List.length_drop] at this
          have e : s.data.toList.length = s.size := rfl
          rw [e] at this
          simp [encs_nil] at this
          omega
        | cons m r =>
          refine HNO.out (by omega) m (hms m (by rw [h1]; simp)) ?_
          show enc m <+: s.data.toList.drop a
          rw [hd, h2, encs_cons]
          exact List.prefix_append _ _
    · have hae : a = s.size := by omega
      have HAE := Lib.hid hae
      clear hae
      obtain ⟨SA, sc, rfl, hR⟩ := R64.of_own HO.out
      have HR := Lib.hid hR
      clear hR
      go_wp2_with fail
      go_ret2
      refine .inl ⟨ns, SA, l, sc, rfl, ?_, HSM.out, HR.out, kr⟩
      obtain ⟨R, hR⟩ := HP.out
      have : R.length = 0 := by
        have := congrArg List.length hR
        rw [List.length_append, HAL.out] at this
        have e : s.data.toList.length = s.size := rfl
        omega
      rw [← hR, List.eq_nil_of_length_eq_zero this, List.append_nil]

theorem split_yes (s : ByteArray) (ns : List Nat) (w : World) (hs : s.size ≤ 4294967296) (h : s.data.toList = encs ns) (hn : Small ns) :
    Calls Try.prog 24 #[.string s] w fun e w' => ∃ A n c, e = .returned (.tuple #[.slice A n c, .bool true]) ∧ R64 w' A n c ns ∧ Kept w w' := by
  refine (split_rel s w hs).mono ?_
  rintro e w' (⟨ms, A, n, c, rfl, h1, h2, h3, hk⟩ | ⟨_, h1, _⟩)
  · obtain rfl : ms = ns := encs_inj (by rw [← h1, h])
    exact ⟨A, n, c, rfl, h3, hk⟩
  · exact absurd h (h1 ns hn)
theorem split_no (s : ByteArray) (w : World) (hs : s.size ≤ 4294967296) (h : ∀ ns, Small ns → s.data.toList ≠ encs ns) :
    Calls Try.prog 24 #[.string s] w fun e w' => e = .returned (.tuple #[.slice none 0 0, .bool false]) ∧ Kept w w' := by
  refine (split_rel s w hs).mono ?_
  rintro e w' (⟨ms, A, n, c, rfl, h1, h2, h3, hk⟩ | ⟨rfl, h1, hk⟩)
  · exact absurd h1 (h ms h2)
  · exact ⟨rfl, hk⟩

set_option maxHeartbeats 1000000 in
theorem same_rows (A1 A2 : Option Addr) (c1 c2 n m : Nat) (xs : List Nat) (w : World) (h1 : R64 w A1 n c1 xs) (h2 : R64 w A2 m c2 xs) :
    Calls Try.prog 26 #[.slice A1 n c1, .slice A2 m c2] w fun e w' => e = .returned (.bool true) ∧ Kept w w' := by
  obtain rfl : m = n := by rw [← h1.1, ← h2.1]
  have hc1 := h1.2.1
  have hc2 := h1.2.2.1
  have hc3 := h2.2.1
  have hc4 := h2.2.2.1
  unfold maxLen at hc2 hc4
  have H1 := Lib.hid h1
  have H2 := Lib.hid h2
  clear h1 h2
  go_enter Try.func26, Try.ntmps26
  go_wp2
  go_loopw [5] (fun i wr => ∃ j : Nat, j ≤ m ∧ i = .int .i64 (j : Int) ∧ Kept w wr) (fun i _ => m - (intOf i).toNat)
  case atStart => exact ⟨0, by omega, rfl, Kept.refl w⟩
  case round =>
    obtain ⟨j, hj, rfl, kr⟩ := hrel
    by_cases hlt : j < m
    · obtain ⟨g, o1, rfl, hg, hc⟩ := (H1.out.kept kr).2.2.2 (by omega)
      obtain ⟨g2, o2, rfl, hg2, hc2⟩ := (H2.out.kept kr).2.2.2 (by omega)
      have x0 := hc j hlt
      have y0 := hc2 j hlt
      clear hc hc2
      generalize xs[j]?.getD 0 = d at *
      go_wp2
      refine wp_region_text keepsOne (fun wB => Kept w wB ∧ wB.cell? ⟨g, o1 + j, none⟩ = some (.int .u64 (d : Nat)) ∧ wB.cell? ⟨g2, o2 + j, none⟩ = some (.int .u64 (d : Nat))) ?_ (by kernel_rfl) (by kernel_rfl) _ rfl ?_
      · exact ⟨by repeat (first | exact Kept.refl _ | assumption | (refine Kept.alloc ?_ _) | (refine Kept.setCell ?_ (by first | omega | (simp; omega) | simp) _) | refine Kept.drew ?_ | refine Kept.drewN ?_ _ | (apply Kept.call; rotate_left; assumption)), by first | assumption | go_simp, by first | assumption | go_simp⟩
      rintro wB ⟨hkB, sB1, sB2⟩
      repeat (first | (apply DW.det; (focus (intro wd hI; have td1 := hI.at_ sB1; have td2 := hI.at_ sB2; go_wp2_with fail; refine StepPost.mk _ rfl ⟨rfl, ?_⟩; repeat (first | exact Kept.refl _ | assumption | (refine Kept.alloc ?_ _) | (refine Kept.setCell ?_ (by first | omega | (simp; omega) | simp) _) | refine Kept.drew ?_ | refine Kept.drewN ?_ _ | (apply Kept.call; rotate_left; assumption)))); simp only [Act.put, List.setIfInBounds_toArray, List.set_cons_succ, List.set_cons_zero]) | (refine DW.loud (by kernel_rfl) ?_; intro wd hI; have td1 := hI.at_ sB1; have td2 := hI.at_ sB2; go_wp2_with fail; refine StepPost.loud _ rfl (by repeat (first | exact Kept.refl _ | assumption | (refine Kept.alloc ?_ _) | (refine Kept.setCell ?_ (by first | omega | (simp; omega) | simp) _) | refine Kept.drew ?_ | refine Kept.drewN ?_ _ | (apply Kept.call; rotate_left; assumption))) (fun hkL => ?_); have hkL := hI.call hkL; have hkB := hkB.call hkL; have sB1 := hkL.at_ sB1; have sB2 := hkL.at_ sB2; simp only [Act.put, List.setIfInBounds_toArray, List.set_cons_succ, List.set_cons_zero]))
      refine DW.nil ?_
      intro wd hI
      have hkd := hkB.call hI
      have td1 := hI.at_ sB1; have td2 := hI.at_ sB2
      go_wp2
      go_roundw
      case rel => first | exact ⟨j + 1, by omega, by go_num, hkd⟩ | ((repeat apply Exists.intro); exact ⟨⟨j + 1, by omega, by go_num, hkd⟩, rfl⟩)
      case measure => simp [intOf]; omega
    · obtain rfl : j = m := by omega
      go_wp2
      go_ret
      exact ⟨rfl, kr⟩
end Go.Proofs.Ythceenheaegdbaa
