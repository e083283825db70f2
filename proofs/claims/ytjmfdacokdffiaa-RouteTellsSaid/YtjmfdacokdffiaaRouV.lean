/- The document's Reach, at rows that fit over a tree; both Reach from sites that there aren't. -/
import Derived.Test.YtjmfdacokdffiaaRouU
import Derived.Test.YtjmfdacokdffiaaRouP
set_option linter.unusedSimpArgs false
set_option linter.unusedVariables false
namespace Go.Proofs.Ytjmfdacokdffiaa
open Go.RowKit

theorem maskIs_one (S : Nat → Prop) : ∃ r : Int, ∀ m, MaskIs S m → m = r := by
  by_cases h : ∃ m, MaskIs S m
  · obtain ⟨r, hr⟩ := h
    refine ⟨r, fun m hm => ?_⟩
    obtain ⟨N, rfl, h1, h2⟩ := hr
    exact hm.eq h1 fun k hk => (h2 k hk).symm
  · exact ⟨0, fun m hm => absurd ⟨m, hm⟩ h⟩
def sumTo (B : Nat → Bool) : Nat → Nat
  | 0 => 0
  | s + 1 => sumTo B s + if B s then 2 ^ s else 0
theorem sumTo_lt (B : Nat → Bool) : ∀ s, sumTo B s < 2 ^ s
  | 0 => by simp [sumTo]
  | s + 1 => by
    have := sumTo_lt B s
    unfold sumTo
    rw [Nat.pow_succ]
    split <;> omega
theorem sum_bits : ∀ b0 b1 b2 b3 b4 b5 : Bool, ∀ k : Fin 6, ((0 + (if b0 then 2 ^ 0 else 0) + (if b1 then 2 ^ 1 else 0) + (if b2 then 2 ^ 2 else 0) + (if b3 then 2 ^ 3 else 0) + (if b4 then 2 ^ 4 else 0) + (if b5 then 2 ^ 5 else 0)) / 2 ^ (k : Nat) % 2 = 1) ↔ (([b0, b1, b2, b3, b4, b5][(k : Nat)]?).getD false) = true := of_decide_eq_true (by kernel_rfl)
theorem sumTo_mask {B : Nat → Bool} {S : Nat → Prop} (h : ∀ k, k < 6 → (B k = true ↔ S k)) : MaskIs S (sumTo B 6 : Nat) := by
  refine ⟨sumTo B 6, rfl, sumTo_lt B 6, fun k hk => ?_⟩
  have h1 := sum_bits (B 0) (B 1) (B 2) (B 3) (B 4) (B 5) ⟨k, hk⟩
  rw [← h k hk]
  simp only [sumTo]
  refine h1.trans ?_
  rcases k with _ | _ | _ | _ | _ | _ | k
  all_goals first | exact Iff.rfl | omega
def Marks (F : Nat → Value) (S : Nat → Prop) : Prop := ∃ B : Nat → Bool, (∀ k, F k = .bool (B k)) ∧ ∀ k, k < 6 → (B k = true ↔ S k)
theorem Marks.put {F : Nat → Value} {S : Nat → Prop} (h : Marks F S) (i : Nat) : Marks (fun k => if k = i then .bool true else F k) (fun k => S k ∨ k = i) := by
  obtain ⟨B, h1, h2⟩ := h
  refine ⟨fun k => if k = i then true else B k, fun k => ?_, fun k hk => ?_⟩
  · by_cases e : k = i <;> simp [e, h1]
  · by_cases e : k = i
    · simp [e]
    · simp [e, h2 k hk]
theorem Marks.of {F : Nat → Value} {S T : Nat → Prop} (h : Marks F S) (e : ∀ k, k < 6 → (S k ↔ T k)) : Marks F T := by
  obtain ⟨B, h1, h2⟩ := h
  exact ⟨B, h1, fun k hk => (h2 k hk).trans (e k hk)⟩
set_option maxRecDepth 20000 in
set_option maxHeartbeats 4000000 in
theorem r9reach_any (A B C : Option Addr) (n1 c1 n2 c2 n3 c3 : Nat) (es : List Nat) (os ps : List Int) (f : Nat) (k : ByteArray) (w : World) (hr : RowW w A n1 c1 B n2 c2 C n3 c3 (rgs es) os ps) (hf : FitT es os ps n3) (hfn : f < n3) :
    Calls Try.prog 28 #[.agg #[.slice A n1 c1, .slice B n2 c2, .slice C n3 c3], .int .i64 f, .string k] w fun e w' => ∃ m : Int, e = .returned (.int .i64 m) ∧ MaskIs (Came ps (oa os (findI es (hv k))) f) m ∧ Kept w w' := by
  have HR := Lib.hid hr
  have HF := Lib.hid hf
  have hpl : ps.length = n3 := hr.ps.1
  have ho := oa_bd hf.fit (find_le es (hv k))
  have hG := nxt_goes hf.tree ho.1 ho.2
  rw [hpl] at hG
  have HS := Lib.hid (small_tree hf.tree hG f)
  have HQ := Lib.hid (QI.all hf.tree (show f < ps.length by omega) hG 7)
  have HL := Lib.hid hpl
  have n6 : n3 ≤ 6 := hf.fit.six
  have hb := hr.bd
  have hf6 : f < 6 := by omega
  have dff : decide ((f : Int) < 0) = false := by first | (simp; done) | (simp; omega)
  have dfn : decide ((n3 : Int) ≤ (f : Int)) = false := by first | (simp; done) | (simp; omega)
  clear hr hf hpl ho hG
  go_enter Try.func28, Try.ntmps28
  go_wp2_with fail
  refine (r9check_is A B C n1 c1 n2 c2 n3 c3 es os ps _ (HR.out.keep (by repeat (first | exact Kept.refl _ | assumption | (refine Kept.alloc ?_ _) | (refine Kept.setCell ?_ (by first | omega | (simp; omega) | simp) _) | refine Kept.drew ?_ | refine Kept.drewN ?_ _ | (apply Kept.call; rotate_left; assumption)))) HF.out.fit).mono ?_
  rintro e w1 ⟨rfl, k1⟩
  rw [treeB_yes HF.out.tree]
  have K1 : Kept w w1 := Kept.call (by repeat (first | exact Kept.refl _ | assumption | (refine Kept.alloc ?_ _) | (refine Kept.setCell ?_ (by first | omega | (simp; omega) | simp) _) | refine Kept.drew ?_ | refine Kept.drewN ?_ _ | (apply Kept.call; rotate_left; assumption))) k1
  have x0 : w1.cell? ⟨w.heap.size, 0, none⟩ = some (.slice A n1 c1) := k1.at_ (by go_simp)
  have x1 : w1.cell? ⟨w.heap.size, 1, none⟩ = some (.slice B n2 c2) := k1.at_ (by go_simp)
  have x2 : w1.cell? ⟨w.heap.size, 2, none⟩ = some (.slice C n3 c3) := k1.at_ (by go_simp)
  have hlw : w.heap.size < w1.heap.size := World.block_lt_of_cell? w1 _ x0
  go_wp2_with fail
  have A0 := Lib.hid (Arr6.one w1 (.bool false) (.bool true) 39 hf6)
  have M0 : Hid (Marks (fun k => if k = f then Value.bool true else .bool false) (fun s => s = f)) := by
    refine ((show Marks (fun _ => .bool false) (fun _ => False) from ⟨fun _ => false, fun _ => rfl, fun k _ => by simp⟩).put f).of fun k _ => ?_
    simp
  refine (r9ways_any A B C n1 c1 n2 c2 n3 c3 es os ps f k _ (HR.out.keep (K1.call A0.out.kept)) HF.out HS.out).mono ?_
  rintro e w3 ⟨D, c9, m, rfl, hpr, k3, hfr⟩
  have A1 := Lib.hid (A0.out.keep k3)
  have HFR : Hid (∀ b off, D = some ⟨b, off, none⟩ → w1.heap.size < b) := fun b off e => by have := hfr b off e; simp at this; omega
  have HP := Lib.hid hpr
  obtain ⟨l, hl⟩ : ∃ l, (allQ (nxt ps n3 (oa os (findI es (hv k)))) f).tail = l := ⟨_, rfl⟩
  have HLL := Lib.hid hl
  rw [hl] at HP
  have hmc : m ≤ c9 ∧ c9 ≤ 9223372036854775807 := by have h1 := HP.out.2.1; have h2 := HP.out.2.2.1; unfold maxLen at h2; omega
  have hll : l.length = m := HP.out.1
  have HLM := Lib.hid hll
  have hsite : Hid (∀ t, t < m → ∃ s : Nat, s < n3 ∧ (prA l t).2 = s) := fun t ht => by
    have hg : l[t]? = some (prA l t) := by unfold prA; rw [List.getElem?_eq_getElem (by rw [HLM.out]; exact ht)]; rfl
    have hm : prA l t ∈ allQ (nxt ps n3 (oa os (findI es (hv k)))) f := by
      have := List.mem_of_getElem? hg
      have h9 : prA l t ∈ (allQ (nxt ps n3 (oa os (findI es (hv k)))) f).tail := by rw [HLL.out]; exact this
      exact List.mem_of_mem_tail h9
    obtain ⟨s, h1, h2, _⟩ := HQ.out.site (prA l t).1 (prA l t).2 hm
    exact ⟨s, by rw [← HL.out]; exact h2, h1⟩
  have hend : Hid (∀ s : Nat, (s = f ∨ ∃ t, t < m ∧ (prA l t).2 = s) ↔ Came ps (oa os (findI es (hv k))) f s) := fun s => by
    unfold Came
    rw [HL.out]
    obtain ⟨r, hr⟩ := all_start (nxt ps n3 (oa os (findI es (hv k)))) f
    rw [hr] at HLL ⊢
    have hrl : r = l := HLL.out
    rw [hrl]
    constructor
    · rintro (rfl | ⟨t, h1, h2⟩)
      · exact ⟨-1, by simp⟩
      · refine ⟨(prA l t).1, List.mem_cons_of_mem _ ?_⟩
        rw [← h2]
        unfold prA
        rw [List.getElem?_eq_getElem (by rw [HLM.out]; exact h1)]
        exact List.getElem_mem _
    · rintro ⟨c, hc⟩
      rcases List.mem_cons.1 hc with h | h
      · left
        injection h with _ h
        exact Int.ofNat_inj.1 h
      · right
        obtain ⟨t, ht⟩ := List.getElem?_of_mem h
        have := (List.getElem?_eq_some_iff.1 ht).1
        exact ⟨t, by rw [← HLM.out]; exact this, by unfold prA; rw [ht]; rfl⟩
  clear hpr hl hll hfr A0
  generalize hQ : w1.heap.size = Q at *
  have HQQ := Lib.hid hQ
  clear hQ
  go_wp2_with fail
  go_loopw [10] (fun iv wr => ∃ (j : Nat) (F : Nat → Value), j ≤ m ∧ iv = .int .i64 j ∧ Arr6 w1 Q wr F ∧ Hid (Marks F (fun s => s = f ∨ ∃ t, t < j ∧ (prA l t).2 = s)) ∧ Hid (But [Q] w3 wr)) (fun iv _ => m - (intOf iv).toNat)
  case atStart => exact ⟨0, _, by omega, rfl, A1.out, M0.out.of fun k _ => ⟨.inl, fun h => h.elim id fun ⟨t, h1, _⟩ => absurd h1 (by omega)⟩, But.refl _ _⟩
  case round =>
    obtain ⟨j, F, hj, rfl, ha, hm, hb3⟩ := hrel
    have HA := Lib.hid ha
    by_cases hlt : j < m
    · obtain ⟨b, off, rfl, hcc⟩ := HP.out.2.2.2.2 (by omega)
      obtain ⟨s, hs, e⟩ := hsite.out j hlt
      have hbQ : b ≠ Q := by have := HFR.out b off rfl; omega
      have d1 := hb3.out.at_ (hcc j hlt).2 (by simpa using hbQ)
      rw [e] at d1
      have hs6 : s < 6 := by omega
      have cs := ha.cells s hs6
      have fs := ha.frz s
      have P2 := Lib.hid (ha.put (by have := HQQ.out; omega) hs6 (.bool true))
      have M2 : Hid (Marks (fun k => if k = s then Value.bool true else F k) (fun s => s = f ∨ ∃ t, t < j + 1 ∧ (prA l t).2 = s)) := (hm.out.put s).of fun q _ => by
        constructor
        · rintro ((h | ⟨t, h1, h2⟩) | h)
          · exact .inl h
          · exact .inr ⟨t, by omega, h2⟩
          · exact .inr ⟨j, by omega, by rw [e, h]⟩
        · rintro (h | ⟨t, h1, h2⟩)
          · exact .inl (.inl h)
          · rcases Nat.lt_or_ge t j with g | g
            · exact .inl (.inr ⟨t, g, h2⟩)
            · have : t = j := by omega
              subst this
              rw [e] at h2
              exact .inr (Int.ofNat_inj.1 h2.symm)
      have B2 := Lib.hid (hb3.out.setCell (p := ⟨Q, s, none⟩) (.inl (by simp)) (.bool true))
      clear ha hcc e hm
      go_wp2_with fail
      go_roundw
      case rel => first | exact ⟨j + 1, _, by omega, by go_num, P2.out, M2, B2⟩ | ((repeat apply Exists.intro); exact ⟨⟨j + 1, _, by omega, by go_num, P2.out, M2, B2⟩, rfl⟩)
      case measure => simp [intOf]; omega
    · obtain rfl : j = m := by omega
      obtain ⟨BB, hB1, hB2⟩ := hm.out
      have HCC : Hid (∀ k, k < 6 → wr.cell? ⟨Q, k, none⟩ = some (.bool (BB k))) := fun k hk => by rw [HA.out.cells k hk, hB1 k]
      have HMS : Hid (MaskIs (Came ps (oa os (findI es (hv k))) f) (sumTo BB 6 : Nat)) := sumTo_mask fun q hq => (hB2 q hq).trans (hend.out q)
      have hsl := Lib.hid (sumTo_lt BB)
      have hst : Hid (∀ s, sumTo BB (s + 1) = sumTo BB s + if BB s then 2 ^ s else 0) := fun s => rfl
      clear hB1 hB2 hm ha
      go_wp2_with fail
      go_loopw [11, 12, 13] (fun nv bv sv w9 => ∃ s : Nat, s ≤ 6 ∧ nv = .int .i64 ((sumTo BB s : Nat) : Int) ∧ bv = .int .i64 ((2 ^ s : Nat) : Int) ∧ sv = .int .i64 s ∧ Kept wr w9) (fun _ _ sv _ => 6 - (intOf sv).toNat)
      case atStart => exact ⟨0, by omega, rfl, rfl, rfl, Kept.refl _⟩
      case round =>
        obtain ⟨s, hs, rfl, rfl, rfl, kr9⟩ := hrel
        have h2s := two_le hs
        have hsm := hsl.out s
        by_cases hs6 : s < 6
        · have cs := kr9.at_ (HCC.out s hs6)
          have hp2 : Hid (2 ^ (s + 1) = 2 * 2 ^ s) := by unfold Hid; rw [Nat.pow_succ, Nat.mul_comm]
          cases hBs : BB s
          · have hn : Hid (sumTo BB (s + 1) = sumTo BB s) := by unfold Hid; rw [hst.out, hBs]; rfl
            rw [hBs] at cs
            clear hBs
            generalize sumTo BB s = q at *
            generalize 2 ^ s = t at *
            go_wp2_with fail
            go_roundw
            case rel => first | exact ⟨s + 1, by omega, by rw [hn.out], by rw [hp2.out]; go_num, by go_num, kr9⟩ | ((repeat apply Exists.intro); exact ⟨⟨s + 1, by omega, by rw [hn.out], by rw [hp2.out]; go_num, by go_num, kr9⟩, rfl⟩)
            case measure => simp [intOf]; omega
          · have hn : Hid (sumTo BB (s + 1) = sumTo BB s + 2 ^ s) := by unfold Hid; rw [hst.out, hBs]; rfl
            rw [hBs] at cs
            clear hBs
            generalize sumTo BB s = q at *
            generalize 2 ^ s = t at *
            go_wp2_with fail
            go_roundw
            case rel => first | exact ⟨s + 1, by omega, by rw [hn.out]; go_num, by rw [hp2.out]; go_num, by go_num, kr9⟩ | ((repeat apply Exists.intro); exact ⟨⟨s + 1, by omega, by rw [hn.out]; go_num, by rw [hp2.out]; go_num, by go_num, kr9⟩, rfl⟩)
            case measure => simp [intOf]; omega
        · obtain rfl : s = 6 := by omega
          have hq : ∃ q, sumTo BB 6 = q := ⟨_, rfl⟩
          obtain ⟨q, hq⟩ := hq
          rw [hq] at HMS hsm ⊢
          clear hq
          go_wp2_with fail
          go_ret
          exact ⟨_, rfl, HMS.out, K1.call (HA.out.kept.call kr9)⟩
set_option maxHeartbeats 1000000 in
theorem reach_out (A B C : Option Addr) (n1 c1 n2 c2 n3 c3 : Nat) (es : List Nat) (os ps : List Int) (a : Int) (k : ByteArray) (w : World) (hr : RowW w A n1 c1 B n2 c2 C n3 c3 (rgs es) os ps) (hf : FitT es os ps n3) (ha : a < 0 ∨ (n3 : Int) ≤ a) :
    Calls Try.prog 18 #[.agg #[.slice A n1 c1, .slice B n2 c2, .slice C n3 c3], .int .i64 a, .string k] w fun e w' => e = .returned (.int .i64 0) ∧ Kept w w' := by
  have HR := Lib.hid hr
  have HF := Lib.hid hf
  have hb := hr.bd
  have hd : decide (a < 0) = true ∨ (decide (a < 0) = false ∧ decide ((n3 : Int) ≤ a) = true) := by
    by_cases h0 : a < 0
    · exact .inl (decide_eq_true h0)
    · exact .inr ⟨decide_eq_false h0, decide_eq_true (by omega)⟩
  clear hr hf ha
  rcases hd with hd | ⟨hd, hd2⟩
  all_goals
    (go_enter Try.func18, Try.ntmps18
     go_wp2_with fail
     refine (rcheck_is A B C n1 c1 n2 c2 n3 c3 es os ps _ (HR.out.keep (by repeat (first | exact Kept.refl _ | assumption | (refine Kept.alloc ?_ _) | (refine Kept.setCell ?_ (by first | omega | (simp; omega) | simp) _) | refine Kept.drew ?_ | refine Kept.drewN ?_ _ | (apply Kept.call; rotate_left; assumption)))) HF.out.fit).mono ?_
     rintro e w1 ⟨rfl, k1⟩
     rw [treeB_yes HF.out.tree]
     have K1 : Kept w w1 := Kept.call (by repeat (first | exact Kept.refl _ | assumption | (refine Kept.alloc ?_ _) | (refine Kept.setCell ?_ (by first | omega | (simp; omega) | simp) _) | refine Kept.drew ?_ | refine Kept.drewN ?_ _ | (apply Kept.call; rotate_left; assumption))) k1
     have x0 : w1.cell? ⟨w.heap.size, 0, none⟩ = some (.slice A n1 c1) := k1.at_ (by go_simp)
     have x1 : w1.cell? ⟨w.heap.size, 1, none⟩ = some (.slice B n2 c2) := k1.at_ (by go_simp)
     have x2 : w1.cell? ⟨w.heap.size, 2, none⟩ = some (.slice C n3 c3) := k1.at_ (by go_simp)
     go_wp2_with fail
     first
       | (go_ret; exact ⟨rfl, K1⟩)
       | (refine (sites_any _ _ C n3 c3 _ (by omega) ⟨_, _, _, rfl⟩ ⟨_, _, _, rfl⟩).mono ?_
          rintro e w2 ⟨rfl, k2⟩
          go_wp2_with fail
          go_ret
          exact ⟨rfl, K1.call k2⟩))
set_option maxHeartbeats 1000000 in
theorem r9reach_out (A B C : Option Addr) (n1 c1 n2 c2 n3 c3 : Nat) (es : List Nat) (os ps : List Int) (a : Int) (k : ByteArray) (w : World) (hr : RowW w A n1 c1 B n2 c2 C n3 c3 (rgs es) os ps) (hf : FitT es os ps n3) (ha : a < 0 ∨ (n3 : Int) ≤ a) :
    Calls Try.prog 28 #[.agg #[.slice A n1 c1, .slice B n2 c2, .slice C n3 c3], .int .i64 a, .string k] w fun e w' => e = .returned (.int .i64 0) ∧ Kept w w' := by
  have HR := Lib.hid hr
  have HF := Lib.hid hf
  have hb := hr.bd
  have hd : decide (a < 0) = true ∨ (decide (a < 0) = false ∧ decide ((n3 : Int) ≤ a) = true) := by
    by_cases h0 : a < 0
    · exact .inl (decide_eq_true h0)
    · exact .inr ⟨decide_eq_false h0, decide_eq_true (by omega)⟩
  clear hr hf ha
  rcases hd with hd | ⟨hd, hd2⟩
  all_goals
    (go_enter Try.func28, Try.ntmps28
     go_wp2_with fail
     refine (r9check_is A B C n1 c1 n2 c2 n3 c3 es os ps _ (HR.out.keep (by repeat (first | exact Kept.refl _ | assumption | (refine Kept.alloc ?_ _) | (refine Kept.setCell ?_ (by first | omega | (simp; omega) | simp) _) | refine Kept.drew ?_ | refine Kept.drewN ?_ _ | (apply Kept.call; rotate_left; assumption)))) HF.out.fit).mono ?_
     rintro e w1 ⟨rfl, k1⟩
     rw [treeB_yes HF.out.tree]
     have K1 : Kept w w1 := Kept.call (by repeat (first | exact Kept.refl _ | assumption | (refine Kept.alloc ?_ _) | (refine Kept.setCell ?_ (by first | omega | (simp; omega) | simp) _) | refine Kept.drew ?_ | refine Kept.drewN ?_ _ | (apply Kept.call; rotate_left; assumption))) k1
     have x0 : w1.cell? ⟨w.heap.size, 0, none⟩ = some (.slice A n1 c1) := k1.at_ (by go_simp)
     have x1 : w1.cell? ⟨w.heap.size, 1, none⟩ = some (.slice B n2 c2) := k1.at_ (by go_simp)
     have x2 : w1.cell? ⟨w.heap.size, 2, none⟩ = some (.slice C n3 c3) := k1.at_ (by go_simp)
     go_wp2_with fail
     first
       | (go_ret; exact ⟨rfl, K1⟩)
       | (refine (sites_any _ _ C n3 c3 _ (by omega) ⟨_, _, _, rfl⟩ ⟨_, _, _, rfl⟩).mono ?_
          rintro e w2 ⟨rfl, k2⟩
          go_wp2_with fail
          go_ret
          exact ⟨rfl, K1.call k2⟩))
end Go.Proofs.Ytjmfdacokdffiaa
