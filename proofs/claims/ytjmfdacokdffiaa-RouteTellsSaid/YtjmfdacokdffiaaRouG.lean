/- The program's route: Reach. -/
import Derived.Test.YtjmfdacokdffiaaRouD
import Derived.Test.YtjmfdacokdffiaaRouF
set_option linter.unusedSimpArgs false
set_option linter.unusedVariables false
namespace Go.Proofs.Ytjmfdacokdffiaa
open Go.RowKit

theorem or_bits_all : ∀ r : Fin 64, ∀ j : Fin 6, bits .or .i64 ((r : Nat) : Int) (wrap64 (2 ^ (j : Nat))) = (((r : Nat) ||| 2 ^ (j : Nat) : Nat) : Int) ∧ ((r : Nat) ||| 2 ^ (j : Nat)) < 64 ∧ ∀ k : Fin 6, ((r : Nat) ||| 2 ^ (j : Nat)) / 2 ^ (k : Nat) % 2 = 1 ↔ ((r : Nat) / 2 ^ (k : Nat) % 2 = 1 ∨ (k : Nat) = j) := of_decide_eq_true (by kernel_rfl)
theorem one_bits_all : ∀ j : Fin 6, wrap64 (2 ^ (j : Nat)) = ((2 ^ (j : Nat) : Nat) : Int) ∧ 2 ^ (j : Nat) < 64 ∧ ∀ k : Fin 6, (2 ^ (j : Nat)) / 2 ^ (k : Nat) % 2 = 1 ↔ (k : Nat) = j := of_decide_eq_true (by kernel_rfl)
/-- A mask of sites. -/
def MaskIs (S : Nat → Prop) (m : Int) : Prop := ∃ M : Nat, m = M ∧ M < 64 ∧ ∀ k, k < 6 → (M / 2 ^ k % 2 = 1 ↔ S k)
theorem MaskIs.one {j : Nat} (hj : j < 6) : MaskIs (fun k => k = j) (wrap64 (2 ^ j)) := by
  obtain ⟨h1, h2, h3⟩ := one_bits_all ⟨j, hj⟩
  exact ⟨2 ^ j, h1, h2, fun k hk => h3 ⟨k, hk⟩⟩
theorem MaskIs.or {S : Nat → Prop} {m : Int} (h : MaskIs S m) {j : Nat} (hj : j < 6) : MaskIs (fun k => S k ∨ k = j) (bits .or .i64 m (wrap64 (2 ^ j))) := by
  obtain ⟨M, rfl, h1, h2⟩ := h
  obtain ⟨g1, g2, g3⟩ := or_bits_all ⟨M, h1⟩ ⟨j, hj⟩
  exact ⟨M ||| 2 ^ j, g1, g2, fun k hk => (g3 ⟨k, hk⟩).trans (or_congr (h2 k hk) Iff.rfl)⟩
theorem MaskIs.of {S T : Nat → Prop} {m : Int} (h : MaskIs S m) (e : ∀ k, k < 6 → (S k ↔ T k)) : MaskIs T m := by
  obtain ⟨M, h0, h1, h2⟩ := h
  exact ⟨M, h0, h1, fun k hk => (h2 k hk).trans (e k hk)⟩
set_option maxHeartbeats 4000000 in
theorem reach_any (A B C : Option Addr) (n1 c1 n2 c2 n3 c3 : Nat) (es : List Nat) (os ps : List Int) (f : Nat) (k : ByteArray) (w : World) (hr : RowW w A n1 c1 B n2 c2 C n3 c3 (rgs es) os ps) (hf : FitT es os ps n3) (hfn : f < n3) :
    Calls Try.prog 18 #[.agg #[.slice A n1 c1, .slice B n2 c2, .slice C n3 c3], .int .i64 f, .string k] w fun e w' => ∃ m : Int, e = .returned (.int .i64 m) ∧ MaskIs (Came ps (oa os (findI es (hv k))) f) m ∧ Kept w w' := by
  have HR := Lib.hid hr
  have HF := Lib.hid hf
  have hpl : ps.length = n3 := hr.ps.1
  have ho := oa_bd hf.fit (find_le es (hv k))
  have hG := nxt_goes hf.tree ho.1 ho.2
  rw [hpl] at hG
  have HS := Lib.hid (small_tree hf.tree hG f)
  have HQ := Lib.hid (QI.all hf.tree (show f < ps.length by omega) hG 7)
  have HL := Lib.hid hpl
  have n6 : n3 ≤ 6 := by rw [← hpl]; exact hf.tree.choose_spec.six
  clear hr hf hpl ho hG
  go_enter Try.func18, Try.ntmps18
  go_wp2_with fail
  refine (rcheck_yes A B C n1 c1 n2 c2 n3 c3 es os ps _ (HR.out.keep (by repeat (first | exact Kept.refl _ | assumption | (refine Kept.alloc ?_ _) | (refine Kept.setCell ?_ (by first | omega | (simp; omega) | simp) _) | refine Kept.drew ?_ | refine Kept.drewN ?_ _ | (apply Kept.call; rotate_left; assumption)))) HF.out).mono ?_
  rintro e w1 ⟨rfl, k1⟩
  have K1 : Kept w w1 := Kept.call (by repeat (first | exact Kept.refl _ | assumption | (refine Kept.alloc ?_ _) | (refine Kept.setCell ?_ (by first | omega | (simp; omega) | simp) _) | refine Kept.drew ?_ | refine Kept.drewN ?_ _ | (apply Kept.call; rotate_left; assumption))) k1
  have x0 : w1.cell? ⟨w.heap.size, 0, none⟩ = some (.slice A n1 c1) := k1.at_ (by go_simp)
  have x1 : w1.cell? ⟨w.heap.size, 1, none⟩ = some (.slice B n2 c2) := k1.at_ (by go_simp)
  have x2 : w1.cell? ⟨w.heap.size, 2, none⟩ = some (.slice C n3 c3) := k1.at_ (by go_simp)
  go_wp2_with fail
  refine (sites_any _ _ C n3 c3 _ (by omega) ⟨_, _, _, rfl⟩ ⟨_, _, _, rfl⟩).mono ?_
  rintro e w2 ⟨rfl, k2⟩
  have K2 := K1.call k2
  have x0 := k2.at_ x0
  have x1 := k2.at_ x1
  have x2 := k2.at_ x2
  go_wp2_with fail
  refine (ways_any A B C n1 c1 n2 c2 n3 c3 es os ps f k _ (HR.out.keep K2) HF.out HS.out).mono ?_
  rintro e w3 ⟨D, c9, m, rfl, hpr, k3⟩
  have K3 := K2.call k3
  have HP := Lib.hid hpr
  obtain ⟨l, hl⟩ : ∃ l, (allQ (nxt ps n3 (oa os (findI es (hv k)))) f).tail = l := ⟨_, rfl⟩
  have HLL := Lib.hid hl
  rw [hl] at HP
  have hmc : m ≤ c9 ∧ c9 ≤ 9223372036854775807 := by have h1 := HP.out.2.1; have h2 := HP.out.2.2.1; unfold maxLen at h2; omega
  have hll : l.length = m := HP.out.1
  have HLM := Lib.hid hll
  have hsite : Hid (∀ t, t < m → ∃ s : Nat, s < n3 ∧ (prA l t).2 = s) := fun t ht => by
    have hg : l[t]? = some (prA l t) := by unfold prA; rw [List.getElem?_eq_getElem (by rw [HLM.out]; exact ht)]; rfl
    have hm : prA l t ∈ allQ (nxt ps n3 (oa os (findI es (hv k)))) f := by
      have := List.mem_of_getElem? hg
      have h9 : prA l t ∈ (allQ (nxt ps n3 (oa os (findI es (hv k)))) f).tail := by rw [HLL.out]; exact this
      exact List.mem_of_mem_tail h9
    obtain ⟨s, h1, h2, _⟩ := HQ.out.site (prA l t).1 (prA l t).2 hm
    exact ⟨s, by rw [← HL.out]; exact h2, h1⟩
  have hend : Hid (∀ s : Nat, (s = f ∨ ∃ t, t < m ∧ (prA l t).2 = s) ↔ Came ps (oa os (findI es (hv k))) f s) := fun s => by
    unfold Came
    rw [HL.out]
    obtain ⟨r, hr⟩ := all_start (nxt ps n3 (oa os (findI es (hv k)))) f
    rw [hr] at HLL ⊢
    have hrl : r = l := HLL.out
    rw [hrl]
    constructor
    · rintro (rfl | ⟨t, h1, h2⟩)
      · exact ⟨-1, by simp⟩
      · refine ⟨(prA l t).1, List.mem_cons_of_mem _ ?_⟩
        rw [← h2]
        unfold prA
        rw [List.getElem?_eq_getElem (by rw [HLM.out]; exact h1)]
        exact List.getElem_mem _
    · rintro ⟨c, hc⟩
      rcases List.mem_cons.1 hc with h | h
      · left
        injection h with _ h
        exact Int.ofNat_inj.1 h
      · right
        obtain ⟨t, ht⟩ := List.getElem?_of_mem h
        have := (List.getElem?_eq_some_iff.1 ht).1
        exact ⟨t, by rw [← HLM.out]; exact this, by unfold prA; rw [ht]; rfl⟩
  have hf6 : f < 6 := by omega
  clear hpr hl hll
  go_wp2_with fail
  go_loopw [7, 30] (fun mv iv wr => ∃ (j : Nat) (x : Int), j ≤ m ∧ mv = .int .i64 x ∧ iv = .int .i64 j ∧ Hid (MaskIs (fun s => s = f ∨ ∃ t, t < j ∧ (prA l t).2 = s) x) ∧ Kept w3 wr) (fun _ iv _ => m - (intOf iv).toNat)
  case atStart => exact ⟨0, _, by omega, rfl, rfl, Lib.hid ((MaskIs.one hf6).of fun s hs => ⟨.inl, fun h => h.elim id (fun ⟨t, h1, _⟩ => absurd h1 (by omega))⟩), Kept.refl w3⟩
  case round =>
    obtain ⟨j, x, hj, rfl, rfl, hm, kr⟩ := hrel
    by_cases hlt : j < m
    · obtain ⟨b, off, rfl, hcc⟩ := HP.out.2.2.2.2 (by omega)
      obtain ⟨s, hs, e⟩ := hsite.out j hlt
      have d0 := kr.at_ (hcc j hlt).1
      have d1 := kr.at_ (hcc j hlt).2
      rw [e] at d1
      have hs6 : s < 6 := by omega
      have hm2 : Hid (MaskIs (fun s => s = f ∨ ∃ t, t < j + 1 ∧ (prA l t).2 = s) (bits .or .i64 x (wrap64 (2 ^ s)))) := by
        refine (hm.out.or hs6).of fun q _ => ?_
        constructor
        · rintro ((h | ⟨t, h1, h2⟩) | h)
          · exact .inl h
          · exact .inr ⟨t, by omega, h2⟩
          · exact .inr ⟨j, by omega, by rw [e, h]⟩
        · rintro (h | ⟨t, h1, h2⟩)
          · exact .inl (.inl h)
          · rcases Nat.lt_or_ge t j with g | g
            · exact .inl (.inr ⟨t, g, h2⟩)
            · have : t = j := by omega
              subst this
              rw [e] at h2
              exact .inr (Int.ofNat_inj.1 h2.symm)
      clear hcc e hm
      generalize (prA l j).1 = y at *
      go_wp2_with fail
      go_roundw
      case rel => first | exact ⟨j + 1, _, by omega, rfl, by go_num, hm2, by repeat (first | exact Kept.refl _ | assumption | (refine Kept.alloc ?_ _) | (refine Kept.setCell ?_ (by first | omega | (simp; omega) | simp) _) | refine Kept.drew ?_ | refine Kept.drewN ?_ _ | (apply Kept.call; rotate_left; assumption))⟩ | ((repeat apply Exists.intro); exact ⟨⟨j + 1, _, by omega, rfl, by go_num, hm2, by repeat (first | exact Kept.refl _ | assumption | (refine Kept.alloc ?_ _) | (refine Kept.setCell ?_ (by first | omega | (simp; omega) | simp) _) | refine Kept.drew ?_ | refine Kept.drewN ?_ _ | (apply Kept.call; rotate_left; assumption))⟩, rfl⟩)
      case measure => simp [intOf]; omega
    · obtain rfl : j = m := by omega
      go_wp2_with fail
      go_ret
      exact ⟨x, rfl, hm.out.of fun s _ => hend.out s, K3.call kr⟩
end Go.Proofs.Ytjmfdacokdffiaa
