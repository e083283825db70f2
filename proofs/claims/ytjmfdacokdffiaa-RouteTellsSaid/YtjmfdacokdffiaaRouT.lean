/- The document's Serves, at rows that fit over a tree. -/
import Derived.Test.YtjmfdacokdffiaaRouS
set_option linter.unusedSimpArgs false
set_option linter.unusedVariables false
namespace Go.Proofs.Ytjmfdacokdffiaa
open Go.RowKit

theorem near_nd (ps : List Int) (a : Int) : (nearOf ps a).Nodup := by
  unfold nearOf
  split
  · exact near_nodup _ _ _
  · exact List.nodup_nil
theorem near_len {ps : List Int} (hp : IsTree ps) (a : Int) : (nearOf ps a).length ≤ 6 := by
  have h6 : ps.length ≤ 6 := hp.choose_spec.six
  unfold nearOf
  split
  · exact Nat.le_trans (nearTo_len _ _ _) h6
  · simp
/-- What is served, of the near ones ahead of a place. -/
def srvK (NS : List Nat) (s : Int) (full : List Rg) (k : Nat) : List Rg := if s ∈ ints (NS.take k) then full else []
theorem srvK_zero (NS : List Nat) (s : Int) (full : List Rg) : srvK NS s full 0 = [] := by simp [srvK, ints]
theorem take_mem {NS : List Nat} {k y : Nat} {s : Int} (h : NS[k]? = some y) : s ∈ ints (NS.take (k + 1)) ↔ s ∈ ints (NS.take k) ∨ s = y := by
  obtain ⟨hlt, he⟩ := List.getElem?_eq_some_iff.1 h
  rw [List.take_succ_eq_append_getElem hlt, he]
  unfold ints
  rw [List.map_append, List.mem_append]
  simp
theorem srvK_no {NS : List Nat} {k y : Nat} {s : Int} {full : List Rg} (h : NS[k]? = some y) (hn : s ≠ y) : srvK NS s full (k + 1) = srvK NS s full k := by
  unfold srvK
  by_cases hm : s ∈ ints (NS.take k)
  · rw [if_pos hm, if_pos ((take_mem h).2 (.inl hm))]
  · rw [if_neg hm, if_neg (fun g => ((take_mem h).1 g).elim hm hn)]
theorem srvK_yes {NS : List Nat} {k y : Nat} {full : List Rg} (hd : NS.Nodup) (h : NS[k]? = some y) : srvK NS (y : Nat) full k = [] ∧ srvK NS (y : Nat) full (k + 1) = full := by
  refine ⟨?_, by unfold srvK; rw [if_pos ((take_mem h).2 (.inr rfl))]⟩
  unfold srvK
  rw [if_neg]
  intro hm
  obtain ⟨z, hz, e⟩ := List.mem_map.1 hm
  obtain rfl : z = y := by have e2 : ((z : Nat) : Int) = y := e; omega
  obtain ⟨j, hj⟩ := List.getElem?_of_mem hz
  have hjl := (List.getElem?_eq_some_iff.1 hj).1
  rw [List.length_take] at hjl
  rw [List.getElem?_take_of_lt (by omega)] at hj
  obtain ⟨h1, e1⟩ := List.getElem?_eq_some_iff.1 hj
  obtain ⟨h2, e2⟩ := List.getElem?_eq_some_iff.1 h
  have := List.pairwise_iff_getElem.1 hd j k h1 h2 (by omega)
  rw [e1, e2] at this
  exact this rfl
theorem and_comm_b (x y : Nat) : (bits .and .i64 (x : Int) (y : Int) == 0) = (bits .and .i64 (y : Int) (x : Int) == 0) := by rw [and_comm64]
set_option maxRecDepth 20000 in
set_option maxHeartbeats 4000000 in
theorem r9serves_any (A B C : Option Addr) (n1 c1 n2 c2 n3 c3 : Nat) (es : List Nat) (os ps : List Int) (a s : Int) (w : World) (hr : RowW w A n1 c1 B n2 c2 C n3 c3 (rgs es) os ps) (hf : FitT es os ps n3) :
    Calls Try.prog 24 #[.agg #[.slice A n1 c1, .slice B n2 c2, .slice C n3 c3], .int .i64 a, .int .i64 s] w fun e w' => ∃ D n4 c4, e = .returned (.slice D n4 c4) ∧ RowS w' D n4 c4 (srv es os ps n3 a s) ∧ Kept w w' := by
  obtain ⟨i0, hi, hz0, hz1, hz2⟩ := info_parts infoRg
  have HI := Lib.hid hi
  have HR := Lib.hid hr
  have HF := Lib.hid hf
  have h1 : n1 = es.length + 1 := by have := hr.rs.1; rw [rgs_len] at this; omega
  have h2 : n2 = n1 := by have := hr.os.1; have := hf.fit.len; omega
  have hl6 := hf.fit.up.six
  obtain ⟨ob, oo, rfl, hoc⟩ := hr.os.2.2.2.2 (by omega)
  obtain ⟨rb, ro, rfl, hrc⟩ := hr.rs.2.2.2.2 (by omega)
  have HOC : Hid (∀ i, i < n2 → ∃ o : Nat, o < 64 ∧ oa os i = o ∧ w.cell? ⟨ob, oo + i, none⟩ = some (.int .i64 (o : Nat))) := fun i hi => by
    have h := oa_bd hf.fit (i := i) (by omega)
    refine ⟨(oa os i).toNat, by omega, by omega, ?_⟩
    rw [show (((oa os i).toNat : Nat) : Int) = oa os i by omega]
    exact hoc i hi
  have HRC : Hid (∀ i, i < n1 → w.cell? ⟨rb, ro + i * 2, none⟩ = some (.string (fr es i)) ∧ w.cell? ⟨rb, ro + i * 2 + 1, none⟩ = some (.string (to es i))) := fun i hi => by
    have := hrc i hi
    rwa [rgs_at (by omega)] at this
  have hb := hr.bd
  have hc1 : n1 ≤ c1 := hr.rs.2.1
  have hc2 : n2 ≤ c2 := hr.os.2.1
  have hn7 : 1 ≤ n1 ∧ n1 ≤ 7 := by omega
  have HN1 := Lib.hid h1
  have hs64 : sideTo ps a s n3 < 64 := Nat.lt_of_lt_of_le (sideTo_lt ps a s n3) (two_le hf.fit.six)
  have HSD : Hid (∀ w9, Kept w w9 → Calls Try.prog 14 #[.slice C n3 c3, .int .i64 a, .int .i64 s] w9 fun e w' => e = .returned (.int .i64 (sideTo ps a s n3 : Nat)) ∧ Kept w9 w') := fun w9 h9 => rside C n3 c3 ps a s w9 (HR.out.ps.keep h9)
  have hsv : Hid (srv es os ps n3 a s = if s ∈ ints (nearOf ps a) then srvTo es os (sideTo ps a s n3 : Nat) n1 else []) := by
    unfold Hid srv
    rw [← h1]
  have hM7 := near_len hf.tree a
  have hND : Hid (nearOf ps a).Nodup := near_nd ps a
  clear hr hf hoc hrc hi h1 hl6
  subst h2
  generalize sideTo ps a s n3 = M at *
  obtain ⟨full, hfull⟩ : ∃ l, srvTo es os (M : Nat) n2 = l := ⟨_, rfl⟩
  have HFU := Lib.hid hfull
  rw [hfull] at hsv
  have hsv2 : Hid (srv es os ps n3 a s = srvK (nearOf ps a) s full (nearOf ps a).length) := by
    unfold Hid
    rw [hsv.out]
    unfold srvK
    rw [List.take_length]
  clear hfull hsv
  go_enter Try.func24, Try.ntmps24
  go_wp2_with fail
  refine (r9check_is _ _ C n2 c1 n2 c2 n3 c3 es os ps _ (HR.out.keep (by repeat (first | exact Kept.refl _ | assumption | (refine Kept.alloc ?_ _) | (refine Kept.setCell ?_ (by first | omega | (simp; omega) | simp) _) | refine Kept.drew ?_ | refine Kept.drewN ?_ _ | (apply Kept.call; rotate_left; assumption)))) HF.out.fit).mono ?_
  rintro e w1 ⟨rfl, k1⟩
  rw [treeB_yes HF.out.tree]
  have K1 : Kept w w1 := Kept.call (by repeat (first | exact Kept.refl _ | assumption | (refine Kept.alloc ?_ _) | (refine Kept.setCell ?_ (by first | omega | (simp; omega) | simp) _) | refine Kept.drew ?_ | refine Kept.drewN ?_ _ | (apply Kept.call; rotate_left; assumption))) k1
  have e0 : w1.cell? ⟨w.heap.size, 0, none⟩ = some (.slice (some ⟨rb, ro, none⟩) n2 c1) := k1.at_ (by go_simp)
  have e1 : w1.cell? ⟨w.heap.size, 1, none⟩ = some (.slice (some ⟨ob, oo, none⟩) n2 c2) := k1.at_ (by go_simp)
  have e2 : w1.cell? ⟨w.heap.size, 2, none⟩ = some (.slice C n3 c3) := k1.at_ (by go_simp)
  go_wp2_with fail
  refine (rnear C n3 c3 ps a _ (HR.out.ps.keep K1)).mono ?_
  rintro e w2 ⟨A2, x2, rfl, hia, k2⟩
  have K2 := K1.call k2
  have e0 := k2.at_ e0
  have e1 := k2.at_ e1
  have e2 := k2.at_ e2
  generalize nearOf ps a = NS at *
  obtain ⟨L, hL⟩ : ∃ M, NS.length = M := ⟨_, rfl⟩
  have HL := Lib.hid hL
  rw [hL] at hia hM7 hsv2 ⊢
  have hmc : L ≤ x2 ∧ x2 ≤ 9223372036854775807 := by have h1 := hia.2.1; have h2 := hia.2.2.1; unfold maxLen at h2; omega
  have HIA := Lib.hid hia
  clear hia hL
  go_wp2_with fail
  go_loopw [8, 10] (fun ov kv wr => ∃ (k l : Nat) (v : Value), ov = v ∧ k ≤ L ∧ kv = .int .i64 k ∧ Hid ((srvK NS s full k).length = l) ∧ Hid (wr.ownsRow w2.heap.size 52 2 v l (rgC (srvK NS s full k))) ∧ Kept w2 wr) (fun _ kv _ => L - (intOf kv).toNat)
  case atStart => exact ⟨0, 0, _, rfl, by omega, rfl, by unfold Hid; rw [srvK_zero]; rfl, by unfold Hid; rw [srvK_zero]; exact World.ownsRow_nil _ _ _ _, Kept.refl _⟩
  case round =>
    obtain ⟨k, l, v, rfl, hk, rfl, hl, HO, kr⟩ := hrel
    by_cases hlt : k < L
    · obtain ⟨y, hy⟩ : ∃ y, NS[k]? = some y := ⟨_, List.getElem?_eq_getElem (by rw [HL.out]; exact hlt)⟩
      obtain ⟨b, off, rfl, hcc⟩ := HIA.out.2.2.2.2 (by omega)
      have q1 : w2.cell? ⟨b, off + k, none⟩ = some (.int .i64 (y : Nat)) := by rw [hcc k hlt, ints_get hy]
      by_cases hys : s = (y : Nat)
      · subst hys
        obtain ⟨hs1, hs2⟩ := srvK_yes (full := full) hND.out hy
        have HS2 := Lib.hid hs2
        rw [hs1] at hl HO
        obtain rfl : 0 = l := hl.out
        have q2 := kr.at_ q1
        clear hcc hy hs1 hs2 hl
        go_wp2_with fail
        go_loopw [8, 11] (fun ov iv w9 => ∃ (j l : Nat) (v : Value), ov = v ∧ j ≤ n2 ∧ iv = .int .i64 j ∧ Hid ((srvTo es os (M : Nat) j).length = l) ∧ Hid (w9.ownsRow w2.heap.size 52 2 v l (rgC (srvTo es os (M : Nat) j))) ∧ Kept w2 w9) (fun _ iv _ => n2 - (intOf iv).toNat)
        case atStart => exact ⟨0, 0, _, rfl, by omega, rfl, rfl, HO, kr⟩
        case round =>
          obtain ⟨j, l, v, rfl, hj, rfl, hl, HO9, kr9⟩ := hrel
          have hl6 : l ≤ j := by rw [← hl.out]; exact srvTo_len es os M j
          have q3 := kr9.at_ q1
          have z0 := kr9.at_ e0
          have z1 := kr9.at_ e1
          have z2 := kr9.at_ e2
          by_cases hjn : j < n2
          · obtain ⟨o, ho64, hoo, hco⟩ := HOC.out j hjn
            have co := kr9.at_ (K2.at_ hco)
            have cr1 := kr9.at_ (K2.at_ (HRC.out j hjn).1)
            have cr2 := kr9.at_ (K2.at_ (HRC.out j hjn).2)
            have HME := Lib.hid (fun w9 => rmeet_is M o w9 hs64 ho64)
            have HNN : Hid ((bits .and .i64 (M : Int) (o : Int) == 0) = true → srvTo es os M (j + 1) = srvTo es os M j) := fun h => srvTo_no (by rw [hoo, and_comm_b]; exact h)
            have HNY : Hid ((bits .and .i64 (M : Int) (o : Int) == 0) = false → srvTo es os M (j + 1) = srvTo es os M j ++ [(fr es j, to es j)]) := fun h => srvTo_yes (by rw [hoo, and_comm_b]; exact h)
            clear hoo hco
            generalize fr es j = f at *
            generalize to es j = t at *
            cases hv : (bits .and .i64 (M : Int) (o : Int) == 0)
            · rw [hv] at HME
              have hn := Lib.hid (HNY.out hv)
              have hln2 : Hid ((srvTo es os (M : Nat) (j + 1)).length = l + 1) := by unfold Hid; rw [hn.out, List.length_append, hl.out]; rfl
              have hol : Hid ((rgC (srvTo es os M j)).length = l * 2) := by unfold Hid; rw [rgC_len, hl.out]
              clear hv
              go_wp2_with fail
              refine wp_region_text keepsOne (fun wB => Kept w2 wB ∧ Kept wr wB ∧ wB.cell? ⟨w.heap.size, 0, none⟩ = some (.slice (some ⟨rb, ro, none⟩) n2 c1) ∧ wB.cell? ⟨w.heap.size, 1, none⟩ = some (.slice (some ⟨ob, oo, none⟩) n2 c2) ∧ wB.cell? ⟨w.heap.size, 2, none⟩ = some (.slice C n3 c3) ∧ wB.cell? ⟨ob, oo + j, none⟩ = some (.int .i64 (o : Nat))) ?_ (by kernel_rfl) (by kernel_rfl) _ (by (try simp only [List.append_eq, List.cons_append, List.nil_append, List.toList_toArray]); exact rfl) ?_
              · exact ⟨by repeat (first | exact Kept.refl _ | assumption | (refine Kept.alloc ?_ _) | (refine Kept.setCell ?_ (by first | omega | (simp; omega) | simp) _) | refine Kept.drew ?_ | refine Kept.drewN ?_ _ | (apply Kept.call; rotate_left; assumption)), by repeat (first | exact Kept.refl _ | assumption | (refine Kept.alloc ?_ _) | (refine Kept.setCell ?_ (by first | omega | (simp; omega) | simp) _) | refine Kept.drew ?_ | refine Kept.drewN ?_ _ | (apply Kept.call; rotate_left; assumption)), by first | assumption | go_simp, by first | assumption | go_simp, by first | assumption | go_simp, by first | assumption | go_simp⟩
              rintro wB ⟨hkB, hkB1, sB1, sB2, sB3, sB4⟩
              repeat (first | (apply DW.det; (focus (intro wd hI; have hkd1 := hkB1.call hI; have td1 := hI.at_ sB1; have td2 := hI.at_ sB2; have td3 := hI.at_ sB3; have td4 := hI.at_ sB4; skip; go_wp2_with (first | (go_at_call 14; refine (HSD.out _ (K2.call (hkB.call hI))).mono ?_; rintro e w6 ⟨rfl, hb6⟩) | (go_at_call 13; refine (HME.out _).mono ?_; rintro e w8 ⟨rfl, hb8⟩)); refine StepPost.mk _ rfl ⟨rfl, ?_⟩; repeat (first | exact Kept.refl _ | assumption | (refine Kept.alloc ?_ _) | (refine Kept.setCell ?_ (by first | omega | (simp; omega) | simp) _) | refine Kept.drew ?_ | refine Kept.drewN ?_ _ | (apply Kept.call; rotate_left; assumption)))); simp only [Act.put, List.setIfInBounds_toArray, List.set_cons_succ, List.set_cons_zero]) | (refine DW.loud (by kernel_rfl) ?_; intro wd hI; have hkd1 := hkB1.call hI; have td1 := hI.at_ sB1; have td2 := hI.at_ sB2; have td3 := hI.at_ sB3; have td4 := hI.at_ sB4; skip; go_wp2_with (first | (go_at_call 14; refine (HSD.out _ (K2.call (hkB.call hI))).mono ?_; rintro e w6 ⟨rfl, hb6⟩) | (go_at_call 13; refine (HME.out _).mono ?_; rintro e w8 ⟨rfl, hb8⟩)); refine StepPost.loud _ rfl (by repeat (first | exact Kept.refl _ | assumption | (refine Kept.alloc ?_ _) | (refine Kept.setCell ?_ (by first | omega | (simp; omega) | simp) _) | refine Kept.drew ?_ | refine Kept.drewN ?_ _ | (apply Kept.call; rotate_left; assumption))) (fun hkL => ?_); have hkL := hI.call hkL; have hkB := hkB.call hkL; have hkB1 := hkB1.call hkL; have sB1 := hkL.at_ sB1; have sB2 := hkL.at_ sB2; have sB3 := hkL.at_ sB3; have sB4 := hkL.at_ sB4; simp only [Act.put, List.setIfInBounds_toArray, List.set_cons_succ, List.set_cons_zero]))
              refine DW.nil ?_
              intro wd hI
              have hkd := hkB.call hI
              have hkd1 := hkB1.call hI; have td1 := hI.at_ sB1; have td2 := hI.at_ sB2; have td3 := hI.at_ sB3; have td4 := hI.at_ sB4
              have HO2 := Lib.hid (Kept.own HO9.out (show Kept wr wd from hkd1))
              have cr1 := hkd1.at_ cr1
              have cr2 := hkd1.at_ cr2
              have hwd := hkd.size
              go_wp2_with (at_builtin; refine wpList_append_own_at _ rfl _ _ 26 rfl w2.heap.size 52 i0 (.agg #[.string ⟨#[]⟩, .string ⟨#[]⟩]) 2 32 Try.underlying26 HI.out hz0 hz1 hz2 rfl (by decide) _ l _ rfl (HO2.out.alloc _) ⟨wd.heap.size, 0, none⟩ 1 1 [.string f, .string t] rfl rfl (cells_two _ _ _ _) (by simp [Value.oneCell']) (by unfold maxLen; omega) (by omega) (by simp only [World.size_alloc]; omega) ?_; intro v3 w3 hown3 hgrow3 _ _; have HL3 := HO2.out.lt; have K3 : Kept w2 w3 := (hkd.alloc _).grown hgrow3 (fun g hg => (HL3 g hg).1); rw [rgC_snoc _ (f, t), ← hn.out] at hown3; have HO3 := Lib.hid hown3; clear hown3 hgrow3)
              go_roundw
              case rel => first | exact ⟨j + 1, l + 1, _, rfl, by omega, by go_num, hln2, HO3, K3⟩ | ((repeat apply Exists.intro); exact ⟨⟨j + 1, l + 1, _, rfl, by omega, by go_num, hln2, HO3, K3⟩, rfl⟩)
              case measure => simp [intOf]; omega
            · rw [hv] at HME
              have hn := Lib.hid (HNN.out hv)
              clear hv
              go_wp2_with fail
              refine wp_region_text keepsOne (fun wB => Kept w2 wB ∧ Kept wr wB ∧ wB.cell? ⟨w.heap.size, 0, none⟩ = some (.slice (some ⟨rb, ro, none⟩) n2 c1) ∧ wB.cell? ⟨w.heap.size, 1, none⟩ = some (.slice (some ⟨ob, oo, none⟩) n2 c2) ∧ wB.cell? ⟨w.heap.size, 2, none⟩ = some (.slice C n3 c3) ∧ wB.cell? ⟨ob, oo + j, none⟩ = some (.int .i64 (o : Nat))) ?_ (by kernel_rfl) (by kernel_rfl) _ (by (try simp only [List.append_eq, List.cons_append, List.nil_append, List.toList_toArray]); exact rfl) ?_
              · exact ⟨by repeat (first | exact Kept.refl _ | assumption | (refine Kept.alloc ?_ _) | (refine Kept.setCell ?_ (by first | omega | (simp; omega) | simp) _) | refine Kept.drew ?_ | refine Kept.drewN ?_ _ | (apply Kept.call; rotate_left; assumption)), by repeat (first | exact Kept.refl _ | assumption | (refine Kept.alloc ?_ _) | (refine Kept.setCell ?_ (by first | omega | (simp; omega) | simp) _) | refine Kept.drew ?_ | refine Kept.drewN ?_ _ | (apply Kept.call; rotate_left; assumption)), by first | assumption | go_simp, by first | assumption | go_simp, by first | assumption | go_simp, by first | assumption | go_simp⟩
              rintro wB ⟨hkB, hkB1, sB1, sB2, sB3, sB4⟩
              repeat (first | (apply DW.det; (focus (intro wd hI; have hkd1 := hkB1.call hI; have td1 := hI.at_ sB1; have td2 := hI.at_ sB2; have td3 := hI.at_ sB3; have td4 := hI.at_ sB4; skip; go_wp2_with (first | (go_at_call 14; refine (HSD.out _ (K2.call (hkB.call hI))).mono ?_; rintro e w6 ⟨rfl, hb6⟩) | (go_at_call 13; refine (HME.out _).mono ?_; rintro e w8 ⟨rfl, hb8⟩)); refine StepPost.mk _ rfl ⟨rfl, ?_⟩; repeat (first | exact Kept.refl _ | assumption | (refine Kept.alloc ?_ _) | (refine Kept.setCell ?_ (by first | omega | (simp; omega) | simp) _) | refine Kept.drew ?_ | refine Kept.drewN ?_ _ | (apply Kept.call; rotate_left; assumption)))); simp only [Act.put, List.setIfInBounds_toArray, List.set_cons_succ, List.set_cons_zero]) | (refine DW.loud (by kernel_rfl) ?_; intro wd hI; have hkd1 := hkB1.call hI; have td1 := hI.at_ sB1; have td2 := hI.at_ sB2; have td3 := hI.at_ sB3; have td4 := hI.at_ sB4; skip; go_wp2_with (first | (go_at_call 14; refine (HSD.out _ (K2.call (hkB.call hI))).mono ?_; rintro e w6 ⟨rfl, hb6⟩) | (go_at_call 13; refine (HME.out _).mono ?_; rintro e w8 ⟨rfl, hb8⟩)); refine StepPost.loud _ rfl (by repeat (first | exact Kept.refl _ | assumption | (refine Kept.alloc ?_ _) | (refine Kept.setCell ?_ (by first | omega | (simp; omega) | simp) _) | refine Kept.drew ?_ | refine Kept.drewN ?_ _ | (apply Kept.call; rotate_left; assumption))) (fun hkL => ?_); have hkL := hI.call hkL; have hkB := hkB.call hkL; have hkB1 := hkB1.call hkL; have sB1 := hkL.at_ sB1; have sB2 := hkL.at_ sB2; have sB3 := hkL.at_ sB3; have sB4 := hkL.at_ sB4; simp only [Act.put, List.setIfInBounds_toArray, List.set_cons_succ, List.set_cons_zero]))
              refine DW.nil ?_
              intro wd hI
              have hkd := hkB.call hI
              have hkd1 := hkB1.call hI; have td1 := hI.at_ sB1; have td2 := hI.at_ sB2; have td3 := hI.at_ sB3; have td4 := hI.at_ sB4
              have HO2 := Lib.hid (Kept.own HO9.out (show Kept wr wd from hkd1))
              go_wp2_with fail
              go_roundw
              case rel => first | exact ⟨j + 1, l, _, rfl, by omega, by go_num, by rw [hn.out]; exact hl, by rw [hn.out]; exact HO2, hkd⟩ | ((repeat apply Exists.intro); exact ⟨⟨j + 1, l, _, rfl, by omega, by go_num, by rw [hn.out]; exact hl, by rw [hn.out]; exact HO2, hkd⟩, rfl⟩)
              case measure => simp [intOf]; omega
          · obtain rfl : j = n2 := by omega
            rw [HFU.out] at hl HO9
            go_wp2_with fail
            go_roundw
            case rel => first | exact ⟨k + 1, l, _, rfl, by omega, by go_num, by rw [HS2.out]; exact hl, by rw [HS2.out]; exact HO9, kr9⟩ | ((repeat apply Exists.intro); exact ⟨⟨k + 1, l, _, rfl, by omega, by go_num, by rw [HS2.out]; exact hl, by rw [HS2.out]; exact HO9, kr9⟩, rfl⟩)
            case measure => simp [intOf]; omega
      · have hsn := Lib.hid (srvK_no (full := full) hy hys)
        have q2 := kr.at_ q1
        have z0 := kr.at_ e0
        have dys : (((y : Nat) : Int) == s) = false := by simpa using fun e => hys e.symm
        clear hcc hy hys
        go_wp2_with fail
        go_loopw [8, 11] (fun ov iv w9 => ∃ v : Value, ov = v ∧ iv = .int .i64 0 ∧ Kept w2 w9 ∧ Hid (w9.ownsRow w2.heap.size 52 2 v l (rgC (srvK NS s full k)))) (fun _ _ _ => 0)
        case atStart => exact ⟨_, rfl, rfl, kr, HO⟩
        case round =>
          obtain ⟨v, rfl, rfl, kr9, HO9⟩ := hrel
          have q3 := kr9.at_ q1
          have z0 := kr9.at_ e0
          go_wp2_with fail
          go_roundw
          case rel => first | exact ⟨k + 1, l, _, rfl, by omega, by go_num, by rw [hsn.out]; exact hl, by rw [hsn.out]; exact HO9, kr9⟩ | ((repeat apply Exists.intro); exact ⟨⟨k + 1, l, _, rfl, by omega, by go_num, by rw [hsn.out]; exact hl, by rw [hsn.out]; exact HO9, kr9⟩, rfl⟩)
          case measure => simp [intOf]; omega
    · obtain rfl : k = L := by omega
      obtain ⟨A5, c4, rfl, hia⟩ := RowS.of_own HO.out
      have HIA5 := Lib.hid hia
      clear hia
      go_wp2_with fail
      go_ret
      exact ⟨A5, l, c4, rfl, by rw [hsv2.out]; exact HIA5.out, K2.call kr⟩
end Go.Proofs.Ytjmfdacokdffiaa
