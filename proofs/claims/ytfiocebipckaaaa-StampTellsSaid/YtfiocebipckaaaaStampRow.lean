/- The walk of the law StampRow: it returns true for all rows of stamps. -/
import Derived.Test.YtfiocebipckaaaaStampBack
import Derived.Test.YtfiocebipckaaaaStampOpen
import Derived.Deep.CutBlock
import Derived.Deep.DeepCutAuto
set_option linter.unusedSimpArgs false
set_option linter.unusedVariables false
namespace Go.Proofs.Ytfiocebipckaaaa
open Go.RowKit
/-- Stamps' bytes, one behind the other. -/
def pairs (l : List (Nat × Nat)) : List UInt8 := (l.map fun x => pairB x.1 x.2).flatten
theorem pairs_snoc (l : List (Nat × Nat)) (x : Nat × Nat) : pairs (l ++ [x]) = pairs l ++ pairB x.1 x.2 := by simp [pairs]
theorem pairs_app (l m : List (Nat × Nat)) : pairs (l ++ m) = pairs l ++ pairs m := by simp [pairs]
/-- A stamp that may be. -/
def Ok (x : Nat × Nat) : Prop := 1 ≤ x.1 ∧ x.1 ≤ 1099511627776 ∧ x.2 < 6
/-- The cells of such stamps. -/
def stC (l : List (Nat × Nat)) : List Value := (l.map fun x => [Value.int .i64 (x.1 : Nat), .int .i64 (x.2 : Nat)]).flatten
theorem stC_snoc (l : List (Nat × Nat)) (x : Nat × Nat) : stC (l ++ [x]) = stC l ++ [.int .i64 (x.1 : Nat), .int .i64 (x.2 : Nat)] := by simp [stC]
theorem stC_len (l : List (Nat × Nat)) : (stC l).length = l.length * 2 := by
  induction l with
  | nil => rfl
  | cons a l ih =>
    have e : stC (a :: l) = [.int .i64 (a.1 : Nat), .int .i64 (a.2 : Nat)] ++ stC l := rfl
    rw [e, List.length_append, ih, List.length_cons]
    simp; omega
theorem stC_at (l : List (Nat × Nat)) : ∀ (i : Nat) (x : Nat × Nat), l[i]? = some x → (stC l)[i * 2]? = some (.int .i64 (x.1 : Nat)) ∧ (stC l)[i * 2 + 1]? = some (.int .i64 (x.2 : Nat)) := by
  induction l with
  | nil => intro i x h; simp at h
  | cons a l ih =>
    intro i x h
    have e : stC (a :: l) = .int .i64 (a.1 : Nat) :: .int .i64 (a.2 : Nat) :: stC l := rfl
    cases i with
    | zero => simp at h; subst h; rw [e]; simp
    | succ i =>
      have := ih i x (by simpa using h)
      rw [e, show (i + 1) * 2 = i * 2 + 1 + 1 by omega]
      simpa using this
theorem two_new (w : World) (a b : Value) (t : TypeId) : ∀ (j : Nat) (u : Value), [a, b][j]? = some u → (w.alloc (.cells #[a, b] t)).cell? ((⟨w.heap.size, 0, none⟩ : Addr).add j) = some u := by
  intro j u hu
  have e : ((⟨w.heap.size, 0, none⟩ : Addr).add j) = ⟨w.heap.size, j, none⟩ := by simp [Addr.add]; omega
  rw [e, Lib.cell_of_heap (heap_alloc_new w _), ← hu]
  exact List.getElem?_toArray
theorem infoSt : (Try.prog.info? 24).map (fun i => (i.zero, i.size, i.bytes)) = some (some (.agg #[.int .i64 0, .int .i64 0]), 2, 16) := by kernel_rfl
theorem Kept.own {w w2 : World} {base e k n : Nat} {v : Value} {xs : List Value} (h : w.ownsRow base e k v n xs) (hk : Kept w w2) : w2.ownsRow base e k v n xs := by
  refine h.kept (row := none) ⟨hk.os, hk.tape, hk.output, hk.size, fun k hlt _ => hk.block k hlt⟩ ?_
  rcases hv : v.ownBlock with _ | g
  · exact .inl rfl
  · exact .inr (by simp)

theorem ms_split (ms : List (Nat × Nat)) (i : Nat) (x : Nat × Nat) (h : ms[i]? = some x) : pairs ms = pairs (ms.take i) ++ (pairB x.1 x.2 ++ pairs (ms.drop (i + 1))) := by
  obtain ⟨hl, he⟩ := List.getElem?_eq_some_iff.1 h
  have e : ms = ms.take i ++ (x :: ms.drop (i + 1)) := by
    rw [← he, ← List.drop_eq_getElem_cons hl, List.take_append_drop]
  conv => lhs; rw [e]
  rw [pairs_app]
  rfl
theorem pairs_take (ms : List (Nat × Nat)) (i : Nat) (x : Nat × Nat) (h : ms[i]? = some x) : pairs (ms.take (i + 1)) = pairs (ms.take i) ++ pairB x.1 x.2 := by
  rw [List.take_add_one, h, Option.toList_some, pairs_snoc]
theorem pair_cut (n s m t : Nat) (h : pairB m t <+: (pairB n s).take ((pairB n s).length - 1)) : False := by
  have h1 : pairB m t <+: pairB n s := h.trans (List.take_prefix _ _)
  obtain ⟨rfl, rfl⟩ := pair_inj h1 (List.prefix_refl _)
  have h2 := h.length_le
  have h3 := enc_pos m
  rw [List.length_take, pair_len] at h2
  omega
/-- With the last byte gone the last one is none. -/
theorem cut_last (ms : List (Nat × Nat)) (i : Nat) (x : Nat × Nat) (h : ms[i]? = some x) (hi : i + 1 = ms.length) (m t : Nat) : ¬ pairB m t <+: ((pairs ms).take ((pairs ms).length - 1)).drop (pairs (ms.take i)).length := by
  intro hp
  have e := ms_split ms i x h
  rw [List.drop_of_length_le (show ms.length ≤ i + 1 by omega)] at e
  have e2 : pairs ([] : List (Nat × Nat)) = [] := rfl
  rw [e2, List.append_nil] at e
  have h1 := pair_len x.1 x.2
  have h2 := enc_pos x.1
  rw [e, List.drop_take, List.drop_left, List.length_append, show (pairs (ms.take i)).length + (pairB x.1 x.2).length - 1 - (pairs (ms.take i)).length = (pairB x.1 x.2).length - 1 by omega] at hp
  exact pair_cut _ _ _ _ hp

set_option maxHeartbeats 4000000 in
set_option maxRecDepth 100000 in
theorem stampRow_walk (A : Option Addr) (n c : Nat) (xs : List (Int × Int)) (w : World) (hS : StampsAt w A n xs) (hn0 : A = none → c = 0) (hnc : n ≤ c) (hx : ∀ x ∈ xs, (Lit.int .i64 x.1).wf = true ∧ (Lit.int .i64 x.2).wf = true) :
    Calls Try.prog 8 #[.slice A n c] w fun e w' => e = .returned (.bool true) ∧ Kept w w' := by
  obtain ⟨i0, hi, hz0, hz1, hz2⟩ := info_parts infoSt
  have HI := Lib.hid hi
  have HS := Lib.hid hS
  have hnm := hS.2.1
  unfold maxLen at hnm
  clear hi hS hn0 hx
  go_enter Try.func8, Try.ntmps8
  go_wp2_with fail
  refine (awake_any _).mono ?_
  rintro e w1 ⟨rfl, k1⟩
  go_wp2_with fail
  go_loopw [4, 5, 6] (fun sv mv iv wr => ∃ (i : Nat) (ms : List (Nat × Nat)) (l : Nat) (v : Value) (s : ByteArray), mv = v ∧ i ≤ n ∧ i ≤ 6 ∧ iv = .int .i64 i ∧ sv = .string s ∧ s.data.toList = pairs ms ∧ ms.length = l ∧ l ≤ i ∧ s.size ≤ 20 * i ∧ (∀ x ∈ ms, Ok x) ∧ wr.ownsRow w.heap.size 24 2 v l (stC ms) ∧ Kept w wr) (fun _ _ i _ => 6 - (intOf i).toNat)
  case atStart => exact ⟨0, [], 0, _, ⟨#[]⟩, rfl, by omega, by omega, rfl, rfl, rfl, rfl, by omega, Nat.zero_le _, (fun x h => by cases h), World.ownsRow_nil _ _ _ _, k1⟩
  case round =>
    obtain ⟨i, ms, l, v, s, rfl, hin, hi6, rfl, rfl, hs, hl, hli, hsz, hok, ho, kr⟩ := hrel
    have HSS := Lib.hid hs
    have HL := Lib.hid hl
    have HOK := Lib.hid hok
    have HO := Lib.hid ho
    clear hs hl hok ho
    by_cases h12 : i < n ∧ i < 6
    · obtain ⟨h1, h2⟩ := h12
      obtain ⟨b, off, rfl, hc⟩ := HS.out.2.2 (by omega)
      obtain ⟨c0, c1⟩ := hc i h1
      have c0' := kr.at_ c0
      have c1' := kr.at_ c1
      clear hc c0 c1
      generalize xs[i]?.getD (0, 0) = x at *
      obtain ⟨xn, xm⟩ := x
      simp only at c0' c1'
      go_wp2_with fail
      by_cases hv : 1 ≤ xn ∧ xn ≤ 1099511627776 ∧ 0 ≤ xm ∧ xm < 6
      · obtain ⟨v1, v2, v3, v4⟩ := hv
        obtain ⟨N, hN⟩ := Int.eq_ofNat_of_zero_le (show 0 ≤ xn by omega)
        obtain ⟨M, hM⟩ := Int.eq_ofNat_of_zero_le (show 0 ≤ xm by omega)
        subst hN hM
        have hw := pair_len N M
        have hw1 := enc_ten N (by omega)
        have hw2 := enc_ten M (by omega)
        have hwz : (stB N M).size ≤ 20 := by have := stB_size N M; omega
        clear hw hw1 hw2
        refine (check_yes N M _ (by omega)).mono ?_
        rintro e w2 ⟨rfl, k2⟩
        have c0'' := k2.at_ c0'
        have c1'' := k2.at_ c1'
        have K2 := kr.call k2
        go_wp2_with fail
        refine (bytes_yes N M _ (by omega) (by omega) (by omega)).mono ?_
        rintro e w3 ⟨rfl, k3⟩
        have d0 := k3.at_ c0''
        have d1 := k3.at_ c1''
        have K3 := K2.call k3
        have HO3 := Lib.hid (Kept.own (Kept.own HO.out k2) k3)
        have hz3 := K3.size
        clear c0' c1' c0'' c1''
        have hol : Hid ((stC ms).length = l * 2) := by unfold Hid; rw [stC_len, HL.out]
        go_wp2_with (at_builtin; refine wpList_append_own _ rfl _ _ 33 rfl w.heap.size 24 i0 (.agg #[.int .i64 0, .int .i64 0]) 2 16 Try.underlying33 HI.out hz0 hz1 hz2 rfl (by decide) _ l _ rfl (HO3.out.alloc _) ⟨w3.heap.size, 0, none⟩ 1 1 [.int .i64 (N : Nat), .int .i64 (M : Nat)] rfl rfl (two_new _ _ _ _) (by simp [Value.oneCell']) (by unfold maxLen; omega) (by omega) (by simp; omega) ?_; intro v4 w4 hown4 hgrow4 _; have HL4 := HO3.out.lt; have K4 : Kept w w4 := (K3.alloc _).grown hgrow4 (fun g hg => (HL4 g hg).1); rw [← stC_snoc ms (N, M)] at hown4; have HO4 := Lib.hid hown4; clear hown4)
        have hs2 : (s ++ stB N M).data.toList = pairs (ms ++ [(N, M)]) := by rw [bs_app, HSS.out, pairs_snoc]; rfl
        have hz2 : (s ++ stB N M).size ≤ 20 * (i + 1) := by rw [ByteArray.size_append]; omega
        have HS2 := Lib.hid hs2
        clear hs2
        go_roundw
        case rel => first | exact ⟨i + 1, ms ++ [(N, M)], l + 1, _, _, rfl, by omega, by omega, by go_num, rfl, HS2.out, by rw [List.length_append, HL.out]; rfl, by omega, hz2, fun x hx => by rcases List.mem_append.1 hx with h | h; exact HOK.out x h; (simp only [List.mem_singleton] at h; rw [h]; exact ⟨by omega, by omega, by omega⟩), HO4.out, K4⟩ | ((repeat apply Exists.intro); exact ⟨⟨i + 1, ms ++ [(N, M)], l + 1, _, _, rfl, by omega, by omega, by go_num, rfl, HS2.out, by rw [List.length_append, HL.out]; rfl, by omega, hz2, fun x hx => by rcases List.mem_append.1 hx with h | h; exact HOK.out x h; (simp only [List.mem_singleton] at h; rw [h]; exact ⟨by omega, by omega, by omega⟩), HO4.out, K4⟩, rfl⟩)
        case measure => simp [intOf]; omega
      · have HV := Lib.hid hv
        clear hv
        refine (check_no xn xm _ HV.out).mono ?_
        rintro e w2 ⟨rfl, k2⟩
        have HO2 := Lib.hid (Kept.own HO.out k2)
        go_wp2_with fail
        go_roundw
        case rel => first | exact ⟨i + 1, ms, l, _, s, rfl, by omega, by omega, by go_num, rfl, HSS.out, HL.out, by omega, by omega, HOK.out, HO2.out, kr.call k2⟩ | ((repeat apply Exists.intro); exact ⟨⟨i + 1, ms, l, _, s, rfl, by omega, by omega, by go_num, rfl, HSS.out, HL.out, by omega, by omega, HOK.out, HO2.out, kr.call k2⟩, rfl⟩)
        case measure => simp [intOf]; omega
    · have hex : i = n ∨ (i < n ∧ i = 6) := by omega
      clear h12
      have hwm : ∃ wm, wm = wr := ⟨_, rfl⟩
      obtain ⟨wm, hwm⟩ := hwm
      subst hwm
      rcases hex with rfl | ⟨h1, rfl⟩
      · skip
        go_wp2_with fail
        go_loopw [7, 8] (fun av iv wr => ∃ (j a : Nat), j ≤ l ∧ av = .int .i64 a ∧ a = (pairs (ms.take j)).length ∧ iv = .int .i64 j ∧ Kept w wr ∧ Kept wm wr) (fun _ iv _ => l - (intOf iv).toNat)
        case atStart => exact ⟨0, 0, by omega, rfl, rfl, rfl, kr, Kept.refl _⟩
        case round =>
          clear kr
          obtain ⟨j, a, hj, rfl, ha, rfl, kr, kw⟩ := hrel
          have HA := Lib.hid ha
          clear ha
          by_cases hlt : j < l
          · obtain ⟨x, hx⟩ : ∃ x, ms[j]? = some x := ⟨_, List.getElem?_eq_getElem (by rw [HL.out]; exact hlt)⟩
            obtain ⟨xN, xM⟩ := x
            have hox := HOK.out _ (List.mem_of_getElem? hx)
            obtain ⟨o1, o2, o3⟩ := hox
            simp only at o1 o2 o3
            obtain ⟨lp, hlp⟩ : ∃ lp, (pairB xN xM).length = lp := ⟨_, rfl⟩
            have hsp := ms_split ms j (xN, xM) hx
            have hap : a + lp ≤ s.size := by
              have e1 := congrArg List.length HSS.out
              rw [hsp, List.length_append, List.length_append, ← HA.out] at e1
              have e2 : s.data.toList.length = s.size := rfl
              simp only at e1
              omega
            have hlp1 : 0 < lp := by have h1 := pair_len xN xM; have h2 := enc_pos xN; omega
            have hpp : pairB xN xM <+: s.data.toList.drop a := by
              rw [HSS.out, hsp, HA.out, List.drop_left]
              exact List.prefix_append _ _
            have hnx : (pairs (ms.take (j + 1))).length = a + lp := by rw [pairs_take ms j _ hx, List.length_append, ← HA.out, hlp]
            have HNX := Lib.hid hnx
            have HPP := Lib.hid hpp
            have HX := Lib.hid hx
            have HLP := Lib.hid hlp
            have HSP := Lib.hid hsp
            clear hnx hpp hx hlp hsp
            have hs200 : s.size ≤ 200 := by omega
            obtain ⟨g, cap, rfl, hgl1, hgl, hgc⟩ : ∃ g cap, u5 = .slice (some ⟨g, 0, none⟩) l cap ∧ l ≤ cap ∧ cap ≤ maxLen ∧ ∀ i, i < l * 2 → wm.cell? ⟨g, i, none⟩ = (stC ms)[i]? := by
              rcases HO.out.2 with ⟨_, h0⟩ | ⟨g, cap, cur, e1, _, hg, q1, q2, _, _⟩
              · omega
              · exact ⟨g, cap, e1, q1, q2, fun i hi => by have h := HO.out; rw [e1] at h; exact h.cellAt i hi⟩
            have HGC := Lib.hid hgc
            clear hgc
            go_wp2_with fail
            refine (sread_yes s a a xN xM lp _ (by omega) rfl o1 o2 o3 HPP.out HLP.out.symm).mono ?_
            rintro e w5 ⟨rfl, k5⟩
            have K5 := kr.call k5
            have kg : Kept wm w5 := kw.call k5
            obtain ⟨q0, q1⟩ := stC_at ms j (xN, xM) HX.out
            have m0 := kg.at_ ((HGC.out (j * 2) (by omega)).trans q0)
            have m1 := kg.at_ ((HGC.out (j * 2 + 1) (by omega)).trans q1)
            have hgz : g < w5.heap.size := World.block_lt_of_cell? w5 _ m0
            clear q0 q1
            unfold maxLen at hgl
            have hx5 := heap_alloc_new w5 (.cells #[.int .i64 xN, .int .i64 xM] 24)
            have x0 : (w5.alloc (.cells #[.int .i64 xN, .int .i64 xM] 24)).cell? ⟨w5.heap.size, 0, none⟩ = some (.int .i64 xN) := by rw [Lib.cell_of_heap hx5]; rfl
            have x1 : (w5.alloc (.cells #[.int .i64 xN, .int .i64 xM] 24)).cell? ⟨w5.heap.size, 1, none⟩ = some (.int .i64 xM) := by rw [Lib.cell_of_heap hx5]; rfl
            have HX5 := Lib.hid hx5
            clear hx5
            go_wp2_with fail
            refine wp_region_text keepsOne (fun wB => Kept w wB ∧ Kept w5 wB ∧ wB.cell? ⟨w5.heap.size, 0, none⟩ = some (.int .i64 xN) ∧ wB.cell? ⟨w5.heap.size, 1, none⟩ = some (.int .i64 xM) ∧ wB.cell? ⟨g, j * 2, none⟩ = some (.int .i64 xN) ∧ wB.cell? ⟨g, j * 2 + 1, none⟩ = some (.int .i64 xM)) ?_ (by kernel_rfl) (by kernel_rfl) _ rfl ?_
            · exact ⟨by repeat (first | exact Kept.refl _ | assumption | (refine Kept.alloc ?_ _) | (refine Kept.setCell ?_ (by first | omega | (simp; omega) | simp) _) | refine Kept.drew ?_ | refine Kept.drewN ?_ _ | (apply Kept.call; rotate_left; assumption)), by repeat (first | exact Kept.refl _ | assumption | (refine Kept.alloc ?_ _) | (refine Kept.setCell ?_ (by first | omega | (simp; omega) | simp) _) | refine Kept.drew ?_ | refine Kept.drewN ?_ _ | (apply Kept.call; rotate_left; assumption)), by first | assumption | go_simp, by first | assumption | go_simp, by first | assumption | go_simp, by first | assumption | go_simp⟩
            rintro wB ⟨hkB, hkB1, sB1, sB2, sB3, sB4⟩
            repeat (first | (apply DW.det; (focus (intro wd hI; have hkd1 := hkB1.call hI; have td1 := hI.at_ sB1; have td2 := hI.at_ sB2; have td3 := hI.at_ sB3; have td4 := hI.at_ sB4; skip; go_wp2_with fail; refine StepPost.mk _ rfl ⟨rfl, ?_⟩; repeat (first | exact Kept.refl _ | assumption | (refine Kept.alloc ?_ _) | (refine Kept.setCell ?_ (by first | omega | (simp; omega) | simp) _) | refine Kept.drew ?_ | refine Kept.drewN ?_ _ | (apply Kept.call; rotate_left; assumption)))); simp only [Act.put, List.setIfInBounds_toArray, List.set_cons_succ, List.set_cons_zero]) | (refine DW.loud (by kernel_rfl) ?_; intro wd hI; have hkd1 := hkB1.call hI; have td1 := hI.at_ sB1; have td2 := hI.at_ sB2; have td3 := hI.at_ sB3; have td4 := hI.at_ sB4; skip; go_wp2_with fail; refine StepPost.loud _ rfl (by repeat (first | exact Kept.refl _ | assumption | (refine Kept.alloc ?_ _) | (refine Kept.setCell ?_ (by first | omega | (simp; omega) | simp) _) | refine Kept.drew ?_ | refine Kept.drewN ?_ _ | (apply Kept.call; rotate_left; assumption))) (fun hkL => ?_); have hkL := hI.call hkL; have hkB := hkB.call hkL; have hkB1 := hkB1.call hkL; have sB1 := hkL.at_ sB1; have sB2 := hkL.at_ sB2; have sB3 := hkL.at_ sB3; have sB4 := hkL.at_ sB4; simp only [Act.put, List.setIfInBounds_toArray, List.set_cons_succ, List.set_cons_zero]))
            refine DW.nil ?_
            intro wd hI
            have hkd := hkB.call hI
            have hkd1 := hkB1.call hI; have td1 := hI.at_ sB1; have td2 := hI.at_ sB2; have td3 := hI.at_ sB3; have td4 := hI.at_ sB4
            have kwd : Kept wm wd := kg.call hkd1
            rcases Nat.lt_or_ge (j + 1) l with hlast | hlast
            · have hb : ((j : Int) == (l : Int) - 1) = false := by simp; omega
              go_wp2_with fail
              go_roundw
              case rel => first | exact ⟨j + 1, a + lp, by omega, by go_num, HNX.out.symm, by go_num, hkd, kwd⟩ | ((repeat apply Exists.intro); exact ⟨⟨j + 1, a + lp, by omega, by go_num, HNX.out.symm, by go_num, hkd, kwd⟩, rfl⟩)
              case measure => simp [intOf]; omega
            · have hb : ((j : Int) == (l : Int) - 1) = true := by simp; omega
              go_wp2_with fail
              refine (sread_no (s.extract 0 (s.size - 1)) a _ (by rw [ByteArray.size_extract]; omega) (fun _ m t _ _ _ => by
                rw [ext_take, HSS.out]
                have e2 : s.size = (pairs ms).length := by rw [← HSS.out]; rfl
                show ¬ pairB m t <+: ((pairs ms).take (s.size - 1)).drop a
                rw [e2, HA.out]
                exact cut_last ms j (xN, xM) HX.out (by rw [HL.out]; omega) m t)).mono ?_
              rintro e w6 ⟨rfl, k6⟩
              have K6 : Kept w (w6.alloc (.cells #[.int .i64 0, .int .i64 0] 24)) := (hkd.call k6).alloc _
              have kw6 : Kept wm (w6.alloc (.cells #[.int .i64 0, .int .i64 0] 24)) := (kwd.call k6).alloc _
              go_wp2_with fail
              go_roundw
              case rel => first | exact ⟨j + 1, a + lp, by omega, by go_num, HNX.out.symm, by go_num, K6, kw6⟩ | ((repeat apply Exists.intro); exact ⟨⟨j + 1, a + lp, by omega, by go_num, HNX.out.symm, by go_num, K6, kw6⟩, rfl⟩)
              case measure => simp [intOf]; omega
          · have hfin : Hid (a = s.size) := by
              unfold Hid
              rw [HA.out, List.take_of_length_le (by rw [HL.out]; omega), ← HSS.out]; rfl
            have hb : ((a : Int) == (s.size : Int)) = true := by have := hfin.out; simp; omega
            obtain ⟨SA, sc, hform⟩ : ∃ SA sc, u5 = .slice SA l sc := by
              rcases HO.out.2 with ⟨e1, h0⟩ | ⟨g, cap, cur, e1, _⟩
              · exact ⟨none, 0, by rw [e1, h0]⟩
              · exact ⟨_, _, e1⟩
            subst hform
            go_wp2_with fail
            go_ret
            exact ⟨by first | rfl | exact ret_bool (by simp), kr⟩
      · skip
        go_wp2_with fail
        go_loopw [7, 8] (fun av iv wr => ∃ (j a : Nat), j ≤ l ∧ av = .int .i64 a ∧ a = (pairs (ms.take j)).length ∧ iv = .int .i64 j ∧ Kept w wr ∧ Kept wm wr) (fun _ iv _ => l - (intOf iv).toNat)
        case atStart => exact ⟨0, 0, by omega, rfl, rfl, rfl, kr, Kept.refl _⟩
        case round =>
          clear kr
          obtain ⟨j, a, hj, rfl, ha, rfl, kr, kw⟩ := hrel
          have HA := Lib.hid ha
          clear ha
          by_cases hlt : j < l
          · obtain ⟨x, hx⟩ : ∃ x, ms[j]? = some x := ⟨_, List.getElem?_eq_getElem (by rw [HL.out]; exact hlt)⟩
            obtain ⟨xN, xM⟩ := x
            have hox := HOK.out _ (List.mem_of_getElem? hx)
            obtain ⟨o1, o2, o3⟩ := hox
            simp only at o1 o2 o3
            obtain ⟨lp, hlp⟩ : ∃ lp, (pairB xN xM).length = lp := ⟨_, rfl⟩
            have hsp := ms_split ms j (xN, xM) hx
            have hap : a + lp ≤ s.size := by
              have e1 := congrArg List.length HSS.out
              rw [hsp, List.length_append, List.length_append, ← HA.out] at e1
              have e2 : s.data.toList.length = s.size := rfl
              simp only at e1
              omega
            have hlp1 : 0 < lp := by have h1 := pair_len xN xM; have h2 := enc_pos xN; omega
            have hpp : pairB xN xM <+: s.data.toList.drop a := by
              rw [HSS.out, hsp, HA.out, List.drop_left]
              exact List.prefix_append _ _
            have hnx : (pairs (ms.take (j + 1))).length = a + lp := by rw [pairs_take ms j _ hx, List.length_append, ← HA.out, hlp]
            have HNX := Lib.hid hnx
            have HPP := Lib.hid hpp
            have HX := Lib.hid hx
            have HLP := Lib.hid hlp
            have HSP := Lib.hid hsp
            clear hnx hpp hx hlp hsp
            have hs200 : s.size ≤ 200 := by omega
            obtain ⟨g, cap, rfl, hgl1, hgl, hgc⟩ : ∃ g cap, u5 = .slice (some ⟨g, 0, none⟩) l cap ∧ l ≤ cap ∧ cap ≤ maxLen ∧ ∀ i, i < l * 2 → wm.cell? ⟨g, i, none⟩ = (stC ms)[i]? := by
              rcases HO.out.2 with ⟨_, h0⟩ | ⟨g, cap, cur, e1, _, hg, q1, q2, _, _⟩
              · omega
              · exact ⟨g, cap, e1, q1, q2, fun i hi => by have h := HO.out; rw [e1] at h; exact h.cellAt i hi⟩
            have HGC := Lib.hid hgc
            clear hgc
            go_wp2_with fail
            refine (sread_yes s a a xN xM lp _ (by omega) rfl o1 o2 o3 HPP.out HLP.out.symm).mono ?_
            rintro e w5 ⟨rfl, k5⟩
            have K5 := kr.call k5
            have kg : Kept wm w5 := kw.call k5
            obtain ⟨q0, q1⟩ := stC_at ms j (xN, xM) HX.out
            have m0 := kg.at_ ((HGC.out (j * 2) (by omega)).trans q0)
            have m1 := kg.at_ ((HGC.out (j * 2 + 1) (by omega)).trans q1)
            have hgz : g < w5.heap.size := World.block_lt_of_cell? w5 _ m0
            clear q0 q1
            unfold maxLen at hgl
            have hx5 := heap_alloc_new w5 (.cells #[.int .i64 xN, .int .i64 xM] 24)
            have x0 : (w5.alloc (.cells #[.int .i64 xN, .int .i64 xM] 24)).cell? ⟨w5.heap.size, 0, none⟩ = some (.int .i64 xN) := by rw [Lib.cell_of_heap hx5]; rfl
            have x1 : (w5.alloc (.cells #[.int .i64 xN, .int .i64 xM] 24)).cell? ⟨w5.heap.size, 1, none⟩ = some (.int .i64 xM) := by rw [Lib.cell_of_heap hx5]; rfl
            have HX5 := Lib.hid hx5
            clear hx5
            go_wp2_with fail
            refine wp_region_text keepsOne (fun wB => Kept w wB ∧ Kept w5 wB ∧ wB.cell? ⟨w5.heap.size, 0, none⟩ = some (.int .i64 xN) ∧ wB.cell? ⟨w5.heap.size, 1, none⟩ = some (.int .i64 xM) ∧ wB.cell? ⟨g, j * 2, none⟩ = some (.int .i64 xN) ∧ wB.cell? ⟨g, j * 2 + 1, none⟩ = some (.int .i64 xM)) ?_ (by kernel_rfl) (by kernel_rfl) _ rfl ?_
            · exact ⟨by repeat (first | exact Kept.refl _ | assumption | (refine Kept.alloc ?_ _) | (refine Kept.setCell ?_ (by first | omega | (simp; omega) | simp) _) | refine Kept.drew ?_ | refine Kept.drewN ?_ _ | (apply Kept.call; rotate_left; assumption)), by repeat (first | exact Kept.refl _ | assumption | (refine Kept.alloc ?_ _) | (refine Kept.setCell ?_ (by first | omega | (simp; omega) | simp) _) | refine Kept.drew ?_ | refine Kept.drewN ?_ _ | (apply Kept.call; rotate_left; assumption)), by first | assumption | go_simp, by first | assumption | go_simp, by first | assumption | go_simp, by first | assumption | go_simp⟩
            rintro wB ⟨hkB, hkB1, sB1, sB2, sB3, sB4⟩
            repeat (first | (apply DW.det; (focus (intro wd hI; have hkd1 := hkB1.call hI; have td1 := hI.at_ sB1; have td2 := hI.at_ sB2; have td3 := hI.at_ sB3; have td4 := hI.at_ sB4; skip; go_wp2_with fail; refine StepPost.mk _ rfl ⟨rfl, ?_⟩; repeat (first | exact Kept.refl _ | assumption | (refine Kept.alloc ?_ _) | (refine Kept.setCell ?_ (by first | omega | (simp; omega) | simp) _) | refine Kept.drew ?_ | refine Kept.drewN ?_ _ | (apply Kept.call; rotate_left; assumption)))); simp only [Act.put, List.setIfInBounds_toArray, List.set_cons_succ, List.set_cons_zero]) | (refine DW.loud (by kernel_rfl) ?_; intro wd hI; have hkd1 := hkB1.call hI; have td1 := hI.at_ sB1; have td2 := hI.at_ sB2; have td3 := hI.at_ sB3; have td4 := hI.at_ sB4; skip; go_wp2_with fail; refine StepPost.loud _ rfl (by repeat (first | exact Kept.refl _ | assumption | (refine Kept.alloc ?_ _) | (refine Kept.setCell ?_ (by first | omega | (simp; omega) | simp) _) | refine Kept.drew ?_ | refine Kept.drewN ?_ _ | (apply Kept.call; rotate_left; assumption))) (fun hkL => ?_); have hkL := hI.call hkL; have hkB := hkB.call hkL; have hkB1 := hkB1.call hkL; have sB1 := hkL.at_ sB1; have sB2 := hkL.at_ sB2; have sB3 := hkL.at_ sB3; have sB4 := hkL.at_ sB4; simp only [Act.put, List.setIfInBounds_toArray, List.set_cons_succ, List.set_cons_zero]))
            refine DW.nil ?_
            intro wd hI
            have hkd := hkB.call hI
            have hkd1 := hkB1.call hI; have td1 := hI.at_ sB1; have td2 := hI.at_ sB2; have td3 := hI.at_ sB3; have td4 := hI.at_ sB4
            have kwd : Kept wm wd := kg.call hkd1
            rcases Nat.lt_or_ge (j + 1) l with hlast | hlast
            · have hb : ((j : Int) == (l : Int) - 1) = false := by simp; omega
              go_wp2_with fail
              go_roundw
              case rel => first | exact ⟨j + 1, a + lp, by omega, by go_num, HNX.out.symm, by go_num, hkd, kwd⟩ | ((repeat apply Exists.intro); exact ⟨⟨j + 1, a + lp, by omega, by go_num, HNX.out.symm, by go_num, hkd, kwd⟩, rfl⟩)
              case measure => simp [intOf]; omega
            · have hb : ((j : Int) == (l : Int) - 1) = true := by simp; omega
              go_wp2_with fail
              refine (sread_no (s.extract 0 (s.size - 1)) a _ (by rw [ByteArray.size_extract]; omega) (fun _ m t _ _ _ => by
                rw [ext_take, HSS.out]
                have e2 : s.size = (pairs ms).length := by rw [← HSS.out]; rfl
                show ¬ pairB m t <+: ((pairs ms).take (s.size - 1)).drop a
                rw [e2, HA.out]
                exact cut_last ms j (xN, xM) HX.out (by rw [HL.out]; omega) m t)).mono ?_
              rintro e w6 ⟨rfl, k6⟩
              have K6 : Kept w (w6.alloc (.cells #[.int .i64 0, .int .i64 0] 24)) := (hkd.call k6).alloc _
              have kw6 : Kept wm (w6.alloc (.cells #[.int .i64 0, .int .i64 0] 24)) := (kwd.call k6).alloc _
              go_wp2_with fail
              go_roundw
              case rel => first | exact ⟨j + 1, a + lp, by omega, by go_num, HNX.out.symm, by go_num, K6, kw6⟩ | ((repeat apply Exists.intro); exact ⟨⟨j + 1, a + lp, by omega, by go_num, HNX.out.symm, by go_num, K6, kw6⟩, rfl⟩)
              case measure => simp [intOf]; omega
          · have hfin : Hid (a = s.size) := by
              unfold Hid
              rw [HA.out, List.take_of_length_le (by rw [HL.out]; omega), ← HSS.out]; rfl
            have hb : ((a : Int) == (s.size : Int)) = true := by have := hfin.out; simp; omega
            obtain ⟨SA, sc, hform⟩ : ∃ SA sc, u5 = .slice SA l sc := by
              rcases HO.out.2 with ⟨e1, h0⟩ | ⟨g, cap, cur, e1, _⟩
              · exact ⟨none, 0, by rw [e1, h0]⟩
              · exact ⟨_, _, e1⟩
            subst hform
            go_wp2_with fail
            go_ret
            exact ⟨by first | rfl | exact ret_bool (by simp), kr⟩
end Go.Proofs.Ytfiocebipckaaaa
