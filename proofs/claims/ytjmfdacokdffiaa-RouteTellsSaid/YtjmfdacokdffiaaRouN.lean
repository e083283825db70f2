/- slices.Contains; the program's Serves; the first range of a row that has a key. -/
import Derived.Test.YtjmfdacokdffiaaRouM
set_option linter.unusedSimpArgs false
set_option linter.unusedVariables false
namespace Go.Proofs.Ytjmfdacokdffiaa
open Go.RowKit

set_option maxHeartbeats 1000000 in
theorem index2_any (A : Option Addr) (n c : Nat) (p : List Int) (v : Int) (w : World) (hx : IntsAt w A n c p) :
    Calls Try.prog 49 #[.slice A n c, .int .i64 v] w fun e w' => ∃ r : Int, e = .returned (.int .i64 r) ∧ (v ∈ p → 0 ≤ r) ∧ (0 ≤ r → v ∈ p) ∧ -1 ≤ r ∧ r < 9223372036854775808 ∧ Kept w w' := by
  have HX := Lib.hid hx
  have hn : n ≤ 9223372036854775807 := by have h1 := hx.2.1; have h2 := hx.2.2.1; unfold maxLen at h2; omega
  have hnc := hx.2.1
  have hpl := Lib.hid hx.1
  clear hx
  go_enter Try.func49, Try.ntmps49
  go_wp2_with fail
  go_loopw [8] (fun iv wr => ∃ j : Nat, j ≤ n ∧ iv = .int .i64 j ∧ Kept w wr ∧ Hid (∀ i, i < j → pa p i ≠ v)) (fun iv _ => n - (intOf iv).toNat)
  case atStart => exact ⟨0, by omega, rfl, by repeat (first | exact Kept.refl _ | assumption | (refine Kept.alloc ?_ _) | (refine Kept.setCell ?_ (by first | omega | (simp; omega) | simp) _) | refine Kept.drew ?_ | refine Kept.drewN ?_ _ | (apply Kept.call; rotate_left; assumption)), fun i hi => by omega⟩
  case round =>
    obtain ⟨j, hj, rfl, kr, hall⟩ := hrel
    by_cases hlt : j < n
    · obtain ⟨b, off, rfl, hc⟩ := HX.out.2.2.2.2 (by omega)
      have c1 : wr.cell? ⟨b, off + j, none⟩ = some (.int .i64 (pa p j)) := kr.at_ (hc j hlt)
      have hm : Hid (pa p j ∈ p) := by
        unfold Hid pa
        rw [List.getElem?_eq_getElem (by rw [hpl.out]; exact hlt)]
        exact List.getElem_mem _
      clear hc
      by_cases e : v = pa p j
      · rw [← e] at hm c1
        clear e
        go_wp2_with fail
        go_ret
        exact ⟨(j : Int), rfl, fun _ => by omega, fun _ => hm.out, by omega, by omega, kr⟩
      · have d1 : (v == pa p j) = false := by simpa using e
        have hall2 : Hid (∀ i, i < j + 1 → pa p i ≠ v) := fun i hi => by
          rcases Nat.lt_or_ge i j with g | g
          · exact hall.out i g
          · obtain rfl : i = j := by omega
            exact fun h => e h.symm
        clear e
        generalize pa p j = q at *
        go_wp2_with fail
        go_roundw
        case rel => first | exact ⟨j + 1, by omega, by go_num, kr, hall2⟩ | ((repeat apply Exists.intro); exact ⟨⟨j + 1, by omega, by go_num, kr, hall2⟩, rfl⟩)
        case measure => simp [intOf]; omega
    · obtain rfl : j = n := by omega
      go_wp2_with fail
      go_ret
      refine ⟨-1, rfl, fun h => ?_, fun h => by omega, by omega, by omega, kr⟩
      obtain ⟨i, hi⟩ := List.getElem?_of_mem h
      have hl := (List.getElem?_eq_some_iff.1 hi).1
      exact absurd (by unfold pa; rw [hi]; rfl) (hall.out i (by rw [← hpl.out]; exact hl))
theorem contains_any (A : Option Addr) (n c : Nat) (p : List Int) (v : Int) (w : World) (hx : IntsAt w A n c p) :
    Calls Try.prog 44 #[.slice A n c, .int .i64 v] w fun e w' => e = .returned (.bool (decide (v ∈ p))) ∧ Kept w w' := by
  have HX := Lib.hid hx
  clear hx
  go_enter Try.func44, Try.ntmps44
  go_wp2_with fail
  refine (index2_any A n c p v _ HX.out).mono ?_
  rintro e w1 ⟨r, rfl, h1, h2, h3, h4, k1⟩
  have hv : Hid (decide (v ∈ p) = decide (0 ≤ r)) := decide_eq_decide.2 ⟨h1, h2⟩
  clear h1 h2
  go_wp2_with fail
  go_ret
  exact ⟨by rw [hv.out]; rfl, k1⟩
/-- The ranges that a step serves, ahead of a place. -/
def srvTo (es : List Nat) (os : List Int) (M : Int) (j : Nat) : List Rg := ((List.range j).filter fun i => !(bits .and .i64 (oa os i) M == 0)).map fun i => (fr es i, to es i)
theorem srvTo_yes {es : List Nat} {os : List Int} {M : Int} {j : Nat} (h : (bits .and .i64 (oa os j) M == 0) = false) : srvTo es os M (j + 1) = srvTo es os M j ++ [(fr es j, to es j)] := by simp [srvTo, List.range_succ, h]
theorem srvTo_no {es : List Nat} {os : List Int} {M : Int} {j : Nat} (h : (bits .and .i64 (oa os j) M == 0) = true) : srvTo es os M (j + 1) = srvTo es os M j := by simp [srvTo, List.range_succ, h]
theorem srvTo_len (es : List Nat) (os : List Int) (M : Int) (j : Nat) : (srvTo es os M j).length ≤ j := by
  have := List.length_filter_le (fun i => !(bits .and .i64 (oa os i) M == 0)) (List.range j)
  simpa [srvTo] using this
noncomputable def srv (es : List Nat) (os ps : List Int) (n : Nat) (a b : Int) : List Rg := if b ∈ ints (nearOf ps a) then srvTo es os (sideTo ps a b n : Nat) (es.length + 1) else []
set_option maxRecDepth 20000 in
set_option maxHeartbeats 4000000 in
theorem serves_any (A B C : Option Addr) (n1 c1 n2 c2 n3 c3 : Nat) (es : List Nat) (os ps : List Int) (a s : Int) (w : World) (hr : RowW w A n1 c1 B n2 c2 C n3 c3 (rgs es) os ps) (hf : FitT es os ps n3) :
    Calls Try.prog 23 #[.agg #[.slice A n1 c1, .slice B n2 c2, .slice C n3 c3], .int .i64 a, .int .i64 s] w fun e w' => ∃ D n4 c4, e = .returned (.slice D n4 c4) ∧ RowS w' D n4 c4 (srv es os ps n3 a s) ∧ Kept w w' := by
  obtain ⟨i0, hi, hz0, hz1, hz2⟩ := info_parts infoRg
  have HI := Lib.hid hi
  have HR := Lib.hid hr
  have HF := Lib.hid hf
  have h1 : n1 = es.length + 1 := by have := hr.rs.1; rw [rgs_len] at this; omega
  have h2 : n2 = n1 := by have := hr.os.1; have := hf.fit.len; omega
  have hl6 := hf.fit.up.six
  obtain ⟨ob, oo, rfl, hoc⟩ := hr.os.2.2.2.2 (by omega)
  obtain ⟨rb, ro, rfl, hrc⟩ := hr.rs.2.2.2.2 (by omega)
  have HOC : Hid (∀ i, i < n2 → w.cell? ⟨ob, oo + i, none⟩ = some (.int .i64 (oa os i))) := hoc
  have HRC : Hid (∀ i, i < n1 → w.cell? ⟨rb, ro + i * 2, none⟩ = some (.string (fr es i)) ∧ w.cell? ⟨rb, ro + i * 2 + 1, none⟩ = some (.string (to es i))) := fun i hi => by
    have := hrc i hi
    rwa [rgs_at (by omega)] at this
  have HB : Hid (∀ i, i < n1 → 0 ≤ oa os i ∧ oa os i < 64) := fun i hi => oa_bd hf.fit (by omega)
  have hb := hr.bd
  have hc1 : n1 ≤ c1 := hr.rs.2.1
  have hc2 : n2 ≤ c2 := hr.os.2.1
  have hn7 : n1 ≤ 7 := by omega
  have HN1 := Lib.hid h1
  have hs64 : sideTo ps a s n3 < 64 := Nat.lt_of_lt_of_le (sideTo_lt ps a s n3) (two_le hf.fit.six)
  clear hr hf hoc hrc hi h1 hl6
  subst h2
  go_enter Try.func23, Try.ntmps23
  go_wp2_with fail
  go_step3
  go_wp2_with fail
  refine (rcheck_yes _ _ C n2 c1 n2 c2 n3 c3 es os ps _ (HR.out.keep (by repeat (first | exact Kept.refl _ | assumption | (refine Kept.alloc ?_ _) | (refine Kept.setCell ?_ (by first | omega | (simp; omega) | simp) _) | refine Kept.drew ?_ | refine Kept.drewN ?_ _ | (apply Kept.call; rotate_left; assumption)))) HF.out).mono ?_
  rintro e w1 ⟨rfl, k1⟩
  have K1 : Kept w w1 := Kept.call (by repeat (first | exact Kept.refl _ | assumption | (refine Kept.alloc ?_ _) | (refine Kept.setCell ?_ (by first | omega | (simp; omega) | simp) _) | refine Kept.drew ?_ | refine Kept.drewN ?_ _ | (apply Kept.call; rotate_left; assumption))) k1
  have e0 : w1.cell? ⟨w.heap.size, 0, none⟩ = some (.slice (some ⟨rb, ro, none⟩) n2 c1) := k1.at_ (by go_simp)
  have e1 : w1.cell? ⟨w.heap.size, 1, none⟩ = some (.slice (some ⟨ob, oo, none⟩) n2 c2) := k1.at_ (by go_simp)
  have e2 : w1.cell? ⟨w.heap.size, 2, none⟩ = some (.slice C n3 c3) := k1.at_ (by go_simp)
  go_wp2_with fail
  refine (tnear C n3 c3 ps a _ (HR.out.ps.keep K1)).mono ?_
  rintro e w2 ⟨A2, x2, rfl, hia, k2⟩
  have HIA := Lib.hid hia
  have K2 := K1.call k2
  have e0 := k2.at_ e0
  have e1 := k2.at_ e1
  have e2 := k2.at_ e2
  clear hia
  go_wp2_with fail
  refine (contains_any A2 _ x2 _ s _ HIA.out).mono ?_
  rintro e w3 ⟨rfl, k3⟩
  have K3 := K2.call k3
  have e0 := k3.at_ e0
  have e1 := k3.at_ e1
  have e2 := k3.at_ e2
  by_cases hin : s ∈ ints (nearOf ps a)
  · have hsv : Hid (srv es os ps n3 a s = srvTo es os (sideTo ps a s n3 : Nat) n2) := by
      unfold Hid srv
      rw [if_pos hin, ← HN1.out]
    rw [decide_eq_true hin]
    clear hin
    go_wp2_with fail
    refine (tside C n3 c3 ps a s _ (HR.out.ps.keep K3)).mono ?_
    rintro e w4 ⟨rfl, k4⟩
    have K4 := K3.call k4
    have e0 := k4.at_ e0
    have e1 := k4.at_ e1
    generalize sideTo ps a s n3 = M at *
    go_wp2_with fail
    go_step3
    go_wp2_with fail
    go_loopw [8, 31] (fun ov iv wr => ∃ (j l : Nat) (v : Value), ov = v ∧ j ≤ n2 ∧ iv = .int .i64 j ∧ (srvTo es os M j).length = l ∧ wr.ownsRow w4.heap.size 52 2 v l (rgC (srvTo es os M j)) ∧ Kept w4 wr) (fun _ iv _ => n2 - (intOf iv).toNat)
    case atStart => exact ⟨0, 0, _, rfl, by omega, rfl, rfl, World.ownsRow_nil _ _ _ _, Kept.refl _⟩
    case round =>
      obtain ⟨j, l, v, rfl, hj, rfl, hl, ho, kr⟩ := hrel
      have hl6 : l ≤ j := by rw [← hl]; exact srvTo_len es os M j
      have HL := Lib.hid hl
      have HO := Lib.hid ho
      clear hl ho
      by_cases hlt : j < n2
      · have co : wr.cell? ⟨ob, oo + j, none⟩ = some (.int .i64 (oa os j)) := kr.at_ (K4.at_ (HOC.out j hlt))
        have cr1 : wr.cell? ⟨rb, ro + j * 2, none⟩ = some (.string (fr es j)) := kr.at_ (K4.at_ (HRC.out j hlt).1)
        have cr2 : wr.cell? ⟨rb, ro + j * 2 + 1, none⟩ = some (.string (to es j)) := kr.at_ (K4.at_ (HRC.out j hlt).2)
        have y1 := kr.at_ e1
        have q1 : w.heap.size < wr.heap.size := World.block_lt_of_cell? wr _ y1
        have q2 : ob < wr.heap.size := World.block_lt_of_cell? wr _ co
        have HNN : Hid ((bits .and .i64 (oa os j) M == 0) = true → srvTo es os M (j + 1) = srvTo es os M j) := srvTo_no
        have HNY : Hid ((bits .and .i64 (oa os j) M == 0) = false → srvTo es os M (j + 1) = srvTo es os M j ++ [(fr es j, to es j)]) := srvTo_yes
        generalize oa os j = o at *
        generalize fr es j = f at *
        generalize to es j = t at *
        cases hv : (bits .and .i64 o M == 0)
        · have hn := Lib.hid (HNY.out hv)
          have hol : Hid ((rgC (srvTo es os M j)).length = l * 2) := by unfold Hid; rw [rgC_len, HL.out]
          have hz : w4.heap.size ≤ wr.heap.size := kr.size
          go_wp2_with (at_builtin; refine wpList_append_own _ rfl _ _ 26 rfl w4.heap.size 52 i0 (.agg #[.string ⟨#[]⟩, .string ⟨#[]⟩]) 2 32 Try.underlying26 HI.out hz0 hz1 hz2 rfl (by decide) _ l _ rfl ((HO.out.alloc _).alloc _) ⟨wr.heap.size + 1, 0, none⟩ 1 1 [.string f, .string t] rfl rfl (cells_two2 _ _ _ _ _) (by simp [Value.oneCell']) (by unfold maxLen; omega) (by omega) (by simp; omega) ?_; intro v3 w3 hown3 hgrow3 _; have HL3 := HO.out.lt; have K3b : Kept w4 w3 := ((kr.alloc _).alloc _).grown hgrow3 (fun g hg => (HL3 g hg).1); rw [rgC_snoc _ (f, t)] at hown3; have HO3 := Lib.hid hown3; clear hown3)
          go_roundw
          case rel => exact ⟨j + 1, l + 1, _, rfl, by omega, by go_num, by rw [hn.out, List.length_append, HL.out]; rfl, by rw [hn.out]; exact HO3.out, K3b⟩
          case measure => simp [intOf]; omega
        · have hn := Lib.hid (HNN.out hv)
          have HO2 := Lib.hid (Kept.own HO.out ((Kept.refl wr).alloc (.cells #[.string f, .string t] 52)))
          have K2b := kr.alloc (.cells #[.string f, .string t] 52)
          go_wp2_with fail
          go_roundw
          case rel => exact ⟨j + 1, l, _, rfl, by omega, by go_num, by rw [hn.out]; exact HL.out, by rw [hn.out]; exact HO2.out, K2b⟩
          case measure => simp [intOf]; omega
      · obtain rfl : j = n2 := by omega
        obtain ⟨A5, c4, rfl, hia⟩ := RowS.of_own HO.out
        have HIA5 := Lib.hid hia
        clear hia
        go_wp2_with fail
        (try rw [Exit.noGoto_ret])
        go_ret
        exact ⟨A5, l, c4, rfl, by rw [hsv.out]; exact HIA5.out, K4.call kr⟩
  · have hsv : Hid (srv es os ps n3 a s = []) := by
      unfold Hid srv
      rw [if_neg hin]
    rw [decide_eq_false hin]
    clear hin
    go_wp2_with fail
    (try rw [Exit.noGoto_ret])
    go_ret
    exact ⟨none, 0, 0, rfl, by rw [hsv.out]; exact ⟨rfl, Nat.le_refl _, by unfold maxLen; omega, fun _ => ⟨rfl, rfl⟩, fun h => by omega⟩, K3⟩
theorem and_comm64 (a b : Int) : bits .and .i64 a b = bits .and .i64 b a := by
  show IntKind.i64.wrap ((BitVec.ofInt 64 a &&& BitVec.ofInt 64 b).toNat : Int) = IntKind.i64.wrap ((BitVec.ofInt 64 b &&& BitVec.ofInt 64 a).toNat : Int)
  rw [BitVec.and_comm]
theorem first_some {rs : List Rg} {k : ByteArray} {r : Int} (h : FirstIs rs k r) : 0 ≤ r ↔ ∃ x ∈ rs, hasB x.1 x.2 k = true := by
  rcases h with ⟨rfl, h⟩ | ⟨i, rfl, hi, h, _⟩
  · refine ⟨fun h => by omega, fun ⟨x, hx, hb⟩ => ?_⟩
    obtain ⟨i, hi⟩ := List.getElem?_of_mem hx
    have := h i (List.getElem?_eq_some_iff.1 hi).1
    unfold rg at this
    rw [hi] at this
    rw [show (some x).getD (nil, nil) = x from rfl, hb] at this
    cases this
  · refine ⟨fun _ => ⟨rg rs i, ?_, h⟩, fun _ => by omega⟩
    unfold rg
    rw [List.getElem?_eq_getElem hi]
    exact List.getElem_mem _
/-- A step serves a key just if an owner of it lies behind. -/
theorem srv_key {es : List Nat} (hu : Up es) (os : List Int) (M : Int) (k : ByteArray) : (∃ x ∈ srvTo es os M (es.length + 1), hasB x.1 x.2 k = true) ↔ (bits .and .i64 (oa os (findI es (hv k))) M == 0) = false := by
  unfold srvTo
  constructor
  · rintro ⟨x, hx, hb⟩
    obtain ⟨i, hi, rfl⟩ := List.mem_map.1 hx
    obtain ⟨h1, h2⟩ := List.mem_filter.1 hi
    have hl := List.mem_range.1 h1
    rw [has_iff hu (by omega), decide_eq_true_eq] at hb
    subst hb
    simpa using h2
  · intro h
    refine ⟨_, List.mem_map.2 ⟨findI es (hv k), List.mem_filter.2 ⟨List.mem_range.2 (by have := find_le es (hv k); omega), by rw [h]; rfl⟩, rfl⟩, ?_⟩
    rw [has_iff hu (find_le es (hv k)), decide_eq_true_eq]
end Go.Proofs.Ytjmfdacokdffiaa
