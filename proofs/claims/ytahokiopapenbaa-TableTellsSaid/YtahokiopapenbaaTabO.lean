/- The document's Ranges and SameRanges, at any row. -/
import Derived.Test.YtahokiopapenbaaTabN
import Derived.Laws.StructEq
set_option linter.unusedSimpArgs false
set_option linter.unusedVariables false
namespace Go.Proofs.Ytahokiopapenbaa
open Go.RowKit

set_option maxHeartbeats 4000000 in
theorem rranges_g (A B C : Option Addr) (n1 c1 n2 c2 n3 c3 : Nat) (rs : List Rg) (os ps : List Int) (s : Int) (w : World) (hr : RowW w A n1 c1 B n2 c2 C n3 c3 rs os ps) (hs : Small rs) :
    Calls Try.prog 21 #[.agg #[.slice A n1 c1, .slice B n2 c2, .slice C n3 c3], .int .i64 s] w fun e w' => ∃ D c4, e = .returned (.slice D (rowF rs os n3 s).length c4) ∧ RowS w' D (rowF rs os n3 s).length c4 (rowF rs os n3 s) ∧ Kept w w' := by
  obtain ⟨fb, hfb⟩ : ∃ fb, fitB rs os n3 = fb := ⟨_, rfl⟩
  have HFB := Lib.hid hfb
  have HR := Lib.hid hr
  have HS := Lib.hid hs
  have hb := hr.bd
  have hc1 : n1 ≤ c1 := hr.rs.2.1
  have hc2 : n2 ≤ c2 := hr.os.2.1
  by_cases g : fb = true ∧ 0 ≤ s ∧ s < 6
  · obtain ⟨rfl, g0, g6⟩ := g
    rw [rowF_yes hfb (hr.rs.1)]
    obtain ⟨i0, hi, hz0, hz1, hz2⟩ := info_parts infoRg
    have HI := Lib.hid hi
    have hfit := (fitB_iff _ _ _).1 hfb
    have h2 : n2 = n1 := by have h1 := hr.rs.1; have h2 := hr.os.1; have h3 := hfit.2.2.2.1; omega
    have hn8 : n1 ≤ 8 := by have h1 := hr.rs.1; have h3 := hfit.2.2.1; omega
    have hn0 : 1 ≤ n1 := by have h1 := hr.rs.1; have h3 := ((wholeB_iff _).1 hfit.2.2.2.2.1).2.1; omega
    obtain ⟨ob, oo, rfl, hoc⟩ := hr.os.2.2.2.2 (by omega)
    obtain ⟨rb, ro, rfl, hrc⟩ := hr.rs.2.2.2.2 (by omega)
    have HOC : Hid (∀ i, i < n2 → w.cell? ⟨ob, oo + i, none⟩ = some (.int .i64 (oa os i))) := hoc
    have HRC : Hid (∀ i, i < n1 → w.cell? ⟨rb, ro + i * 2, none⟩ = some (.string (rg rs i).1) ∧ w.cell? ⟨rb, ro + i * 2 + 1, none⟩ = some (.string (rg rs i).2)) := hrc
    have HB : Hid (∀ i, i < n1 → 0 ≤ oa os i ∧ oa os i < 64) := fun i hi => by
      have h4 := hfit.2.2.2.2.2 i (by have h1 := hr.os.1; omega)
      have h5 := two_le hfit.2.1
      omega
    have d1 : decide ((0 : Int) ≤ s) = true := by simp; omega
    have d2 : decide (s < 6) = true := by simp; omega
    clear hr hs hfit hoc hrc hi hfb
    subst h2
    go_enter Try.func21, Try.ntmps21
    go_wp2_with fail
    refine (r7check_g _ _ C n2 c1 n2 c2 n3 c3 rs os ps _ (HR.out.keep (by repeat (first | exact Kept.refl _ | assumption | (refine Kept.alloc ?_ _) | (refine Kept.setCell ?_ (by first | omega | (simp; omega) | simp) _) | refine Kept.drew ?_ | refine Kept.drewN ?_ _ | (apply Kept.call; rotate_left; assumption)))) HS.out).mono ?_
    rintro e w1 ⟨rfl, k1⟩
    rw [HFB.out]
    have K1 : Kept w w1 := Kept.call (by repeat (first | exact Kept.refl _ | assumption | (refine Kept.alloc ?_ _) | (refine Kept.setCell ?_ (by first | omega | (simp; omega) | simp) _) | refine Kept.drew ?_ | refine Kept.drewN ?_ _ | (apply Kept.call; rotate_left; assumption))) k1
    have e0 : w1.cell? ⟨w.heap.size, 0, none⟩ = some (.slice (some ⟨rb, ro, none⟩) n2 c1) := k1.at_ (by go_simp)
    have e1 : w1.cell? ⟨w.heap.size, 1, none⟩ = some (.slice (some ⟨ob, oo, none⟩) n2 c2) := k1.at_ (by go_simp)
    go_wp2_with fail
    go_loopw [6, 7] (fun ov iv wr => ∃ (j l : Nat) (v : Value), ov = v ∧ j ≤ n2 ∧ iv = .int .i64 j ∧ (rowG rs os s j).length = l ∧ wr.ownsRow w1.heap.size 35 2 v l (rgC (rowG rs os s j)) ∧ Kept w1 wr) (fun _ iv _ => n2 - (intOf iv).toNat)
    case atStart => exact ⟨0, 0, _, rfl, by omega, rfl, rfl, World.ownsRow_nil _ _ _ _, Kept.refl w1⟩
    case round =>
      obtain ⟨j, l, v, rfl, hj, rfl, hl, ho, kr⟩ := hrel
      have hl6 : l ≤ j := by rw [← hl]; exact rowG_len rs os s j
      have HL := Lib.hid hl
      have HO := Lib.hid ho
      clear hl ho
      have e0 := kr.at_ e0
      have e1 := kr.at_ e1
      by_cases hlt : j < n2
      · have co : wr.cell? ⟨ob, oo + j, none⟩ = some (.int .i64 (oa os j)) := kr.at_ (K1.at_ (HOC.out j hlt))
        have cr1 : wr.cell? ⟨rb, ro + j * 2, none⟩ = some (.string (rg rs j).1) := kr.at_ (K1.at_ (HRC.out j hlt).1)
        have cr2 : wr.cell? ⟨rb, ro + j * 2 + 1, none⟩ = some (.string (rg rs j).2) := kr.at_ (K1.at_ (HRC.out j hlt).2)
        have ho2 := HB.out j hlt
        have HNN : Hid (bitB (oa os j) s = false → rowG rs os s (j + 1) = rowG rs os s j) := rowG_no
        have HNY : Hid (bitB (oa os j) s = true → rowG rs os s (j + 1) = rowG rs os s j ++ [rg rs j]) := rowG_yes
        generalize oa os j = o at *
        generalize rg rs j = q at *
        obtain ⟨f, t⟩ := q
        simp only at cr1 cr2
        go_wp2_with fail
        refine (rbit_g o s _ ho2.1 ho2.2 g0 g6).mono ?_
        rintro e w2 ⟨rfl, k2⟩
        have K2 : Kept w1 w2 := Kept.call kr k2
        have cr1 := k2.at_ cr1
        have cr2 := k2.at_ cr2
        have e0 := k2.at_ e0
        have e1 := k2.at_ e1
        have HO2 := Lib.hid (Kept.own HO.out k2)
        cases hv : bitB o s
        · have hn := Lib.hid (HNN.out hv)
          clear hv
          go_wp2_with fail
          go_roundw
          case rel => exact ⟨j + 1, l, _, rfl, by omega, by go_num, by rw [hn.out]; exact HL.out, by rw [hn.out]; exact HO2.out, K2⟩
          case measure => simp [intOf]; omega
        · have hn := Lib.hid (HNY.out hv)
          have hol : Hid ((rgC (rowG rs os s j)).length = l * 2) := by unfold Hid; rw [rgC_len, HL.out]
          have hz : w1.heap.size ≤ w2.heap.size := K2.size
          clear hv
          go_wp2_with (at_builtin; refine wpList_append_own _ rfl _ _ 29 rfl w1.heap.size 35 i0 (.agg #[.string ⟨#[]⟩, .string ⟨#[]⟩]) 2 32 Try.underlying29 HI.out hz0 hz1 hz2 rfl (by decide) _ l _ rfl (HO2.out.alloc _) ⟨w2.heap.size, 0, none⟩ 1 1 [.string f, .string t] rfl rfl (cells_two _ _ _ _) (by simp [Value.oneCell']) (by unfold maxLen; omega) (by omega) (by simp; omega) ?_; intro v3 w3 hown3 hgrow3 _; have HL3 := HO2.out.lt; have K3 : Kept w1 w3 := (K2.alloc _).grown hgrow3 (fun g hg => (HL3 g hg).1); rw [rgC_snoc _ (f, t)] at hown3; have HO3 := Lib.hid hown3; clear hown3)
          go_roundw
          case rel => exact ⟨j + 1, l + 1, _, rfl, by omega, by go_num, by rw [hn.out, List.length_append, HL.out]; rfl, by rw [hn.out]; exact HO3.out, K3⟩
          case measure => simp [intOf]; omega
      · obtain rfl : j = n2 := by omega
        obtain ⟨A2, c4, rfl, hia⟩ := RowS.of_own HO.out
        have HIA := Lib.hid hia
        clear hia
        go_wp2_with fail
        (try rw [Exit.noGoto_ret])
        go_ret
        exact ⟨A2, c4, by rw [HL.out]; rfl, by rw [HL.out]; exact HIA.out, K1.call kr⟩
  · have hF : rowF rs os n3 s = [] := by
      cases fb
      · exact rowF_no hfb
      · rw [rowF_yes hfb rfl]
        exact rowG_out (fun h => g ⟨rfl, h⟩) _
    rw [hF]
    clear hr hs hfb hF
    have hcase : fb = false ∨ (fb = true ∧ s < 0) ∨ (fb = true ∧ ¬ s < 0 ∧ 6 ≤ s) := by
      cases fb
      · exact .inl rfl
      · have g' : ¬ (0 ≤ s ∧ s < 6) := fun h => g ⟨rfl, h⟩
        simp only [true_and, Bool.true_eq_false, false_or]
        omega
    clear g
    obtain ⟨b0, hb0⟩ : ∃ b, decide ((0 : Int) < (n1 : Int)) = b := ⟨_, rfl⟩
    rcases hcase with rfl | ⟨rfl, h1⟩ | ⟨rfl, h1, h2⟩
    · cases b0
      · clear hc2
        go_enter Try.func21, Try.ntmps21
        go_wp2_with fail
        refine (r7check_g A B C n1 c1 n2 c2 n3 c3 rs os ps _ (HR.out.keep (by repeat (first | exact Kept.refl _ | assumption | (refine Kept.alloc ?_ _) | (refine Kept.setCell ?_ (by first | omega | (simp; omega) | simp) _) | refine Kept.drew ?_ | refine Kept.drewN ?_ _ | (apply Kept.call; rotate_left; assumption)))) HS.out).mono ?_
        rintro e w1 ⟨rfl, k1⟩
        rw [HFB.out]
        have K1 : Kept w w1 := Kept.call (by repeat (first | exact Kept.refl _ | assumption | (refine Kept.alloc ?_ _) | (refine Kept.setCell ?_ (by first | omega | (simp; omega) | simp) _) | refine Kept.drew ?_ | refine Kept.drewN ?_ _ | (apply Kept.call; rotate_left; assumption))) k1
        have e0 : w1.cell? ⟨w.heap.size, 0, none⟩ = some (.slice A n1 c1) := k1.at_ (by go_simp)
        go_wp2_with fail
        go_loopw [6, 7] (fun ov iv wr => ov = .slice none 0 0 ∧ iv = .int .i64 0 ∧ Kept w1 wr) (fun _ iv _ => 0)
        case atStart => exact ⟨rfl, rfl, Kept.refl w1⟩
        case round =>
          obtain ⟨rfl, rfl, kr⟩ := hrel
          have e0 := kr.at_ e0
          go_wp2_with fail
          all_goals (try rw [Exit.noGoto_ret])
          all_goals go_ret
          all_goals exact ⟨none, 0, rfl, rowS_nil _, K1.call kr⟩
      · clear hc2
        go_enter Try.func21, Try.ntmps21
        go_wp2_with fail
        refine (r7check_g A B C n1 c1 n2 c2 n3 c3 rs os ps _ (HR.out.keep (by repeat (first | exact Kept.refl _ | assumption | (refine Kept.alloc ?_ _) | (refine Kept.setCell ?_ (by first | omega | (simp; omega) | simp) _) | refine Kept.drew ?_ | refine Kept.drewN ?_ _ | (apply Kept.call; rotate_left; assumption)))) HS.out).mono ?_
        rintro e w1 ⟨rfl, k1⟩
        rw [HFB.out]
        have K1 : Kept w w1 := Kept.call (by repeat (first | exact Kept.refl _ | assumption | (refine Kept.alloc ?_ _) | (refine Kept.setCell ?_ (by first | omega | (simp; omega) | simp) _) | refine Kept.drew ?_ | refine Kept.drewN ?_ _ | (apply Kept.call; rotate_left; assumption))) k1
        have e0 : w1.cell? ⟨w.heap.size, 0, none⟩ = some (.slice A n1 c1) := k1.at_ (by go_simp)
        go_wp2_with fail
        go_loopw [6, 7] (fun ov iv wr => ov = .slice none 0 0 ∧ iv = .int .i64 0 ∧ Kept w1 wr) (fun _ iv _ => 0)
        case atStart => exact ⟨rfl, rfl, Kept.refl w1⟩
        case round =>
          obtain ⟨rfl, rfl, kr⟩ := hrel
          have e0 := kr.at_ e0
          go_wp2_with fail
          all_goals (try rw [Exit.noGoto_ret])
          all_goals go_ret
          all_goals exact ⟨none, 0, rfl, rowS_nil _, K1.call kr⟩
    · have d1 : decide ((0 : Int) ≤ s) = false := by simp; omega
      cases b0
      · clear hc2
        go_enter Try.func21, Try.ntmps21
        go_wp2_with fail
        refine (r7check_g A B C n1 c1 n2 c2 n3 c3 rs os ps _ (HR.out.keep (by repeat (first | exact Kept.refl _ | assumption | (refine Kept.alloc ?_ _) | (refine Kept.setCell ?_ (by first | omega | (simp; omega) | simp) _) | refine Kept.drew ?_ | refine Kept.drewN ?_ _ | (apply Kept.call; rotate_left; assumption)))) HS.out).mono ?_
        rintro e w1 ⟨rfl, k1⟩
        rw [HFB.out]
        have K1 : Kept w w1 := Kept.call (by repeat (first | exact Kept.refl _ | assumption | (refine Kept.alloc ?_ _) | (refine Kept.setCell ?_ (by first | omega | (simp; omega) | simp) _) | refine Kept.drew ?_ | refine Kept.drewN ?_ _ | (apply Kept.call; rotate_left; assumption))) k1
        have e0 : w1.cell? ⟨w.heap.size, 0, none⟩ = some (.slice A n1 c1) := k1.at_ (by go_simp)
        go_wp2_with fail
        go_loopw [6, 7] (fun ov iv wr => ov = .slice none 0 0 ∧ iv = .int .i64 0 ∧ Kept w1 wr) (fun _ iv _ => 0)
        case atStart => exact ⟨rfl, rfl, Kept.refl w1⟩
        case round =>
          obtain ⟨rfl, rfl, kr⟩ := hrel
          have e0 := kr.at_ e0
          go_wp2_with fail
          all_goals (try rw [Exit.noGoto_ret])
          all_goals go_ret
          all_goals exact ⟨none, 0, rfl, rowS_nil _, K1.call kr⟩
      · clear hc2
        go_enter Try.func21, Try.ntmps21
        go_wp2_with fail
        refine (r7check_g A B C n1 c1 n2 c2 n3 c3 rs os ps _ (HR.out.keep (by repeat (first | exact Kept.refl _ | assumption | (refine Kept.alloc ?_ _) | (refine Kept.setCell ?_ (by first | omega | (simp; omega) | simp) _) | refine Kept.drew ?_ | refine Kept.drewN ?_ _ | (apply Kept.call; rotate_left; assumption)))) HS.out).mono ?_
        rintro e w1 ⟨rfl, k1⟩
        rw [HFB.out]
        have K1 : Kept w w1 := Kept.call (by repeat (first | exact Kept.refl _ | assumption | (refine Kept.alloc ?_ _) | (refine Kept.setCell ?_ (by first | omega | (simp; omega) | simp) _) | refine Kept.drew ?_ | refine Kept.drewN ?_ _ | (apply Kept.call; rotate_left; assumption))) k1
        have e0 : w1.cell? ⟨w.heap.size, 0, none⟩ = some (.slice A n1 c1) := k1.at_ (by go_simp)
        go_wp2_with fail
        go_loopw [6, 7] (fun ov iv wr => ov = .slice none 0 0 ∧ iv = .int .i64 0 ∧ Kept w1 wr) (fun _ iv _ => 0)
        case atStart => exact ⟨rfl, rfl, Kept.refl w1⟩
        case round =>
          obtain ⟨rfl, rfl, kr⟩ := hrel
          have e0 := kr.at_ e0
          go_wp2_with fail
          all_goals (try rw [Exit.noGoto_ret])
          all_goals go_ret
          all_goals exact ⟨none, 0, rfl, rowS_nil _, K1.call kr⟩
    · have d1 : decide ((0 : Int) ≤ s) = true := by simp; omega
      have d2 : decide (s < 6) = false := by simp; omega
      cases b0
      · clear hc2
        go_enter Try.func21, Try.ntmps21
        go_wp2_with fail
        refine (r7check_g A B C n1 c1 n2 c2 n3 c3 rs os ps _ (HR.out.keep (by repeat (first | exact Kept.refl _ | assumption | (refine Kept.alloc ?_ _) | (refine Kept.setCell ?_ (by first | omega | (simp; omega) | simp) _) | refine Kept.drew ?_ | refine Kept.drewN ?_ _ | (apply Kept.call; rotate_left; assumption)))) HS.out).mono ?_
        rintro e w1 ⟨rfl, k1⟩
        rw [HFB.out]
        have K1 : Kept w w1 := Kept.call (by repeat (first | exact Kept.refl _ | assumption | (refine Kept.alloc ?_ _) | (refine Kept.setCell ?_ (by first | omega | (simp; omega) | simp) _) | refine Kept.drew ?_ | refine Kept.drewN ?_ _ | (apply Kept.call; rotate_left; assumption))) k1
        have e0 : w1.cell? ⟨w.heap.size, 0, none⟩ = some (.slice A n1 c1) := k1.at_ (by go_simp)
        go_wp2_with fail
        go_loopw [6, 7] (fun ov iv wr => ov = .slice none 0 0 ∧ iv = .int .i64 0 ∧ Kept w1 wr) (fun _ iv _ => 0)
        case atStart => exact ⟨rfl, rfl, Kept.refl w1⟩
        case round =>
          obtain ⟨rfl, rfl, kr⟩ := hrel
          have e0 := kr.at_ e0
          go_wp2_with fail
          all_goals (try rw [Exit.noGoto_ret])
          all_goals go_ret
          all_goals exact ⟨none, 0, rfl, rowS_nil _, K1.call kr⟩
      · clear hc2
        go_enter Try.func21, Try.ntmps21
        go_wp2_with fail
        refine (r7check_g A B C n1 c1 n2 c2 n3 c3 rs os ps _ (HR.out.keep (by repeat (first | exact Kept.refl _ | assumption | (refine Kept.alloc ?_ _) | (refine Kept.setCell ?_ (by first | omega | (simp; omega) | simp) _) | refine Kept.drew ?_ | refine Kept.drewN ?_ _ | (apply Kept.call; rotate_left; assumption)))) HS.out).mono ?_
        rintro e w1 ⟨rfl, k1⟩
        rw [HFB.out]
        have K1 : Kept w w1 := Kept.call (by repeat (first | exact Kept.refl _ | assumption | (refine Kept.alloc ?_ _) | (refine Kept.setCell ?_ (by first | omega | (simp; omega) | simp) _) | refine Kept.drew ?_ | refine Kept.drewN ?_ _ | (apply Kept.call; rotate_left; assumption))) k1
        have e0 : w1.cell? ⟨w.heap.size, 0, none⟩ = some (.slice A n1 c1) := k1.at_ (by go_simp)
        go_wp2_with fail
        go_loopw [6, 7] (fun ov iv wr => ov = .slice none 0 0 ∧ iv = .int .i64 0 ∧ Kept w1 wr) (fun _ iv _ => 0)
        case atStart => exact ⟨rfl, rfl, Kept.refl w1⟩
        case round =>
          obtain ⟨rfl, rfl, kr⟩ := hrel
          have e0 := kr.at_ e0
          go_wp2_with fail
          all_goals (try rw [Exit.noGoto_ret])
          all_goals go_ret
          all_goals exact ⟨none, 0, rfl, rowS_nil _, K1.call kr⟩
theorem run_neq_rg (x y u v : ByteArray) (w : World) : (binOp .neq 35 (.agg #[.string x, .string y]) (.agg #[.string u, .string v])).run Try.prog w = .ok (.bool (!((x.toList == u.toList) && (y.toList == v.toList)))) w := by
  have hf : (Try.prog.fieldsOf 35).toList.map (fun f => (f.name, f.type, f.offset)) = [("From", 9, 0), ("To", 9, 1)] := by kernel_rfl
  rw [run_neq_struct, run_equalIn_struct w 9999 _ _ _ (by kernel_rfl) (by kernel_rfl)]
  generalize (Try.prog.fieldsOf 35).toList = fs at *
  cases fs with
  | nil => simp at hf
  | cons f t =>
  cases t with
  | nil => simp at hf
  | cons g t =>
  cases t with
  | cons h t => simp at hf
  | nil =>
    simp only [List.map_cons, List.map_nil, List.cons.injEq, Prod.mk.injEq, and_true] at hf
    obtain ⟨⟨f1, f2, f3⟩, g1, g2, g3⟩ := hf
    cases h1 : (x.toList == u.toList) <;> cases h2 : (y.toList == v.toList) <;> simp [Op.eqFields, f1, f2, f3, g1, g2, g3, part, run_underlying Try.underlying9, run_equalIn_string, Try.underlying9, h1, h2]
theorem ba_eq {a b : ByteArray} (h : a.toList = b.toList) : a = b := by
  rw [ByteArray.toList_eq, ByteArray.toList_eq] at h
  obtain ⟨⟨x⟩⟩ := a
  obtain ⟨⟨y⟩⟩ := b
  simp at h
  rw [h]
set_option maxRecDepth 20000 in
set_option maxHeartbeats 2000000 in
theorem samerg_any (A B : Option Addr) (n m c d : Nat) (xs ys : List Rg) (w : World) (hx : RowS w A n c xs) (hy : RowS w B m d ys) :
    Calls Try.prog 19 #[.slice A n c, .slice B m d] w fun e w' => e = .returned (.bool (decide (xs = ys))) ∧ Kept w w' := by
  obtain ⟨x1, x2, x3, x4, x5⟩ := hx
  obtain ⟨y1, y2, y3, y4, y5⟩ := hy
  unfold maxLen at x3 y3
  have HX5 := Lib.hid x5
  have HY5 := Lib.hid y5
  have HX1 := Lib.hid x1
  have HY1 := Lib.hid y1
  clear x4 y4 x5 y5 x1 y1
  by_cases hnm : n = m
  · subst hnm
    go_enter Try.func19, Try.ntmps19
    go_wp2_with fail
    go_loopw [5] (fun i wr => ∃ j : Nat, j ≤ n ∧ i = .int .i64 j ∧ Kept w wr ∧ Hid (∀ i, i < j → rg xs i = rg ys i)) (fun i _ => n - (intOf i).toNat)
    case atStart => exact ⟨0, by omega, rfl, by repeat (first | exact Kept.refl _ | assumption | (refine Kept.alloc ?_ _) | (refine Kept.setCell ?_ (by first | omega | (simp; omega) | simp) _) | refine Kept.drew ?_ | refine Kept.drewN ?_ _ | (apply Kept.call; rotate_left; assumption)), fun i hi => by omega⟩
    case round =>
      obtain ⟨j, hj, rfl, kr, hall⟩ := hrel
      by_cases hlt : j < n
      · obtain ⟨b, off, rfl, hc⟩ := HX5.out (by omega)
        obtain ⟨b2, off2, rfl, hc2⟩ := HY5.out (by omega)
        have c1 := kr.at_ (hc j hlt).1
        have c2 := kr.at_ (hc j hlt).2
        have c3 := kr.at_ (hc2 j hlt).1
        have c4 := kr.at_ (hc2 j hlt).2
        clear hc hc2
        by_cases he : rg xs j = rg ys j
        · have hall2 : Hid (∀ i, i < j + 1 → rg xs i = rg ys i) := fun i hi => by
            rcases Nat.lt_or_ge i j with g | g
            · exact hall i g
            · obtain rfl : i = j := by omega
              exact he
          rw [he] at c1 c2
          clear he
          generalize rg ys j = v at *
          obtain ⟨u, v⟩ := v
          simp only at c1 c2 c3 c4
          have hq : ∀ w, (binOp .neq 35 (.agg #[.string u, .string v]) (.agg #[.string u, .string v])).run Try.prog w = .ok (.bool false) w := fun w => by rw [run_neq_rg]; simp
          go_wp2_with fail
          refine wp_region_text keepsOne (fun wB => Kept w wB ∧ wB.cell? ⟨b, off + j * 2, none⟩ = some (.string u) ∧ wB.cell? ⟨b, off + j * 2 + 1, none⟩ = some (.string v) ∧ wB.cell? ⟨b2, off2 + j * 2, none⟩ = some (.string u) ∧ wB.cell? ⟨b2, off2 + j * 2 + 1, none⟩ = some (.string v)) ?_ (by kernel_rfl) (by kernel_rfl) _ (by (try simp only [List.append_eq, List.cons_append, List.nil_append, List.toList_toArray]); exact rfl) ?_
          · exact ⟨by repeat (first | exact Kept.refl _ | assumption | (refine Kept.alloc ?_ _) | (refine Kept.setCell ?_ (by first | omega | (simp; omega) | simp) _) | refine Kept.drew ?_ | refine Kept.drewN ?_ _ | (apply Kept.call; rotate_left; assumption)), by first | assumption | go_simp, by first | assumption | go_simp, by first | assumption | go_simp, by first | assumption | go_simp⟩
          rintro wB ⟨hkB, sB1, sB2, sB3, sB4⟩
          repeat (first | (apply DW.det; (focus (intro wd hI; have td1 := hI.at_ sB1; have td2 := hI.at_ sB2; have td3 := hI.at_ sB3; have td4 := hI.at_ sB4; skip; go_wp2_with (fail); refine StepPost.mk _ rfl ⟨rfl, ?_⟩; repeat (first | exact Kept.refl _ | assumption | (refine Kept.alloc ?_ _) | (refine Kept.setCell ?_ (by first | omega | (simp; omega) | simp) _) | refine Kept.drew ?_ | refine Kept.drewN ?_ _ | (apply Kept.call; rotate_left; assumption)))); simp only [Act.put, List.setIfInBounds_toArray, List.set_cons_succ, List.set_cons_zero]) | (refine DW.loud (by kernel_rfl) ?_; intro wd hI; have td1 := hI.at_ sB1; have td2 := hI.at_ sB2; have td3 := hI.at_ sB3; have td4 := hI.at_ sB4; skip; go_wp2_with (fail); refine StepPost.loud _ rfl (by repeat (first | exact Kept.refl _ | assumption | (refine Kept.alloc ?_ _) | (refine Kept.setCell ?_ (by first | omega | (simp; omega) | simp) _) | refine Kept.drew ?_ | refine Kept.drewN ?_ _ | (apply Kept.call; rotate_left; assumption))) (fun hkL => ?_); have hkL := hI.call hkL; have hkB := hkB.call hkL; have sB1 := hkL.at_ sB1; have sB2 := hkL.at_ sB2; have sB3 := hkL.at_ sB3; have sB4 := hkL.at_ sB4; simp only [Act.put, List.setIfInBounds_toArray, List.set_cons_succ, List.set_cons_zero]))
          refine DW.nil ?_
          intro wd hI
          have hkd := hkB.call hI
          have td1 := hI.at_ sB1; have td2 := hI.at_ sB2; have td3 := hI.at_ sB3; have td4 := hI.at_ sB4
          go_wp2_with fail
          go_roundw
          case rel => exact ⟨j + 1, by omega, by go_num, hkd, hall2⟩
          case measure => simp [intOf]; omega
        · have hne : Hid (¬ xs = ys) := fun h => he (by rw [h])
          cases hp : rg xs j with
          | mk u v =>
          cases hp2 : rg ys j with
          | mk x y =>
          rw [hp] at c1 c2
          rw [hp2] at c3 c4
          have hq : ∀ w, (binOp .neq 35 (.agg #[.string u, .string v]) (.agg #[.string x, .string y])).run Try.prog w = .ok (.bool true) w := fun w => by
            rw [run_neq_rg]
            have : ((u.toList == x.toList) && (v.toList == y.toList)) = false := by
              rw [Bool.eq_false_iff]
              intro h
              rw [Bool.and_eq_true, beq_iff_eq, beq_iff_eq] at h
              exact he (by rw [hp, hp2, ba_eq h.1, ba_eq h.2])
            rw [this]; rfl
          simp only at c1 c2 c3 c4
          clear he hp hp2
          go_wp2_with fail
          refine wp_region_text keepsOne (fun wB => Kept w wB ∧ wB.cell? ⟨b, off + j * 2, none⟩ = some (.string u) ∧ wB.cell? ⟨b, off + j * 2 + 1, none⟩ = some (.string v) ∧ wB.cell? ⟨b2, off2 + j * 2, none⟩ = some (.string x) ∧ wB.cell? ⟨b2, off2 + j * 2 + 1, none⟩ = some (.string y)) ?_ (by kernel_rfl) (by kernel_rfl) _ (by (try simp only [List.append_eq, List.cons_append, List.nil_append, List.toList_toArray]); exact rfl) ?_
          · exact ⟨by repeat (first | exact Kept.refl _ | assumption | (refine Kept.alloc ?_ _) | (refine Kept.setCell ?_ (by first | omega | (simp; omega) | simp) _) | refine Kept.drew ?_ | refine Kept.drewN ?_ _ | (apply Kept.call; rotate_left; assumption)), by first | assumption | go_simp, by first | assumption | go_simp, by first | assumption | go_simp, by first | assumption | go_simp⟩
          rintro wB ⟨hkB, sB1, sB2, sB3, sB4⟩
          repeat (first | (apply DW.det; (focus (intro wd hI; have td1 := hI.at_ sB1; have td2 := hI.at_ sB2; have td3 := hI.at_ sB3; have td4 := hI.at_ sB4; skip; go_wp2_with (fail); refine StepPost.mk _ rfl ⟨rfl, ?_⟩; repeat (first | exact Kept.refl _ | assumption | (refine Kept.alloc ?_ _) | (refine Kept.setCell ?_ (by first | omega | (simp; omega) | simp) _) | refine Kept.drew ?_ | refine Kept.drewN ?_ _ | (apply Kept.call; rotate_left; assumption)))); simp only [Act.put, List.setIfInBounds_toArray, List.set_cons_succ, List.set_cons_zero]) | (refine DW.loud (by kernel_rfl) ?_; intro wd hI; have td1 := hI.at_ sB1; have td2 := hI.at_ sB2; have td3 := hI.at_ sB3; have td4 := hI.at_ sB4; skip; go_wp2_with (fail); refine StepPost.loud _ rfl (by repeat (first | exact Kept.refl _ | assumption | (refine Kept.alloc ?_ _) | (refine Kept.setCell ?_ (by first | omega | (simp; omega) | simp) _) | refine Kept.drew ?_ | refine Kept.drewN ?_ _ | (apply Kept.call; rotate_left; assumption))) (fun hkL => ?_); have hkL := hI.call hkL; have hkB := hkB.call hkL; have sB1 := hkL.at_ sB1; have sB2 := hkL.at_ sB2; have sB3 := hkL.at_ sB3; have sB4 := hkL.at_ sB4; simp only [Act.put, List.setIfInBounds_toArray, List.set_cons_succ, List.set_cons_zero]))
          refine DW.nil ?_
          intro wd hI
          have hkd := hkB.call hI
          have td1 := hI.at_ sB1; have td2 := hI.at_ sB2; have td3 := hI.at_ sB3; have td4 := hI.at_ sB4
          go_wp2_with fail
          go_ret
          exact ⟨ret_bool (decide_eq_false hne.out).symm, hkd⟩
      · obtain rfl : j = n := by omega
        have heq : Hid (xs = ys) := by
          apply List.ext_getElem?
          intro i
          rcases Nat.lt_or_ge i j with g | g
          · have := hall i g
            have e1 := HX1.out
            have e2 := HY1.out
            unfold rg at this
            rw [List.getElem?_eq_getElem (by omega), List.getElem?_eq_getElem (by omega)] at this ⊢
            simpa using this
          · rw [List.getElem?_eq_none (by have := HX1.out; omega), List.getElem?_eq_none (by have := HY1.out; omega)]
        go_wp2_with fail
        go_ret
        refine ⟨ret_bool (decide_eq_true heq.out).symm, ?_⟩
        repeat (first | exact Kept.refl _ | assumption | (refine Kept.alloc ?_ _) | (refine Kept.setCell ?_ (by first | omega | (simp; omega) | simp) _) | refine Kept.drew ?_ | refine Kept.drewN ?_ _ | (apply Kept.call; rotate_left; assumption))
  · have hne : Hid (¬ xs = ys) := fun h => hnm (by rw [← HX1.out, ← HY1.out, h])
    have hv : (((n : Nat) : Int) != (m : Int)) = true := by simp; omega
    go_enter Try.func19, Try.ntmps19
    go_wp2_with fail
    go_ret
    refine ⟨ret_bool (decide_eq_false hne.out).symm, ?_⟩
    repeat (first | exact Kept.refl _ | assumption | (refine Kept.alloc ?_ _) | (refine Kept.setCell ?_ (by first | omega | (simp; omega) | simp) _) | refine Kept.drew ?_ | refine Kept.drewN ?_ _ | (apply Kept.call; rotate_left; assumption))
end Go.Proofs.Ytahokiopapenbaa
