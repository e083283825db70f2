/- The laws' row, of a Spec: a tree by numbers, ranges by letters, owners. -/
import Derived.Test.YtjmfdacokdffiaaRouH
import Derived.Test.YtjmfdacokdffiaaTabQ
import Derived.Test.YtjmfdacokdffiaaTreeI
import Derived.Test.YtjmfdacokdffiaaFld
import Derived.OneCell
import Derived.Maps.AppendAt
set_option linter.unusedSimpArgs false
set_option linter.unusedVariables false
namespace Go.Proofs.Ytjmfdacokdffiaa
open Go.RowKit

/-- The parents that are meant, j of them ahead of the last one. -/
def psOf (l : List Int) (j : Nat) : List Int := (List.range (j + 1)).map fun i => if i = 0 then -1 else (parOf l i : Int)
theorem psOf_zero (l : List Int) : psOf l 0 = [-1] := rfl
theorem psOf_succ (l : List Int) (j : Nat) : intC (psOf l j) ++ [.int .i64 (parOf l (j + 1) : Int)] = intC (psOf l (j + 1)) := by
  unfold psOf intC
  rw [List.range_succ (n := j + 1)]
  simp
theorem psOf_len (l : List Int) (j : Nat) : (psOf l j).length = j + 1 := by simp [psOf]
theorem psOf_at (l : List Int) {j i : Nat} (hi : i ≤ j) : pa (psOf l j) i = if i = 0 then -1 else (parOf l i : Int) := by
  unfold pa psOf
  rw [List.getElem?_map, List.getElem?_range (by omega)]
  rfl
theorem psOf_made (l : List Int) {j : Nat} (hj : j ≤ 5) : Made (psOf l j) (j + 1) 0 (parOf l) := by
  refine ⟨psOf_len l j, by omega, by omega, fun i h1 h2 => (par_is l i h1).2, fun i hi => ?_⟩
  rw [Nat.add_zero, Nat.mod_eq_of_lt hi, psOf_at l (by omega)]
  by_cases h0 : i = 0
  · rw [if_pos h0, if_pos h0]
  · rw [if_neg h0, if_neg h0, Nat.add_zero, Nat.mod_eq_of_lt]
    have := (par_is l i (by omega)).2
    omega
theorem psOf_tree (l : List Int) {j : Nat} (hj : j ≤ 5) : IsTree (psOf l j) := (psOf_made l hj).tree
/-- A boxed Spec. -/
structure Box3 (w : World) (X : Nat) (x y z : Value) : Prop where
  c0 : w.cell? ⟨X, 0, none⟩ = some x
  c1 : w.cell? ⟨X, 1, none⟩ = some y
  c2 : w.cell? ⟨X, 2, none⟩ = some z
theorem Box3.but {w w2 : World} {X Q : Nat} {x y z : Value} (h : Box3 w X x y z) (hb : But [Q] w w2) (hn : X ≠ Q) : Box3 w2 X x y z :=
  ⟨hb.at_ h.c0 (by simpa using hn), hb.at_ h.c1 (by simpa using hn), hb.at_ h.c2 (by simpa using hn)⟩
theorem Box3.keep {w w2 : World} {X : Nat} {x y z : Value} (h : Box3 w X x y z) (hk : Kept w w2) : Box3 w2 X x y z := ⟨hk.at_ h.c0, hk.at_ h.c1, hk.at_ h.c2⟩
theorem new_cell {w0 wd : World} {x : Value} {t : TypeId} (h : Kept (w0.alloc (.cells #[x] t)) wd) : ∀ (j : Nat) (u : Value), [x][j]? = some u → wd.cell? ((⟨w0.heap.size, 0, none⟩ : Addr).add j) = some u :=
  fun j u hu => h.at_ (cell_one_new _ _ _ j u hu)
theorem QSt.grown2 {W w w3 : World} {Q : Nat} {x y z : Value} {row : Option Nat} (h : QSt W Q w x y z) (hg : w.grownBy w3 row) (hr : ∀ g, row = some g → W.heap.size ≤ g ∧ g ≠ Q) : QSt W Q w3 x y z := by
  have hne : some Q ≠ row := fun e => (hr Q e.symm).2 rfl
  have hb : w3.heap[Q]? = w.heap[Q]? := hg.block Q (World.block_lt_of_cell? w _ h.c0) hne
  exact ⟨h.but.grown hg (fun g e => .inr (hr g e).1), hg.cell h.c0 hne, hg.cell h.c1 hne, hg.cell h.c2 hne, fun i => by rw [World.frozen?_of_block (w := w) hb]; exact h.frz i⟩
/-- A row that fits, over a tree, is told, all of it new. -/
def MadeT (w : World) (e : Ending) (w' : World) : Prop := ∃ (a1 b1 c1 : Nat) (n1 d1 n2 d2 n3 d3 : Nat) (es : List Nat) (os ps : List Int), e = .returned (.agg #[.slice (some ⟨a1, 0, none⟩) n1 d1, .slice (some ⟨b1, 0, none⟩) n2 d2, .slice (some ⟨c1, 0, none⟩) n3 d3]) ∧ (w.heap.size ≤ a1 ∧ w.heap.size ≤ b1 ∧ w.heap.size ≤ c1 ∧ a1 ≠ c1 ∧ b1 ≠ c1 ∧ ∀ i, w'.frozen? ⟨c1, i, none⟩ = false) ∧ RowW w' (some ⟨a1, 0, none⟩) n1 d1 (some ⟨b1, 0, none⟩) n2 d2 (some ⟨c1, 0, none⟩) n3 d3 (rgs es) os ps ∧ FitT es os ps n3 ∧ Kept w w'
set_option maxHeartbeats 16000000 in
set_option maxRecDepth 20000 in
theorem row_any (A B C : Option Addr) (m c m2 c2 m3 c3 : Nat) (xs ys zs : List Int) (w : World) (hx : IntsAt w A m c xs) (hy : IntsAt w B m2 c2 ys) (hz : IntsAt w C m3 c3 zs) :
    Calls Try.prog 10 #[.agg #[.slice A m c, .slice B m2 c2, .slice C m3 c3]] w (MadeT w) := by
  obtain ⟨i0, hi, hz0, hz1, hz2⟩ := info_parts infoInt
  obtain ⟨j0, hj, hy0, hy1, hy2⟩ := info_parts infoRg
  have HI := Lib.hid hi
  have HJ := Lib.hid hj
  have HX := Lib.hid hx
  have HY := Lib.hid hy
  have HZ := Lib.hid hz
  have hm : m ≤ c ∧ c ≤ 9223372036854775807 := by have h1 := hx.2.1; have h2 := hx.2.2.1; unfold maxLen at h2; omega
  have hm2 : m2 ≤ c2 ∧ c2 ≤ 9223372036854775807 := by have h1 := hy.2.1; have h2 := hy.2.2.1; unfold maxLen at h2; omega
  have hm3 : m3 ≤ c3 ∧ c3 ≤ 9223372036854775807 := by have h1 := hz.2.1; have h2 := hz.2.2.1; unfold maxLen at h2; omega
  clear hx hy hi hj hz
  go_enter Try.func10, Try.ntmps10
  go_wp2_with fail
  have hQ0 := Lib.hid ((⟨But.refl _ _, by go_simp, by go_simp, by go_simp, fun i => by go_simp⟩ : QSt ((((w.alloc (.cells #[.slice A m c, .slice B m2 c2, .slice C m3 c3] 24)).alloc (.cells #[.slice none 0 0, .slice none 0 0, .slice none 0 0] 28)).alloc (.cells #[.int .i64 (-1)] 3)).alloc (.cells #[.slice none 0 0, .slice none 0 0, .slice (some ⟨w.heap.size + 1 + 1, 0, none⟩) 1 1] 28)) (w.heap.size + 1 + 1 + 1) ((((w.alloc (.cells #[.slice A m c, .slice B m2 c2, .slice C m3 c3] 24)).alloc (.cells #[.slice none 0 0, .slice none 0 0, .slice none 0 0] 28)).alloc (.cells #[.int .i64 (-1)] 3)).alloc (.cells #[.slice none 0 0, .slice none 0 0, .slice (some ⟨w.heap.size + 1 + 1, 0, none⟩) 1 1] 28)) (.slice none 0 0) (.slice none 0 0) (.slice (some ⟨w.heap.size + 1 + 1, 0, none⟩) 1 1)))
  have hO0 : Hid (((((w.alloc (.cells #[.slice A m c, .slice B m2 c2, .slice C m3 c3] 24)).alloc (.cells #[.slice none 0 0, .slice none 0 0, .slice none 0 0] 28)).alloc (.cells #[.int .i64 (-1)] 3)).alloc (.cells #[.slice none 0 0, .slice none 0 0, .slice (some ⟨w.heap.size + 1 + 1, 0, none⟩) 1 1] 28)).ownsRow (w.heap.size + 1 + 1) 3 1 (.slice (some ⟨w.heap.size + 1 + 1, 0, none⟩) 1 1) 1 (intC (psOf zs 0))) := by
    have h := own_new ((w.alloc (.cells #[.slice A m c, .slice B m2 c2, .slice C m3 c3] 24)).alloc (.cells #[.slice none 0 0, .slice none 0 0, .slice none 0 0] 28)) 3 [.int .i64 (-1)] 1 1 rfl (by unfold maxLen; omega)
    simp only [World.size_alloc] at h
    exact h.alloc _
  have hBB : Hid (But [w.heap.size + 1 + 1 + 1] ((w.alloc (.cells #[.slice A m c, .slice B m2 c2, .slice C m3 c3] 24)).alloc (.cells #[.slice none 0 0, .slice none 0 0, .slice none 0 0] 28)) ((((w.alloc (.cells #[.slice A m c, .slice B m2 c2, .slice C m3 c3] 24)).alloc (.cells #[.slice none 0 0, .slice none 0 0, .slice none 0 0] 28)).alloc (.cells #[.int .i64 (-1)] 3)).alloc (.cells #[.slice none 0 0, .slice none 0 0, .slice (some ⟨w.heap.size + 1 + 1, 0, none⟩) 1 1] 28))) := ((But.refl _ _).alloc _).alloc _
  generalize ((((w.alloc (.cells #[.slice A m c, .slice B m2 c2, .slice C m3 c3] 24)).alloc (.cells #[.slice none 0 0, .slice none 0 0, .slice none 0 0] 28)).alloc (.cells #[.int .i64 (-1)] 3)).alloc (.cells #[.slice none 0 0, .slice none 0 0, .slice (some ⟨w.heap.size + 1 + 1, 0, none⟩) 1 1] 28)) = WW at hQ0 hO0 hBB ⊢
  have hR0 := Lib.hid (⟨But.refl _ _, by go_simp, by go_simp, by go_simp, fun i => by go_simp⟩ : QSt ((w.alloc (.cells #[.slice A m c, .slice B m2 c2, .slice C m3 c3] 24)).alloc (.cells #[.slice none 0 0, .slice none 0 0, .slice none 0 0] 28)) (w.heap.size + 1) ((w.alloc (.cells #[.slice A m c, .slice B m2 c2, .slice C m3 c3] 24)).alloc (.cells #[.slice none 0 0, .slice none 0 0, .slice none 0 0] 28)) (.slice none 0 0) (.slice none 0 0) (.slice none 0 0))
  have K0 : Kept w ((w.alloc (.cells #[.slice A m c, .slice B m2 c2, .slice C m3 c3] 24)).alloc (.cells #[.slice none 0 0, .slice none 0 0, .slice none 0 0] 28)) := by repeat (first | exact Kept.refl _ | assumption | (refine Kept.alloc ?_ _) | (refine Kept.setCell ?_ (by first | omega | (simp; omega) | simp) _) | refine Kept.drew ?_ | refine Kept.drewN ?_ _ | (apply Kept.call; rotate_left; assumption))
  have HB0 : Hid (Box3 ((w.alloc (.cells #[.slice A m c, .slice B m2 c2, .slice C m3 c3] 24)).alloc (.cells #[.slice none 0 0, .slice none 0 0, .slice none 0 0] 28)) w.heap.size (.slice A m c) (.slice B m2 c2) (.slice C m3 c3)) := ⟨by go_simp, by go_simp, by go_simp⟩
  have hH0 : Hid (((w.alloc (.cells #[.slice A m c, .slice B m2 c2, .slice C m3 c3] 24)).alloc (.cells #[.slice none 0 0, .slice none 0 0, .slice none 0 0] 28)).heap[w.heap.size + 1]? = some (.cells #[.slice none 0 0, .slice none 0 0, .slice none 0 0] 28)) := by
    unfold Hid
    have h := heap_alloc_new (w.alloc (.cells #[.slice A m c, .slice B m2 c2, .slice C m3 c3] 24)) (.cells #[.slice none 0 0, .slice none 0 0, .slice none 0 0] 28)
    rw [World.size_alloc] at h
    exact h
  have hWs : ((w.alloc (.cells #[.slice A m c, .slice B m2 c2, .slice C m3 c3] 24)).alloc (.cells #[.slice none 0 0, .slice none 0 0, .slice none 0 0] 28)).heap.size = w.heap.size + 1 + 1 := by simp
  generalize ((w.alloc (.cells #[.slice A m c, .slice B m2 c2, .slice C m3 c3] 24)).alloc (.cells #[.slice none 0 0, .slice none 0 0, .slice none 0 0] 28)) = W at *
  have hXQ : Hid (w.heap.size ≠ w.heap.size + 1 + 1 + 1) := by unfold Hid; omega
  have hQw : Hid (w.heap.size ≤ w.heap.size + 1 + 1 + 1) := by unfold Hid; omega
  have hRQ : Hid (w.heap.size + 1 ≠ w.heap.size + 1 + 1 + 1) := by unfold Hid; omega
  have hv0 : ((Value.slice (some ⟨w.heap.size + 1 + 1, 0, none⟩) 1 1).ownBlock) ≠ some (w.heap.size + 1 + 1 + 1) := fun e => by
    injection e with e
    have e9 : w.heap.size + 1 + 1 = w.heap.size + 1 + 1 + 1 := e
    omega
  have hQ1 : Hid (QSt W (w.heap.size + 1 + 1 + 1) WW (.slice none 0 0) (.slice none 0 0) (.slice (some ⟨w.heap.size + 1 + 1, 0, none⟩) 1 1)) := ⟨hBB.out, hQ0.out.c0, hQ0.out.c1, hQ0.out.c2, hQ0.out.frz⟩
  have hWsl : w.heap.size + 1 + 1 ≤ W.heap.size := by omega
  generalize w.heap.size + 1 + 1 + 1 = Q at *
  have hv1 := Lib.hid hv0
  clear hQ0 hBB hv0
  go_loopw [4] (fun iv wr => ∃ (j : Nat) (v : Value), j ≤ m3 ∧ j ≤ 5 ∧ iv = .int .i64 j ∧ QSt W Q wr (.slice none 0 0) (.slice none 0 0) v ∧ wr.ownsRow (w.heap.size + 1 + 1) 3 1 v (j + 1) (intC (psOf zs j)) ∧ Hid (v.ownBlock ≠ some Q)) (fun iv _ => m3 - (intOf iv).toNat)
  case atStart => exact ⟨0, _, by omega, by omega, rfl, hQ1.out, hO0.out, hv1⟩
  case round =>
    obtain ⟨j, v, hjm, hj5, rfl, st, ho, hvo⟩ := hrel
    have ST := Lib.hid st
    have HO := Lib.hid ho
    have c2_ := st.c2
    have f2 := st.frz 2
    have hz := st.but.size
    have hQr := st.under
    have bx2 := (HB0.out.but st.but hXQ.out).c2
    have hXw := World.block_lt_of_cell? wr _ bx2
    have kr : Kept w wr := K0.but st.but (by simp; exact hQw.out)
    by_cases hlt : j < m3 ∧ j < 5
    · have e1 : decide ((j : Int) < m3) = true := by simp; omega
      have e2 : decide ((j : Int) < 5) = true := by simp; omega
      obtain ⟨zb, zo, rfl, hzc⟩ := HZ.out.2.2.2.2 (by omega)
      have cz : wr.cell? ⟨zb, zo + j, none⟩ = some (.int .i64 (pa zs j)) := kr.at_ (hzc j hlt.1)
      have hzw : zb < wr.heap.size := World.block_lt_of_cell? wr _ cz
      obtain ⟨hp1, hp2⟩ := par_is zs (j + 1) (by omega)
      have hb := tmod_bd (pa zs j) ((j : Int) + 1) (by omega)
      have hp3 : ((pa zs j).tmod ((j : Int) + 1) + (j : Int) + 1).tmod ((j : Int) + 1) = (parOf zs (j + 1) : Int) := by
        rw [Int.add_assoc]
        exact hp1
      have hsu := Lib.hid (psOf_succ zs j)
      have hol : Hid ((intC (psOf zs j)).length = (j + 1) * 1) := by unfold Hid; rw [intC_len, psOf_len, Nat.mul_one]
      clear st ho hzc hp1
      generalize pa zs j = x at *
      generalize parOf zs (j + 1) = q at *
      have hne0 : ((j : Int) + 1 == 0) = false := by simp; omega
      go_wp2_with fail
      refine wp_region_text keepsOne (fun wB => Kept wr wB ∧ wB.cell? ⟨Q, 2, none⟩ = some (v) ∧ wB.cell? ⟨w.heap.size, 2, none⟩ = some (.slice (some ⟨zb, zo, none⟩) m3 c3) ∧ wB.cell? ⟨zb, zo + j, none⟩ = some (.int .i64 x)) ?_ (by kernel_rfl) (by kernel_rfl) _ (by (try simp only [List.append_eq, List.cons_append, List.nil_append, List.toList_toArray]); exact rfl) ?_
      · exact ⟨by repeat (first | exact Kept.refl _ | assumption | (refine Kept.alloc ?_ _) | (refine Kept.setCell ?_ (by first | omega | (simp; omega) | simp) _) | refine Kept.drew ?_ | refine Kept.drewN ?_ _ | (apply Kept.call; rotate_left; assumption)), by first | assumption | go_simp, by first | assumption | go_simp, by first | assumption | go_simp⟩
      rintro wB ⟨hkB, sB1, sB2, sB3⟩
      iterate 17 (first | (apply DW.det; (focus (intro wd hI; have td1 := hI.at_ sB1; have td2 := hI.at_ sB2; have td3 := hI.at_ sB3; skip; go_wp2_with (fail); refine StepPost.mk _ rfl ⟨rfl, ?_⟩; repeat (first | exact Kept.refl _ | assumption | (refine Kept.alloc ?_ _) | (refine Kept.setCell ?_ (by first | omega | (simp; omega) | simp) _) | refine Kept.drew ?_ | refine Kept.drewN ?_ _ | (apply Kept.call; rotate_left; assumption)))); simp only [Act.put, List.setIfInBounds_toArray, List.set_cons_succ, List.set_cons_zero]) | (refine DW.loud (by kernel_rfl) ?_; intro wd hI; have td1 := hI.at_ sB1; have td2 := hI.at_ sB2; have td3 := hI.at_ sB3; skip; go_wp2_with (fail); refine StepPost.loud _ rfl (by repeat (first | exact Kept.refl _ | assumption | (refine Kept.alloc ?_ _) | (refine Kept.setCell ?_ (by first | omega | (simp; omega) | simp) _) | refine Kept.drew ?_ | refine Kept.drewN ?_ _ | (apply Kept.call; rotate_left; assumption))) (fun hkL => ?_); have hkL := hI.call hkL; have hkB := hkB.call hkL; have sB1 := hkL.at_ sB1; have sB2 := hkL.at_ sB2; have sB3 := hkL.at_ sB3; simp only [Act.put, List.setIfInBounds_toArray, List.set_cons_succ, List.set_cons_zero]))
      refine DW.tail (by kernel_rfl) ?_
      intro wd hI
      have hkd := hkB.call hI
      have td1 := hI.at_ sB1; have td2 := hI.at_ sB2; have td3 := hI.at_ sB3
      have HI9 := Lib.hid (new_cell hI)
      have ST2 := Lib.hid (ST.out.keep hkd)
      have HO2 := Lib.hid (Kept.own HO.out hkd)
      have hzd := hkd.size
      have kd : Kept w wd := kr.call hkd
      go_wp2_with (at_builtin; refine wpList_append_own_at _ rfl _ _ 22 rfl (w.heap.size + 1 + 1) 3 i0 (.int .i64 0) 1 8 Try.underlying22 HI.out hz0 hz1 hz2 rfl (by decide) _ (j + 1) _ rfl HO2.out _ 1 1 [.int .i64 (q : Int)] rfl rfl HI9.out (by simp [Value.oneCell']) (by unfold maxLen; omega) (by omega) (by omega) ?_; intro v3 w3 hown3 hgrow3 _ hob3; rw [hsu.out] at hown3; obtain ⟨A3, c3', rfl⟩ := own_slice hown3; have HL3 := HO2.out.lt; have S3 := ST2.out.grown2 hgrow3 (fun g hg => ⟨by have := (HL3 g hg).1; omega, fun e => hvo.out (by rw [← e]; exact hg)⟩); have c23 := S3.c2; have f23 := S3.frz 2; have S4 := Lib.hid (S3.set2 (.slice A3 (j + 1 + 1) c3')); have hvo3 : Hid ((Value.slice A3 (j + 1 + 1) c3').ownBlock ≠ some Q) := (by intro e; rcases hob3 with h9 | h9; exact hvo.out (h9 ▸ e); rw [h9] at e; injection e with e; omega); have HO4 := Lib.hid (ownsRow_setCell_other hown3 (a := ⟨Q, 2, none⟩) hvo3.out (.slice A3 (j + 1 + 1) c3')); clear hown3 hgrow3 S3 hob3)
      go_roundw
      case rel => first | exact ⟨j + 1, _, by omega, by omega, by go_num, S4.out, HO4.out, hvo3⟩ | ((repeat apply Exists.intro); exact ⟨⟨j + 1, _, by omega, by omega, by go_num, S4.out, HO4.out, hvo3⟩, rfl⟩)
      case measure => simp [intOf]; omega
    · have e9 : m3 ≤ j ∨ (j < m3 ∧ 5 ≤ j) := by omega
      obtain ⟨pb, d3, rfl, hpb, hpbl⟩ := own_some HO.out (by omega)
      have PF1 : Hid (∀ i, wr.frozen? ⟨pb, i, none⟩ = false) := fun i => HO.out.frozenAt i
      obtain ⟨N, rfl⟩ : ∃ N, N = j := ⟨_, rfl⟩
      have hps : IntsAt wr (some ⟨pb, 0, none⟩) (N + 1) d3 (psOf zs N) := by
        obtain ⟨A9, c9, e9, h9⟩ := IntsAt.of_ownI HO.out
        cases e9
        exact h9
      have HPS := Lib.hid hps
      have hpQ : pb ≠ Q := fun e => hvo.out (by rw [← e]; rfl)
      have K1 : Kept w wr := kr
      have ST1 := Lib.hid ST.out.again
      have HB1 := Lib.hid (HB0.out.but ST.out.but hXQ.out)
      have hH1 := Lib.hid (ST.out.but.heap hH0.out (by simpa using hRQ.out))
      have hR1 := Lib.hid (hR0.out.move ST.out.but hRQ.out)
      have hwR : w.heap.size < w.heap.size + 1 := by omega
      have hRp : w.heap.size + 1 < pb := by omega
      have hN5 : N ≤ 5 := hj5
      have HB1' := HB1.out.c2
      clear st ho hps HO ST hz c2_ f2 hQ1 K0 hpb hR0 hH0 HB0 hlt hO0 hv1 hvo hWs kr hXw
      generalize w.heap.size + 1 = R at *
      obtain ⟨W1, rfl⟩ : ∃ W1, W1 = wr := ⟨_, rfl⟩
      have hQW := ST1.out.under
      rcases e9 with e9 | ⟨e9, e8⟩
      · have e1 : decide ((N : Int) < m3) = false := by simp; omega
        go_wp2_with fail
        clear e1
        go_loopw [5, 6] (fun av iv w2 => ∃ (i : Nat) (es : List Nat) (v : Value), i ≤ m ∧ i ≤ 6 ∧ iv = .int .i64 i ∧ av = .string (fr es es.length) ∧ es.length ≤ i ∧ Hid (Up es) ∧ QSt W1 Q w2 v (.slice none 0 0) (.slice (some ⟨pb, 0, none⟩) (N + 1) d3) ∧ w2.ownsRow W1.heap.size 52 2 v es.length (rgC (pre es)) ∧ Kept w w2) (fun _ iv _ => m - (intOf iv).toNat)
        case atStart => exact ⟨0, [], _, by omega, by omega, rfl, rfl, by simp, up_nil, ST1.out, World.ownsRow_nil _ _ _ _, K1⟩
        case round =>
          obtain ⟨i, es, v, hi, hi6, rfl, rfl, hel, hup, st, ho, kr⟩ := hrel
          have ST := Lib.hid st
          have HO := Lib.hid ho
          have bx0 := (HB1.out.but st.but hXQ.out).c0
          have hXw := World.block_lt_of_cell? wr _ bx0
          by_cases hlt : i < m ∧ i < 6
          · have e1 : decide ((i : Int) < m) = true := by simp; omega
            have e2 : decide ((i : Int) < 6) = true := by simp; omega
            obtain ⟨b, off, rfl, hc⟩ := HX.out.2.2.2.2 (by omega)
            have cl : wr.cell? ⟨b, off + i, none⟩ = some (.int .i64 (xs[i]?.getD (-2))) := kr.at_ (hc i hlt.1)
            have hbw : b < wr.heap.size := World.block_lt_of_cell? wr _ cl
            generalize xs[i]?.getD (-2) = x at *
            have hb0 := tmod_bd x 26 (by omega)
            obtain ⟨r, hr, hr26⟩ : ∃ r : Nat, (x.tmod 26 + 26).tmod 26 = r ∧ r < 26 := by
              have h2 := Int.tmod_nonneg (26 : Int) (show 0 ≤ x.tmod 26 + 26 by omega)
              have h3 := Int.tmod_lt_of_pos (x.tmod 26 + 26) (show 0 < (26 : Int) by omega)
              exact ⟨_, (Int.toNat_of_nonneg h2).symm, by omega⟩
            have hcv := conv_ch wr r
            have c0 := st.c0
            have f0 := st.frz 0
            have hQr := st.under
            have hz := st.but.size
            rcases Int.lt_or_le (hv (fr es es.length)) (97 + r : Nat) with hlo | hhi
            · obtain ⟨hbl1, hbl2⟩ := cmp_lo hup.out (c := 97 + r) (by omega) hlo
              have hup2 := Lib.hid (hup.out.snoc (e := 97 + r) (by omega) (by omega) (by omega) hlo)
              have hps2 := Lib.hid (pre_snoc es (97 + r))
              have hfe := Lib.hid (fr_end es (97 + r))
              have hol : Hid ((rgC (pre es)).length = es.length * 2) := by unfold Hid; rw [rgC_len, pre_len]
              have hle2 : Hid ((es ++ [97 + r]).length = es.length + 1) := by unfold Hid; simp
              clear st ho hlo hc
              generalize es ++ [97 + r] = es2 at *
              generalize fr es es.length = at_ at *
              generalize ch (97 + r) = e_ at *
              generalize hLe : es.length = le at *
              clear hLe
              go_wp2_with (at_builtin; refine wpList_append_own _ rfl _ _ 26 rfl W1.heap.size 52 j0 (.agg #[.string ⟨#[]⟩, .string ⟨#[]⟩]) 2 32 Try.underlying26 HJ.out hy0 hy1 hy2 rfl (by decide) _ le _ rfl ((HO.out.alloc _).alloc _) ⟨wr.heap.size + 1, 0, none⟩ 1 1 [.string at_, .string e_] rfl rfl (cells_two2 _ _ _ _ _) (by simp [Value.oneCell']) (by unfold maxLen; omega) (by omega) (by simp; omega) ?_; intro v3 w3 hown3 hgrow3 _; rw [rgC_snoc _ (at_, e_), ← hps2.out] at hown3; obtain ⟨A3, c3, rfl⟩ := own_slice hown3; have HL3 := HO.out.lt; have S3 := (ST.out.keep (((Kept.refl wr).alloc _).alloc _)).grown hQW hgrow3 (fun g hg => (HL3 g hg).1); have K3 : Kept w w3 := ((kr.alloc _).alloc _).grown hgrow3 (fun g hg => Nat.le_trans K1.size (HL3 g hg).1); have c03 := S3.c0; have f03 := S3.frz 0; have S4 := Lib.hid (S3.set0 (.slice A3 (le + 1) c3)); have K4 := K3.setCell (p := ⟨Q, 0, none⟩) hQw.out (.slice A3 (le + 1) c3); have HO4 := Lib.hid (ownsRow_setCell_below hown3 (a := ⟨Q, 0, none⟩) hQW (.slice A3 (le + 1) c3)); clear hown3 hgrow3 S3)
              go_roundw
              case rel => first | exact ⟨i + 1, es2, _, by omega, by omega, by go_num, by rw [hfe.out], by rw [hle2.out]; omega, hup2, S4.out, by rw [hle2.out]; exact HO4.out, K4⟩ | ((repeat apply Exists.intro); exact ⟨⟨i + 1, es2, _, by omega, by omega, by go_num, by rw [hfe.out], by rw [hle2.out]; omega, hup2, S4.out, by rw [hle2.out]; exact HO4.out, K4⟩, rfl⟩)
              case measure => simp [intOf]; omega
            · have hbl := cmp_hi hup.out (c := 97 + r) (by omega) (by omega) (by omega)
              have S4 := Lib.hid (ST.out.keep ((Kept.refl wr).alloc (.cells #[.int .u8 (97 + (r : Int))] 5)))
              have HO4 := Lib.hid (HO.out.alloc (.cells #[.int .u8 (97 + (r : Int))] 5))
              have hfr : Hid (∃ a, a = fr es es.length) := ⟨_, rfl⟩
              obtain ⟨at_, hat⟩ : ∃ a, fr es es.length = a := ⟨_, rfl⟩
              have HAT := Lib.hid hat
              rw [hat] at hbl ⊢
              clear st ho hhi hc hat
              generalize ch (97 + r) = e_ at *
              rcases hbl with hbl | ⟨hbl, hbl2⟩
              · go_wp2_with fail
                go_roundw
                case rel => first | exact ⟨i + 1, es, _, by omega, by omega, by go_num, by rw [HAT.out], by omega, hup, S4.out, HO4.out, kr.alloc _⟩ | ((repeat apply Exists.intro); exact ⟨⟨i + 1, es, _, by omega, by omega, by go_num, by rw [HAT.out], by omega, hup, S4.out, HO4.out, kr.alloc _⟩, rfl⟩)
                case measure => simp [intOf]; omega
              · go_wp2_with fail
                go_roundw
                case rel => first | exact ⟨i + 1, es, _, by omega, by omega, by go_num, by rw [HAT.out], by omega, hup, S4.out, HO4.out, kr.alloc _⟩ | ((repeat apply Exists.intro); exact ⟨⟨i + 1, es, _, by omega, by omega, by go_num, by rw [HAT.out], by omega, hup, S4.out, HO4.out, kr.alloc _⟩, rfl⟩)
                case measure => simp [intOf]; omega
          · have e9 : m ≤ i ∨ (i < m ∧ 6 ≤ i) := by omega
            have c0 := st.c0
            have f0 := st.frz 0
            have hQr := st.under
            have hz := st.but.size
            have hps2 := Lib.hid (rgs_pre es)
            have hol : Hid ((rgC (pre es)).length = es.length * 2) := by unfold Hid; rw [rgC_len, pre_len]
            obtain ⟨at_, hat⟩ : ∃ a, fr es es.length = a := ⟨_, rfl⟩
            obtain ⟨le, hle⟩ : ∃ a, es.length = a := ⟨_, rfl⟩
            have HLE := Lib.hid hle
            rw [hat] at hps2
            rw [hle] at HO hol hel
            rw [hat]
            have hsn : Hid (rgC (pre es) ++ [.string at_, .string ⟨#[]⟩] = rgC (rgs es)) := by unfold Hid; rw [hps2.out]; exact rgC_snoc (pre es) (at_, nil)
            clear st ho hat hle hlt
            rcases e9 with e9 | ⟨e9, e8⟩
            · have e1 : decide ((i : Int) < m) = false := by simp; omega
              go_wp2_with (at_builtin; refine wpList_append_own _ rfl _ _ 26 rfl W1.heap.size 52 j0 (.agg #[.string ⟨#[]⟩, .string ⟨#[]⟩]) 2 32 Try.underlying26 HJ.out hy0 hy1 hy2 rfl (by decide) _ le _ rfl (HO.out.alloc _) ⟨wr.heap.size, 0, none⟩ 1 1 [.string at_, .string ⟨#[]⟩] rfl rfl (cells_two _ _ _ _) (by simp [Value.oneCell']) (by unfold maxLen; omega) (by omega) (by simp; omega) ?_; intro v3 w3 hown3 hgrow3 _; rw [hsn.out] at hown3; obtain ⟨g3, c3, rfl, hg3, _⟩ := own_some hown3 (by omega); have HL3 := HO.out.lt; have S3 := (ST.out.keep ((Kept.refl wr).alloc _)).grown hQW hgrow3 (fun g hg => (HL3 g hg).1); have K3 : Kept w w3 := (kr.alloc _).grown hgrow3 (fun g hg => Nat.le_trans K1.size (HL3 g hg).1); have c03 := S3.c0; have f03 := S3.frz 0; have S4 := Lib.hid (S3.set0 (.slice (some ⟨g3, 0, none⟩) (le + 1) c3)); have K4 := K3.setCell (p := ⟨Q, 0, none⟩) hQw.out (.slice (some ⟨g3, 0, none⟩) (le + 1) c3); have HO4 := Lib.hid (ownsRow_setCell_below hown3 (a := ⟨Q, 0, none⟩) hQW (.slice (some ⟨g3, 0, none⟩) (le + 1) c3)); clear hown3 hgrow3 S3 K3)
              generalize w3.setCell ⟨Q, 0, none⟩ (.slice (some ⟨g3, 0, none⟩) (le + 1) c3) = W2 at *
              have RS2 : Hid (RowS W2 (some ⟨g3, 0, none⟩) (le + 1) c3 (rgs es)) := by
                obtain ⟨A9, c9, e9, h9⟩ := RowS.of_own HO4.out
                cases e9
                exact h9
              have PS2 := Lib.hid (HPS.out.but S4.out.but (by simpa using hpQ))
              have PF2 : Hid (∀ i, W2.frozen? ⟨pb, i, none⟩ = false) := fun i => by rw [S4.out.but.frozen (p := ⟨pb, i, none⟩) hpbl (by simpa using hpQ)]; exact PF1.out i
              have hpb2 : pb < W2.heap.size := Nat.lt_of_lt_of_le hpbl S4.out.but.size
              have hg3p : g3 ≠ pb := by omega
              have hg3Q : g3 ≠ Q := by omega
              have ST2 := Lib.hid S4.out.again
              have HB2 := Lib.hid (HB1.out.but S4.out.but hXQ.out)
              have hH2 := Lib.hid (S4.out.but.heap hH1.out (by simpa using hRQ.out))
              have hR2 := Lib.hid (hR1.out.move S4.out.but hRQ.out)
              have hRg : R < g3 := by have := hR1.out.under; omega
              have hQW2 := ST2.out.under
              have hN6 : N + 1 ≤ 6 := by omega
              clear c0 f0 c03 f03 HO4 S4 HO ST hg3 hz hQr hps2 hol hsn HPS
              go_loopw [8, 9] (fun av kv w9 => ∃ k : Nat, k ≤ N + 1 ∧ av = .int .i64 ((2 ^ k : Nat) : Int) ∧ kv = .int .i64 k ∧ Hid (w9 = W2)) (fun _ kv _ => N + 1 - (intOf kv).toNat)
              case atStart => exact ⟨0, by omega, rfl, rfl, rfl⟩
              case round =>
                obtain ⟨k, hk, rfl, rfl, hw9⟩ := hrel
                have q2c : wr.cell? ⟨Q, 2, none⟩ = some (.slice (some ⟨pb, 0, none⟩) (N + 1) d3) := by rw [hw9.out]; exact ST2.out.c2
                by_cases hkn : k < N + 1
                · have hp1 := two_le (n := k) (by omega)
                  have hp2 : Hid (2 ^ (k + 1) = 2 * 2 ^ k) := by unfold Hid; rw [Nat.pow_succ, Nat.mul_comm]
                  generalize 2 ^ k = t at *
                  go_wp2_with fail
                  go_roundw
                  case rel => first | exact ⟨k + 1, by omega, by rw [hp2.out]; go_num, by go_num, hw9⟩ | ((repeat apply Exists.intro); exact ⟨⟨k + 1, by omega, by rw [hp2.out]; go_num, by go_num, hw9⟩, rfl⟩)
                  case measure => simp [intOf]; omega
                · obtain rfl : k = N + 1 := by omega
                  have hw := hw9.out
                  clear hw9
                  subst hw
                  obtain ⟨W2, rfl⟩ : ∃ W2, W2 = wr := ⟨_, rfl⟩
                  have ha1 := two_le (n := N + 1) (by omega)
                  have ha2 : 2 ≤ 2 ^ (N + 1) := by
                    have : 0 < 2 ^ N := Nat.pow_pos (by omega)
                    rw [Nat.pow_succ]
                    omega
                  have hae : Hid (2 ^ (N + 1) = 2 ^ (N + 1)) := rfl
                  generalize ha : 2 ^ (N + 1) = a at *
                  have HA := Lib.hid ha
                  clear ha hae
                  go_wp2_with fail
                  go_loopw [10] (fun kv w9 => ∃ (j : Nat) (os : List Int) (v : Value), j ≤ le + 1 ∧ kv = .int .i64 j ∧ QSt W2 Q w9 (.slice (some ⟨g3, 0, none⟩) (le + 1) c3) v (.slice (some ⟨pb, 0, none⟩) (N + 1) d3) ∧ w9.ownsRow W2.heap.size 3 1 v j (intC os) ∧ Hid (os.length = j ∧ ∀ x ∈ os, 1 ≤ x ∧ x < (a : Int)) ∧ Kept w w9) (fun kv _ => le + 1 - (intOf kv).toNat)
                  case atStart => exact ⟨0, [], _, by omega, rfl, ST2.out, World.ownsRow_nil _ _ _ _, ⟨rfl, fun x hx => by cases hx⟩, K4⟩
                  case round =>
                    obtain ⟨j, os, v, hj, rfl, st, ho, hos, kr5⟩ := hrel
                    have ST := Lib.hid st
                    have HO := Lib.hid ho
                    have c0 := st.c0
                    have c1 := st.c1
                    have c2_ := st.c2
                    have f1 := st.frz 1
                    have hQr := st.under
                    have hz := st.but.size
                    have bx1 := (HB2.out.but st.but hXQ.out).c1
                    have hXw := World.block_lt_of_cell? wr _ bx1
                    clear st ho
                    by_cases hjl : j < le + 1
                    · have hol : Hid ((intC os).length = j * 1) := by unfold Hid; rw [intC_len, hos.out.1, Nat.mul_one]
                      by_cases hjm : j < m2
                      · obtain ⟨yb, yo, rfl, hyc⟩ := HY.out.2.2.2.2 (by omega)
                        have cy : wr.cell? ⟨yb, yo + j, none⟩ = some (.int .i64 (ys[j]?.getD (-2))) := kr5.at_ (hyc j hjm)
                        have e7 : decide ((j : Int) < m2) = true := by simp; omega
                        generalize ys[j]?.getD (-2) = y at *
                        have hb0 := tmod_bd y ((a : Int) - 1) (by omega)
                        obtain ⟨o, hro, hro2⟩ : ∃ r : Nat, (y.tmod ((a : Int) - 1) + a - 1).tmod ((a : Int) - 1) = r ∧ r + 1 < a := by
                          have h2 := Int.tmod_nonneg ((a : Int) - 1) (show 0 ≤ y.tmod ((a : Int) - 1) + a - 1 by omega)
                          have h3 := Int.tmod_lt_of_pos (y.tmod ((a : Int) - 1) + a - 1) (show 0 < (a : Int) - 1 by omega)
                          exact ⟨_, (Int.toNat_of_nonneg h2).symm, by omega⟩
                        have hos2 : Hid ((os ++ [1 + (o : Int)]).length = j + 1 ∧ ∀ x ∈ os ++ [1 + (o : Int)], 1 ≤ x ∧ x < (a : Int)) := by
                          refine ⟨by rw [List.length_append, hos.out.1]; rfl, fun x hx => ?_⟩
                          rcases List.mem_append.1 hx with hx | hx
                          · exact hos.out.2 x hx
                          · obtain rfl : x = 1 + (o : Int) := by simpa using hx
                            omega
                        clear hyc
                        go_wp2_with (at_builtin; refine wpList_append_own _ rfl _ _ 22 rfl W2.heap.size 3 i0 (.int .i64 0) 1 8 Try.underlying22 HI.out hz0 hz1 hz2 rfl (by decide) _ j _ rfl (HO.out.alloc _) ⟨wr.heap.size, 0, none⟩ 1 1 [.int .i64 (1 + (o : Int))] rfl rfl (cell_one_new _ _ _) (by simp [Value.oneCell']) (by unfold maxLen; omega) (by omega) (by simp; omega) ?_; intro v3 w3 hown3 hgrow3 _; rw [show intC os ++ [.int .i64 (1 + (o : Int))] = intC (os ++ [1 + (o : Int)]) from (by simp [intC])] at hown3; obtain ⟨A5, c5, rfl⟩ := own_slice hown3; have HL3 := HO.out.lt; have S3 := (ST.out.keep ((Kept.refl wr).alloc _)).grown hQW2 hgrow3 (fun g hg => (HL3 g hg).1); have K3 : Kept w w3 := (kr5.alloc _).grown hgrow3 (fun g hg => Nat.le_trans K4.size (HL3 g hg).1); have c13 := S3.c1; have f13 := S3.frz 1; have S4 := Lib.hid (S3.set1 (.slice A5 (j + 1) c5)); have K5 := K3.setCell (p := ⟨Q, 1, none⟩) hQw.out (.slice A5 (j + 1) c5); have HO4 := Lib.hid (ownsRow_setCell_below hown3 (a := ⟨Q, 1, none⟩) hQW2 (.slice A5 (j + 1) c5)); clear hown3 hgrow3 S3 K3)
                        go_roundw
                        case rel => first | exact ⟨j + 1, by omega, by go_num, os ++ [1 + (o : Int)], _, S4.out, HO4.out, hos2⟩ | exact ⟨j + 1, by omega, by go_num, os ++ [1 + (o : Int)], _, S4.out, HO4.out, hos2, K5⟩ | exact ⟨j + 1, os ++ [1 + (o : Int)], _, by omega, by go_num, S4.out, HO4.out, hos2, K5⟩ | ((repeat apply Exists.intro); exact ⟨⟨j + 1, os ++ [1 + (o : Int)], _, by omega, by go_num, S4.out, HO4.out, hos2, K5⟩, rfl⟩)
                        case measure => simp [intOf]; omega
                      · have e7 : decide ((j : Int) < m2) = false := by simp; omega
                        have hos2 : Hid ((os ++ [1]).length = j + 1 ∧ ∀ x ∈ os ++ [1], 1 ≤ x ∧ x < (a : Int)) := by
                          refine ⟨by rw [List.length_append, hos.out.1]; rfl, fun x hx => ?_⟩
                          rcases List.mem_append.1 hx with hx | hx
                          · exact hos.out.2 x hx
                          · obtain rfl : x = 1 := by simpa using hx
                            omega
                        go_wp2_with (at_builtin; refine wpList_append_own _ rfl _ _ 22 rfl W2.heap.size 3 i0 (.int .i64 0) 1 8 Try.underlying22 HI.out hz0 hz1 hz2 rfl (by decide) _ j _ rfl (HO.out.alloc _) ⟨wr.heap.size, 0, none⟩ 1 1 [.int .i64 (1)] rfl rfl (cell_one_new _ _ _) (by simp [Value.oneCell']) (by unfold maxLen; omega) (by omega) (by simp; omega) ?_; intro v3 w3 hown3 hgrow3 _; rw [show intC os ++ [.int .i64 (1)] = intC (os ++ [1]) from (by simp [intC])] at hown3; obtain ⟨A5, c5, rfl⟩ := own_slice hown3; have HL3 := HO.out.lt; have S3 := (ST.out.keep ((Kept.refl wr).alloc _)).grown hQW2 hgrow3 (fun g hg => (HL3 g hg).1); have K3 : Kept w w3 := (kr5.alloc _).grown hgrow3 (fun g hg => Nat.le_trans K4.size (HL3 g hg).1); have c13 := S3.c1; have f13 := S3.frz 1; have S4 := Lib.hid (S3.set1 (.slice A5 (j + 1) c5)); have K5 := K3.setCell (p := ⟨Q, 1, none⟩) hQw.out (.slice A5 (j + 1) c5); have HO4 := Lib.hid (ownsRow_setCell_below hown3 (a := ⟨Q, 1, none⟩) hQW2 (.slice A5 (j + 1) c5)); clear hown3 hgrow3 S3 K3)
                        go_roundw
                        case rel => first | exact ⟨j + 1, by omega, by go_num, os ++ [1], _, S4.out, HO4.out, hos2⟩ | exact ⟨j + 1, by omega, by go_num, os ++ [1], _, S4.out, HO4.out, hos2, K5⟩ | exact ⟨j + 1, os ++ [1], _, by omega, by go_num, S4.out, HO4.out, hos2, K5⟩ | ((repeat apply Exists.intro); exact ⟨⟨j + 1, os ++ [1], _, by omega, by go_num, S4.out, HO4.out, hos2, K5⟩, rfl⟩)
                        case measure => simp [intOf]; omega
                    · obtain rfl : j = le + 1 := by omega
                      obtain ⟨ob, d2, rfl, hob, _⟩ := own_some HO.out (by omega)
                      have hH3 := Lib.hid (ST.out.but.heap hH2.out (by simpa using hRQ.out))
                      have hR3 := hR2.out.move ST.out.but hRQ.out
                      have hRo : R < ob := by have := hR2.out.under; omega
                      have r0 := hR3.c0
                      have r1 := hR3.c1
                      have r2 := hR3.c2
                      have q0 := hR3.frz 0
                      have q1 := hR3.frz 1
                      have q2 := hR3.frz 2
                      have OS2 : Hid (IntsAt wr (some ⟨ob, 0, none⟩) (le + 1) d2 os) := by
                        obtain ⟨A9, c9, e9, h9⟩ := IntsAt.of_ownI HO.out
                        cases e9
                        exact h9
                      have RS3 := Lib.hid (RS2.out.but ST.out.but (by simpa using hg3Q))
                      have PS3 := Lib.hid (PS2.out.but ST.out.but (by simpa using hpQ))
                      have PF3 : Hid (∀ i, wr.frozen? ⟨pb, i, none⟩ = false) := fun i => by rw [ST.out.but.frozen (p := ⟨pb, i, none⟩) hpb2 (by simpa using hpQ)]; exact PF2.out i
                      have hpb3 : pb < wr.heap.size := Nat.lt_of_lt_of_le hpb2 ST.out.but.size
                      have hobp : ob ≠ pb := by omega
                      clear HO hob hR3
                      go_wp2_with fail
                      have s1 := heap_setCell_same wr R 0 _ _ (.slice (some ⟨g3, 0, none⟩) (le + 1) c3) hH3.out
                      have s2 := heap_setCell_same _ R 1 _ _ (.slice (some ⟨ob, 0, none⟩) (le + 1) d2) s1
                      have s3 := heap_setCell_same _ R 2 _ _ (.slice (some ⟨pb, 0, none⟩) (N + 1) d3) s2
                      have hBR : But [R] wr (((wr.setCell ⟨R, 0, none⟩ (.slice (some ⟨g3, 0, none⟩) (le + 1) c3)).setCell ⟨R, 1, none⟩ (.slice (some ⟨ob, 0, none⟩) (le + 1) d2)).setCell ⟨R, 2, none⟩ (.slice (some ⟨pb, 0, none⟩) (N + 1) d3)) := (((But.refl _ _).setCell (.inl (by simp)) _).setCell (.inl (by simp)) _).setCell (.inl (by simp)) _
                      (try simp only [Exit.inBlock, Exit.then])
                      refine bodyPost_ret (results_cell_row rfl _ _ R _ #[.slice (some ⟨g3, 0, none⟩) (le + 1) c3, .slice (some ⟨ob, 0, none⟩) (le + 1) d2, .slice (some ⟨pb, 0, none⟩) (N + 1) d3] (0, 0) _ rfl s3 Try.underlying28 rfl (by kernel_rfl)) rfl ?_
                      refine ⟨_, _, _, _, _, _, _, _, _, es, os, psOf zs N, rfl, ⟨by omega, by omega, by omega, hg3p, hobp, fun i => by rw [hBR.frozen (p := ⟨pb, i, none⟩) hpb3 (by simp; omega)]; exact PF3.out i⟩, ⟨RS3.out.but hBR (by simp; omega), OS2.out.but hBR (by simp; omega), PS3.out.but hBR (by simp; omega)⟩, ⟨⟨hup.out, by rw [hos.out.1, HLE.out], fun i hi => ?_, by omega, hN6⟩, psOf_tree zs hN5⟩, kr5.but hBR (by simp; omega)⟩
                      have hi2 : i < os.length := by rw [hos.out.1]; have := HLE.out; omega
                      rw [HA.out]
                      unfold oa
                      rw [List.getElem?_eq_getElem hi2]
                      exact hos.out.2 _ (List.getElem_mem hi2)
            · have e1 : decide ((i : Int) < m) = true := by simp; omega
              have e2 : decide ((i : Int) < 6) = false := by simp; omega
              go_wp2_with (at_builtin; refine wpList_append_own _ rfl _ _ 26 rfl W1.heap.size 52 j0 (.agg #[.string ⟨#[]⟩, .string ⟨#[]⟩]) 2 32 Try.underlying26 HJ.out hy0 hy1 hy2 rfl (by decide) _ le _ rfl (HO.out.alloc _) ⟨wr.heap.size, 0, none⟩ 1 1 [.string at_, .string ⟨#[]⟩] rfl rfl (cells_two _ _ _ _) (by simp [Value.oneCell']) (by unfold maxLen; omega) (by omega) (by simp; omega) ?_; intro v3 w3 hown3 hgrow3 _; rw [hsn.out] at hown3; obtain ⟨g3, c3, rfl, hg3, _⟩ := own_some hown3 (by omega); have HL3 := HO.out.lt; have S3 := (ST.out.keep ((Kept.refl wr).alloc _)).grown hQW hgrow3 (fun g hg => (HL3 g hg).1); have K3 : Kept w w3 := (kr.alloc _).grown hgrow3 (fun g hg => Nat.le_trans K1.size (HL3 g hg).1); have c03 := S3.c0; have f03 := S3.frz 0; have S4 := Lib.hid (S3.set0 (.slice (some ⟨g3, 0, none⟩) (le + 1) c3)); have K4 := K3.setCell (p := ⟨Q, 0, none⟩) hQw.out (.slice (some ⟨g3, 0, none⟩) (le + 1) c3); have HO4 := Lib.hid (ownsRow_setCell_below hown3 (a := ⟨Q, 0, none⟩) hQW (.slice (some ⟨g3, 0, none⟩) (le + 1) c3)); clear hown3 hgrow3 S3 K3)
              generalize w3.setCell ⟨Q, 0, none⟩ (.slice (some ⟨g3, 0, none⟩) (le + 1) c3) = W2 at *
              have RS2 : Hid (RowS W2 (some ⟨g3, 0, none⟩) (le + 1) c3 (rgs es)) := by
                obtain ⟨A9, c9, e9, h9⟩ := RowS.of_own HO4.out
                cases e9
                exact h9
              have PS2 := Lib.hid (HPS.out.but S4.out.but (by simpa using hpQ))
              have PF2 : Hid (∀ i, W2.frozen? ⟨pb, i, none⟩ = false) := fun i => by rw [S4.out.but.frozen (p := ⟨pb, i, none⟩) hpbl (by simpa using hpQ)]; exact PF1.out i
              have hpb2 : pb < W2.heap.size := Nat.lt_of_lt_of_le hpbl S4.out.but.size
              have hg3p : g3 ≠ pb := by omega
              have hg3Q : g3 ≠ Q := by omega
              have ST2 := Lib.hid S4.out.again
              have HB2 := Lib.hid (HB1.out.but S4.out.but hXQ.out)
              have hH2 := Lib.hid (S4.out.but.heap hH1.out (by simpa using hRQ.out))
              have hR2 := Lib.hid (hR1.out.move S4.out.but hRQ.out)
              have hRg : R < g3 := by have := hR1.out.under; omega
              have hQW2 := ST2.out.under
              have hN6 : N + 1 ≤ 6 := by omega
              clear c0 f0 c03 f03 HO4 S4 HO ST hg3 hz hQr hps2 hol hsn HPS
              go_loopw [8, 9] (fun av kv w9 => ∃ k : Nat, k ≤ N + 1 ∧ av = .int .i64 ((2 ^ k : Nat) : Int) ∧ kv = .int .i64 k ∧ Hid (w9 = W2)) (fun _ kv _ => N + 1 - (intOf kv).toNat)
              case atStart => exact ⟨0, by omega, rfl, rfl, rfl⟩
              case round =>
                obtain ⟨k, hk, rfl, rfl, hw9⟩ := hrel
                have q2c : wr.cell? ⟨Q, 2, none⟩ = some (.slice (some ⟨pb, 0, none⟩) (N + 1) d3) := by rw [hw9.out]; exact ST2.out.c2
                by_cases hkn : k < N + 1
                · have hp1 := two_le (n := k) (by omega)
                  have hp2 : Hid (2 ^ (k + 1) = 2 * 2 ^ k) := by unfold Hid; rw [Nat.pow_succ, Nat.mul_comm]
                  generalize 2 ^ k = t at *
                  go_wp2_with fail
                  go_roundw
                  case rel => first | exact ⟨k + 1, by omega, by rw [hp2.out]; go_num, by go_num, hw9⟩ | ((repeat apply Exists.intro); exact ⟨⟨k + 1, by omega, by rw [hp2.out]; go_num, by go_num, hw9⟩, rfl⟩)
                  case measure => simp [intOf]; omega
                · obtain rfl : k = N + 1 := by omega
                  have hw := hw9.out
                  clear hw9
                  subst hw
                  obtain ⟨W2, rfl⟩ : ∃ W2, W2 = wr := ⟨_, rfl⟩
                  have ha1 := two_le (n := N + 1) (by omega)
                  have ha2 : 2 ≤ 2 ^ (N + 1) := by
                    have : 0 < 2 ^ N := Nat.pow_pos (by omega)
                    rw [Nat.pow_succ]
                    omega
                  have hae : Hid (2 ^ (N + 1) = 2 ^ (N + 1)) := rfl
                  generalize ha : 2 ^ (N + 1) = a at *
                  have HA := Lib.hid ha
                  clear ha hae
                  go_wp2_with fail
                  go_loopw [10] (fun kv w9 => ∃ (j : Nat) (os : List Int) (v : Value), j ≤ le + 1 ∧ kv = .int .i64 j ∧ QSt W2 Q w9 (.slice (some ⟨g3, 0, none⟩) (le + 1) c3) v (.slice (some ⟨pb, 0, none⟩) (N + 1) d3) ∧ w9.ownsRow W2.heap.size 3 1 v j (intC os) ∧ Hid (os.length = j ∧ ∀ x ∈ os, 1 ≤ x ∧ x < (a : Int)) ∧ Kept w w9) (fun kv _ => le + 1 - (intOf kv).toNat)
                  case atStart => exact ⟨0, [], _, by omega, rfl, ST2.out, World.ownsRow_nil _ _ _ _, ⟨rfl, fun x hx => by cases hx⟩, K4⟩
                  case round =>
                    obtain ⟨j, os, v, hj, rfl, st, ho, hos, kr5⟩ := hrel
                    have ST := Lib.hid st
                    have HO := Lib.hid ho
                    have c0 := st.c0
                    have c1 := st.c1
                    have c2_ := st.c2
                    have f1 := st.frz 1
                    have hQr := st.under
                    have hz := st.but.size
                    have bx1 := (HB2.out.but st.but hXQ.out).c1
                    have hXw := World.block_lt_of_cell? wr _ bx1
                    clear st ho
                    by_cases hjl : j < le + 1
                    · have hol : Hid ((intC os).length = j * 1) := by unfold Hid; rw [intC_len, hos.out.1, Nat.mul_one]
                      by_cases hjm : j < m2
                      · obtain ⟨yb, yo, rfl, hyc⟩ := HY.out.2.2.2.2 (by omega)
                        have cy : wr.cell? ⟨yb, yo + j, none⟩ = some (.int .i64 (ys[j]?.getD (-2))) := kr5.at_ (hyc j hjm)
                        have e7 : decide ((j : Int) < m2) = true := by simp; omega
                        generalize ys[j]?.getD (-2) = y at *
                        have hb0 := tmod_bd y ((a : Int) - 1) (by omega)
                        obtain ⟨o, hro, hro2⟩ : ∃ r : Nat, (y.tmod ((a : Int) - 1) + a - 1).tmod ((a : Int) - 1) = r ∧ r + 1 < a := by
                          have h2 := Int.tmod_nonneg ((a : Int) - 1) (show 0 ≤ y.tmod ((a : Int) - 1) + a - 1 by omega)
                          have h3 := Int.tmod_lt_of_pos (y.tmod ((a : Int) - 1) + a - 1) (show 0 < (a : Int) - 1 by omega)
                          exact ⟨_, (Int.toNat_of_nonneg h2).symm, by omega⟩
                        have hos2 : Hid ((os ++ [1 + (o : Int)]).length = j + 1 ∧ ∀ x ∈ os ++ [1 + (o : Int)], 1 ≤ x ∧ x < (a : Int)) := by
                          refine ⟨by rw [List.length_append, hos.out.1]; rfl, fun x hx => ?_⟩
                          rcases List.mem_append.1 hx with hx | hx
                          · exact hos.out.2 x hx
                          · obtain rfl : x = 1 + (o : Int) := by simpa using hx
                            omega
                        clear hyc
                        go_wp2_with (at_builtin; refine wpList_append_own _ rfl _ _ 22 rfl W2.heap.size 3 i0 (.int .i64 0) 1 8 Try.underlying22 HI.out hz0 hz1 hz2 rfl (by decide) _ j _ rfl (HO.out.alloc _) ⟨wr.heap.size, 0, none⟩ 1 1 [.int .i64 (1 + (o : Int))] rfl rfl (cell_one_new _ _ _) (by simp [Value.oneCell']) (by unfold maxLen; omega) (by omega) (by simp; omega) ?_; intro v3 w3 hown3 hgrow3 _; rw [show intC os ++ [.int .i64 (1 + (o : Int))] = intC (os ++ [1 + (o : Int)]) from (by simp [intC])] at hown3; obtain ⟨A5, c5, rfl⟩ := own_slice hown3; have HL3 := HO.out.lt; have S3 := (ST.out.keep ((Kept.refl wr).alloc _)).grown hQW2 hgrow3 (fun g hg => (HL3 g hg).1); have K3 : Kept w w3 := (kr5.alloc _).grown hgrow3 (fun g hg => Nat.le_trans K4.size (HL3 g hg).1); have c13 := S3.c1; have f13 := S3.frz 1; have S4 := Lib.hid (S3.set1 (.slice A5 (j + 1) c5)); have K5 := K3.setCell (p := ⟨Q, 1, none⟩) hQw.out (.slice A5 (j + 1) c5); have HO4 := Lib.hid (ownsRow_setCell_below hown3 (a := ⟨Q, 1, none⟩) hQW2 (.slice A5 (j + 1) c5)); clear hown3 hgrow3 S3 K3)
                        go_roundw
                        case rel => first | exact ⟨j + 1, by omega, by go_num, os ++ [1 + (o : Int)], _, S4.out, HO4.out, hos2⟩ | exact ⟨j + 1, by omega, by go_num, os ++ [1 + (o : Int)], _, S4.out, HO4.out, hos2, K5⟩ | exact ⟨j + 1, os ++ [1 + (o : Int)], _, by omega, by go_num, S4.out, HO4.out, hos2, K5⟩ | ((repeat apply Exists.intro); exact ⟨⟨j + 1, os ++ [1 + (o : Int)], _, by omega, by go_num, S4.out, HO4.out, hos2, K5⟩, rfl⟩)
                        case measure => simp [intOf]; omega
                      · have e7 : decide ((j : Int) < m2) = false := by simp; omega
                        have hos2 : Hid ((os ++ [1]).length = j + 1 ∧ ∀ x ∈ os ++ [1], 1 ≤ x ∧ x < (a : Int)) := by
                          refine ⟨by rw [List.length_append, hos.out.1]; rfl, fun x hx => ?_⟩
                          rcases List.mem_append.1 hx with hx | hx
                          · exact hos.out.2 x hx
                          · obtain rfl : x = 1 := by simpa using hx
                            omega
                        go_wp2_with (at_builtin; refine wpList_append_own _ rfl _ _ 22 rfl W2.heap.size 3 i0 (.int .i64 0) 1 8 Try.underlying22 HI.out hz0 hz1 hz2 rfl (by decide) _ j _ rfl (HO.out.alloc _) ⟨wr.heap.size, 0, none⟩ 1 1 [.int .i64 (1)] rfl rfl (cell_one_new _ _ _) (by simp [Value.oneCell']) (by unfold maxLen; omega) (by omega) (by simp; omega) ?_; intro v3 w3 hown3 hgrow3 _; rw [show intC os ++ [.int .i64 (1)] = intC (os ++ [1]) from (by simp [intC])] at hown3; obtain ⟨A5, c5, rfl⟩ := own_slice hown3; have HL3 := HO.out.lt; have S3 := (ST.out.keep ((Kept.refl wr).alloc _)).grown hQW2 hgrow3 (fun g hg => (HL3 g hg).1); have K3 : Kept w w3 := (kr5.alloc _).grown hgrow3 (fun g hg => Nat.le_trans K4.size (HL3 g hg).1); have c13 := S3.c1; have f13 := S3.frz 1; have S4 := Lib.hid (S3.set1 (.slice A5 (j + 1) c5)); have K5 := K3.setCell (p := ⟨Q, 1, none⟩) hQw.out (.slice A5 (j + 1) c5); have HO4 := Lib.hid (ownsRow_setCell_below hown3 (a := ⟨Q, 1, none⟩) hQW2 (.slice A5 (j + 1) c5)); clear hown3 hgrow3 S3 K3)
                        go_roundw
                        case rel => first | exact ⟨j + 1, by omega, by go_num, os ++ [1], _, S4.out, HO4.out, hos2⟩ | exact ⟨j + 1, by omega, by go_num, os ++ [1], _, S4.out, HO4.out, hos2, K5⟩ | exact ⟨j + 1, os ++ [1], _, by omega, by go_num, S4.out, HO4.out, hos2, K5⟩ | ((repeat apply Exists.intro); exact ⟨⟨j + 1, os ++ [1], _, by omega, by go_num, S4.out, HO4.out, hos2, K5⟩, rfl⟩)
                        case measure => simp [intOf]; omega
                    · obtain rfl : j = le + 1 := by omega
                      obtain ⟨ob, d2, rfl, hob, _⟩ := own_some HO.out (by omega)
                      have hH3 := Lib.hid (ST.out.but.heap hH2.out (by simpa using hRQ.out))
                      have hR3 := hR2.out.move ST.out.but hRQ.out
                      have hRo : R < ob := by have := hR2.out.under; omega
                      have r0 := hR3.c0
                      have r1 := hR3.c1
                      have r2 := hR3.c2
                      have q0 := hR3.frz 0
                      have q1 := hR3.frz 1
                      have q2 := hR3.frz 2
                      have OS2 : Hid (IntsAt wr (some ⟨ob, 0, none⟩) (le + 1) d2 os) := by
                        obtain ⟨A9, c9, e9, h9⟩ := IntsAt.of_ownI HO.out
                        cases e9
                        exact h9
                      have RS3 := Lib.hid (RS2.out.but ST.out.but (by simpa using hg3Q))
                      have PS3 := Lib.hid (PS2.out.but ST.out.but (by simpa using hpQ))
                      have PF3 : Hid (∀ i, wr.frozen? ⟨pb, i, none⟩ = false) := fun i => by rw [ST.out.but.frozen (p := ⟨pb, i, none⟩) hpb2 (by simpa using hpQ)]; exact PF2.out i
                      have hpb3 : pb < wr.heap.size := Nat.lt_of_lt_of_le hpb2 ST.out.but.size
                      have hobp : ob ≠ pb := by omega
                      clear HO hob hR3
                      go_wp2_with fail
                      have s1 := heap_setCell_same wr R 0 _ _ (.slice (some ⟨g3, 0, none⟩) (le + 1) c3) hH3.out
                      have s2 := heap_setCell_same _ R 1 _ _ (.slice (some ⟨ob, 0, none⟩) (le + 1) d2) s1
                      have s3 := heap_setCell_same _ R 2 _ _ (.slice (some ⟨pb, 0, none⟩) (N + 1) d3) s2
                      have hBR : But [R] wr (((wr.setCell ⟨R, 0, none⟩ (.slice (some ⟨g3, 0, none⟩) (le + 1) c3)).setCell ⟨R, 1, none⟩ (.slice (some ⟨ob, 0, none⟩) (le + 1) d2)).setCell ⟨R, 2, none⟩ (.slice (some ⟨pb, 0, none⟩) (N + 1) d3)) := (((But.refl _ _).setCell (.inl (by simp)) _).setCell (.inl (by simp)) _).setCell (.inl (by simp)) _
                      (try simp only [Exit.inBlock, Exit.then])
                      refine bodyPost_ret (results_cell_row rfl _ _ R _ #[.slice (some ⟨g3, 0, none⟩) (le + 1) c3, .slice (some ⟨ob, 0, none⟩) (le + 1) d2, .slice (some ⟨pb, 0, none⟩) (N + 1) d3] (0, 0) _ rfl s3 Try.underlying28 rfl (by kernel_rfl)) rfl ?_
                      refine ⟨_, _, _, _, _, _, _, _, _, es, os, psOf zs N, rfl, ⟨by omega, by omega, by omega, hg3p, hobp, fun i => by rw [hBR.frozen (p := ⟨pb, i, none⟩) hpb3 (by simp; omega)]; exact PF3.out i⟩, ⟨RS3.out.but hBR (by simp; omega), OS2.out.but hBR (by simp; omega), PS3.out.but hBR (by simp; omega)⟩, ⟨⟨hup.out, by rw [hos.out.1, HLE.out], fun i hi => ?_, by omega, hN6⟩, psOf_tree zs hN5⟩, kr5.but hBR (by simp; omega)⟩
                      have hi2 : i < os.length := by rw [hos.out.1]; have := HLE.out; omega
                      rw [HA.out]
                      unfold oa
                      rw [List.getElem?_eq_getElem hi2]
                      exact hos.out.2 _ (List.getElem_mem hi2)
      · have e1 : decide ((N : Int) < m3) = true := by simp; omega
        have e2 : decide ((N : Int) < 5) = false := by simp; omega
        go_wp2_with fail
        clear e1
        go_loopw [5, 6] (fun av iv w2 => ∃ (i : Nat) (es : List Nat) (v : Value), i ≤ m ∧ i ≤ 6 ∧ iv = .int .i64 i ∧ av = .string (fr es es.length) ∧ es.length ≤ i ∧ Hid (Up es) ∧ QSt W1 Q w2 v (.slice none 0 0) (.slice (some ⟨pb, 0, none⟩) (N + 1) d3) ∧ w2.ownsRow W1.heap.size 52 2 v es.length (rgC (pre es)) ∧ Kept w w2) (fun _ iv _ => m - (intOf iv).toNat)
        case atStart => exact ⟨0, [], _, by omega, by omega, rfl, rfl, by simp, up_nil, ST1.out, World.ownsRow_nil _ _ _ _, K1⟩
        case round =>
          obtain ⟨i, es, v, hi, hi6, rfl, rfl, hel, hup, st, ho, kr⟩ := hrel
          have ST := Lib.hid st
          have HO := Lib.hid ho
          have bx0 := (HB1.out.but st.but hXQ.out).c0
          have hXw := World.block_lt_of_cell? wr _ bx0
          by_cases hlt : i < m ∧ i < 6
          · have e1 : decide ((i : Int) < m) = true := by simp; omega
            have e2 : decide ((i : Int) < 6) = true := by simp; omega
            obtain ⟨b, off, rfl, hc⟩ := HX.out.2.2.2.2 (by omega)
            have cl : wr.cell? ⟨b, off + i, none⟩ = some (.int .i64 (xs[i]?.getD (-2))) := kr.at_ (hc i hlt.1)
            have hbw : b < wr.heap.size := World.block_lt_of_cell? wr _ cl
            generalize xs[i]?.getD (-2) = x at *
            have hb0 := tmod_bd x 26 (by omega)
            obtain ⟨r, hr, hr26⟩ : ∃ r : Nat, (x.tmod 26 + 26).tmod 26 = r ∧ r < 26 := by
              have h2 := Int.tmod_nonneg (26 : Int) (show 0 ≤ x.tmod 26 + 26 by omega)
              have h3 := Int.tmod_lt_of_pos (x.tmod 26 + 26) (show 0 < (26 : Int) by omega)
              exact ⟨_, (Int.toNat_of_nonneg h2).symm, by omega⟩
            have hcv := conv_ch wr r
            have c0 := st.c0
            have f0 := st.frz 0
            have hQr := st.under
            have hz := st.but.size
            rcases Int.lt_or_le (hv (fr es es.length)) (97 + r : Nat) with hlo | hhi
            · obtain ⟨hbl1, hbl2⟩ := cmp_lo hup.out (c := 97 + r) (by omega) hlo
              have hup2 := Lib.hid (hup.out.snoc (e := 97 + r) (by omega) (by omega) (by omega) hlo)
              have hps2 := Lib.hid (pre_snoc es (97 + r))
              have hfe := Lib.hid (fr_end es (97 + r))
              have hol : Hid ((rgC (pre es)).length = es.length * 2) := by unfold Hid; rw [rgC_len, pre_len]
              have hle2 : Hid ((es ++ [97 + r]).length = es.length + 1) := by unfold Hid; simp
              clear st ho hlo hc
              generalize es ++ [97 + r] = es2 at *
              generalize fr es es.length = at_ at *
              generalize ch (97 + r) = e_ at *
              generalize hLe : es.length = le at *
              clear hLe
              go_wp2_with (at_builtin; refine wpList_append_own _ rfl _ _ 26 rfl W1.heap.size 52 j0 (.agg #[.string ⟨#[]⟩, .string ⟨#[]⟩]) 2 32 Try.underlying26 HJ.out hy0 hy1 hy2 rfl (by decide) _ le _ rfl ((HO.out.alloc _).alloc _) ⟨wr.heap.size + 1, 0, none⟩ 1 1 [.string at_, .string e_] rfl rfl (cells_two2 _ _ _ _ _) (by simp [Value.oneCell']) (by unfold maxLen; omega) (by omega) (by simp; omega) ?_; intro v3 w3 hown3 hgrow3 _; rw [rgC_snoc _ (at_, e_), ← hps2.out] at hown3; obtain ⟨A3, c3, rfl⟩ := own_slice hown3; have HL3 := HO.out.lt; have S3 := (ST.out.keep (((Kept.refl wr).alloc _).alloc _)).grown hQW hgrow3 (fun g hg => (HL3 g hg).1); have K3 : Kept w w3 := ((kr.alloc _).alloc _).grown hgrow3 (fun g hg => Nat.le_trans K1.size (HL3 g hg).1); have c03 := S3.c0; have f03 := S3.frz 0; have S4 := Lib.hid (S3.set0 (.slice A3 (le + 1) c3)); have K4 := K3.setCell (p := ⟨Q, 0, none⟩) hQw.out (.slice A3 (le + 1) c3); have HO4 := Lib.hid (ownsRow_setCell_below hown3 (a := ⟨Q, 0, none⟩) hQW (.slice A3 (le + 1) c3)); clear hown3 hgrow3 S3)
              go_roundw
              case rel => first | exact ⟨i + 1, es2, _, by omega, by omega, by go_num, by rw [hfe.out], by rw [hle2.out]; omega, hup2, S4.out, by rw [hle2.out]; exact HO4.out, K4⟩ | ((repeat apply Exists.intro); exact ⟨⟨i + 1, es2, _, by omega, by omega, by go_num, by rw [hfe.out], by rw [hle2.out]; omega, hup2, S4.out, by rw [hle2.out]; exact HO4.out, K4⟩, rfl⟩)
              case measure => simp [intOf]; omega
            · have hbl := cmp_hi hup.out (c := 97 + r) (by omega) (by omega) (by omega)
              have S4 := Lib.hid (ST.out.keep ((Kept.refl wr).alloc (.cells #[.int .u8 (97 + (r : Int))] 5)))
              have HO4 := Lib.hid (HO.out.alloc (.cells #[.int .u8 (97 + (r : Int))] 5))
              have hfr : Hid (∃ a, a = fr es es.length) := ⟨_, rfl⟩
              obtain ⟨at_, hat⟩ : ∃ a, fr es es.length = a := ⟨_, rfl⟩
              have HAT := Lib.hid hat
              rw [hat] at hbl ⊢
              clear st ho hhi hc hat
              generalize ch (97 + r) = e_ at *
              rcases hbl with hbl | ⟨hbl, hbl2⟩
              · go_wp2_with fail
                go_roundw
                case rel => first | exact ⟨i + 1, es, _, by omega, by omega, by go_num, by rw [HAT.out], by omega, hup, S4.out, HO4.out, kr.alloc _⟩ | ((repeat apply Exists.intro); exact ⟨⟨i + 1, es, _, by omega, by omega, by go_num, by rw [HAT.out], by omega, hup, S4.out, HO4.out, kr.alloc _⟩, rfl⟩)
                case measure => simp [intOf]; omega
              · go_wp2_with fail
                go_roundw
                case rel => first | exact ⟨i + 1, es, _, by omega, by omega, by go_num, by rw [HAT.out], by omega, hup, S4.out, HO4.out, kr.alloc _⟩ | ((repeat apply Exists.intro); exact ⟨⟨i + 1, es, _, by omega, by omega, by go_num, by rw [HAT.out], by omega, hup, S4.out, HO4.out, kr.alloc _⟩, rfl⟩)
                case measure => simp [intOf]; omega
          · have e9 : m ≤ i ∨ (i < m ∧ 6 ≤ i) := by omega
            have c0 := st.c0
            have f0 := st.frz 0
            have hQr := st.under
            have hz := st.but.size
            have hps2 := Lib.hid (rgs_pre es)
            have hol : Hid ((rgC (pre es)).length = es.length * 2) := by unfold Hid; rw [rgC_len, pre_len]
            obtain ⟨at_, hat⟩ : ∃ a, fr es es.length = a := ⟨_, rfl⟩
            obtain ⟨le, hle⟩ : ∃ a, es.length = a := ⟨_, rfl⟩
            have HLE := Lib.hid hle
            rw [hat] at hps2
            rw [hle] at HO hol hel
            rw [hat]
            have hsn : Hid (rgC (pre es) ++ [.string at_, .string ⟨#[]⟩] = rgC (rgs es)) := by unfold Hid; rw [hps2.out]; exact rgC_snoc (pre es) (at_, nil)
            clear st ho hat hle hlt
            rcases e9 with e9 | ⟨e9, e8⟩
            · have e1 : decide ((i : Int) < m) = false := by simp; omega
              go_wp2_with (at_builtin; refine wpList_append_own _ rfl _ _ 26 rfl W1.heap.size 52 j0 (.agg #[.string ⟨#[]⟩, .string ⟨#[]⟩]) 2 32 Try.underlying26 HJ.out hy0 hy1 hy2 rfl (by decide) _ le _ rfl (HO.out.alloc _) ⟨wr.heap.size, 0, none⟩ 1 1 [.string at_, .string ⟨#[]⟩] rfl rfl (cells_two _ _ _ _) (by simp [Value.oneCell']) (by unfold maxLen; omega) (by omega) (by simp; omega) ?_; intro v3 w3 hown3 hgrow3 _; rw [hsn.out] at hown3; obtain ⟨g3, c3, rfl, hg3, _⟩ := own_some hown3 (by omega); have HL3 := HO.out.lt; have S3 := (ST.out.keep ((Kept.refl wr).alloc _)).grown hQW hgrow3 (fun g hg => (HL3 g hg).1); have K3 : Kept w w3 := (kr.alloc _).grown hgrow3 (fun g hg => Nat.le_trans K1.size (HL3 g hg).1); have c03 := S3.c0; have f03 := S3.frz 0; have S4 := Lib.hid (S3.set0 (.slice (some ⟨g3, 0, none⟩) (le + 1) c3)); have K4 := K3.setCell (p := ⟨Q, 0, none⟩) hQw.out (.slice (some ⟨g3, 0, none⟩) (le + 1) c3); have HO4 := Lib.hid (ownsRow_setCell_below hown3 (a := ⟨Q, 0, none⟩) hQW (.slice (some ⟨g3, 0, none⟩) (le + 1) c3)); clear hown3 hgrow3 S3 K3)
              generalize w3.setCell ⟨Q, 0, none⟩ (.slice (some ⟨g3, 0, none⟩) (le + 1) c3) = W2 at *
              have RS2 : Hid (RowS W2 (some ⟨g3, 0, none⟩) (le + 1) c3 (rgs es)) := by
                obtain ⟨A9, c9, e9, h9⟩ := RowS.of_own HO4.out
                cases e9
                exact h9
              have PS2 := Lib.hid (HPS.out.but S4.out.but (by simpa using hpQ))
              have PF2 : Hid (∀ i, W2.frozen? ⟨pb, i, none⟩ = false) := fun i => by rw [S4.out.but.frozen (p := ⟨pb, i, none⟩) hpbl (by simpa using hpQ)]; exact PF1.out i
              have hpb2 : pb < W2.heap.size := Nat.lt_of_lt_of_le hpbl S4.out.but.size
              have hg3p : g3 ≠ pb := by omega
              have hg3Q : g3 ≠ Q := by omega
              have ST2 := Lib.hid S4.out.again
              have HB2 := Lib.hid (HB1.out.but S4.out.but hXQ.out)
              have hH2 := Lib.hid (S4.out.but.heap hH1.out (by simpa using hRQ.out))
              have hR2 := Lib.hid (hR1.out.move S4.out.but hRQ.out)
              have hRg : R < g3 := by have := hR1.out.under; omega
              have hQW2 := ST2.out.under
              have hN6 : N + 1 ≤ 6 := by omega
              clear c0 f0 c03 f03 HO4 S4 HO ST hg3 hz hQr hps2 hol hsn HPS
              go_loopw [8, 9] (fun av kv w9 => ∃ k : Nat, k ≤ N + 1 ∧ av = .int .i64 ((2 ^ k : Nat) : Int) ∧ kv = .int .i64 k ∧ Hid (w9 = W2)) (fun _ kv _ => N + 1 - (intOf kv).toNat)
              case atStart => exact ⟨0, by omega, rfl, rfl, rfl⟩
              case round =>
                obtain ⟨k, hk, rfl, rfl, hw9⟩ := hrel
                have q2c : wr.cell? ⟨Q, 2, none⟩ = some (.slice (some ⟨pb, 0, none⟩) (N + 1) d3) := by rw [hw9.out]; exact ST2.out.c2
                by_cases hkn : k < N + 1
                · have hp1 := two_le (n := k) (by omega)
                  have hp2 : Hid (2 ^ (k + 1) = 2 * 2 ^ k) := by unfold Hid; rw [Nat.pow_succ, Nat.mul_comm]
                  generalize 2 ^ k = t at *
                  go_wp2_with fail
                  go_roundw
                  case rel => first | exact ⟨k + 1, by omega, by rw [hp2.out]; go_num, by go_num, hw9⟩ | ((repeat apply Exists.intro); exact ⟨⟨k + 1, by omega, by rw [hp2.out]; go_num, by go_num, hw9⟩, rfl⟩)
                  case measure => simp [intOf]; omega
                · obtain rfl : k = N + 1 := by omega
                  have hw := hw9.out
                  clear hw9
                  subst hw
                  obtain ⟨W2, rfl⟩ : ∃ W2, W2 = wr := ⟨_, rfl⟩
                  have ha1 := two_le (n := N + 1) (by omega)
                  have ha2 : 2 ≤ 2 ^ (N + 1) := by
                    have : 0 < 2 ^ N := Nat.pow_pos (by omega)
                    rw [Nat.pow_succ]
                    omega
                  have hae : Hid (2 ^ (N + 1) = 2 ^ (N + 1)) := rfl
                  generalize ha : 2 ^ (N + 1) = a at *
                  have HA := Lib.hid ha
                  clear ha hae
                  go_wp2_with fail
                  go_loopw [10] (fun kv w9 => ∃ (j : Nat) (os : List Int) (v : Value), j ≤ le + 1 ∧ kv = .int .i64 j ∧ QSt W2 Q w9 (.slice (some ⟨g3, 0, none⟩) (le + 1) c3) v (.slice (some ⟨pb, 0, none⟩) (N + 1) d3) ∧ w9.ownsRow W2.heap.size 3 1 v j (intC os) ∧ Hid (os.length = j ∧ ∀ x ∈ os, 1 ≤ x ∧ x < (a : Int)) ∧ Kept w w9) (fun kv _ => le + 1 - (intOf kv).toNat)
                  case atStart => exact ⟨0, [], _, by omega, rfl, ST2.out, World.ownsRow_nil _ _ _ _, ⟨rfl, fun x hx => by cases hx⟩, K4⟩
                  case round =>
                    obtain ⟨j, os, v, hj, rfl, st, ho, hos, kr5⟩ := hrel
                    have ST := Lib.hid st
                    have HO := Lib.hid ho
                    have c0 := st.c0
                    have c1 := st.c1
                    have c2_ := st.c2
                    have f1 := st.frz 1
                    have hQr := st.under
                    have hz := st.but.size
                    have bx1 := (HB2.out.but st.but hXQ.out).c1
                    have hXw := World.block_lt_of_cell? wr _ bx1
                    clear st ho
                    by_cases hjl : j < le + 1
                    · have hol : Hid ((intC os).length = j * 1) := by unfold Hid; rw [intC_len, hos.out.1, Nat.mul_one]
                      by_cases hjm : j < m2
                      · obtain ⟨yb, yo, rfl, hyc⟩ := HY.out.2.2.2.2 (by omega)
                        have cy : wr.cell? ⟨yb, yo + j, none⟩ = some (.int .i64 (ys[j]?.getD (-2))) := kr5.at_ (hyc j hjm)
                        have e7 : decide ((j : Int) < m2) = true := by simp; omega
                        generalize ys[j]?.getD (-2) = y at *
                        have hb0 := tmod_bd y ((a : Int) - 1) (by omega)
                        obtain ⟨o, hro, hro2⟩ : ∃ r : Nat, (y.tmod ((a : Int) - 1) + a - 1).tmod ((a : Int) - 1) = r ∧ r + 1 < a := by
                          have h2 := Int.tmod_nonneg ((a : Int) - 1) (show 0 ≤ y.tmod ((a : Int) - 1) + a - 1 by omega)
                          have h3 := Int.tmod_lt_of_pos (y.tmod ((a : Int) - 1) + a - 1) (show 0 < (a : Int) - 1 by omega)
                          exact ⟨_, (Int.toNat_of_nonneg h2).symm, by omega⟩
                        have hos2 : Hid ((os ++ [1 + (o : Int)]).length = j + 1 ∧ ∀ x ∈ os ++ [1 + (o : Int)], 1 ≤ x ∧ x < (a : Int)) := by
                          refine ⟨by rw [List.length_append, hos.out.1]; rfl, fun x hx => ?_⟩
                          rcases List.mem_append.1 hx with hx | hx
                          · exact hos.out.2 x hx
                          · obtain rfl : x = 1 + (o : Int) := by simpa using hx
                            omega
                        clear hyc
                        go_wp2_with (at_builtin; refine wpList_append_own _ rfl _ _ 22 rfl W2.heap.size 3 i0 (.int .i64 0) 1 8 Try.underlying22 HI.out hz0 hz1 hz2 rfl (by decide) _ j _ rfl (HO.out.alloc _) ⟨wr.heap.size, 0, none⟩ 1 1 [.int .i64 (1 + (o : Int))] rfl rfl (cell_one_new _ _ _) (by simp [Value.oneCell']) (by unfold maxLen; omega) (by omega) (by simp; omega) ?_; intro v3 w3 hown3 hgrow3 _; rw [show intC os ++ [.int .i64 (1 + (o : Int))] = intC (os ++ [1 + (o : Int)]) from (by simp [intC])] at hown3; obtain ⟨A5, c5, rfl⟩ := own_slice hown3; have HL3 := HO.out.lt; have S3 := (ST.out.keep ((Kept.refl wr).alloc _)).grown hQW2 hgrow3 (fun g hg => (HL3 g hg).1); have K3 : Kept w w3 := (kr5.alloc _).grown hgrow3 (fun g hg => Nat.le_trans K4.size (HL3 g hg).1); have c13 := S3.c1; have f13 := S3.frz 1; have S4 := Lib.hid (S3.set1 (.slice A5 (j + 1) c5)); have K5 := K3.setCell (p := ⟨Q, 1, none⟩) hQw.out (.slice A5 (j + 1) c5); have HO4 := Lib.hid (ownsRow_setCell_below hown3 (a := ⟨Q, 1, none⟩) hQW2 (.slice A5 (j + 1) c5)); clear hown3 hgrow3 S3 K3)
                        go_roundw
                        case rel => first | exact ⟨j + 1, by omega, by go_num, os ++ [1 + (o : Int)], _, S4.out, HO4.out, hos2⟩ | exact ⟨j + 1, by omega, by go_num, os ++ [1 + (o : Int)], _, S4.out, HO4.out, hos2, K5⟩ | exact ⟨j + 1, os ++ [1 + (o : Int)], _, by omega, by go_num, S4.out, HO4.out, hos2, K5⟩ | ((repeat apply Exists.intro); exact ⟨⟨j + 1, os ++ [1 + (o : Int)], _, by omega, by go_num, S4.out, HO4.out, hos2, K5⟩, rfl⟩)
                        case measure => simp [intOf]; omega
                      · have e7 : decide ((j : Int) < m2) = false := by simp; omega
                        have hos2 : Hid ((os ++ [1]).length = j + 1 ∧ ∀ x ∈ os ++ [1], 1 ≤ x ∧ x < (a : Int)) := by
                          refine ⟨by rw [List.length_append, hos.out.1]; rfl, fun x hx => ?_⟩
                          rcases List.mem_append.1 hx with hx | hx
                          · exact hos.out.2 x hx
                          · obtain rfl : x = 1 := by simpa using hx
                            omega
                        go_wp2_with (at_builtin; refine wpList_append_own _ rfl _ _ 22 rfl W2.heap.size 3 i0 (.int .i64 0) 1 8 Try.underlying22 HI.out hz0 hz1 hz2 rfl (by decide) _ j _ rfl (HO.out.alloc _) ⟨wr.heap.size, 0, none⟩ 1 1 [.int .i64 (1)] rfl rfl (cell_one_new _ _ _) (by simp [Value.oneCell']) (by unfold maxLen; omega) (by omega) (by simp; omega) ?_; intro v3 w3 hown3 hgrow3 _; rw [show intC os ++ [.int .i64 (1)] = intC (os ++ [1]) from (by simp [intC])] at hown3; obtain ⟨A5, c5, rfl⟩ := own_slice hown3; have HL3 := HO.out.lt; have S3 := (ST.out.keep ((Kept.refl wr).alloc _)).grown hQW2 hgrow3 (fun g hg => (HL3 g hg).1); have K3 : Kept w w3 := (kr5.alloc _).grown hgrow3 (fun g hg => Nat.le_trans K4.size (HL3 g hg).1); have c13 := S3.c1; have f13 := S3.frz 1; have S4 := Lib.hid (S3.set1 (.slice A5 (j + 1) c5)); have K5 := K3.setCell (p := ⟨Q, 1, none⟩) hQw.out (.slice A5 (j + 1) c5); have HO4 := Lib.hid (ownsRow_setCell_below hown3 (a := ⟨Q, 1, none⟩) hQW2 (.slice A5 (j + 1) c5)); clear hown3 hgrow3 S3 K3)
                        go_roundw
                        case rel => first | exact ⟨j + 1, by omega, by go_num, os ++ [1], _, S4.out, HO4.out, hos2⟩ | exact ⟨j + 1, by omega, by go_num, os ++ [1], _, S4.out, HO4.out, hos2, K5⟩ | exact ⟨j + 1, os ++ [1], _, by omega, by go_num, S4.out, HO4.out, hos2, K5⟩ | ((repeat apply Exists.intro); exact ⟨⟨j + 1, os ++ [1], _, by omega, by go_num, S4.out, HO4.out, hos2, K5⟩, rfl⟩)
                        case measure => simp [intOf]; omega
                    · obtain rfl : j = le + 1 := by omega
                      obtain ⟨ob, d2, rfl, hob, _⟩ := own_some HO.out (by omega)
                      have hH3 := Lib.hid (ST.out.but.heap hH2.out (by simpa using hRQ.out))
                      have hR3 := hR2.out.move ST.out.but hRQ.out
                      have hRo : R < ob := by have := hR2.out.under; omega
                      have r0 := hR3.c0
                      have r1 := hR3.c1
                      have r2 := hR3.c2
                      have q0 := hR3.frz 0
                      have q1 := hR3.frz 1
                      have q2 := hR3.frz 2
                      have OS2 : Hid (IntsAt wr (some ⟨ob, 0, none⟩) (le + 1) d2 os) := by
                        obtain ⟨A9, c9, e9, h9⟩ := IntsAt.of_ownI HO.out
                        cases e9
                        exact h9
                      have RS3 := Lib.hid (RS2.out.but ST.out.but (by simpa using hg3Q))
                      have PS3 := Lib.hid (PS2.out.but ST.out.but (by simpa using hpQ))
                      have PF3 : Hid (∀ i, wr.frozen? ⟨pb, i, none⟩ = false) := fun i => by rw [ST.out.but.frozen (p := ⟨pb, i, none⟩) hpb2 (by simpa using hpQ)]; exact PF2.out i
                      have hpb3 : pb < wr.heap.size := Nat.lt_of_lt_of_le hpb2 ST.out.but.size
                      have hobp : ob ≠ pb := by omega
                      clear HO hob hR3
                      go_wp2_with fail
                      have s1 := heap_setCell_same wr R 0 _ _ (.slice (some ⟨g3, 0, none⟩) (le + 1) c3) hH3.out
                      have s2 := heap_setCell_same _ R 1 _ _ (.slice (some ⟨ob, 0, none⟩) (le + 1) d2) s1
                      have s3 := heap_setCell_same _ R 2 _ _ (.slice (some ⟨pb, 0, none⟩) (N + 1) d3) s2
                      have hBR : But [R] wr (((wr.setCell ⟨R, 0, none⟩ (.slice (some ⟨g3, 0, none⟩) (le + 1) c3)).setCell ⟨R, 1, none⟩ (.slice (some ⟨ob, 0, none⟩) (le + 1) d2)).setCell ⟨R, 2, none⟩ (.slice (some ⟨pb, 0, none⟩) (N + 1) d3)) := (((But.refl _ _).setCell (.inl (by simp)) _).setCell (.inl (by simp)) _).setCell (.inl (by simp)) _
                      (try simp only [Exit.inBlock, Exit.then])
                      refine bodyPost_ret (results_cell_row rfl _ _ R _ #[.slice (some ⟨g3, 0, none⟩) (le + 1) c3, .slice (some ⟨ob, 0, none⟩) (le + 1) d2, .slice (some ⟨pb, 0, none⟩) (N + 1) d3] (0, 0) _ rfl s3 Try.underlying28 rfl (by kernel_rfl)) rfl ?_
                      refine ⟨_, _, _, _, _, _, _, _, _, es, os, psOf zs N, rfl, ⟨by omega, by omega, by omega, hg3p, hobp, fun i => by rw [hBR.frozen (p := ⟨pb, i, none⟩) hpb3 (by simp; omega)]; exact PF3.out i⟩, ⟨RS3.out.but hBR (by simp; omega), OS2.out.but hBR (by simp; omega), PS3.out.but hBR (by simp; omega)⟩, ⟨⟨hup.out, by rw [hos.out.1, HLE.out], fun i hi => ?_, by omega, hN6⟩, psOf_tree zs hN5⟩, kr5.but hBR (by simp; omega)⟩
                      have hi2 : i < os.length := by rw [hos.out.1]; have := HLE.out; omega
                      rw [HA.out]
                      unfold oa
                      rw [List.getElem?_eq_getElem hi2]
                      exact hos.out.2 _ (List.getElem_mem hi2)
            · have e1 : decide ((i : Int) < m) = true := by simp; omega
              have e2 : decide ((i : Int) < 6) = false := by simp; omega
              go_wp2_with (at_builtin; refine wpList_append_own _ rfl _ _ 26 rfl W1.heap.size 52 j0 (.agg #[.string ⟨#[]⟩, .string ⟨#[]⟩]) 2 32 Try.underlying26 HJ.out hy0 hy1 hy2 rfl (by decide) _ le _ rfl (HO.out.alloc _) ⟨wr.heap.size, 0, none⟩ 1 1 [.string at_, .string ⟨#[]⟩] rfl rfl (cells_two _ _ _ _) (by simp [Value.oneCell']) (by unfold maxLen; omega) (by omega) (by simp; omega) ?_; intro v3 w3 hown3 hgrow3 _; rw [hsn.out] at hown3; obtain ⟨g3, c3, rfl, hg3, _⟩ := own_some hown3 (by omega); have HL3 := HO.out.lt; have S3 := (ST.out.keep ((Kept.refl wr).alloc _)).grown hQW hgrow3 (fun g hg => (HL3 g hg).1); have K3 : Kept w w3 := (kr.alloc _).grown hgrow3 (fun g hg => Nat.le_trans K1.size (HL3 g hg).1); have c03 := S3.c0; have f03 := S3.frz 0; have S4 := Lib.hid (S3.set0 (.slice (some ⟨g3, 0, none⟩) (le + 1) c3)); have K4 := K3.setCell (p := ⟨Q, 0, none⟩) hQw.out (.slice (some ⟨g3, 0, none⟩) (le + 1) c3); have HO4 := Lib.hid (ownsRow_setCell_below hown3 (a := ⟨Q, 0, none⟩) hQW (.slice (some ⟨g3, 0, none⟩) (le + 1) c3)); clear hown3 hgrow3 S3 K3)
              generalize w3.setCell ⟨Q, 0, none⟩ (.slice (some ⟨g3, 0, none⟩) (le + 1) c3) = W2 at *
              have RS2 : Hid (RowS W2 (some ⟨g3, 0, none⟩) (le + 1) c3 (rgs es)) := by
                obtain ⟨A9, c9, e9, h9⟩ := RowS.of_own HO4.out
                cases e9
                exact h9
              have PS2 := Lib.hid (HPS.out.but S4.out.but (by simpa using hpQ))
              have PF2 : Hid (∀ i, W2.frozen? ⟨pb, i, none⟩ = false) := fun i => by rw [S4.out.but.frozen (p := ⟨pb, i, none⟩) hpbl (by simpa using hpQ)]; exact PF1.out i
              have hpb2 : pb < W2.heap.size := Nat.lt_of_lt_of_le hpbl S4.out.but.size
              have hg3p : g3 ≠ pb := by omega
              have hg3Q : g3 ≠ Q := by omega
              have ST2 := Lib.hid S4.out.again
              have HB2 := Lib.hid (HB1.out.but S4.out.but hXQ.out)
              have hH2 := Lib.hid (S4.out.but.heap hH1.out (by simpa using hRQ.out))
              have hR2 := Lib.hid (hR1.out.move S4.out.but hRQ.out)
              have hRg : R < g3 := by have := hR1.out.under; omega
              have hQW2 := ST2.out.under
              have hN6 : N + 1 ≤ 6 := by omega
              clear c0 f0 c03 f03 HO4 S4 HO ST hg3 hz hQr hps2 hol hsn HPS
              go_loopw [8, 9] (fun av kv w9 => ∃ k : Nat, k ≤ N + 1 ∧ av = .int .i64 ((2 ^ k : Nat) : Int) ∧ kv = .int .i64 k ∧ Hid (w9 = W2)) (fun _ kv _ => N + 1 - (intOf kv).toNat)
              case atStart => exact ⟨0, by omega, rfl, rfl, rfl⟩
              case round =>
                obtain ⟨k, hk, rfl, rfl, hw9⟩ := hrel
                have q2c : wr.cell? ⟨Q, 2, none⟩ = some (.slice (some ⟨pb, 0, none⟩) (N + 1) d3) := by rw [hw9.out]; exact ST2.out.c2
                by_cases hkn : k < N + 1
                · have hp1 := two_le (n := k) (by omega)
                  have hp2 : Hid (2 ^ (k + 1) = 2 * 2 ^ k) := by unfold Hid; rw [Nat.pow_succ, Nat.mul_comm]
                  generalize 2 ^ k = t at *
                  go_wp2_with fail
                  go_roundw
                  case rel => first | exact ⟨k + 1, by omega, by rw [hp2.out]; go_num, by go_num, hw9⟩ | ((repeat apply Exists.intro); exact ⟨⟨k + 1, by omega, by rw [hp2.out]; go_num, by go_num, hw9⟩, rfl⟩)
                  case measure => simp [intOf]; omega
                · obtain rfl : k = N + 1 := by omega
                  have hw := hw9.out
                  clear hw9
                  subst hw
                  obtain ⟨W2, rfl⟩ : ∃ W2, W2 = wr := ⟨_, rfl⟩
                  have ha1 := two_le (n := N + 1) (by omega)
                  have ha2 : 2 ≤ 2 ^ (N + 1) := by
                    have : 0 < 2 ^ N := Nat.pow_pos (by omega)
                    rw [Nat.pow_succ]
                    omega
                  have hae : Hid (2 ^ (N + 1) = 2 ^ (N + 1)) := rfl
                  generalize ha : 2 ^ (N + 1) = a at *
                  have HA := Lib.hid ha
                  clear ha hae
                  go_wp2_with fail
                  go_loopw [10] (fun kv w9 => ∃ (j : Nat) (os : List Int) (v : Value), j ≤ le + 1 ∧ kv = .int .i64 j ∧ QSt W2 Q w9 (.slice (some ⟨g3, 0, none⟩) (le + 1) c3) v (.slice (some ⟨pb, 0, none⟩) (N + 1) d3) ∧ w9.ownsRow W2.heap.size 3 1 v j (intC os) ∧ Hid (os.length = j ∧ ∀ x ∈ os, 1 ≤ x ∧ x < (a : Int)) ∧ Kept w w9) (fun kv _ => le + 1 - (intOf kv).toNat)
                  case atStart => exact ⟨0, [], _, by omega, rfl, ST2.out, World.ownsRow_nil _ _ _ _, ⟨rfl, fun x hx => by cases hx⟩, K4⟩
                  case round =>
                    obtain ⟨j, os, v, hj, rfl, st, ho, hos, kr5⟩ := hrel
                    have ST := Lib.hid st
                    have HO := Lib.hid ho
                    have c0 := st.c0
                    have c1 := st.c1
                    have c2_ := st.c2
                    have f1 := st.frz 1
                    have hQr := st.under
                    have hz := st.but.size
                    have bx1 := (HB2.out.but st.but hXQ.out).c1
                    have hXw := World.block_lt_of_cell? wr _ bx1
                    clear st ho
                    by_cases hjl : j < le + 1
                    · have hol : Hid ((intC os).length = j * 1) := by unfold Hid; rw [intC_len, hos.out.1, Nat.mul_one]
                      by_cases hjm : j < m2
                      · obtain ⟨yb, yo, rfl, hyc⟩ := HY.out.2.2.2.2 (by omega)
                        have cy : wr.cell? ⟨yb, yo + j, none⟩ = some (.int .i64 (ys[j]?.getD (-2))) := kr5.at_ (hyc j hjm)
                        have e7 : decide ((j : Int) < m2) = true := by simp; omega
                        generalize ys[j]?.getD (-2) = y at *
                        have hb0 := tmod_bd y ((a : Int) - 1) (by omega)
                        obtain ⟨o, hro, hro2⟩ : ∃ r : Nat, (y.tmod ((a : Int) - 1) + a - 1).tmod ((a : Int) - 1) = r ∧ r + 1 < a := by
                          have h2 := Int.tmod_nonneg ((a : Int) - 1) (show 0 ≤ y.tmod ((a : Int) - 1) + a - 1 by omega)
                          have h3 := Int.tmod_lt_of_pos (y.tmod ((a : Int) - 1) + a - 1) (show 0 < (a : Int) - 1 by omega)
                          exact ⟨_, (Int.toNat_of_nonneg h2).symm, by omega⟩
                        have hos2 : Hid ((os ++ [1 + (o : Int)]).length = j + 1 ∧ ∀ x ∈ os ++ [1 + (o : Int)], 1 ≤ x ∧ x < (a : Int)) := by
                          refine ⟨by rw [List.length_append, hos.out.1]; rfl, fun x hx => ?_⟩
                          rcases List.mem_append.1 hx with hx | hx
                          · exact hos.out.2 x hx
                          · obtain rfl : x = 1 + (o : Int) := by simpa using hx
                            omega
                        clear hyc
                        go_wp2_with (at_builtin; refine wpList_append_own _ rfl _ _ 22 rfl W2.heap.size 3 i0 (.int .i64 0) 1 8 Try.underlying22 HI.out hz0 hz1 hz2 rfl (by decide) _ j _ rfl (HO.out.alloc _) ⟨wr.heap.size, 0, none⟩ 1 1 [.int .i64 (1 + (o : Int))] rfl rfl (cell_one_new _ _ _) (by simp [Value.oneCell']) (by unfold maxLen; omega) (by omega) (by simp; omega) ?_; intro v3 w3 hown3 hgrow3 _; rw [show intC os ++ [.int .i64 (1 + (o : Int))] = intC (os ++ [1 + (o : Int)]) from (by simp [intC])] at hown3; obtain ⟨A5, c5, rfl⟩ := own_slice hown3; have HL3 := HO.out.lt; have S3 := (ST.out.keep ((Kept.refl wr).alloc _)).grown hQW2 hgrow3 (fun g hg => (HL3 g hg).1); have K3 : Kept w w3 := (kr5.alloc _).grown hgrow3 (fun g hg => Nat.le_trans K4.size (HL3 g hg).1); have c13 := S3.c1; have f13 := S3.frz 1; have S4 := Lib.hid (S3.set1 (.slice A5 (j + 1) c5)); have K5 := K3.setCell (p := ⟨Q, 1, none⟩) hQw.out (.slice A5 (j + 1) c5); have HO4 := Lib.hid (ownsRow_setCell_below hown3 (a := ⟨Q, 1, none⟩) hQW2 (.slice A5 (j + 1) c5)); clear hown3 hgrow3 S3 K3)
                        go_roundw
                        case rel => first | exact ⟨j + 1, by omega, by go_num, os ++ [1 + (o : Int)], _, S4.out, HO4.out, hos2⟩ | exact ⟨j + 1, by omega, by go_num, os ++ [1 + (o : Int)], _, S4.out, HO4.out, hos2, K5⟩ | exact ⟨j + 1, os ++ [1 + (o : Int)], _, by omega, by go_num, S4.out, HO4.out, hos2, K5⟩ | ((repeat apply Exists.intro); exact ⟨⟨j + 1, os ++ [1 + (o : Int)], _, by omega, by go_num, S4.out, HO4.out, hos2, K5⟩, rfl⟩)
                        case measure => simp [intOf]; omega
                      · have e7 : decide ((j : Int) < m2) = false := by simp; omega
                        have hos2 : Hid ((os ++ [1]).length = j + 1 ∧ ∀ x ∈ os ++ [1], 1 ≤ x ∧ x < (a : Int)) := by
                          refine ⟨by rw [List.length_append, hos.out.1]; rfl, fun x hx => ?_⟩
                          rcases List.mem_append.1 hx with hx | hx
                          · exact hos.out.2 x hx
                          · obtain rfl : x = 1 := by simpa using hx
                            omega
                        go_wp2_with (at_builtin; refine wpList_append_own _ rfl _ _ 22 rfl W2.heap.size 3 i0 (.int .i64 0) 1 8 Try.underlying22 HI.out hz0 hz1 hz2 rfl (by decide) _ j _ rfl (HO.out.alloc _) ⟨wr.heap.size, 0, none⟩ 1 1 [.int .i64 (1)] rfl rfl (cell_one_new _ _ _) (by simp [Value.oneCell']) (by unfold maxLen; omega) (by omega) (by simp; omega) ?_; intro v3 w3 hown3 hgrow3 _; rw [show intC os ++ [.int .i64 (1)] = intC (os ++ [1]) from (by simp [intC])] at hown3; obtain ⟨A5, c5, rfl⟩ := own_slice hown3; have HL3 := HO.out.lt; have S3 := (ST.out.keep ((Kept.refl wr).alloc _)).grown hQW2 hgrow3 (fun g hg => (HL3 g hg).1); have K3 : Kept w w3 := (kr5.alloc _).grown hgrow3 (fun g hg => Nat.le_trans K4.size (HL3 g hg).1); have c13 := S3.c1; have f13 := S3.frz 1; have S4 := Lib.hid (S3.set1 (.slice A5 (j + 1) c5)); have K5 := K3.setCell (p := ⟨Q, 1, none⟩) hQw.out (.slice A5 (j + 1) c5); have HO4 := Lib.hid (ownsRow_setCell_below hown3 (a := ⟨Q, 1, none⟩) hQW2 (.slice A5 (j + 1) c5)); clear hown3 hgrow3 S3 K3)
                        go_roundw
                        case rel => first | exact ⟨j + 1, by omega, by go_num, os ++ [1], _, S4.out, HO4.out, hos2⟩ | exact ⟨j + 1, by omega, by go_num, os ++ [1], _, S4.out, HO4.out, hos2, K5⟩ | exact ⟨j + 1, os ++ [1], _, by omega, by go_num, S4.out, HO4.out, hos2, K5⟩ | ((repeat apply Exists.intro); exact ⟨⟨j + 1, os ++ [1], _, by omega, by go_num, S4.out, HO4.out, hos2, K5⟩, rfl⟩)
                        case measure => simp [intOf]; omega
                    · obtain rfl : j = le + 1 := by omega
                      obtain ⟨ob, d2, rfl, hob, _⟩ := own_some HO.out (by omega)
                      have hH3 := Lib.hid (ST.out.but.heap hH2.out (by simpa using hRQ.out))
                      have hR3 := hR2.out.move ST.out.but hRQ.out
                      have hRo : R < ob := by have := hR2.out.under; omega
                      have r0 := hR3.c0
                      have r1 := hR3.c1
                      have r2 := hR3.c2
                      have q0 := hR3.frz 0
                      have q1 := hR3.frz 1
                      have q2 := hR3.frz 2
                      have OS2 : Hid (IntsAt wr (some ⟨ob, 0, none⟩) (le + 1) d2 os) := by
                        obtain ⟨A9, c9, e9, h9⟩ := IntsAt.of_ownI HO.out
                        cases e9
                        exact h9
                      have RS3 := Lib.hid (RS2.out.but ST.out.but (by simpa using hg3Q))
                      have PS3 := Lib.hid (PS2.out.but ST.out.but (by simpa using hpQ))
                      have PF3 : Hid (∀ i, wr.frozen? ⟨pb, i, none⟩ = false) := fun i => by rw [ST.out.but.frozen (p := ⟨pb, i, none⟩) hpb2 (by simpa using hpQ)]; exact PF2.out i
                      have hpb3 : pb < wr.heap.size := Nat.lt_of_lt_of_le hpb2 ST.out.but.size
                      have hobp : ob ≠ pb := by omega
                      clear HO hob hR3
                      go_wp2_with fail
                      have s1 := heap_setCell_same wr R 0 _ _ (.slice (some ⟨g3, 0, none⟩) (le + 1) c3) hH3.out
                      have s2 := heap_setCell_same _ R 1 _ _ (.slice (some ⟨ob, 0, none⟩) (le + 1) d2) s1
                      have s3 := heap_setCell_same _ R 2 _ _ (.slice (some ⟨pb, 0, none⟩) (N + 1) d3) s2
                      have hBR : But [R] wr (((wr.setCell ⟨R, 0, none⟩ (.slice (some ⟨g3, 0, none⟩) (le + 1) c3)).setCell ⟨R, 1, none⟩ (.slice (some ⟨ob, 0, none⟩) (le + 1) d2)).setCell ⟨R, 2, none⟩ (.slice (some ⟨pb, 0, none⟩) (N + 1) d3)) := (((But.refl _ _).setCell (.inl (by simp)) _).setCell (.inl (by simp)) _).setCell (.inl (by simp)) _
                      (try simp only [Exit.inBlock, Exit.then])
                      refine bodyPost_ret (results_cell_row rfl _ _ R _ #[.slice (some ⟨g3, 0, none⟩) (le + 1) c3, .slice (some ⟨ob, 0, none⟩) (le + 1) d2, .slice (some ⟨pb, 0, none⟩) (N + 1) d3] (0, 0) _ rfl s3 Try.underlying28 rfl (by kernel_rfl)) rfl ?_
                      refine ⟨_, _, _, _, _, _, _, _, _, es, os, psOf zs N, rfl, ⟨by omega, by omega, by omega, hg3p, hobp, fun i => by rw [hBR.frozen (p := ⟨pb, i, none⟩) hpb3 (by simp; omega)]; exact PF3.out i⟩, ⟨RS3.out.but hBR (by simp; omega), OS2.out.but hBR (by simp; omega), PS3.out.but hBR (by simp; omega)⟩, ⟨⟨hup.out, by rw [hos.out.1, HLE.out], fun i hi => ?_, by omega, hN6⟩, psOf_tree zs hN5⟩, kr5.but hBR (by simp; omega)⟩
                      have hi2 : i < os.length := by rw [hos.out.1]; have := HLE.out; omega
                      rw [HA.out]
                      unfold oa
                      rw [List.getElem?_eq_getElem hi2]
                      exact hos.out.2 _ (List.getElem_mem hi2)
end Go.Proofs.Ytjmfdacokdffiaa
