/- The document's Ways, at rows that fit over a tree. -/
import Derived.Test.YtjmfdacokdffiaaRouR
set_option linter.unusedSimpArgs false
set_option linter.unusedVariables false
namespace Go.Proofs.Ytjmfdacokdffiaa
open Go.RowKit

/-- Three rows of their own, in blocks that are not the same, nor Z. -/
structure O3 (w wr : World) (Bs Z : Nat) (e1 k1 l1 : Nat) (v1 : Value) (x1 : List Value) (e2 k2 l2 : Nat) (v2 : Value) (x2 : List Value) (e3 k3 l3 : Nat) (v3 : Value) (x3 : List Value) : Prop where
  o1 : wr.ownsRow Bs e1 k1 v1 l1 x1
  o2 : wr.ownsRow Bs e2 k2 v2 l2 x2
  o3 : wr.ownsRow Bs e3 k3 v3 l3 x3
  n12 : ∀ g, v1.ownBlock = some g → v2.ownBlock ≠ some g
  n23 : ∀ g, v2.ownBlock = some g → v3.ownBlock ≠ some g
  n31 : ∀ g, v3.ownBlock = some g → v1.ownBlock ≠ some g
  z1 : v1.ownBlock ≠ some Z
  z2 : v2.ownBlock ≠ some Z
  z3 : v3.ownBlock ≠ some Z
  zl : Z < wr.heap.size
  kept : Kept w wr
section
variable {w wr : World} {Bs Z e1 k1 l1 : Nat} {v1 : Value} {x1 : List Value} {e2 k2 l2 : Nat} {v2 : Value} {x2 : List Value} {e3 k3 l3 : Nat} {v3 : Value} {x3 : List Value}
theorem O3.rot (h : O3 w wr Bs Z e1 k1 l1 v1 x1 e2 k2 l2 v2 x2 e3 k3 l3 v3 x3) : O3 w wr Bs Z e2 k2 l2 v2 x2 e3 k3 l3 v3 x3 e1 k1 l1 v1 x1 :=
  ⟨h.o2, h.o3, h.o1, h.n23, h.n31, h.n12, h.z2, h.z3, h.z1, h.zl, h.kept⟩
theorem O3.keep {w2 : World} (h : O3 w wr Bs Z e1 k1 l1 v1 x1 e2 k2 l2 v2 x2 e3 k3 l3 v3 x3) (hk : Kept wr w2) : O3 w w2 Bs Z e1 k1 l1 v1 x1 e2 k2 l2 v2 x2 e3 k3 l3 v3 x3 :=
  ⟨Kept.own h.o1 hk, Kept.own h.o2 hk, Kept.own h.o3 hk, h.n12, h.n23, h.n31, h.z1, h.z2, h.z3, by have := hk.size; have := h.zl; omega, h.kept.call hk⟩
theorem O3.at_ (h : O3 w wr Bs Z e1 k1 l1 v1 x1 e2 k2 l2 v2 x2 e3 k3 l3 v3 x3) {Y : Nat} {w2 : World} (hk : Kept wr w2) (hY : wr.heap.size ≤ Y) (hY2 : Y < w2.heap.size) : O3 w w2 Bs Y e1 k1 l1 v1 x1 e2 k2 l2 v2 x2 e3 k3 l3 v3 x3 :=
  ⟨Kept.own h.o1 hk, Kept.own h.o2 hk, Kept.own h.o3 hk, h.n12, h.n23, h.n31, fun e => by have := (h.o1.lt _ e).2; omega, fun e => by have := (h.o2.lt _ e).2; omega, fun e => by have := (h.o3.lt _ e).2; omega, hY2, h.kept.call hk⟩
theorem O3.low {Y : Nat} (h : O3 w wr Bs Z e1 k1 l1 v1 x1 e2 k2 l2 v2 x2 e3 k3 l3 v3 x3) (hY : Y < Bs) (hY2 : Y < wr.heap.size) : O3 w wr Bs Y e1 k1 l1 v1 x1 e2 k2 l2 v2 x2 e3 k3 l3 v3 x3 :=
  ⟨h.o1, h.o2, h.o3, h.n12, h.n23, h.n31, fun e => by have := (h.o1.lt _ e).1; omega, fun e => by have := (h.o2.lt _ e).1; omega, fun e => by have := (h.o3.lt _ e).1; omega, hY2, h.kept⟩
theorem none_or {v u : Value} (h : ∀ g, v.ownBlock = some g → u.ownBlock ≠ some g) : u.ownBlock = none ∨ u.ownBlock ≠ v.ownBlock := by
  cases e : v.ownBlock with
  | none => exact (Option.eq_none_or_eq_some u.ownBlock).imp id fun ⟨g, hg⟩ => by rw [hg]; simp
  | some g => exact .inr (h g e)
theorem O3.grow {w3 : World} {v' : Value} {l' : Nat} {x' : List Value} (h : O3 w wr Bs Z e1 k1 l1 v1 x1 e2 k2 l2 v2 x2 e3 k3 l3 v3 x3) (hB : w.heap.size ≤ Bs) (ho : w3.ownsRow Bs e1 k1 v' l' x') (hg : wr.grownBy w3 v1.ownBlock) (hb : v'.ownBlock = v1.ownBlock ∨ v'.ownBlock = some wr.heap.size) :
    O3 w w3 Bs Z e1 k1 l' v' x' e2 k2 l2 v2 x2 e3 k3 l3 v3 x3 := by
  have m2 := none_or h.n12
  have m3 := none_or (v := v1) (u := v3) fun g e e2 => h.n31 g e2 e
  refine ⟨ho, h.o2.kept hg m2, h.o3.kept hg m3, fun g e e2 => ?_, h.n23, fun g e e2 => ?_, fun e => ?_, h.z2, h.z3, by have := hg.size; have := h.zl; omega, h.kept.grown hg (fun g e => Nat.le_trans hB (h.o1.lt g e).1)⟩
  · rcases hb with hb | hb
    · exact h.n12 g (hb ▸ e) e2
    · have := (h.o2.lt g e2).2
      rw [hb] at e; injection e with e; omega
  · rcases hb with hb | hb
    · exact h.n31 g e (hb ▸ e2)
    · have := (h.o3.lt g e).2
      rw [hb] at e2; injection e2 with e2; omega
  · rcases hb with hb | hb
    · exact h.z1 (hb ▸ e)
    · have := h.zl
      rw [hb] at e; injection e with e; omega
theorem O3.cells {w3 w0 : World} (h : O3 w wr Bs Z e1 k1 l1 v1 x1 e2 k2 l2 v2 x2 e3 k3 l3 v3 x3) (hg : wr.grownBy w3 v1.ownBlock) (hc : Cells Z w0 wr) : Cells Z w0 w3 := fun t u hu => hg.cell (hc t u hu) (fun e => h.z1 e.symm)
end
/-- The open list in three rows. -/
abbrev Op3 (w wr : World) (Bs Z : Nat) (d : Nat) (v1 v2 v3 : Value) (P : List Pr) : Prop :=
  O3 w wr Bs Z 34 2 d v1 (prC P.tail) 3 1 (d + 1) v2 (intC (P.map Prod.snd)) 3 1 (d + 1) v3 (intC (P.map Prod.fst))
theorem tail_snoc {P : List Pr} {y : Pr} (h : P ≠ []) : (P ++ [y]).tail = P.tail ++ [y] := by
  cases P with
  | nil => exact absurd rfl h
  | cons x t => rfl
theorem new_cell2 {w0 wd : World} {x y : Value} {t : TypeId} (h : Kept (w0.alloc (.cells #[x, y] t)) wd) : ∀ (j : Nat) (u : Value), [x, y][j]? = some u → wd.cell? ((⟨w0.heap.size, 0, none⟩ : Addr).add j) = some u :=
  fun j u hu => h.at_ (cells_two _ _ _ _ j u hu)
theorem own_at {w : World} {Bs n : Nat} {v : Value} {l : List Int} (h : w.ownsRow Bs 3 1 v n (intC l)) {i : Nat} {x : Int} (hx : l[i]? = some x) : ∃ g c, v = .slice (some ⟨g, 0, none⟩) n c ∧ w.cell? ⟨g, i, none⟩ = some (.int .i64 x) := by
  have hl := h.1
  rw [intC_len] at hl
  have hi := (List.getElem?_eq_some_iff.1 hx).1
  obtain ⟨g, c, rfl, _⟩ := own_some h (by omega)
  refine ⟨g, c, rfl, ?_⟩
  rw [h.cellAt i (by omega)]
  simp [intC, hx]
set_option maxRecDepth 20000 in
set_option maxHeartbeats 8000000 in
theorem r9ways_any (A B C : Option Addr) (n1 c1 n2 c2 n3 c3 : Nat) (es : List Nat) (os ps : List Int) (f : Int) (k : ByteArray) (w : World) (hr : RowW w A n1 c1 B n2 c2 C n3 c3 (rgs es) os ps) (hf : FitT es os ps n3) (hs : Small (nxt ps n3 (oa os (findI es (hv k)))) f) :
    Calls Try.prog 27 #[.agg #[.slice A n1 c1, .slice B n2 c2, .slice C n3 c3], .int .i64 f, .string k] w fun e w' => ∃ D c n, e = .returned (.slice D n c) ∧ PrsAt w' D n c (allQ (nxt ps n3 (oa os (findI es (hv k)))) f).tail ∧ Kept w w' ∧ ∀ b off, D = some ⟨b, off, none⟩ → w.heap.size ≤ b := by
  obtain ⟨i0, hi, hz0, hz1, hz2⟩ := info_parts infoPr
  obtain ⟨j0, hj, hy0, hy1, hy2⟩ := info_parts infoInt
  have HI := Lib.hid hi
  have HJ := Lib.hid hj
  have HR := Lib.hid hr
  have HF := Lib.hid hf
  have HN := fun c a w2 hk => r9next_any A B C n1 c1 n2 c2 n3 c3 es os ps a c k w2 (HR.out.keep hk) HF.out
  have HNN : Hid (∀ (c a : Int) (w2 : World), Kept w w2 → Calls Try.prog 21 #[.agg #[.slice A n1 c1, .slice B n2 c2, .slice C n3 c3], .int .i64 a, .int .i64 c, .string k] w2 (RowNew (nxt ps n3 (oa os (findI es (hv k))) c a) w2)) := HN
  generalize nxt ps n3 (oa os (findI es (hv k))) = N at *
  have HS := Lib.hid hs
  clear hr hf hi hj HN hs HR HF
  go_enter Try.func27, Try.ntmps27
  go_wp2_with fail
  have K0 : Kept w (w.alloc (.cells #[.slice A n1 c1, .slice B n2 c2, .slice C n3 c3] 28)) := by repeat (first | exact Kept.refl _ | assumption | (refine Kept.alloc ?_ _) | (refine Kept.setCell ?_ (by first | omega | (simp; omega) | simp) _) | refine Kept.drew ?_ | refine Kept.drewN ?_ _ | (apply Kept.call; rotate_left; assumption))
  have x0 : (w.alloc (.cells #[.slice A n1 c1, .slice B n2 c2, .slice C n3 c3] 28)).cell? ⟨w.heap.size, 0, none⟩ = some (.slice A n1 c1) := by go_simp
  have x1 : (w.alloc (.cells #[.slice A n1 c1, .slice B n2 c2, .slice C n3 c3] 28)).cell? ⟨w.heap.size, 1, none⟩ = some (.slice B n2 c2) := by go_simp
  have x2 : (w.alloc (.cells #[.slice A n1 c1, .slice B n2 c2, .slice C n3 c3] 28)).cell? ⟨w.heap.size, 2, none⟩ = some (.slice C n3 c3) := by go_simp
  have hsz : (w.alloc (.cells #[.slice A n1 c1, .slice B n2 c2, .slice C n3 c3] 28)).heap.size = w.heap.size + 1 := by simp
  have ST0 : Hid (Op3 (w.alloc (.cells #[.slice A n1 c1, .slice B n2 c2, .slice C n3 c3] 28)) (((w.alloc (.cells #[.slice A n1 c1, .slice B n2 c2, .slice C n3 c3] 28)).alloc (.cells #[.int .i64 f] 3)).alloc (.cells #[.int .i64 (-1)] 3)) (w.alloc (.cells #[.slice A n1 c1, .slice B n2 c2, .slice C n3 c3] 28)).heap.size w.heap.size 0 (.slice none 0 0) (.slice (some ⟨w.heap.size + 1, 0, none⟩) 1 1) (.slice (some ⟨w.heap.size + 1 + 1, 0, none⟩) 1 1) (qs N f 0)) := by
    have h2 := own_new (w.alloc (.cells #[.slice A n1 c1, .slice B n2 c2, .slice C n3 c3] 28)) 3 [.int .i64 f] 1 1 rfl (by unfold maxLen; omega)
    have h3 := own_new ((w.alloc (.cells #[.slice A n1 c1, .slice B n2 c2, .slice C n3 c3] 28)).alloc (.cells #[.int .i64 f] 3)) 3 [.int .i64 (-1)] 1 1 rfl (by unfold maxLen; omega)
    simp only [World.size_alloc] at h2 h3
    refine ⟨World.ownsRow_nil _ _ _ _, ?_, ?_, (fun g e => by cases e), (fun g e e2 => by injection e with e; injection e2 with e2; have e3 : w.heap.size + 1 = g := e; have e4 : w.heap.size + 1 + 1 = g := e2; omega), (fun g e e2 => by cases e2), (fun e => by cases e), (fun e => by injection e with e; have e3 : w.heap.size + 1 = w.heap.size := e; omega), (fun e => by injection e with e; have e3 : w.heap.size + 1 + 1 = w.heap.size := e; omega), by simp only [World.size_alloc]; omega, by repeat (first | exact Kept.refl _ | assumption | (refine Kept.alloc ?_ _) | (refine Kept.setCell ?_ (by first | omega | (simp; omega) | simp) _) | refine Kept.drew ?_ | refine Kept.drewN ?_ _ | (apply Kept.call; rotate_left; assumption))⟩
    · rw [hsz]; exact h2.alloc _
    · rw [hsz]
      exact ⟨h3.1, h3.2.imp id fun ⟨g, cap, cur, e1, e2, r⟩ => ⟨g, cap, cur, e1, by omega, r⟩⟩
  generalize ((w.alloc (.cells #[.slice A n1 c1, .slice B n2 c2, .slice C n3 c3] 28)).alloc (.cells #[.int .i64 f] 3)).alloc (.cells #[.int .i64 (-1)] 3) = WW at *
  generalize (w.alloc (.cells #[.slice A n1 c1, .slice B n2 c2, .slice C n3 c3] 28)) = W0 at *
  have hlE : w.heap.size < W0.heap.size := by omega
  have K0H := Lib.hid K0
  go_loopw [7, 8, 9, 10] (fun ov av cv iv wr => ∃ (i d : Nat) (v1 v2 v3 : Value), ov = v1 ∧ av = v2 ∧ cv = v3 ∧ iv = .int .i64 i ∧ i ≤ d + 1 ∧ d + 1 ≤ 7 ∧ Hid ((qs N f i).length = d + 1) ∧ Hid (Op3 W0 wr W0.heap.size w.heap.size d v1 v2 v3 (qs N f i))) (fun _ _ _ iv _ => 8 - (intOf iv).toNat)
  case atStart => exact ⟨0, 0, _, _, _, rfl, rfl, rfl, rfl, by omega, by omega, rfl, ST0⟩
  case round =>
    obtain ⟨i, d, v1, v2, v3, rfl, rfl, rfl, rfl, hi, hd7, hql, st⟩ := hrel
    have ST := st
    have y0 := st.out.kept.at_ x0
    have y1 := st.out.kept.at_ x1
    have y2 := st.out.kept.at_ x2
    obtain ⟨A2, b2, rfl⟩ := own_slice st.out.o2
    by_cases hlt : i < d + 1
    · obtain ⟨⟨c, a⟩, hca⟩ : ∃ x, (qs N f i)[i]? = some x := ⟨_, List.getElem?_eq_getElem (by rw [hql.out]; exact hlt)⟩
      have HCA := Lib.hid hca
      obtain ⟨ga, ca, ea, qa⟩ := own_at st.out.o2 (i := i) (x := a) (by rw [List.getElem?_map, hca]; rfl)
      cases ea
      obtain ⟨gc, cc, rfl, qc⟩ := own_at st.out.o3 (i := i) (x := c) (by rw [List.getElem?_map, hca]; rfl)
      have KW : Kept w wr := K0.call st.out.kept
      have HKW := Lib.hid KW
      have dlt : decide ((i : Int) < (d : Int) + 1) = true := by simp; omega
      clear hca
      go_wp2_with fail
      refine wp_region_text keepsOne (fun wB => Kept wr wB ∧ wB.cell? ⟨w.heap.size, 0, none⟩ = some (.slice A n1 c1) ∧ wB.cell? ⟨w.heap.size, 1, none⟩ = some (.slice B n2 c2) ∧ wB.cell? ⟨w.heap.size, 2, none⟩ = some (.slice C n3 c3) ∧ wB.cell? ⟨ga, i, none⟩ = some (.int .i64 a) ∧ wB.cell? ⟨gc, i, none⟩ = some (.int .i64 c)) ?_ (by kernel_rfl) (by kernel_rfl) _ (by (try simp only [List.append_eq, List.cons_append, List.nil_append, List.toList_toArray]); exact rfl) ?_
      · exact ⟨by repeat (first | exact Kept.refl _ | assumption | (refine Kept.alloc ?_ _) | (refine Kept.setCell ?_ (by first | omega | (simp; omega) | simp) _) | refine Kept.drew ?_ | refine Kept.drewN ?_ _ | (apply Kept.call; rotate_left; assumption)), by first | assumption | go_simp, by first | assumption | go_simp, by first | assumption | go_simp, by first | assumption | go_simp, by first | assumption | go_simp⟩
      rintro wB ⟨hkB, sB1, sB2, sB3, sB4, sB5⟩
      repeat (first | (apply DW.det; (focus (intro wd hI; have td1 := hI.at_ sB1; have td2 := hI.at_ sB2; have td3 := hI.at_ sB3; have td4 := hI.at_ sB4; have td5 := hI.at_ sB5; skip; go_wp2_with (go_at_call 21; refine (HNN.out c a _ (HKW.out.call (hkB.call hI))).mono ?_; rintro e w6 ⟨A6, c6, rfl, hia6, hfr6, hb6⟩; have HIA6 := Lib.hid hia6; have HFR6 : Hid (∀ b off, A6 = some ⟨b, off, none⟩ → wr.heap.size ≤ b) := (fun b off e => Nat.le_trans (hkB.call hI).size (hfr6 b off e)); clear hia6 hfr6); refine StepPost.mk _ rfl ⟨rfl, ?_⟩; repeat (first | exact Kept.refl _ | assumption | (refine Kept.alloc ?_ _) | (refine Kept.setCell ?_ (by first | omega | (simp; omega) | simp) _) | refine Kept.drew ?_ | refine Kept.drewN ?_ _ | (apply Kept.call; rotate_left; assumption)))); simp only [Act.put, List.setIfInBounds_toArray, List.set_cons_succ, List.set_cons_zero]) | (refine DW.loud (by kernel_rfl) ?_; intro wd hI; have td1 := hI.at_ sB1; have td2 := hI.at_ sB2; have td3 := hI.at_ sB3; have td4 := hI.at_ sB4; have td5 := hI.at_ sB5; skip; go_wp2_with (go_at_call 21; refine (HNN.out c a _ (HKW.out.call (hkB.call hI))).mono ?_; rintro e w6 ⟨A6, c6, rfl, hia6, hfr6, hb6⟩; have HIA6 := Lib.hid hia6; have HFR6 : Hid (∀ b off, A6 = some ⟨b, off, none⟩ → wr.heap.size ≤ b) := (fun b off e => Nat.le_trans (hkB.call hI).size (hfr6 b off e)); clear hia6 hfr6); refine StepPost.loud _ rfl (by repeat (first | exact Kept.refl _ | assumption | (refine Kept.alloc ?_ _) | (refine Kept.setCell ?_ (by first | omega | (simp; omega) | simp) _) | refine Kept.drew ?_ | refine Kept.drewN ?_ _ | (apply Kept.call; rotate_left; assumption))) (fun hkL => ?_); have hkL := hI.call hkL; have hkB := hkB.call hkL; have sB1 := hkL.at_ sB1; have sB2 := hkL.at_ sB2; have sB3 := hkL.at_ sB3; have sB4 := hkL.at_ sB4; have sB5 := hkL.at_ sB5; simp only [Act.put, List.setIfInBounds_toArray, List.set_cons_succ, List.set_cons_zero]))
      refine DW.nil ?_
      intro wd hI
      have hkd := hkB.call hI
      have td1 := hI.at_ sB1; have td2 := hI.at_ sB2; have td3 := hI.at_ sB3; have td4 := hI.at_ sB4; have td5 := hI.at_ sB5
      have HIA := Lib.hid (HIA6.out.keep hI)
      clear HIA6 sB1 sB2 sB3 sB4 sB5 td1 td2 td3 td4 td5 y0 y1 y2 qa qc
      have HSQ := Lib.hid (qs_step HCA.out)
      generalize N c a = L at *
      obtain ⟨m, hm⟩ : ∃ m, L.length = m := ⟨_, rfl⟩
      have HM := Lib.hid hm
      rw [hm] at HIA ⊢
      have hmc : m ≤ c6 ∧ c6 ≤ 9223372036854775807 := by have h1 := HIA.out.2.1; have h2 := HIA.out.2.2.1; unfold maxLen at h2; omega
      have hm7 : d + 1 + m ≤ 7 := by
        have := HS.out (i + 1)
        rw [HSQ.out, List.length_append, List.length_map, hql.out, HM.out] at this
        exact this
      obtain ⟨wz, hwz⟩ : ∃ wz, wz = wd := ⟨_, rfl⟩
      subst hwz
      obtain ⟨Z, off, hZ, hZc⟩ : ∃ Z off, Op3 W0 wz W0.heap.size Z d u7 (.slice (some ⟨ga, 0, none⟩) (d + 1) b2) (.slice (some ⟨gc, 0, none⟩) (d + 1) cc) (qs N f i) ∧ (0 < m → A6 = some ⟨Z, off, none⟩ ∧ ∀ j x : Nat, L[j]? = some x → wz.cell? ⟨Z, off + j, none⟩ = some (.int .i64 (x : Nat))) := by
        rcases Nat.eq_zero_or_pos m with h0 | h0
        · exact ⟨w.heap.size, 0, st.out.keep hkd, fun h => by omega⟩
        · obtain ⟨b, off, e, hcc⟩ := HIA.out.2.2.2.2 h0
          have hb := HFR6.out b off e
          refine ⟨b, off, st.out.at_ hkd hb (World.block_lt_of_cell? wz _ (hcc 0 h0)), fun _ => ⟨e, fun j x hx => ?_⟩⟩
          rw [hcc j (by rw [← HM.out]; exact (List.getElem?_eq_some_iff.1 hx).1), ints_get hx]
      have HZC := Lib.hid hZc
      have HZ := Lib.hid hZ
      have hZZ : Hid (Cells Z wz wz) := fun t u h => h
      clear hm hZc hZ st ST HFR6 HIA KW dlt
      go_wp2_with fail
      go_loopw [7, 8, 9, 12] (fun ov av cv jv w9 => ∃ (j d1 : Nat) (v1 v2 v3 : Value), ov = v1 ∧ av = v2 ∧ cv = v3 ∧ jv = .int .i64 j ∧ j ≤ m ∧ d1 = d + j ∧ Hid (Op3 W0 w9 W0.heap.size Z d1 v1 v2 v3 (qs N f i ++ kids a L j)) ∧ Hid (Cells Z wz w9)) (fun _ _ _ jv _ => m - (intOf jv).toNat)
      case atStart => exact ⟨0, d, _, _, _, rfl, rfl, rfl, rfl, by omega, by omega, Lib.hid (by simpa [kids] using HZ.out), hZZ⟩
      case round =>
        obtain ⟨j, d1, v1, v2, v3, rfl, rfl, rfl, rfl, hjm, hd1, st, hz⟩ := hrel
        have HD1 := Lib.hid hd1
        by_cases hjl : j < m
        · obtain ⟨x, hx⟩ : ∃ x, L[j]? = some x := ⟨_, List.getElem?_eq_getElem (by rw [HM.out]; exact hjl)⟩
          obtain ⟨rfl, hzc⟩ := HZC.out (by omega)
          have cx : wr.cell? ⟨Z, off + j, none⟩ = some (.int .i64 (x : Nat)) := hz.out _ _ (hzc j x hx)
          have hkd2 := Lib.hid (kids_snoc (a := a) hx)
          have hPne : Hid (qs N f i ++ kids a L j ≠ []) := by
            obtain ⟨t, ht⟩ := qs_pos N f i
            unfold Hid
            rw [ht]
            simp
          have hP2 : Hid (qs N f i ++ kids a L (j + 1) = (qs N f i ++ kids a L j) ++ [(a, (x : Int))]) := by unfold Hid; rw [hkd2.out, List.append_assoc]
          have hPi : Hid ((qs N f i ++ kids a L j)[i]? = some (c, a)) := by unfold Hid; rw [List.getElem?_append_left (by rw [hql.out]; exact hlt)]; exact HCA.out
          generalize qs N f i ++ kids a L j = P at *
          generalize hP' : qs N f i ++ kids a L (j + 1) = P' at *
          have HP' := Lib.hid hP'
          clear hP'
          obtain ⟨g2, c2', e2, ca⟩ := own_at st.out.o2 (i := i) (x := a) (by rw [List.getElem?_map, hPi.out]; rfl)
          subst e2
          have hdd : d1 + 1 ≤ 7 := by omega
          have hd1i : i < d1 + 1 := by omega
          have hol1 : Hid ((prC P.tail).length = d1 * 2) := st.out.o1.1
          have hol2 : Hid ((intC (P.map Prod.snd)).length = (d1 + 1) * 1) := st.out.o2.1
          have hol3 : Hid ((intC (P.map Prod.fst)).length = (d1 + 1) * 1) := st.out.o3.1
          have hW0 : W0.heap.size ≤ wr.heap.size := st.out.kept.size
          have hc2' : d1 + 1 ≤ c2' := by
            obtain ⟨A9, c8, e8, h8⟩ := IntsAt.of_ownI st.out.o2
            cases e8
            exact h8.2.1
          have h2s : Hid (intC (P.map Prod.snd) ++ [.int .i64 (x : Nat)] = intC (P'.map Prod.snd)) := by unfold Hid; rw [hP2.out]; simp [intC]
          have h3s : Hid (intC (P.map Prod.fst) ++ [.int .i64 a] = intC (P'.map Prod.fst)) := by unfold Hid; rw [hP2.out]; simp [intC]
          have h1s : Hid (prC P.tail ++ [.int .i64 a, .int .i64 (x : Nat)] = prC P'.tail) := by unfold Hid; rw [hP2.out, tail_snoc hPne.out]; exact prC_snoc _ (a, (x : Int))
          have hPi2 : Hid ((P'.map Prod.snd)[i]? = some a) := by
            have hl := (List.getElem?_eq_some_iff.1 hPi.out).1
            unfold Hid
            rw [hP2.out, List.getElem?_map, List.getElem?_append_left hl, hPi.out]; rfl
          clear hx hzc hd1 hkd2 hPne hP2 hPi
          go_wp2_with fail
          refine wp_region_text keepsOne (fun wB => Kept wr wB ∧ wB.cell? ⟨g2, i, none⟩ = some (.int .i64 a) ∧ wB.cell? ⟨Z, off + j, none⟩ = some (.int .i64 (x : Nat))) ?_ (by kernel_rfl) (by kernel_rfl) _ (by (try simp only [List.append_eq, List.cons_append, List.nil_append, List.toList_toArray]); exact rfl) ?_
          · exact ⟨by repeat (first | exact Kept.refl _ | assumption | (refine Kept.alloc ?_ _) | (refine Kept.setCell ?_ (by first | omega | (simp; omega) | simp) _) | refine Kept.drew ?_ | refine Kept.drewN ?_ _ | (apply Kept.call; rotate_left; assumption)), by first | assumption | go_simp, by first | assumption | go_simp⟩
          rintro wB ⟨hkB, sB1, sB2⟩
          iterate 11 (first | (apply DW.det; (focus (intro wd hI; have td1 := hI.at_ sB1; have td2 := hI.at_ sB2; skip; go_wp2_with (fail); refine StepPost.mk _ rfl ⟨rfl, ?_⟩; repeat (first | exact Kept.refl _ | assumption | (refine Kept.alloc ?_ _) | (refine Kept.setCell ?_ (by first | omega | (simp; omega) | simp) _) | refine Kept.drew ?_ | refine Kept.drewN ?_ _ | (apply Kept.call; rotate_left; assumption)))); simp only [Act.put, List.setIfInBounds_toArray, List.set_cons_succ, List.set_cons_zero]) | (refine DW.loud (by kernel_rfl) ?_; intro wd hI; have td1 := hI.at_ sB1; have td2 := hI.at_ sB2; skip; go_wp2_with (fail); refine StepPost.loud _ rfl (by repeat (first | exact Kept.refl _ | assumption | (refine Kept.alloc ?_ _) | (refine Kept.setCell ?_ (by first | omega | (simp; omega) | simp) _) | refine Kept.drew ?_ | refine Kept.drewN ?_ _ | (apply Kept.call; rotate_left; assumption))) (fun hkL => ?_); have hkL := hI.call hkL; have hkB := hkB.call hkL; have sB1 := hkL.at_ sB1; have sB2 := hkL.at_ sB2; simp only [Act.put, List.setIfInBounds_toArray, List.set_cons_succ, List.set_cons_zero]))
          refine DW.tail (by kernel_rfl) ?_
          intro wd hI
          have hkd := hkB.call hI
          have td1 := hI.at_ sB1; have td2 := hI.at_ sB2
          have HI9 := Lib.hid (new_cell2 hI)
          have ST2 := Lib.hid (st.out.keep hkd)
          have hzd : Hid (Cells Z wz wd) := hz.out.keep hkd
          have hwd : W0.heap.size ≤ wd.heap.size := by have := hkd.size; omega
          have cx2 : Hid (wd.cell? ⟨Z, off + j, none⟩ = some (.int .i64 (x : Nat))) := td2
          clear hI td1 td2 sB1 sB2 st hz ca cx hkd hkB
          go_wp2_with (first
            | (at_builtin; refine wpList_append_own_at _ rfl _ _ 32 rfl W0.heap.size 34 i0 (.agg #[.int .i64 0, .int .i64 0]) 2 16 Try.underlying32 HI.out hz0 hz1 hz2 rfl (by decide) _ d1 _ rfl ST2.out.o1 _ 1 1 [.int .i64 a, .int .i64 (x : Nat)] rfl rfl HI9.out (by simp [Value.oneCell']) (by unfold maxLen; omega) (by omega) (by omega) ?_; intro v4 w4 hown4 hgrow4 _ hob4; rw [h1s.out] at hown4; have S1 := Lib.hid (ST2.out.grow (Nat.le_refl _) hown4 hgrow4 hob4); have hz1' := Lib.hid (ST2.out.cells hgrow4 hzd.out); have cx3 : w4.cell? ⟨Z, off + j, none⟩ = some (.int .i64 (x : Nat)) := hgrow4.cell cx2.out (fun e => ST2.out.z1 e.symm); have hw4 : W0.heap.size ≤ w4.heap.size := (by have := hgrow4.size; omega); clear hown4 hgrow4 hob4)
            | (at_builtin; refine wpList_append_own_at _ rfl _ _ 22 rfl W0.heap.size 3 j0 (.int .i64 0) 1 8 Try.underlying22 HJ.out hy0 hy1 hy2 rfl (by decide) _ (d1 + 1) _ rfl (S1.out.o2.alloc _) ⟨w4.heap.size, 0, none⟩ 1 1 [.int .i64 (x : Nat)] rfl rfl (cell_one_new _ _ _) (by simp [Value.oneCell']) (by unfold maxLen; omega) (by omega) (by simp only [World.size_alloc]; omega) ?_; intro v5 w5 hown5 hgrow5 _ hob5; rw [h2s.out] at hown5; have S1k := Lib.hid (S1.out.keep ((Kept.refl w4).alloc (.cells #[.int .i64 (x : Nat)] 3))).rot; have hz2' := Lib.hid (S1k.out.cells hgrow5 (hz1'.out.keep ((Kept.refl w4).alloc _))); have S2 := Lib.hid (S1k.out.grow (Nat.le_refl _) hown5 hgrow5 hob5); obtain ⟨g5, c5, e5, ca5⟩ := own_at hown5 hPi2.out; subst e5; have hw5 : W0.heap.size ≤ w5.heap.size := (by have := hgrow5.size; simp only [World.size_alloc] at this; omega); have hc5 : d1 + 1 + 1 ≤ c5 := (by obtain ⟨A9, c8, e8, h8⟩ := IntsAt.of_ownI S2.out.o1; cases e8; exact h8.2.1); clear hown5 hgrow5 hob5 S1k)
            | (at_builtin; refine wpList_append_own_at _ rfl _ _ 22 rfl W0.heap.size 3 j0 (.int .i64 0) 1 8 Try.underlying22 HJ.out hy0 hy1 hy2 rfl (by decide) _ (d1 + 1) _ rfl (S2.out.o2.alloc _) ⟨w5.heap.size, 0, none⟩ 1 1 [.int .i64 a] rfl rfl (cell_one_new _ _ _) (by simp [Value.oneCell']) (by unfold maxLen; omega) (by omega) (by simp only [World.size_alloc]; omega) ?_; intro v6 w7 hown6 hgrow6 _ hob6; rw [h3s.out] at hown6; have S2k := Lib.hid (S2.out.keep ((Kept.refl w5).alloc (.cells #[.int .i64 a] 3))).rot; have hz3' := Lib.hid (S2k.out.cells hgrow6 (hz2'.out.keep ((Kept.refl w5).alloc _))); have S3 := Lib.hid (S2k.out.grow (Nat.le_refl _) hown6 hgrow6 hob6).rot; clear hown6 hgrow6 hob6 S2k))
          go_roundw
          case rel => first | exact ⟨j + 1, d1 + 1, _, _, _, rfl, rfl, rfl, by go_num, by omega, by rw [HD1.out]; omega, by rw [HP'.out]; exact S3, hz3'⟩ | exact ⟨j + 1, d1 + 1, _, _, _, rfl, rfl, rfl, by go_num, by omega, by have := HD1.out; omega, by rw [HP'.out]; exact S3, hz3'⟩
          case measure => simp [intOf]; omega
        · obtain rfl : j = m := by omega
          have hkk : Hid (qs N f i ++ kids a L j = qs N f (i + 1)) := by
            unfold Hid kids
            rw [HSQ.out, List.take_of_length_le (by rw [HM.out]; exact Nat.le_refl _)]
          rw [hkk.out] at st
          have hql2 : Hid ((qs N f (i + 1)).length = d1 + 1) := by
            unfold Hid
            have := st.out.o2.1
            rw [intC_len, List.length_map] at this
            omega
          have st2 := Lib.hid (st.out.low (Y := w.heap.size) hlE (by have := st.out.kept.size; omega))
          clear hd1 st hz
          go_wp2_with fail
          go_roundw
          case rel => first | exact ⟨i + 1, d1, _, _, _, rfl, rfl, rfl, by go_num, by have := HD1.out; omega, by have := HD1.out; omega, hql2, st2⟩
          case measure => simp [intOf]; omega
    · obtain rfl : i = d + 1 := by omega
      have hend := Lib.hid (qs_end HS.out (i := d + 1) (by rw [hql.out]; exact Nat.le_refl _))
      go_wp2_with fail
      go_ret
      obtain ⟨A1, c1', e1, h1⟩ := PrsAt.of_own st.out.o1
      refine ⟨A1, c1', d, by rw [e1]; rfl, by rw [← hend.out]; exact h1, K0H.out.call st.out.kept, fun b off eb => ?_⟩
      have := (st.out.o1.lt b (by rw [e1, eb]; rfl)).1
      omega
end Go.Proofs.Ytjmfdacokdffiaa
