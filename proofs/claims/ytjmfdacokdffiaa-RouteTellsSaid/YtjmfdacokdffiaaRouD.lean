/- The program's route: Ways. -/
import Derived.Test.YtjmfdacokdffiaaRouC
import Derived.Test.YtjmfdacokdffiaaTabR
import Derived.Maps.AppendAt
set_option linter.unusedSimpArgs false
set_option linter.unusedVariables false
namespace Go.Proofs.Ytjmfdacokdffiaa
open Go.RowKit

/-- Two rows of pairs of their own, in blocks that are not the same, nor Z. -/
structure WSt (w : World) (Bs : Nat) (wr : World) (v1 v2 : Value) (l1 l2 : Nat) (q1 q2 : List Pr) (Z : Nat) : Prop where
  o1 : wr.ownsRow Bs 34 2 v1 l1 (prC q1)
  o2 : wr.ownsRow Bs 34 2 v2 l2 (prC q2)
  ne : ∀ g, v1.ownBlock = some g → v2.ownBlock ≠ some g
  z : v1.ownBlock ≠ some Z ∧ v2.ownBlock ≠ some Z
  zl : Z < wr.heap.size
  kept : Kept w wr
theorem WSt.keep {w wr w2 : World} {Bs : Nat} {v1 v2 : Value} {l1 l2 : Nat} {q1 q2 : List Pr} {Z : Nat} (h : WSt w Bs wr v1 v2 l1 l2 q1 q2 Z) (hk : Kept wr w2) : WSt w Bs w2 v1 v2 l1 l2 q1 q2 Z :=
  ⟨Kept.own h.o1 hk, Kept.own h.o2 hk, h.ne, h.z, by have := hk.size; have := h.zl; omega, h.kept.call hk⟩
/-- Another block to keep clear of. -/
theorem WSt.block {w wr : World} {Bs : Nat} {v1 v2 : Value} {l1 l2 : Nat} {q1 q2 : List Pr} {Z Y : Nat} (h : WSt w Bs wr v1 v2 l1 l2 q1 q2 Z) {w2 : World} (hk : Kept wr w2) (hY : wr.heap.size ≤ Y) (hY2 : Y < w2.heap.size) : WSt w Bs w2 v1 v2 l1 l2 q1 q2 Y :=
  ⟨Kept.own h.o1 hk, Kept.own h.o2 hk, h.ne, ⟨fun e => by have := (h.o1.lt _ e).2; omega, fun e => by have := (h.o2.lt _ e).2; omega⟩, hY2, h.kept.call hk⟩
theorem WSt.low {w wr : World} {Bs : Nat} {v1 v2 : Value} {l1 l2 : Nat} {q1 q2 : List Pr} {Z Y : Nat} (h : WSt w Bs wr v1 v2 l1 l2 q1 q2 Z) (hY : Y < Bs) (hY2 : Y < wr.heap.size) : WSt w Bs wr v1 v2 l1 l2 q1 q2 Y :=
  ⟨h.o1, h.o2, h.ne, ⟨fun e => by have := (h.o1.lt _ e).1; omega, fun e => by have := (h.o2.lt _ e).1; omega⟩, hY2, h.kept⟩
theorem WSt.grow1 {w wr w3 : World} {Bs : Nat} {v1 v2 v3 : Value} {l1 l2 l3 : Nat} {q1 q2 q3 : List Pr} {Z : Nat} (h : WSt w Bs wr v1 v2 l1 l2 q1 q2 Z) (hB : w.heap.size ≤ Bs) (ho : w3.ownsRow Bs 34 2 v3 l3 (prC q3)) (hg : wr.grownBy w3 v1.ownBlock) (hb : v3.ownBlock = v1.ownBlock ∨ v3.ownBlock = some wr.heap.size) : WSt w Bs w3 v3 v2 l3 l2 q3 q2 Z := by
  have hn2 : v2.ownBlock = none ∨ v2.ownBlock ≠ v1.ownBlock := by
    cases e : v1.ownBlock with
    | none => exact (Option.eq_none_or_eq_some v2.ownBlock).imp id fun ⟨g, hg⟩ => by rw [hg]; simp
    | some g => exact .inr (h.ne g e)
  refine ⟨ho, h.o2.kept hg hn2, fun g e e2 => ?_, ⟨fun e => ?_, h.z.2⟩, by have := hg.size; have := h.zl; omega, h.kept.grown hg (fun g e => Nat.le_trans hB (h.o1.lt g e).1)⟩
  · rcases hb with hb | hb
    · exact h.ne g (hb ▸ e) e2
    · have := (h.o2.lt g e2).2
      rw [hb] at e
      injection e with e
      omega
  · rcases hb with hb | hb
    · exact h.z.1 (hb ▸ e)
    · have := h.zl
      rw [hb] at e
      injection e with e
      omega
theorem WSt.swap {w wr : World} {Bs : Nat} {v1 v2 : Value} {l1 l2 : Nat} {q1 q2 : List Pr} {Z : Nat} (h : WSt w Bs wr v1 v2 l1 l2 q1 q2 Z) : WSt w Bs wr v2 v1 l2 l1 q2 q1 Z := ⟨h.o2, h.o1, fun g e e2 => h.ne g e2 e, ⟨h.z.2, h.z.1⟩, h.zl, h.kept⟩
theorem WSt.grow2 {w wr w3 : World} {Bs : Nat} {v1 v2 v3 : Value} {l1 l2 l3 : Nat} {q1 q2 q3 : List Pr} {Z : Nat} (h : WSt w Bs wr v1 v2 l1 l2 q1 q2 Z) (hB : w.heap.size ≤ Bs) (ho : w3.ownsRow Bs 34 2 v3 l3 (prC q3)) (hg : wr.grownBy w3 v2.ownBlock) (hb : v3.ownBlock = v2.ownBlock ∨ v3.ownBlock = some wr.heap.size) : WSt w Bs w3 v1 v3 l1 l3 q1 q3 Z := (h.swap.grow1 hB ho hg hb).swap
theorem WSt.cell1 {w wr w3 : World} {Bs : Nat} {v1 v2 : Value} {l1 l2 : Nat} {q1 q2 : List Pr} {Z : Nat} (h : WSt w Bs wr v1 v2 l1 l2 q1 q2 Z) (hg : wr.grownBy w3 v1.ownBlock) {off : Nat} {u : Value} (hc : wr.cell? ⟨Z, off, none⟩ = some u) : w3.cell? ⟨Z, off, none⟩ = some u := hg.cell hc (fun e => h.z.1 e.symm)
theorem WSt.cell2 {w wr w3 : World} {Bs : Nat} {v1 v2 : Value} {l1 l2 : Nat} {q1 q2 : List Pr} {Z : Nat} (h : WSt w Bs wr v1 v2 l1 l2 q1 q2 Z) (hg : wr.grownBy w3 v2.ownBlock) {off : Nat} {u : Value} (hc : wr.cell? ⟨Z, off, none⟩ = some u) : w3.cell? ⟨Z, off, none⟩ = some u := h.swap.cell1 hg hc
theorem WSt.cast {w wr : World} {Bs : Nat} {v1 v2 : Value} {l1 l2 : Nat} {q1 q2 q3 q4 : List Pr} {Z : Nat} (h : WSt w Bs wr v1 v2 l1 l2 q1 q2 Z) (e1 : q1 = q3) (e2 : q2 = q4) : WSt w Bs wr v1 v2 l1 l2 q3 q4 Z := by rw [← e1, ← e2]; exact h
/-- A block's cells stand. -/
def Cells (Z : Nat) (w w2 : World) : Prop := ∀ t u, w.cell? ⟨Z, t, none⟩ = some u → w2.cell? ⟨Z, t, none⟩ = some u
theorem Cells.keep {Z : Nat} {w w2 w3 : World} (h : Cells Z w w2) (hk : Kept w2 w3) : Cells Z w w3 := fun t u hu => hk.at_ (h t u hu)
theorem WSt.cells1 {w wr w3 w0 : World} {Bs : Nat} {v1 v2 : Value} {l1 l2 : Nat} {q1 q2 : List Pr} {Z : Nat} (h : WSt w Bs wr v1 v2 l1 l2 q1 q2 Z) (hg : wr.grownBy w3 v1.ownBlock) (hc : Cells Z w0 wr) : Cells Z w0 w3 := fun t u hu => h.cell1 hg (hc t u hu)
theorem WSt.cells2 {w wr w3 w0 : World} {Bs : Nat} {v1 v2 : Value} {l1 l2 : Nat} {q1 q2 : List Pr} {Z : Nat} (h : WSt w Bs wr v1 v2 l1 l2 q1 q2 Z) (hg : wr.grownBy w3 v2.ownBlock) (hc : Cells Z w0 wr) : Cells Z w0 w3 := fun t u hu => h.cell2 hg (hc t u hu)
/-- The children so far. -/
def kids (a : Int) (L : List Nat) (j : Nat) : List Pr := (L.take j).map fun s => (a, ((s : Nat) : Int))
theorem kids_snoc {a : Int} {L : List Nat} {j x : Nat} (h : L[j]? = some x) : kids a L (j + 1) = kids a L j ++ [(a, (x : Int))] := by
  have hlt := (List.getElem?_eq_some_iff.1 h).1
  unfold kids
  rw [List.take_succ_eq_append_getElem hlt, (List.getElem?_eq_some_iff.1 h).2]
  simp
theorem own_start (w : World) (o : Obj) (f : Int) : ((w.alloc o).alloc (.cells #[.int .i64 (-1), .int .i64 f] 34)).ownsRow (w.heap.size + 1) 34 2 (.slice (some ⟨w.heap.size + 1, 0, none⟩) 1 1) 1 (prC [(-1, f)]) := by
  have h := own_new (w.alloc o) 34 [.int .i64 (-1), .int .i64 f] 1 2 rfl (by unfold maxLen; omega)
  rw [World.size_alloc] at h
  exact h
set_option maxHeartbeats 4000000 in
theorem ways_new (A B C : Option Addr) (n1 c1 n2 c2 n3 c3 : Nat) (es : List Nat) (os ps : List Int) (f : Int) (k : ByteArray) (w : World) (hr : RowW w A n1 c1 B n2 c2 C n3 c3 (rgs es) os ps) (hf : FitT es os ps n3) (hs : Small (nxt ps n3 (oa os (findI es (hv k)))) f) :
    Calls Try.prog 12 #[.agg #[.slice A n1 c1, .slice B n2 c2, .slice C n3 c3], .int .i64 f, .string k] w fun e w' => ∃ D c n, e = .returned (.slice D n c) ∧ PrsAt w' D n c (allQ (nxt ps n3 (oa os (findI es (hv k)))) f).tail ∧ Kept w w' ∧ ∀ b off, D = some ⟨b, off, none⟩ → w.heap.size ≤ b := by
  obtain ⟨i0, hi, hz0, hz1, hz2⟩ := info_parts infoPr
  have HI := Lib.hid hi
  have HR := Lib.hid hr
  have HF := Lib.hid hf
  have HN := fun c a w2 hk => next_any A B C n1 c1 n2 c2 n3 c3 es os ps a c k w2 (HR.out.keep hk) HF.out
  have HNN : Hid (∀ (c a : Int) (w2 : World), Kept w w2 → Calls Try.prog 19 #[.agg #[.slice A n1 c1, .slice B n2 c2, .slice C n3 c3], .int .i64 a, .int .i64 c, .string k] w2 (RowNew (nxt ps n3 (oa os (findI es (hv k))) c a) w2)) := HN
  generalize nxt ps n3 (oa os (findI es (hv k))) = N at *
  have HS := Lib.hid hs
  clear hr hf hi HN hs HR HF
  go_enter Try.func12, Try.ntmps12
  go_wp2_with fail
  go_loopw [7, 8, 9] (fun ov pv iv wr => ∃ (i l1 l2 : Nat) (v1 v2 : Value), ov = v1 ∧ pv = v2 ∧ iv = .int .i64 i ∧ i ≤ l2 ∧ l2 ≤ 7 ∧ Hid (l2 = l1 + 1) ∧ Hid ((qs N f i).length = l2) ∧ Hid (WSt w (w.heap.size + 1) wr v1 v2 l1 l2 (qs N f i).tail (qs N f i) w.heap.size) ∧ wr.cell? ⟨w.heap.size, 0, none⟩ = some (.slice A n1 c1) ∧ wr.cell? ⟨w.heap.size, 1, none⟩ = some (.slice B n2 c2) ∧ wr.cell? ⟨w.heap.size, 2, none⟩ = some (.slice C n3 c3)) (fun _ _ iv _ => 8 - (intOf iv).toNat)
  case atStart =>
    refine ⟨0, 0, 1, _, _, rfl, rfl, rfl, by omega, by omega, rfl, rfl, ⟨World.ownsRow_nil _ _ _ _, ?_, (fun g e => by cases e), ⟨(fun e => by cases e), (fun e => by first | (simp [Value.ownBlock] at e; done) | (simp [Value.ownBlock] at e; omega))⟩, by simp; omega, by repeat (first | exact Kept.refl _ | assumption | (refine Kept.alloc ?_ _) | (refine Kept.setCell ?_ (by first | omega | (simp; omega) | simp) _) | refine Kept.drew ?_ | refine Kept.drewN ?_ _ | (apply Kept.call; rotate_left; assumption))⟩, by go_simp, by go_simp, by go_simp⟩
    exact own_start _ _ f
  case round =>
    obtain ⟨i, l1, l2, v1, v2, rfl, rfl, rfl, hil, hl7, hl12, hql, hst, x0, x1, x2⟩ := hrel
    obtain ⟨A2, c9, rfl⟩ := own_slice hst.out.o2
    by_cases hlt : i < l2
    · obtain ⟨⟨c, a⟩, hca⟩ : ∃ x, (qs N f i)[i]? = some x := ⟨_, List.getElem?_eq_getElem (by rw [hql.out]; exact hlt)⟩
      have HCA := Lib.hid hca
      obtain ⟨g, c9', e9, hg1, hg2⟩ := own_some hst.out.o2 (by omega)
      cases e9
      have y0 : wr.cell? ⟨g, i * 2, none⟩ = some (.int .i64 c) := by
        rw [hst.out.o2.cellAt (i * 2) (by omega), (prC_at _ i (by rw [hql.out]; exact hlt)).1]
        simp [prA, hca]
      have y1 : wr.cell? ⟨g, i * 2 + 1, none⟩ = some (.int .i64 a) := by
        rw [hst.out.o2.cellAt (i * 2 + 1) (by omega), (prC_at _ i (by rw [hql.out]; exact hlt)).2]
        simp [prA, hca]
      have hcap : l2 ≤ c9 ∧ c9 ≤ 9223372036854775807 := by
        obtain ⟨A9, c8, e8, h8⟩ := PrsAt.of_own hst.out.o2
        cases e8
        have h1 := h8.2.1
        have h2 := h8.2.2.1
        unfold maxLen at h2
        omega
      clear hca
      go_wp2_with fail
      refine wp_region_text keepsOne (fun wB => Kept wr wB ∧ wB.cell? ⟨g, i * 2, none⟩ = some (.int .i64 c) ∧ wB.cell? ⟨g, i * 2 + 1, none⟩ = some (.int .i64 a)) ?_ (by kernel_rfl) (by kernel_rfl) _ (by (try simp only [List.append_eq, List.cons_append, List.nil_append, List.toList_toArray]); exact rfl) ?_
      · exact ⟨by repeat (first | exact Kept.refl _ | assumption | (refine Kept.alloc ?_ _) | (refine Kept.setCell ?_ (by first | omega | (simp; omega) | simp) _) | refine Kept.drew ?_ | refine Kept.drewN ?_ _ | (apply Kept.call; rotate_left; assumption)), by first | assumption | go_simp, by first | assumption | go_simp⟩
      rintro wB ⟨hkB, sB1, sB2⟩
      repeat (first | (apply DW.det; (focus (intro wd hI; have td1 := hI.at_ sB1; have td2 := hI.at_ sB2; skip; go_wp2_with fail; refine StepPost.mk _ rfl ⟨rfl, ?_⟩; repeat (first | exact Kept.refl _ | assumption | (refine Kept.alloc ?_ _) | (refine Kept.setCell ?_ (by first | omega | (simp; omega) | simp) _) | refine Kept.drew ?_ | refine Kept.drewN ?_ _ | (apply Kept.call; rotate_left; assumption)))); simp only [Act.put, List.setIfInBounds_toArray, List.set_cons_succ, List.set_cons_zero]) | (refine DW.loud (by kernel_rfl) ?_; intro wd hI; have td1 := hI.at_ sB1; have td2 := hI.at_ sB2; skip; go_wp2_with fail; refine StepPost.loud _ rfl (by repeat (first | exact Kept.refl _ | assumption | (refine Kept.alloc ?_ _) | (refine Kept.setCell ?_ (by first | omega | (simp; omega) | simp) _) | refine Kept.drew ?_ | refine Kept.drewN ?_ _ | (apply Kept.call; rotate_left; assumption))) (fun hkL => ?_); have hkL := hI.call hkL; have hkB := hkB.call hkL; have sB1 := hkL.at_ sB1; have sB2 := hkL.at_ sB2; simp only [Act.put, List.setIfInBounds_toArray, List.set_cons_succ, List.set_cons_zero]))
      refine DW.nil ?_
      intro wd hI
      have hkd := hkB.call hI
      have td1 := hI.at_ sB1; have td2 := hI.at_ sB2
      have z0 := hkd.at_ x0
      have z1 := hkd.at_ x1
      have z2 := hkd.at_ x2
      have hst2 := Lib.hid (hst.out.keep hkd)
      have q1 : w.heap.size < wd.heap.size := World.block_lt_of_cell? wd _ z0
      go_wp2_with fail
      refine (HNN.out c a wd hst2.out.kept).mono ?_
      rintro e w2 ⟨A3, c3', rfl, hia, hfr, k2⟩
      have hst3 := Lib.hid (hst2.out.keep k2)
      have HFR := Lib.hid hfr
      have HIA := Lib.hid hia
      have p0 := k2.at_ z0
      have p1 := k2.at_ z1
      have p2 := k2.at_ z2
      have HSQ := Lib.hid (qs_step HCA.out)
      clear hfr hia x0 x1 x2 z0 z1 z2 y0 y1 hg1 hg2
      generalize N c a = L at *
      obtain ⟨m, hm⟩ : ∃ m, L.length = m := ⟨_, rfl⟩
      have HM := Lib.hid hm
      rw [hm] at HIA ⊢
      have hmc : m ≤ c3' ∧ c3' ≤ 9223372036854775807 := by have h1 := HIA.out.2.1; have h2 := HIA.out.2.2.1; unfold maxLen at h2; omega
      have hm7 : l2 + m ≤ 7 := by
        have := HS.out (i + 1)
        rw [HSQ.out, List.length_append, List.length_map, hql.out, HM.out] at this
        exact this
      obtain ⟨Z, off, hZ, hZc⟩ : ∃ Z off, WSt w (w.heap.size + 1) w2 u7 (.slice (some ⟨g, 0, none⟩) l2 c9) l1 l2 (qs N f i).tail (qs N f i) Z ∧ (0 < m → A3 = some ⟨Z, off, none⟩ ∧ ∀ j x : Nat, L[j]? = some x → w2.cell? ⟨Z, off + j, none⟩ = some (.int .i64 (x : Nat))) := by
        rcases Nat.eq_zero_or_pos m with h0 | h0
        · exact ⟨w.heap.size, 0, hst3.out, fun h => by omega⟩
        · obtain ⟨b, off, e, hcc⟩ := HIA.out.2.2.2.2 h0
          have hb := HFR.out b off e
          refine ⟨b, off, hst2.out.block k2 hb (World.block_lt_of_cell? w2 _ (hcc 0 h0)), fun _ => ⟨e, fun j x hx => ?_⟩⟩
          rw [hcc j (by rw [← HM.out]; exact (List.getElem?_eq_some_iff.1 hx).1), ints_get hx]
      have hRC : Hid (Cells w.heap.size w2 w2) := fun t u h => h
      have hZZ : Hid (Cells Z w2 w2) := fun t u h => h
      have HZC := Lib.hid hZc
      have HZ := Lib.hid hZ
      have P0 := Lib.hid p0
      have P1 := Lib.hid p1
      have P2 := Lib.hid p2
      clear hm hZc hZ hst hst2 hst3 p0 p1 p2 HFR HIA
      go_wp2_with fail
      go_loopw [7, 8, 39] (fun ov pv jv wr => ∃ (j d1 d2 : Nat) (v1 v2 : Value), ov = v1 ∧ pv = v2 ∧ jv = .int .i64 j ∧ j ≤ m ∧ d1 = l1 + j ∧ d2 = l2 + j ∧ Hid (WSt w (w.heap.size + 1) wr v1 v2 d1 d2 ((qs N f i).tail ++ kids a L j) (qs N f i ++ kids a L j) Z) ∧ Hid (Cells Z w2 wr) ∧ Hid (Cells w.heap.size w2 wr)) (fun _ _ jv _ => m - (intOf jv).toNat)
      case atStart => exact ⟨0, l1, l2, _, _, rfl, rfl, rfl, by omega, by omega, by omega, Lib.hid (by simpa [kids] using HZ.out), hZZ, hRC⟩
      case round =>
        obtain ⟨j, d1, d2, v1, v2, rfl, rfl, rfl, hjm, hd1, hd2, st, hz, hr⟩ := hrel
        by_cases hjl : j < m
        · obtain ⟨x, hx⟩ : ∃ x, L[j]? = some x := ⟨_, List.getElem?_eq_getElem (by rw [HM.out]; exact hjl)⟩
          obtain ⟨rfl, hzc⟩ := HZC.out (by omega)
          have cx : wr.cell? ⟨Z, off + j, none⟩ = some (.int .i64 (x : Nat)) := hz.out _ _ (hzc j x hx)
          have hkd2 := Lib.hid (kids_snoc (a := a) hx)
          have hd7 : d1 + 1 ≤ 7 ∧ d2 + 1 ≤ 7 := by have := hl12.out; omega
          have hw1 : w.heap.size + 1 ≤ wr.heap.size := by have h8 := hr.out 0 _ P0.out; have h9 : w.heap.size < wr.heap.size := World.block_lt_of_cell? wr _ h8; omega
          have HD1 := Lib.hid hd1
          have HD2 := Lib.hid hd2
          have hol1 : Hid ((prC ((qs N f i).tail ++ kids a L j)).length = d1 * 2) := st.out.o1.1
          have hol2 : Hid ((prC (qs N f i ++ kids a L j)).length = d2 * 2) := st.out.o2.1
          clear hx hzc hd1 hd2
          go_wp2_with (first
            | (at_builtin; refine wpList_append_own_at _ rfl _ _ 32 rfl (w.heap.size + 1) 34 i0 (.agg #[.int .i64 0, .int .i64 0]) 2 16 Try.underlying32 HI.out hz0 hz1 hz2 rfl (by decide) _ d1 _ rfl (st.out.o1.alloc _) ⟨wr.heap.size, 0, none⟩ 1 1 [.int .i64 a, .int .i64 (x : Nat)] rfl rfl (cells_two _ _ _ _) (by simp [Value.oneCell']) (by unfold maxLen; omega) (by omega) (by simp; omega) ?_; intro v3 w3 hown3 hgrow3 _ hob3; rw [prC_snoc _ (a, (x : Int)), List.append_assoc, ← hkd2.out] at hown3; have st1 := Lib.hid ((st.out.keep ((Kept.refl wr).alloc (.cells #[.int .i64 a, .int .i64 (x : Nat)] 34))).grow1 (by omega) hown3 hgrow3 hob3); have hr3 := Lib.hid (((st.out.keep ((Kept.refl wr).alloc (.cells #[.int .i64 a, .int .i64 (x : Nat)] 34))).low (Y := w.heap.size) (by omega) (by simp; omega)).cells1 hgrow3 (hr.out.keep ((Kept.refl wr).alloc _))); have hz3 := Lib.hid ((st.out.keep ((Kept.refl wr).alloc (.cells #[.int .i64 a, .int .i64 (x : Nat)] 34))).cells1 hgrow3 (hz.out.keep ((Kept.refl wr).alloc _))); have hsz3 := hgrow3.size; simp only [World.size_alloc] at hsz3; clear hown3 hgrow3 hob3)
            | (at_builtin; refine wpList_append_own_at _ rfl _ _ 32 rfl (w.heap.size + 1) 34 i0 (.agg #[.int .i64 0, .int .i64 0]) 2 16 Try.underlying32 HI.out hz0 hz1 hz2 rfl (by decide) _ d2 _ rfl (st1.out.o2.alloc _) ⟨w3.heap.size, 0, none⟩ 1 1 [.int .i64 a, .int .i64 (x : Nat)] rfl rfl (cells_two _ _ _ _) (by simp [Value.oneCell']) (by unfold maxLen; omega) (by omega) (by simp; omega) ?_; intro v4 w4 hown4 hgrow4 _ hob4; rw [prC_snoc _ (a, (x : Int)), List.append_assoc, ← hkd2.out] at hown4; have st2 := Lib.hid ((st1.out.keep ((Kept.refl w3).alloc (.cells #[.int .i64 a, .int .i64 (x : Nat)] 34))).grow2 (by omega) hown4 hgrow4 hob4); have hr4 := Lib.hid (((st1.out.keep ((Kept.refl w3).alloc (.cells #[.int .i64 a, .int .i64 (x : Nat)] 34))).low (Y := w.heap.size) (by omega) (by simp; omega)).cells2 hgrow4 (hr3.out.keep ((Kept.refl w3).alloc _))); have hz4 := Lib.hid ((st1.out.keep ((Kept.refl w3).alloc (.cells #[.int .i64 a, .int .i64 (x : Nat)] 34))).cells2 hgrow4 (hz3.out.keep ((Kept.refl w3).alloc _))); clear hown4 hgrow4 hob4))
          go_roundw
          case rel => exact ⟨j + 1, d1 + 1, d2 + 1, _, _, rfl, rfl, by go_num, by omega, by rw [HD1.out]; omega, by rw [HD2.out]; omega, st2, hz4, hr4⟩
          case measure => simp [intOf]; omega
        · obtain rfl : j = m := by omega
          have hkk : Hid (qs N f i ++ kids a L j = qs N f (i + 1)) := by
            unfold Hid kids
            rw [HSQ.out, List.take_of_length_le (by rw [HM.out]; exact Nat.le_refl _)]
          have r0 := hr.out _ _ P0.out
          have r1 := hr.out _ _ P1.out
          have r2 := hr.out _ _ P2.out
          have HD1 := Lib.hid hd1
          have HD2 := Lib.hid hd2
          have hql2 : Hid ((qs N f (i + 1)).length = d2) := by
            unfold Hid
            have := st.out.o2.1
            rw [hkk.out, prC_len] at this
            omega
          have st2 := Lib.hid ((st.out.low (Y := w.heap.size) (by omega) (World.block_lt_of_cell? wr _ r0)).cast (q3 := (qs N f (i + 1)).tail) (q4 := qs N f (i + 1)) (by rw [← hkk.out, tail_app]) hkk.out)
          clear hd1 hd2 st hz hr
          go_wp2_with fail
          go_roundw
          case rel => exact ⟨i + 1, d1, d2, _, _, rfl, rfl, by go_num, by rw [HD2.out]; omega, by rw [HD2.out]; omega, by have := HD1.out; have := HD2.out; have := hl12.out; exact (show d2 = d1 + 1 by omega), hql2, st2, r0, r1, r2⟩
          case measure => simp [intOf]; omega
    · obtain rfl : i = l2 := by omega
      have hend := Lib.hid (qs_end HS.out (i := i) (by rw [hql.out]; exact Nat.le_refl _))
      go_wp2_with fail
      go_ret
      obtain ⟨A1, c1', e1, h1⟩ := PrsAt.of_own hst.out.o1
      refine ⟨A1, c1', l1, by rw [e1]; rfl, by rw [← hend.out]; exact h1, hst.out.kept, fun b off eb => ?_⟩
      have := (hst.out.o1.lt b (by rw [e1, eb]; rfl)).1
      omega
theorem ways_any (A B C : Option Addr) (n1 c1 n2 c2 n3 c3 : Nat) (es : List Nat) (os ps : List Int) (f : Int) (k : ByteArray) (w : World) (hr : RowW w A n1 c1 B n2 c2 C n3 c3 (rgs es) os ps) (hf : FitT es os ps n3) (hs : Small (nxt ps n3 (oa os (findI es (hv k)))) f) :
    Calls Try.prog 12 #[.agg #[.slice A n1 c1, .slice B n2 c2, .slice C n3 c3], .int .i64 f, .string k] w fun e w' => ∃ D c n, e = .returned (.slice D n c) ∧ PrsAt w' D n c (allQ (nxt ps n3 (oa os (findI es (hv k)))) f).tail ∧ Kept w w' :=
  (ways_new A B C n1 c1 n2 c2 n3 c3 es os ps f k w hr hf hs).mono fun e w' ⟨D, c, n, h1, h2, h3, _⟩ => ⟨D, c, n, h1, h2, h3⟩
end Go.Proofs.Ytjmfdacokdffiaa
