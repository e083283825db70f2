/- The program's route: slices.DeleteFunc, Next. -/
import Derived.Test.YtjmfdacokdffiaaRouA
import Derived.Lib.SliceRun
set_option linter.unusedSimpArgs false
set_option linter.unusedVariables false
namespace Go.Proofs.Ytjmfdacokdffiaa
open Go.RowKit

theorem Cap.below {w w2 : World} {F C AT OW : Nat} {Cv : Option Addr} {n3 c3 : Nat} {a f o : Int} {ps : List Int} {B : Nat} (h : Cap w F C AT OW Cv n3 c3 a f o ps) (hk : Below B w w2) (h1 : F < B ∧ C < B ∧ AT < B ∧ OW < B) (h2 : ∀ b off, Cv = some ⟨b, off, none⟩ → b < B) : Cap w2 F C AT OW Cv n3 c3 a f o ps := by
  refine ⟨by rw [hk.cell (p := ⟨F, 0, none⟩) h1.1]; exact h.cF, by rw [hk.cell (p := ⟨C, 2, none⟩) h1.2.1]; exact h.cC, by rw [hk.cell (p := ⟨AT, 0, none⟩) h1.2.2.1]; exact h.cA, by rw [hk.cell (p := ⟨OW, 0, none⟩) h1.2.2.2]; exact h.cO, ?_⟩
  obtain ⟨p1, p2, p3, p4, p5⟩ := h.ps
  refine ⟨p1, p2, p3, p4, fun h0 => ?_⟩
  obtain ⟨b, off, e, hc⟩ := p5 h0
  exact ⟨b, off, e, fun i hi => by rw [hk.cell (p := ⟨b, off + i, none⟩) (h2 b off e)]; exact hc i hi⟩
def keepL (D : Nat → Bool) (l : List Nat) : List Nat := l.filter fun x => !D x
theorem below_setCells {B g : Nat} {w : World} (hg : B ≤ g) : ∀ (vs : List Value) (o : Nat) (w' : World), Below B w w' → Below B w (w'.setCells g o vs)
  | [], _, _, h => h
  | v :: r, o, w', h => below_setCells hg r (o + 1) _ (h.setCell hg v)
theorem Kept.call_below {w w1 w2 : World} {B : Nat} (h : Kept w w1) (k : Below B w1 w2) (hB : w.heap.size ≤ B) : Kept w w2 := Below.trans h (Below.mono k hB)
structure DS (D : Nat → Bool) (l : List Nat) (j i : Nat) (cur : List Nat) : Prop where
  len : cur.length = l.length
  lt : i < j
  le : j ≤ l.length
  done : cur.take i = keepL D (l.take j)
  rest : ∀ t, j ≤ t → cur[t]? = l[t]?
theorem DS.start {D : Nat → Bool} {l : List Nat} {i x : Nat} (hx : l[i]? = some x) (hd : D x = true) (hn : ∀ j y : Nat, j < i → l[j]? = some y → D y = false) : DS D l (i + 1) i l := by
  have hlt := (List.getElem?_eq_some_iff.1 hx).1
  refine ⟨rfl, by omega, hlt, ?_, fun _ _ => rfl⟩
  rw [List.take_succ_eq_append_getElem hlt, (List.getElem?_eq_some_iff.1 hx).2]
  unfold keepL
  rw [List.filter_append]
  simp only [List.filter_cons, hd, Bool.not_true, Bool.false_eq_true, if_false, List.filter_nil, List.append_nil]
  refine (List.filter_eq_self.2 fun y hy => ?_).symm
  obtain ⟨j, hj⟩ := List.getElem?_of_mem hy
  have hji : j < i := by
    have := (List.getElem?_eq_some_iff.1 hj).1
    rw [List.length_take] at this
    omega
  rw [List.getElem?_take_of_lt hji] at hj
  rw [hn j y hji hj]
  rfl
theorem DS.skip {D : Nat → Bool} {l cur : List Nat} {j i x : Nat} (h : DS D l j i cur) (hx : l[j]? = some x) (hd : D x = true) : DS D l (j + 1) i cur := by
  have hlt := (List.getElem?_eq_some_iff.1 hx).1
  refine ⟨h.len, by have := h.lt; omega, hlt, ?_, fun t ht => h.rest t (by omega)⟩
  rw [List.take_succ_eq_append_getElem hlt, (List.getElem?_eq_some_iff.1 hx).2, h.done]
  unfold keepL
  simp [hd]
theorem DS.put {D : Nat → Bool} {l cur : List Nat} {j i x : Nat} (h : DS D l j i cur) (hx : l[j]? = some x) (hd : D x = false) : DS D l (j + 1) (i + 1) (cur.set i x) := by
  have hlt := (List.getElem?_eq_some_iff.1 hx).1
  have hl := h.len
  have h1 := h.lt
  refine ⟨by simp [hl], by omega, hlt, ?_, fun t ht => by rw [List.getElem?_set_ne (by omega)]; exact h.rest t (by omega)⟩
  have hi : i < (cur.set i x).length := by simp; omega
  rw [List.take_succ_eq_append_getElem hi, List.take_succ_eq_append_getElem hlt, (List.getElem?_eq_some_iff.1 hx).2]
  simp only [List.getElem_set_self]
  rw [List.take_set_of_le (Nat.le_refl i), h.done]
  unfold keepL
  simp [hd]
theorem natC_set (l : List Nat) (i x : Nat) : natC (l.set i x) = (natC l).set i (.int .i64 (x : Nat)) := by simp [natC, List.map_set]
set_option maxHeartbeats 4000000 in
theorem delete_any (F C AT OW : Nat) (Cv : Option Addr) (n3 c3 : Nat) (a f o : Int) (ps : List Int) (base : Nat) (v : Value) (m : Nat) (l : List Nat) (w : World) (hc : Cap w F C AT OW Cv n3 c3 a f o ps) (h1 : F < base ∧ C < base ∧ AT < base ∧ OW < base) (h2 : ∀ b off, Cv = some ⟨b, off, none⟩ → b < base) (hb : base ≤ w.heap.size) (ho : w.ownsRow base 3 1 v m (natC l)) :
    Calls Try.prog 42 #[v, .func (.func 40) #[] #[.pointer (some ⟨F, 0, none⟩), .pointer (some ⟨C, 0, none⟩), .pointer (some ⟨AT, 0, none⟩), .pointer (some ⟨OW, 0, none⟩)]] w fun e w' => ∃ A2 c2, e = .returned (.slice A2 (keepL (delB ps n3 a f o) l).length c2) ∧ IntsAt w' A2 (keepL (delB ps n3 a f o) l).length c2 (ints (keepL (delB ps n3 a f o) l)) ∧ Below base w w' ∧ ∀ b off, A2 = some ⟨b, off, none⟩ → base ≤ b := by
  obtain ⟨A, c, rfl, hia⟩ := IntsAt.of_own ho
  have hlm : l.length = m := by have := ho.1; rw [natC_len] at this; omega
  have HFR : Hid (∀ b off, A = some ⟨b, off, none⟩ → base ≤ b) := fun b off e => (ho.lt b (by rw [e]; rfl)).1
  have HL := Lib.hid hlm
  have HC := Lib.hid hc
  have HO := Lib.hid ho
  have HIA := Lib.hid hia
  have H2 := Lib.hid h2
  have hmc : m ≤ c ∧ c ≤ 9223372036854775807 := by have h1 := hia.2.1; have h2 := hia.2.2.1; unfold maxLen at h2; omega
  generalize hD : delB ps n3 a f o = D at *
  have HD := Lib.hid hD
  clear hc ho hia h2 hlm hD
  go_enter Try.func42, Try.ntmps42
  go_wp2_with fail
  refine (indexn_any F C AT OW Cv n3 c3 a f o ps A m c l _ (HC.out.keep (by repeat (first | exact Kept.refl _ | assumption | (refine Kept.alloc ?_ _) | (refine Kept.setCell ?_ (by first | omega | (simp; omega) | simp) _) | refine Kept.drew ?_ | refine Kept.drewN ?_ _ | (apply Kept.call; rotate_left; assumption)))) (HIA.out.keep (by repeat (first | exact Kept.refl _ | assumption | (refine Kept.alloc ?_ _) | (refine Kept.setCell ?_ (by first | omega | (simp; omega) | simp) _) | refine Kept.drew ?_ | refine Kept.drewN ?_ _ | (apply Kept.call; rotate_left; assumption))))).mono ?_
  rintro e w1 ⟨r, rfl, hr, k1⟩
  rw [HD.out] at hr
  have K1 : Kept w w1 := Kept.call (by repeat (first | exact Kept.refl _ | assumption | (refine Kept.alloc ?_ _) | (refine Kept.setCell ?_ (by first | omega | (simp; omega) | simp) _) | refine Kept.drew ?_ | refine Kept.drewN ?_ _ | (apply Kept.call; rotate_left; assumption))) k1
  rcases hr with ⟨rfl, hr⟩ | ⟨i0, x0, rfl, hx0, hd0, hr⟩
  · have hall : Hid (keepL D l = l) := by
      unfold Hid keepL
      refine List.filter_eq_self.2 fun x hx => ?_
      obtain ⟨i, hi⟩ := List.getElem?_of_mem hx
      rw [hr i x hi]; try rfl
    clear hr
    go_wp2_with fail
    go_ret
    exact ⟨A, c, by rw [hall.out, HL.out]; rfl, by rw [hall.out, HL.out]; exact HIA.out.keep K1, Below.mono K1 hb, HFR.out⟩
  · have hlt0 : i0 < m := by have := (List.getElem?_eq_some_iff.1 hx0).1; have := HL.out; omega
    obtain ⟨g, c9, e9, hg1, hg2⟩ := own_some HO.out (by omega)
    cases e9
    have hd3 : ((i0 : Int) == -1) = false := by first | (simp; done) | (simp; omega)
    go_wp2_with fail
    have hds : Hid (DS D l (i0 + 1) i0 l) := DS.start hx0 hd0 hr
    clear hr hx0 hd0
    go_loopw [5, 6] (fun iv jv wr => ∃ (j i : Nat) (cur : List Nat), j ≤ m ∧ i < j ∧ iv = .int .i64 i ∧ jv = .int .i64 j ∧ Hid (DS D l j i cur) ∧ Hid (wr.ownsRow base 3 1 (.slice (some ⟨g, 0, none⟩) m c) m (natC cur)) ∧ Below base w wr ∧ g < wr.heap.size ∧ base ≤ wr.heap.size) (fun _ jv _ => m - (intOf jv).toNat)
    case atStart => exact ⟨i0 + 1, i0, l, by omega, by omega, rfl, by go_num, hds, Kept.own HO.out K1, Below.mono K1 hb, by have := K1.size; omega, by have := K1.size; omega⟩
    case round =>
      obtain ⟨j, i, cur, hj, hij, rfl, rfl, hds, ho, kb, hgl, hbl⟩ := hrel
      by_cases hlt : j < m
      · obtain ⟨x, hx⟩ : ∃ x, l[j]? = some x := ⟨_, List.getElem?_eq_getElem (by rw [HL.out]; exact hlt)⟩
        have hcx : cur[j]? = some x := by rw [hds.out.rest j (Nat.le_refl _)]; exact hx
        have hlc : cur.length = m := by rw [hds.out.len, HL.out]
        have c1 : wr.cell? ⟨g, j, none⟩ = some (.int .i64 (x : Nat)) := by
          rw [ho.out.cellAt j (by omega)]
          simp [natC, hcx]
        obtain ⟨u, hu⟩ : ∃ u, wr.cell? ⟨g, i, none⟩ = some u := ⟨_, (ho.out.cellAt i (by omega)).trans (List.getElem?_eq_getElem (by rw [natC_len]; omega))⟩
        have hf := ho.out.frozenAt i
        have HXJ := Lib.hid hx
        have HCB := Lib.hid (HC.out.below kb h1 H2.out)
        clear hx hcx hlc
        go_wp2_with fail
        refine (none_any F C AT OW Cv n3 c3 a f o ps x wr HCB.out).mono ?_
        rintro e w2 ⟨rfl, k2⟩
        rw [HD.out]
        have KB2 : Below base w w2 := kb.trans (Below.mono k2 hbl)
        have hu := k2.at_ hu
        have c1 := k2.at_ c1
        have hf2 : w2.frozen? ⟨g, i, none⟩ = false := by rw [k2.frozen g i hgl]; exact hf
        have ho2 := Lib.hid (Kept.own ho.out k2)
        have hz2 := k2.size
        cases hv : D x
        · have hds2 := Lib.hid (hds.out.put HXJ.out hv)
          have ho3 : Hid ((w2.setCell ⟨g, i, none⟩ (.int .i64 (x : Nat))).ownsRow base 3 1 (.slice (some ⟨g, 0, none⟩) m c) m (natC (cur.set i x))) := by
            rw [natC_set]
            exact (ho2.out.stored i (.int .i64 (x : Nat))).1
          clear hv
          go_wp2_with fail
          go_roundw
          case rel => first | exact ⟨j + 1, i + 1, cur.set i x, by omega, by omega, by go_num, by go_num, hds2, ho3, KB2.setCell (by simp; omega) _, by simp [World.setCell]; omega, by simp [World.setCell]; omega⟩ | ((repeat apply Exists.intro); exact ⟨⟨j + 1, i + 1, cur.set i x, by omega, by omega, by go_num, by go_num, hds2, ho3, KB2.setCell (by simp; omega) _, by simp [World.setCell]; omega, by simp [World.setCell]; omega⟩, rfl⟩)
          case measure => simp [intOf]; omega
        · have hds2 := Lib.hid (hds.out.skip HXJ.out hv)
          clear hv
          go_wp2_with fail
          go_roundw
          case rel => first | exact ⟨j + 1, i, cur, by omega, by omega, rfl, by go_num, hds2, ho2, KB2, by omega, by omega⟩ | ((repeat apply Exists.intro); exact ⟨⟨j + 1, i, cur, by omega, by omega, rfl, by go_num, hds2, ho2, KB2, by omega, by omega⟩, rfl⟩)
          case measure => simp [intOf]; omega
      · obtain rfl : j = m := by omega
        have hlc : cur.length = j := by rw [hds.out.len, HL.out]
        have hcl : ∀ (w' : World), w' = wr → ∀ ty, (Builtin.clear_ #[22] ty #[.slice (some ⟨g, i, none⟩) (j - i) (c - i)]).run Try.prog w' = .ok (.tuple #[]) (w'.setCells g i (List.replicate (j - i) (.int .i64 0))) := fun w' hw' ty => by
          subst hw'
          refine Lib.run_clear_slice w' 22 3 ty (.int .i64 0) Try.underlying22 (fun w => by kernel_rfl) rfl rfl g i (j - i) (c - i) (by omega) (fun t ht => ?_) (fun t ht => ho.out.frozenAt (i + t))
          rw [ho.out.cellAt (i + t) (by omega), List.getElem?_eq_getElem (by rw [natC_len]; omega)]
          rfl
        have hcl2 := hcl wr rfl
        clear hcl
        go_wp2_with fail
        have hil : (keepL D l).length = i := by
          have h := congrArg List.length hds.out.done
          rw [List.length_take, List.take_of_length_le (by rw [HL.out]; exact Nat.le_refl _)] at h
          omega
        have hke : cur.take i = keepL D l := by rw [hds.out.done, List.take_of_length_le (by rw [HL.out]; exact Nat.le_refl _)]
        go_ret
        refine ⟨some ⟨g, 0, none⟩, c, by rw [hil]; rfl, ?_, below_setCells hg1 _ _ _ kb, fun b off e => by cases e; exact hg1⟩
        rw [hil]
        refine ⟨by simp [ints, hil], by omega, by have := HIA.out.2.2.1; exact this, (fun h => by cases h), fun _ => ⟨g, 0, rfl, fun t ht => ?_⟩⟩
        rw [Nat.zero_add, World.cell?_setCells_out g _ i _ _ (fun _ _ => .inl ht), ho.out.cellAt t (by omega)]
        have hct : cur[t]? = some (cur[t]'(by omega)) := List.getElem?_eq_getElem (by omega)
        have hkt : (keepL D l)[t]? = some (cur[t]'(by omega)) := by rw [← hke, List.getElem?_take_of_lt ht]; exact hct
        simp [natC, ints, hct, hkt]
/-- A row of sites is told, its block a new one. -/
def RowNew (l : List Nat) (w : World) (e : Ending) (w' : World) : Prop := ∃ A c, e = .returned (.slice A l.length c) ∧ IntsAt w' A l.length c (ints l) ∧ (∀ b off, A = some ⟨b, off, none⟩ → w.heap.size ≤ b) ∧ Kept w w'
theorem RowNew.is {l : List Nat} {w w' : World} {e : Ending} (h : RowNew l w e w') : RowIs l w e w' := by
  obtain ⟨A, c, h1, h2, _, h4⟩ := h
  exact ⟨A, c, h1, h2, h4⟩
set_option maxHeartbeats 1000000 in
theorem next_any (A B C : Option Addr) (n1 c1 n2 c2 n3 c3 : Nat) (es : List Nat) (os ps : List Int) (a f : Int) (k : ByteArray) (w : World) (hr : RowW w A n1 c1 B n2 c2 C n3 c3 (rgs es) os ps) (hf : FitT es os ps n3) :
    Calls Try.prog 19 #[.agg #[.slice A n1 c1, .slice B n2 c2, .slice C n3 c3], .int .i64 a, .int .i64 f, .string k] w (RowNew (keepL (delB ps n3 a f (oa os (findI es (hv k)))) (nearOf ps a)) w) := by
  have hmf : ∀ fn first cap w, (Instr.makeFunc fn first cap).run Try.prog w = .ok (.func fn first cap) w := fun _ _ _ _ => rfl
  have HR := Lib.hid hr
  have HF := Lib.hid hf
  have HPB : Hid (∀ b off, C = some ⟨b, off, none⟩ → b < w.heap.size) := fun b off e => by
    have h1 := hf.fit.one
    obtain ⟨b2, off2, e2, hc⟩ := hr.ps.2.2.2.2 (by omega)
    rw [e] at e2
    cases e2
    exact World.block_lt_of_cell? w _ (hc 0 (by omega))
  obtain ⟨o, ho⟩ : ∃ o, oa os (findI es (hv k)) = o := ⟨_, rfl⟩
  have HOO := Lib.hid ho
  rw [ho]
  clear hr hf ho
  go_enter Try.func19, Try.ntmps19
  go_wp2_with fail
  refine (rcheck_yes A B C n1 c1 n2 c2 n3 c3 es os ps _ (HR.out.keep (by repeat (first | exact Kept.refl _ | assumption | (refine Kept.alloc ?_ _) | (refine Kept.setCell ?_ (by first | omega | (simp; omega) | simp) _) | refine Kept.drew ?_ | refine Kept.drewN ?_ _ | (apply Kept.call; rotate_left; assumption)))) HF.out).mono ?_
  rintro e w1 ⟨rfl, k1⟩
  have K1 : Kept w w1 := Kept.call (by repeat (first | exact Kept.refl _ | assumption | (refine Kept.alloc ?_ _) | (refine Kept.setCell ?_ (by first | omega | (simp; omega) | simp) _) | refine Kept.drew ?_ | refine Kept.drewN ?_ _ | (apply Kept.call; rotate_left; assumption))) k1
  have x0 : w1.cell? ⟨w.heap.size, 0, none⟩ = some (.slice A n1 c1) := k1.at_ (by go_simp)
  have x1 : w1.cell? ⟨w.heap.size, 1, none⟩ = some (.slice B n2 c2) := k1.at_ (by go_simp)
  have x2 : w1.cell? ⟨w.heap.size, 2, none⟩ = some (.slice C n3 c3) := k1.at_ (by go_simp)
  have xa : w1.cell? ⟨w.heap.size + 1, 0, none⟩ = some (.int .i64 a) := k1.at_ (by go_simp)
  have xf : w1.cell? ⟨w.heap.size + 1 + 1, 0, none⟩ = some (.int .i64 f) := k1.at_ (by go_simp)
  go_wp2_with fail
  refine (towners_yes A B C n1 c1 n2 c2 n3 c3 es os ps k _ (HR.out.keep K1) HF.out.fit).mono ?_
  rintro e w2 ⟨rfl, k2⟩
  rw [HOO.out]
  have K2 := K1.call k2
  have x2 := k2.at_ x2
  have xa := k2.at_ xa
  have xf := k2.at_ xf
  have hlt : w.heap.size + 1 + 1 < w2.heap.size := World.block_lt_of_cell? w2 _ xf
  have hl0 : w.heap.size < w2.heap.size := by omega
  have hl1 : w.heap.size + 1 < w2.heap.size := by omega
  go_wp2_with fail
  refine (tnear_own C n3 c3 ps a _ (HR.out.ps.keep (by repeat (first | exact Kept.refl _ | assumption | (refine Kept.alloc ?_ _) | (refine Kept.setCell ?_ (by first | omega | (simp; omega) | simp) _) | refine Kept.drew ?_ | refine Kept.drewN ?_ _ | (apply Kept.call; rotate_left; assumption))))).mono ?_
  rintro e w3 ⟨v, rfl, hov, k3⟩
  have K3 : Kept w w3 := Kept.call (by repeat (first | exact Kept.refl _ | assumption | (refine Kept.alloc ?_ _) | (refine Kept.setCell ?_ (by first | omega | (simp; omega) | simp) _) | refine Kept.drew ?_ | refine Kept.drewN ?_ _ | (apply Kept.call; rotate_left; assumption))) k3
  have xo : w3.cell? ⟨w2.heap.size, 0, none⟩ = some (.int .i64 o) := k3.at_ (by go_simp)
  have K23 : Kept w2 w3 := Kept.call (by repeat (first | exact Kept.refl _ | assumption | (refine Kept.alloc ?_ _) | (refine Kept.setCell ?_ (by first | omega | (simp; omega) | simp) _) | refine Kept.drew ?_ | refine Kept.drewN ?_ _ | (apply Kept.call; rotate_left; assumption))) k3
  have HV := Lib.hid hov
  have hz3 := k3.size
  simp only [World.size_alloc] at hz3
  have HCAP : Hid (Cap w3 (w.heap.size + 1 + 1) w.heap.size (w.heap.size + 1) w2.heap.size C n3 c3 a f o ps) := ⟨K23.at_ xf, K23.at_ x2, K23.at_ xa, xo, HR.out.ps.keep K3⟩
  obtain ⟨A9, c9, rfl⟩ := own_slice hov
  clear hov
  go_wp2_with fail
  refine (delete_any (w.heap.size + 1 + 1) w.heap.size (w.heap.size + 1) w2.heap.size C n3 c3 a f o ps (w2.heap.size + 1) _ _ (nearOf ps a) _ HCAP.out ⟨by omega, by omega, by omega, by omega⟩ (fun b off e => by have := HPB.out b off e; omega) (by omega) (by have := HV.out; simp only [World.size_alloc] at this; exact this)).mono ?_
  rintro e w4 ⟨A2, c4, rfl, hia, kb, hfr⟩
  have HIA := Lib.hid hia
  have HFR : Hid (∀ b off, A2 = some ⟨b, off, none⟩ → w.heap.size ≤ b) := fun b off e => by have := hfr b off e; omega
  clear hfr
  have K4 : Kept w w4 := K3.call_below kb (by omega)
  clear hia
  go_wp2_with fail
  go_ret
  exact ⟨A2, c4, rfl, HIA.out, HFR.out, K4⟩
end Go.Proofs.Ytjmfdacokdffiaa
