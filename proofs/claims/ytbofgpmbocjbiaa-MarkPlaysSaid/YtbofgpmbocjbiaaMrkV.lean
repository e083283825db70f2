/- The document's drain: stop, Stops, Pick. -/
import Derived.Test.YtbofgpmbocjbiaaMrkU
import Derived.Test.YtbofgpmbocjbiaaTreeF
set_option linter.unusedSimpArgs false
set_option linter.unusedVariables false
namespace Go.Proofs.Ytbofgpmbocjbiaa
open Go.RowKit Go.Maps

set_option maxHeartbeats 2000000 in
theorem rnear_own (A : Option Addr) (n c : Nat) (p : List Int) (a : Int) (w : World) (hx : IntsAt w A n c p) :
    Calls Try.prog 16 #[.slice A n c, .int .i64 a] w (OwnIs (nearOf p a) w) := by
  obtain ⟨i0, hi, hz0, hz1, hz2⟩ := info_parts infoInt
  have HI := Lib.hid hi
  clear hi
  have HX := Lib.hid hx
  have hnn : n ≤ 9223372036854775807 := by have h1 := hx.2.1; have h2 := hx.2.2.1; unfold maxLen at h2; omega
  clear hx
  go_enter Try.func16, Try.ntmps16
  go_wp2_with fail
  refine (rthere A n c p a w HX.out).mono ?_
  rintro e w1 ⟨B, rfl, hB, k1⟩
  have HB := Lib.hid hB
  clear hB
  cases B
  · have hno : Hid (nearOf p a = []) := by
      unfold Hid nearOf
      rw [if_neg (fun h => by have := HB.out.2 (by rw [← HX.out.1]; exact h); cases this)]
    go_wp2_with fail
    go_loopw [5, 7] (fun ov iv wr => ov = .slice none 0 0 ∧ iv = .int .i64 0 ∧ Kept w wr) (fun _ _ _ => 0)
    case atStart => exact ⟨rfl, rfl, k1⟩
    case round =>
      obtain ⟨rfl, rfl, kr⟩ := hrel
      go_wp2_with fail
      all_goals go_ret
      all_goals exact ⟨.slice none 0 0, rfl, by rw [hno.out]; exact World.ownsRow_nil _ _ _ _, kr⟩
  · obtain ⟨ht, h0, h1⟩ := HB.out.1 rfl
    obtain ⟨y, rfl⟩ := Int.eq_ofNat_of_zero_le h0
    have hyn : y < n := by omega
    have n6 : n ≤ 6 := by have := ((tree_iff p).1 ht).2.1; rw [HX.out.1] at this; exact this
    have hyes : Hid (nearOf p (y : Int) = nearTo p y n) := by
      unfold Hid nearOf
      rw [if_pos ⟨ht, by omega, by rw [HX.out.1]; omega⟩, Int.toNat_natCast, HX.out.1]
    have HX5 := Lib.hid HX.out.2.2.2.2
    clear ht h0 h1
    go_wp2_with fail
    go_loopw [5, 7] (fun ov iv wr => ∃ (j l : Nat) (v : Value), ov = v ∧ j ≤ n ∧ iv = .int .i64 j ∧ (nearTo p y j).length = l ∧ wr.ownsRow w.heap.size 3 1 v l (natC (nearTo p y j)) ∧ Kept w wr) (fun _ iv _ => n - (intOf iv).toNat)
    case atStart => exact ⟨0, 0, _, rfl, by omega, rfl, rfl, World.ownsRow_nil _ _ _ _, k1⟩
    case round =>
      obtain ⟨j, l, v, rfl, hj, rfl, hl, ho, kr⟩ := hrel
      have hl6 : l ≤ j := by rw [← hl]; exact nearTo_len p y j
      have HL := Lib.hid hl
      have HO := Lib.hid ho
      clear hl ho
      by_cases hlt : j < n
      · obtain ⟨b, off, rfl, hc⟩ := HX5.out (by omega)
        have c1 : wr.cell? ⟨b, off + y, none⟩ = some (.int .i64 (pa p y)) := kr.at_ (hc y hyn)
        have c2 : wr.cell? ⟨b, off + j, none⟩ = some (.int .i64 (pa p j)) := kr.at_ (hc j hlt)
        have hol : Hid ((natC (nearTo p y j)).length = l * 1) := by unfold Hid; rw [natC_len, HL.out, Nat.mul_one]
        have hz : w.heap.size ≤ wr.heap.size := kr.size
        clear hc
        by_cases e1 : pa p y = j
        · have HNY : Hid (nearTo p y (j + 1) = nearTo p y j ++ [j]) := nearTo_yes (by simp [nearB, e1])
          have d1 : (pa p y == (j : Int)) = true := by simp [e1]
          clear e1
          go_wp2_with (at_builtin; refine wpList_append_own _ rfl _ _ 22 rfl w.heap.size 3 i0 (.int .i64 0) 1 8 Try.underlying22 HI.out hz0 hz1 hz2 rfl (by decide) _ l _ rfl (HO.out.alloc _) ⟨wr.heap.size, 0, none⟩ 1 1 [.int .i64 (j : Nat)] rfl rfl (cell_one_new _ _ _) (by simp [Value.oneCell']) (by unfold maxLen; omega) (by omega) (by simp; omega) ?_; intro v3 w3 hown3 hgrow3 _; have HL3 := HO.out.lt; have K3 : Kept w w3 := (kr.alloc _).grown hgrow3 (fun g hg => (HL3 g hg).1); rw [natC_snoc] at hown3; have HO3 := Lib.hid hown3; clear hown3)
          go_roundw
          case rel => exact ⟨j + 1, l + 1, _, rfl, by omega, by go_num, by rw [HNY.out, List.length_append, HL.out]; rfl, by rw [HNY.out]; exact HO3.out, K3⟩
          case measure => simp [intOf]; omega
        · have d1 : (pa p y == (j : Int)) = false := by simp [e1]
          by_cases e2 : pa p j = y
          · have HNY : Hid (nearTo p y (j + 1) = nearTo p y j ++ [j]) := nearTo_yes (by simp [nearB, e2])
            have d2 : (pa p j == (y : Int)) = true := by simp [e2]
            clear e1 e2
            go_wp2_with (at_builtin; refine wpList_append_own _ rfl _ _ 22 rfl w.heap.size 3 i0 (.int .i64 0) 1 8 Try.underlying22 HI.out hz0 hz1 hz2 rfl (by decide) _ l _ rfl (HO.out.alloc _) ⟨wr.heap.size, 0, none⟩ 1 1 [.int .i64 (j : Nat)] rfl rfl (cell_one_new _ _ _) (by simp [Value.oneCell']) (by unfold maxLen; omega) (by omega) (by simp; omega) ?_; intro v3 w3 hown3 hgrow3 _; have HL3 := HO.out.lt; have K3 : Kept w w3 := (kr.alloc _).grown hgrow3 (fun g hg => (HL3 g hg).1); rw [natC_snoc] at hown3; have HO3 := Lib.hid hown3; clear hown3)
            go_roundw
            case rel => exact ⟨j + 1, l + 1, _, rfl, by omega, by go_num, by rw [HNY.out, List.length_append, HL.out]; rfl, by rw [HNY.out]; exact HO3.out, K3⟩
            case measure => simp [intOf]; omega
          · have HNN : Hid (nearTo p y (j + 1) = nearTo p y j) := nearTo_no (by simp [nearB, e1, e2])
            have d2 : (pa p j == (y : Int)) = false := by simp [e2]
            clear e1 e2
            go_wp2_with fail
            go_roundw
            case rel => exact ⟨j + 1, l, _, rfl, by omega, by go_num, by rw [HNN.out]; exact HL.out, by rw [HNN.out]; exact HO.out, kr⟩
            case measure => simp [intOf]; omega
      · obtain rfl : j = n := by omega
        go_wp2_with fail
        go_ret
        exact ⟨_, rfl, by rw [hyes.out, HL.out]; exact HO.out, kr⟩

/-- Where the loop of stop stands. -/
structure SL (w0 : World) (X : List Nat) (w : World) (B : Nat) (wr : World) (R : Nat) (ps : List Int) (st : DSt) (gl m c : Nat) (l : List Int) (X' : List Nat) : Prop where
  rd : RdIn w0 X' wr R ps st
  bt : But X w wr
  sub : ∀ x ∈ X, x ∈ X'
  new : ∀ x ∈ X', x ∈ X ∨ B ≤ x
  hB : w.heap.size ≤ B ∧ B ≤ wr.heap.size
  row : IntsAt wr (some ⟨gl, 0, none⟩) m c l
  out : gl ∉ X ∧ gl < B
  k0 : Kept w0 wr
theorem SL.step {w0 w wr w2 : World} {X X' : List Nat} {B R gl m c : Nat} {ps l : List Int} {st st2 : DSt} (h : SL w0 X w B wr R ps st gl m c l X') (k : RdTo w0 X' wr w2 R ps st2) : ∃ X2, SL w0 X w B w2 R ps st2 gl m c l X2 := by
  obtain ⟨X2, k1, k2, k3, k4⟩ := k
  have hz := k2.size
  have hB := h.hB
  refine ⟨X2, k1, ⟨k2.os.trans h.bt.os, k2.tape.trans h.bt.tape, k2.output.trans h.bt.output, Nat.le_trans h.bt.size k2.size, fun i hi hn => ?_⟩, fun x hx => k3 x (h.sub x hx), fun x hx => ?_, ⟨hB.1, by omega⟩, h.row.but1 k2 (fun hm => ?_), h.out, h.k0.but k2 h.rd.ge⟩
  · have hn1 : i ∉ X' := fun hm => by
      rcases h.new i hm with g | g
      · exact hn g
      · omega
    exact (k2.block i (by omega) hn1).trans (h.bt.block i hi hn)
  · rcases k4 x hx with g | g
    · exact h.new x g
    · exact .inr (by omega)
  · rcases h.new gl hm with g | g
    · exact h.out.1 g
    · have := h.out.2; omega
theorem SL.to {w0 w wr : World} {X X' : List Nat} {B R gl m c : Nat} {ps l : List Int} {st : DSt} (h : SL w0 X w B wr R ps st gl m c l X') : RdTo w0 X w wr R ps st :=
  ⟨X', h.rd, h.bt, h.sub, fun x hx => (h.new x hx).imp id (fun g => Nat.le_trans h.hB.1 g)⟩

set_option maxRecDepth 20000 in
set_option maxHeartbeats 4000000 in
theorem rstop (w0 : World) (X : List Nat) (R : Nat) (ps : List Int) (st : DSt) (a : Nat) (w : World) (h : RdIn w0 X w R ps st) (h0 : Kept w0 w) (ha : a < ps.length) (hl : ∀ p, (st.W p).length ≤ 900) (hk : st.k ≤ 1000000) :
    Calls Try.prog 34 #[.pointer (some ⟨R, 0, none⟩), .int .i64 a] w fun e w' => e = .returned (.tuple #[]) ∧ RdTo w0 X w w' R ps (stopI (st.stop (a : Int)) (a : Int) (nearOf ps (a : Int))) := by
  have HD := Lib.hid h
  have ht := (rbd h).1
  have h6 := (rbd h).2.2
  have ha6 : a < 6 := by omega
  obtain ⟨g, n, c, V, G, h⟩ := h
  have HH := Lib.hid h
  have cs := h.cS a ha6
  have c0 := h.c0
  have hfr := h.frz (37 + a)
  have hRl := (h.lX R h.rX).2
  obtain ⟨l, hnl⟩ : ∃ l, nearOf ps (a : Int) = l := ⟨_, rfl⟩
  have hl6 := near_len ht (a : Int)
  rw [hnl] at hl6 ⊢
  have HNL := Lib.hid hnl
  have hy6 : ∀ y ∈ l, y < 6 := fun y hy => by have := near_six ht (a := (a : Int)) (y := y) (by rw [hnl]; exact hy); omega
  have HY6 := Lib.hid hy6
  have HLW := Lib.hid hl
  have HK := Lib.hid hk
  have ST := Lib.hid (h.stopF ha6)
  obtain ⟨i0, hi, hz0, hz1, hz2⟩ := info_parts infoTg
  have HI := Lib.hid hi
  obtain ⟨bs, hbs⟩ : ∃ bs, st.S (a : Int) = bs := ⟨_, rfl⟩
  rw [hbs] at cs
  clear h ht h6 hnl hy6 hl hk hi hbs
  go_enter Try.func34, Try.ntmps34
  go_wp2_with fail
  have HB1 : Hid (But X w (w.setCell ⟨R, 37 + a, none⟩ (.bool true))) := (But.refl _ _).setCell (.inl HH.out.rX) _
  have HR1 : Hid (RdIn w0 X (w.setCell ⟨R, 37 + a, none⟩ (.bool true)) R ps (st.stop (a : Int))) := ⟨_, _, _, _, _, ST.out⟩
  have HP1 : Hid (IntsAt (w.setCell ⟨R, 37 + a, none⟩ (.bool true)) (some ⟨g, 0, none⟩) n c ps) := HH.out.par.but1 ((But.refl _ _).setCell (S := [R]) (.inl (by simp)) _) (by have := HH.out.gP; have := (HH.out.lX R HH.out.rX).1; simp only [List.mem_singleton]; omega)
  have hzW1 : w.heap.size ≤ (w.setCell ⟨R, 37 + a, none⟩ (.bool true)).heap.size := HB1.out.size
  have K1 : Hid (Kept w0 (w.setCell ⟨R, 37 + a, none⟩ (.bool true))) := h0.but HB1.out HD.out.ge
  clear ST cs c0 hfr
  generalize w.setCell ⟨R, 37 + a, none⟩ (.bool true) = W1 at *
  refine (rnear_own _ n c ps (a : Int) _ HP1.out).mono ?_
  rintro e w3 ⟨v, rfl, ho, k3⟩
  rw [HNL.out] at ho
  have HO := Lib.hid ho
  have HK3 := Lib.hid k3
  obtain ⟨A3, c3, rfl⟩ := own_slice ho
  clear ho
  rcases Nat.eq_zero_or_pos l.length with hz | hz
  · have hln : l = [] := List.eq_nil_of_length_eq_zero hz
    subst hln
    clear hz
    (try simp only [List.length_nil])
    go_wp2_with fail
    go_rounds 1
    go_end0
    exact ⟨rfl, X, HR1.out.keep HK3.out, HB1.out.trans (.of_kept HK3.out), fun _ h => h, fun _ h => .inl h⟩
  · obtain ⟨m, hm⟩ : ∃ m, l.length = m := ⟨_, rfl⟩
    have HM := Lib.hid hm
    obtain ⟨gl, c4, hv, hg1, hg2⟩ := own_some HO.out hz
    injection hv with hv1 _ hv2
    subst hv1 hv2
    obtain ⟨A5, c5, hv, hia⟩ := IntsAt.of_own HO.out
    injection hv with hv1 _ hv2
    subst hv1 hv2
    rw [hm] at hia hz hl6 ⊢
    have hmc := hia.2.1
    have hmx := hia.2.2.1
    unfold maxLen at hmx
    have HSL : Hid (SL w0 X w w3.heap.size w3 R ps (st.stop (a : Int)) gl m c3 (ints l) X) :=
      ⟨HR1.out.keep HK3.out, HB1.out.trans (.of_kept HK3.out), fun _ h => h, fun _ h => .inl h, ⟨by have := HK3.out.size; omega, Nat.le_refl _⟩, hia, ⟨fun hx => by have := HD.out.lt gl hx; omega, hg2⟩, K1.out.call HK3.out⟩
    clear hia hm HO hz
    go_wp2_with fail
    go_loopw [5] (fun iv wr => ∃ i : Nat, i ≤ m ∧ iv = .int .i64 i ∧ Hid (∃ X', SL w0 X w w3.heap.size wr R ps (stopI (st.stop (a : Int)) (a : Int) (l.take i)) gl m c3 (ints l) X')) (fun iv _ => m - (intOf iv).toNat)
    case atStart => exact ⟨0, by omega, rfl, X, HSL.out⟩
    case round =>
      clear HSL HR1 HB1 HP1 K1
      obtain ⟨i, hi, rfl, HS⟩ := hrel
      by_cases him : i < m
      · have e1 : decide ((i : Int) < m) = true := by simp; omega
        have hil : i < l.length := by rw [HM.out]; exact him
        obtain ⟨y, hy⟩ : ∃ y, l[i]? = some y := ⟨_, List.getElem?_eq_getElem hil⟩
        have hy6 : y < 6 := HY6.out y (List.mem_of_getElem? hy)
        obtain ⟨X2, hs2⟩ := HS.out
        have HS2 := Lib.hid hs2
        have cy : wr.cell? ⟨gl, i, none⟩ = some (.int .i64 (y : Nat)) := by
          obtain ⟨b', off, e', hc⟩ := hs2.row.2.2.2.2 (by omega)
          injection e' with e'
          injection e' with e1 e2
          subst e1 e2
          have := hc i him
          rw [Nat.zero_add, ints_get hy] at this
          exact this
        have htk : l.take (i + 1) = l.take i ++ [y] := by rw [List.take_add_one, hy]; rfl
        have HTK := Lib.hid htk
        obtain ⟨lt, hlt⟩ : ∃ lt, l.take i = lt := ⟨_, rfl⟩
        have hltl : lt.length ≤ 6 := by rw [← hlt, List.length_take]; omega
        rw [hlt] at HS2 HTK
        obtain ⟨st2, hst2⟩ : ∃ st2, stopI (st.stop (a : Int)) (a : Int) lt = st2 := ⟨_, rfl⟩
        have HST := Lib.hid hst2
        rw [hst2] at HS2
        have hw2 : (st2.W ((a : Int), (y : Int))).length ≤ 1000 := by
          rw [← hst2]
          have h1 := stopI_len (a : Int) lt (st.stop (a : Int)) ((a : Int), (y : Int))
          have h2 : ((st.stop (a : Int)).W ((a : Int), (y : Int))).length ≤ 900 := HLW.out _
          omega
        have hk2 : st2.k ≤ 2000000 := by
          rw [← hst2, stopI_k]
          show st.k + _ ≤ _
          have := HK.out
          omega
        clear hs2 hy htk hlt hst2 HS
        obtain ⟨g2, n2, d2, V2, G2, h⟩ := HS2.out.rd
        have HH := Lib.hid h
        have h0 := HS2.out.k0
        have H0 := Lib.hid h0
        have cw := h.cW a y ha6 hy6
        have hRl := (h.lX R h.rX).2
        have HO := Lib.hid (h.ways a y ha6 hy6)
        have hRG : R ∉ (G2 a y).toList := fun hx => (h.gX a y R (by simpa using hx)).2 rfl
        have hglG : gl ∉ (G2 a y).toList := fun hx => by
          rcases HS2.out.new gl (h.gX a y gl (by simpa using hx)).1 with g | g
          · exact HS2.out.out.1 g
          · have := HS2.out.out.2; omega
        have hfr := h.frz (1 + a * 6 + y)
        obtain ⟨A0, cp, hv⟩ := (h.ways a y ha6 hy6).form
        have hxl := tgC_len (st2.W ((a : Int), (y : Int)))
        rw [hv] at cw HO
        obtain ⟨L, hL⟩ : ∃ L, (st2.W ((a : Int), (y : Int))).length = L := ⟨_, rfl⟩
        have HLL := Lib.hid hL
        obtain ⟨Gp, hGp⟩ : ∃ Gp, G2 a y = Gp := ⟨_, rfl⟩
        have HGP := Lib.hid hGp
        obtain ⟨xs, hxs⟩ : ∃ xs, tgC (st2.W ((a : Int), (y : Int))) = xs := ⟨_, rfl⟩
        have HXS := Lib.hid hxs
        rw [hxs, hL] at hxl
        rw [hL, hGp, hxs] at HO
        rw [hL] at cw hw2
        rw [hGp] at hRG hglG
        have HXL := Lib.hid hxl
        have hglw : gl < wr.heap.size := World.block_lt_of_cell? wr _ cy
        clear h h0 hv hL hxs hxl hGp
        go_wp2_with fail
        refine wp_region_dw (keepsBut ((Gp.toList))) [0, 1, 2, 3, 4, 5, 6, 7, 8, 9, 10, 11, 12, 13, 14, 15, 16, 17, 20, 21, 22, 18, 19, 23, 24] (fun wB => But ((Gp.toList)) wr wB ∧ wB.cell? ⟨R, 1 + a * 6 + y, none⟩ = some (.slice A0 L cp) ∧ wB.cell? ⟨gl, i, none⟩ = some (.int .i64 (y : Nat)) ∧ Hid (OpenK wB Gp (.slice A0 L cp) L 2 xs)) ?_ (by kernel_rfl) (by kernel_rfl) _ (by (try simp only [List.append_eq, List.cons_append, List.nil_append, List.toList_toArray]); exact rfl) ?_
        · exact ⟨by repeat (first | exact But.refl _ _ | assumption | (refine But.alloc ?_ _) | (refine But.setCell ?_ (by first | (right; omega) | (right; simp; omega) | (left; simp)) _) | refine But.drew ?_ | refine But.drewN ?_ _ | (apply But.trans; rotate_left; assumption)), by first | assumption | go_simp, by first | assumption | go_simp, by first | assumption | skip⟩
        rintro wB ⟨hkB, sB1, sB2, HX⟩
        simp only [List.map_cons, List.map_nil, List.toList_toArray, List.getElem?_cons_zero, List.getElem?_cons_succ, Option.getD_some]
        iterate 23 (first | (apply DW.det; (focus (intro wd hI; have hkd := hkB.trans hI; have td1 := hI.at_ sB1 (by assumption); have td2 := hI.at_ sB2 (by assumption); go_wp2_with (fail); refine StepPost.mk _ rfl ⟨rfl, ?_⟩; repeat (first | exact Kept.refl _ | assumption | (refine Kept.alloc ?_ _) | (refine Kept.setCell ?_ (by first | omega | (simp; omega) | simp) _) | refine Kept.drew ?_ | refine Kept.drewN ?_ _ | (apply Kept.call; rotate_left; assumption)))); simp only [Act.put, List.setIfInBounds_toArray, List.set_cons_succ, List.set_cons_zero]) | (refine DW.loud (by kernel_rfl) ?_; intro wd hI; have hkd := hkB.trans (But.of_kept hI); have td1 := hI.at_ sB1; have td2 := hI.at_ sB2; go_wp2_with (at_builtin; (refine append_openM _ rfl _ _ 43 rfl 51 i0 (.agg #[.string ⟨#[]⟩, .bool false]) 2 24 Try.underlying43 HI.out hz0 hz1 hz2 rfl (by omega) Gp _ L 1 xs (HX.out.kept hI) HXL.out rfl _ 1 [.string ⟨#[]⟩, .bool true] rfl rfl (new_cell2 hI) (tgC_one none) (by unfold maxLen; omega) (by omega) ?_); intro v6 w6 G6 C0 O6 hG6; have hG6 : (G6 = Gp ∨ ∃ g, G6 = some g ∧ wr.heap.size ≤ g ∧ g < w6.heap.size) := hG6.imp id (fun ⟨g, h, h3, h4⟩ => ⟨g, h, Nat.le_trans hkd.size h3, h4⟩)); refine StepPost.loud _ rfl (by repeat (first | exact But.refl _ _ | assumption | (refine But.alloc ?_ _) | (refine But.setCell ?_ (by first | (right; omega) | (right; simp; omega) | (left; simp)) _) | refine But.drew ?_ | refine But.drewN ?_ _ | (apply But.trans; rotate_left; assumption))) (fun hkL => ?_); have hkL2 := (But.of_kept (S := (Gp.toList)) hI).trans hkL; have hkB := hkB.trans hkL2; have sB1 := hkL2.at_ sB1 (by assumption); have sB2 := hkL2.at_ sB2 (by assumption); (first | have HX := Lib.hid (HX.out.kept (Kept.call hI (Kept.as1 hkL))) | have HX := Lib.hid (HX.out.kept (Kept.call hI (Kept.as0 hkL))) | skip); simp only [Act.put, List.setIfInBounds_toArray, List.set_cons_succ, List.set_cons_zero]))
        refine DW.tail (by kernel_rfl) ?_
        intro wd hI
        have hkd := hkB.trans (But.of_kept hI); have td1 := hI.at_ sB1; have td2 := hI.at_ sB2
        obtain ⟨A6, cp6, hv6⟩ := O6.form
        subst hv6
        have y2 : wd.frozen? ⟨R, 1 + a * 6 + y, none⟩ = false := by rw [hkd.frozen (p := ⟨R, 1 + a * 6 + y, none⟩) hRl hRG]; exact hfr
        have HO6 := Lib.hid (O6.kept hI)
        have HG6 := Lib.hid hG6
        have HKD := Lib.hid hkd
        have hRd : R < wd.heap.size := World.block_lt_of_cell? wd _ td1
        have FIN : RdTo w0 X2 wr (wd.setCell ⟨R, 1 + a * 6 + y, none⟩ (.slice A6 (L + 1) cp6)) R ps (st2.setW ((a : Int), (y : Int)) (st2.W ((a : Int), (y : Int)) ++ [none])) := by
          refine HH.out.wayTo H0.out ha6 hy6 (G6 := G6) (by rw [HGP.out]; exact HKD.out) ?_ ?_
          · have e1 : (st2.W ((a : Int), (y : Int)) ++ [none]).length = L + 1 := by rw [List.length_append, HLL.out]; rfl
            have e2 : tgC (st2.W ((a : Int), (y : Int)) ++ [none]) = xs ++ [.string ⟨#[]⟩, .bool true] := by rw [tgC_app, HXS.out]; rfl
            rw [e1, e2]
            exact HO6.out
          · rw [HGP.out]
            exact HG6.out.imp id (fun ⟨g, h, h3, h4⟩ => ⟨g, h, h3, Nat.lt_of_lt_of_le h4 hI.size⟩)
        obtain ⟨X5, hs5⟩ := HS2.out.step FIN
        obtain ⟨g5, n5, d5, V5, G5, h5⟩ := hs5.rd
        have HS5 := Lib.hid hs5
        have H5 := Lib.hid h5
        have c79 := hkd.at_ HH.out.cK hRG
        have f79 : wd.frozen? ⟨R, 79, none⟩ = false := by rw [hkd.frozen (p := ⟨R, 79, none⟩) hRl hRG]; exact HH.out.frz 79
        have HST3 : Hid (stopI (st.stop (a : Int)) (a : Int) (l.take (i + 1)) = (st2.setW ((a : Int), (y : Int)) (st2.W ((a : Int), (y : Int)) ++ [none])).mark) := by unfold Hid; rw [HTK.out, stopI_snoc, HST.out]
        have HKK : Hid (((st2.setW ((a : Int), (y : Int)) (st2.W ((a : Int), (y : Int)) ++ [none])).k : Int) = (st2.k : Int)) := rfl
        clear O6 hG6 hkd FIN hs5 h5 td2
        go_wp2_with fail
        have hmk := H5.out.markTo
        rw [HKK.out] at hmk
        have hN := HS5.out.step hmk
        rw [← HST3.out] at hN
        have HN := Lib.hid hN
        clear hmk hN
        go_roundw
        case rel => first | exact ⟨i + 1, by omega, by go_num, HN⟩ | ((repeat apply Exists.intro); exact ⟨⟨i + 1, by omega, by go_num, HN⟩, rfl⟩)
        case measure => simp [intOf]; omega
      · obtain rfl : i = m := by omega
        have e1 : decide ((i : Int) < i) = false := by simp
        have htk : l.take i = l := List.take_of_length_le (by rw [HM.out]; omega)
        rw [htk] at HS
        clear htk
        go_wp2_with fail
        go_end0
        obtain ⟨X9, h9⟩ := HS.out
        exact ⟨rfl, h9.to⟩
end Go.Proofs.Ytbofgpmbocjbiaa
