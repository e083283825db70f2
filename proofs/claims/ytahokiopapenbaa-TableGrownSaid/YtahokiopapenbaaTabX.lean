/- The laws' made: a row by numbers. -/
import Derived.Test.YtahokiopapenbaaTabW
import Derived.Laws.BytesArg
set_option linter.unusedSimpArgs false
set_option linter.unusedVariables false
namespace Go.Proofs.Ytahokiopapenbaa
open Go.RowKit

/-- The ranges that have an end. -/
def pre (es : List Nat) : List Rg := (List.range es.length).map fun i => (fr es i, to es i)
theorem pre_len (es : List Nat) : (pre es).length = es.length := by simp [pre]
theorem g_app (es : List Nat) (e : Nat) {i : Nat} (hi : i < es.length) : g (es ++ [e]) i = g es i := by unfold g; rw [List.getElem?_append_left hi]
theorem g_last (es : List Nat) (e : Nat) : g (es ++ [e]) es.length = e := by simp [g]
theorem fr_app (es : List Nat) (e : Nat) {i : Nat} (hi : i ≤ es.length) : fr (es ++ [e]) i = fr es i := by
  unfold fr
  split
  · rfl
  · rw [g_app es e (by omega)]
theorem pre_snoc (es : List Nat) (e : Nat) : pre (es ++ [e]) = pre es ++ [(fr es es.length, ch e)] := by
  unfold pre
  rw [List.length_append, List.length_singleton, List.range_succ, List.map_append]
  congr 1
  · refine List.map_congr_left fun i hi => ?_
    have hi := List.mem_range.1 hi
    unfold to
    rw [fr_app es e (by omega), List.length_append, if_pos hi, if_pos (by simp; omega), g_app es e hi]
  · unfold to
    simp [fr_app, g_last]
theorem rgs_pre (es : List Nat) : rgs es = pre es ++ [(fr es es.length, nil)] := by
  unfold rgs pre
  rw [List.range_succ, List.map_append]
  simp [to_last]
theorem fr_end (es : List Nat) (e : Nat) : fr (es ++ [e]) (es ++ [e]).length = ch e := by
  unfold fr
  rw [if_neg (by simp), List.length_append, List.length_singleton, Nat.add_sub_cancel, g_last]
theorem Up.snoc {es : List Nat} (h : Up es) {e : Nat} (h6 : es.length < 6) (h1 : 97 ≤ e) (h2 : e ≤ 122) (hl : hv (fr es es.length) < e) : Up (es ++ [e]) := by
  refine ⟨by simp; omega, fun i hi => ?_, fun i j hij hj => ?_⟩
  · rcases Nat.lt_or_ge i es.length with g1 | g1
    · rw [g_app es e g1]; exact h.rng i g1
    · obtain rfl : i = es.length := by simp at hi; omega
      rw [g_last]; omega
  · rcases Nat.lt_or_ge j es.length with g1 | g1
    · rw [g_app es e g1, g_app es e (by omega)]; exact h.up i j hij g1
    · obtain rfl : j = es.length := by simp at hj; omega
      rw [g_last, g_app es e hij]
      have hr := h.rng (es.length - 1) (by omega)
      unfold fr at hl
      rw [if_neg (by omega), hv_ch (by omega)] at hl
      rcases Nat.lt_or_ge i (es.length - 1) with g2 | g2
      · have := h.up i (es.length - 1) g2 (by omega)
        omega
      · rw [show i = es.length - 1 by omega]; omega
theorem cmp_lo {es : List Nat} (hu : Up es) {c : Nat} (hc : c < 128) (h : hv (fr es es.length) < c) : Op.bytesLess (ch c).toList (fr es es.length).toList = false ∧ ((ch c).toList == (fr es es.length).toList) = false := by
  unfold fr at h ⊢
  split
  · rw [less_nil, ch_toList, nil_toList]; exact ⟨rfl, rfl⟩
  · rename_i h0
    rw [if_neg h0] at h
    have hr := hu.rng (es.length - 1) (by omega)
    rw [hv_ch (by omega)] at h
    rw [less_ch _ (by omega), hv_ch (by omega), ch_toList, ch_toList]
    refine ⟨by simp; omega, ?_⟩
    rw [Bool.eq_false_iff]
    intro e
    have e2 : UInt8.ofNat c = UInt8.ofNat (g es (es.length - 1)) := by simpa using e
    have := congrArg UInt8.toNat e2
    simp at this
    omega
theorem cmp_hi {es : List Nat} (hu : Up es) {c : Nat} (h1 : 97 ≤ c) (hc : c < 128) (h : (c : Int) ≤ hv (fr es es.length)) : Op.bytesLess (ch c).toList (fr es es.length).toList = true ∨ (Op.bytesLess (ch c).toList (fr es es.length).toList = false ∧ ((ch c).toList == (fr es es.length).toList) = true) := by
  unfold fr at h ⊢
  split
  · rename_i h0
    rw [if_pos h0, hv_nil] at h
    omega
  · rename_i h0
    rw [if_neg h0] at h
    have hr := hu.rng (es.length - 1) (by omega)
    rw [hv_ch (by omega)] at h
    rw [less_ch _ (by omega), hv_ch (by omega), ch_toList, ch_toList]
    by_cases e : c = g es (es.length - 1)
    · right
      rw [← e]
      simp
    · left
      simp
      omega
theorem up_nil : Up [] := ⟨by simp, fun i hi => by simp at hi, fun i j _ hj => by simp at hj⟩
/-- A row in the making: its three fields. -/
structure QSt (W : World) (Q : Nat) (w : World) (x y z : Value) : Prop where
  but : But [Q] W w
  c0 : w.cell? ⟨Q, 0, none⟩ = some x
  c1 : w.cell? ⟨Q, 1, none⟩ = some y
  c2 : w.cell? ⟨Q, 2, none⟩ = some z
  frz : ∀ i, w.frozen? ⟨Q, i, none⟩ = false
theorem QSt.keep {W w w2 : World} {Q : Nat} {x y z : Value} (h : QSt W Q w x y z) (hk : Kept w w2) : QSt W Q w2 x y z :=
  ⟨h.but.trans (But.of_kept hk), hk.at_ h.c0, hk.at_ h.c1, hk.at_ h.c2, fun i => by rw [hk.frozen Q i (World.block_lt_of_cell? w _ h.c0)]; exact h.frz i⟩
theorem QSt.grown {W w w3 : World} {Q : Nat} {x y z : Value} {row : Option Nat} (h : QSt W Q w x y z) (hQ : Q < W.heap.size) (hg : w.grownBy w3 row) (hr : ∀ g, row = some g → W.heap.size ≤ g) : QSt W Q w3 x y z := by
  have hne : some Q ≠ row := fun e => by have := hr Q e.symm; omega
  have hb : w3.heap[Q]? = w.heap[Q]? := hg.block Q (World.block_lt_of_cell? w _ h.c0) hne
  exact ⟨h.but.grown hg (fun g e => .inr (hr g e)), hg.cell h.c0 hne, hg.cell h.c1 hne, hg.cell h.c2 hne, fun i => by rw [World.frozen?_of_block (w := w) hb]; exact h.frz i⟩
theorem QSt.set0 {W w : World} {Q : Nat} {x y z : Value} (h : QSt W Q w x y z) (v : Value) : QSt W Q (w.setCell ⟨Q, 0, none⟩ v) v y z :=
  ⟨h.but.setCell (.inl (by simp)) v, World.cell?_setCell_same _ _ _ h.c0, (World.cell?_setCell_other _ _ _ _ (by simp)).trans h.c1, (World.cell?_setCell_other _ _ _ _ (by simp)).trans h.c2, fun i => by rw [World.frozen?_setCell]; exact h.frz i⟩
theorem QSt.set1 {W w : World} {Q : Nat} {x y z : Value} (h : QSt W Q w x y z) (v : Value) : QSt W Q (w.setCell ⟨Q, 1, none⟩ v) x v z :=
  ⟨h.but.setCell (.inl (by simp)) v, (World.cell?_setCell_other _ _ _ _ (by simp)).trans h.c0, World.cell?_setCell_same _ _ _ h.c1, (World.cell?_setCell_other _ _ _ _ (by simp)).trans h.c2, fun i => by rw [World.frozen?_setCell]; exact h.frz i⟩
theorem QSt.set2 {W w : World} {Q : Nat} {x y z : Value} (h : QSt W Q w x y z) (v : Value) : QSt W Q (w.setCell ⟨Q, 2, none⟩ v) x y v :=
  ⟨h.but.setCell (.inl (by simp)) v, (World.cell?_setCell_other _ _ _ _ (by simp)).trans h.c0, (World.cell?_setCell_other _ _ _ _ (by simp)).trans h.c1, World.cell?_setCell_same _ _ _ h.c2, fun i => by rw [World.frozen?_setCell]; exact h.frz i⟩
theorem QSt.again {W w : World} {Q : Nat} {x y z : Value} (h : QSt W Q w x y z) : QSt w Q w x y z := ⟨But.refl _ _, h.c0, h.c1, h.c2, h.frz⟩
theorem QSt.move {W w : World} {Q R : Nat} {x y z : Value} (h : QSt W R W x y z) (hb : But [Q] W w) (hn : R ≠ Q) : QSt w R w x y z :=
  ⟨But.refl _ _, hb.at_ h.c0 (by simpa using hn), hb.at_ h.c1 (by simpa using hn), hb.at_ h.c2 (by simpa using hn), fun i => by rw [hb.frozen (p := ⟨R, i, none⟩) (show R < W.heap.size from World.block_lt_of_cell? W _ h.c0) (by simpa using hn)]; exact h.frz i⟩
theorem QSt.under {W w : World} {Q : Nat} {x y z : Value} (h : QSt W Q w x y z) : Q < w.heap.size := World.block_lt_of_cell? w _ h.c0
theorem conv_ch (w : World) (r : Nat) :
    (convert 60 9 (.slice (some ⟨w.heap.size, 0, none⟩) 1 1)).run Try.prog (w.alloc (.cells #[.int .u8 (97 + (r : Int))] 5)) = .ok (.string (ch (97 + r))) (w.alloc (.cells #[.int .u8 (97 + (r : Int))] 5)) := by
  have h := run_convert_bytes_arg (w.alloc (.cells #[.int .u8 (97 + (r : Int))] 5)) 60 5 Try.underlying60 (by kernel_rfl) w.heap.size 0 1 1 [97 + (r : Int)] rfl (fun i hi => by
    obtain rfl : i = 0 := by omega
    have hg : (w.alloc (.cells #[.int .u8 (97 + (r : Int))] 5)).heap[w.heap.size]? = some (.cells #[.int .u8 (97 + (r : Int))] 5) := heap_alloc_new _ _
    rw [cell_of_row _ _ 0 _ _ (0, 0) hg]
    rfl) 9 (by kernel_rfl)
  have e : ch (97 + r) = ⟨#[UInt8.ofNat (97 + (r : Int)).toNat]⟩ := by unfold ch; rw [show (97 + (r : Int)).toNat = 97 + r by omega]
  rw [e]
  exact h
theorem cells_two2 (w : World) (o : Obj) (a b : Value) (t : TypeId) : ∀ (j : Nat) (u : Value), [a, b][j]? = some u → ((w.alloc o).alloc (.cells #[a, b] t)).cell? ((⟨w.heap.size + 1, 0, none⟩ : Addr).add j) = some u := by
  have h := cells_two (w.alloc o) a b t
  simpa only [World.size_alloc] using h
def psTo (j : Nat) : List Int := (List.range j).map fun s : Nat => (s : Int) - 1
theorem psTo_succ (j : Nat) : intC (psTo j) ++ [.int .i64 ((j : Int) - 1)] = intC (psTo (j + 1)) := by simp [psTo, intC, List.range_succ]
theorem psTo_len (j : Nat) : (intC (psTo j)).length = j := by simp [psTo, intC]
theorem IntsAt.but {S : List Nat} {w w2 : World} {b off n c : Nat} {xs : List Int} (h : IntsAt w (some ⟨b, off, none⟩) n c xs) (hb : But S w w2) (hn : b ∉ S) : IntsAt w2 (some ⟨b, off, none⟩) n c xs := by
  obtain ⟨h1, h2, h3, h4, h5⟩ := h
  refine ⟨h1, h2, h3, h4, fun h0 => ?_⟩
  obtain ⟨b2, off2, e, hc⟩ := h5 h0
  cases e
  exact ⟨_, _, rfl, fun i hi => hb.at_ (hc i hi) hn⟩
theorem RowS.but {S : List Nat} {w w2 : World} {b off n c : Nat} {rs : List Rg} (h : RowS w (some ⟨b, off, none⟩) n c rs) (hb : But S w w2) (hn : b ∉ S) : RowS w2 (some ⟨b, off, none⟩) n c rs := by
  obtain ⟨h1, h2, h3, h4, h5⟩ := h
  refine ⟨h1, h2, h3, h4, fun h0 => ?_⟩
  obtain ⟨b2, off2, e, hc⟩ := h5 h0
  cases e
  exact ⟨_, _, rfl, fun i hi => ⟨hb.at_ (hc i hi).1 hn, hb.at_ (hc i hi).2 hn⟩⟩
/-- A row that fits is told, all of it new. -/
def MadeRow (w : World) (e : Ending) (w' : World) : Prop := ∃ (a1 b1 c1 : Nat) (n1 d1 n2 d2 n3 d3 : Nat) (es : List Nat) (os ps : List Int), e = .returned (.agg #[.slice (some ⟨a1, 0, none⟩) n1 d1, .slice (some ⟨b1, 0, none⟩) n2 d2, .slice (some ⟨c1, 0, none⟩) n3 d3]) ∧ (w.heap.size ≤ a1 ∧ w.heap.size ≤ b1 ∧ w.heap.size ≤ c1) ∧ RowW w' (some ⟨a1, 0, none⟩) n1 d1 (some ⟨b1, 0, none⟩) n2 d2 (some ⟨c1, 0, none⟩) n3 d3 (rgs es) os ps ∧ Fit es os n3 ∧ Kept w w'
set_option maxHeartbeats 8000000 in
theorem made_any (A B : Option Addr) (m c m2 c2 : Nat) (xs ys : List Int) (s : Int) (w : World) (hx : IntsAt w A m c xs) (hy : IntsAt w B m2 c2 ys) :
    Calls Try.prog 30 #[.slice A m c, .slice B m2 c2, .int .i64 s] w (MadeRow w) := by
  obtain ⟨i0, hi, hz0, hz1, hz2⟩ := info_parts infoInt
  obtain ⟨j0, hj, hy0, hy1, hy2⟩ := info_parts infoRg
  have HI := Lib.hid hi
  have HJ := Lib.hid hj
  have HX := Lib.hid hx
  have HY := Lib.hid hy
  have hm : m ≤ c ∧ c ≤ 9223372036854775807 := by have h1 := hx.2.1; have h2 := hx.2.2.1; unfold maxLen at h2; omega
  have hm2 : m2 ≤ c2 ∧ c2 ≤ 9223372036854775807 := by have h1 := hy.2.1; have h2 := hy.2.2.1; unfold maxLen at h2; omega
  clear hx hy hi hj
  have hs0 := tmod_bd s 6 (by omega)
  obtain ⟨N, hN, hN5⟩ : ∃ N : Nat, (s.tmod 6 + 6).tmod 6 = N ∧ N ≤ 5 := by
    have h2 := Int.tmod_nonneg (6 : Int) (show 0 ≤ s.tmod 6 + 6 by omega)
    have h3 := Int.tmod_lt_of_pos (s.tmod 6 + 6) (show 0 < (6 : Int) by omega)
    exact ⟨((s.tmod 6 + 6).tmod 6).toNat, by omega, by omega⟩
  go_enter Try.func30, Try.ntmps30
  go_wp2_with fail
  have hQ0 := Lib.hid (⟨But.refl _ _, by go_simp, by go_simp, by go_simp, fun i => by go_simp⟩ : QSt ((w.alloc (.cells #[.slice none 0 0, .slice none 0 0, .slice none 0 0] 31)).alloc (.cells #[.slice none 0 0, .slice none 0 0, .slice none 0 0] 31)) (w.heap.size + 1) ((w.alloc (.cells #[.slice none 0 0, .slice none 0 0, .slice none 0 0] 31)).alloc (.cells #[.slice none 0 0, .slice none 0 0, .slice none 0 0] 31)) (.slice none 0 0) (.slice none 0 0) (.slice none 0 0))
  have K0 : Kept w ((w.alloc (.cells #[.slice none 0 0, .slice none 0 0, .slice none 0 0] 31)).alloc (.cells #[.slice none 0 0, .slice none 0 0, .slice none 0 0] 31)) := by repeat (first | exact Kept.refl _ | assumption | (refine Kept.alloc ?_ _) | (refine Kept.setCell ?_ (by first | omega | (simp; omega) | simp) _) | refine Kept.drew ?_ | refine Kept.drewN ?_ _ | (apply Kept.call; rotate_left; assumption))
  have hQw : Hid (w.heap.size ≤ w.heap.size + 1) := Nat.le_succ _
  have hRQ : Hid (w.heap.size ≠ w.heap.size + 1) := by unfold Hid; omega
  have hH0 : Hid (((w.alloc (.cells #[.slice none 0 0, .slice none 0 0, .slice none 0 0] 31)).alloc (.cells #[.slice none 0 0, .slice none 0 0, .slice none 0 0] 31)).heap[w.heap.size]? = some (.cells #[.slice none 0 0, .slice none 0 0, .slice none 0 0] 31)) := by unfold Hid; rw [Below.heap_alloc _ _ _ (by simp)]; exact heap_alloc_new _ _
  have hR0 := Lib.hid (⟨But.refl _ _, by go_simp, by go_simp, by go_simp, fun i => by go_simp⟩ : QSt ((w.alloc (.cells #[.slice none 0 0, .slice none 0 0, .slice none 0 0] 31)).alloc (.cells #[.slice none 0 0, .slice none 0 0, .slice none 0 0] 31)) w.heap.size ((w.alloc (.cells #[.slice none 0 0, .slice none 0 0, .slice none 0 0] 31)).alloc (.cells #[.slice none 0 0, .slice none 0 0, .slice none 0 0] 31)) (.slice none 0 0) (.slice none 0 0) (.slice none 0 0))
  generalize ((w.alloc (.cells #[.slice none 0 0, .slice none 0 0, .slice none 0 0] 31)).alloc (.cells #[.slice none 0 0, .slice none 0 0, .slice none 0 0] 31)) = W at hQ0 K0 hR0 hH0 ⊢
  generalize w.heap.size + 1 = Q at hQ0 hQw hRQ ⊢
  have hQW := hQ0.out.under
  go_loopw [9] (fun iv wr => ∃ (j : Nat) (v : Value), j ≤ N + 1 ∧ iv = .int .i64 j ∧ QSt W Q wr (.slice none 0 0) (.slice none 0 0) v ∧ wr.ownsRow W.heap.size 3 1 v j (intC (psTo j))) (fun iv _ => N + 1 - (intOf iv).toNat)
  case atStart => exact ⟨0, _, by omega, rfl, hQ0.out, World.ownsRow_nil _ _ _ _⟩
  case round =>
    obtain ⟨j, v, hj, rfl, st, ho⟩ := hrel
    have ST := Lib.hid st
    have HO := Lib.hid ho
    have c2 := st.c2
    have f2 := st.frz 2
    have hz := st.but.size
    have hQr := st.under
    by_cases hlt : j < N + 1
    · have hol : Hid ((intC (psTo j)).length = j * 1) := by unfold Hid; rw [psTo_len, Nat.mul_one]
      clear st ho
      go_wp2_with (at_builtin; refine wpList_append_own _ rfl _ _ 25 rfl W.heap.size 3 i0 (.int .i64 0) 1 8 Try.underlying25 HI.out hz0 hz1 hz2 rfl (by decide) _ j _ rfl (HO.out.alloc _) ⟨wr.heap.size, 0, none⟩ 1 1 [.int .i64 ((j : Int) - 1)] rfl rfl (cell_one_new _ _ _) (by simp [Value.oneCell']) (by unfold maxLen; omega) (by omega) (by simp; omega) ?_; intro v3 w3 hown3 hgrow3 _; rw [psTo_succ] at hown3; obtain ⟨A3, c3, rfl⟩ := own_slice hown3; have HL3 := HO.out.lt; have S3 := (ST.out.keep ((Kept.refl wr).alloc _)).grown hQW hgrow3 (fun g hg => (HL3 g hg).1); have c23 := S3.c2; have f23 := S3.frz 2; have S4 := Lib.hid (S3.set2 (.slice A3 (j + 1) c3)); have HO4 := Lib.hid (ownsRow_setCell_below hown3 (a := ⟨Q, 2, none⟩) hQW (.slice A3 (j + 1) c3)); clear hown3 hgrow3 S3)
      go_roundw
      case rel => exact ⟨j + 1, _, by omega, by go_num, S4.out, HO4.out⟩
      case measure => simp [intOf]; omega
    · obtain rfl : j = N + 1 := by omega
      obtain ⟨pb, d3, rfl, hpb, _⟩ := own_some HO.out (by omega)
      have hps : IntsAt wr (some ⟨pb, 0, none⟩) (N + 1) d3 (psTo (N + 1)) := by
        obtain ⟨A9, c9, e9, h9⟩ := IntsAt.of_ownI HO.out
        cases e9
        exact h9
      have HPS := Lib.hid hps
      have hpQ : pb ≠ Q := by omega
      have K1 : Kept w wr := K0.but ST.out.but (by simp; exact hQw.out)
      have ST1 := Lib.hid ST.out.again
      have hH1 := Lib.hid (ST.out.but.heap hH0.out (by simpa using hRQ.out))
      have hR1 := Lib.hid (hR0.out.move ST.out.but hRQ.out)
      have hRp : w.heap.size < pb := by have := hR0.out.under; omega
      clear st ho hps HO ST hz c2 f2 hQ0 K0 hQW hpb hR0 hH0
      obtain ⟨W1, rfl⟩ : ∃ W1, W1 = wr := ⟨_, rfl⟩
      have hQW := ST1.out.under
      go_wp2_with fail
      go_loopw [10, 11] (fun av iv w2 => ∃ (i : Nat) (es : List Nat) (v : Value), i ≤ m ∧ i ≤ 6 ∧ iv = .int .i64 i ∧ av = .string (fr es es.length) ∧ es.length ≤ i ∧ Hid (Up es) ∧ QSt W1 Q w2 v (.slice none 0 0) (.slice (some ⟨pb, 0, none⟩) (N + 1) d3) ∧ w2.ownsRow W1.heap.size 35 2 v es.length (rgC (pre es)) ∧ Kept w w2) (fun _ iv _ => m - (intOf iv).toNat)
      case atStart => exact ⟨0, [], _, by omega, by omega, rfl, rfl, by simp, up_nil, ST1.out, World.ownsRow_nil _ _ _ _, K1⟩
      case round =>
        obtain ⟨i, es, v, hi, hi6, rfl, rfl, hel, hup, st, ho, kr⟩ := hrel
        have ST := Lib.hid st
        have HO := Lib.hid ho
        by_cases hlt : i < m ∧ i < 6
        · have e1 : decide ((i : Int) < m) = true := by simp; omega
          have e2 : decide ((i : Int) < 6) = true := by simp; omega
          obtain ⟨b, off, rfl, hc⟩ := HX.out.2.2.2.2 (by omega)
          have cl : wr.cell? ⟨b, off + i, none⟩ = some (.int .i64 (xs[i]?.getD (-2))) := kr.at_ (hc i hlt.1)
          have hbw : b < wr.heap.size := World.block_lt_of_cell? wr _ cl
          generalize xs[i]?.getD (-2) = x at *
          have hb0 := tmod_bd x 26 (by omega)
          obtain ⟨r, hr, hr26⟩ : ∃ r : Nat, (x.tmod 26 + 26).tmod 26 = r ∧ r < 26 := by
            have h2 := Int.tmod_nonneg (26 : Int) (show 0 ≤ x.tmod 26 + 26 by omega)
            have h3 := Int.tmod_lt_of_pos (x.tmod 26 + 26) (show 0 < (26 : Int) by omega)
            exact ⟨_, (Int.toNat_of_nonneg h2).symm, by omega⟩
          have hcv := conv_ch wr r
          have c0 := st.c0
          have f0 := st.frz 0
          have hQr := st.under
          have hz := st.but.size
          rcases Int.lt_or_le (hv (fr es es.length)) (97 + r : Nat) with hlo | hhi
          · obtain ⟨hbl1, hbl2⟩ := cmp_lo hup.out (c := 97 + r) (by omega) hlo
            have hup2 := Lib.hid (hup.out.snoc (e := 97 + r) (by omega) (by omega) (by omega) hlo)
            have hps2 := Lib.hid (pre_snoc es (97 + r))
            have hfe := Lib.hid (fr_end es (97 + r))
            have hol : Hid ((rgC (pre es)).length = es.length * 2) := by unfold Hid; rw [rgC_len, pre_len]
            have hle2 : Hid ((es ++ [97 + r]).length = es.length + 1) := by unfold Hid; simp
            clear st ho hlo hc
            generalize es ++ [97 + r] = es2 at *
            generalize fr es es.length = at_ at *
            generalize ch (97 + r) = e_ at *
            generalize hLe : es.length = le at *
            clear hLe
            go_wp2_with (at_builtin; refine wpList_append_own _ rfl _ _ 29 rfl W1.heap.size 35 j0 (.agg #[.string ⟨#[]⟩, .string ⟨#[]⟩]) 2 32 Try.underlying29 HJ.out hy0 hy1 hy2 rfl (by decide) _ le _ rfl ((HO.out.alloc _).alloc _) ⟨wr.heap.size + 1, 0, none⟩ 1 1 [.string at_, .string e_] rfl rfl (cells_two2 _ _ _ _ _) (by simp [Value.oneCell']) (by unfold maxLen; omega) (by omega) (by simp; omega) ?_; intro v3 w3 hown3 hgrow3 _; rw [rgC_snoc _ (at_, e_), ← hps2.out] at hown3; obtain ⟨A3, c3, rfl⟩ := own_slice hown3; have HL3 := HO.out.lt; have S3 := (ST.out.keep (((Kept.refl wr).alloc _).alloc _)).grown hQW hgrow3 (fun g hg => (HL3 g hg).1); have K3 : Kept w w3 := ((kr.alloc _).alloc _).grown hgrow3 (fun g hg => Nat.le_trans K1.size (HL3 g hg).1); have c03 := S3.c0; have f03 := S3.frz 0; have S4 := Lib.hid (S3.set0 (.slice A3 (le + 1) c3)); have K4 := K3.setCell (p := ⟨Q, 0, none⟩) hQw.out (.slice A3 (le + 1) c3); have HO4 := Lib.hid (ownsRow_setCell_below hown3 (a := ⟨Q, 0, none⟩) hQW (.slice A3 (le + 1) c3)); clear hown3 hgrow3 S3)
            go_roundw
            case rel => first | exact ⟨i + 1, es2, _, by omega, by omega, by go_num, by rw [hfe.out], by rw [hle2.out]; omega, hup2, S4.out, by rw [hle2.out]; exact HO4.out, K4⟩ | ((repeat apply Exists.intro); exact ⟨⟨i + 1, es2, _, by omega, by omega, by go_num, by rw [hfe.out], by rw [hle2.out]; omega, hup2, S4.out, by rw [hle2.out]; exact HO4.out, K4⟩, rfl⟩)
            case measure => simp [intOf]; omega
          · have hbl := cmp_hi hup.out (c := 97 + r) (by omega) (by omega) (by omega)
            have S4 := Lib.hid (ST.out.keep ((Kept.refl wr).alloc (.cells #[.int .u8 (97 + (r : Int))] 5)))
            have HO4 := Lib.hid (HO.out.alloc (.cells #[.int .u8 (97 + (r : Int))] 5))
            have hfr : Hid (∃ a, a = fr es es.length) := ⟨_, rfl⟩
            obtain ⟨at_, hat⟩ : ∃ a, fr es es.length = a := ⟨_, rfl⟩
            have HAT := Lib.hid hat
            rw [hat] at hbl ⊢
            clear st ho hhi hc hat
            generalize ch (97 + r) = e_ at *
            rcases hbl with hbl | ⟨hbl, hbl2⟩
            · go_wp2_with fail
              go_roundw
              case rel => first | exact ⟨i + 1, es, _, by omega, by omega, by go_num, by rw [HAT.out], by omega, hup, S4.out, HO4.out, kr.alloc _⟩ | ((repeat apply Exists.intro); exact ⟨⟨i + 1, es, _, by omega, by omega, by go_num, by rw [HAT.out], by omega, hup, S4.out, HO4.out, kr.alloc _⟩, rfl⟩)
              case measure => simp [intOf]; omega
            · go_wp2_with fail
              go_roundw
              case rel => first | exact ⟨i + 1, es, _, by omega, by omega, by go_num, by rw [HAT.out], by omega, hup, S4.out, HO4.out, kr.alloc _⟩ | ((repeat apply Exists.intro); exact ⟨⟨i + 1, es, _, by omega, by omega, by go_num, by rw [HAT.out], by omega, hup, S4.out, HO4.out, kr.alloc _⟩, rfl⟩)
              case measure => simp [intOf]; omega
        · have e9 : m ≤ i ∨ (i < m ∧ 6 ≤ i) := by omega
          have c0 := st.c0
          have f0 := st.frz 0
          have hQr := st.under
          have hz := st.but.size
          have hps2 := Lib.hid (rgs_pre es)
          have hol : Hid ((rgC (pre es)).length = es.length * 2) := by unfold Hid; rw [rgC_len, pre_len]
          obtain ⟨at_, hat⟩ : ∃ a, fr es es.length = a := ⟨_, rfl⟩
          obtain ⟨le, hle⟩ : ∃ a, es.length = a := ⟨_, rfl⟩
          have HLE := Lib.hid hle
          rw [hat] at hps2
          rw [hle] at HO hol hel
          rw [hat]
          have hsn : Hid (rgC (pre es) ++ [.string at_, .string ⟨#[]⟩] = rgC (rgs es)) := by unfold Hid; rw [hps2.out]; exact rgC_snoc (pre es) (at_, nil)
          clear st ho hat hle hlt
          rcases e9 with e9 | ⟨e9, e8⟩
          · have e1 : decide ((i : Int) < m) = false := by simp; omega
            go_wp2_with (at_builtin; refine wpList_append_own _ rfl _ _ 29 rfl W1.heap.size 35 j0 (.agg #[.string ⟨#[]⟩, .string ⟨#[]⟩]) 2 32 Try.underlying29 HJ.out hy0 hy1 hy2 rfl (by decide) _ le _ rfl (HO.out.alloc _) ⟨wr.heap.size, 0, none⟩ 1 1 [.string at_, .string ⟨#[]⟩] rfl rfl (cells_two _ _ _ _) (by simp [Value.oneCell']) (by unfold maxLen; omega) (by omega) (by simp; omega) ?_; intro v3 w3 hown3 hgrow3 _; rw [hsn.out] at hown3; obtain ⟨g3, c3, rfl, hg3, _⟩ := own_some hown3 (by omega); have HL3 := HO.out.lt; have S3 := (ST.out.keep ((Kept.refl wr).alloc _)).grown hQW hgrow3 (fun g hg => (HL3 g hg).1); have K3 : Kept w w3 := (kr.alloc _).grown hgrow3 (fun g hg => Nat.le_trans K1.size (HL3 g hg).1); have c03 := S3.c0; have f03 := S3.frz 0; have S4 := Lib.hid (S3.set0 (.slice (some ⟨g3, 0, none⟩) (le + 1) c3)); have K4 := K3.setCell (p := ⟨Q, 0, none⟩) hQw.out (.slice (some ⟨g3, 0, none⟩) (le + 1) c3); have HO4 := Lib.hid (ownsRow_setCell_below hown3 (a := ⟨Q, 0, none⟩) hQW (.slice (some ⟨g3, 0, none⟩) (le + 1) c3)); clear hown3 hgrow3 S3 K3)
            generalize w3.setCell ⟨Q, 0, none⟩ (.slice (some ⟨g3, 0, none⟩) (le + 1) c3) = W2 at *
            have RS2 : Hid (RowS W2 (some ⟨g3, 0, none⟩) (le + 1) c3 (rgs es)) := by
              obtain ⟨A9, c9, e9, h9⟩ := RowS.of_own HO4.out
              cases e9
              exact h9
            have PS2 := Lib.hid (HPS.out.but S4.out.but (by simpa using hpQ))
            have hg3Q : g3 ≠ Q := by omega
            have ST2 := Lib.hid S4.out.again
            have hH2 := Lib.hid (S4.out.but.heap hH1.out (by simpa using hRQ.out))
            have hR2 := Lib.hid (hR1.out.move S4.out.but hRQ.out)
            have hRg : w.heap.size < g3 := by have := hR1.out.under; omega
            have hQW2 := ST2.out.under
            have hN6 : N + 1 ≤ 6 := by omega
            clear c0 f0 c03 f03 HO4 S4 HO ST hg3 hz hQr hps2 hol hsn HPS
            go_loopw [13, 14] (fun av kv w9 => ∃ k : Nat, k ≤ N + 1 ∧ av = .int .i64 ((2 ^ k : Nat) : Int) ∧ kv = .int .i64 k ∧ Hid (w9 = W2)) (fun _ kv _ => N + 1 - (intOf kv).toNat)
            case atStart => exact ⟨0, by omega, rfl, rfl, rfl⟩
            case round =>
              obtain ⟨k, hk, rfl, rfl, hw9⟩ := hrel
              by_cases hkn : k < N + 1
              · have hp1 := two_le (n := k) (by omega)
                have hp2 : Hid (2 ^ (k + 1) = 2 * 2 ^ k) := by unfold Hid; rw [Nat.pow_succ, Nat.mul_comm]
                generalize 2 ^ k = t at *
                go_wp2_with fail
                go_roundw
                case rel => first | exact ⟨k + 1, by omega, by rw [hp2.out]; go_num, by go_num, hw9⟩ | ((repeat apply Exists.intro); exact ⟨⟨k + 1, by omega, by rw [hp2.out]; go_num, by go_num, hw9⟩, rfl⟩)
                case measure => simp [intOf]; omega
              · obtain rfl : k = N + 1 := by omega
                have hw := hw9.out
                clear hw9
                subst hw
                obtain ⟨W2, rfl⟩ : ∃ W2, W2 = wr := ⟨_, rfl⟩
                have ha1 := two_le (n := N + 1) (by omega)
                have ha2 : 2 ≤ 2 ^ (N + 1) := by
                  have : 0 < 2 ^ N := Nat.pow_pos (by omega)
                  rw [Nat.pow_succ]
                  omega
                have hae : Hid (2 ^ (N + 1) = 2 ^ (N + 1)) := rfl
                generalize ha : 2 ^ (N + 1) = a at *
                have HA := Lib.hid ha
                clear ha hae
                go_wp2_with fail
                go_loopw [15] (fun kv w9 => ∃ (j : Nat) (os : List Int) (v : Value), j ≤ le + 1 ∧ kv = .int .i64 j ∧ QSt W2 Q w9 (.slice (some ⟨g3, 0, none⟩) (le + 1) c3) v (.slice (some ⟨pb, 0, none⟩) (N + 1) d3) ∧ w9.ownsRow W2.heap.size 3 1 v j (intC os) ∧ Hid (os.length = j ∧ ∀ x ∈ os, 1 ≤ x ∧ x < (a : Int)) ∧ Kept w w9) (fun kv _ => le + 1 - (intOf kv).toNat)
                case atStart => exact ⟨0, [], _, by omega, rfl, ST2.out, World.ownsRow_nil _ _ _ _, ⟨rfl, fun x hx => by cases hx⟩, K4⟩
                case round =>
                  obtain ⟨j, os, v, hj, rfl, st, ho, hos, kr5⟩ := hrel
                  have ST := Lib.hid st
                  have HO := Lib.hid ho
                  have c0 := st.c0
                  have c1 := st.c1
                  have c2_ := st.c2
                  have f1 := st.frz 1
                  have hQr := st.under
                  have hz := st.but.size
                  clear st ho
                  by_cases hjl : j < le + 1
                  · have hol : Hid ((intC os).length = j * 1) := by unfold Hid; rw [intC_len, hos.out.1, Nat.mul_one]
                    by_cases hjm : j < m2
                    · obtain ⟨yb, yo, rfl, hyc⟩ := HY.out.2.2.2.2 (by omega)
                      have cy : wr.cell? ⟨yb, yo + j, none⟩ = some (.int .i64 (ys[j]?.getD (-2))) := kr5.at_ (hyc j hjm)
                      have e7 : decide ((j : Int) < m2) = true := by simp; omega
                      generalize ys[j]?.getD (-2) = y at *
                      have hb0 := tmod_bd y ((a : Int) - 1) (by omega)
                      obtain ⟨o, hro, hro2⟩ : ∃ r : Nat, (y.tmod ((a : Int) - 1) + a - 1).tmod ((a : Int) - 1) = r ∧ r + 1 < a := by
                        have h2 := Int.tmod_nonneg ((a : Int) - 1) (show 0 ≤ y.tmod ((a : Int) - 1) + a - 1 by omega)
                        have h3 := Int.tmod_lt_of_pos (y.tmod ((a : Int) - 1) + a - 1) (show 0 < (a : Int) - 1 by omega)
                        exact ⟨_, (Int.toNat_of_nonneg h2).symm, by omega⟩
                      have hos2 : Hid ((os ++ [1 + (o : Int)]).length = j + 1 ∧ ∀ x ∈ os ++ [1 + (o : Int)], 1 ≤ x ∧ x < (a : Int)) := by
                        refine ⟨by rw [List.length_append, hos.out.1]; rfl, fun x hx => ?_⟩
                        rcases List.mem_append.1 hx with hx | hx
                        · exact hos.out.2 x hx
                        · obtain rfl : x = 1 + (o : Int) := by simpa using hx
                          omega
                      clear hyc
                      go_wp2_with (at_builtin; refine wpList_append_own _ rfl _ _ 25 rfl W2.heap.size 3 i0 (.int .i64 0) 1 8 Try.underlying25 HI.out hz0 hz1 hz2 rfl (by decide) _ j _ rfl (HO.out.alloc _) ⟨wr.heap.size, 0, none⟩ 1 1 [.int .i64 (1 + (o : Int))] rfl rfl (cell_one_new _ _ _) (by simp [Value.oneCell']) (by unfold maxLen; omega) (by omega) (by simp; omega) ?_; intro v3 w3 hown3 hgrow3 _; rw [show intC os ++ [.int .i64 (1 + (o : Int))] = intC (os ++ [1 + (o : Int)]) from (by simp [intC])] at hown3; obtain ⟨A5, c5, rfl⟩ := own_slice hown3; have HL3 := HO.out.lt; have S3 := (ST.out.keep ((Kept.refl wr).alloc _)).grown hQW2 hgrow3 (fun g hg => (HL3 g hg).1); have K3 : Kept w w3 := (kr5.alloc _).grown hgrow3 (fun g hg => Nat.le_trans K4.size (HL3 g hg).1); have c13 := S3.c1; have f13 := S3.frz 1; have S4 := Lib.hid (S3.set1 (.slice A5 (j + 1) c5)); have K5 := K3.setCell (p := ⟨Q, 1, none⟩) hQw.out (.slice A5 (j + 1) c5); have HO4 := Lib.hid (ownsRow_setCell_below hown3 (a := ⟨Q, 1, none⟩) hQW2 (.slice A5 (j + 1) c5)); clear hown3 hgrow3 S3 K3)
                      go_roundw
                      case rel => first | exact ⟨j + 1, os ++ [1 + (o : Int)], _, by omega, by go_num, S4.out, HO4.out, hos2, K5⟩ | ((repeat apply Exists.intro); exact ⟨⟨j + 1, os ++ [1 + (o : Int)], _, by omega, by go_num, S4.out, HO4.out, hos2, K5⟩, rfl⟩)
                      case measure => simp [intOf]; omega
                    · have e7 : decide ((j : Int) < m2) = false := by simp; omega
                      have hos2 : Hid ((os ++ [1]).length = j + 1 ∧ ∀ x ∈ os ++ [1], 1 ≤ x ∧ x < (a : Int)) := by
                        refine ⟨by rw [List.length_append, hos.out.1]; rfl, fun x hx => ?_⟩
                        rcases List.mem_append.1 hx with hx | hx
                        · exact hos.out.2 x hx
                        · obtain rfl : x = 1 := by simpa using hx
                          omega
                      go_wp2_with (at_builtin; refine wpList_append_own _ rfl _ _ 25 rfl W2.heap.size 3 i0 (.int .i64 0) 1 8 Try.underlying25 HI.out hz0 hz1 hz2 rfl (by decide) _ j _ rfl (HO.out.alloc _) ⟨wr.heap.size, 0, none⟩ 1 1 [.int .i64 (1)] rfl rfl (cell_one_new _ _ _) (by simp [Value.oneCell']) (by unfold maxLen; omega) (by omega) (by simp; omega) ?_; intro v3 w3 hown3 hgrow3 _; rw [show intC os ++ [.int .i64 (1)] = intC (os ++ [1]) from (by simp [intC])] at hown3; obtain ⟨A5, c5, rfl⟩ := own_slice hown3; have HL3 := HO.out.lt; have S3 := (ST.out.keep ((Kept.refl wr).alloc _)).grown hQW2 hgrow3 (fun g hg => (HL3 g hg).1); have K3 : Kept w w3 := (kr5.alloc _).grown hgrow3 (fun g hg => Nat.le_trans K4.size (HL3 g hg).1); have c13 := S3.c1; have f13 := S3.frz 1; have S4 := Lib.hid (S3.set1 (.slice A5 (j + 1) c5)); have K5 := K3.setCell (p := ⟨Q, 1, none⟩) hQw.out (.slice A5 (j + 1) c5); have HO4 := Lib.hid (ownsRow_setCell_below hown3 (a := ⟨Q, 1, none⟩) hQW2 (.slice A5 (j + 1) c5)); clear hown3 hgrow3 S3 K3)
                      go_roundw
                      case rel => first | exact ⟨j + 1, os ++ [1], _, by omega, by go_num, S4.out, HO4.out, hos2, K5⟩ | ((repeat apply Exists.intro); exact ⟨⟨j + 1, os ++ [1], _, by omega, by go_num, S4.out, HO4.out, hos2, K5⟩, rfl⟩)
                      case measure => simp [intOf]; omega
                  · obtain rfl : j = le + 1 := by omega
                    obtain ⟨ob, d2, rfl, hob, _⟩ := own_some HO.out (by omega)
                    have hH3 := Lib.hid (ST.out.but.heap hH2.out (by simpa using hRQ.out))
                    have hR3 := hR2.out.move ST.out.but hRQ.out
                    have hRo : w.heap.size < ob := by have := hR2.out.under; omega
                    have r0 := hR3.c0
                    have r1 := hR3.c1
                    have r2 := hR3.c2
                    have q0 := hR3.frz 0
                    have q1 := hR3.frz 1
                    have q2 := hR3.frz 2
                    have OS2 : Hid (IntsAt wr (some ⟨ob, 0, none⟩) (le + 1) d2 os) := by
                      obtain ⟨A9, c9, e9, h9⟩ := IntsAt.of_ownI HO.out
                      cases e9
                      exact h9
                    have RS3 := Lib.hid (RS2.out.but ST.out.but (by simpa using hg3Q))
                    have PS3 := Lib.hid (PS2.out.but ST.out.but (by simpa using hpQ))
                    clear HO hob hR3
                    go_wp2_with fail
                    have s1 := heap_setCell_same wr w.heap.size 0 _ _ (.slice (some ⟨g3, 0, none⟩) (le + 1) c3) hH3.out
                    have s2 := heap_setCell_same _ w.heap.size 1 _ _ (.slice (some ⟨ob, 0, none⟩) (le + 1) d2) s1
                    have s3 := heap_setCell_same _ w.heap.size 2 _ _ (.slice (some ⟨pb, 0, none⟩) (N + 1) d3) s2
                    have hBR : But [w.heap.size] wr (((wr.setCell ⟨w.heap.size, 0, none⟩ (.slice (some ⟨g3, 0, none⟩) (le + 1) c3)).setCell ⟨w.heap.size, 1, none⟩ (.slice (some ⟨ob, 0, none⟩) (le + 1) d2)).setCell ⟨w.heap.size, 2, none⟩ (.slice (some ⟨pb, 0, none⟩) (N + 1) d3)) := (((But.refl _ _).setCell (.inl (by simp)) _).setCell (.inl (by simp)) _).setCell (.inl (by simp)) _
                    (try simp only [Exit.inBlock, Exit.then])
                    refine bodyPost_ret (results_cell_row rfl _ _ w.heap.size _ #[.slice (some ⟨g3, 0, none⟩) (le + 1) c3, .slice (some ⟨ob, 0, none⟩) (le + 1) d2, .slice (some ⟨pb, 0, none⟩) (N + 1) d3] (0, 0) _ rfl s3 Try.underlying31 rfl (by kernel_rfl)) rfl ?_
                    refine ⟨_, _, _, _, _, _, _, _, _, es, os, psTo (N + 1), rfl, ⟨by omega, by omega, by omega⟩, ⟨RS3.out.but hBR (by simp; omega), OS2.out.but hBR (by simp; omega), PS3.out.but hBR (by simp; omega)⟩, ⟨hup.out, by rw [hos.out.1, HLE.out], fun i hi => ?_, by omega, hN6⟩, kr5.but hBR (by simp)⟩
                    have hi2 : i < os.length := by rw [hos.out.1]; have := HLE.out; omega
                    rw [HA.out]
                    unfold oa
                    rw [List.getElem?_eq_getElem hi2]
                    exact hos.out.2 _ (List.getElem_mem hi2)
          · have e1 : decide ((i : Int) < m) = true := by simp; omega
            have e2 : decide ((i : Int) < 6) = false := by simp; omega
            go_wp2_with (at_builtin; refine wpList_append_own _ rfl _ _ 29 rfl W1.heap.size 35 j0 (.agg #[.string ⟨#[]⟩, .string ⟨#[]⟩]) 2 32 Try.underlying29 HJ.out hy0 hy1 hy2 rfl (by decide) _ le _ rfl (HO.out.alloc _) ⟨wr.heap.size, 0, none⟩ 1 1 [.string at_, .string ⟨#[]⟩] rfl rfl (cells_two _ _ _ _) (by simp [Value.oneCell']) (by unfold maxLen; omega) (by omega) (by simp; omega) ?_; intro v3 w3 hown3 hgrow3 _; rw [hsn.out] at hown3; obtain ⟨g3, c3, rfl, hg3, _⟩ := own_some hown3 (by omega); have HL3 := HO.out.lt; have S3 := (ST.out.keep ((Kept.refl wr).alloc _)).grown hQW hgrow3 (fun g hg => (HL3 g hg).1); have K3 : Kept w w3 := (kr.alloc _).grown hgrow3 (fun g hg => Nat.le_trans K1.size (HL3 g hg).1); have c03 := S3.c0; have f03 := S3.frz 0; have S4 := Lib.hid (S3.set0 (.slice (some ⟨g3, 0, none⟩) (le + 1) c3)); have K4 := K3.setCell (p := ⟨Q, 0, none⟩) hQw.out (.slice (some ⟨g3, 0, none⟩) (le + 1) c3); have HO4 := Lib.hid (ownsRow_setCell_below hown3 (a := ⟨Q, 0, none⟩) hQW (.slice (some ⟨g3, 0, none⟩) (le + 1) c3)); clear hown3 hgrow3 S3 K3)
            generalize w3.setCell ⟨Q, 0, none⟩ (.slice (some ⟨g3, 0, none⟩) (le + 1) c3) = W2 at *
            have RS2 : Hid (RowS W2 (some ⟨g3, 0, none⟩) (le + 1) c3 (rgs es)) := by
              obtain ⟨A9, c9, e9, h9⟩ := RowS.of_own HO4.out
              cases e9
              exact h9
            have PS2 := Lib.hid (HPS.out.but S4.out.but (by simpa using hpQ))
            have hg3Q : g3 ≠ Q := by omega
            have ST2 := Lib.hid S4.out.again
            have hH2 := Lib.hid (S4.out.but.heap hH1.out (by simpa using hRQ.out))
            have hR2 := Lib.hid (hR1.out.move S4.out.but hRQ.out)
            have hRg : w.heap.size < g3 := by have := hR1.out.under; omega
            have hQW2 := ST2.out.under
            have hN6 : N + 1 ≤ 6 := by omega
            clear c0 f0 c03 f03 HO4 S4 HO ST hg3 hz hQr hps2 hol hsn HPS
            go_loopw [13, 14] (fun av kv w9 => ∃ k : Nat, k ≤ N + 1 ∧ av = .int .i64 ((2 ^ k : Nat) : Int) ∧ kv = .int .i64 k ∧ Hid (w9 = W2)) (fun _ kv _ => N + 1 - (intOf kv).toNat)
            case atStart => exact ⟨0, by omega, rfl, rfl, rfl⟩
            case round =>
              obtain ⟨k, hk, rfl, rfl, hw9⟩ := hrel
              by_cases hkn : k < N + 1
              · have hp1 := two_le (n := k) (by omega)
                have hp2 : Hid (2 ^ (k + 1) = 2 * 2 ^ k) := by unfold Hid; rw [Nat.pow_succ, Nat.mul_comm]
                generalize 2 ^ k = t at *
                go_wp2_with fail
                go_roundw
                case rel => first | exact ⟨k + 1, by omega, by rw [hp2.out]; go_num, by go_num, hw9⟩ | ((repeat apply Exists.intro); exact ⟨⟨k + 1, by omega, by rw [hp2.out]; go_num, by go_num, hw9⟩, rfl⟩)
                case measure => simp [intOf]; omega
              · obtain rfl : k = N + 1 := by omega
                have hw := hw9.out
                clear hw9
                subst hw
                obtain ⟨W2, rfl⟩ : ∃ W2, W2 = wr := ⟨_, rfl⟩
                have ha1 := two_le (n := N + 1) (by omega)
                have ha2 : 2 ≤ 2 ^ (N + 1) := by
                  have : 0 < 2 ^ N := Nat.pow_pos (by omega)
                  rw [Nat.pow_succ]
                  omega
                have hae : Hid (2 ^ (N + 1) = 2 ^ (N + 1)) := rfl
                generalize ha : 2 ^ (N + 1) = a at *
                have HA := Lib.hid ha
                clear ha hae
                go_wp2_with fail
                go_loopw [15] (fun kv w9 => ∃ (j : Nat) (os : List Int) (v : Value), j ≤ le + 1 ∧ kv = .int .i64 j ∧ QSt W2 Q w9 (.slice (some ⟨g3, 0, none⟩) (le + 1) c3) v (.slice (some ⟨pb, 0, none⟩) (N + 1) d3) ∧ w9.ownsRow W2.heap.size 3 1 v j (intC os) ∧ Hid (os.length = j ∧ ∀ x ∈ os, 1 ≤ x ∧ x < (a : Int)) ∧ Kept w w9) (fun kv _ => le + 1 - (intOf kv).toNat)
                case atStart => exact ⟨0, [], _, by omega, rfl, ST2.out, World.ownsRow_nil _ _ _ _, ⟨rfl, fun x hx => by cases hx⟩, K4⟩
                case round =>
                  obtain ⟨j, os, v, hj, rfl, st, ho, hos, kr5⟩ := hrel
                  have ST := Lib.hid st
                  have HO := Lib.hid ho
                  have c0 := st.c0
                  have c1 := st.c1
                  have c2_ := st.c2
                  have f1 := st.frz 1
                  have hQr := st.under
                  have hz := st.but.size
                  clear st ho
                  by_cases hjl : j < le + 1
                  · have hol : Hid ((intC os).length = j * 1) := by unfold Hid; rw [intC_len, hos.out.1, Nat.mul_one]
                    by_cases hjm : j < m2
                    · obtain ⟨yb, yo, rfl, hyc⟩ := HY.out.2.2.2.2 (by omega)
                      have cy : wr.cell? ⟨yb, yo + j, none⟩ = some (.int .i64 (ys[j]?.getD (-2))) := kr5.at_ (hyc j hjm)
                      have e7 : decide ((j : Int) < m2) = true := by simp; omega
                      generalize ys[j]?.getD (-2) = y at *
                      have hb0 := tmod_bd y ((a : Int) - 1) (by omega)
                      obtain ⟨o, hro, hro2⟩ : ∃ r : Nat, (y.tmod ((a : Int) - 1) + a - 1).tmod ((a : Int) - 1) = r ∧ r + 1 < a := by
                        have h2 := Int.tmod_nonneg ((a : Int) - 1) (show 0 ≤ y.tmod ((a : Int) - 1) + a - 1 by omega)
                        have h3 := Int.tmod_lt_of_pos (y.tmod ((a : Int) - 1) + a - 1) (show 0 < (a : Int) - 1 by omega)
                        exact ⟨_, (Int.toNat_of_nonneg h2).symm, by omega⟩
                      have hos2 : Hid ((os ++ [1 + (o : Int)]).length = j + 1 ∧ ∀ x ∈ os ++ [1 + (o : Int)], 1 ≤ x ∧ x < (a : Int)) := by
                        refine ⟨by rw [List.length_append, hos.out.1]; rfl, fun x hx => ?_⟩
                        rcases List.mem_append.1 hx with hx | hx
                        · exact hos.out.2 x hx
                        · obtain rfl : x = 1 + (o : Int) := by simpa using hx
                          omega
                      clear hyc
                      go_wp2_with (at_builtin; refine wpList_append_own _ rfl _ _ 25 rfl W2.heap.size 3 i0 (.int .i64 0) 1 8 Try.underlying25 HI.out hz0 hz1 hz2 rfl (by decide) _ j _ rfl (HO.out.alloc _) ⟨wr.heap.size, 0, none⟩ 1 1 [.int .i64 (1 + (o : Int))] rfl rfl (cell_one_new _ _ _) (by simp [Value.oneCell']) (by unfold maxLen; omega) (by omega) (by simp; omega) ?_; intro v3 w3 hown3 hgrow3 _; rw [show intC os ++ [.int .i64 (1 + (o : Int))] = intC (os ++ [1 + (o : Int)]) from (by simp [intC])] at hown3; obtain ⟨A5, c5, rfl⟩ := own_slice hown3; have HL3 := HO.out.lt; have S3 := (ST.out.keep ((Kept.refl wr).alloc _)).grown hQW2 hgrow3 (fun g hg => (HL3 g hg).1); have K3 : Kept w w3 := (kr5.alloc _).grown hgrow3 (fun g hg => Nat.le_trans K4.size (HL3 g hg).1); have c13 := S3.c1; have f13 := S3.frz 1; have S4 := Lib.hid (S3.set1 (.slice A5 (j + 1) c5)); have K5 := K3.setCell (p := ⟨Q, 1, none⟩) hQw.out (.slice A5 (j + 1) c5); have HO4 := Lib.hid (ownsRow_setCell_below hown3 (a := ⟨Q, 1, none⟩) hQW2 (.slice A5 (j + 1) c5)); clear hown3 hgrow3 S3 K3)
                      go_roundw
                      case rel => first | exact ⟨j + 1, os ++ [1 + (o : Int)], _, by omega, by go_num, S4.out, HO4.out, hos2, K5⟩ | ((repeat apply Exists.intro); exact ⟨⟨j + 1, os ++ [1 + (o : Int)], _, by omega, by go_num, S4.out, HO4.out, hos2, K5⟩, rfl⟩)
                      case measure => simp [intOf]; omega
                    · have e7 : decide ((j : Int) < m2) = false := by simp; omega
                      have hos2 : Hid ((os ++ [1]).length = j + 1 ∧ ∀ x ∈ os ++ [1], 1 ≤ x ∧ x < (a : Int)) := by
                        refine ⟨by rw [List.length_append, hos.out.1]; rfl, fun x hx => ?_⟩
                        rcases List.mem_append.1 hx with hx | hx
                        · exact hos.out.2 x hx
                        · obtain rfl : x = 1 := by simpa using hx
                          omega
                      go_wp2_with (at_builtin; refine wpList_append_own _ rfl _ _ 25 rfl W2.heap.size 3 i0 (.int .i64 0) 1 8 Try.underlying25 HI.out hz0 hz1 hz2 rfl (by decide) _ j _ rfl (HO.out.alloc _) ⟨wr.heap.size, 0, none⟩ 1 1 [.int .i64 (1)] rfl rfl (cell_one_new _ _ _) (by simp [Value.oneCell']) (by unfold maxLen; omega) (by omega) (by simp; omega) ?_; intro v3 w3 hown3 hgrow3 _; rw [show intC os ++ [.int .i64 (1)] = intC (os ++ [1]) from (by simp [intC])] at hown3; obtain ⟨A5, c5, rfl⟩ := own_slice hown3; have HL3 := HO.out.lt; have S3 := (ST.out.keep ((Kept.refl wr).alloc _)).grown hQW2 hgrow3 (fun g hg => (HL3 g hg).1); have K3 : Kept w w3 := (kr5.alloc _).grown hgrow3 (fun g hg => Nat.le_trans K4.size (HL3 g hg).1); have c13 := S3.c1; have f13 := S3.frz 1; have S4 := Lib.hid (S3.set1 (.slice A5 (j + 1) c5)); have K5 := K3.setCell (p := ⟨Q, 1, none⟩) hQw.out (.slice A5 (j + 1) c5); have HO4 := Lib.hid (ownsRow_setCell_below hown3 (a := ⟨Q, 1, none⟩) hQW2 (.slice A5 (j + 1) c5)); clear hown3 hgrow3 S3 K3)
                      go_roundw
                      case rel => first | exact ⟨j + 1, os ++ [1], _, by omega, by go_num, S4.out, HO4.out, hos2, K5⟩ | ((repeat apply Exists.intro); exact ⟨⟨j + 1, os ++ [1], _, by omega, by go_num, S4.out, HO4.out, hos2, K5⟩, rfl⟩)
                      case measure => simp [intOf]; omega
                  · obtain rfl : j = le + 1 := by omega
                    obtain ⟨ob, d2, rfl, hob, _⟩ := own_some HO.out (by omega)
                    have hH3 := Lib.hid (ST.out.but.heap hH2.out (by simpa using hRQ.out))
                    have hR3 := hR2.out.move ST.out.but hRQ.out
                    have hRo : w.heap.size < ob := by have := hR2.out.under; omega
                    have r0 := hR3.c0
                    have r1 := hR3.c1
                    have r2 := hR3.c2
                    have q0 := hR3.frz 0
                    have q1 := hR3.frz 1
                    have q2 := hR3.frz 2
                    have OS2 : Hid (IntsAt wr (some ⟨ob, 0, none⟩) (le + 1) d2 os) := by
                      obtain ⟨A9, c9, e9, h9⟩ := IntsAt.of_ownI HO.out
                      cases e9
                      exact h9
                    have RS3 := Lib.hid (RS2.out.but ST.out.but (by simpa using hg3Q))
                    have PS3 := Lib.hid (PS2.out.but ST.out.but (by simpa using hpQ))
                    clear HO hob hR3
                    go_wp2_with fail
                    have s1 := heap_setCell_same wr w.heap.size 0 _ _ (.slice (some ⟨g3, 0, none⟩) (le + 1) c3) hH3.out
                    have s2 := heap_setCell_same _ w.heap.size 1 _ _ (.slice (some ⟨ob, 0, none⟩) (le + 1) d2) s1
                    have s3 := heap_setCell_same _ w.heap.size 2 _ _ (.slice (some ⟨pb, 0, none⟩) (N + 1) d3) s2
                    have hBR : But [w.heap.size] wr (((wr.setCell ⟨w.heap.size, 0, none⟩ (.slice (some ⟨g3, 0, none⟩) (le + 1) c3)).setCell ⟨w.heap.size, 1, none⟩ (.slice (some ⟨ob, 0, none⟩) (le + 1) d2)).setCell ⟨w.heap.size, 2, none⟩ (.slice (some ⟨pb, 0, none⟩) (N + 1) d3)) := (((But.refl _ _).setCell (.inl (by simp)) _).setCell (.inl (by simp)) _).setCell (.inl (by simp)) _
                    (try simp only [Exit.inBlock, Exit.then])
                    refine bodyPost_ret (results_cell_row rfl _ _ w.heap.size _ #[.slice (some ⟨g3, 0, none⟩) (le + 1) c3, .slice (some ⟨ob, 0, none⟩) (le + 1) d2, .slice (some ⟨pb, 0, none⟩) (N + 1) d3] (0, 0) _ rfl s3 Try.underlying31 rfl (by kernel_rfl)) rfl ?_
                    refine ⟨_, _, _, _, _, _, _, _, _, es, os, psTo (N + 1), rfl, ⟨by omega, by omega, by omega⟩, ⟨RS3.out.but hBR (by simp; omega), OS2.out.but hBR (by simp; omega), PS3.out.but hBR (by simp; omega)⟩, ⟨hup.out, by rw [hos.out.1, HLE.out], fun i hi => ?_, by omega, hN6⟩, kr5.but hBR (by simp)⟩
                    have hi2 : i < os.length := by rw [hos.out.1]; have := HLE.out; omega
                    rw [HA.out]
                    unfold oa
                    rw [List.getElem?_eq_getElem hi2]
                    exact hos.out.2 _ (List.getElem_mem hi2)
end Go.Proofs.Ytahokiopapenbaa
