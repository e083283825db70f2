/- The document's drain in memory, and those of its functions that turn nothing. -/
import Derived.Test.YtbofgpmbocjbiaaMrkK
import Derived.Test.YtbofgpmbocjbiaaTreeN
set_option linter.unusedSimpArgs false
set_option linter.unusedVariables false
namespace Go.Proofs.Ytbofgpmbocjbiaa
open Go.RowKit Go.Maps

def tgC1 : Thg → List Value
  | some l => [.string l, .bool false]
  | none => [.string ⟨#[]⟩, .bool true]
def tgC : List Thg → List Value
  | [] => []
  | t :: r => tgC1 t ++ tgC r
theorem tgC1_len (t : Thg) : (tgC1 t).length = 2 := by cases t <;> rfl
theorem tgC_len : ∀ l : List Thg, (tgC l).length = l.length * 2
  | [] => rfl
  | t :: r => by rw [tgC, List.length_append, tgC1_len, tgC_len r, List.length_cons]; omega
theorem tgC_app : ∀ l m : List Thg, tgC (l ++ m) = tgC l ++ tgC m
  | [], _ => rfl
  | t :: r, m => by rw [List.cons_append, tgC, tgC, tgC_app r m, List.append_assoc]
theorem tgC_one : ∀ (t : Thg), ∀ u ∈ tgC1 t, u.oneCell' = true := by
  intro t u hu
  cases t <;> (simp [tgC1] at hu; rcases hu with rfl | rfl <;> rfl)
structure RdF (w0 : World) (X : List Nat) (w : World) (R : Nat) (ps : List Int) (st : DSt) (g n c : Nat) (V : Nat → Nat → Value) (G : Nat → Nat → Option Nat) : Prop where
  c0 : w.cell? ⟨R, 0, none⟩ = some (.slice (some ⟨g, 0, none⟩) n c)
  cW : ∀ a b, a < 6 → b < 6 → w.cell? ⟨R, 1 + a * 6 + b, none⟩ = some (V a b)
  cS : ∀ s, s < 6 → w.cell? ⟨R, 37 + s, none⟩ = some (.bool (st.S (s : Int)))
  cC : ∀ a b, a < 6 → b < 6 → w.cell? ⟨R, 43 + a * 6 + b, none⟩ = some (.bool (st.C ((b : Int), (a : Int))))
  cK : w.cell? ⟨R, 79, none⟩ = some (.int .i64 (st.k : Int))
  frz : ∀ i, w.frozen? ⟨R, i, none⟩ = false
  par : IntsAt w (some ⟨g, 0, none⟩) n c ps
  gP : g < w0.heap.size
  tree : IsTree ps
  ways : ∀ a b, a < 6 → b < 6 → OpenK w (G a b) (V a b) (st.W ((a : Int), (b : Int))).length 2 (tgC (st.W ((a : Int), (b : Int))))
  rX : R ∈ X
  gX : ∀ a b x, G a b = some x → x ∈ X ∧ x ≠ R
  gap : ∀ a b a' b' x, G a b = some x → G a' b' = some x → a = a' ∧ b = b'
  lX : ∀ x ∈ X, w0.heap.size ≤ x ∧ x < w.heap.size
def RdIn (w0 : World) (X : List Nat) (w : World) (R : Nat) (ps : List Int) (st : DSt) : Prop := ∃ g n c V G, RdF w0 X w R ps st g n c V G
section
variable {w0 w : World} {X : List Nat} {R : Nat} {ps : List Int} {st : DSt} {g n c : Nat} {V : Nat → Nat → Value} {G : Nat → Nat → Option Nat}
theorem RdF.keep {w2 : World} (h : RdF w0 X w R ps st g n c V G) (hk : Kept w w2) : RdF w0 X w2 R ps st g n c V G :=
  { h with c0 := hk.at_ h.c0, cW := fun a b ha hb => hk.at_ (h.cW a b ha hb), cS := fun s hs => hk.at_ (h.cS s hs), cC := fun a b ha hb => hk.at_ (h.cC a b ha hb), cK := hk.at_ h.cK,
           frz := fun i => by rw [hk.frozen R i (h.lX R h.rX).2]; exact h.frz i, par := h.par.keep hk, ways := fun a b ha hb => (h.ways a b ha hb).kept hk, lX := fun x hx => ⟨(h.lX x hx).1, Nat.lt_of_lt_of_le (h.lX x hx).2 hk.size⟩ }
theorem RdIn.keep {w2 : World} (h : RdIn w0 X w R ps st) (hk : Kept w w2) : RdIn w0 X w2 R ps st := by
  obtain ⟨g, n, c, V, G, h⟩ := h
  exact ⟨g, n, c, V, G, h.keep hk⟩
theorem OpenK.same {w2 : World} {Gp : Option Nat} {v : Value} {m k : Nat} {xs : List Value} (h : OpenK w Gp v m k xs) (hs : ∀ x, Gp = some x → w2.heap[x]? = w.heap[x]?) : OpenK w2 Gp v m k xs := by
  rcases h with h | ⟨b, off, cap, hv, hG, h1, h2, h3, h4, h5⟩
  · exact .inl h
  · have e : ∀ o, w2.cell? ⟨b, o, none⟩ = w.cell? ⟨b, o, none⟩ := fun o => World.cell?_of_block (hs b hG)
    have f : ∀ o, w2.frozen? ⟨b, o, none⟩ = w.frozen? ⟨b, o, none⟩ := fun o => by unfold World.frozen?; rw [hs b hG]
    exact .inr ⟨b, off, cap, hv, hG, h1, h2, h3, fun j hj => by rw [e, f]; exact h4 j hj, fun j u hu => by rw [e]; exact h5 j u hu⟩
/-- The blocks of X, and what was there in w0, stay. -/
theorem RdF.same {w2 : World} (h : RdF w0 X w R ps st g n c V G) (h0 : Kept w0 w) (h2 : Kept w0 w2) (hz : w.heap.size ≤ w2.heap.size) (hs : ∀ x ∈ X, w2.heap[x]? = w.heap[x]?) : RdF w0 X w2 R ps st g n c V G := by
  have e : ∀ o, w2.cell? ⟨R, o, none⟩ = w.cell? ⟨R, o, none⟩ := fun o => World.cell?_of_block (hs R h.rX)
  exact { h with c0 := by rw [e]; exact h.c0, cW := fun a b ha hb => by rw [e]; exact h.cW a b ha hb, cS := fun s hs => by rw [e]; exact h.cS s hs, cC := fun a b ha hb => by rw [e]; exact h.cC a b ha hb, cK := by rw [e]; exact h.cK,
                 frz := fun i => by unfold World.frozen?; rw [hs R h.rX]; exact h.frz i, par := h.par.heap ((h2.block g h.gP).trans (h0.block g h.gP).symm), ways := fun a b ha hb => (h.ways a b ha hb).same (fun x hx => hs x (h.gX a b x hx).1), lX := fun x hx => ⟨(h.lX x hx).1, Nat.lt_of_lt_of_le (h.lX x hx).2 hz⟩ }
/-- What is told behind a step of the document's drain. -/
def RdTo (w0 : World) (X : List Nat) (w w' : World) (R : Nat) (ps : List Int) (st : DSt) : Prop := ∃ X', RdIn w0 X' w' R ps st ∧ But X w w' ∧ (∀ x ∈ X, x ∈ X') ∧ ∀ x ∈ X', x ∈ X ∨ w.heap.size ≤ x
theorem RdTo.trans {w1 w2 : World} {st1 st2 : DSt} (h : ∃ X', RdIn w0 X' w1 R ps st1 ∧ But X w w1 ∧ (∀ x ∈ X, x ∈ X') ∧ (∀ x ∈ X', x ∈ X ∨ w.heap.size ≤ x) ∧ RdTo w0 X' w1 w2 R ps st2) : RdTo w0 X w w2 R ps st2 := by
  obtain ⟨X1, h1, h2, h3, h4, X2, k1, k2, k3, k4⟩ := h
  have hz := h2.size
  refine ⟨X2, k1, ⟨k2.os.trans h2.os, k2.tape.trans h2.tape, k2.output.trans h2.output, Nat.le_trans h2.size k2.size, fun i hi hn => ?_⟩, fun x hx => k3 x (h3 x hx), fun x hx => ?_⟩
  · have hn1 : i ∉ X1 := fun hm => by
      rcases h4 i hm with h | h
      · exact hn h
      · omega
    exact (k2.block i (by omega) hn1).trans (h2.block i hi hn)
  · rcases k4 x hx with h | h
    · exact h4 x h
    · exact .inr (by omega)
theorem RdIn.to {w' : World} (h : RdIn w0 X w R ps st) (k : Kept w w') : RdTo w0 X w w' R ps st := ⟨X, h.keep k, .of_kept k, fun _ hx => hx, fun _ hx => .inl hx⟩
theorem setS_cell {i j : Nat} {v u : Value} (h : w.cell? ⟨R, j, none⟩ = some u) (hne : j ≠ i) : (w.setCell ⟨R, i, none⟩ v).cell? ⟨R, j, none⟩ = some u := by
  rw [World.cell?_setCell_other _ _ _ _ (by intro e; cases e; exact hne rfl)]; exact h
theorem rbd (h : RdIn w0 X w R ps st) : IsTree ps ∧ 1 ≤ ps.length ∧ ps.length ≤ 6 := by
  obtain ⟨g, n, c, V, G, h⟩ := h
  have := (tree_iff ps).1 h.tree
  exact ⟨h.tree, this.1, this.2.1⟩
end
set_option maxHeartbeats 1000000 in
theorem rnearD (w0 : World) (X : List Nat) (R : Nat) (ps : List Int) (st : DSt) (a b : Int) (w : World) (h : RdIn w0 X w R ps st) :
    Calls Try.prog 35 #[.pointer (some ⟨R, 0, none⟩), .int .i64 a, .int .i64 b] w fun e w' => e = .returned (.bool (nbB ps a b)) ∧ Kept w w' := by
  obtain ⟨g, n, c, V, G, h⟩ := h
  have c0 := h.c0
  have HP := Lib.hid h.par
  have hnb : nbB ps a b = decide (∃ y ∈ nearOf ps a, (y : Int) = b) := rfl
  have h6 := near_len h.tree a
  obtain ⟨l, hl⟩ : ∃ l, nearOf ps a = l := ⟨_, rfl⟩
  rw [hl] at hnb h6
  have HL := Lib.hid hl
  have HNB := Lib.hid hnb
  obtain ⟨m, hm⟩ : ∃ m, l.length = m := ⟨_, rfl⟩
  have HM := Lib.hid hm
  rw [hm] at h6
  clear h hnb hl hm
  go_enter Try.func35, Try.ntmps35
  go_wp2_with (go_at_call 16; refine (rnear _ n c ps a _ HP.out).mono ?_; rintro e w1 ⟨A1, c1, rfl, h1, k1⟩; rw [HL.out, HM.out] at h1; rw [HL.out, HM.out]; have H1 := Lib.hid h1; clear h1)
  go_loopw [8] (fun iv wr => ∃ i : Nat, i ≤ m ∧ iv = .int .i64 i ∧ Hid (∀ y ∈ l.take i, (y : Int) ≠ b) ∧ Kept w1 wr) (fun iv _ => m - (intOf iv).toNat)
  case atStart => exact ⟨0, by omega, rfl, by intro y hy; simp at hy, Kept.refl _⟩
  case round =>
    obtain ⟨i, hi, rfl, HNO, kr⟩ := hrel
    by_cases him : i < m
    · have e1 : decide ((i : Int) < m) = true := by simp; omega
      have hil : i < l.length := by rw [HM.out]; exact him
      obtain ⟨y, hy⟩ : ∃ y, l[i]? = some y := ⟨_, List.getElem?_eq_getElem hil⟩
      obtain ⟨b', off, rfl, hc⟩ := H1.out.2.2.2.2 (by omega)
      have cy : wr.cell? ⟨b', off + i, none⟩ = some (.int .i64 (y : Nat)) := kr.at_ (by
        have := hc i him
        rwa [ints_get hy] at this)
      by_cases hyb : (y : Int) = b
      · have HB : Hid (nbB ps a b = true) := by unfold Hid; rw [HNB.out]; exact decide_eq_true ⟨y, List.mem_of_getElem? hy, hyb⟩
        have e2 : ((y : Int) == b) = true := by simpa using hyb
        clear hc hy hyb
        go_wp2_with fail
        go_ret
        exact ⟨ret_bool HB.out.symm, k1.call kr⟩
      · have hnx : Hid (∀ z ∈ l.take (i + 1), (z : Int) ≠ b) := by
          intro z hz
          rw [List.take_add_one, hy] at hz
          rcases List.mem_append.1 hz with hz | hz
          · exact HNO.out z hz
          · simp at hz; rw [hz]; exact hyb
        have e2 : ((y : Int) == b) = false := by simpa using hyb
        clear hc hy hyb
        go_wp2_with fail
        go_roundw
        case rel => first | exact ⟨i + 1, by omega, by go_num, hnx, kr⟩ | ((repeat apply Exists.intro); exact ⟨⟨i + 1, by omega, by go_num, hnx, kr⟩, rfl⟩)
        case measure => simp [intOf]; omega
    · obtain rfl : i = m := by omega
      have e1 : decide ((i : Int) < i) = false := by simp
      have HB : Hid (nbB ps a b = false) := by
        unfold Hid
        rw [HNB.out]
        refine decide_eq_false ?_
        rintro ⟨y, hy, hyb⟩
        exact HNO.out y (by rw [List.take_of_length_le (by rw [HM.out]; omega)]; exact hy) hyb
      go_wp2_with fail
      go_ret
      exact ⟨ret_bool HB.out.symm, k1.call kr⟩
set_option maxHeartbeats 1000000 in
theorem rflying (w0 : World) (X : List Nat) (R : Nat) (ps : List Int) (st : DSt) (a b : Int) (w : World) (h : RdIn w0 X w R ps st) (hm : MI ps st) (ha : gd a) (hb : gd b) :
    Calls Try.prog 21 #[.pointer (some ⟨R, 0, none⟩), .int .i64 a, .int .i64 b] w fun e w' => e = .returned (.int .i64 ((st.W (a, b)).length : Nat)) ∧ Kept w w' := by
  have ht := (rbd h).1
  have h6 := (rbd h).2.2
  obtain ⟨g, n, c, V, G, h⟩ := h
  by_cases hin : 0 ≤ a ∧ a ≤ 5 ∧ 0 ≤ b ∧ b ≤ 5
  · obtain ⟨a0, a5, b0, b5⟩ := hin
    obtain ⟨x, rfl⟩ := Int.eq_ofNat_of_zero_le a0
    obtain ⟨y, rfl⟩ := Int.eq_ofNat_of_zero_le b0
    have cw := h.cW x y (by omega) (by omega)
    obtain ⟨A0, cp, hv⟩ := (h.ways x y (by omega) (by omega)).form
    rw [hv] at cw
    clear h hv ht h6 ha hb
    have d1 : decide ((x : Int) < 0) = false := by simp
    have d2 : decide (5 < (x : Int)) = false := by simp; omega
    have d3 : decide ((y : Int) < 0) = false := by simp
    have d4 : decide (5 < (y : Int)) = false := by simp; omega
    go_enter Try.func21, Try.ntmps21
    go_wp2_with fail
    go_ret
    exact ⟨rfl, by repeat (first | exact Kept.refl _ | assumption | (refine Kept.alloc ?_ _) | (refine Kept.setCell ?_ (by first | omega | (simp; omega) | simp) _) | refine Kept.drew ?_ | refine Kept.drewN ?_ _ | (apply Kept.call; rotate_left; assumption))⟩
  · have hz : st.W (a, b) = [] := by
      cases hw : st.W (a, b) with
      | nil => rfl
      | cons t r =>
        have := hm.near a b (by rw [hw]; simp)
        obtain ⟨g1, g2⟩ := nb_in ht this
        have g1 := (inB_iff _ _).1 g1
        have g2 := (inB_iff _ _).1 g2
        omega
    have HZ := Lib.hid hz
    have hcase : decide (a < 0) = true ∨ (decide (a < 0) = false ∧ decide (5 < a) = true) ∨ (decide (a < 0) = false ∧ decide (5 < a) = false ∧ decide (b < 0) = true) ∨ (decide (a < 0) = false ∧ decide (5 < a) = false ∧ decide (b < 0) = false ∧ decide (5 < b) = true) := by
      simp only [decide_eq_true_eq, decide_eq_false_iff_not]
      omega
    clear h hz ht h6 ha hb hin
    rcases hcase with d1 | ⟨d1, d2⟩ | ⟨d1, d2, d3⟩ | ⟨d1, d2, d3, d4⟩
    all_goals
      (go_enter Try.func21, Try.ntmps21
       go_wp2_with fail
       go_ret
       exact ⟨by rw [HZ.out]; rfl, by repeat (first | exact Kept.refl _ | assumption | (refine Kept.alloc ?_ _) | (refine Kept.setCell ?_ (by first | omega | (simp; omega) | simp) _) | refine Kept.drew ?_ | refine Kept.drewN ?_ _ | (apply Kept.call; rotate_left; assumption))⟩)
set_option maxRecDepth 20000 in
set_option maxHeartbeats 2000000 in
theorem rdone (w0 : World) (X : List Nat) (R : Nat) (ps : List Int) (st : DSt) (a : Int) (w : World) (h : RdIn w0 X w R ps st) (ha : gd a) :
    Calls Try.prog 25 #[.pointer (some ⟨R, 0, none⟩), .int .i64 a] w fun e w' => e = .returned (.bool (doneB ps st a)) ∧ Kept w w' := by
  have ht := (rbd h).1
  have h6 := (rbd h).2.2
  obtain ⟨g, n, c, V, G, h⟩ := h
  have hn : ps.length = n := h.par.1
  have c0 := h.c0
  by_cases hin : 0 ≤ a ∧ a < n
  · obtain ⟨a0, a5⟩ := hin
    obtain ⟨x, rfl⟩ := Int.eq_ofNat_of_zero_le a0
    have cs := h.cS x (by omega)
    have hB : inB ps.length (x : Int) = true := (inB_iff _ _).2 ⟨by omega, by omega⟩
    have d1 : decide ((x : Int) < 0) = false := by simp
    have d2 : decide ((n : Int) ≤ (x : Int)) = false := by simp; omega
    have hx6 : x < 6 := by omega
    rcases hS : st.S (x : Int) with _ | _
    · have hd : doneB ps st (x : Int) = false := by unfold doneB; rw [hS]; simp
      have HD := Lib.hid hd
      rw [hS] at cs
      clear h ht h6 hn hB hS hd ha
      go_enter Try.func25, Try.ntmps25
      go_wp2_with fail
      go_ret
      exact ⟨ret_bool HD.out.symm, by repeat (first | exact Kept.refl _ | assumption | (refine Kept.alloc ?_ _) | (refine Kept.setCell ?_ (by first | omega | (simp; omega) | simp) _) | refine Kept.drew ?_ | refine Kept.drewN ?_ _ | (apply Kept.call; rotate_left; assumption))⟩
    · have hd : doneB ps st (x : Int) = (nearOf ps (x : Int)).all fun y => st.C ((y : Int), (x : Int)) := by unfold doneB; rw [hB, hS]; rfl
      have HD := Lib.hid hd
      rw [hS] at cs
      have hl6 := near_len ht (x : Int)
      have HP := Lib.hid h.par
      obtain ⟨l, hl⟩ : ∃ l, nearOf ps (x : Int) = l := ⟨_, rfl⟩
      rw [hl] at HD hl6
      have HL := Lib.hid hl
      have hy6 : ∀ y ∈ l, y < 6 := fun y hy => by have := near_six ht (a := (x : Int)) (y := y) (by rw [hl]; exact hy); omega
      have HY6 := Lib.hid hy6
      obtain ⟨m, hm⟩ : ∃ m, l.length = m := ⟨_, rfl⟩
      have HM := Lib.hid hm
      rw [hm] at hl6
      have HC := Lib.hid h.cC
      have hRl := (h.lX R h.rX).2
      clear h ht h6 hn hB hS hd ha hl hy6 hm
      go_enter Try.func25, Try.ntmps25
      go_wp2_with (go_at_call 16; refine (rnear _ n c ps (x : Int) _ HP.out).mono ?_; rintro e w1 ⟨A1, c1, rfl, h1, k1⟩; rw [HL.out, HM.out] at h1; rw [HL.out, HM.out]; have H1 := Lib.hid h1; clear h1)
      go_loopw [6] (fun iv wr => ∃ i : Nat, i ≤ m ∧ iv = .int .i64 i ∧ Hid ((l.take i).all (fun y => st.C ((y : Int), (x : Int))) = true) ∧ Kept w1 wr) (fun iv _ => m - (intOf iv).toNat)
      case atStart => exact ⟨0, by omega, rfl, rfl, Kept.refl _⟩
      case round =>
        obtain ⟨i, hi, rfl, HT, kr⟩ := hrel
        by_cases him : i < m
        · have e1 : decide ((i : Int) < m) = true := by simp; omega
          have hil : i < l.length := by rw [HM.out]; exact him
          obtain ⟨y, hy⟩ : ∃ y, l[i]? = some y := ⟨_, List.getElem?_eq_getElem hil⟩
          have hy6 : y < 6 := HY6.out y (List.mem_of_getElem? hy)
          obtain ⟨b', off, rfl, hc⟩ := H1.out.2.2.2.2 (by omega)
          have cy : wr.cell? ⟨b', off + i, none⟩ = some (.int .i64 (y : Nat)) := kr.at_ (by
            have := hc i him
            rwa [ints_get hy] at this)
          have cc : wr.cell? ⟨R, 43 + x * 6 + y, none⟩ = some (.bool (st.C ((y : Int), (x : Int)))) := (k1.call kr).at_ (HC.out x y hx6 hy6)
          have htk : l.take (i + 1) = l.take i ++ [y] := by rw [List.take_add_one, hy]; rfl
          have hRr : R < wr.heap.size := World.block_lt_of_cell? wr _ cc
          have hbr : b' < wr.heap.size := World.block_lt_of_cell? wr _ cy
          rcases hC : st.C ((y : Int), (x : Int)) with _ | _
          · have HF : Hid (l.all (fun y => st.C ((y : Int), (x : Int))) = false) := by
              unfold Hid
              rw [List.all_eq_false]
              exact ⟨y, List.mem_of_getElem? hy, by rw [hC]; simp⟩
            rw [hC] at cc
            clear hc hy hC htk
            go_wp2_with fail
            refine wp_region_text keepsOne (fun wB => Kept wr wB ∧ wB.cell? ⟨b', off + i, none⟩ = some (.int .i64 (y : Nat)) ∧ wB.cell? ⟨R, 43 + x * 6 + y, none⟩ = some (.bool false)) ?_ (by kernel_rfl) (by kernel_rfl) _ (by (try simp only [List.append_eq, List.cons_append, List.nil_append, List.toList_toArray]); exact rfl) ?_
            · exact ⟨by repeat (first | exact Kept.refl _ | assumption | (refine Kept.alloc ?_ _) | (refine Kept.setCell ?_ (by first | omega | (simp; omega) | simp) _) | refine Kept.drew ?_ | refine Kept.drewN ?_ _ | (apply Kept.call; rotate_left; assumption)), by first | assumption | go_simp, by first | assumption | go_simp⟩
            rintro wB ⟨hkB, sB1, sB2⟩
            repeat (first | (apply DW.det; (focus (intro wd hI; have td1 := hI.at_ sB1; have td2 := hI.at_ sB2; skip; go_wp2_with (fail); refine StepPost.mk _ rfl ⟨rfl, ?_⟩; repeat (first | exact Kept.refl _ | assumption | (refine Kept.alloc ?_ _) | (refine Kept.setCell ?_ (by first | omega | (simp; omega) | simp) _) | refine Kept.drew ?_ | refine Kept.drewN ?_ _ | (apply Kept.call; rotate_left; assumption)))); simp only [Act.put, List.setIfInBounds_toArray, List.set_cons_succ, List.set_cons_zero]) | (refine DW.loud (by kernel_rfl) ?_; intro wd hI; have td1 := hI.at_ sB1; have td2 := hI.at_ sB2; skip; go_wp2_with (fail); refine StepPost.loud _ rfl (by repeat (first | exact Kept.refl _ | assumption | (refine Kept.alloc ?_ _) | (refine Kept.setCell ?_ (by first | omega | (simp; omega) | simp) _) | refine Kept.drew ?_ | refine Kept.drewN ?_ _ | (apply Kept.call; rotate_left; assumption))) (fun hkL => ?_); have hkL := hI.call hkL; have hkB := hkB.call hkL; have sB1 := hkL.at_ sB1; have sB2 := hkL.at_ sB2; simp only [Act.put, List.setIfInBounds_toArray, List.set_cons_succ, List.set_cons_zero]))
            refine DW.nil ?_
            intro wd hI
            have hkd := hkB.call hI
            have td1 := hI.at_ sB1; have td2 := hI.at_ sB2
            go_wp2_with fail
            go_ret
            exact ⟨ret_bool (HD.out.trans HF.out).symm, (k1.call kr).call hkd⟩
          · have HT2 : Hid ((l.take (i + 1)).all (fun y => st.C ((y : Int), (x : Int))) = true) := by
              unfold Hid
              rw [htk, List.all_append, HT.out]
              simp [hC]
            rw [hC] at cc
            clear hc hy hC htk
            go_wp2_with fail
            refine wp_region_text keepsOne (fun wB => Kept wr wB ∧ wB.cell? ⟨b', off + i, none⟩ = some (.int .i64 (y : Nat)) ∧ wB.cell? ⟨R, 43 + x * 6 + y, none⟩ = some (.bool true)) ?_ (by kernel_rfl) (by kernel_rfl) _ (by (try simp only [List.append_eq, List.cons_append, List.nil_append, List.toList_toArray]); exact rfl) ?_
            · exact ⟨by repeat (first | exact Kept.refl _ | assumption | (refine Kept.alloc ?_ _) | (refine Kept.setCell ?_ (by first | omega | (simp; omega) | simp) _) | refine Kept.drew ?_ | refine Kept.drewN ?_ _ | (apply Kept.call; rotate_left; assumption)), by first | assumption | go_simp, by first | assumption | go_simp⟩
            rintro wB ⟨hkB, sB1, sB2⟩
            repeat (first | (apply DW.det; (focus (intro wd hI; have td1 := hI.at_ sB1; have td2 := hI.at_ sB2; skip; go_wp2_with (fail); refine StepPost.mk _ rfl ⟨rfl, ?_⟩; repeat (first | exact Kept.refl _ | assumption | (refine Kept.alloc ?_ _) | (refine Kept.setCell ?_ (by first | omega | (simp; omega) | simp) _) | refine Kept.drew ?_ | refine Kept.drewN ?_ _ | (apply Kept.call; rotate_left; assumption)))); simp only [Act.put, List.setIfInBounds_toArray, List.set_cons_succ, List.set_cons_zero]) | (refine DW.loud (by kernel_rfl) ?_; intro wd hI; have td1 := hI.at_ sB1; have td2 := hI.at_ sB2; skip; go_wp2_with (fail); refine StepPost.loud _ rfl (by repeat (first | exact Kept.refl _ | assumption | (refine Kept.alloc ?_ _) | (refine Kept.setCell ?_ (by first | omega | (simp; omega) | simp) _) | refine Kept.drew ?_ | refine Kept.drewN ?_ _ | (apply Kept.call; rotate_left; assumption))) (fun hkL => ?_); have hkL := hI.call hkL; have hkB := hkB.call hkL; have sB1 := hkL.at_ sB1; have sB2 := hkL.at_ sB2; simp only [Act.put, List.setIfInBounds_toArray, List.set_cons_succ, List.set_cons_zero]))
            refine DW.nil ?_
            intro wd hI
            have hkd := hkB.call hI
            have td1 := hI.at_ sB1; have td2 := hI.at_ sB2
            go_wp2_with fail
            go_roundw
            case rel => first | exact ⟨i + 1, by omega, by go_num, HT2, kr.call hkd⟩ | ((repeat apply Exists.intro); exact ⟨⟨i + 1, by omega, by go_num, HT2, kr.call hkd⟩, rfl⟩)
            case measure => simp [intOf]; omega
        · obtain rfl : i = m := by omega
          have e1 : decide ((i : Int) < i) = false := by simp
          have HT2 : Hid (l.all (fun y => st.C ((y : Int), (x : Int))) = true) := by
            have := HT.out
            rwa [List.take_of_length_le (by rw [HM.out]; omega)] at this
          go_wp2_with fail
          go_ret
          exact ⟨ret_bool (HD.out.trans HT2.out).symm, k1.call kr⟩
  · have hd : doneB ps st a = false := by
      have : inB ps.length a = false := by
        cases hb : inB ps.length a with
        | false => rfl
        | true => have := (inB_iff _ _).1 hb; omega
      unfold doneB
      rw [this]; rfl
    have HD := Lib.hid hd
    have hcase : decide (a < 0) = true ∨ (decide (a < 0) = false ∧ decide ((n : Int) ≤ a) = true) := by
      simp only [decide_eq_true_eq, decide_eq_false_iff_not]
      omega
    clear h hd ht h6 hn hin
    rcases hcase with d1 | ⟨d1, d2⟩
    all_goals
      (go_enter Try.func25, Try.ntmps25
       go_wp2_with fail
       go_ret
       exact ⟨ret_bool HD.out.symm, by repeat (first | exact Kept.refl _ | assumption | (refine Kept.alloc ?_ _) | (refine Kept.setCell ?_ (by first | omega | (simp; omega) | simp) _) | refine Kept.drew ?_ | refine Kept.drewN ?_ _ | (apply Kept.call; rotate_left; assumption))⟩)
set_option maxRecDepth 20000 in
set_option maxHeartbeats 1000000 in
theorem rall (w0 : World) (X : List Nat) (R : Nat) (ps : List Int) (st : DSt) (w : World) (h : RdIn w0 X w R ps st) :
    Calls Try.prog 24 #[.pointer (some ⟨R, 0, none⟩)] w fun e w' => e = .returned (.bool (allB ps st)) ∧ Kept w w' := by
  have HD := Lib.hid h
  obtain ⟨_, _, h6⟩ := rbd h
  obtain ⟨g, n, c, V, G, h⟩ := h
  have C0 := Lib.hid h.c0
  have hn : ps.length = n := h.par.1
  have HN := Lib.hid hn
  rw [hn] at h6
  clear h hn
  go_enter Try.func24, Try.ntmps24
  go_wp2_with fail
  go_loopw [3] (fun iv wr => ∃ i : Nat, i ≤ n ∧ iv = .int .i64 i ∧ Hid ((List.range i).all (fun s => doneB ps st (s : Nat)) = true) ∧ Kept w wr) (fun iv _ => n - (intOf iv).toNat)
  case atStart => exact ⟨0, by omega, rfl, rfl, by repeat (first | exact Kept.refl _ | assumption | (refine Kept.alloc ?_ _) | (refine Kept.setCell ?_ (by first | omega | (simp; omega) | simp) _) | refine Kept.drew ?_ | refine Kept.drewN ?_ _ | (apply Kept.call; rotate_left; assumption))⟩
  case round =>
    obtain ⟨i, hi, rfl, HT, kr⟩ := hrel
    have c0 := kr.at_ C0.out
    by_cases him : i < n
    · have e1 : decide ((i : Int) < n) = true := by simp; omega
      rcases hd : doneB ps st (i : Nat) with _ | _
      · have HDN := Lib.hid hd
        have hall : allB ps st = false := by
          unfold allB
          rw [List.all_eq_false]
          exact ⟨i, List.mem_range.2 (by rw [HN.out]; exact him), by rw [hd]; simp⟩
        have HALL := Lib.hid hall
        clear hd hall
        go_wp2_with (go_at_call 25; refine (rdone w0 X R ps st _ _ (HD.out.keep kr) ⟨by omega, by omega⟩).mono ?_; rintro e w1 ⟨rfl, k1⟩; rw [HDN.out])
        go_ret
        exact ⟨ret_bool HALL.out.symm, kr.call k1⟩
      · have HDN := Lib.hid hd
        have hnx : Hid ((List.range (i + 1)).all (fun s => doneB ps st (s : Nat)) = true) := by
          unfold Hid
          rw [List.range_succ, List.all_append, HT.out]
          simp [hd]
        clear hd
        go_wp2_with (go_at_call 25; refine (rdone w0 X R ps st _ _ (HD.out.keep kr) ⟨by omega, by omega⟩).mono ?_; rintro e w1 ⟨rfl, k1⟩; rw [HDN.out])
        go_roundw
        case rel => first | exact ⟨i + 1, by omega, by go_num, hnx, kr.call k1⟩ | ((repeat apply Exists.intro); exact ⟨⟨i + 1, by omega, by go_num, hnx, kr.call k1⟩, rfl⟩)
        case measure => simp [intOf]; omega
    · obtain rfl : i = n := by omega
      have e1 : decide ((i : Int) < i) = false := by simp
      have hall : allB ps st = true := by
        unfold allB
        rw [HN.out]; exact HT.out
      have HALL := Lib.hid hall
      clear hall
      go_wp2_with fail
      go_ret
      exact ⟨ret_bool HALL.out.symm, kr⟩
end Go.Proofs.Ytbofgpmbocjbiaa
