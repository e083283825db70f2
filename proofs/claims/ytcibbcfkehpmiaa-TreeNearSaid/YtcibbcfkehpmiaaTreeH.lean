/- The laws' made: a tree by numbers, its sites turned. -/
import Derived.Test.YtcibbcfkehpmiaaTreeG
set_option linter.unusedSimpArgs false
set_option linter.unusedVariables false
namespace Go.Proofs.Ytcibbcfkehpmiaa
open Go.RowKit

/-- A tree by numbers: f i is i's parent's number, less than i; then all are turned by t. -/
structure Made (p : List Int) (n t : Nat) (f : Nat → Nat) : Prop where
  len : p.length = n
  one : 1 ≤ n
  six : n ≤ 6
  f_lt : ∀ i, 0 < i → i < n → f i < i
  at_ : ∀ i, i < n → pa p ((i + t) % n) = if i = 0 then -1 else (((f i + t) % n : Nat) : Int)
theorem turn_inj {n t i j : Nat} (hi : i < n) (hj : j < n) (h : (i + t) % n = (j + t) % n) : i = j := by
  have h1 : (i + t) % n = ((i + t % n) % n) := by rw [Nat.add_mod, Nat.mod_eq_of_lt hi]
  have h2 : (j + t) % n = ((j + t % n) % n) := by rw [Nat.add_mod, Nat.mod_eq_of_lt hj]
  have ht : t % n < n := Nat.mod_lt _ (by omega)
  rw [h1, h2] at h
  generalize t % n = s at *
  have e1 : (i + s) % n = if i + s < n then i + s else i + s - n := by
    split
    · exact Nat.mod_eq_of_lt (by assumption)
    · rw [Nat.mod_eq_sub_mod (by omega), Nat.mod_eq_of_lt (by omega)]
  have e2 : (j + s) % n = if j + s < n then j + s else j + s - n := by
    split
    · exact Nat.mod_eq_of_lt (by assumption)
    · rw [Nat.mod_eq_sub_mod (by omega), Nat.mod_eq_of_lt (by omega)]
  rw [e1, e2] at h
  split at h <;> split at h <;> omega
/-- Each site is one that was turned. -/
theorem turn_all {n t y : Nat} (hy : y < n) : ∃ i, i < n ∧ (i + t) % n = y := by
  have ht : t % n < n := Nat.mod_lt _ (by omega)
  have key : ∀ i, (i + t) % n = (i + t % n) % n := fun i => by simp
  rcases Nat.lt_or_ge y (t % n) with g | g
  · refine ⟨y + n - t % n, by omega, ?_⟩
    rw [key, show y + n - t % n + t % n = y + n by omega, Nat.add_mod_right, Nat.mod_eq_of_lt hy]
  · refine ⟨y - t % n, by omega, ?_⟩
    rw [key, show y - t % n + t % n = y by omega, Nat.mod_eq_of_lt hy]
theorem Made.tree {p : List Int} {n t : Nat} {f : Nat → Nat} (h : Made p n t f) : IsTree p := by
  have h1 := h.one
  have ex : ∀ y, ∃ i, y < n → i < n ∧ (i + t) % n = y := fun y => by
    by_cases hy : y < n
    · obtain ⟨i, hi⟩ := turn_all (t := t) hy
      exact ⟨i, fun _ => hi⟩
    · exact ⟨0, fun h => absurd h hy⟩
  let R : Nat → Nat := fun y => (ex y).choose
  have hR : ∀ y, y < n → R y < n ∧ (R y + t) % n = y := fun y hy => (ex y).choose_spec hy
  have hpa : ∀ y, y < n → pa p y = if R y = 0 then -1 else (((f (R y) + t) % n : Nat) : Int) := fun y hy => by
    have := h.at_ (R y) (hR y hy).1
    rwa [(hR y hy).2] at this
  have hmod : ∀ x, x % n < n := fun x => Nat.mod_lt _ (by omega)
  refine ⟨R, by rw [h.len]; exact h.one, by rw [h.len]; exact h.six, fun x hx => ?_, ⟨t % n, by rw [h.len]; exact hmod _, fun x hx => ?_⟩, fun x hx y hy => ?_, fun x hx => ?_⟩
  · rw [h.len] at hx ⊢
    have := hmod (f (R x) + t)
    rw [hpa x hx]
    split <;> omega
  · rw [h.len] at hx
    rw [hpa x hx]
    constructor
    · intro e
      split at e
      · rename_i e0
        have := (hR x hx).2
        rw [e0, Nat.zero_add] at this
        exact this.symm
      · omega
    · intro e
      have := (hR x hx).2
      have e0 : R x = 0 := turn_inj (t := t) (hR x hx).1 (by omega) (by rw [this, e, Nat.zero_add])
      rw [if_pos e0]
  · rw [h.len] at hx
    rw [hpa x hx] at hy
    split at hy
    · omega
    · rename_i e0
      have hf := h.f_lt (R x) (by omega) (hR x hx).1
      have hyn : y < n := by have := hmod (f (R x) + t); omega
      have := (hR y hyn).2
      have e : R y = f (R x) := turn_inj (t := t) (hR y hyn).1 (by have := (hR x hx).1; omega) (by rw [this]; omega)
      omega
  · rw [h.len] at hx
    have := (hR x hx).1
    have := h.six
    omega
theorem tmod_nat (a b : Nat) : ((a : Int)).tmod (b : Int) = ((a % b : Nat) : Int) := by
  rw [Int.tmod_eq_emod_of_nonneg (by omega)]; simp
/-- The parent's number. -/
def parOf (l : List Int) (i : Nat) : Nat := (((pa l (i - 1)).tmod i + i).tmod i).toNat
theorem par_is (l : List Int) (i : Nat) (hi : 0 < i) : ((pa l (i - 1)).tmod i + i).tmod i = (parOf l i : Int) ∧ parOf l i < i := by
  have h1 := tmod_bd (pa l (i - 1)) i (by omega)
  have h2 := Int.tmod_nonneg (i : Int) (show 0 ≤ (pa l (i - 1)).tmod i + i by omega)
  have h3 := Int.tmod_lt_of_pos ((pa l (i - 1)).tmod i + i) (show (0 : Int) < i by omega)
  unfold parOf
  omega
structure MSt (w0 : World) (Q n T : Nat) (l : List Int) (w : World) (i : Nat) (F : Nat → Int) : Prop where
  kept : Kept w0 w
  cells : ∀ k, k < n → w.cell? ⟨Q, k, none⟩ = some (.int .i64 (F k))
  frz : ∀ k, w.frozen? ⟨Q, k, none⟩ = false
  vals : ∀ k, k < i → F ((k + T) % n) = if k = 0 then -1 else (((parOf l k + T) % n : Nat) : Int)
theorem MSt.put {w0 : World} {Q n T : Nat} {l : List Int} {w : World} {i : Nat} {F : Nat → Int} (h : MSt w0 Q n T l w i F) (hQ : w0.heap.size ≤ Q) (hi : i < n) (v : Int) (hv : v = if i = 0 then -1 else (((parOf l i + T) % n : Nat) : Int)) :
    MSt w0 Q n T l (w.setCell ⟨Q, (i + T) % n, none⟩ (.int .i64 v)) (i + 1) (fun k => if k = (i + T) % n then v else F k) := by
  have hmod : (i + T) % n < n := Nat.mod_lt _ (by omega)
  refine ⟨h.kept.setCell hQ _, fun k hk => ?_, fun k => by rw [World.frozen?_setCell]; exact h.frz k, fun k hk => ?_⟩
  · by_cases e : k = (i + T) % n
    · subst e
      rw [World.cell?_setCell_same _ _ _ (h.cells _ hmod), if_pos rfl]
    · rw [World.cell?_setCell_other _ _ _ _ (by intro g; cases g; exact e rfl), if_neg e]
      exact h.cells k hk
  · by_cases e : k = i
    · subst e
      rw [if_pos rfl]
      exact hv
    · rw [if_neg (fun g => e (turn_inj (by omega) hi g))]
      exact h.vals k (by omega)
theorem madeInt_get (n i : Nat) (hi : i < n) : (madeCells (Value.int .i64 0).cells n)[i]? = some (.int .i64 0) := by
  unfold madeCells
  simp [Value.cells, hi, Nat.mod_one]
theorem MSt.start (w : World) (n T : Nat) (l : List Int) {w0 : World} (hk : Kept w0 w) : MSt w0 w.heap.size n T l (w.alloc (.cells (madeCells (Value.int .i64 0).cells n) 3)) 0 (fun _ => 0) := by
  have hq : (w.alloc (.cells (madeCells (Value.int .i64 0).cells n) 3)).heap[w.heap.size]? = some (.cells (madeCells (Value.int .i64 0).cells n) 3) := heap_alloc_new _ _
  refine ⟨hk.alloc _, fun k hk => ?_, fun k => ?_, fun k hk => by omega⟩
  · rw [cell_of_row _ _ k _ _ (0, 0) hq, madeInt_get n k hk]
  · unfold World.frozen?
    rw [hq]
    simp
theorem tmod_succ (a j : Nat) : ((a : Int)).tmod ((j : Int) + 1) = ((a % (j + 1) : Nat) : Int) := tmod_nat a (j + 1)
theorem tmod_add (a b j : Nat) : ((a : Int) + (b : Int)).tmod ((j : Int) + 1) = (((a + b) % (j + 1) : Nat) : Int) := tmod_nat (a + b) (j + 1)
theorem tmod_add1 (a b j : Nat) : ((a : Int) + 1 + (b : Int)).tmod ((j : Int) + 1) = (((a + 1 + b) % (j + 1) : Nat) : Int) := tmod_nat (a + 1 + b) (j + 1)
set_option maxHeartbeats 4000000 in
theorem made_any (A : Option Addr) (m c : Nat) (l : List Int) (a : Int) (w : World) (hx : IntsAt w A m c l) :
    Calls Try.prog 10 #[.slice A m c, .int .i64 a] w fun e w' => ∃ (p : List Int) (n t : Nat) (g : Nat), n = 1 + min m 5 ∧ t ≤ 7 ∧ (a = 0 → t = 0) ∧ e = .returned (.slice (some ⟨g, 0, none⟩) n n) ∧ w.heap.size ≤ g ∧ IntsAt w' (some ⟨g, 0, none⟩) n n p ∧ Made p n t (parOf l) ∧ Kept w w' := by
  obtain ⟨i0, hi, hz0, hz1, hz2⟩ := info_parts infoInt
  have hm : m ≤ 9223372036854775807 := by have h1 := hx.2.1; have h2 := hx.2.2.1; unfold maxLen at h2; omega
  have HX := Lib.hid hx
  have HI := Lib.hid hi
  obtain ⟨T, hT, hT7, hT0⟩ : ∃ T : Nat, bits .and .i64 a 7 = (T : Int) ∧ T ≤ 7 ∧ (a = 0 → T = 0) := by
    obtain ⟨h1, h2⟩ := and_bd a 7 (by omega) (by omega)
    refine ⟨(bits .and .i64 a 7).toNat, by omega, by omega, fun h => ?_⟩
    subst h
    rfl
  clear hx hi
  go_enter Try.func10, Try.ntmps10
  go_wp2_with fail
  go_loopw [5, 6] (fun nv iv wr => ∃ j : Nat, j ≤ m ∧ j ≤ 5 ∧ nv = .int .i64 ((j : Int) + 1) ∧ iv = .int .i64 j ∧ Kept w wr) (fun _ iv _ => m - (intOf iv).toNat)
  case atStart => exact ⟨0, by omega, by omega, rfl, rfl, by repeat (first | exact Kept.refl _ | assumption | (refine Kept.alloc ?_ _) | (refine Kept.setCell ?_ (by first | omega | (simp; omega) | simp) _) | refine Kept.drew ?_ | refine Kept.drewN ?_ _ | (apply Kept.call; rotate_left; assumption))⟩
  case round =>
    obtain ⟨j, hjm, hj5, rfl, rfl, kr⟩ := hrel
    by_cases hlt : j < m ∧ j < 5
    · have d1 : decide ((j : Int) < m) = true := by simp; omega
      have d2 : decide ((j : Int) < 5) = true := by simp; omega
      go_wp2_with fail
      go_roundw
      case rel => first | exact ⟨j + 1, by omega, by omega, by go_num, by go_num, kr⟩ | ((repeat apply Exists.intro); exact ⟨⟨j + 1, by omega, by omega, by go_num, by go_num, kr⟩, rfl⟩)
      case measure => simp [intOf]; omega
    · have hj : j = min m 5 := by omega
      have d : m ≤ j ∨ (j < m ∧ 5 ≤ j) := by omega
      have hms : ∀ (w : World), (Instr.makeSlice 22 (.int .i64 ((j : Int) + 1)) (.int .i64 ((j : Int) + 1))).run Try.prog w = .ok (.slice (some ⟨w.heap.size, 0, none⟩) (j + 1) (j + 1)) (w.alloc (.cells (madeCells (Value.int .i64 0).cells (j + 1)) 3)) := fun w => by
        have h := run_makeSlice (P := Try.prog) w 22 3 i0 (.int .i64 0) Try.underlying22 HI.out hz0 .i64 .i64 (j + 1 : Nat) (j + 1 : Nat) (by omega) (by omega) (by rw [hz1]; simp; omega) (by rw [hz2]; omega) (by omega)
        rw [hz1] at h
        simpa using h
      have HJ := Lib.hid hj
      clear hj hlt
      rcases d with d | ⟨d, d2⟩
      · have e1 : decide ((j : Int) < m) = false := by simp; omega
        go_wp2_with fail
        have MST := Lib.hid (MSt.start wr (j + 1) T l (w0 := w) kr)
        have HQ : Hid (w.heap.size ≤ wr.heap.size) := kr.size
        clear hms
        generalize wr.heap.size = Q at MST HQ ⊢
        go_loopw [8] (fun iv wr => ∃ (i : Nat) (F : Nat → Int), i ≤ j + 1 ∧ iv = .int .i64 i ∧ MSt w Q (j + 1) T l wr i F) (fun iv _ => j + 1 - (intOf iv).toNat)
        case atStart => exact ⟨0, _, by omega, rfl, MST.out⟩
        case round =>
          obtain ⟨i, F, hin, rfl, st⟩ := hrel
          have ST := Lib.hid st
          by_cases hlt : i < j + 1
          · have hmod : (i + T) % (j + 1) < j + 1 := Nat.mod_lt _ (by omega)
            by_cases h0 : i = 0
            · have PUT := Lib.hid (ST.out.put HQ.out hlt (-1) (by rw [if_pos h0]))
              subst h0
              have hix := tmod_succ T j
              rw [Nat.zero_add] at PUT hmod
              have c1 := st.cells _ hmod
              have f1 := st.frz (T % (j + 1))
              clear st
              generalize T % (j + 1) = z at *
              go_wp2_with fail
              go_roundw
              case rel => first | exact ⟨1, _, by omega, by go_num, PUT.out⟩ | ((repeat apply Exists.intro); exact ⟨⟨1, _, by omega, by go_num, PUT.out⟩, rfl⟩)
              case measure => first | (simp [intOf]; done) | (simp [intOf]; omega)
            · obtain ⟨y, rfl⟩ : ∃ y, i = y + 1 := ⟨i - 1, by omega⟩
              obtain ⟨b, off, rfl, hc⟩ := (HX.out.keep st.kept).2.2.2.2 (by omega)
              have cl : wr.cell? ⟨b, off + y, none⟩ = some (.int .i64 (pa l y)) := hc y (by omega)
              obtain ⟨hp1, hp2⟩ := par_is l (y + 1) (by omega)
              have hb := tmod_bd (pa l y) ((y : Int) + 1) (by omega)
              have hp3 : ((pa l y).tmod ((y : Int) + 1) + ((y : Int) + 1)).tmod ((y : Int) + 1) = (parOf l (y + 1) : Int) := hp1
              have PUT := Lib.hid (ST.out.put HQ.out hlt (((parOf l (y + 1) + T) % (j + 1) : Nat) : Int) (by rw [if_neg h0]))
              have hix := tmod_add1 y T j
              have hiq := tmod_add (parOf l (y + 1)) T j
              have hmq : (parOf l (y + 1) + T) % (j + 1) < j + 1 := Nat.mod_lt _ (by omega)
              have c1 := st.cells _ hmod
              have f1 := st.frz ((y + 1 + T) % (j + 1))
              clear st hc hp1 h0
              generalize (y + 1 + T) % (j + 1) = z at *
              generalize (parOf l (y + 1) + T) % (j + 1) = q at *
              generalize parOf l (y + 1) = x at *
              go_wp2_with fail
              go_roundw
              case rel => first | exact ⟨y + 1 + 1, _, by omega, by go_num, PUT.out⟩ | ((repeat apply Exists.intro); exact ⟨⟨y + 1 + 1, _, by omega, by go_num, PUT.out⟩, rfl⟩)
              case measure => simp [intOf]; omega
          · obtain rfl : i = j + 1 := by omega
            go_wp2_with fail
            go_ret
            refine ⟨(List.range (j + 1)).map F, j + 1, T, Q, by have := HJ.out; omega, hT7, hT0, rfl, HQ.out, ⟨by simp, Nat.le_refl _, by unfold maxLen; omega, (fun h => by cases h), fun _ => ⟨Q, 0, rfl, fun k hk => ?_⟩⟩, ⟨by simp, by omega, by omega, fun k h1 h2 => (par_is l k h1).2, fun k hk => ?_⟩, ST.out.kept⟩
            · rw [Nat.zero_add, ST.out.cells k hk]
              simp [List.getElem?_map, List.getElem?_range hk]
            · have hm : (k + T) % (j + 1) < j + 1 := Nat.mod_lt _ (by omega)
              unfold pa
              rw [List.getElem?_map, List.getElem?_range hm]
              exact ST.out.vals k hk
      · have e1 : decide ((j : Int) < m) = true := by simp; omega
        have e2 : decide ((j : Int) < 5) = false := by simp; omega
        go_wp2_with fail
        have MST := Lib.hid (MSt.start wr (j + 1) T l (w0 := w) kr)
        have HQ : Hid (w.heap.size ≤ wr.heap.size) := kr.size
        clear hms
        generalize wr.heap.size = Q at MST HQ ⊢
        go_loopw [8] (fun iv wr => ∃ (i : Nat) (F : Nat → Int), i ≤ j + 1 ∧ iv = .int .i64 i ∧ MSt w Q (j + 1) T l wr i F) (fun iv _ => j + 1 - (intOf iv).toNat)
        case atStart => exact ⟨0, _, by omega, rfl, MST.out⟩
        case round =>
          obtain ⟨i, F, hin, rfl, st⟩ := hrel
          have ST := Lib.hid st
          by_cases hlt : i < j + 1
          · have hmod : (i + T) % (j + 1) < j + 1 := Nat.mod_lt _ (by omega)
            by_cases h0 : i = 0
            · have PUT := Lib.hid (ST.out.put HQ.out hlt (-1) (by rw [if_pos h0]))
              subst h0
              have hix := tmod_succ T j
              rw [Nat.zero_add] at PUT hmod
              have c1 := st.cells _ hmod
              have f1 := st.frz (T % (j + 1))
              clear st
              generalize T % (j + 1) = z at *
              go_wp2_with fail
              go_roundw
              case rel => first | exact ⟨1, _, by omega, by go_num, PUT.out⟩ | ((repeat apply Exists.intro); exact ⟨⟨1, _, by omega, by go_num, PUT.out⟩, rfl⟩)
              case measure => first | (simp [intOf]; done) | (simp [intOf]; omega)
            · obtain ⟨y, rfl⟩ : ∃ y, i = y + 1 := ⟨i - 1, by omega⟩
              obtain ⟨b, off, rfl, hc⟩ := (HX.out.keep st.kept).2.2.2.2 (by omega)
              have cl : wr.cell? ⟨b, off + y, none⟩ = some (.int .i64 (pa l y)) := hc y (by omega)
              obtain ⟨hp1, hp2⟩ := par_is l (y + 1) (by omega)
              have hb := tmod_bd (pa l y) ((y : Int) + 1) (by omega)
              have hp3 : ((pa l y).tmod ((y : Int) + 1) + ((y : Int) + 1)).tmod ((y : Int) + 1) = (parOf l (y + 1) : Int) := hp1
              have PUT := Lib.hid (ST.out.put HQ.out hlt (((parOf l (y + 1) + T) % (j + 1) : Nat) : Int) (by rw [if_neg h0]))
              have hix := tmod_add1 y T j
              have hiq := tmod_add (parOf l (y + 1)) T j
              have hmq : (parOf l (y + 1) + T) % (j + 1) < j + 1 := Nat.mod_lt _ (by omega)
              have c1 := st.cells _ hmod
              have f1 := st.frz ((y + 1 + T) % (j + 1))
              clear st hc hp1 h0
              generalize (y + 1 + T) % (j + 1) = z at *
              generalize (parOf l (y + 1) + T) % (j + 1) = q at *
              generalize parOf l (y + 1) = x at *
              go_wp2_with fail
              go_roundw
              case rel => first | exact ⟨y + 1 + 1, _, by omega, by go_num, PUT.out⟩ | ((repeat apply Exists.intro); exact ⟨⟨y + 1 + 1, _, by omega, by go_num, PUT.out⟩, rfl⟩)
              case measure => simp [intOf]; omega
          · obtain rfl : i = j + 1 := by omega
            go_wp2_with fail
            go_ret
            refine ⟨(List.range (j + 1)).map F, j + 1, T, Q, by have := HJ.out; omega, hT7, hT0, rfl, HQ.out, ⟨by simp, Nat.le_refl _, by unfold maxLen; omega, (fun h => by cases h), fun _ => ⟨Q, 0, rfl, fun k hk => ?_⟩⟩, ⟨by simp, by omega, by omega, fun k h1 h2 => (par_is l k h1).2, fun k hk => ?_⟩, ST.out.kept⟩
            · rw [Nat.zero_add, ST.out.cells k hk]
              simp [List.getElem?_map, List.getElem?_range hk]
            · have hm : (k + T) % (j + 1) < j + 1 := Nat.mod_lt _ (by omega)
              unfold pa
              rw [List.getElem?_map, List.getElem?_range hm]
              exact ST.out.vals k hk
end Go.Proofs.Ytcibbcfkehpmiaa
