/- The program's below: all that hang from one, each once. -/
import Derived.Test.YtbofgpmbocjbiaaTreeW
import Derived.Laws.MakeOwn
set_option linter.unusedSimpArgs false
set_option linter.unusedVariables false
namespace Go.Proofs.Ytbofgpmbocjbiaa
open Go.RowKit

/-- Each one's parent stands ahead of it. -/
def Grow (p : List Int) (l : List Nat) : Prop := ∀ (k y : Nat), l[k]? = some y → pa p y = -1 ∨ ∃ (j z : Nat), j < k ∧ l[j]? = some z ∧ pa p y = z
structure Belo (p : List Int) (l : List Nat) : Prop where
  nd : l.Nodup
  lt : ∀ x ∈ l, x < p.length
  gr : Grow p l
theorem Belo.snoc {p : List Int} {l : List Nat} (h : Belo p l) {x : Nat} (hx : x < p.length) (hn : x ∉ l) (hp : pa p x = -1 ∨ ∃ z : Nat, z ∈ l ∧ pa p x = z) : Belo p (l ++ [x]) := by
  refine ⟨List.nodup_append.2 ⟨h.nd, by simp, fun a ha b hb => by
    obtain rfl : b = x := by simpa using hb
    exact fun e => hn (e ▸ ha)⟩, fun y hy => ?_, fun k y hk => ?_⟩
  · rcases List.mem_append.1 hy with hy | hy
    · exact h.lt y hy
    · obtain rfl : y = x := by simpa using hy
      exact hx
  · rcases Nat.lt_or_ge k l.length with g | g
    · rw [List.getElem?_append_left g] at hk
      rcases h.gr k y hk with h1 | ⟨j, z, h1, h2, h3⟩
      · exact .inl h1
      · exact .inr ⟨j, z, h1, by rw [List.getElem?_append_left (by omega)]; exact h2, h3⟩
    · rw [List.getElem?_append_right g] at hk
      have hk0 : k - l.length = 0 := by
        rcases Nat.eq_zero_or_pos (k - l.length) with h | h
        · exact h
        · rw [List.getElem?_eq_none (by simp; omega)] at hk; cases hk
      rw [hk0] at hk
      obtain rfl : x = y := by simpa using hk
      rcases hp with h1 | ⟨z, hz, h1⟩
      · exact .inl h1
      · obtain ⟨j, hj⟩ := List.getElem?_of_mem hz
        have : j < l.length := by
          rcases Nat.lt_or_ge j l.length with g | g
          · exact g
          · rw [List.getElem?_eq_none g] at hj; cases hj
        exact .inr ⟨j, z, by omega, by rw [List.getElem?_append_left this]; exact hj, h1⟩
theorem Belo.len {p : List Int} {l : List Nat} (h : Belo p l) : l.length ≤ p.length := nodup_lt _ l h.nd h.lt
/-- All whose parent y is are in m. -/
def Has (p : List Int) (m : List Nat) (y : Nat) : Prop := ∀ i, i < p.length → pa p i = y → i ∈ m

structure BIn (p : List Int) (out : List Nat) (x : Nat) (o : List Nat) (j : Nat) : Prop where
  be : Belo p o
  pre : (out ++ [x]) <+: o
  old : ∀ y ∈ o, y ∉ out → y ≠ x → Has p o y
  now : ∀ i, i < j → pa p i = x → i ∈ o
theorem BIn.same {p : List Int} {out o : List Nat} {x j : Nat} (h : BIn p out x o j) (hj : pa p j = x → j ∈ o) : Hid (BIn p out x o (j + 1)) :=
  ⟨h.be, h.pre, h.old, fun i hi hp => by
    rcases Nat.lt_or_ge i j with g | g
    · exact h.now i g hp
    · obtain rfl : i = j := by omega
      exact hj hp⟩
theorem BIn.call {p : List Int} {out o o2 : List Nat} {x j : Nat} (h : BIn p out x o j) (be : Belo p o2) (pre : (o ++ [j]) <+: o2) (has : ∀ y ∈ o2, y ∉ o → Has p o2 y) : BIn p out x o2 (j + 1) := by
  have hsub : ∀ y ∈ o, y ∈ o2 := fun y hy => pre.subset (by simp [hy])
  refine ⟨be, h.pre.trans ((List.prefix_append o [j]).trans pre), fun y hy h1 h2 => ?_, fun i hi hp => ?_⟩
  · by_cases e : y ∈ o
    · exact fun i hi hp => hsub i (h.old y e h1 h2 i hi hp)
    · exact has y hy e
  · rcases Nat.lt_or_ge i j with g | g
    · exact hsub i (h.now i g hp)
    · obtain rfl : i = j := by omega
      exact pre.subset (by simp)
theorem BIn.done {p : List Int} {out o : List Nat} {x n : Nat} (h : BIn p out x o n) (hn : p.length = n) : ∀ y ∈ o, y ∉ out → Has p o y := fun y hy h1 => by
  by_cases e : y = x
  · subst e
    exact fun i hi hp => h.now i (by omega) hp
  · exact h.old y hy h1 e

/-- The state of the closure: seen, out. -/
structure BSt (w0 : World) (base P S Q O I : Nat) (A : Option Addr) (n c : Nat) (f : Value) (w : World) (out : List Nat) : Prop where
  kept : Kept w0 w
  bas : base ≤ w.heap.size
  cP : w.cell? ⟨P, 0, none⟩ = some (.slice A n c)
  cS : w.cell? ⟨S, 0, none⟩ = some (.slice (some ⟨Q, 0, none⟩) n n)
  cI : w.cell? ⟨I, 0, none⟩ = some f
  seen : ∀ i, i < n → w.cell? ⟨Q, i, none⟩ = some (.bool (decide (i ∈ out)))
  fQ : ∀ i, w.frozen? ⟨Q, i, none⟩ = false
  fO : w.frozen? ⟨O, 0, none⟩ = false
  out : ∃ v, w.cell? ⟨O, 0, none⟩ = some v ∧ w.ownsRow base 3 1 v out.length (natC out)

theorem BSt.grown {w0 : World} {base P S Q O I : Nat} (hb : w0.heap.size ≤ P ∧ w0.heap.size ≤ S ∧ w0.heap.size ≤ Q ∧ w0.heap.size ≤ O ∧ w0.heap.size ≤ I ∧ P < base ∧ S < base ∧ Q < base ∧ O < base ∧ I < base ∧ O ≠ P ∧ O ≠ S ∧ O ≠ Q ∧ O ≠ I ∧ Q ≠ P ∧ Q ≠ S ∧ Q ≠ I)
    {A : Option Addr} {n c : Nat} {f : Value} {w : World} {out : List Nat} (h : BSt w0 base P S Q O I A n c f w out) {x : Nat} (hx : x < n) {v v3 : Value} {o : Obj} {w3 : World} (hv : w.cell? ⟨O, 0, none⟩ = some v) (hlt : ∀ g, v.ownBlock = some g → base ≤ g)
    (hg : ((w.setCell ⟨Q, x, none⟩ (.bool true)).alloc o).grownBy w3 v.ownBlock) (ho : w3.ownsRow base 3 1 v3 (out.length + 1) (natC out ++ [.int .i64 (x : Nat)])) :
    BSt w0 base P S Q O I A n c f (w3.setCell ⟨O, 0, none⟩ v3) (out ++ [x]) ∧ w3.cell? ⟨O, 0, none⟩ = some v := by
  obtain ⟨b1, b2, b3, b4, b5, b6, b7, b8, b9, b10, b11, b12, b13, b14, b15, b16, b17⟩ := hb
  have far : ∀ k i u, k < base → k ≠ Q → w.cell? ⟨k, i, none⟩ = some u → w3.cell? ⟨k, i, none⟩ = some u := fun k i u hk hq hc => by
    refine hg.cell ?_ (fun e => by have := hlt k e.symm; omega)
    have hk2 : k < w.heap.size := World.block_lt_of_cell? w _ hc
    rw [Below.cell (B := w.heap.size) (((Below.refl _ _).alloc (by simp [World.setCell]) o)) (by simpa using hk2)] 
    rw [World.cell?_setCell_other _ _ _ _ (by intro e; cases e; omega)]
    exact hc
  have c3 := far O 0 v (by omega) (by omega) hv
  have other : ∀ k i u, k ≠ O → w3.cell? ⟨k, i, none⟩ = some u → (w3.setCell ⟨O, 0, none⟩ v3).cell? ⟨k, i, none⟩ = some u := fun k i u hk hc => by
    rw [World.cell?_setCell_other _ _ _ _ (by intro e; cases e; omega)]
    exact hc
  have frz : ∀ k i u, k < base → w.cell? ⟨k, 0, none⟩ = some u → w3.frozen? ⟨k, i, none⟩ = w.frozen? ⟨k, i, none⟩ := fun k i u hk hc => by
    have hk2 : k < w.heap.size := World.block_lt_of_cell? w _ hc
    rw [World.frozen?_of_block (w := (w.setCell ⟨Q, x, none⟩ (.bool true)).alloc o) (hg.block k (by first | (simp [World.setCell]; done) | (simp [World.setCell]; omega)) (fun e => by have := hlt k e.symm; omega)), World.frozen?_alloc_old _ _ _ (by first | (simp; done) | (simp; omega)), World.frozen?_setCell]
  refine ⟨⟨?_, ?_, ?_, ?_, ?_, ?_, ?_, ?_, ?_⟩, c3⟩
  · refine (Kept.grown ((h.kept.setCell (by simpa using b3) _).alloc o) hg (fun g e => ?_)).setCell (by simpa using b4) _
    have := hlt g e
    have := h.kept.size
    omega
  · have h1 := hg.size
    have h2 := h.bas
    simp [World.setCell] at h1 ⊢
    omega
  · exact other _ _ _ (by omega) (far _ _ _ b6 (by omega) h.cP)
  · exact other _ _ _ (by omega) (far _ _ _ b7 (by omega) h.cS)
  · exact other _ _ _ (by omega) (far _ _ _ b10 (by omega) h.cI)
  · intro i hi
    have hc := h.seen i hi
    have hk2 : Q < w.heap.size := World.block_lt_of_cell? w _ hc
    refine other _ _ _ (by omega) (hg.cell ?_ (fun e => by have := hlt Q e.symm; omega))
    rw [Below.cell (B := w.heap.size) (((Below.refl _ _).alloc (by simp [World.setCell]) o)) (by simpa using hk2)] 
    by_cases e : i = x
    · subst e
      rw [World.cell?_setCell_same _ _ _ hc]
      simp
    · rw [World.cell?_setCell_other _ _ _ _ (by intro e; cases e; omega), hc]
      simp [e]
  · intro i
    rw [World.frozen?_setCell, frz Q i _ b8 (h.seen 0 (by omega))]
    exact h.fQ i
  · rw [World.frozen?_setCell, frz O 0 _ b9 hv]
    exact h.fO
  · refine ⟨v3, World.cell?_setCell_same _ _ _ c3, ?_⟩
    rw [List.length_append, ← natC_snoc]
    exact ownsRow_setCell_below ho (by simpa using b9) _

set_option maxHeartbeats 4000000 in
theorem below_in (w0 : World) (base P S Q O I : Nat) (hb : w0.heap.size ≤ P ∧ w0.heap.size ≤ S ∧ w0.heap.size ≤ Q ∧ w0.heap.size ≤ O ∧ w0.heap.size ≤ I ∧ P < base ∧ S < base ∧ Q < base ∧ O < base ∧ I < base ∧ O ≠ P ∧ O ≠ S ∧ O ≠ Q ∧ O ≠ I ∧ Q ≠ P ∧ Q ≠ S ∧ Q ≠ I)
    (A : Option Addr) (n c : Nat) (p : List Int) (h6 : n ≤ 6) (hx : IntsAt w0 A n c p) (f : Value) (hf : f = .func (.func 41) #[] #[.pointer (some ⟨S, 0, none⟩), .pointer (some ⟨O, 0, none⟩), .pointer (some ⟨P, 0, none⟩), .pointer (some ⟨I, 0, none⟩)]) :
    ∀ (k : Nat) (out : List Nat) (x : Nat) (w : World), n ≤ out.length + k → x < n → x ∉ out → Belo p out → (pa p x = -1 ∨ ∃ z : Nat, z ∈ out ∧ pa p x = z) → BSt w0 base P S Q O I A n c f w out →
    Calls Try.prog 41 #[.int .i64 x, .pointer (some ⟨S, 0, none⟩), .pointer (some ⟨O, 0, none⟩), .pointer (some ⟨P, 0, none⟩), .pointer (some ⟨I, 0, none⟩)] w fun e w' =>
      e = .returned (.tuple #[]) ∧ ∃ out', BSt w0 base P S Q O I A n c f w' out' ∧ Belo p out' ∧ (out ++ [x]) <+: out' ∧ ∀ y ∈ out', y ∉ out → Has p out' y := by
  obtain ⟨i0, hi, hz0, hz1, hz2⟩ := info_parts infoInt
  have HI := Lib.hid hi
  clear hi
  subst hf
  intro k
  induction k with
  | zero =>
    intro out x w hk hxn hxo hbe hpx hst
    have := (hbe.snoc (by rw [hx.1]; exact hxn) hxo hpx).len
    rw [hx.1] at this
    simp at this
    omega
  | succ k ih =>
    intro out x w hk hxn hxo hbe hpx hst
    have hol : out.length ≤ n := by have := hbe.len; rw [hx.1] at this; exact this
    have hb2 := hbe.snoc (by rw [hx.1]; exact hxn) hxo hpx
    have HB := Lib.hid hb
    have HX := Lib.hid hx
    have HIH := Lib.hid ih
    have HB2 := Lib.hid hb2
    have HST := Lib.hid hst
    obtain ⟨kw, bw, cP, cS, cI, hseen, hfQ, hfO, v, cO, ho⟩ := hst
    have fQx := hfQ x
    have hOw : O < w.heap.size := World.block_lt_of_cell? w _ cO
    have sx := hseen x hxn
    have HO := Lib.hid ho
    have hol2 : Hid ((natC out).length = out.length * 1) := by unfold Hid; rw [natC_len, Nat.mul_one]
    obtain ⟨b1, b2, b3, b4, b5, b6, b7, b8, b9, b10, b11, b12, b13, b14, b15, b16, b17⟩ := hb
    clear hb2 hbe hpx ih hx ho hseen
    have HLEN : Hid (out.length = out.length) := rfl
    generalize hl : out.length = l at *
    replace HLEN : Hid (out.length = l) := hl
    clear hl
    have hn64 : (n : Nat) ≤ 9223372036854775807 := by omega
    go_enter Try.func41, Try.ntmps41
    go_wp2_with (at_builtin; refine wpList_append_own _ rfl _ _ 22 rfl base 3 i0 (.int .i64 0) 1 8 Try.underlying22 HI.out hz0 hz1 hz2 rfl (by decide) _ l _ rfl ((ownsRow_setCell_below HO.out (by first | assumption | (simp; omega)) _).alloc _) ⟨w.heap.size, 0, none⟩ 1 1 [.int .i64 (x : Nat)] rfl rfl (cell_one_new2 _ _ _ _ _) (by simp [Value.oneCell']) (by unfold maxLen; omega) (by omega) (by simp; omega) ?_; intro v3 w3 hown3 hgrow3 _; obtain ⟨A3, c3, rfl⟩ := own_slice hown3; have HL3 := HO.out.lt; have fO3 : w3.frozen? ⟨O, 0, none⟩ = false := (by rw [World.frozen?_of_block (w := (w.setCell ⟨Q, x, none⟩ (.bool true)).alloc (.cells #[.int .i64 (x : Int)] 3)) (hgrow3.block O (by first | (simp [World.setCell]; done) | (simp [World.setCell]; omega)) (fun e => by have := (HL3 O e.symm).1; omega)), World.frozen?_alloc_old _ _ _ (by first | (simp; done) | (simp; omega)), World.frozen?_setCell]; exact hfO); obtain ⟨st4, cO3⟩ := HST.out.grown HB.out hxn cO (fun g hg => (HL3 g hg).1) hgrow3 (by first | exact hown3 | (rw [HLEN.out]; exact hown3)); have HS4 := Lib.hid st4; have cP4 := st4.cP; clear st4 hown3 hgrow3)
    go_loopw [17] (fun iv wr => ∃ (j : Nat) (o : List Nat), j ≤ n ∧ iv = .int .i64 j ∧ BSt w0 base P S Q O I A n c (.func (.func 41) #[] #[.pointer (some ⟨S, 0, none⟩), .pointer (some ⟨O, 0, none⟩), .pointer (some ⟨P, 0, none⟩), .pointer (some ⟨I, 0, none⟩)]) wr o ∧ Hid (BIn p out x o j)) (fun iv _ => n - (intOf iv).toNat)
    case atStart => exact ⟨0, _, by omega, rfl, HS4.out, ⟨HB2.out, List.prefix_refl _, fun y hy h1 h2 => absurd (List.mem_append.1 hy) (by simp; exact ⟨h1, h2⟩), fun i hi => by omega⟩⟩
    case round =>
      obtain ⟨j, o, hj, rfl, st, hin⟩ := hrel
      have HS := Lib.hid st
      by_cases hlt : j < n
      · obtain ⟨b, off, rfl, hc⟩ := (HX.out.keep st.kept).2.2.2.2 (by omega)
        have c1 : wr.cell? ⟨b, off + j, none⟩ = some (.int .i64 (pa p j)) := hc j hlt
        have c2 := st.seen j hlt
        have c3 := st.cS
        have c4 := st.cI
        clear hc st
        by_cases e1 : pa p j = x
        · rw [e1] at c1
          by_cases e2 : j ∈ o
          · rw [decide_eq_true e2] at c2
            have hn := hin.out.same (fun _ => e2)
            clear e1 e2
            go_wp2_with fail
            go_roundw
            case rel => exact ⟨j + 1, o, by omega, by go_num, HS.out, hn⟩
            case measure => simp [intOf]; omega
          · rw [decide_eq_false e2] at c2
            have E1 := Lib.hid e1
            have E2 := Lib.hid e2
            clear e1 e2
            go_wp2_with fail
            refine (HIH.out o j wr (by have h1 := hin.out.pre.length_le; have h2 := HLEN.out; rw [List.length_append, h2] at h1; simp at h1; omega) hlt E2.out hin.out.be (.inr ⟨x, hin.out.pre.subset (by simp), E1.out⟩) HS.out).mono ?_
            rintro e w5 ⟨rfl, o2, st2, be2, pre2, has2⟩
            have ST2 := Lib.hid st2
            have hn : Hid (BIn p out x o2 (j + 1)) := hin.out.call be2 pre2 has2
            clear st2 be2 pre2 has2
            go_wp2_with fail
            go_roundw
            case rel => exact ⟨j + 1, o2, by omega, by go_num, ST2.out, hn⟩
            case measure => simp [intOf]; omega
        · have d1 : (pa p j == (x : Int)) = false := by simpa using e1
          have hn := hin.out.same (fun h => absurd h e1)
          clear e1
          generalize pa p j = q at *
          go_wp2_with fail
          go_roundw
          case rel => exact ⟨j + 1, o, by omega, by go_num, HS.out, hn⟩
          case measure => simp [intOf]; omega
      · obtain rfl : j = n := by omega
        go_wp2_with fail
        go_end0
        exact ⟨rfl, o, HS.out, hin.out.be, hin.out.pre, hin.out.done HX.out.1⟩
theorem infoBool : (Try.prog.info? 4).map (fun i => (i.zero, i.size, i.bytes)) = some (some (.bool false), 1, 1) := by kernel_rfl
theorem made_get (n i : Nat) (hi : i < n) : (madeCells (Value.bool false).cells n)[i]? = some (.bool false) := by
  unfold madeCells
  simp [Value.cells, hi, Nat.mod_one]
set_option maxHeartbeats 1000000 in
theorem st_start (w : World) (A : Option Addr) (n c : Nat) (f : Value) (h1 : f.oneCell' = true) : BSt w (w.heap.size + 1 + 1 + 1 + 1 + 1) w.heap.size (w.heap.size + 1 + 1) (w.heap.size + 1) (w.heap.size + 1 + 1 + 1) (w.heap.size + 1 + 1 + 1 + 1) A n c f
    (((((w.alloc (.cells #[.slice A n c] 22)).alloc (.cells (madeCells (Value.bool false).cells n) 4)).alloc (.cells #[.slice (some ⟨w.heap.size + 1, 0, none⟩) n n] 40)).alloc (.cells #[.slice none 0 0] 22)).alloc (.cells #[f] 72)) [] := by
  have hq : (((((w.alloc (.cells #[.slice A n c] 22)).alloc (.cells (madeCells (Value.bool false).cells n) 4)).alloc (.cells #[.slice (some ⟨w.heap.size + 1, 0, none⟩) n n] 40)).alloc (.cells #[.slice none 0 0] 22)).alloc (.cells #[f] 72)).heap[w.heap.size + 1]? = some (.cells (madeCells (Value.bool false).cells n) 4) := by
    rw [Below.heap_alloc _ _ _ (by simp), Below.heap_alloc _ _ _ (by simp), Below.heap_alloc _ _ _ (by simp)]
    have := heap_alloc_new (w.alloc (.cells #[.slice A n c] 22)) (.cells (madeCells (Value.bool false).cells n) 4)
    simpa using this
  refine ⟨?_, ?_, ?_, ?_, ?_, fun i hi => ?_, fun i => ?_, ?_, ⟨.slice none 0 0, ?_, World.ownsRow_nil _ _ _ _⟩⟩
  · repeat (first | exact Kept.refl _ | assumption | (refine Kept.alloc ?_ _) | (refine Kept.setCell ?_ (by first | omega | (simp; omega) | simp) _) | refine Kept.drew ?_ | refine Kept.drewN ?_ _ | (apply Kept.call; rotate_left; assumption))
  · simp
  · go_simp
  · go_simp
  · go_simp
  · rw [cell_of_row _ _ i _ _ (0, 0) hq, made_get n i hi]
    rfl
  · unfold World.frozen?
    rw [hq]
    simp
  · go_simp
  · go_simp
set_option maxHeartbeats 1000000 in
theorem below_any (A : Option Addr) (n c : Nat) (p : List Int) (x : Nat) (w : World) (h6 : n ≤ 6) (hx : IntsAt w A n c p) (hxn : x < n) (hpx : pa p x = -1) :
    Calls Try.prog 36 #[.slice A n c, .int .i64 x] w fun e w' => ∃ l, RowIs l w e w' ∧ Belo p l ∧ x ∈ l ∧ ∀ y ∈ l, Has p l y := by
  obtain ⟨i0, hi, hz0, hz1, hz2⟩ := info_parts infoBool
  have hmf : ∀ fn first cap w, (Instr.makeFunc fn first cap).run Try.prog w = .ok (.func fn first cap) w := fun _ _ _ _ => rfl
  have hms : ∀ (w : World), (Instr.makeSlice 40 (.int .i64 (n : Int)) (.int .i64 (n : Int))).run Try.prog w = .ok (.slice (some ⟨w.heap.size, 0, none⟩) n n) (w.alloc (.cells (madeCells (Value.bool false).cells n) 4)) := fun w => by
    have h := run_makeSlice (P := Try.prog) w 40 4 i0 (.bool false) Try.underlying40 hi hz0 .i64 .i64 n n (by omega) (by omega) (by rw [hz1]; simp; omega) (by rw [hz2]; omega) (by omega)
    rw [hz1] at h
    simpa using h
  have hsf : ∀ fn first cap a w, (store a (.func fn first cap)).run Try.prog w = stored Try.prog w a (.func fn first cap) .plain := fun _ _ _ _ _ => run_store _ _ _ _ _ rfl
  have hn : (n : Nat) ≤ 9223372036854775807 := by omega
  have HX := Lib.hid hx
  have HP := Lib.hid hpx
  clear hi hx hpx
  go_enter Try.func36, Try.ntmps36
  go_wp2_with fail
  refine (below_in w (w.heap.size + 1 + 1 + 1 + 1 + 1) w.heap.size (w.heap.size + 1 + 1) (w.heap.size + 1) (w.heap.size + 1 + 1 + 1) (w.heap.size + 1 + 1 + 1 + 1) (by omega) A n c p h6 HX.out _ rfl n [] x _ (by simp) hxn (by simp) ⟨List.nodup_nil, (fun x h => by cases h), (fun k y h => by simp at h)⟩ (.inl HP.out) (st_start w A n c _ rfl)).mono ?_
  rintro e w2 ⟨rfl, l, st, be, pre, has⟩
  obtain ⟨v, cO, ho⟩ := st.out
  obtain ⟨A3, c3, rfl, hia⟩ := IntsAt.of_own ho
  have HIA := Lib.hid hia
  have HK := Lib.hid st.kept
  have HAS : Hid (Belo p l ∧ x ∈ l ∧ ∀ y ∈ l, Has p l y) := ⟨be, pre.subset (by simp), fun y hy => has y hy (by simp)⟩
  clear st be pre has ho hia
  go_wp2_with fail
  go_ret
  exact ⟨l, ⟨A3, c3, rfl, HIA.out, HK.out⟩, HAS.out⟩
end Go.Proofs.Ytbofgpmbocjbiaa
