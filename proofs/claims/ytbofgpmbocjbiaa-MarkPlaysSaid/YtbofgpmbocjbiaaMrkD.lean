/- A drain in memory. -/
import Derived.Test.YtbofgpmbocjbiaaMrkM
import Derived.Test.YtbofgpmbocjbiaaMrkO
set_option linter.unusedSimpArgs false
set_option linter.unusedVariables false
namespace Go.Proofs.Ytbofgpmbocjbiaa
open Go.RowKit Go.Maps

/-- What is on its way: a label, or (none) the marker. -/
abbrev Thg := Option ByteArray
def thV : Thg → Value
  | some l => .iface 69 (.string l)
  | none => .iface 67 (.agg #[])
def thC (l : List Thg) : List Value := l.map thV
theorem thC_len (l : List Thg) : (thC l).length = l.length * 1 := by simp [thC]
theorem thC_app (l m : List Thg) : thC (l ++ m) = thC l ++ thC m := by simp [thC]
theorem thV_one (t : Thg) : (thV t).oneCell' = true := by cases t <;> rfl
theorem thC_one (l : List Thg) : ∀ u ∈ thC l, u.oneCell' = true := by
  intro u hu
  obtain ⟨t, _, rfl⟩ := List.mem_map.1 hu
  exact thV_one t
def mkW (p : Int × Int) : Value := .agg #[.int .i64 p.1, .int .i64 p.2]
def mkS (s : Int) : Value := .int .i64 s
theorem mkW_inj (p q : Int × Int) (h : mkW p = mkW q) : p = q := by
  unfold mkW at h
  simp at h
  exact Prod.ext h.1 h.2
theorem mkS_inj (p q : Int) (h : mkS p = mkS q) : p = q := by
  unfold mkS at h
  simpa using h
theorem laidM : laidOutB Try.prog = true := by kernel_rfl
theorem rowWay : (65 : TypeId) < Try.prog.types.size := of_decide_eq_true (by kernel_rfl)
theorem wideWay : (match Try.prog.underlying 65 with | some (.array _ _) | some (.struct _) => true | _ => false) = true := by rw [Try.underlying65]
theorem keyWay : Keyed Try.prog 65 := Keyed.of_law (deep_law_laid laidM (m := 2) (by omega) rowWay (by kernel_rfl) wideWay)
theorem keyInt : Keyed Try.prog 3 := int_keyed Try.underlying3
theorem key_all : ∀ a c : Fin 8, (keyOf Try.prog 65 (mkW ((a : Int) - 1, (c : Int) - 1))).isSome = true := of_decide_eq_true (by kernel_rfl)
theorem keyS_all : ∀ a : Fin 8, (keyOf Try.prog 3 (mkS ((a : Int) - 1))).isSome = true := of_decide_eq_true (by kernel_rfl)
/-- Sites from -1 to 6. -/
def gd (a : Int) : Prop := -1 ≤ a ∧ a ≤ 6
theorem keyW_of {a c : Int} (ha : gd a) (hc : gd c) : ∃ kl, keyOf Try.prog 65 (mkW (a, c)) = some kl := by
  obtain ⟨h1, h2⟩ := ha
  obtain ⟨h3, h4⟩ := hc
  have h := key_all ⟨(a + 1).toNat, by omega⟩ ⟨(c + 1).toNat, by omega⟩
  have e1 : (((⟨(a + 1).toNat, by omega⟩ : Fin 8) : Nat) : Int) - 1 = a := by simp; omega
  have e2 : (((⟨(c + 1).toNat, by omega⟩ : Fin 8) : Nat) : Int) - 1 = c := by simp; omega
  rw [e1, e2] at h
  exact Option.isSome_iff_exists.1 h
theorem keyS_of {a : Int} (ha : gd a) : ∃ kl, keyOf Try.prog 3 (mkS a) = some kl := by
  obtain ⟨h1, h2⟩ := ha
  have h := keyS_all ⟨(a + 1).toNat, by omega⟩
  have e1 : (((⟨(a + 1).toNat, by omega⟩ : Fin 8) : Nat) : Int) - 1 = a := by simp; omega
  rw [e1] at h
  exact Option.isSome_iff_exists.1 h
theorem zeroAny (w : World) : (zeroValue 68).run Try.prog w = .ok (.slice none 0 0) w := by kernel_rfl
theorem zeroBool (w : World) : (zeroValue 4).run Try.prog w = .ok (.bool false) w := by kernel_rfl
structure DSt where
  W : Int × Int → List Thg
  S : Int → Bool
  C : Int × Int → Bool
  k : Nat
structure DrF (w0 : World) (X : List Nat) (w : World) (D : Nat) (ps : List Int) (st : DSt) (PB n c M1 M2 M3 : Nat) (fW : Int × Int → Option Value) (G : Int × Int → Option Nat) (fS : Int → Option Value) (fC : Int × Int → Option Value) : Prop where
  cells : w.heap[D]? = some (.cells #[.slice (some ⟨PB, 0, none⟩) n c, .map (some M1), .map (some M2), .map (some M3), .int .i64 (st.k : Int)] 62 (0, 0))
  par : IntsAt w (some ⟨PB, 0, none⟩) n c ps
  tree : IsTree ps
  m1 : MapF Try.prog 65 mkW w M1 fW
  m2 : MapF Try.prog 3 mkS w M2 fS
  m3 : MapF Try.prog 65 mkW w M3 fC
  ways : ∀ p, OpenK w (G p) ((fW p).getD (.slice none 0 0)) (st.W p).length 1 (thC (st.W p))
  stop : ∀ s, (fS s).getD (.bool false) = .bool (st.S s)
  came : ∀ p, (fC p).getD (.bool false) = .bool (st.C p)
  own : ∀ x ∈ [D, PB, M1, M2, M3], w0.heap.size ≤ x ∧ x < w.heap.size ∧ x ∉ X
  nd : [D, PB, M1, M2, M3].Nodup
  gown : ∀ p x, G p = some x → w0.heap.size ≤ x ∧ x < w.heap.size ∧ x ∉ X ∧ x ∉ [D, PB, M1, M2, M3]
  gap : ∀ p q x, G p = some x → G q = some x → p = q
  lX : ∀ x ∈ X, x < w.heap.size
def DrIn (w0 : World) (X : List Nat) (w : World) (D : Nat) (ps : List Int) (st : DSt) : Prop := ∃ PB n c M1 M2 M3 fW G fS fC, DrF w0 X w D ps st PB n c M1 M2 M3 fW G fS fC
section
variable {w0 w : World} {X : List Nat} {D : Nat} {ps : List Int} {st : DSt} {PB n c M1 M2 M3 : Nat} {fW : Int × Int → Option Value} {G : Int × Int → Option Nat} {fS : Int → Option Value} {fC : Int × Int → Option Value}
theorem DrF.keep {w2 : World} (h : DrF w0 X w D ps st PB n c M1 M2 M3 fW G fS fC) (hk : Kept w w2) : DrF w0 X w2 D ps st PB n c M1 M2 M3 fW G fS fC :=
  { cells := hk.heap h.cells, par := h.par.keep hk, tree := h.tree, m1 := h.m1.keep hk, m2 := h.m2.keep hk, m3 := h.m3.keep hk, ways := fun p => (h.ways p).kept hk, stop := h.stop, came := h.came,
    own := fun x hx => ⟨(h.own x hx).1, Nat.lt_of_lt_of_le (h.own x hx).2.1 hk.size, (h.own x hx).2.2⟩, nd := h.nd, gown := fun p x hx => ⟨(h.gown p x hx).1, Nat.lt_of_lt_of_le (h.gown p x hx).2.1 hk.size, (h.gown p x hx).2.2⟩, gap := h.gap, lX := fun x hx => Nat.lt_of_lt_of_le (h.lX x hx) hk.size }
theorem DrIn.keep {w2 : World} (h : DrIn w0 X w D ps st) (hk : Kept w w2) : DrIn w0 X w2 D ps st := by
  obtain ⟨PB, n, c, M1, M2, M3, fW, G, fS, fC, h⟩ := h
  exact ⟨PB, n, c, M1, M2, M3, fW, G, fS, fC, h.keep hk⟩
theorem IntsAt.but1 {w2 : World} {S : List Nat} {b c n : Nat} {xs : List Int} (h : IntsAt w (some ⟨b, 0, none⟩) n c xs) (hb : But S w w2) (hn : b ∉ S) : IntsAt w2 (some ⟨b, 0, none⟩) n c xs := by
  obtain ⟨h1, h2, h3, h4, h5⟩ := h
  refine ⟨h1, h2, h3, h4, fun h0 => ?_⟩
  obtain ⟨b', off, e, hc⟩ := h5 h0
  injection e with e
  injection e with e1 e2
  subst e1 e2
  exact ⟨b, 0, rfl, fun i hi => hb.at_ (hc i hi) hn⟩
/-- The blocks are apart. -/
theorem DrF.apart (h : DrF w0 X w D ps st PB n c M1 M2 M3 fW G fS fC) : D ≠ PB ∧ D ≠ M1 ∧ D ≠ M2 ∧ D ≠ M3 ∧ PB ≠ M1 ∧ PB ≠ M2 ∧ PB ≠ M3 ∧ M1 ≠ M2 ∧ M1 ≠ M3 ∧ M2 ≠ M3 := by
  have := h.nd
  simp only [List.nodup_cons, List.mem_cons, List.not_mem_nil, or_false, not_or] at this
  obtain ⟨⟨a1, a2, a3, a4⟩, ⟨b1, b2, b3⟩, ⟨c1, c2⟩, d1, _⟩ := this
  exact ⟨a1, a2, a3, a4, b1, b2, b3, c1, c2, d1⟩
theorem DrF.gne (h : DrF w0 X w D ps st PB n c M1 M2 M3 fW G fS fC) {p : Int × Int} {x : Nat} (hx : G p = some x) : x ≠ D ∧ x ≠ PB ∧ x ≠ M1 ∧ x ≠ M2 ∧ x ≠ M3 := by
  have := (h.gown p x hx).2.2.2
  simp only [List.mem_cons, List.not_mem_nil, or_false, not_or] at this
  exact this
/-- Blocks of X turn. -/
theorem DrF.but {w2 : World} (h : DrF w0 X w D ps st PB n c M1 M2 M3 fW G fS fC) (hk : But X w w2) : DrF w0 X w2 D ps st PB n c M1 M2 M3 fW G fS fC :=
  { cells := hk.heap h.cells (h.own D (by simp)).2.2, par := h.par.but1 hk (h.own PB (by simp)).2.2, tree := h.tree, m1 := h.m1.but hk (h.own M1 (by simp)).2.2, m2 := h.m2.but hk (h.own M2 (by simp)).2.2, m3 := h.m3.but hk (h.own M3 (by simp)).2.2, ways := fun p => (h.ways p).but hk (fun g hg => (h.gown p g hg).2.2.1), stop := h.stop, came := h.came,
    own := fun x hx => ⟨(h.own x hx).1, Nat.lt_of_lt_of_le (h.own x hx).2.1 hk.size, (h.own x hx).2.2⟩, nd := h.nd, gown := fun p x hx => ⟨(h.gown p x hx).1, Nat.lt_of_lt_of_le (h.gown p x hx).2.1 hk.size, (h.gown p x hx).2.2⟩, gap := h.gap, lX := fun x hx => Nat.lt_of_lt_of_le (h.lX x hx) hk.size }
theorem DrIn.but {w2 : World} (h : DrIn w0 X w D ps st) (hk : But X w w2) : DrIn w0 X w2 D ps st := by
  obtain ⟨PB, n, c, M1, M2, M3, fW, G, fS, fC, h⟩ := h
  exact ⟨PB, n, c, M1, M2, M3, fW, G, fS, fC, h.but hk⟩
theorem DrF.lookW (h : DrF w0 X w D ps st PB n c M1 M2 M3 fW G fS fC) {a b : Int} (ha : gd a) (hb : gd b) :
    (Instr.lookup 58 (.map (some M1)) (.agg #[.int .i64 a, .int .i64 b]) false).run Try.prog w = .ok ((fW (a, b)).getD (.slice none 0 0)) w := by
  obtain ⟨kl, hkl⟩ := keyW_of ha hb
  exact h.m1.look mkW_inj keyWay Try.underlying58 (zeroAny w) (i := (a, b)) hkl
theorem DrF.lookS (h : DrF w0 X w D ps st PB n c M1 M2 M3 fW G fS fC) {a : Int} (ha : gd a) :
    (Instr.lookup 59 (.map (some M2)) (.int .i64 a) false).run Try.prog w = .ok (.bool (st.S a)) w := by
  obtain ⟨kl, hkl⟩ := keyS_of ha
  have := h.m2.look mkS_inj keyInt Try.underlying59 (zeroBool w) (i := a) hkl
  rw [h.stop a] at this
  exact this
theorem DrF.lookC (h : DrF w0 X w D ps st PB n c M1 M2 M3 fW G fS fC) {a b : Int} (ha : gd a) (hb : gd b) :
    (Instr.lookup 60 (.map (some M3)) (.agg #[.int .i64 a, .int .i64 b]) false).run Try.prog w = .ok (.bool (st.C (a, b))) w := by
  obtain ⟨kl, hkl⟩ := keyW_of ha hb
  have := h.m3.look mkW_inj keyWay Try.underlying60 (zeroBool w) (i := (a, b)) hkl
  rw [h.came (a, b)] at this
  exact this
def DSt.stop (st : DSt) (a : Int) : DSt := { st with S := fun s => if s = a then true else st.S s }
def DSt.came (st : DSt) (p : Int × Int) : DSt := { st with C := fun q => if q = p then true else st.C q }
def DSt.setW (st : DSt) (p : Int × Int) (l : List Thg) : DSt := { st with W := fun q => if q = p then l else st.W q }
def DSt.mark (st : DSt) : DSt := { st with k := st.k + 1 }
/-- What is told behind a step of the drain's. -/
def DrTo (w0 : World) (X : List Nat) (w w' : World) (D : Nat) (ps : List Int) (st : DSt) : Prop := DrIn w0 X w' D ps st ∧ w.heap.size ≤ w'.heap.size ∧ (∀ x ∈ X, w'.heap[x]? = w.heap[x]?) ∧ (Kept w0 w → Kept w0 w')
theorem DrTo.trans {w1 w2 : World} {st1 st2 : DSt} (h : DrTo w0 X w w1 D ps st1) (k : DrTo w0 X w1 w2 D ps st2) : DrTo w0 X w w2 D ps st2 :=
  ⟨k.1, Nat.le_trans h.2.1 k.2.1, fun x hx => (k.2.2.1 x hx).trans (h.2.2.1 x hx), fun g => k.2.2.2 (h.2.2.2 g)⟩
theorem DrTo.keep {w1 w2 : World} {st1 : DSt} (h : DrTo w0 X w w1 D ps st1) (k : Kept w1 w2) : DrTo w0 X w w2 D ps st1 :=
  ⟨h.1.keep k, Nat.le_trans h.2.1 k.size, fun x hx => by
    obtain ⟨PB, n, c, M1, M2, M3, fW, G, fS, fC, hF⟩ := h.1
    rw [k.block x (hF.lX x hx)]; exact h.2.2.1 x hx, fun g => (h.2.2.2 g).call k⟩
theorem DrIn.to {w' : World} (h : DrIn w0 X w D ps st) (k : Kept w w') : DrTo w0 X w w' D ps st :=
  ⟨h.keep k, k.size, fun x hx => by
    obtain ⟨PB, n, c, M1, M2, M3, fW, G, fS, fC, hF⟩ := h
    exact k.block x (hF.lX x hx), fun g => g.call k⟩
theorem drTo {w' : World} {st' : DSt} {S : List Nat} {PB' n' c' M1' M2' M3' : Nat} {fW' : Int × Int → Option Value} {G' : Int × Int → Option Nat} {fS' : Int → Option Value} {fC' : Int × Int → Option Value} (h : DrF w0 X w' D ps st' PB' n' c' M1' M2' M3' fW' G' fS' fC') (hb : But S w w') (hS : ∀ x ∈ S, w0.heap.size ≤ x ∧ x ∉ X) (hX : ∀ x ∈ X, x < w.heap.size) : DrTo w0 X w w' D ps st' :=
  ⟨⟨_, _, _, _, _, _, _, _, _, _, h⟩, hb.size, fun x hx => hb.block x (hX x hx) fun hs => (hS x hs).2 hx, fun g => g.but hb fun x hx => (hS x hx).1⟩
theorem DrF.updS (h : DrF w0 X w D ps st PB n c M1 M2 M3 fW G fS fC) {a : Int} (ha : gd a) : ∃ w', (Instr.mapUpdate 59 (.map (some M2)) (.int .i64 a) (.bool true)).run Try.prog w = .ok () w' ∧ DrTo w0 X w w' D ps (st.stop a) ∧ (∃ fS', DrF w0 X w' D ps (st.stop a) PB n c M1 M2 M3 fW G fS' fC) ∧ But [M2] w w' := by
  obtain ⟨kl, hkl⟩ := keyS_of ha
  obtain ⟨w', hrun, hm, hb⟩ := h.m2.upd mkS_inj keyInt Try.underlying59 (i := a) hkl (.bool true)
  obtain ⟨a1, a2, a3, a4, a5, a6, a7, a8, a9, a10⟩ := h.apart
  have hz := hb.size
  have hF : DrF w0 X w' D ps (st.stop a) PB n c M1 M2 M3 fW G (fun x => if x = a then some (.bool true) else fS x) fC :=
    { cells := hb.heap h.cells (by simp; exact a3), par := h.par.but1 hb (by simp; exact a6), tree := h.tree, m1 := h.m1.but hb (by simp; exact a8), m2 := hm, m3 := h.m3.but hb (by simp; exact a10.symm), ways := fun p => (h.ways p).but hb (fun g hg => by simp; exact (h.gne hg).2.2.2.1), came := h.came,
      stop := fun s => by
        unfold DSt.stop
        by_cases e : s = a
        · simp [e]
        · simp [e]; exact h.stop s
      own := fun x hx => ⟨(h.own x hx).1, Nat.lt_of_lt_of_le (h.own x hx).2.1 hz, (h.own x hx).2.2⟩, nd := h.nd, gown := fun p x hx => ⟨(h.gown p x hx).1, Nat.lt_of_lt_of_le (h.gown p x hx).2.1 hz, (h.gown p x hx).2.2⟩, gap := h.gap, lX := fun x hx => Nat.lt_of_lt_of_le (h.lX x hx) hz }
  exact ⟨w', hrun, drTo hF hb (fun x hx => by rw [show x = M2 by simpa using hx]; exact ⟨(h.own M2 (by simp)).1, (h.own M2 (by simp)).2.2⟩) h.lX, ⟨_, hF⟩, hb⟩
theorem DrF.updC (h : DrF w0 X w D ps st PB n c M1 M2 M3 fW G fS fC) {a b : Int} (ha : gd a) (hbb : gd b) : ∃ w', (Instr.mapUpdate 60 (.map (some M3)) (.agg #[.int .i64 a, .int .i64 b]) (.bool true)).run Try.prog w = .ok () w' ∧ DrTo w0 X w w' D ps (st.came (a, b)) ∧ But [M3] w w' := by
  obtain ⟨kl, hkl⟩ := keyW_of ha hbb
  obtain ⟨w', hrun, hm, hb⟩ := h.m3.upd mkW_inj keyWay Try.underlying60 (i := (a, b)) hkl (.bool true)
  obtain ⟨a1, a2, a3, a4, a5, a6, a7, a8, a9, a10⟩ := h.apart
  have hz := hb.size
  have hF : DrF w0 X w' D ps (st.came (a, b)) PB n c M1 M2 M3 fW G fS (fun x => if x = (a, b) then some (.bool true) else fC x) :=
    { cells := hb.heap h.cells (by simp; exact a4), par := h.par.but1 hb (by simp; exact a7), tree := h.tree, m1 := h.m1.but hb (by simp; exact a9), m2 := h.m2.but hb (by simp; exact a10), m3 := hm, ways := fun p => (h.ways p).but hb (fun g hg => by simp; exact (h.gne hg).2.2.2.2), stop := h.stop,
      came := fun s => by
        unfold DSt.came
        by_cases e : s = (a, b)
        · simp [e]
        · simp [e]; exact h.came s
      own := fun x hx => ⟨(h.own x hx).1, Nat.lt_of_lt_of_le (h.own x hx).2.1 hz, (h.own x hx).2.2⟩, nd := h.nd, gown := fun p x hx => ⟨(h.gown p x hx).1, Nat.lt_of_lt_of_le (h.gown p x hx).2.1 hz, (h.gown p x hx).2.2⟩, gap := h.gap, lX := fun x hx => Nat.lt_of_lt_of_le (h.lX x hx) hz }
  exact ⟨w', hrun, drTo hF hb (fun x hx => by rw [show x = M3 by simpa using hx]; exact ⟨(h.own M3 (by simp)).1, (h.own M3 (by simp)).2.2⟩) h.lX, hb⟩
/-- A way turns, in the map: its row lies in G6 (where it lay, or in a new block). -/
theorem DrF.wayTo {w' : World} (h : DrF w0 X w D ps st PB n c M1 M2 M3 fW G fS fC) {p : Int × Int} {v6 : Value} {G6 : Option Nat} {l : List Thg} {g : Int × Int → Option Value} (hm : MapF Try.prog 65 mkW w' M1 g) (hg : ∀ x, (g x).getD (.slice none 0 0) = if x = p then v6 else (fW x).getD (.slice none 0 0)) (hb : But (M1 :: (G p).toList) w w')
    (hO : OpenK w' G6 v6 l.length 1 (thC l)) (hG : G6 = G p ∨ ∃ x, G6 = some x ∧ w.heap.size ≤ x ∧ x < w'.heap.size) (h0 : w0.heap.size ≤ w.heap.size) :
    DrF w0 X w' D ps (st.setW p l) PB n c M1 M2 M3 g (fun x => if x = p then G6 else G x) fS fC ∧ DrTo w0 X w w' D ps (st.setW p l) := by
  obtain ⟨a1, a2, a3, a4, a5, a6, a7, a8, a9, a10⟩ := h.apart
  have hz := hb.size
  have hng : ∀ x ∈ (G p).toList, x ≠ D ∧ x ≠ PB ∧ x ≠ M1 ∧ x ≠ M2 ∧ x ≠ M3 := fun x hx => h.gne (by simpa using hx)
  have nin : ∀ y, y ≠ M1 → (∀ x ∈ (G p).toList, x ≠ y) → y ∉ M1 :: (G p).toList := fun y h1 h2 => by
    simp only [List.mem_cons, not_or]; exact ⟨h1, fun hy => h2 y hy rfl⟩
  have hF : DrF w0 X w' D ps (st.setW p l) PB n c M1 M2 M3 g (fun x => if x = p then G6 else G x) fS fC :=
    { cells := hb.heap h.cells (nin D a2 fun x hx => (hng x hx).1), par := h.par.but1 hb (nin PB a5 fun x hx => (hng x hx).2.1), tree := h.tree, m1 := hm, m2 := h.m2.but hb (nin M2 a8.symm fun x hx => (hng x hx).2.2.2.1), m3 := h.m3.but hb (nin M3 a9.symm fun x hx => (hng x hx).2.2.2.2),
      ways := fun q => by
        rw [hg q]
        unfold DSt.setW
        by_cases e : q = p
        · subst e; simp; exact hO
        · simp only [if_neg e]
          refine (h.ways q).but hb fun x hx hm => ?_
          rcases List.mem_cons.1 hm with hm | hm
          · exact (h.gne hx).2.2.1 hm
          · exact e (h.gap q p x hx (by simpa using hm))
      stop := h.stop, came := h.came,
      own := fun x hx => ⟨(h.own x hx).1, Nat.lt_of_lt_of_le (h.own x hx).2.1 hz, (h.own x hx).2.2⟩, nd := h.nd,
      gown := fun q x hx => by
        by_cases e : q = p
        · simp only [if_pos e] at hx
          rcases hG with hG | ⟨y, hG, h5, h6⟩
          · obtain ⟨o1, o2, o3⟩ := h.gown p x (by rw [← hG]; exact hx)
            exact ⟨o1, Nat.lt_of_lt_of_le o2 hz, o3⟩
          · rw [hG] at hx; injection hx with hx; subst hx
            refine ⟨by omega, h6, fun hX => by have := h.lX y hX; omega, fun hm => by have := (h.own y hm).2.1; omega⟩
        · simp only [if_neg e] at hx
          obtain ⟨o1, o2, o3⟩ := h.gown q x hx
          exact ⟨o1, Nat.lt_of_lt_of_le o2 hz, o3⟩
      gap := fun q r x hq hr => by
        have new : ∀ s, s ≠ p → G s = some x → G6 = some x → False := fun s hs hsx hx => by
          rcases hG with hG | ⟨y, hG, h5, h6⟩
          · exact hs (h.gap s p x hsx (by rw [← hG]; exact hx))
          · rw [hG] at hx; injection hx with hx; subst hx
            have := (h.gown s y hsx).2.1; omega
        by_cases e1 : q = p
        · by_cases e2 : r = p
          · rw [e1, e2]
          · simp only [if_pos e1] at hq; simp only [if_neg e2] at hr
            exact (new r e2 hr hq).elim
        · by_cases e2 : r = p
          · simp only [if_neg e1] at hq; simp only [if_pos e2] at hr
            exact (new q e1 hq hr).elim
          · simp only [if_neg e1] at hq; simp only [if_neg e2] at hr
            exact h.gap q r x hq hr
      lX := fun x hx => Nat.lt_of_lt_of_le (h.lX x hx) hz }
  refine ⟨hF, drTo hF hb (fun x hx => ?_) h.lX⟩
  rcases List.mem_cons.1 hx with rfl | hx
  · exact ⟨(h.own x (by simp)).1, (h.own x (by simp)).2.2⟩
  · have := h.gown p x (by simpa using hx)
    exact ⟨this.1, this.2.2.1⟩
end
end Go.Proofs.Ytbofgpmbocjbiaa
