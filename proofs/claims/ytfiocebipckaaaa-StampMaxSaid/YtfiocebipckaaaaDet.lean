/- A region that draws its order, each of whose operations yields one and the same value in every world that meets a condition I, and keeps I: it may be walked in the text's order, an operation at a time, each in an arbitrary world that meets I. No program in sight. -/
import Derived.Orders
import Derived.Tactics
import Derived.Test.YtfiocebipckaaaaKit
set_option linter.unusedVariables false
namespace Go.Proofs.Ytfiocebipckaaaa
open Go

section
variable {P : Program} {ops : Array Oper} {I : World → Prop} {Q : Exit → Act → World → Prop}

/-- What one step must come to: some value u is put, and R holds of it and of the new world. -/
def StepPost (R : Value → World → Prop) (o : Oper) (a : Act) : Exit → Act → World → Prop := fun e a' w' => e = .normal ∧ ∃ u, a' = a.put o.dst u ∧ R u w'
theorem StepPost.mk {R : Value → World → Prop} {o : Oper} {a a' : Act} {w : World} (u : Value) (h : a' = a.put o.dst u) (hR : R u w) : StepPost R o a .normal a' w := ⟨rfl, u, h, hR⟩

theorem StepPost.loud {D : World → Act → Prop} {o : Oper} {a a' : Act} {w w' : World} (u : Value) (h : a' = a.put o.dst u) (hk : Kept w w') (hd : Kept w w' → D w' (a.put o.dst u)) :
    StepPost (fun u w' => Kept w w' ∧ D w' (a.put o.dst u)) o a .normal a' w' := ⟨rfl, u, h, hk, hd hk⟩

theorem put_same {a b : Act} {d : Option Tmp} {u v : Value} (hs : b.tmps.size = a.tmps.size) (h : a.put d u = a.put d v) : b.put d u = b.put d v := by
  cases d with
  | none => rfl
  | some d =>
    simp only [Act.put, Act.mk.injEq, and_true] at h ⊢
    rcases Nat.lt_or_ge d a.tmps.size with hd | hd
    · have h1 := congrArg (fun x : Array Value => x[d]?) h
      simp [hd] at h1
      rw [h1]
    · rw [Array.setIfInBounds_eq_of_size_le (by omega), Array.setIfInBounds_eq_of_size_le (by omega)]

theorem does_op {o : Oper} {R : Value → World → Prop} {a b : Act} {i : Nat} (hi : ops[i]? = some o) {w : World} (h : wpList P ops (StepPost R o a) [o] a w) (hs : b.tmps.size = a.tmps.size)
    (he : execOp b.eval o = execOp a.eval o) (hw : Region.wanted o (yielded ops b.tmps) = Region.wanted o (yielded ops a.tmps))
    {K : Act → World → Prop} (hK : ∀ u w', R u w' → K (b.put o.dst u) w') : wpOp P ops Q i K b w := by
  unfold wpOp
  simp only [hi, hw]
  unfold wpList at h
  split
  · rename_i hwt
    simp only [hwt, if_true] at h
    rcases h with h | ⟨_, _, _, h, _⟩
    case inr => cases h
    refine .inl ?_
    unfold Oper.wp at *
    rw [he]
    generalize (execOp a.eval o).run P w = r at *
    cases r with
    | ok n w' =>
      cases n <;> simp only [Oper.upon, wpList] at h ⊢
      case value u => obtain ⟨_, u', h2, h3⟩ := h; rw [put_same hs h2]; exact hK _ _ h3
      case skip => obtain ⟨_, u', h2, h3⟩ := h; rw [put_same hs h2]; exact hK _ _ h3
      case defer d =>
        obtain ⟨_, u', h2, h3⟩ := h
        have h1 := congrArg (fun x : Act => x.defers.length) h2
        cases hd : o.dst <;> simp [Act.put, hd] at h1
      case enter f args =>
        refine Calls.mono h fun e w'' he => ?_
        cases e with
        | returned u => obtain ⟨_, u', h2, h3⟩ := he; show K _ _; rw [put_same hs h2]; exact hK _ _ h3
        | panicked c => exact absurd he.1 (by simp)
        | outgrown => obtain ⟨_, _, h2, _⟩ := he; cases h2
      case row row args => exact Rows.mono h fun u w'' he => by obtain ⟨_, u', h2, h3⟩ := he; rw [put_same hs h2]; exact hK _ _ h3
    | halt x w' =>
      cases x <;> simp only [Oper.upon] at h
      case panic u => exact absurd h.1 (by simp)
  · rename_i hwt
    simp only [hwt] at h
    obtain ⟨_, u', h2, h3⟩ := (show StepPost R o a .normal (a.put o.dst undef) w from h)
    rw [put_same hs h2]
    exact hK _ _ h3

theorem exec_agree {o : Oper} (hsel : ∀ cs b, o.op ≠ .select cs b) {a b : Act} (h : ∀ t ∈ o.looksAt ops, b.tmps[t]? = a.tmps[t]?) :
    execOp b.eval o = execOp a.eval o ∧ Region.wanted o (yielded ops b.tmps) = Region.wanted o (yielded ops a.tmps) := by
  refine ⟨execOp_congr o hsel fun x hx => ?_, ?_⟩
  · cases x with
    | tmp t =>
      have := h t (List.mem_append_left _ (List.mem_filterMap.2 ⟨.tmp t, by simpa using hx, rfl⟩))
      simp [Act.eval, this]
    | _ => rfl
  · unfold Region.wanted
    cases hg : o.guard with
    | none => rfl
    | some gw =>
      obtain ⟨g, wt⟩ := gw
      simp only
      have hy : yielded ops b.tmps g = yielded ops a.tmps g := by
        unfold yielded
        cases hd : (ops[g]?).bind (·.dst) with
        | none => simp
        | some t =>
          have := h t (by unfold Oper.looksAt; simp [hg, hd])
          simp [this]
      rw [hy]

/-- One edge binds x behind j. -/
def edgeTo (x : Oper) (j : Nat) : Bool := x.after.any fun e => Region.binds .any e && e.on == j
def touches (ops : Array Oper) (x : Oper) (t : Tmp) : Bool := (x.looksAt ops).contains t || x.dst == some t
/-- Whoever writes a slot that another one looks at or writes is bound to it by an edge; edges lead backward; no select. -/
def detOk (ops : Array Oper) : Bool :=
  ((List.range ops.size).all fun i => match ops[i]? with
    | none => true
    | some x => (match x.op with | .select .. => false | _ => true) && (x.after.all fun e => !Region.binds .any e || decide (e.on < i)) &&
      ((List.range ops.size).all fun j => i == j || match ops[j]? with
        | none => true
        | some y => (match y.dst with | none => true | some t => !touches ops x t) || edgeTo x j || edgeTo y i))

structure DetOk (ops : Array Oper) : Prop where
  sel : ∀ (i : Nat) (o : Oper), ops[i]? = some o → ∀ cs b, o.op ≠ .select cs b
  back : ∀ (i : Nat) (o : Oper), ops[i]? = some o → ∀ e ∈ o.after, Region.binds .any e = true → e.on < i
  bound : ∀ (i j : Nat) (x y : Oper) (t : Tmp), ops[i]? = some x → ops[j]? = some y → i ≠ j → y.dst = some t → (t ∈ x.looksAt ops ∨ x.dst = some t) → (∃ e ∈ x.after, Region.binds .any e = true ∧ e.on = j) ∨ (∃ e ∈ y.after, Region.binds .any e = true ∧ e.on = i)

theorem edgeTo_iff {x : Oper} {j : Nat} (h : edgeTo x j = true) : ∃ e ∈ x.after, Region.binds .any e = true ∧ e.on = j := by
  unfold edgeTo at h
  rw [Array.any_eq_true] at h
  obtain ⟨k, hk, h⟩ := h
  simp only [Bool.and_eq_true, beq_iff_eq] at h
  exact ⟨_, Array.getElem_mem hk, h.1, h.2⟩

theorem detOk_spec (h : detOk ops = true) : DetOk ops := by
  unfold detOk at h
  rw [List.all_eq_true] at h
  have h1 : ∀ (i : Nat) (o : Oper), ops[i]? = some o → _ := fun i o ho => by
    have hlt : i < ops.size := (Array.getElem?_eq_some_iff.1 ho).1
    have h2 := h i (List.mem_range.2 hlt)
    simp only [ho, Bool.and_eq_true, List.all_eq_true, List.mem_range, Array.all_eq_true_iff_forall_mem] at h2
    exact h2
  refine ⟨fun i o ho cs b hs => ?_, fun i o ho e he hb => ?_, fun i j x y t hx hy hij hd ht => ?_⟩
  · have := (h1 i o ho).1.1
    rw [hs] at this
    cases this
  · have := (h1 i o ho).1.2 e he
    simpa [hb] using this
  · have hlt : j < ops.size := (Array.getElem?_eq_some_iff.1 hy).1
    have h2 := (h1 i x hx).2 j hlt
    simp only [hy, hd, Bool.or_eq_true, beq_iff_eq, hij, false_or, Bool.not_eq_true'] at h2
    rcases h2 with (h2 | h2) | h2
    · have h3 : touches ops x t = true := by
        unfold touches
        rcases ht with ht | ht
        · simp [ht]
        · simp [ht]
      rw [h3] at h2
      cases h2
    · exact .inl (edgeTo_iff h2)
    · exact .inr (edgeTo_iff h2)

/-- State a is a0 with the values of the operations in L put. -/
structure Rep (ops : Array Oper) (vals : Nat → Value) (a0 : Act) (L : Nat → Prop) (a : Act) : Prop where
  defers : a.defers = a0.defers
  size : a.tmps.size = a0.tmps.size
  old : ∀ (t : Nat), (∀ (j : Nat) (o : Oper), L j → ops[j]? = some o → o.dst ≠ some t) → a.tmps[t]? = a0.tmps[t]?
  new : ∀ (t j : Nat) (o : Oper), t < a0.tmps.size → L j → ops[j]? = some o → o.dst = some t → (∀ (k : Nat) (o' : Oper), L k → ops[k]? = some o' → o'.dst = some t → k ≤ j) → a.tmps[t]? = some (vals j)

theorem exists_max (p : Nat → Prop) : ∀ n, (∀ j, p j → j < n) → (∃ j, p j) → ∃ j, p j ∧ ∀ k, p k → k ≤ j := by
  intro n
  induction n with
  | zero => intro hb ⟨j, hj⟩; exact absurd (hb j hj) (by omega)
  | succ n ih =>
    intro hb hex
    by_cases hn : p n
    · exact ⟨n, hn, fun k hk => by have := hb k hk; omega⟩
    · exact ih (fun j hj => by
        have := hb j hj
        have : j ≠ n := fun e => hn (e ▸ hj)
        omega) hex

theorem Rep.agree {vals : Nat → Value} {a0 a b : Act} {L M : Nat → Prop} (ha : Rep ops vals a0 L a) (hb : Rep ops vals a0 M b) (t : Nat)
    (h : ∀ (j : Nat) (o : Oper), ops[j]? = some o → o.dst = some t → (L j ↔ M j)) : a.tmps[t]? = b.tmps[t]? := by
  by_cases ht : t < a0.tmps.size
  · by_cases hex : ∃ j, L j ∧ ∃ o, ops[j]? = some o ∧ o.dst = some t
    · obtain ⟨j, ⟨hj, o, ho, hd⟩, hmax⟩ := exists_max (fun j => L j ∧ ∃ o, ops[j]? = some o ∧ o.dst = some t) ops.size (fun j ⟨_, o, ho, _⟩ => (Array.getElem?_eq_some_iff.1 ho).1) hex
      rw [ha.new t j o ht hj ho hd fun k o' hk hok hdk => hmax k ⟨hk, o', hok, hdk⟩]
      rw [hb.new t j o ht ((h j o ho hd).1 hj) ho hd fun k o' hk hok hdk => hmax k ⟨(h k o' hok hdk).2 hk, o', hok, hdk⟩]
    · rw [ha.old t fun j o hj ho hd => hex ⟨j, hj, o, ho, hd⟩, hb.old t fun j o hj ho hd => hex ⟨j, (h j o ho hd).2 hj, o, ho, hd⟩]
  · rw [Array.getElem?_eq_none (by rw [ha.size]; exact Nat.le_of_not_lt ht), Array.getElem?_eq_none (by rw [hb.size]; exact Nat.le_of_not_lt ht)]

theorem Rep.put_ {vals : Nat → Value} {a0 a : Act} {L M : Nat → Prop} {i : Nat} {o : Oper} (ha : Rep ops vals a0 L a) (ho : ops[i]? = some o)
    (hM : ∀ j, M j ↔ L j ∨ j = i) (hlast : ∀ (k : Nat) (o' : Oper) (t : Nat), L k → ops[k]? = some o' → o.dst = some t → o'.dst = some t → k ≤ i) : Rep ops vals a0 M (a.put o.dst (vals i)) := by
  cases hd : o.dst with
  | none =>
    refine ⟨ha.defers, ha.size, fun t h => ha.old t fun j o' hj hoj => h j o' ((hM j).2 (.inl hj)) hoj, fun t j o' ht hj hoj hdj hmax => ?_⟩
    have hjL : L j := by
      rcases (hM j).1 hj with h | rfl
      · exact h
      · rw [ho] at hoj; injection hoj with hoj; subst hoj; rw [hd] at hdj; cases hdj
    exact ha.new t j o' ht hjL hoj hdj fun k o'' hk => hmax k o'' ((hM k).2 (.inl hk))
  | some d =>
    refine ⟨ha.defers, by simp [Act.put, ha.size], fun t h => ?_, fun t j o' ht hj hoj hdj hmax => ?_⟩
    · have hne : d ≠ t := fun e => h i o ((hM i).2 (.inr rfl)) ho (by rw [hd, e])
      simp only [Act.put, Array.getElem?_setIfInBounds_ne hne]
      exact ha.old t fun j o' hj hoj => h j o' ((hM j).2 (.inl hj)) hoj
    · by_cases hdt : d = t
      · subst hdt
        have hij : i ≤ j := hmax i o ((hM i).2 (.inr rfl)) ho hd
        have : j = i := by
          rcases (hM j).1 hj with h | h
          · have := hlast j o' d h hoj hd hdj; omega
          · exact h
        subst this
        simp [Act.put, ha.size, ht]
      · have hjL : L j := by
          rcases (hM j).1 hj with h | rfl
          · exact h
          · rw [ho] at hoj; injection hoj with hoj; subst hoj; rw [hd] at hdj; injection hdj with hdj; exact absurd hdj hdt
        simp only [Act.put, Array.getElem?_setIfInBounds_ne hdt]
        exact ha.new t j o' ht hjL hoj hdj fun k o'' hk => hmax k o'' ((hM k).2 (.inl hk))

def cnt : List Bool → Nat
  | [] => 0
  | b :: r => (if b then 1 else 0) + cnt r
theorem cnt_set : ∀ (l : List Bool) (i : Nat), l[i]? = some false → cnt (l.set i true) = cnt l + 1
  | [], i, h => by simp at h
  | b :: r, 0, h => by simp at h; subst h; simp [cnt]; omega
  | b :: r, i + 1, h => by
    simp only [List.set_cons_succ, cnt]
    rw [cnt_set r i (by simpa using h)]
    omega
theorem cnt_le : ∀ l : List Bool, cnt l ≤ l.length
  | [] => by simp [cnt]
  | b :: r => by have := cnt_le r; simp only [cnt, List.length_cons]; split <;> omega
theorem cnt_all : ∀ (l : List Bool), cnt l = l.length → ∀ (i : Nat), i < l.length → l[i]? = some true
  | [], _, i, hi => by simp at hi
  | b :: r, h, i, hi => by
    have h1 := cnt_le r
    simp only [cnt, List.length_cons] at h
    have hb : b = true := by cases b <;> simp at h ⊢; omega
    subst hb
    cases i with
    | zero => rfl
    | succ i => simpa using cnt_all r (by simp at h; omega) i (by simpa using hi)

theorem getD_of {listed : Array Bool} {i : Nat} {b c : Bool} (h : listed[i]? = some b) : listed.getD i c = b := by
  obtain ⟨hlt, he⟩ := Array.getElem?_eq_some_iff.1 h
  simp [hlt, he]
theorem of_getD {listed : Array Bool} {i : Nat} {b c : Bool} (hlt : i < listed.size) (h : listed.getD i c = b) : listed[i]? = some b := by
  rw [Array.getElem?_eq_getElem hlt]
  simp only [Array.getD, hlt, dif_pos] at h
  rw [← h]; rfl

theorem stepPost_mono {R R' : Value → World → Prop} {o : Oper} {a : Act} (h : ∀ u w, R u w → R' u w) : ∀ e a' w', StepPost R o a e a' w' → StepPost R' o a e a' w' :=
  fun _ _ _ ⟨he, u, ha, hR⟩ => ⟨he, u, ha, h u _ hR⟩
theorem wpList_mono_post {R R' : Value → World → Prop} {o : Oper} {a : Act} {w : World} (h : ∀ u w, R u w → R' u w) (hw : wpList P ops (StepPost R o a) [o] a w) : wpList P ops (StepPost R' o a) [o] a w := by
  unfold wpList at hw ⊢
  split
  · rename_i hwt
    simp only [hwt, if_true] at hw
    rcases hw with hw | ⟨_, _, _, hw, _⟩
    case inr => cases hw
    refine .inl ?_
    unfold Oper.wp at *
    generalize (execOp a.eval o).run P w = r at *
    cases r with
    | ok n w' =>
      cases n <;> simp only [Oper.upon, wpList] at hw ⊢
      case value u => exact stepPost_mono h _ _ _ hw
      case skip => exact stepPost_mono h _ _ _ hw
      case defer d => exact stepPost_mono h _ _ _ hw
      case enter f args =>
        refine Calls.mono hw fun e w'' he => ?_
        cases e with
        | returned u => exact stepPost_mono h _ _ _ he
        | panicked c => exact absurd he.1 (by simp)
        | outgrown => obtain ⟨_, _, h2, _⟩ := he; cases h2
      case row row args => exact Rows.mono hw fun u w'' he => stepPost_mono h _ _ _ he
    | halt x w' =>
      cases x <;> simp only [Oper.upon] at hw
      case panic u => exact absurd hw.1 (by simp)
  · rename_i hwt
    simp only [hwt] at hw
    exact stepPost_mono h _ _ _ hw

/-- All that stand behind number k in the text wait for it, or for one behind it. -/
def loudOk (ops : Array Oper) (k : Nat) : Bool := (List.range ops.size).all fun j => decide (j ≤ k) || match ops[j]? with | none => true | some y => y.after.any fun e => Region.binds .any e && decide (k ≤ e.on)
theorem loudOk_spec {k : Nat} (h : loudOk ops k = true) (j : Nat) (y : Oper) (hj : k < j) (hy : ops[j]? = some y) : ∃ e ∈ y.after, Region.binds .any e = true ∧ k ≤ e.on := by
  unfold loudOk at h
  rw [List.all_eq_true] at h
  have hlt : j < ops.size := (Array.getElem?_eq_some_iff.1 hy).1
  have h1 := h j (List.mem_range.2 hlt)
  simp only [hy, Bool.or_eq_true, decide_eq_true_eq] at h1
  rcases h1 with h1 | h1
  · omega
  · rw [Array.any_eq_true] at h1
    obtain ⟨m, hm, h1⟩ := h1
    simp only [Bool.and_eq_true, decide_eq_true_eq] at h1
    exact ⟨_, Array.getElem_mem hm, h1.1, h1.2⟩

/-- The operations in the text's order, each in an arbitrary world in which nothing of wS has turned. Either its value is one and the same in every such world ('det'), or all that stand behind it wait for it ('loud'): then its value may hang on the world, and what follows is asked of the world behind it. -/
def DW (P : Program) (ops : Array Oper) (Q : Exit → Act → World → Prop) : List Oper → Nat → World → Act → Prop
  | [], _, wS, a => ∀ w, Kept wS w → Q .normal a w
  | o :: rest, k, wS, a =>
    (∃ v, (∀ w, Kept wS w → wpList P ops (StepPost (fun u w' => u = v ∧ Kept w w') o a) [o] a w) ∧ DW P ops Q rest (k + 1) wS (a.put o.dst v)) ∨
    (loudOk ops k = true ∧ ∀ w, Kept wS w → wpList P ops (StepPost (fun u w' => Kept w w' ∧ DW P ops Q rest (k + 1) w' (a.put o.dst u)) o a) [o] a w)

theorem DW.nil {a : Act} {k : Nat} {wS : World} (h : ∀ w, Kept wS w → Q .normal a w) : DW P ops Q [] k wS a := h
theorem DW.det {o : Oper} {rest : List Oper} {a : Act} {k : Nat} {wS : World} {v : Value} (hd : ∀ w, Kept wS w → wpList P ops (StepPost (fun u w' => u = v ∧ Kept w w') o a) [o] a w)
    (hr : DW P ops Q rest (k + 1) wS (a.put o.dst v)) : DW P ops Q (o :: rest) k wS a := .inl ⟨v, hd, hr⟩
theorem DW.loud {o : Oper} {rest : List Oper} {a : Act} {k : Nat} {wS : World} (hl : loudOk ops k = true)
    (hd : ∀ w, Kept wS w → wpList P ops (StepPost (fun u w' => Kept w w' ∧ DW P ops Q rest (k + 1) w' (a.put o.dst u)) o a) [o] a w) : DW P ops Q (o :: rest) k wS a := .inr ⟨hl, hd⟩

/-- Where the walk stands: m operations are settled; those of them that have not come up yet have one value whatever the world; DW holds of the rest. -/
structure Stand (P : Program) (ops : Array Oper) (Q : Exit → Act → World → Prop) (a0 : Act) (L : Nat → Prop) (a : Act) (w : World) (m : Nat) (vals : Nat → Value) (wS : World) (am : Act) : Prop where
  le : m ≤ ops.size
  sub : ∀ j, L j → j < m
  rep : Rep ops vals a0 L a
  repm : Rep ops vals a0 (· < m) am
  pend : ∀ j o, j < m → ¬ L j → ops[j]? = some o → ∃ aj, Rep ops vals a0 (· < j) aj ∧ ∀ w, Kept wS w → wpList P ops (StepPost (fun u w' => u = vals j ∧ Kept w w') o aj) [o] aj w
  kept : Kept wS w
  dw : ∀ l : List Oper, (∀ j : Nat, l[j]? = ops[m + j]?) → DW P ops Q l m wS am

theorem Rep.vals {vals vals' : Nat → Value} {a0 a : Act} {L : Nat → Prop} (h : Rep ops vals a0 L a) (he : ∀ j, L j → vals' j = vals j) : Rep ops vals' a0 L a :=
  ⟨h.defers, h.size, h.old, fun t j o ht hj ho hd hmax => by rw [he j hj]; exact h.new t j o ht hj ho hd hmax⟩
theorem Rep.cong {vals : Nat → Value} {a0 a : Act} {L M : Nat → Prop} (h : Rep ops vals a0 L a) (he : ∀ j, M j ↔ L j) : Rep ops vals a0 M a := by
  have : M = L := funext fun j => propext (he j)
  rw [this]; exact h

/-- Forward over all that is settled by itself. -/
theorem Stand.settle {a0 a : Act} {L : Nat → Prop} {w : World} : ∀ (n m : Nat) (vals : Nat → Value) (wS : World) (am : Act), ops.size - m = n → Stand P ops Q a0 L a w m vals wS am →
    ∃ m' vals' am', Stand P ops Q a0 L a w m' vals' wS am' ∧ (m' < ops.size → loudOk ops m' = true ∧ ∃ o, ops[m']? = some o ∧ ∀ w, Kept wS w → wpList P ops (StepPost (fun u w' => Kept w w' ∧ ∀ l : List Oper, (∀ j : Nat, l[j]? = ops[m' + 1 + j]?) → DW P ops Q l (m' + 1) w' (am'.put o.dst u)) o am') [o] am' w) := by
  intro n
  induction n with
  | zero => intro m vals wS am hn h; exact ⟨m, vals, am, h, fun hlt => by omega⟩
  | succ n ih =>
    intro m vals wS am hn h
    have hlt : m < ops.size := by omega
    have ho : ops[m]? = some ops[m] := Array.getElem?_eq_getElem hlt
    have hl : ∀ j : Nat, (ops[m] :: (ops.toList.drop (m + 1)))[j]? = ops[m + j]? := by
      intro j
      cases j with
      | zero => simp [ho]
      | succ j => simp [List.getElem?_drop, show m + 1 + j = m + (j + 1) by omega]
    have huniq : ∀ l : List Oper, (∀ j : Nat, l[j]? = ops[m + 1 + j]?) → l = ops.toList.drop (m + 1) := fun l h => List.ext_getElem? fun j => by rw [h j]; simp [List.getElem?_drop]
    rcases h.dw _ hl with ⟨v, hd, hr⟩ | ⟨hl', hd⟩
    · have hvm : ∀ j, j < m → (fun j => if j = m then v else vals j) j = vals j := fun j hj => by simp [show j ≠ m by omega]
      refine ih (m + 1) (fun j => if j = m then v else vals j) wS (am.put ops[m].dst v) (by omega) ⟨by omega, fun j hj => by have := h.sub j hj; omega, h.rep.vals fun j hj => hvm j (h.sub j hj), ?_, ?_, h.kept, ?_⟩
      · have := (h.repm.vals (vals' := fun j => if j = m then v else vals j) fun j hj => hvm j hj).put_ (M := (· < m + 1)) ho (fun j => by omega) fun k _ _ hk _ _ _ => by omega
        simpa using this
      · intro j o hj hnj hoj
        by_cases hjm : j = m
        · subst hjm
          rw [ho] at hoj; injection hoj with hoj; subst hoj
          exact ⟨am, h.repm.vals fun k hk => hvm k hk, by simpa using hd⟩
        · obtain ⟨aj, hrj, hdj⟩ := h.pend j o (by omega) hnj hoj
          exact ⟨aj, hrj.vals fun k hk => hvm k (by omega), by simpa [hjm] using hdj⟩
      · intro l hl2
        rw [huniq l hl2]; exact hr
    · exact ⟨m, vals, am, h, fun _ => ⟨hl', ops[m], ho, fun w hw => (wpList_mono_post (fun u w' hu => ⟨hu.1, fun l hl2 => by rw [huniq l hl2]; exact hu.2⟩) (hd w hw))⟩⟩

theorem dw_any (hok : DetOk ops) (a0 : Act) :
    ∀ (fuel : Nat) (listed : Array Bool) (a : Act) (w : World) (m : Nat) (vals : Nat → Value) (wS : World) (am : Act), listed.size = ops.size → cnt listed.toList + fuel = ops.size →
      (∀ (j : Nat) (o : Oper), listed[j]? = some true → ops[j]? = some o → ∀ e ∈ o.after, Region.binds .any e = true → listed[e.on]? = some true) →
      Stand P ops Q a0 (fun j => listed[j]? = some true) a w m vals wS am → wpAny P .any ops Q fuel listed a w := by
  have hfull : ∀ (listed : Array Bool) (a : Act) (w : World) (m : Nat) (vals : Nat → Value) (wS : World) (am : Act), listed.size = ops.size → (∀ j, j < ops.size → listed[j]? = some true) →
      Stand P ops Q a0 (fun j => listed[j]? = some true) a w m vals wS am → Q .normal a w := by
    intro listed a w m vals wS am hsz hall h
    have hm : m = ops.size := by
      have := h.le
      rcases Nat.lt_or_ge m ops.size with hlt | hge
      · have := h.sub m (hall m hlt); omega
      · omega
    subst hm
    have e1 : a.tmps = am.tmps := Array.ext_getElem? fun t => h.rep.agree h.repm t fun j o ho _ => by
      have hlt : j < ops.size := (Array.getElem?_eq_some_iff.1 ho).1
      exact ⟨fun _ => hlt, fun _ => hall j hlt⟩
    have e2 : a.defers = am.defers := h.rep.defers.trans h.repm.defers.symm
    have : a = am := by cases a; cases am; simp only at e1 e2; rw [e1, e2]
    rw [this]
    exact h.dw [] (fun j => by simp) w h.kept
  intro fuel
  induction fuel with
  | zero =>
    intro listed a w m vals wS am hsz hc hcl hst
    have hall : ∀ j, j < ops.size → listed[j]? = some true := fun j hj => by
      have := cnt_all listed.toList (by simp; omega) j (by simp; omega)
      simpa using this
    refine ⟨?_, hfull listed a w m vals wS am hsz hall hst⟩
    rw [List.eq_nil_iff_forall_not_mem]
    intro j hj
    obtain ⟨h0, o, ho, _⟩ := mem_ready.1 hj
    have hlt : j < ops.size := (Array.getElem?_eq_some_iff.1 ho).1
    rw [getD_of (hall j hlt)] at h0; cases h0
  | succ fuel ih =>
    intro listed a w m0 vals0 wS am0 hsz hc hcl hst0
    refine ⟨fun hnil => ?_, fun i hi => ?_⟩
    · have hall : ∀ m j, j ≤ m → j < ops.size → listed[j]? = some true := by
        intro m
        induction m with
        | zero =>
          intro j hj hlt
          obtain rfl : j = 0 := by omega
          by_cases h : listed[0]? = some true
          · exact h
          · exfalso
            have hz : 0 < listed.size := by omega
            have ho : ops[0]? = some ops[0] := Array.getElem?_eq_getElem hlt
            have : (0 : Nat) ∈ Region.ready .any ops listed := mem_ready.2 ⟨by
              have h' : ∃ b : Bool, listed.getD 0 true = b := ⟨_, rfl⟩
              obtain ⟨b, hb⟩ := h'
              cases b with
              | true => exact absurd (of_getD hz hb) h
              | false => exact hb, ops[0], ho, fun e he hb => absurd (hok.back 0 _ ho e he hb) (by omega)⟩
            rw [hnil] at this; cases this
        | succ m ihm =>
          intro j hj hlt
          rcases Nat.lt_or_ge j (m + 1) with h | h
          · exact ihm j (by omega) hlt
          obtain rfl : j = m + 1 := by omega
          by_cases h : listed[m + 1]? = some true
          · exact h
          · exfalso
            have hz : m + 1 < listed.size := by omega
            have ho : ops[m + 1]? = some ops[m + 1] := Array.getElem?_eq_getElem hlt
            have : (m + 1) ∈ Region.ready .any ops listed := mem_ready.2 ⟨by
              have h' : ∃ b : Bool, listed.getD (m + 1) true = b := ⟨_, rfl⟩
              obtain ⟨b, hb⟩ := h'
              cases b with
              | true => exact absurd (of_getD hz hb) h
              | false => exact hb, _, ho, fun e he hb => by
                have h1 := hok.back _ _ ho e he hb
                have h2 := ihm e.on (by omega) (by omega)
                exact getD_of h2⟩
            rw [hnil] at this; cases this
      exact hfull listed a w m0 vals0 wS am0 hsz (fun j hj => hall j j (Nat.le_refl _) hj) hst0
    · obtain ⟨m, vals, am, hst, hhead⟩ := hst0.settle _ _ _ _ _ rfl
      obtain ⟨h0, o, ho, hedge⟩ := mem_ready.1 hi
      have hlt : i < ops.size := (Array.getElem?_eq_some_iff.1 ho).1
      have hzi : i < listed.size := by omega
      have hfalse : listed[i]? = some false := of_getD hzi h0
      have hedge' : ∀ e ∈ o.after, Region.binds .any e = true → listed[e.on]? = some true := fun e he hb => by
        have h1 := hedge e he hb
        have h2 := hok.back i o ho e he hb
        have h3 : e.on < listed.size := by omega
        exact of_getD h3 h1
      have hself : ∀ j, listed[j]? = some true → j ≠ i := fun j hj e => by subst e; rw [hfalse] at hj; cases hj
      have hwr : ∀ (t : Nat), (t ∈ o.looksAt ops ∨ o.dst = some t) → ∀ (j : Nat) (y : Oper), ops[j]? = some y → y.dst = some t → j ≠ i → (listed[j]? = some true ↔ j < i) := by
        intro t ht j y hy hd hji
        rcases hok.bound i j o y t ho hy (Ne.symm hji) hd ht with ⟨e, he, hb, rfl⟩ | ⟨e, he, hb, hon⟩
        · exact ⟨fun _ => hok.back i o ho e he hb, fun _ => hedge' e he hb⟩
        · have h1 := hok.back j y hy e he hb
          refine ⟨fun hj => ?_, fun h => by omega⟩
          have := hcl j y hj hy e he hb
          rw [hon] at this
          exact absurd rfl (hself i this)
      -- execution in the state at hand is execution in a state of the text's order
      have hagree : ∀ {vs : Nat → Value} {at' : Act}, Rep ops vs a0 (· < i) at' → Rep ops vs a0 (fun j => listed[j]? = some true) a → a.tmps.size = at'.tmps.size ∧ execOp a.eval o = execOp at'.eval o ∧ Region.wanted o (yielded ops a.tmps) = Region.wanted o (yielded ops at'.tmps) := by
        intro vs at' hti hrep
        have := exec_agree (ops := ops) (hok.sel i o ho) (a := at') (b := a) fun t ht => hrep.agree hti t fun j y hy hd => by
          by_cases hji : j = i
          · subst hji; exact ⟨fun h => absurd rfl (hself _ h), fun h => absurd h (by omega)⟩
          · exact hwr t (.inl ht) j y hy hd hji
        exact ⟨hrep.size.trans hti.size.symm, this.1, this.2⟩
      have hnext : ∀ j, (listed.setIfInBounds i true)[j]? = some true ↔ listed[j]? = some true ∨ j = i := fun j => by
        by_cases hji : j = i
        · subst hji; simp [hzi]
        · rw [Array.getElem?_setIfInBounds_ne (Ne.symm hji)]; simp [hji]
      have hput : ∀ {vs : Nat → Value}, Rep ops vs a0 (fun j => listed[j]? = some true) a → Rep ops vs a0 (fun j => (listed.setIfInBounds i true)[j]? = some true) (a.put o.dst (vs i)) := fun hrep =>
        hrep.put_ ho hnext fun k o' t hk hok' hd hd' => by
          have := (hwr t (.inr hd) k o' hok' hd' (hself k hk)).1 hk
          omega
      have hcl' : ∀ (j : Nat) (y : Oper), (listed.setIfInBounds i true)[j]? = some true → ops[j]? = some y → ∀ e ∈ y.after, Region.binds .any e = true → (listed.setIfInBounds i true)[e.on]? = some true := by
        intro j y hj hy e he hb
        rw [hnext] at hj ⊢
        rcases hj with hj | rfl
        · exact .inl (hcl j y hj hy e he hb)
        · rw [ho] at hy; injection hy with hy; subst hy
          exact .inl (hedge' e he hb)
      have hcnt : cnt (listed.setIfInBounds i true).toList + fuel = ops.size := by
        have := cnt_set listed.toList i (by simpa using hfalse)
        rw [Array.toList_setIfInBounds, this]; omega
      rcases Nat.lt_or_ge i m with him | him
      · -- settled: its value is known
        obtain ⟨aj, hrj, hdj⟩ := hst.pend i o him (by rw [hfalse]; simp) ho
        obtain ⟨hs, hex, hwt⟩ := hagree hrj hst.rep
        refine does_op ho (hdj w hst.kept) hs hex hwt fun u w' ⟨hu, hk⟩ => ?_
        subst hu
        refine ih _ _ w' m vals wS am (by simpa using hsz) hcnt hcl' ⟨hst.le, fun j hj => ?_, hput hst.rep, hst.repm, fun j y hj hnj hy => hst.pend j y hj (fun h => hnj ((hnext j).2 (.inl h))) hy, hst.kept.call hk, hst.dw⟩
        rcases (hnext j).1 hj with h | rfl
        · exact hst.sub j h
        · exact him
      · -- the next one that is not settled
        obtain ⟨hl, oo, hoo, hd⟩ := hhead (by omega)
        have him' : i = m := by
          rcases Nat.lt_or_ge m i with h | h
          · obtain ⟨e, he, hb, hon⟩ := loudOk_spec hl i o h ho
            have := hst.sub _ (hedge' e he hb)
            omega
          · omega
        subst him'
        rw [ho] at hoo; injection hoo with hoo; subst hoo
        obtain ⟨hs, hex, hwt⟩ := hagree hst.repm hst.rep
        refine does_op ho (hd w hst.kept) hs hex hwt fun u w' ⟨hk, hdw⟩ => ?_
        have hvm : ∀ j, j ≠ i → (fun j => if j = i then u else vals j) j = vals j := fun j hj => by simp [hj]
        have hrep' := hput (hst.rep.vals (vals' := fun j => if j = i then u else vals j) fun j hj => hvm j (hself j hj))
        simp only [if_true] at hrep'
        refine ih _ _ w' (i + 1) (fun j => if j = i then u else vals j) w' (am.put o.dst u) (by simpa using hsz) hcnt hcl' ⟨by omega, fun j hj => ?_, hrep', ?_, fun j y hj hnj hy => ?_, Kept.refl _, hdw⟩
        · rcases (hnext j).1 hj with h | rfl
          · have := hst.sub j h; omega
          · omega
        · have := (hst.repm.vals (vals' := fun j => if j = i then u else vals j) fun j hj => hvm j (by omega)).put_ (M := (· < i + 1)) ho (fun j => by omega) fun k _ _ hk _ _ _ => by omega
          simpa using this
        · have hji : j ≠ i := fun e => hnj ((hnext j).2 (.inr e))
          obtain ⟨aj, hrj, hdj⟩ := hst.pend j y (by omega) (fun h => hnj ((hnext j).2 (.inl h))) hy
          exact ⟨aj, hrj.vals fun k hk => hvm k (by omega), by simpa [hji] using fun w2 hw2 => hdj w2 ((hst.kept.call hk).call hw2)⟩

theorem wp_region_dw {id : Nat} {a : Act} {w : World} (C : World → Prop) (hC : C w) (hm : P.follows .mixedOrders = true) (hok : detOk ops = true)
    (l : List Oper) (hl : ops.toList = l) (h : ∀ wB, C wB → DW P ops Q l 0 wB a) : (Code.region id ops true).wp P Q a w := by
  subst hl
  have hdw := h w hC
  refine wp_region_any hm (dw_any (detOk_spec hok) a ops.size _ a _ 0 (fun _ => undef) w a (by simp) ?_ ?_ ⟨by omega, fun j hj => by simp [Array.getElem?_replicate] at hj, ?_, ?_, fun j o hj => by omega, (Kept.refl _).drew, fun l hl => ?_⟩)
  · have : ∀ n, cnt (List.replicate n false) = 0 := fun n => by induction n with | zero => rfl | succ n ih => simp [List.replicate_succ, cnt, ih]
    simp [this]
  · intro j o hj; simp [Array.getElem?_replicate] at hj
  · exact ⟨rfl, rfl, fun _ _ => rfl, fun t j o _ hj => by simp [Array.getElem?_replicate] at hj⟩
  · exact ⟨rfl, rfl, fun _ _ => rfl, fun t j o _ hj => absurd hj (by omega)⟩
  · have : l = ops.toList := List.ext_getElem? fun j => by rw [hl j]; simp
    rw [this]; exact hdw
end
end Go.Proofs.Ytfiocebipckaaaa
