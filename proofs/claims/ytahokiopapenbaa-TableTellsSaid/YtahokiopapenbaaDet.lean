/- A region that draws its order, each of whose operations yields one and the same value in every world that meets a condition I, and keeps I: it may be walked in the text's order, an operation at a time, each in an arbitrary world that meets I. No program in sight. -/
import Derived.Orders
import Derived.Tactics
import Derived.Test.YtahokiopapenbaaKit
set_option linter.unusedVariables false
set_option linter.unusedSimpArgs false
namespace Go.Proofs.Ytahokiopapenbaa
open Go

/-- A relation between worlds, 'what must stay has stayed', that serves for a region's condition. -/
structure Keeps (G : World → World → Prop) : Prop where
  refl : ∀ w, G w w
  trans : ∀ {a b c}, G a b → G b c → G a c
  drew : ∀ w, G w w.drew
theorem keepsKept : Keeps Kept := ⟨Kept.refl, Kept.call, fun w => (Kept.refl w).drew⟩
/-- Two of them: what an operation of one value may count on (G), and what it leaves (H), which is no less. -/
structure KeepsTwo (G H : World → World → Prop) : Prop where
  g : Keeps G
  h : Keeps H
  sub : ∀ {a b}, H a b → G a b
theorem keepsOne : KeepsTwo Kept Kept := ⟨keepsKept, keepsKept, id⟩
theorem keepsBut (S : List Nat) : KeepsTwo (But S) Kept := ⟨⟨But.refl S, But.trans, fun w => (But.refl S w).drew⟩, keepsKept, But.of_kept⟩

section
variable {P : Program} {ops : Array Oper} {Q : Exit → Act → World → Prop} {G H : World → World → Prop}

/-- What one step must come to: some value u is put, and R holds of it and of the new world. -/
def StepPost (R : Value → World → Prop) (o : Oper) (a : Act) : Exit → Act → World → Prop := fun e a' w' => e = .normal ∧ ∃ u, a' = a.put o.dst u ∧ R u w'
theorem StepPost.mk {R : Value → World → Prop} {o : Oper} {a a' : Act} {w : World} (u : Value) (h : a' = a.put o.dst u) (hR : R u w) : StepPost R o a .normal a' w := ⟨rfl, u, h, hR⟩

theorem StepPost.loud {R : World → World → Prop} {D : World → Act → Prop} {o : Oper} {a a' : Act} {w w' : World} (u : Value) (h : a' = a.put o.dst u) (hk : R w w') (hd : R w w' → D w' (a.put o.dst u)) :
    StepPost (fun u w' => R w w' ∧ D w' (a.put o.dst u)) o a .normal a' w' := ⟨rfl, u, h, hk, hd hk⟩

theorem put_same {a b : Act} {d : Option Tmp} {u v : Value} (hs : b.tmps.size = a.tmps.size) (h : a.put d u = a.put d v) : b.put d u = b.put d v := by
  cases d with
  | none => rfl
  | some d =>
    simp only [Act.put, Act.mk.injEq, and_true] at h ⊢
    rcases Nat.lt_or_ge d a.tmps.size with hd | hd
    · have h1 := congrArg (fun x : Array Value => x[d]?) h
      simp [hd] at h1
      rw [h1]
    · rw [Array.setIfInBounds_eq_of_size_le (by omega), Array.setIfInBounds_eq_of_size_le (by omega)]

theorem does_op {o : Oper} {R : Value → World → Prop} {a b : Act} {i : Nat} (hi : ops[i]? = some o) {w : World} (h : wpList P ops (StepPost R o a) [o] a w) (hs : b.tmps.size = a.tmps.size)
    (he : execOp b.eval o = execOp a.eval o) (hw : Region.wanted o (yielded ops b.tmps) = Region.wanted o (yielded ops a.tmps))
    {K : Act → World → Prop} (hK : ∀ u w', R u w' → K (b.put o.dst u) w') : wpOp P ops Q i K b w := by
  unfold wpOp
  simp only [hi, hw]
  unfold wpList at h
  split
  · rename_i hwt
    simp only [hwt, if_true] at h
    rcases h with h | ⟨_, _, _, h, _⟩
    case inr => cases h
    refine .inl ?_
    unfold Oper.wp at *
    rw [he]
    generalize (execOp a.eval o).run P w = r at *
    cases r with
    | ok n w' =>
      cases n <;> simp only [Oper.upon, wpList] at h ⊢
      case value u => obtain ⟨_, u', h2, h3⟩ := h; rw [put_same hs h2]; exact hK _ _ h3
      case skip => obtain ⟨_, u', h2, h3⟩ := h; rw [put_same hs h2]; exact hK _ _ h3
      case defer d =>
        obtain ⟨_, u', h2, h3⟩ := h
        have h1 := congrArg (fun x : Act => x.defers.length) h2
        cases hd : o.dst <;> simp [Act.put, hd] at h1
      case enter f args =>
        refine Calls.mono h fun e w'' he => ?_
        cases e with
        | returned u => obtain ⟨_, u', h2, h3⟩ := he; show K _ _; rw [put_same hs h2]; exact hK _ _ h3
        | panicked c => exact absurd he.1 (by simp)
        | outgrown => obtain ⟨_, _, h2, _⟩ := he; cases h2
      case row row args => exact Rows.mono h fun u w'' he => by obtain ⟨_, u', h2, h3⟩ := he; rw [put_same hs h2]; exact hK _ _ h3
    | halt x w' =>
      cases x <;> simp only [Oper.upon] at h
      case panic u => exact absurd h.1 (by simp)
  · rename_i hwt
    simp only [hwt] at h
    obtain ⟨_, u', h2, h3⟩ := (show StepPost R o a .normal (a.put o.dst undef) w from h)
    rw [put_same hs h2]
    exact hK _ _ h3

theorem exec_agree {o : Oper} (hsel : ∀ cs b, o.op ≠ .select cs b) {a b : Act} (h : ∀ t ∈ o.looksAt ops, b.tmps[t]? = a.tmps[t]?) :
    execOp b.eval o = execOp a.eval o ∧ Region.wanted o (yielded ops b.tmps) = Region.wanted o (yielded ops a.tmps) := by
  refine ⟨execOp_congr o hsel fun x hx => ?_, ?_⟩
  · cases x with
    | tmp t =>
      have := h t (List.mem_append_left _ (List.mem_filterMap.2 ⟨.tmp t, by simpa using hx, rfl⟩))
      simp [Act.eval, this]
    | _ => rfl
  · unfold Region.wanted
    cases hg : o.guard with
    | none => rfl
    | some gw =>
      obtain ⟨g, wt⟩ := gw
      simp only
      have hy : yielded ops b.tmps g = yielded ops a.tmps g := by
        unfold yielded
        cases hd : (ops[g]?).bind (·.dst) with
        | none => simp
        | some t =>
          have := h t (by unfold Oper.looksAt; simp [hg, hd])
          simp [this]
      rw [hy]

/-- One edge binds x behind j. -/
def edgeTo (x : Oper) (j : Nat) : Bool := x.after.any fun e => Region.binds .any e && e.on == j
def touches (ops : Array Oper) (x : Oper) (t : Tmp) : Bool := (x.looksAt ops).contains t || x.dst == some t
/-- Whoever writes a slot that another one looks at or writes is bound to it by an edge; edges lead backward; no select. -/
def detOk (ops : Array Oper) : Bool :=
  ((List.range ops.size).all fun i => match ops[i]? with
    | none => true
    | some x => (match x.op with | .select .. => false | _ => true) && (x.after.all fun e => !Region.binds .any e || decide (e.on < i)) &&
      ((List.range ops.size).all fun j => i == j || match ops[j]? with
        | none => true
        | some y => (match y.dst with | none => true | some t => !touches ops x t) || edgeTo x j || edgeTo y i))

structure DetOk (ops : Array Oper) : Prop where
  sel : ∀ (i : Nat) (o : Oper), ops[i]? = some o → ∀ cs b, o.op ≠ .select cs b
  back : ∀ (i : Nat) (o : Oper), ops[i]? = some o → ∀ e ∈ o.after, Region.binds .any e = true → e.on < i
  bound : ∀ (i j : Nat) (x y : Oper) (t : Tmp), ops[i]? = some x → ops[j]? = some y → i ≠ j → y.dst = some t → (t ∈ x.looksAt ops ∨ x.dst = some t) → (∃ e ∈ x.after, Region.binds .any e = true ∧ e.on = j) ∨ (∃ e ∈ y.after, Region.binds .any e = true ∧ e.on = i)

theorem edgeTo_iff {x : Oper} {j : Nat} (h : edgeTo x j = true) : ∃ e ∈ x.after, Region.binds .any e = true ∧ e.on = j := by
  unfold edgeTo at h
  rw [Array.any_eq_true] at h
  obtain ⟨k, hk, h⟩ := h
  simp only [Bool.and_eq_true, beq_iff_eq] at h
  exact ⟨_, Array.getElem_mem hk, h.1, h.2⟩

theorem detOk_spec (h : detOk ops = true) : DetOk ops := by
  unfold detOk at h
  rw [List.all_eq_true] at h
  have h1 : ∀ (i : Nat) (o : Oper), ops[i]? = some o → _ := fun i o ho => by
    have hlt : i < ops.size := (Array.getElem?_eq_some_iff.1 ho).1
    have h2 := h i (List.mem_range.2 hlt)
    simp only [ho, Bool.and_eq_true, List.all_eq_true, List.mem_range, Array.all_eq_true_iff_forall_mem] at h2
    exact h2
  refine ⟨fun i o ho cs b hs => ?_, fun i o ho e he hb => ?_, fun i j x y t hx hy hij hd ht => ?_⟩
  · have := (h1 i o ho).1.1
    rw [hs] at this
    cases this
  · have := (h1 i o ho).1.2 e he
    simpa [hb] using this
  · have hlt : j < ops.size := (Array.getElem?_eq_some_iff.1 hy).1
    have h2 := (h1 i x hx).2 j hlt
    simp only [hy, hd, Bool.or_eq_true, beq_iff_eq, hij, false_or, Bool.not_eq_true'] at h2
    rcases h2 with (h2 | h2) | h2
    · have h3 : touches ops x t = true := by
        unfold touches
        rcases ht with ht | ht
        · simp [ht]
        · simp [ht]
      rw [h3] at h2
      cases h2
    · exact .inl (edgeTo_iff h2)
    · exact .inr (edgeTo_iff h2)

/-- State a is a0 with the values of the operations in L put. -/
structure Rep (ops : Array Oper) (vals : Nat → Value) (a0 : Act) (L : Nat → Prop) (a : Act) : Prop where
  defers : a.defers = a0.defers
  size : a.tmps.size = a0.tmps.size
  old : ∀ (t : Nat), (∀ (j : Nat) (o : Oper), L j → ops[j]? = some o → o.dst ≠ some t) → a.tmps[t]? = a0.tmps[t]?
  new : ∀ (t j : Nat) (o : Oper), t < a0.tmps.size → L j → ops[j]? = some o → o.dst = some t → (∀ (k : Nat) (o' : Oper), L k → ops[k]? = some o' → o'.dst = some t → k ≤ j) → a.tmps[t]? = some (vals j)

theorem exists_max (p : Nat → Prop) : ∀ n, (∀ j, p j → j < n) → (∃ j, p j) → ∃ j, p j ∧ ∀ k, p k → k ≤ j := by
  intro n
  induction n with
  | zero => intro hb ⟨j, hj⟩; exact absurd (hb j hj) (by omega)
  | succ n ih =>
    intro hb hex
    by_cases hn : p n
    · exact ⟨n, hn, fun k hk => by have := hb k hk; omega⟩
    · exact ih (fun j hj => by
        have := hb j hj
        have : j ≠ n := fun e => hn (e ▸ hj)
        omega) hex

theorem Rep.agree {vals : Nat → Value} {a0 a b : Act} {L M : Nat → Prop} (ha : Rep ops vals a0 L a) (hb : Rep ops vals a0 M b) (t : Nat)
    (h : ∀ (j : Nat) (o : Oper), ops[j]? = some o → o.dst = some t → (L j ↔ M j)) : a.tmps[t]? = b.tmps[t]? := by
  by_cases ht : t < a0.tmps.size
  · by_cases hex : ∃ j, L j ∧ ∃ o, ops[j]? = some o ∧ o.dst = some t
    · obtain ⟨j, ⟨hj, o, ho, hd⟩, hmax⟩ := exists_max (fun j => L j ∧ ∃ o, ops[j]? = some o ∧ o.dst = some t) ops.size (fun j ⟨_, o, ho, _⟩ => (Array.getElem?_eq_some_iff.1 ho).1) hex
      rw [ha.new t j o ht hj ho hd fun k o' hk hok hdk => hmax k ⟨hk, o', hok, hdk⟩]
      rw [hb.new t j o ht ((h j o ho hd).1 hj) ho hd fun k o' hk hok hdk => hmax k ⟨(h k o' hok hdk).2 hk, o', hok, hdk⟩]
    · rw [ha.old t fun j o hj ho hd => hex ⟨j, hj, o, ho, hd⟩, hb.old t fun j o hj ho hd => hex ⟨j, (h j o ho hd).2 hj, o, ho, hd⟩]
  · rw [Array.getElem?_eq_none (by rw [ha.size]; exact Nat.le_of_not_lt ht), Array.getElem?_eq_none (by rw [hb.size]; exact Nat.le_of_not_lt ht)]

theorem Rep.put_ {vals : Nat → Value} {a0 a : Act} {L M : Nat → Prop} {i : Nat} {o : Oper} (ha : Rep ops vals a0 L a) (ho : ops[i]? = some o)
    (hM : ∀ j, M j ↔ L j ∨ j = i) (hlast : ∀ (k : Nat) (o' : Oper) (t : Nat), L k → ops[k]? = some o' → o.dst = some t → o'.dst = some t → k ≤ i) : Rep ops vals a0 M (a.put o.dst (vals i)) := by
  cases hd : o.dst with
  | none =>
    refine ⟨ha.defers, ha.size, fun t h => ha.old t fun j o' hj hoj => h j o' ((hM j).2 (.inl hj)) hoj, fun t j o' ht hj hoj hdj hmax => ?_⟩
    have hjL : L j := by
      rcases (hM j).1 hj with h | rfl
      · exact h
      · rw [ho] at hoj; injection hoj with hoj; subst hoj; rw [hd] at hdj; cases hdj
    exact ha.new t j o' ht hjL hoj hdj fun k o'' hk => hmax k o'' ((hM k).2 (.inl hk))
  | some d =>
    refine ⟨ha.defers, by simp [Act.put, ha.size], fun t h => ?_, fun t j o' ht hj hoj hdj hmax => ?_⟩
    · have hne : d ≠ t := fun e => h i o ((hM i).2 (.inr rfl)) ho (by rw [hd, e])
      simp only [Act.put, Array.getElem?_setIfInBounds_ne hne]
      exact ha.old t fun j o' hj hoj => h j o' ((hM j).2 (.inl hj)) hoj
    · by_cases hdt : d = t
      · subst hdt
        have hij : i ≤ j := hmax i o ((hM i).2 (.inr rfl)) ho hd
        have : j = i := by
          rcases (hM j).1 hj with h | h
          · have := hlast j o' d h hoj hd hdj; omega
          · exact h
        subst this
        simp [Act.put, ha.size, ht]
      · have hjL : L j := by
          rcases (hM j).1 hj with h | rfl
          · exact h
          · rw [ho] at hoj; injection hoj with hoj; subst hoj; rw [hd] at hdj; injection hdj with hdj; exact absurd hdj hdt
        simp only [Act.put, Array.getElem?_setIfInBounds_ne hdt]
        exact ha.new t j o' ht hjL hoj hdj fun k o'' hk => hmax k o'' ((hM k).2 (.inl hk))

def cnt : List Bool → Nat
  | [] => 0
  | b :: r => (if b then 1 else 0) + cnt r
theorem cnt_set : ∀ (l : List Bool) (i : Nat), l[i]? = some false → cnt (l.set i true) = cnt l + 1
  | [], i, h => by simp at h
  | b :: r, 0, h => by simp at h; subst h; simp [cnt]; omega
  | b :: r, i + 1, h => by
    simp only [List.set_cons_succ, cnt]
    rw [cnt_set r i (by simpa using h)]
    omega
theorem cnt_le : ∀ l : List Bool, cnt l ≤ l.length
  | [] => by simp [cnt]
  | b :: r => by have := cnt_le r; simp only [cnt, List.length_cons]; split <;> omega
theorem cnt_prefix : ∀ (l : List Bool) (m : Nat), m ≤ l.length → (∀ j, j < l.length → (l[j]? = some true ↔ j < m)) → cnt l = m
  | [], m, hm, _ => by simp at hm; simp [cnt, hm]
  | b :: r, 0, _, h => by
    have hb : b = false := by
      have := h 0 (by simp)
      cases b with
      | false => rfl
      | true => simp at this
    have := cnt_prefix r 0 (by omega) fun j hj => by have := h (j + 1) (by simp; omega); simpa using this
    simp [cnt, hb, this]
  | b :: r, m + 1, hm, h => by
    have hb : b = true := by
      have := h 0 (by simp)
      cases b <;> simp_all
    have := cnt_prefix r m (by simp at hm; omega) fun j hj => by have := h (j + 1) (by simp; omega); simpa using this
    simp [cnt, hb, this]; omega
theorem cnt_all : ∀ (l : List Bool), cnt l = l.length → ∀ (i : Nat), i < l.length → l[i]? = some true
  | [], _, i, hi => by simp at hi
  | b :: r, h, i, hi => by
    have h1 := cnt_le r
    simp only [cnt, List.length_cons] at h
    have hb : b = true := by cases b <;> simp at h ⊢; omega
    subst hb
    cases i with
    | zero => rfl
    | succ i => simpa using cnt_all r (by simp at h; omega) i (by simpa using hi)

theorem getD_of {listed : Array Bool} {i : Nat} {b c : Bool} (h : listed[i]? = some b) : listed.getD i c = b := by
  obtain ⟨hlt, he⟩ := Array.getElem?_eq_some_iff.1 h
  simp [hlt, he]
theorem of_getD {listed : Array Bool} {i : Nat} {b c : Bool} (hlt : i < listed.size) (h : listed.getD i c = b) : listed[i]? = some b := by
  rw [Array.getElem?_eq_getElem hlt]
  simp only [Array.getD, hlt, dif_pos] at h
  rw [← h]; rfl

theorem stepPost_mono {R R' : Value → World → Prop} {o : Oper} {a : Act} (h : ∀ u w, R u w → R' u w) : ∀ e a' w', StepPost R o a e a' w' → StepPost R' o a e a' w' :=
  fun _ _ _ ⟨he, u, ha, hR⟩ => ⟨he, u, ha, h u _ hR⟩
theorem wpList_mono_post {R R' : Value → World → Prop} {o : Oper} {a : Act} {w : World} (h : ∀ u w, R u w → R' u w) (hw : wpList P ops (StepPost R o a) [o] a w) : wpList P ops (StepPost R' o a) [o] a w := by
  unfold wpList at hw ⊢
  split
  · rename_i hwt
    simp only [hwt, if_true] at hw
    rcases hw with hw | ⟨_, _, _, hw, _⟩
    case inr => cases hw
    refine .inl ?_
    unfold Oper.wp at *
    generalize (execOp a.eval o).run P w = r at *
    cases r with
    | ok n w' =>
      cases n <;> simp only [Oper.upon, wpList] at hw ⊢
      case value u => exact stepPost_mono h _ _ _ hw
      case skip => exact stepPost_mono h _ _ _ hw
      case defer d => exact stepPost_mono h _ _ _ hw
      case enter f args =>
        refine Calls.mono hw fun e w'' he => ?_
        cases e with
        | returned u => exact stepPost_mono h _ _ _ he
        | panicked c => exact absurd he.1 (by simp)
        | outgrown => obtain ⟨_, _, h2, _⟩ := he; cases h2
      case row row args => exact Rows.mono hw fun u w'' he => stepPost_mono h _ _ _ he
    | halt x w' =>
      cases x <;> simp only [Oper.upon] at hw
      case panic u => exact absurd hw.1 (by simp)
  · rename_i hwt
    simp only [hwt] at hw
    exact stepPost_mono h _ _ _ hw

/-- All that stand behind number k in the text wait for it, or for one behind it. -/
def loudOk (ops : Array Oper) (k : Nat) : Bool := (List.range ops.size).all fun j => decide (j ≤ k) || match ops[j]? with | none => true | some y => y.after.any fun e => Region.binds .any e && decide (k ≤ e.on)
theorem loudOk_spec {k : Nat} (h : loudOk ops k = true) (j : Nat) (y : Oper) (hj : k < j) (hy : ops[j]? = some y) : ∃ e ∈ y.after, Region.binds .any e = true ∧ k ≤ e.on := by
  unfold loudOk at h
  rw [List.all_eq_true] at h
  have hlt : j < ops.size := (Array.getElem?_eq_some_iff.1 hy).1
  have h1 := h j (List.mem_range.2 hlt)
  simp only [hy, Bool.or_eq_true, decide_eq_true_eq] at h1
  rcases h1 with h1 | h1
  · omega
  · rw [Array.any_eq_true] at h1
    obtain ⟨m, hm, h1⟩ := h1
    simp only [Bool.and_eq_true, decide_eq_true_eq] at h1
    exact ⟨_, Array.getElem_mem hm, h1.1, h1.2⟩

/-- y waits for number i, by n + 1 edges at most. -/
def waits (ops : Array Oper) : Nat → Oper → Nat → Bool
  | 0, y, i => edgeTo y i
  | n + 1, y, i => edgeTo y i || y.after.any fun e => Region.binds .any e && match ops[e.on]? with | none => false | some z => waits ops n z i
theorem waits_spec {n : Nat} {y : Oper} {i : Nat} (h : waits ops n y i = true) :
    (∃ e ∈ y.after, Region.binds .any e = true ∧ e.on = i) ∨ ∃ m, m < n ∧ ∃ e ∈ y.after, Region.binds .any e = true ∧ ∃ z, ops[e.on]? = some z ∧ waits ops m z i = true := by
  cases n with
  | zero => exact .inl (edgeTo_iff h)
  | succ n =>
    unfold waits at h
    rw [Bool.or_eq_true] at h
    rcases h with h | h
    · exact .inl (edgeTo_iff h)
    · rw [Array.any_eq_true] at h
      obtain ⟨m, hm, h⟩ := h
      rw [Bool.and_eq_true] at h
      refine .inr ⟨n, Nat.lt_succ_self n, _, Array.getElem_mem hm, h.1, ?_⟩
      cases hz : ops[(y.after[m]).on]? with
      | none => rw [hz] at h; cases h.2
      | some z => rw [hz] at h; exact ⟨z, rfl, h.2⟩
theorem waits_lt (hok : DetOk ops) : ∀ (n : Nat) (q i : Nat) (y : Oper), ops[q]? = some y → waits ops n y i = true → i < q := by
  intro n
  induction n using Nat.strongRecOn with
  | ind n ih =>
    intro q i y hq h
    rcases waits_spec h with ⟨e, he, hb, hon⟩ | ⟨m, hm, e, he, hb, z, hz, hr⟩
    · rw [← hon]; exact hok.back q y hq e he hb
    · have h1 := hok.back q y hq e he hb
      have h2 := ih m hm e.on i z hz hr
      omega
/-- Each that stands at k or behind it waits for all ahead of it. -/
def tailOk (ops : Array Oper) (k : Nat) : Bool := (List.range ops.size).all fun j => decide (j < k) || match ops[j]? with | none => true | some y => (List.range j).all fun i => waits ops 14 y i
theorem tailOk_spec {k : Nat} (h : tailOk ops k = true) (j i : Nat) (y : Oper) (hj : k ≤ j) (hi : i < j) (hy : ops[j]? = some y) : waits ops 14 y i = true := by
  unfold tailOk at h
  rw [List.all_eq_true] at h
  have hlt : j < ops.size := (Array.getElem?_eq_some_iff.1 hy).1
  have h1 := h j (List.mem_range.2 hlt)
  simp only [hy, Bool.or_eq_true, decide_eq_true_eq, List.all_eq_true, List.mem_range] at h1
  rcases h1 with h1 | h1
  · omega
  · exact h1 i hi

/-- The operations in the text's order, each in an arbitrary world that G leads to from wS. Either its value is one and the same in every such world ('det'), or all that stand behind it wait for it ('loud'): then its value may hang on the world, and what follows is asked of the world behind it; or the rest is walked as it stands ('tail': each waits for all ahead of it). -/
def DW (G H : World → World → Prop) (P : Program) (ops : Array Oper) (Q : Exit → Act → World → Prop) : List Oper → Nat → World → Act → Prop
  | [], _, wS, a => ∀ w, H wS w → Q .normal a w
  | o :: rest, k, wS, a =>
    (∃ v, (∀ w, G wS w → wpList P ops (StepPost (fun u w' => u = v ∧ H w w') o a) [o] a w) ∧ DW G H P ops Q rest (k + 1) wS (a.put o.dst v)) ∨
    (loudOk ops k = true ∧ ∀ w, H wS w → wpList P ops (StepPost (fun u w' => G w w' ∧ DW G H P ops Q rest (k + 1) w' (a.put o.dst u)) o a) [o] a w) ∨
    (tailOk ops k = true ∧ ∀ w, H wS w → wpList P ops Q (o :: rest) a w)

/-- Where the walk stands: m operations are settled; those of them that have not come up yet have one value whatever the world; DW holds of the rest. -/
structure Stand (G H : World → World → Prop) (P : Program) (ops : Array Oper) (Q : Exit → Act → World → Prop) (a0 : Act) (L : Nat → Prop) (a : Act) (w : World) (m : Nat) (vals : Nat → Value) (wS : World) (am : Act) : Prop where
  le : m ≤ ops.size
  sub : ∀ j, L j → j < m
  rep : Rep ops vals a0 L a
  repm : Rep ops vals a0 (· < m) am
  pend : ∀ j o, j < m → ¬ L j → ops[j]? = some o → ∃ aj, Rep ops vals a0 (· < j) aj ∧ ∀ w, G wS w → wpList P ops (StepPost (fun u w' => u = vals j ∧ H w w') o aj) [o] aj w
  kept : H wS w
  dw : ∀ l : List Oper, (∀ j : Nat, l[j]? = ops[m + j]?) → DW G H P ops Q l m wS am

theorem Rep.vals {vals vals' : Nat → Value} {a0 a : Act} {L : Nat → Prop} (h : Rep ops vals a0 L a) (he : ∀ j, L j → vals' j = vals j) : Rep ops vals' a0 L a :=
  ⟨h.defers, h.size, h.old, fun t j o ht hj ho hd hmax => by rw [he j hj]; exact h.new t j o ht hj ho hd hmax⟩
theorem Rep.cong {vals : Nat → Value} {a0 a : Act} {L M : Nat → Prop} (h : Rep ops vals a0 L a) (he : ∀ j, M j ↔ L j) : Rep ops vals a0 M a := by
  have : M = L := funext fun j => propext (he j)
  rw [this]; exact h

/-- Forward over all that is settled by itself. -/
theorem Stand.settle {a0 a : Act} {L : Nat → Prop} {w : World} : ∀ (n m : Nat) (vals : Nat → Value) (wS : World) (am : Act), ops.size - m = n → Stand G H P ops Q a0 L a w m vals wS am →
    ∃ m' vals' am', Stand G H P ops Q a0 L a w m' vals' wS am' ∧ (m' < ops.size → (loudOk ops m' = true ∧ ∃ o, ops[m']? = some o ∧ ∀ w, H wS w → wpList P ops (StepPost (fun u w' => G w w' ∧ ∀ l : List Oper, (∀ j : Nat, l[j]? = ops[m' + 1 + j]?) → DW G H P ops Q l (m' + 1) w' (am'.put o.dst u)) o am') [o] am' w) ∨
      (tailOk ops m' = true ∧ ∀ w, H wS w → wpList P ops Q (ops.toList.drop m') am' w)) := by
  intro n
  induction n with
  | zero => intro m vals wS am hn h; exact ⟨m, vals, am, h, fun hlt => by omega⟩
  | succ n ih =>
    intro m vals wS am hn h
    have hlt : m < ops.size := by omega
    have ho : ops[m]? = some ops[m] := Array.getElem?_eq_getElem hlt
    have hl : ∀ j : Nat, (ops[m] :: (ops.toList.drop (m + 1)))[j]? = ops[m + j]? := by
      intro j
      cases j with
      | zero => simp [ho]
      | succ j => simp [List.getElem?_drop, show m + 1 + j = m + (j + 1) by omega]
    have huniq : ∀ l : List Oper, (∀ j : Nat, l[j]? = ops[m + 1 + j]?) → l = ops.toList.drop (m + 1) := fun l h => List.ext_getElem? fun j => by rw [h j]; simp [List.getElem?_drop]
    rcases h.dw _ hl with ⟨v, hd, hr⟩ | ⟨hl', hd⟩ | ⟨hl', hd⟩
    · have hvm : ∀ j, j < m → (fun j => if j = m then v else vals j) j = vals j := fun j hj => by simp [show j ≠ m by omega]
      refine ih (m + 1) (fun j => if j = m then v else vals j) wS (am.put ops[m].dst v) (by omega) ⟨by omega, fun j hj => by have := h.sub j hj; omega, h.rep.vals fun j hj => hvm j (h.sub j hj), ?_, ?_, h.kept, ?_⟩
      · have := (h.repm.vals (vals' := fun j => if j = m then v else vals j) fun j hj => hvm j hj).put_ (M := (· < m + 1)) ho (fun j => by omega) fun k _ _ hk _ _ _ => by omega
        simpa using this
      · intro j o hj hnj hoj
        by_cases hjm : j = m
        · subst hjm
          rw [ho] at hoj; injection hoj with hoj; subst hoj
          exact ⟨am, h.repm.vals fun k hk => hvm k hk, by simpa using hd⟩
        · obtain ⟨aj, hrj, hdj⟩ := h.pend j o (by omega) hnj hoj
          exact ⟨aj, hrj.vals fun k hk => hvm k (by omega), by simpa [hjm] using hdj⟩
      · intro l hl2
        rw [huniq l hl2]; exact hr
    · exact ⟨m, vals, am, h, fun _ => .inl ⟨hl', ops[m], ho, fun w hw => (wpList_mono_post (fun u w' hu => ⟨hu.1, fun l hl2 => by rw [huniq l hl2]; exact hu.2⟩) (hd w hw))⟩⟩
    · refine ⟨m, vals, am, h, fun _ => .inr ⟨hl', fun w hw => ?_⟩⟩
      have : ops.toList.drop m = ops[m] :: ops.toList.drop (m + 1) := List.ext_getElem? fun j => by rw [hl j]; simp [List.getElem?_drop]
      rw [this]; exact hd w hw

/-- Where only the tail is left, its order is forced. -/
theorem tail_any (hok : DetOk ops) (k : Nat) (ht : tailOk ops k = true) : ∀ (fuel m : Nat) (listed : Array Bool) (a : Act) (w : World), k ≤ m → m + fuel = ops.size → listed.size = ops.size →
    (∀ j, j < ops.size → (listed[j]? = some true ↔ j < m)) → wpList P ops Q (ops.toList.drop m) a w → wpAny P .any ops Q fuel listed a w := by
  intro fuel
  induction fuel with
  | zero =>
    intro m listed a w hkm hm hsz hl h
    have e : ops.toList.drop m = [] := by rw [List.drop_eq_nil_iff]; simp; omega
    rw [e] at h
    refine ⟨?_, h⟩
    rw [List.eq_nil_iff_forall_not_mem]
    intro j hj
    obtain ⟨h0, o, ho, _⟩ := mem_ready.1 hj
    have hlt : j < ops.size := (Array.getElem?_eq_some_iff.1 ho).1
    rw [getD_of ((hl j hlt).2 (by omega))] at h0; cases h0
  | succ fuel ih =>
    intro m listed a w hkm hm hsz hl h
    have hlt : m < ops.size := by omega
    have ho : ops[m]? = some ops[m] := Array.getElem?_eq_getElem hlt
    have hfalse : ∀ j, j < ops.size → m ≤ j → listed[j]? = some false := fun j hj hmj => by
      rw [Array.getElem?_eq_getElem (by omega)]
      cases hb : listed[j]'(by omega) with
      | false => rfl
      | true => have := (hl j hj).1 (by rw [Array.getElem?_eq_getElem (by omega), hb]); omega
    have hready : ∀ i, i ∈ Region.ready .any ops listed → i = m := by
      intro i hi
      obtain ⟨h0, o, hoi, hedge⟩ := mem_ready.1 hi
      have hil : i < ops.size := (Array.getElem?_eq_some_iff.1 hoi).1
      rcases Nat.lt_trichotomy i m with h1 | h1 | h1
      · rw [getD_of ((hl i hil).2 h1)] at h0; cases h0
      · exact h1
      · rcases waits_spec (tailOk_spec ht i m o (by omega) h1 hoi) with ⟨e, he, hb, hon⟩ | ⟨q, _, e, he, hb, z, hz, hr⟩
        · have := hedge e he hb
          rw [hon, getD_of (hfalse m hlt (Nat.le_refl _))] at this; cases this
        · have h2 := waits_lt hok q e.on m z hz hr
          have h3 := (Array.getElem?_eq_some_iff.1 hz).1
          have h4 := hedge e he hb
          rw [getD_of (hfalse e.on h3 (by omega))] at h4; cases h4
    have hmem : m ∈ Region.ready .any ops listed := mem_ready.2 ⟨getD_of (hfalse m hlt (Nat.le_refl _)), _, ho, fun e he hb => getD_of ((hl e.on (by have := hok.back m _ ho e he hb; omega)).2 (hok.back m _ ho e he hb))⟩
    refine ⟨fun hnil => (by rw [hnil] at hmem; cases hmem), fun i hi => ?_⟩
    obtain rfl := hready i hi
    have e : ops.toList.drop i = ops[i] :: ops.toList.drop (i + 1) := by rw [List.drop_eq_getElem_cons (by simpa using hlt)]; simp
    rw [e] at h
    have hw : wpOp P ops Q i (wpList P ops Q (ops.toList.drop (i + 1))) a w := by
      unfold wpOp
      simp only [ho]
      exact h
    refine wpOp_mono (fun a' w' h' => ?_) hw
    refine ih (i + 1) _ a' w' (by omega) (by omega) (by simpa using hsz) (fun j hj => ?_) h'
    by_cases hji : j = i
    · subst hji; simp [hsz, hj]
    · rw [Array.getElem?_setIfInBounds_ne (Ne.symm hji), hl j hj]; omega

theorem dw_any (hG : KeepsTwo G H) (hok : DetOk ops) (a0 : Act) :
    ∀ (fuel : Nat) (listed : Array Bool) (a : Act) (w : World) (m : Nat) (vals : Nat → Value) (wS : World) (am : Act), listed.size = ops.size → cnt listed.toList + fuel = ops.size →
      (∀ (j : Nat) (o : Oper), listed[j]? = some true → ops[j]? = some o → ∀ e ∈ o.after, Region.binds .any e = true → listed[e.on]? = some true) →
      Stand G H P ops Q a0 (fun j => listed[j]? = some true) a w m vals wS am → wpAny P .any ops Q fuel listed a w := by
  have hfull : ∀ (listed : Array Bool) (a : Act) (w : World) (m : Nat) (vals : Nat → Value) (wS : World) (am : Act), listed.size = ops.size → (∀ j, j < ops.size → listed[j]? = some true) →
      Stand G H P ops Q a0 (fun j => listed[j]? = some true) a w m vals wS am → Q .normal a w := by
    intro listed a w m vals wS am hsz hall h
    have hm : m = ops.size := by
      have := h.le
      rcases Nat.lt_or_ge m ops.size with hlt | hge
      · have := h.sub m (hall m hlt); omega
      · omega
    subst hm
    have e1 : a.tmps = am.tmps := Array.ext_getElem? fun t => h.rep.agree h.repm t fun j o ho _ => by
      have hlt : j < ops.size := (Array.getElem?_eq_some_iff.1 ho).1
      exact ⟨fun _ => hlt, fun _ => hall j hlt⟩
    have e2 : a.defers = am.defers := h.rep.defers.trans h.repm.defers.symm
    have : a = am := by cases a; cases am; simp only at e1 e2; rw [e1, e2]
    rw [this]
    exact h.dw [] (fun j => by simp) w h.kept
  intro fuel
  induction fuel with
  | zero =>
    intro listed a w m vals wS am hsz hc hcl hst
    have hall : ∀ j, j < ops.size → listed[j]? = some true := fun j hj => by
      have := cnt_all listed.toList (by simp; omega) j (by simp; omega)
      simpa using this
    refine ⟨?_, hfull listed a w m vals wS am hsz hall hst⟩
    rw [List.eq_nil_iff_forall_not_mem]
    intro j hj
    obtain ⟨h0, o, ho, _⟩ := mem_ready.1 hj
    have hlt : j < ops.size := (Array.getElem?_eq_some_iff.1 ho).1
    rw [getD_of (hall j hlt)] at h0; cases h0
  | succ fuel ih =>
    intro listed a w m0 vals0 wS am0 hsz hc hcl hst0
    refine ⟨fun hnil => ?_, fun i hi => ?_⟩
    · have hall : ∀ m j, j ≤ m → j < ops.size → listed[j]? = some true := by
        intro m
        induction m with
        | zero =>
          intro j hj hlt
          obtain rfl : j = 0 := by omega
          by_cases h : listed[0]? = some true
          · exact h
          · exfalso
            have hz : 0 < listed.size := by omega
            have ho : ops[0]? = some ops[0] := Array.getElem?_eq_getElem hlt
            have : (0 : Nat) ∈ Region.ready .any ops listed := mem_ready.2 ⟨by
              have h' : ∃ b : Bool, listed.getD 0 true = b := ⟨_, rfl⟩
              obtain ⟨b, hb⟩ := h'
              cases b with
              | true => exact absurd (of_getD hz hb) h
              | false => exact hb, ops[0], ho, fun e he hb => absurd (hok.back 0 _ ho e he hb) (by omega)⟩
            rw [hnil] at this; cases this
        | succ m ihm =>
          intro j hj hlt
          rcases Nat.lt_or_ge j (m + 1) with h | h
          · exact ihm j (by omega) hlt
          obtain rfl : j = m + 1 := by omega
          by_cases h : listed[m + 1]? = some true
          · exact h
          · exfalso
            have hz : m + 1 < listed.size := by omega
            have ho : ops[m + 1]? = some ops[m + 1] := Array.getElem?_eq_getElem hlt
            have : (m + 1) ∈ Region.ready .any ops listed := mem_ready.2 ⟨by
              have h' : ∃ b : Bool, listed.getD (m + 1) true = b := ⟨_, rfl⟩
              obtain ⟨b, hb⟩ := h'
              cases b with
              | true => exact absurd (of_getD hz hb) h
              | false => exact hb, _, ho, fun e he hb => by
                have h1 := hok.back _ _ ho e he hb
                have h2 := ihm e.on (by omega) (by omega)
                exact getD_of h2⟩
            rw [hnil] at this; cases this
      exact hfull listed a w m0 vals0 wS am0 hsz (fun j hj => hall j j (Nat.le_refl _) hj) hst0
    · obtain ⟨m, vals, am, hst, hhead⟩ := hst0.settle _ _ _ _ _ rfl
      obtain ⟨h0, o, ho, hedge⟩ := mem_ready.1 hi
      have hlt : i < ops.size := (Array.getElem?_eq_some_iff.1 ho).1
      have hzi : i < listed.size := by omega
      have hfalse : listed[i]? = some false := of_getD hzi h0
      have hedge' : ∀ e ∈ o.after, Region.binds .any e = true → listed[e.on]? = some true := fun e he hb => by
        have h1 := hedge e he hb
        have h2 := hok.back i o ho e he hb
        have h3 : e.on < listed.size := by omega
        exact of_getD h3 h1
      have hself : ∀ j, listed[j]? = some true → j ≠ i := fun j hj e => by subst e; rw [hfalse] at hj; cases hj
      have hwr : ∀ (t : Nat), (t ∈ o.looksAt ops ∨ o.dst = some t) → ∀ (j : Nat) (y : Oper), ops[j]? = some y → y.dst = some t → j ≠ i → (listed[j]? = some true ↔ j < i) := by
        intro t ht j y hy hd hji
        rcases hok.bound i j o y t ho hy (Ne.symm hji) hd ht with ⟨e, he, hb, rfl⟩ | ⟨e, he, hb, hon⟩
        · exact ⟨fun _ => hok.back i o ho e he hb, fun _ => hedge' e he hb⟩
        · have h1 := hok.back j y hy e he hb
          refine ⟨fun hj => ?_, fun h => by omega⟩
          have := hcl j y hj hy e he hb
          rw [hon] at this
          exact absurd rfl (hself i this)
      -- execution in the state at hand is execution in a state of the text's order
      have hagree : ∀ {vs : Nat → Value} {at' : Act}, Rep ops vs a0 (· < i) at' → Rep ops vs a0 (fun j => listed[j]? = some true) a → a.tmps.size = at'.tmps.size ∧ execOp a.eval o = execOp at'.eval o ∧ Region.wanted o (yielded ops a.tmps) = Region.wanted o (yielded ops at'.tmps) := by
        intro vs at' hti hrep
        have := exec_agree (ops := ops) (hok.sel i o ho) (a := at') (b := a) fun t ht => hrep.agree hti t fun j y hy hd => by
          by_cases hji : j = i
          · subst hji; exact ⟨fun h => absurd rfl (hself _ h), fun h => absurd h (by omega)⟩
          · exact hwr t (.inl ht) j y hy hd hji
        exact ⟨hrep.size.trans hti.size.symm, this.1, this.2⟩
      have hnext : ∀ j, (listed.setIfInBounds i true)[j]? = some true ↔ listed[j]? = some true ∨ j = i := fun j => by
        by_cases hji : j = i
        · subst hji; simp [hzi]
        · rw [Array.getElem?_setIfInBounds_ne (Ne.symm hji)]; simp [hji]
      have hput : ∀ {vs : Nat → Value}, Rep ops vs a0 (fun j => listed[j]? = some true) a → Rep ops vs a0 (fun j => (listed.setIfInBounds i true)[j]? = some true) (a.put o.dst (vs i)) := fun hrep =>
        hrep.put_ ho hnext fun k o' t hk hok' hd hd' => by
          have := (hwr t (.inr hd) k o' hok' hd' (hself k hk)).1 hk
          omega
      have hcl' : ∀ (j : Nat) (y : Oper), (listed.setIfInBounds i true)[j]? = some true → ops[j]? = some y → ∀ e ∈ y.after, Region.binds .any e = true → (listed.setIfInBounds i true)[e.on]? = some true := by
        intro j y hj hy e he hb
        rw [hnext] at hj ⊢
        rcases hj with hj | rfl
        · exact .inl (hcl j y hj hy e he hb)
        · rw [ho] at hy; injection hy with hy; subst hy
          exact .inl (hedge' e he hb)
      have hcnt : cnt (listed.setIfInBounds i true).toList + fuel = ops.size := by
        have := cnt_set listed.toList i (by simpa using hfalse)
        rw [Array.toList_setIfInBounds, this]; omega
      rcases Nat.lt_or_ge i m with him | him
      · -- settled: its value is known
        obtain ⟨aj, hrj, hdj⟩ := hst.pend i o him (by rw [hfalse]; simp) ho
        obtain ⟨hs, hex, hwt⟩ := hagree hrj hst.rep
        refine does_op ho (hdj w (hG.sub hst.kept)) hs hex hwt fun u w' ⟨hu, hk⟩ => ?_
        subst hu
        refine ih _ _ w' m vals wS am (by simpa using hsz) hcnt hcl' ⟨hst.le, fun j hj => ?_, hput hst.rep, hst.repm, fun j y hj hnj hy => hst.pend j y hj (fun h => hnj ((hnext j).2 (.inl h))) hy, hG.h.trans hst.kept hk, hst.dw⟩
        rcases (hnext j).1 hj with h | rfl
        · exact hst.sub j h
        · exact him
      · -- the next one that is not settled
        rcases hhead (by omega) with ⟨hl, oo, hoo, hd⟩ | ⟨htl, hd⟩
        case inr =>
          -- the tail: all ahead of it have come up
          have hall : ∀ j, j < m → listed[j]? = some true := fun j hj => by
            have key : ∀ (n : Nat) (y : Oper), waits ops n y j = true → (∀ e ∈ y.after, Region.binds .any e = true → listed[e.on]? = some true) → listed[j]? = some true := by
              intro n
              induction n using Nat.strongRecOn with
              | ind n ihn =>
                intro y hy hyl
                rcases waits_spec hy with ⟨e, he, hb, hon⟩ | ⟨q, hq, e, he, hb, z, hz, hr⟩
                · rw [← hon]; exact hyl e he hb
                · exact ihn q hq z hr (fun e' he' hb' => hcl e.on z (hyl e he hb) hz e' he' hb')
            exact key 14 o (tailOk_spec htl i j o him (by omega) ho) hedge'
          have hiff : ∀ j, j < ops.size → (listed[j]? = some true ↔ j < m) := fun j _ => ⟨hst.sub j, hall j⟩
          have e1 : a.tmps = am.tmps := Array.ext_getElem? fun t => hst.rep.agree hst.repm t fun j y hy _ => hiff j (Array.getElem?_eq_some_iff.1 hy).1
          have e2 : a.defers = am.defers := hst.rep.defers.trans hst.repm.defers.symm
          have ea : a = am := by cases a; cases am; simp only at e1 e2; rw [e1, e2]
          have hcm : cnt listed.toList = m := cnt_prefix listed.toList m (by have := hst.le; simpa [hsz] using this) fun j hj => by
            have := hiff j (by simpa [hsz] using hj)
            simpa using this
          have := tail_any (P := P) (Q := Q) hok m htl (fuel + 1) m listed a w (Nat.le_refl _) (by omega) hsz hiff (by rw [ea]; exact hd w hst.kept)
          exact this.2 i hi
        have him' : i = m := by
          rcases Nat.lt_or_ge m i with h | h
          · obtain ⟨e, he, hb, hon⟩ := loudOk_spec hl i o h ho
            have := hst.sub _ (hedge' e he hb)
            omega
          · omega
        subst him'
        rw [ho] at hoo; injection hoo with hoo; subst hoo
        obtain ⟨hs, hex, hwt⟩ := hagree hst.repm hst.rep
        refine does_op ho (hd w hst.kept) hs hex hwt fun u w' ⟨hk, hdw⟩ => ?_
        have hvm : ∀ j, j ≠ i → (fun j => if j = i then u else vals j) j = vals j := fun j hj => by simp [hj]
        have hrep' := hput (hst.rep.vals (vals' := fun j => if j = i then u else vals j) fun j hj => hvm j (hself j hj))
        simp only [if_true] at hrep'
        refine ih _ _ w' (i + 1) (fun j => if j = i then u else vals j) w' (am.put o.dst u) (by simpa using hsz) hcnt hcl' ⟨by omega, fun j hj => ?_, hrep', ?_, fun j y hj hnj hy => ?_, hG.h.refl _, hdw⟩
        · rcases (hnext j).1 hj with h | rfl
          · have := hst.sub j h; omega
          · omega
        · have := (hst.repm.vals (vals' := fun j => if j = i then u else vals j) fun j hj => hvm j (by omega)).put_ (M := (· < i + 1)) ho (fun j => by omega) fun k _ _ hk _ _ _ => by omega
          simpa using this
        · have hji : j ≠ i := fun e => hnj ((hnext j).2 (.inr e))
          obtain ⟨aj, hrj, hdj⟩ := hst.pend j y (by omega) (fun h => hnj ((hnext j).2 (.inl h))) hy
          exact ⟨aj, hrj.vals fun k hk => hvm k (by omega), by simpa [hji] using fun w2 hw2 => hdj w2 (hG.g.trans (hG.g.trans (hG.sub hst.kept) hk) hw2)⟩

/-! The operations in another order than the text's, σ: whoever waits stands behind whom it waits for. -/

def posOf (σ : List Nat) (j : Nat) : Nat := σ.idxOf j
def ren (σ : List Nat) (o : Oper) : Oper := { o with after := o.after.map fun e => { e with on := posOf σ e.on }, guard := o.guard.map fun g => (posOf σ g.1, g.2) }
def permute (σ : List Nat) (ops : Array Oper) : Array Oper := (σ.map fun j => ren σ (ops.getD j default)).toArray
def nodupB : List Nat → Bool
  | [] => true
  | a :: r => !r.contains a && nodupB r
/-- σ names each operation, once. -/
def permOk (σ : List Nat) (ops : Array Oper) : Bool := σ.length == ops.size && (List.range ops.size).all (fun j => σ.contains j) && σ.all (fun j => decide (j < ops.size)) && nodupB σ

structure PermOk (σ : List Nat) (ops : Array Oper) : Prop where
  len : σ.length = ops.size
  mem : ∀ j, j < ops.size → j ∈ σ
  lt : ∀ j ∈ σ, j < ops.size
  nd : σ.Nodup

theorem nodupB_spec : ∀ l : List Nat, nodupB l = true → l.Nodup
  | [], _ => List.nodup_nil
  | a :: r, h => by
    simp only [nodupB, Bool.and_eq_true, Bool.not_eq_true'] at h
    refine List.nodup_cons.2 ⟨fun hm => ?_, nodupB_spec r h.2⟩
    rw [List.contains_iff_mem.2 hm] at h
    cases h.1

theorem permOk_spec {σ : List Nat} (h : permOk σ ops = true) : PermOk σ ops := by
  unfold permOk at h
  simp only [Bool.and_eq_true, beq_iff_eq, List.all_eq_true, List.mem_range, List.contains_iff_mem, decide_eq_true_eq] at h
  exact ⟨h.1.1.1, h.1.1.2, h.1.2, nodupB_spec _ h.2⟩

theorem ren_wp (σ : List Nat) (o : Oper) (a : Act) (w : World) (K : Act → World → Prop) : (ren σ o).wp P a w K Q ↔ o.wp P a w K Q := by
  obtain ⟨dst, op, type, pos, after, guard⟩ := o
  exact Iff.rfl
theorem ren_asks (σ : List Nat) (o : Oper) (a : Act) (w : World) : (ren σ o).asks P a w ↔ o.asks P a w := by
  obtain ⟨dst, op, type, pos, after, guard⟩ := o
  exact Iff.rfl

theorem permute_at {σ : List Nat} (hp : PermOk σ ops) {j : Nat} {o : Oper} (ho : ops[j]? = some o) : (permute σ ops)[posOf σ j]? = some (ren σ o) ∧ posOf σ j < σ.length ∧ σ[posOf σ j]? = some j := by
  have hlt : j < ops.size := (Array.getElem?_eq_some_iff.1 ho).1
  have hpos : posOf σ j < σ.length := List.idxOf_lt_length_iff.2 (hp.mem j hlt)
  have hat : σ[posOf σ j] = j := List.getElem_idxOf hpos
  have hat' : σ[posOf σ j]? = some j := by rw [List.getElem?_eq_getElem hpos, hat]
  refine ⟨?_, hpos, hat'⟩
  unfold permute
  rw [List.getElem?_toArray, List.getElem?_map, hat']
  simp [Array.getD_eq_getD_getElem?, ho]

theorem ren_wanted {σ : List Nat} (hp : PermOk σ ops) (o : Oper) (tmps : Array Value) (hg : ∀ g, o.guard = some g → g.1 < ops.size) :
    Region.wanted (ren σ o) (yielded (permute σ ops) tmps) = Region.wanted o (yielded ops tmps) := by
  unfold Region.wanted ren
  cases h : o.guard with
  | none => rfl
  | some g =>
    obtain ⟨j, b⟩ := g
    simp only [Option.map_some]
    have hlt : j < ops.size := hg _ h
    have hoj : ops[j]? = some ops[j] := Array.getElem?_eq_getElem hlt
    have := (permute_at hp hoj).1
    unfold yielded
    rw [this, hoj]
    rfl

/-- A region in another order is no other region. -/
theorem perm_any {σ : List Nat} (hp : PermOk σ ops) (hg : ∀ (j : Nat) (o : Oper) g, ops[j]? = some o → o.guard = some g → g.1 < ops.size) : ∀ (fuel : Nat) (listed listed' : Array Bool) (a : Act) (w : World), listed.size = ops.size → listed'.size = ops.size →
    (∀ (k j : Nat), σ[k]? = some j → listed'[k]? = listed[j]?) → wpAny P .any (permute σ ops) Q fuel listed' a w → wpAny P .any ops Q fuel listed a w := by
  have hsz : (permute σ ops).size = ops.size := by simp [permute, hp.len]
  have hrd : ∀ (listed listed' : Array Bool), listed.size = ops.size → listed'.size = ops.size → (∀ (k j : Nat), σ[k]? = some j → listed'[k]? = listed[j]?) →
      ∀ i, i ∈ Region.ready .any ops listed → posOf σ i ∈ Region.ready .any (permute σ ops) listed' := by
    intro listed listed' hs hs' hl i hi
    obtain ⟨h0, o, ho, hedge⟩ := mem_ready.1 hi
    have hlt : i < ops.size := (Array.getElem?_eq_some_iff.1 ho).1
    obtain ⟨h1, h2, h3⟩ := permute_at hp ho
    refine mem_ready.2 ⟨getD_of (by rw [hl _ _ h3]; exact of_getD (by omega) h0), _, h1, fun e he hb => ?_⟩
    unfold ren at he
    simp only [Array.mem_map] at he
    obtain ⟨e0, he0, rfl⟩ := he
    have h4 := hedge e0 he0 hb
    have h5 : e0.on < ops.size := by
      rcases Nat.lt_or_ge e0.on listed.size with h | h
      · omega
      · simp [Array.getD, show ¬ e0.on < listed.size by omega] at h4
    have h6 := permute_at hp (Array.getElem?_eq_getElem h5)
    exact getD_of (by rw [hl _ _ h6.2.2]; exact of_getD (by omega) h4)
  have hrd' : ∀ (listed listed' : Array Bool), listed.size = ops.size → listed'.size = ops.size → (∀ (k j : Nat), σ[k]? = some j → listed'[k]? = listed[j]?) →
      ∀ k, k ∈ Region.ready .any (permute σ ops) listed' → ∃ i, i ∈ Region.ready .any ops listed := by
    intro listed listed' hs hs' hl k hk
    obtain ⟨h0, o', ho', hedge⟩ := mem_ready.1 hk
    have hlt : k < σ.length := by have := (Array.getElem?_eq_some_iff.1 ho').1; rw [hsz] at this; rw [hp.len]; exact this
    have hj : σ[k]? = some σ[k] := List.getElem?_eq_getElem hlt
    have hjl : σ[k] < ops.size := hp.lt _ (List.getElem_mem hlt)
    have hoj : ops[σ[k]]? = some ops[σ[k]] := Array.getElem?_eq_getElem hjl
    have hpk : posOf σ σ[k] = k := hp.nd.idxOf_getElem k hlt
    have h1 := (permute_at hp hoj).1
    rw [hpk, ho'] at h1
    injection h1 with h1
    subst h1
    refine ⟨σ[k], mem_ready.2 ⟨getD_of (by rw [← hl _ _ hj]; exact of_getD (by rw [hs']; rw [← hp.len]; exact hlt) h0), _, hoj, fun e he hb => ?_⟩⟩
    have h2 := hedge { e with on := posOf σ e.on } (by unfold ren; exact Array.mem_map.2 ⟨e, he, rfl⟩) hb
    have h3 : posOf σ e.on < listed'.size := by
      rcases Nat.lt_or_ge (posOf σ e.on) listed'.size with h | h
      · exact h
      · simp [Array.getD, show ¬ posOf σ e.on < listed'.size by omega] at h2
    have h4 : e.on ∈ σ := List.idxOf_lt_length_iff.1 (by rw [hp.len, ← hs']; exact h3)
    have h5 := permute_at hp (Array.getElem?_eq_getElem (hp.lt _ h4))
    exact getD_of (by rw [← hl _ _ h5.2.2]; exact of_getD h3 h2)
  intro fuel
  induction fuel with
  | zero =>
    intro listed listed' a w hs hs' hl h
    refine ⟨?_, h.2⟩
    rw [List.eq_nil_iff_forall_not_mem]
    intro i hi
    have := hrd listed listed' hs hs' hl i hi
    rw [h.1] at this; cases this
  | succ fuel ih =>
    intro listed listed' a w hs hs' hl h
    refine ⟨fun hnil => h.1 ?_, fun i hi => ?_⟩
    · rw [List.eq_nil_iff_forall_not_mem]
      intro k hk
      obtain ⟨i, hi⟩ := hrd' listed listed' hs hs' hl k hk
      rw [hnil] at hi; cases hi
    · have h1 := h.2 _ (hrd listed listed' hs hs' hl i hi)
      obtain ⟨_, o, ho, _⟩ := mem_ready.1 hi
      obtain ⟨hat, hpos, hsp⟩ := permute_at hp ho
      have hnext : ∀ a' w', wpAny P .any (permute σ ops) Q fuel (listed'.setIfInBounds (posOf σ i) true) a' w' → wpAny P .any ops Q fuel (listed.setIfInBounds i true) a' w' := by
        intro a' w' h'
        refine ih _ _ a' w' (by simpa using hs) (by simpa using hs') (fun k j hkj => ?_) h'
        have hlt : i < ops.size := (Array.getElem?_eq_some_iff.1 ho).1
        by_cases hk : k = posOf σ i
        · subst hk
          rw [hsp] at hkj; injection hkj with hkj; subst hkj
          rw [hp.len] at hpos
          simp [hs, hs', hlt, hpos]
        · have hji : j ≠ i := fun e => by
            subst e
            obtain ⟨hk1, hk2⟩ := List.getElem?_eq_some_iff.1 hkj
            have := hp.nd.idxOf_getElem k hk1
            rw [hk2] at this
            exact hk this.symm
          rw [Array.getElem?_setIfInBounds_ne (Ne.symm hk), Array.getElem?_setIfInBounds_ne (Ne.symm hji)]
          exact hl k j hkj
      unfold wpOp at h1 ⊢
      simp only [hat, ho, ren_wanted hp o a.tmps (fun g hgg => hg i o g ho hgg)] at h1 ⊢
      split
      · rename_i hwt
        simp only [hwt, if_true] at h1
        rcases h1 with h1 | ⟨h1, h2⟩
        · exact .inl (Oper.wp_mono hnext ((ren_wp σ o a w _).1 h1))
        · exact .inr ⟨(ren_asks σ o a w).1 h1, h2⟩
      · rename_i hwt
        simp only [hwt] at h1
        exact hnext _ _ h1

/-- As DW, the operations' own numbers (their guards) those of the text, the checks those of the order that is walked (chk). -/
def DWp (G H : World → World → Prop) (P : Program) (ops chk : Array Oper) (Q : Exit → Act → World → Prop) : List Oper → Nat → World → Act → Prop
  | [], _, wS, a => ∀ w, H wS w → Q .normal a w
  | o :: rest, k, wS, a =>
    (∃ v, (∀ w, G wS w → wpList P ops (StepPost (fun u w' => u = v ∧ H w w') o a) [o] a w) ∧ DWp G H P ops chk Q rest (k + 1) wS (a.put o.dst v)) ∨
    (loudOk chk k = true ∧ ∀ w, H wS w → wpList P ops (StepPost (fun u w' => G w w' ∧ DWp G H P ops chk Q rest (k + 1) w' (a.put o.dst u)) o a) [o] a w) ∨
    (tailOk chk k = true ∧ ∀ w, H wS w → wpList P ops Q (o :: rest) a w)
theorem DW.nil {chk : Array Oper} {a : Act} {k : Nat} {wS : World} (h : ∀ w, H wS w → Q .normal a w) : DWp G H P ops chk Q [] k wS a := h
theorem DW.det {chk : Array Oper} {o : Oper} {rest : List Oper} {a : Act} {k : Nat} {wS : World} {v : Value} (hd : ∀ w, G wS w → wpList P ops (StepPost (fun u w' => u = v ∧ H w w') o a) [o] a w)
    (hr : DWp G H P ops chk Q rest (k + 1) wS (a.put o.dst v)) : DWp G H P ops chk Q (o :: rest) k wS a := .inl ⟨v, hd, hr⟩
theorem DW.loud {chk : Array Oper} {o : Oper} {rest : List Oper} {a : Act} {k : Nat} {wS : World} (hl : loudOk chk k = true)
    (hd : ∀ w, H wS w → wpList P ops (StepPost (fun u w' => G w w' ∧ DWp G H P ops chk Q rest (k + 1) w' (a.put o.dst u)) o a) [o] a w) : DWp G H P ops chk Q (o :: rest) k wS a := .inr (.inl ⟨hl, hd⟩)
theorem DW.tail {chk : Array Oper} {o : Oper} {rest : List Oper} {a : Act} {k : Nat} {wS : World} (hl : tailOk chk k = true)
    (hd : ∀ w, H wS w → wpList P ops Q (o :: rest) a w) : DWp G H P ops chk Q (o :: rest) k wS a := .inr (.inr ⟨hl, hd⟩)

theorem stepPost_ren (σ : List Nat) {R : Value → World → Prop} {o : Oper} {a : Act} : ∀ e a' w', StepPost R o a e a' w' ↔ StepPost R (ren σ o) a e a' w' := fun _ _ _ => Iff.rfl

theorem wpList_ren {σ : List Nat} (hp : PermOk σ ops) : ∀ (l : List Oper), (∀ o ∈ l, ∀ g, o.guard = some g → g.1 < ops.size) → ∀ {Q : Exit → Act → World → Prop} (a : Act) (w : World), wpList P ops Q l a w → wpList P (permute σ ops) Q (l.map (ren σ)) a w := by
  intro l
  induction l with
  | nil => intro _ Q a w h; exact h
  | cons o r ih =>
    intro hg Q a w h
    have ih' := fun a w => ih (fun o ho => hg o (List.mem_cons_of_mem _ ho)) (Q := Q) a w
    simp only [List.map_cons]
    unfold wpList at h ⊢
    rw [ren_wanted hp o a.tmps (hg o (List.mem_cons_self ..))]
    split
    · rename_i hwt
      simp only [hwt, if_true] at h
      rcases h with h | ⟨h1, h2⟩
      · exact .inl ((ren_wp σ o a w _).2 (Oper.wp_mono ih' h))
      · exact .inr ⟨(ren_asks σ o a w).2 h1, h2⟩
    · rename_i hwt
      simp only [hwt] at h
      exact ih' _ _ h

theorem DWp.toDW {σ : List Nat} (hp : PermOk σ ops) : ∀ (l : List Oper), (∀ o ∈ l, ∀ g, o.guard = some g → g.1 < ops.size) → ∀ (k : Nat) (wS : World) (a : Act), DWp G H P ops (permute σ ops) Q l k wS a → DW G H P (permute σ ops) Q (l.map (ren σ)) k wS a := by
  intro l
  induction l with
  | nil => intro _ k wS a h; exact h
  | cons o r ih =>
    intro hg k wS a h
    have ih' := fun k wS a => ih (fun o ho => hg o (List.mem_cons_of_mem _ ho)) k wS a
    have one : ∀ {R : Value → World → Prop} (w : World), wpList P ops (StepPost R o a) [o] a w → wpList P (permute σ ops) (StepPost R (ren σ o) a) [ren σ o] a w := fun w h =>
      wpList_ren hp [o] (fun o' ho' => hg o' (by simp at ho'; subst ho'; exact List.mem_cons_self ..)) a w h
    rcases h with ⟨v, hd, hr⟩ | ⟨hl, hd⟩ | ⟨hl, hd⟩
    · exact .inl ⟨v, fun w hw => one w (hd w hw), ih' _ _ _ hr⟩
    · exact .inr (.inl ⟨hl, fun w hw => one w (wpList_mono_post (fun u w' hu => ⟨hu.1, ih' _ _ _ hu.2⟩) (hd w hw))⟩)
    · exact .inr (.inr ⟨hl, fun w hw => wpList_ren hp (o :: r) hg a w (hd w hw)⟩)

def guardOk (ops : Array Oper) : Bool := ops.all fun o => match o.guard with | none => true | some g => decide (g.1 < ops.size)
theorem guardOk_spec (h : guardOk ops = true) : ∀ (j : Nat) (o : Oper) g, ops[j]? = some o → o.guard = some g → g.1 < ops.size := by
  intro j o g ho hg
  unfold guardOk at h
  rw [Array.all_eq_true] at h
  obtain ⟨hlt, he⟩ := Array.getElem?_eq_some_iff.1 ho
  have := h j hlt
  rw [he, hg] at this
  simpa using this

/-- The region that stands next, walked in the order σ. C: what is known of the world in which it begins. -/
theorem wp_region_dw (hG : KeepsTwo G H) {id : Nat} {a : Act} {w : World} (σ : List Nat) (C : World → Prop) (hC : C w) (hm : P.follows .mixedOrders = true) (hok : (permOk σ ops && guardOk ops && detOk (permute σ ops)) = true)
    (l : List Oper) (hl : σ.map (fun j => (ops.toList[j]?).getD default) = l) (h : ∀ wB, C wB → DWp G H P ops (permute σ ops) Q l 0 wB a) : (Code.region id ops true).wp P Q a w := by
  simp only [Bool.and_eq_true] at hok
  obtain ⟨⟨hpo, hgo⟩, hdo⟩ := hok
  have hp := permOk_spec hpo
  have hsz : (permute σ ops).size = ops.size := by simp [permute, hp.len]
  have hmem : ∀ o ∈ l, ∃ j : Nat, ops[j]? = some o := by
    intro o ho
    rw [← hl] at ho
    obtain ⟨j, hj, rfl⟩ := List.mem_map.1 ho
    have hlt := hp.lt j hj
    exact ⟨j, by simp [hlt]⟩
  have hdw := DWp.toDW hp l (fun o ho g hgg => by obtain ⟨j, hj⟩ := hmem o ho; exact guardOk_spec hgo j o g hj hgg) 0 w a (h w hC)
  have hlist : l.map (ren σ) = (permute σ ops).toList := by
    rw [← hl]
    simp only [permute, List.map_map]
    refine List.map_congr_left fun j _ => ?_
    simp [Array.getD_eq_getD_getElem?]
  rw [hlist] at hdw
  refine wp_region_any hm (perm_any hp (guardOk_spec hgo) ops.size _ (Array.replicate ops.size false) a _ (by simp) (by simp) (fun k j hkj => ?_) ?_)
  · obtain ⟨hk, he⟩ := List.getElem?_eq_some_iff.1 hkj
    have h1 : k < ops.size := by rw [← hp.len]; exact hk
    have h2 : j < ops.size := hp.lt j (by rw [← he]; exact List.getElem_mem hk)
    simp [Array.getElem?_replicate, h1, h2]
  · refine dw_any hG (detOk_spec hdo) a ops.size _ a _ 0 (fun _ => undef) w a (by simp [hsz]) ?_ ?_ ⟨by omega, fun j hj => by simp [Array.getElem?_replicate] at hj, ?_, ?_, fun j o hj => by omega, hG.h.drew _, fun l hl => ?_⟩
    · have : ∀ n, cnt (List.replicate n false) = 0 := fun n => by induction n with | zero => rfl | succ n ih => simp [List.replicate_succ, cnt, ih]
      simp [this, hsz]
    · intro j o hj; simp [Array.getElem?_replicate] at hj
    · exact ⟨rfl, rfl, fun _ _ => rfl, fun t j o _ hj => by simp [Array.getElem?_replicate] at hj⟩
    · exact ⟨rfl, rfl, fun _ _ => rfl, fun t j o _ hj => absurd hj (by omega)⟩
    · have : l = (permute σ ops).toList := List.ext_getElem? fun j => by rw [hl j]; simp
      rw [this]; exact hdw

theorem DWp.self : ∀ (l : List Oper) (k : Nat) (wS : World) (a : Act), DWp G H P ops ops Q l k wS a → DW G H P ops Q l k wS a := by
  intro l
  induction l with
  | nil => intro k wS a h; exact h
  | cons o r ih =>
    intro k wS a h
    rcases h with ⟨v, hd, hr⟩ | ⟨hl, hd⟩ | ⟨hl, hd⟩
    · exact .inl ⟨v, hd, ih _ _ _ hr⟩
    · exact .inr (.inl ⟨hl, fun w hw => wpList_mono_post (fun u w' hu => ⟨hu.1, ih _ _ _ hu.2⟩) (hd w hw)⟩)
    · exact .inr (.inr ⟨hl, hd⟩)

/-- The region that stands next, walked in the text's order. -/
theorem wp_region_text (hG : KeepsTwo G H) {id : Nat} {a : Act} {w : World} (C : World → Prop) (hC : C w) (hm : P.follows .mixedOrders = true) (hok : detOk ops = true)
    (l : List Oper) (hl : ops.toList = l) (h : ∀ wB, C wB → DWp G H P ops ops Q l 0 wB a) : (Code.region id ops true).wp P Q a w := by
  subst hl
  have hdw := DWp.self _ _ _ _ (h w hC)
  refine wp_region_any hm (dw_any hG (detOk_spec hok) a ops.size _ a _ 0 (fun _ => undef) w a (by simp) ?_ ?_ ⟨by omega, fun j hj => by simp [Array.getElem?_replicate] at hj, ?_, ?_, fun j o hj => by omega, hG.h.drew _, fun l hl => ?_⟩)
  · have : ∀ n, cnt (List.replicate n false) = 0 := fun n => by induction n with | zero => rfl | succ n ih => simp [List.replicate_succ, cnt, ih]
    simp [this]
  · intro j o hj; simp [Array.getElem?_replicate] at hj
  · exact ⟨rfl, rfl, fun _ _ => rfl, fun t j o _ hj => by simp [Array.getElem?_replicate] at hj⟩
  · exact ⟨rfl, rfl, fun _ _ => rfl, fun t j o _ hj => absurd hj (by omega)⟩
  · have : l = ops.toList := List.ext_getElem? fun j => by rw [hl j]; simp
    rw [this]; exact hdw
end
end Go.Proofs.Ytahokiopapenbaa
