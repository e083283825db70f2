/- A slice in memory whose spare places are its own, of k cells per element; appending onto it. -/
import Derived.Test.YtbofgpmbocjbiaaTreeF
import Derived.Deep.MidRow
import Derived.Deep.Upon
set_option linter.unusedSimpArgs false
set_option linter.unusedVariables false
namespace Go.Proofs.Ytbofgpmbocjbiaa
open Go.RowKit

theorem cellOf {w : World} {g : Nat} {cs : Array Value} {t : TypeId} {fr : Nat × Nat} (h : w.heap[g]? = some (.cells cs t fr)) (i : Nat) : w.cell? ⟨g, i, none⟩ = cs[i]? := cell_of_row w g i cs t fr h
theorem freeOf {w : World} {g : Nat} {cs : Array Value} {t : TypeId} (h : w.heap[g]? = some (.cells cs t (0, 0))) (i : Nat) : w.frozen? ⟨g, i, none⟩ = false := by simp [World.frozen?, h]

/-! ### The receiver -/
theorem But.setCells {w : World} (b o : Nat) (vs : List Value) : But [b] w (w.setCells b o vs) := by
  have hk := World.keptBut_setCells b (may := fun _ => True) vs o w (fun _ _ => trivial)
  have hsz : ∀ (vs : List Value) (o : Nat) (w : World), (w.setCells b o vs).heap.size = w.heap.size ∧ (w.setCells b o vs).tape = w.tape := by
    intro vs
    induction vs with
    | nil => intro o w; exact ⟨rfl, rfl⟩
    | cons v r ih => intro o w; have := ih (o + 1) (w.setCell ⟨b, o, none⟩ v); exact ⟨by rw [World.setCells, this.1]; simp, by rw [World.setCells, this.2]; rfl⟩
  exact ⟨hk.1, (hsz vs o w).2, hk.2.1, by rw [(hsz vs o w).1]; exact Nat.le_refl _, fun k hk hn => World.heap_setCells_other w b o vs hk (by simpa using hn)⟩
def OpenK (w : World) (G : Option Nat) (v : Value) (n k : Nat) (xs : List Value) : Prop :=
  (v = .slice none 0 0 ∧ n = 0) ∨ ∃ b off cap, v = .slice (some ⟨b, off, none⟩) n cap ∧ G = some b ∧ n ≤ cap ∧ cap ≤ maxLen ∧ xs.length = n * k ∧
    (∀ j, j < cap * k → (w.cell? ⟨b, off + j, none⟩).isSome = true ∧ w.frozen? ⟨b, off + j, none⟩ = false) ∧ ∀ j u, xs[j]? = some u → w.cell? ⟨b, off + j, none⟩ = some u
theorem OpenK.but {S : List Nat} {w w2 : World} {G : Option Nat} {v : Value} {n k : Nat} {xs : List Value} (h : OpenK w G v n k xs) (hb : But S w w2) (hn : ∀ g, G = some g → g ∉ S) : OpenK w2 G v n k xs := by
  rcases h with h | ⟨b, off, cap, hv, hG, h1, h2, h3, h4, h5⟩
  · exact .inl h
  · refine .inr ⟨b, off, cap, hv, hG, h1, h2, h3, fun j hj => ?_, fun j u hu => hb.at_ (h5 j u hu) (hn b hG)⟩
    obtain ⟨e1, e2⟩ := h4 j hj
    obtain ⟨u, hu⟩ := Option.isSome_iff_exists.1 e1
    exact ⟨by rw [hb.at_ hu (hn b hG)]; rfl, by rw [hb.frozen (World.block_lt_of_cell? w _ hu) (hn b hG)]; exact e2⟩
theorem OpenK.kept {w w2 : World} {G : Option Nat} {v : Value} {n k : Nat} {xs : List Value} (h : OpenK w G v n k xs) (hb : Kept w w2) : OpenK w2 G v n k xs := h.but (.of_kept (S := []) hb) (by simp)
theorem OpenK.nil (w : World) (k : Nat) : OpenK w none (.slice none 0 0) 0 k [] := .inl ⟨rfl, rfl⟩
theorem OpenK.form {w : World} {G : Option Nat} {v : Value} {n k : Nat} {xs : List Value} (h : OpenK w G v n k xs) : ∃ A c, v = .slice A n c := by
  rcases h with ⟨rfl, rfl⟩ | ⟨b, off, cap, rfl, _⟩
  · exact ⟨_, _, rfl⟩
  · exact ⟨_, _, rfl⟩
theorem OpenK.cells {w : World} {A : Option Addr} {B : Option Nat} {n c k : Nat} {xs : List Value} (h : OpenK w B (.slice A n c) n k xs) (h0 : 0 < n) : ∃ b off, A = some ⟨b, off, none⟩ ∧ B = some b ∧ n ≤ c ∧ c ≤ maxLen ∧ ∀ j u, xs[j]? = some u → w.cell? ⟨b, off + j, none⟩ = some u := by
  rcases h with ⟨h1, h2⟩ | ⟨b, off, cap, hv, hG, h1, h2, h3, h4, h5⟩
  · omega
  · injection hv with e1 e2 e3
    subst e3
    exact ⟨b, off, e1, hG, h1, h2, h5⟩
theorem OpenK.of_own {w : World} {base e n k : Nat} {v : Value} {xs : List Value} (h : w.ownsRow base e k v n xs) : OpenK w v.ownBlock v n k xs ∧ ∀ g, v.ownBlock = some g → base ≤ g ∧ g < w.heap.size := by
  refine ⟨?_, h.lt⟩
  rcases h.2 with ⟨rfl, rfl⟩ | ⟨g, cap, cur, rfl, hb, hg, h1, h2, h3, h4⟩
  · exact .inl ⟨rfl, rfl⟩
  · refine .inr ⟨g, 0, cap, rfl, rfl, h1, h2, h.1, fun j hj => ⟨?_, ?_⟩, fun j u hu => ?_⟩
    · rw [cellOf hg, Nat.zero_add, Array.getElem?_eq_getElem (by omega)]; rfl
    · exact freeOf hg _
    · have hj : j < n * k := by have := (List.getElem?_eq_some_iff.1 hu).1; rw [h.1] at this; exact this
      rw [Nat.zero_add, h.cellAt j hj, hu]
theorem Kept.as1 {S : List Nat} {w : World} {o : Obj} (_ : But S w (w.alloc o)) : Kept w (w.alloc o) := (Kept.refl w).alloc o
theorem Kept.as0 {S : List Nat} {w : World} (_ : But S w w) : Kept w w := Kept.refl w
theorem OpenK.pushM {w : World} {b off n cap k m : Nat} {xs : List Value} (h : OpenK w (some b) (.slice (some ⟨b, off, none⟩) n cap) n k xs) (news : List Value) (hn : news.length = m * k) (hc : n + m ≤ cap) :
    OpenK (w.setCells b (off + n * k) news) (some b) (.slice (some ⟨b, off, none⟩) (n + m) cap) (n + m) k (xs ++ news) := by
  rcases h with ⟨h, _⟩ | ⟨b', off', cap', hv, hG, h1, h2, h3, h4, h5⟩
  · cases h
  injection hv with hv1 hv2 hv3
  injection hv1 with hv1
  injection hv1 with e1 e2 _
  subst e1 e2 hv3
  have hck : n * k + m * k ≤ cap * k := by have := Nat.mul_le_mul_right k hc; rw [Nat.add_mul] at this; exact this
  have hin : ∀ j, j < news.length → (w.cell? ⟨b, off + n * k + j, none⟩).isSome = true := fun j hj => by
    have := (h4 (n * k + j) (by omega)).1
    rwa [← Nat.add_assoc] at this
  refine .inr ⟨b, off, cap, rfl, rfl, hc, h2, by rw [List.length_append, h3, hn, Nat.add_mul], fun j hj => ?_, fun j u hu => ?_⟩
  · rw [World.frozen?_setCells]
    exact ⟨World.isSome_setCells b _ _ w _ (h4 j hj).1, (h4 j hj).2⟩
  · rcases Nat.lt_or_ge j (n * k) with hj | hj
    · rw [List.getElem?_append_left (by omega)] at hu
      rw [World.cell?_setCells_out b _ _ w _ (fun _ _ => .inl (by show off + j < off + n * k; omega))]
      exact h5 j u hu
    · rw [List.getElem?_append_right (by omega), h3] at hu
      obtain ⟨hlt, hu'⟩ := List.getElem?_eq_some_iff.1 hu
      have := World.cell?_setCells_in b news (off + n * k) w hin (j - n * k) hlt
      rw [show off + n * k + (j - n * k) = off + j by omega] at this
      rw [this]; exact congrArg some hu'
theorem append_openM {P : Program} (w : World) {ops : Array Oper} {rest : List Oper} {o : Oper} {a : Act} {Q : Exit → Act → World → Prop} (hg : o.guard = none) (s x : Operand) (t : TypeId)
    (hop : o.op = Op.call { callee := Callee.builtin Builtin.append, args := #[s, x], argTypes := #[t, t] }) (e : TypeId) (i : TypeInfo) (z : Value) (k bytes : Nat) (h1 : P.underlying t = some (.slice e)) (h2 : P.info? e = some i)
    (h3 : i.zero = some z) (h4 : i.size = k) (h5 : i.bytes = bytes) (h6 : z.cells.size = k) (hk : 1 ≤ k) (G : Option Nat) (v : Value) (n m : Nat) (olds : List Value) (hv : OpenK w G v n k olds) (ho : olds.length = n * k) (hs : a.eval s = v)
    (ad : Addr) (c : Nat) (news : List Value) (hx : a.eval x = .slice (some ad) m c) (hn : news.length = m * k) (hc : ∀ (j : Nat) u, news[j]? = some u → w.cell? (ad.add j) = some u) (h1c : ∀ u ∈ news, u.oneCell' = true)
    (b1 : n + m ≤ maxLen) (b2 : (n + m) * bytes ≤ 140737488355328)
    (h : ∀ v' w' G', But G.toList w w' → OpenK w' G' v' (n + m) k (olds ++ news) → (G' = G ∨ ∃ g, G' = some g ∧ w.heap.size ≤ g ∧ g < w'.heap.size) → wpList P ops Q rest (a.put o.dst v') w') : wpList P ops Q (o :: rest) a w := by
  rcases hv with ⟨rfl, rfl⟩ | ⟨b, off, cap, rfl, rfl, p1, p2, p3, p4, p5⟩
  · have hnil : olds = [] := List.eq_nil_of_length_eq_zero (by simpa using ho)
    subst hnil
    have hown : w.ownsRow w.heap.size e k (.slice none 0 0) 0 [] := ⟨by simp, .inl ⟨rfl, rfl⟩⟩
    refine wpList_append_own w hg s x t hop w.heap.size e i z k bytes h1 h2 h3 h4 h5 h6 hk _ 0 [] hs hown ad m c news hx hn hc h1c b1 b2 (Nat.le_refl _) fun v' w' hown' hgr _ => ?_
    have hbt : But [] w w' := (But.refl _ _).grown hgr (by simp [Value.ownBlock])
    obtain ⟨e1, e2⟩ := OpenK.of_own hown'
    rcases hown'.2 with ⟨hv0, h0⟩ | ⟨g, cap, cur, rfl, _⟩
    · exact h v' w' G (hbt.mono (by simp)) (.inl ⟨hv0, h0⟩) (.inl rfl)
    · exact h _ w' _ (hbt.mono (by simp)) e1 (.inr ⟨g, rfl, e2 g rfl⟩)
  · have O : OpenK w (some b) (.slice (some ⟨b, off, none⟩) n cap) n k olds := .inr ⟨b, off, cap, rfl, rfl, p1, p2, p3, p4, p5⟩
    refine wpList_append_arg w hg s x t hop e i z k bytes h1 h2 h3 h4 h5 h6 hk b off n cap olds hs ho p5 ad m c news hx hn hc h1c
      (fun hr j hj => by
        have hck : n * k + m * k ≤ cap * k := by have := Nat.mul_le_mul_right k hr; rw [Nat.add_mul] at this; exact this
        have := p4 (n * k + j) (by omega); rwa [← Nat.add_assoc] at this) b1 b2 (fun hr => ?_) (fun _ v' w' hown' hgr => ?_)
    · exact h _ _ (some b) (But.setCells b _ _) (O.pushM news hn hr) (.inl rfl)
    · obtain ⟨e1, e2⟩ := OpenK.of_own hown'
      have hbt : But [] w w' := (But.refl _ _).grown hgr (by simp)
      rcases hown'.2 with ⟨hv0, h0⟩ | ⟨g, cap, cur, rfl, _⟩
      · exact h v' w' (some b) (hbt.mono (by simp)) (.inl ⟨hv0, h0⟩) (.inl rfl)
      · exact h _ w' _ (hbt.mono (by simp)) e1 (.inr ⟨g, rfl, e2 g rfl⟩)
theorem OpenK.pre {w : World} {G : Option Nat} {b off n cap k j : Nat} {xs : List Value} (h : OpenK w G (.slice (some ⟨b, off, none⟩) n cap) n k xs) (hj : j ≤ n) : OpenK w G (.slice (some ⟨b, off, none⟩) j j) j k (xs.take (j * k)) := by
  rcases h with ⟨h, _⟩ | ⟨b', off', cap', hv, hG, h1, h2, h3, h4, h5⟩
  · cases h
  · injection hv with hv1 hv2 hv3
    injection hv1 with hv1
    injection hv1 with e1 e2 _
    subst e1 e2 hv3
    have hjk : j * k ≤ n * k := Nat.mul_le_mul_right k hj
    have hnk : n * k ≤ cap * k := Nat.mul_le_mul_right k h1
    refine .inr ⟨b, off, j, rfl, hG, Nat.le_refl _, by omega, by rw [List.length_take]; omega, fun i hi => h4 i (by omega), fun i u hu => h5 i u ?_⟩
    have hi := (List.getElem?_eq_some_iff.1 hu).1
    rw [List.length_take] at hi
    rwa [List.getElem?_take_of_lt (by omega)] at hu
theorem infoAny : (Try.prog.info? 20).map (fun i => (i.zero, i.size, i.bytes)) = some (some .nilIface, 1, 16) := by kernel_rfl
theorem wpList_ent {P : Program} (w : World) {ops : Array Oper} {rest : List Oper} {o : Oper} {a : Act} {Q : Exit → Act → World → Prop} (hg : o.guard = none) (m x : Operand) (t : TypeId) (hop : o.op = Op.mapEntry t m x) {b : Nat} {key v : Value} {w' : World}
    (hm : a.eval m = .map (some b)) (hx : a.eval x = key) (hrun : (Instr.mapEntry t (.map (some b)) key).run P w = .ok v w') (h : wpList P ops Q rest (a.put o.dst v) w') : wpList P ops Q (o :: rest) a w := by
  refine wpList_plain hg fun K' hK' => ?_
  unfold Oper.wp
  simp [execOp, hop, hm, hx, hrun, Result.andThen]
  exact hK' _ _ h
/-- The rest of an open row behind its first element. -/
theorem OpenK.tail {w : World} {b off n cap : Nat} {xs : List Value} (h : OpenK w (some b) (.slice (some ⟨b, off, none⟩) (n + 1) cap) (n + 1) 1 xs) : OpenK w (some b) (.slice (some (if cap = 1 then ⟨b, off, none⟩ else ⟨b, off + 1, none⟩)) n (cap - 1)) n 1 xs.tail := by
  rcases h with ⟨h, _⟩ | ⟨b', off', cap', hv, hG, h1, h2, h3, h4, h5⟩
  · cases h
  · injection hv with hv1 hv2 hv3
    injection hv1 with hv1
    injection hv1 with e1 e2 _
    subst e1 e2 hv3
    by_cases hc : cap = 1
    · rw [if_pos hc]
      obtain rfl : n = 0 := by omega
      refine .inr ⟨b, off, cap - 1, rfl, rfl, by omega, by omega, by rw [List.length_tail]; omega, fun j hj => by omega, fun j u hu => ?_⟩
      have : xs.tail = [] := List.eq_nil_of_length_eq_zero (by rw [List.length_tail]; omega)
      rw [this] at hu; simp at hu
    · rw [if_neg hc]
      refine .inr ⟨b, off + 1, cap - 1, rfl, rfl, by omega, by omega, by rw [List.length_tail]; omega, fun j hj => ?_, fun j u hu => ?_⟩
      · have := h4 (j + 1) (by omega)
        rwa [show off + 1 + j = off + (j + 1) by omega]
      · rw [show off + 1 + j = off + (j + 1) by omega]
        exact h5 (j + 1) u (by rw [← List.getElem?_tail]; exact hu)
end Go.Proofs.Ytbofgpmbocjbiaa
