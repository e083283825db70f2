/- The walk of the link's Send where there is room. -/
import Derived.Test.YtbofoafcglmboaaLinkS
import Derived.Deep.MidRow
import Derived.Deep.Upon
set_option linter.unusedSimpArgs false
set_option linter.unusedVariables false
namespace Go.Proofs.Ytbofoafcglmboaa
open Go.RowKit

theorem OpenAt.push {w : World} {b off n cap : Nat} {xs : List Value} (h : OpenAt w (some b) (.slice (some ⟨b, off, none⟩) n cap) n xs) (x y : Value) (hc : n + 1 ≤ cap) :
    OpenAt (w.setCells b (off + n * 2) [x, y]) (some b) (.slice (some ⟨b, off, none⟩) (n + 1) cap) (n + 1) (xs ++ [x, y]) := by
  rcases h with ⟨h, _⟩ | ⟨b', off', cap', hv, hG, h1, h2, h3, h4, h5⟩
  · cases h
  injection hv with hv1 hv2 hv3
  injection hv1 with hv1
  injection hv1 with e1 e2 _
  subst e1 e2 hv3
  have hin : ∀ j, j < [x, y].length → (w.cell? ⟨b, off + n * 2 + j, none⟩).isSome = true := fun j hj => by
    have := (h4 (n * 2 + j) (by simp at hj; omega)).1
    rwa [← Nat.add_assoc] at this
  refine .inr ⟨b, off, cap, rfl, rfl, hc, h2, by simp [h3]; omega, fun j hj => ?_, fun j u hu => ?_⟩
  · rw [World.frozen?_setCells]
    exact ⟨World.isSome_setCells b _ _ w _ (h4 j hj).1, (h4 j hj).2⟩
  · rcases Nat.lt_or_ge j (n * 2) with hj | hj
    · rw [List.getElem?_append_left (by omega)] at hu
      rw [World.cell?_setCells_out b _ _ w _ (fun _ _ => .inl (by show off + j < off + n * 2; omega))]
      exact h5 j u hu
    · rw [List.getElem?_append_right (by omega), h3] at hu
      obtain ⟨hlt, hu'⟩ := List.getElem?_eq_some_iff.1 hu
      have := World.cell?_setCells_in b [x, y] (off + n * 2) w hin (j - n * 2) hlt
      rw [show off + n * 2 + (j - n * 2) = off + j by omega] at this
      rw [this]; exact congrArg some hu'

theorem news_two {w : World} {g : Nat} {a b : Value} {t : TypeId} (h : w.heap[g]? = some (.cells #[a, b] t (0, 0))) : ∀ (j : Nat) (u : Value), [a, b][j]? = some u → w.cell? ((⟨g, 0, none⟩ : Addr).add j) = some u := by
  intro j u hu
  have e : ((⟨g, 0, none⟩ : Addr).add j) = ⟨g, j, none⟩ := by simp [Addr.add]; omega
  rw [e, cellOf h j, ← hu]
  exact List.getElem?_toArray
theorem one_two (a : Int) (d : ByteArray) : ∀ u ∈ [Value.int .i64 a, .string d], u.oneCell' = true := by
  intro u hu
  simp only [List.mem_cons, List.not_mem_nil, or_false] at hu
  rcases hu with rfl | rfl <;> rfl

theorem But.setCells {w : World} (b o : Nat) (vs : List Value) : But [b] w (w.setCells b o vs) := by
  have hk := World.keptBut_setCells b (may := fun _ => True) vs o w (fun _ _ => trivial)
  have hsz : ∀ (vs : List Value) (o : Nat) (w : World), (w.setCells b o vs).heap.size = w.heap.size ∧ (w.setCells b o vs).tape = w.tape := by
    intro vs
    induction vs with
    | nil => intro o w; exact ⟨rfl, rfl⟩
    | cons v r ih => intro o w; have := ih (o + 1) (w.setCell ⟨b, o, none⟩ v); exact ⟨by rw [World.setCells, this.1]; simp, by rw [World.setCells, this.2]; rfl⟩
  exact ⟨hk.1, (hsz vs o w).2, hk.2.1, by rw [(hsz vs o w).1]; exact Nat.le_refl _, fun k hk hn => World.heap_setCells_other w b o vs hk (by simpa using hn)⟩

theorem OpenAt.of_own {w : World} {base e n : Nat} {v : Value} {xs : List Value} (h : w.ownsRow base e 2 v n xs) : OpenAt w v.ownBlock v n xs ∧ ∀ g, v.ownBlock = some g → base ≤ g ∧ g < w.heap.size := by
  refine ⟨?_, h.lt⟩
  rcases h.2 with ⟨rfl, rfl⟩ | ⟨g, cap, cur, rfl, hb, hg, h1, h2, h3, h4⟩
  · exact .inl ⟨rfl, rfl⟩
  · refine .inr ⟨g, 0, cap, rfl, rfl, h1, h2, h.1, fun j hj => ⟨?_, ?_⟩, fun j u hu => ?_⟩
    · rw [cellOf hg, Nat.zero_add, Array.getElem?_eq_getElem (by omega)]; rfl
    · exact freeOf hg _
    · have hj : j < n * 2 := by have := (List.getElem?_eq_some_iff.1 hu).1; rw [h.1] at this; exact this
      rw [Nat.zero_add, h.cellAt j hj, hu]

/-- append of one element of two cells onto a slice whose spare places are its own: in place, or in a new row. -/
theorem append_open {P : Program} (w : World) {ops : Array Oper} {rest : List Oper} {o : Oper} {a : Act} {Q : Exit → Act → World → Prop} (hg : o.guard = none) (s x : Operand) (t : TypeId)
    (hop : o.op = Op.call { callee := Callee.builtin Builtin.append, args := #[s, x], argTypes := #[t, t] }) (e : TypeId) (i : TypeInfo) (z : Value) (bytes : Nat) (h1 : P.underlying t = some (.slice e)) (h2 : P.info? e = some i)
    (h3 : i.zero = some z) (h4 : i.size = 2) (h5 : i.bytes = bytes) (h6 : z.cells.size = 2) (G : Option Nat) (v : Value) (n : Nat) (olds : List Value) (hv : OpenAt w G v n olds) (ho : olds.length = n * 2) (hs : a.eval s = v)
    (ad : Addr) (c : Nat) (news : List Value) (hx : a.eval x = .slice (some ad) 1 c) (hn : news.length = 2) (hc : ∀ (j : Nat) u, news[j]? = some u → w.cell? (ad.add j) = some u) (h1c : ∀ u ∈ news, u.oneCell' = true)
    (b1 : n + 1 ≤ maxLen) (b2 : (n + 1) * bytes ≤ 140737488355328)
    (h : ∀ v' w' G', But G.toList w w' → OpenAt w' G' v' (n + 1) (olds ++ news) → (G' = G ∨ ∃ g, G' = some g ∧ w.heap.size ≤ g ∧ g < w'.heap.size) → wpList P ops Q rest (a.put o.dst v') w') : wpList P ops Q (o :: rest) a w := by
  rcases hv with ⟨rfl, rfl⟩ | ⟨b, off, cap, rfl, rfl, p1, p2, p3, p4, p5⟩
  · have hnil : olds = [] := List.eq_nil_of_length_eq_zero (by simpa using ho)
    subst hnil
    have hown : w.ownsRow w.heap.size e 2 (.slice none 0 0) 0 [] := ⟨rfl, .inl ⟨rfl, rfl⟩⟩
    refine wpList_append_own w hg s x t hop w.heap.size e i z 2 bytes h1 h2 h3 h4 h5 h6 (by omega) _ 0 [] hs hown ad 1 c news hx (by omega) hc h1c b1 b2 (Nat.le_refl _) fun v' w' hown' hgr _ => ?_
    obtain ⟨e1, e2⟩ := OpenAt.of_own hown'
    refine h v' w' v'.ownBlock ((But.refl _ _).grown hgr (by simp [Value.ownBlock])) e1 (.inr ?_)
    rcases hown'.2 with ⟨_, h0⟩ | ⟨g, cap, cur, rfl, _⟩
    · omega
    · exact ⟨g, rfl, e2 g rfl⟩
  · have O : OpenAt w (some b) (.slice (some ⟨b, off, none⟩) n cap) n olds := .inr ⟨b, off, cap, rfl, rfl, p1, p2, p3, p4, p5⟩
    refine wpList_append_arg w hg s x t hop e i z 2 bytes h1 h2 h3 h4 h5 h6 (by omega) b off n cap olds hs ho p5 ad 1 c news hx (by omega) hc h1c
      (fun hr j hj => by have := p4 (n * 2 + j) (by omega); rwa [← Nat.add_assoc] at this) b1 b2 (fun hr => ?_) (fun _ v' w' hown' hgr => ?_)
    · obtain ⟨x0, x1, rfl⟩ : ∃ x0 x1, news = [x0, x1] := by
        match news, hn with
        | [x0, x1], _ => exact ⟨x0, x1, rfl⟩
      exact h _ _ (some b) (But.setCells b _ _) (O.push x0 x1 hr) (.inl rfl)
    · obtain ⟨e1, e2⟩ := OpenAt.of_own hown'
      refine h v' w' v'.ownBlock ((But.refl _ _).grown hgr (by simp)) e1 (.inr ?_)
      rcases hown'.2 with ⟨_, h0⟩ | ⟨g, cap, cur, rfl, _⟩
      · omega
      · exact ⟨g, rfl, e2 g rfl⟩

theorem two_cells {t : TypeId} {w : World} {g : Nat} {a b : Value} (h : w.heap[g]? = some (.cells #[a, b] t (0, 0))) : w.cell? ⟨g, 0, none⟩ = some a ∧ w.cell? ⟨g, 1, none⟩ = some b ∧ w.frozen? ⟨g, 0, none⟩ = false ∧ w.frozen? ⟨g, 1, none⟩ = false :=
  ⟨cellOf h 0, cellOf h 1, freeOf h 0, freeOf h 1⟩
end Go.Proofs.Ytbofoafcglmboaa
