/- Appending any many elements onto a slice whose spare places are its own; a session in memory. -/
import Derived.Test.YtbofoafcglmboaaNetM
import Derived.Test.YtbofoafcglmboaaOpenK
set_option linter.unusedSimpArgs false
set_option linter.unusedVariables false
namespace Go.Proofs.Ytbofoafcglmboaa
open Go.RowKit

/-- (for the word detb: worlds that a loud operation leaves.) -/
theorem Kept.as1 {S : List Nat} {w : World} {o : Obj} (_ : But S w (w.alloc o)) : Kept w (w.alloc o) := (Kept.refl w).alloc o
theorem Kept.as0 {S : List Nat} {w : World} (_ : But S w w) : Kept w w := Kept.refl w
theorem OpenK.pushM {w : World} {b off n cap k m : Nat} {xs : List Value} (h : OpenK w (some b) (.slice (some ⟨b, off, none⟩) n cap) n k xs) (news : List Value) (hn : news.length = m * k) (hc : n + m ≤ cap) :
    OpenK (w.setCells b (off + n * k) news) (some b) (.slice (some ⟨b, off, none⟩) (n + m) cap) (n + m) k (xs ++ news) := by
  rcases h with ⟨h, _⟩ | ⟨b', off', cap', hv, hG, h1, h2, h3, h4, h5⟩
  · cases h
  injection hv with hv1 hv2 hv3
  injection hv1 with hv1
  injection hv1 with e1 e2 _
  subst e1 e2 hv3
  have hck : n * k + m * k ≤ cap * k := by have := Nat.mul_le_mul_right k hc; rw [Nat.add_mul] at this; exact this
  have hin : ∀ j, j < news.length → (w.cell? ⟨b, off + n * k + j, none⟩).isSome = true := fun j hj => by
    have := (h4 (n * k + j) (by omega)).1
    rwa [← Nat.add_assoc] at this
  refine .inr ⟨b, off, cap, rfl, rfl, hc, h2, by rw [List.length_append, h3, hn, Nat.add_mul], fun j hj => ?_, fun j u hu => ?_⟩
  · rw [World.frozen?_setCells]
    exact ⟨World.isSome_setCells b _ _ w _ (h4 j hj).1, (h4 j hj).2⟩
  · rcases Nat.lt_or_ge j (n * k) with hj | hj
    · rw [List.getElem?_append_left (by omega)] at hu
      rw [World.cell?_setCells_out b _ _ w _ (fun _ _ => .inl (by show off + j < off + n * k; omega))]
      exact h5 j u hu
    · rw [List.getElem?_append_right (by omega), h3] at hu
      obtain ⟨hlt, hu'⟩ := List.getElem?_eq_some_iff.1 hu
      have := World.cell?_setCells_in b news (off + n * k) w hin (j - n * k) hlt
      rw [show off + n * k + (j - n * k) = off + j by omega] at this
      rw [this]; exact congrArg some hu'
theorem append_openM {P : Program} (w : World) {ops : Array Oper} {rest : List Oper} {o : Oper} {a : Act} {Q : Exit → Act → World → Prop} (hg : o.guard = none) (s x : Operand) (t : TypeId)
    (hop : o.op = Op.call { callee := Callee.builtin Builtin.append, args := #[s, x], argTypes := #[t, t] }) (e : TypeId) (i : TypeInfo) (z : Value) (k bytes : Nat) (h1 : P.underlying t = some (.slice e)) (h2 : P.info? e = some i)
    (h3 : i.zero = some z) (h4 : i.size = k) (h5 : i.bytes = bytes) (h6 : z.cells.size = k) (hk : 1 ≤ k) (G : Option Nat) (v : Value) (n m : Nat) (olds : List Value) (hv : OpenK w G v n k olds) (ho : olds.length = n * k) (hs : a.eval s = v)
    (ad : Addr) (c : Nat) (news : List Value) (hx : a.eval x = .slice (some ad) m c) (hn : news.length = m * k) (hc : ∀ (j : Nat) u, news[j]? = some u → w.cell? (ad.add j) = some u) (h1c : ∀ u ∈ news, u.oneCell' = true)
    (b1 : n + m ≤ maxLen) (b2 : (n + m) * bytes ≤ 140737488355328)
    (h : ∀ v' w' G', But G.toList w w' → OpenK w' G' v' (n + m) k (olds ++ news) → (G' = G ∨ ∃ g, G' = some g ∧ w.heap.size ≤ g ∧ g < w'.heap.size) → wpList P ops Q rest (a.put o.dst v') w') : wpList P ops Q (o :: rest) a w := by
  rcases hv with ⟨rfl, rfl⟩ | ⟨b, off, cap, rfl, rfl, p1, p2, p3, p4, p5⟩
  · have hnil : olds = [] := List.eq_nil_of_length_eq_zero (by simpa using ho)
    subst hnil
    have hown : w.ownsRow w.heap.size e k (.slice none 0 0) 0 [] := ⟨by simp, .inl ⟨rfl, rfl⟩⟩
    refine wpList_append_own w hg s x t hop w.heap.size e i z k bytes h1 h2 h3 h4 h5 h6 hk _ 0 [] hs hown ad m c news hx hn hc h1c b1 b2 (Nat.le_refl _) fun v' w' hown' hgr _ => ?_
    have hbt : But [] w w' := (But.refl _ _).grown hgr (by simp [Value.ownBlock])
    obtain ⟨e1, e2⟩ := OpenK.of_own hown'
    rcases hown'.2 with ⟨hv0, h0⟩ | ⟨g, cap, cur, rfl, _⟩
    · exact h v' w' G (hbt.mono (by simp)) (.inl ⟨hv0, h0⟩) (.inl rfl)
    · exact h _ w' _ (hbt.mono (by simp)) e1 (.inr ⟨g, rfl, e2 g rfl⟩)
  · have O : OpenK w (some b) (.slice (some ⟨b, off, none⟩) n cap) n k olds := .inr ⟨b, off, cap, rfl, rfl, p1, p2, p3, p4, p5⟩
    refine wpList_append_arg w hg s x t hop e i z k bytes h1 h2 h3 h4 h5 h6 hk b off n cap olds hs ho p5 ad m c news hx hn hc h1c
      (fun hr j hj => by
        have hck : n * k + m * k ≤ cap * k := by have := Nat.mul_le_mul_right k hr; rw [Nat.add_mul] at this; exact this
        have := p4 (n * k + j) (by omega); rwa [← Nat.add_assoc] at this) b1 b2 (fun hr => ?_) (fun _ v' w' hown' hgr => ?_)
    · exact h _ _ (some b) (But.setCells b _ _) (O.pushM news hn hr) (.inl rfl)
    · obtain ⟨e1, e2⟩ := OpenK.of_own hown'
      have hbt : But [] w w' := (But.refl _ _).grown hgr (by simp)
      rcases hown'.2 with ⟨hv0, h0⟩ | ⟨g, cap, cur, rfl, _⟩
      · exact h v' w' (some b) (hbt.mono (by simp)) (.inl ⟨hv0, h0⟩) (.inl rfl)
      · exact h _ w' _ (hbt.mono (by simp)) e1 (.inr ⟨g, rfl, e2 g rfl⟩)
def tx (T : List ByteArray) (q : Nat) : ByteArray := T[q]?.getD ⟨#[]⟩
def wayC (T : List ByteArray) (l : List Nat) : List Value := l.flatMap fun q : Nat => [.int .i64 (q : Int), .string (tx T q)]
theorem wayC_len (T : List ByteArray) : ∀ l : List Nat, (wayC T l).length = l.length * 2
  | [] => rfl
  | q :: l => by
    have := wayC_len T l
    unfold wayC at this ⊢
    rw [List.flatMap_cons, List.length_append, this]
    simp
    omega
theorem wayC_app (T : List ByteArray) (l m : List Nat) : wayC T (l ++ m) = wayC T l ++ wayC T m := by simp [wayC]
theorem wayC_one (T : List ByteArray) (l : List Nat) : ∀ u ∈ wayC T l, u.oneCell' = true := by
  intro u hu
  obtain ⟨q, _, h⟩ := List.mem_flatMap.1 hu
  simp at h
  rcases h with rfl | rfl <;> simp [Value.oneCell']
theorem wayC_at (T : List ByteArray) : ∀ (l : List Nat) (i q : Nat), l[i]? = some q → (wayC T l)[i * 2]? = some (.int .i64 (q : Int)) ∧ (wayC T l)[i * 2 + 1]? = some (.string (tx T q))
  | [], _, _, h => by simp at h
  | p :: l, 0, q, h => by
    obtain rfl : p = q := by simpa using h
    simp [wayC]
  | p :: l, i + 1, q, h => by
    have := wayC_at T l i q (by simpa using h)
    have e : wayC T (p :: l) = .int .i64 (p : Int) :: .string (tx T p) :: wayC T l := by simp [wayC]
    rw [e, show (i + 1) * 2 = i * 2 + 1 + 1 by omega]
    simpa using this
theorem wayC_drop (T : List ByteArray) (l : List Nat) (k : Nat) : (wayC T l).drop (k * 2) = wayC T (l.drop k) := by
  induction k generalizing l with
  | zero => simp
  | succ k ih =>
    cases l with
    | nil => simp [wayC]
    | cons q l =>
      have e : wayC T (q :: l) = .int .i64 (q : Int) :: .string (tx T q) :: wayC T l := by simp [wayC]
      rw [e, show (k + 1) * 2 = k * 2 + 1 + 1 by omega]
      simpa using ih l
theorem wayC_take (T : List ByteArray) (l : List Nat) (k : Nat) : (wayC T l).take (k * 2) = wayC T (l.take k) := by
  induction k generalizing l with
  | zero => simp [wayC]
  | succ k ih =>
    cases l with
    | nil => simp [wayC]
    | cons q l =>
      have e : wayC T (q :: l) = .int .i64 (q : Int) :: .string (tx T q) :: wayC T l := by simp [wayC]
      have e2 : wayC T ((q :: l).take (k + 1)) = .int .i64 (q : Int) :: .string (tx T q) :: wayC T (l.take k) := by simp [wayC]
      rw [e, e2, show (k + 1) * 2 = k * 2 + 1 + 1 by omega]
      simpa using ih l
theorem tx_app {T : List ByteArray} {q : Nat} (d : ByteArray) (h : q < T.length) : tx (T ++ [d]) q = tx T q := by unfold tx; rw [List.getElem?_append_left h]
theorem tx_last (T : List ByteArray) (d : ByteArray) : tx (T ++ [d]) T.length = d := by simp [tx]
theorem wayC_more {T : List ByteArray} {l : List Nat} (d : ByteArray) (h : ∀ q ∈ l, q < T.length) : wayC (T ++ [d]) l = wayC T l := by
  induction l with
  | nil => rfl
  | cons q l ih =>
    have e : ∀ T, wayC T (q :: l) = .int .i64 (q : Int) :: .string (tx T q) :: wayC T l := fun T => by simp [wayC]
    rw [e, e, tx_app d (h q (by simp)), ih fun x hx => h x (by simp [hx])]
/-- What one of lo on stands in the open row. -/
theorem pk_way (T : List ByteArray) : ∀ (k lo : Nat), lo + k ≤ T.length → (pk lo (T.drop lo)).take (k * 2) = wayC T ((List.range k).map fun i => lo + i)
  | 0, lo, _ => by simp [wayC]
  | k + 1, lo, h => by
    have e : T.drop lo = tx T lo :: T.drop (lo + 1) := by
      rw [List.drop_eq_getElem_cons (show lo < T.length by omega)]
      unfold tx
      rw [List.getElem?_eq_getElem (show lo < T.length by omega)]
      rfl
    have ih := pk_way T k (lo + 1) (by omega)
    have e2 : pk lo (tx T lo :: T.drop (lo + 1)) = .int .i64 (lo : Int) :: .string (tx T lo) :: pk (lo + 1) (T.drop (lo + 1)) := by simp [pk]
    have e3 : ((List.range (k + 1)).map fun i => lo + i) = lo :: (List.range k).map fun i => lo + 1 + i := by
      rw [List.range_succ_eq_map]
      simp [Function.comp_def, Nat.add_assoc, Nat.add_comm 1]
    rw [e, e2, e3, show (k + 1) * 2 = k * 2 + 1 + 1 by omega, List.take_succ_cons, List.take_succ_cons, ih]
    simp [wayC]
/-- A session: T was sent, lo of them were told, the packets way are on their way; F are its blocks. -/
def Sess (w : World) (F : List Nat) (s : Nat) (T : List ByteArray) (lo : Nat) (way : List Nat) : Prop :=
  ∃ (sb rb : Nat) (Go Gw : Option Nat) (v : Value), F = [s, sb, rb] ++ Go.toList ++ Gw.toList ∧ F.Nodup ∧ (∀ x ∈ F, x < w.heap.size) ∧
    w.heap[s]? = some (.cells #[.pointer (some ⟨sb, 0, none⟩), .pointer (some ⟨rb, 0, none⟩), v] 55 (0, 0)) ∧
    Snd w sb Go lo (T.drop lo) ∧ Recv w rb lo ∧ OpenK w Gw v way.length 2 (wayC T way) ∧ lo ≤ T.length ∧ (∀ q ∈ way, q < T.length)
theorem Sess.but {w w2 : World} {F X : List Nat} {s lo : Nat} {T : List ByteArray} {way : List Nat} (h : Sess w F s T lo way) (hb : But X w w2) (hn : ∀ x ∈ F, x ∉ X) : Sess w2 F s T lo way := by
  obtain ⟨sb, rb, Go, Gw, v, h1, h2, h3, h4, h5, h6, h7, h8⟩ := h
  subst h1
  refine ⟨sb, rb, Go, Gw, v, rfl, h2, fun x hx => Nat.lt_of_lt_of_le (h3 x hx) hb.size, hb.heap h4 (hn _ (by simp)), h5.but hb (hn _ (by simp)) (fun g hg => hn g (by simp [hg])), h6.but hb (hn _ (by simp)), h7.but hb (fun g hg => hn g (by simp [hg])), h8⟩
theorem Sess.keep {w w2 : World} {F : List Nat} {s lo : Nat} {T : List ByteArray} {way : List Nat} (h : Sess w F s T lo way) (hk : Kept w w2) : Sess w2 F s T lo way := h.but (.of_kept (S := []) hk) (by simp)
end Go.Proofs.Ytbofoafcglmboaa
