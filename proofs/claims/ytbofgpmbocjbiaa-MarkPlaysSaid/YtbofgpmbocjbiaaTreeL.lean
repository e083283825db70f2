/- Trees by parents, in plain Lean: walks that never turn back; there is one from each site to each other one. -/
import Derived.Test.YtbofgpmbocjbiaaKit
set_option linter.unusedSimpArgs false
set_option linter.unusedVariables false
namespace Go.Proofs.Ytbofgpmbocjbiaa

def pa (p : List Int) (x : Nat) : Int := p[x]?.getD (-2)
def Nr (p : List Int) (x y : Nat) : Prop := pa p x = y ∨ pa p y = x
theorem Nr.symm {p : List Int} {x y : Nat} (h : Nr p x y) : Nr p y x := h.elim .inr .inl
structure T (p : List Int) (R : Nat → Nat) : Prop where
  one : 1 ≤ p.length
  six : p.length ≤ 6
  rng : ∀ x, x < p.length → -1 ≤ pa p x ∧ pa p x < p.length
  root : ∃ r, r < p.length ∧ ∀ x, x < p.length → (pa p x = -1 ↔ x = r)
  rk : ∀ x, x < p.length → ∀ y : Nat, pa p x = y → R y < R x
  r7 : ∀ x, x < p.length → R x < 7
def IsTree (p : List Int) : Prop := ∃ R, T p R

/-- A walk from near to near that never turns back. -/
structure W (p : List Int) (l : List Nat) : Prop where
  lt : ∀ (i : Nat) (x : Nat), l[i]? = some x → x < p.length
  nr : ∀ (i x y : Nat), l[i]? = some x → l[i + 1]? = some y → Nr p x y
  nb : ∀ (i x z : Nat), l[i]? = some x → l[i + 2]? = some z → x ≠ z

theorem W.sub {p : List Int} {l m : List Nat} (s t : List Nat) (h : W p l) (e : l = s ++ (m ++ t)) : W p m := by
  have key : ∀ i x, m[i]? = some x → l[s.length + i]? = some x := by
    intro i x hi
    have hlt : i < m.length := by
      rcases Nat.lt_or_ge i m.length with g | g
      · exact g
      · rw [List.getElem?_eq_none g] at hi; cases hi
    rw [e, List.getElem?_append_right (by omega), Nat.add_sub_cancel_left, List.getElem?_append_left hlt]; exact hi
  exact ⟨fun i x hi => h.lt _ x (key i x hi), fun i x y hx hy => h.nr (s.length + i) x y (key _ _ hx) (by have := key _ _ hy; rwa [← Nat.add_assoc] at this),
    fun i x z hx hz => h.nb (s.length + i) x z (key _ _ hx) (by have := key _ _ hz; rwa [← Nat.add_assoc] at this)⟩
theorem W.rev {p : List Int} {l : List Nat} (h : W p l) : W p l.reverse := by
  have key : ∀ i x, l.reverse[i]? = some x → i < l.length ∧ l[l.length - 1 - i]? = some x := by
    intro i x hi
    have hlt : i < l.length := by
      rcases Nat.lt_or_ge i l.length with g | g
      · exact g
      · rw [List.getElem?_eq_none (by simpa using g)] at hi; cases hi
    rw [List.getElem?_reverse hlt] at hi
    exact ⟨hlt, hi⟩
  refine ⟨fun i x hi => h.lt _ x (key i x hi).2, fun i x y hx hy => ?_, fun i x z hx hz => ?_⟩
  · obtain ⟨a1, a2⟩ := key _ _ hx
    obtain ⟨b1, b2⟩ := key _ _ hy
    exact (h.nr (l.length - 1 - (i + 1)) y x b2 (by rwa [show l.length - 1 - (i + 1) + 1 = l.length - 1 - i by omega])).symm
  · obtain ⟨a1, a2⟩ := key _ _ hx
    obtain ⟨b1, b2⟩ := key _ _ hz
    exact fun e => h.nb (l.length - 1 - (i + 2)) z x b2 (by rwa [show l.length - 1 - (i + 2) + 2 = l.length - 1 - i by omega]) e.symm
theorem W.tail {p : List Int} {x : Nat} {l : List Nat} (h : W p (x :: l)) : W p l := h.sub [x] [] (by simp)
theorem W.init {p : List Int} {x : Nat} {l : List Nat} (h : W p (l ++ [x])) : W p l := h.sub [] [x] (by simp)

variable {p : List Int} {R : Nat → Nat}
/-- Once down, always down. -/
theorem down_all (hT : T p R) : ∀ (t : List Nat) (x y : Nat), W p (x :: y :: t) → pa p y = x → ∀ z ∈ y :: t, R x < R z
  | [], x, y, h, hd, z, hz => by
    obtain rfl : z = y := by simpa using hz
    exact hT.rk z (h.lt 1 z rfl) x hd
  | u :: t, x, y, h, hd, z, hz => by
    have h1 : R x < R y := hT.rk y (h.lt 1 y rfl) x hd
    have h2 : pa p u = y := by
      rcases h.nr 1 y u rfl rfl with g | g
      · exact absurd (by rw [hd] at g; exact_mod_cast g) (h.nb 0 x u rfl rfl)
      · exact g
    rcases List.mem_cons.1 hz with rfl | hz
    · exact h1
    · exact Nat.lt_trans h1 (down_all hT t y u h.tail h2 z hz)
theorem up_all (hT : T p R) {l : List Nat} {x y : Nat} (h : W p (l ++ [x, y])) (hu : pa p x = y) : ∀ z ∈ l ++ [x], R y < R z := by
  have h2 : W p (y :: x :: l.reverse) := by have := h.rev; simpa using this
  intro z hz
  exact down_all hT _ y x h2 hu z (by simp at hz ⊢; exact hz.symm)
theorem no_loop (hT : T p R) {a : Nat} (ha : a < p.length) : ¬ Nr p a a := by
  intro h
  have : pa p a = a := h.elim id id
  exact Nat.lt_irrefl _ (hT.rk a ha a this)

theorem self_walk (hT : T p R) : ∀ (k : Nat) (a : Nat) (m : List Nat), m.length ≤ k → ¬ W p (a :: (m ++ [a]))
  | k, a, [], _, h => no_loop hT (h.lt 0 a rfl) (h.nr 0 a a rfl rfl)
  | k, a, [y], _, h => h.nb 0 a a rfl rfl rfl
  | 0, a, y :: u :: m, hk, h => by simp at hk
  | k + 1, a, y :: u :: m, hk, h => by
    have h1 : pa p a = y := by
      rcases h.nr 0 a y rfl rfl with g | g
      · exact g
      · exact absurd (down_all hT (u :: m ++ [a]) a y h g a (by simp)) (Nat.lt_irrefl _)
    obtain ⟨m', x, hm⟩ : ∃ m' x, u :: m = m' ++ [x] := ⟨(u :: m).dropLast, (u :: m).getLast (by simp), (List.dropLast_concat_getLast (by simp)).symm⟩
    rw [hm] at h
    have h' : W p ((a :: y :: m') ++ [x, a]) := by simpa using h
    have h2 : pa p a = x := by
      rcases h'.nr (m'.length + 2) x a (by simp) (by simp) with g | g
      · exact absurd (up_all hT h' g a (by simp)) (Nat.lt_irrefl _)
      · exact g
    have hxy : x = y := by rw [h1] at h2; exact_mod_cast h2.symm
    subst hxy
    have hl : m'.length ≤ k := by have := congrArg List.length hm; simp at this hk; omega
    exact self_walk hT k x m' hl (h'.sub [a] [a] (by simp))
theorem last_split {l : List Nat} {b : Nat} (h : l.getLast? = some b) : ∃ s, l = s ++ [b] := by
  refine ⟨l.dropLast, ?_⟩
  have hne : l ≠ [] := by rintro rfl; simp at h
  rw [List.getLast?_eq_some_getLast hne] at h
  have := List.dropLast_concat_getLast hne
  rw [Option.some.inj h] at this
  exact this.symm

/-- From a to b there is one walk at most. -/
theorem walk_one (hT : T p R) : ∀ (k : Nat) (a b : Nat) (l l' : List Nat), l.length ≤ k → W p l → W p l' → l.head? = some a → l.getLast? = some b → l'.head? = some a → l'.getLast? = some b → l = l' := by
  intro k
  induction k with
  | zero => intro a b l l' hk _ _ h1; simp at hk; subst hk; simp at h1
  | succ k ih =>
    intro a b l l' hk hw hw' h1 h2 h1' h2'
    by_cases hab : a = b
    · subst hab
      have one : ∀ l : List Nat, W p l → l.head? = some a → l.getLast? = some a → l = [a] := by
        intro l hw h1 h2
        match l, h1 with
        | [x], h1 => simpa using h1
        | x :: y :: t, h1 =>
          obtain rfl : x = a := by simpa using h1
          obtain ⟨s, hs⟩ := last_split (l := y :: t) (b := x) (by simpa [List.getLast?_cons_cons] using h2)
          rw [hs] at hw
          exact absurd hw (self_walk hT s.length x s (Nat.le_refl _))
      rw [one l hw h1 h2, one l' hw' h1' h2']
    · have shape : ∀ l : List Nat, l.head? = some a → l.getLast? = some b → ∃ m, l = a :: (m ++ [b]) := by
        intro l h1 h2
        obtain ⟨s, rfl⟩ := last_split h2
        match s, h1 with
        | [], h1 => exact absurd (by simpa using h1.symm) hab
        | x :: s, h1 => obtain rfl : x = a := by simpa using h1
                        exact ⟨s, rfl⟩
      obtain ⟨m, rfl⟩ := shape l h1 h2
      obtain ⟨m', rfl⟩ := shape l' h1' h2'
      rcases Nat.lt_or_ge (R a) (R b) with hr | hr
      · have last : ∀ m : List Nat, W p (a :: (m ++ [b])) → ∃ c : Nat, pa p b = c ∧ (a :: m).getLast? = some c := by
          intro m hw
          obtain ⟨s, c, hs⟩ : ∃ s c, a :: m = s ++ [c] := ⟨(a :: m).dropLast, (a :: m).getLast (by simp), (List.dropLast_concat_getLast (by simp)).symm⟩
          have hw2 : W p (s ++ [c, b]) := by
            have : a :: (m ++ [b]) = s ++ [c, b] := by rw [← List.cons_append, hs]; simp
            rwa [this] at hw
          refine ⟨c, ?_, by rw [hs]; simp⟩
          rcases hw2.nr s.length c b (by simp) (by simp) with g | g
          · have := up_all hT hw2 g a (by rw [← hs]; simp)
            omega
          · exact g
        obtain ⟨c, hc, hl⟩ := last m hw
        obtain ⟨c', hc', hl'⟩ := last m' hw'
        obtain rfl : c = c' := by rw [hc] at hc'; exact_mod_cast hc'
        have := ih a c (a :: m) (a :: m') (by simp at hk ⊢; omega) (hw.sub [] [b] (by simp)) (hw'.sub [] [b] (by simp)) rfl hl rfl hl'
        simp only [List.cons.injEq, true_and] at this
        rw [this]
      · have first : ∀ m : List Nat, W p (a :: (m ++ [b])) → ∃ c : Nat, pa p a = c ∧ (m ++ [b]).head? = some c := by
          intro m hw
          obtain ⟨c, s, hs⟩ : ∃ c s, m ++ [b] = c :: s := List.exists_cons_of_ne_nil (by simp)
          have hb : b ∈ c :: s := by rw [← hs]; simp
          rw [hs] at hw
          refine ⟨c, ?_, by rw [hs]; rfl⟩
          rcases hw.nr 0 a c rfl rfl with g | g
          · exact g
          · have := down_all hT s a c hw g b hb
            omega
        obtain ⟨c, hc, hl⟩ := first m hw
        obtain ⟨c', hc', hl'⟩ := first m' hw'
        obtain rfl : c = c' := by rw [hc] at hc'; exact_mod_cast hc'
        have := ih c b (m ++ [b]) (m' ++ [b]) (by simp at hk ⊢; omega) hw.tail hw'.tail hl (by simp) hl' (by simp)
        rw [this]
theorem W.nodup (hT : T p R) : ∀ {l : List Nat}, W p l → l.Nodup
  | [], _ => List.nodup_nil
  | x :: l, h => by
    refine List.nodup_cons.2 ⟨fun hx => ?_, W.nodup hT h.tail⟩
    obtain ⟨s, t, rfl⟩ := List.append_of_mem hx
    exact self_walk hT s.length x s (Nat.le_refl _) (h.sub [] t (by simp))
theorem nodup_lt : ∀ (n : Nat) (l : List Nat), l.Nodup → (∀ x ∈ l, x < n) → l.length ≤ n
  | 0, l, _, h => by
    cases l with
    | nil => simp
    | cons x l => exact absurd (h x (by simp)) (Nat.not_lt_zero x)
  | n + 1, l, hn, h => by
    have h1 := nodup_lt n (l.erase n) (hn.erase n) (fun x hx => by
      have hx2 := (hn.mem_erase_iff).1 hx
      have := h x hx2.2
      omega)
    by_cases hm : n ∈ l
    · rw [List.length_erase_of_mem hm] at h1; omega
    · rw [List.erase_of_not_mem hm] at h1; omega
theorem W.len (hT : T p R) {l : List Nat} (h : W p l) : l.length ≤ p.length :=
  nodup_lt _ l (h.nodup hT) (fun x hx => by obtain ⟨i, hi⟩ := List.getElem?_of_mem hx; exact h.lt i x hi)
theorem W.one {x : Nat} (h : x < p.length) : W p [x] := by
  refine ⟨fun i y hi => ?_, fun i y z hy hz => ?_, fun i y z hy hz => ?_⟩
  · cases i with
    | zero => simp at hi; omega
    | succ i => simp at hi
  · simp at hz
  · simp at hz
theorem W.cons {a y : Nat} {t : List Nat} (h : W p (y :: t)) (ha : a < p.length) (hn : Nr p a y) (hb : t.head? ≠ some a) : W p (a :: y :: t) := by
  refine ⟨fun i x hi => ?_, fun i x z hx hz => ?_, fun i x z hx hz => ?_⟩
  · cases i with
    | zero => simp at hi; omega
    | succ i => exact h.lt i x (by simpa using hi)
  · cases i with
    | zero => simp at hx hz; subst hx hz; exact hn
    | succ i => exact h.nr i x z (by simpa using hx) (by simpa using hz)
  · cases i with
    | zero =>
      simp at hx
      subst hx
      rintro rfl
      cases t with
      | nil => simp at hz
      | cons u t => simp at hz; subst hz; exact hb rfl
    | succ i => exact h.nb i x z (by simpa using hx) (by simpa using hz)
theorem root_low (hT : T p R) {r : Nat} (hr : r < p.length) (hroot : ∀ x, x < p.length → (pa p x = -1 ↔ x = r)) : ∀ (k x : Nat), R x ≤ k → x < p.length → x = r ∨ R r < R x := by
  intro k
  induction k with
  | zero =>
    intro x hk hx
    by_cases e : x = r
    · exact .inl e
    · have h1 := hT.rng x hx
      have h2 : pa p x ≠ -1 := fun h => e ((hroot x hx).1 h)
      have := hT.rk x hx (pa p x).toNat (by omega)
      omega
  | succ k ih =>
    intro x hk hx
    by_cases e : x = r
    · exact .inl e
    · have h1 := hT.rng x hx
      have h2 : pa p x ≠ -1 := fun h => e ((hroot x hx).1 h)
      have h3 := hT.rk x hx (pa p x).toNat (by omega)
      rcases ih (pa p x).toNat (by omega) (by omega) with h4 | h4
      · rw [h4] at h3; exact .inr h3
      · right; omega
def Ends (l : List Nat) (a b : Nat) : Prop := l.head? = some a ∧ l.getLast? = some b
/-- From each site to each other one there is a walk. -/
theorem walk_some (hT : T p R) : ∀ (k a b : Nat), R a + R b ≤ k → a < p.length → b < p.length → ∃ l, W p l ∧ Ends l a b := by
  obtain ⟨r, hr, hroot⟩ := hT.root
  have main : ∀ (k : Nat), (∀ a b, R a + R b ≤ k → a < p.length → b < p.length → ∃ l, W p l ∧ Ends l a b) → ∀ a b, R a + R b ≤ k + 1 → R b ≤ R a → a < p.length → b < p.length → ∃ l, W p l ∧ Ends l a b := by
    intro k ih a b hk hab ha hb
    by_cases e : a = b
    · subst e; exact ⟨[a], W.one ha, rfl, rfl⟩
    · have hne : pa p a ≠ -1 := by
        intro h
        have h1 := (hroot a ha).1 h
        subst h1
        rcases root_low hT hr hroot _ b (Nat.le_refl _) hb with h | h
        · exact e h.symm
        · omega
      have h1 := hT.rng a ha
      obtain ⟨y, hy⟩ : ∃ y : Nat, pa p a = y := ⟨(pa p a).toNat, by omega⟩
      have hlt := hT.rk a ha y hy
      obtain ⟨l, hw, h2, h3⟩ := ih y b (by omega) (by omega) hb
      match l, h2 with
      | u :: t, h2 =>
        obtain rfl : u = y := by simpa using h2
        by_cases ht : t.head? = some a
        · refine ⟨t, hw.tail, ht, ?_⟩
          cases t with
          | nil => simp at ht
          | cons v t => rwa [List.getLast?_cons_cons] at h3
        · exact ⟨a :: u :: t, hw.cons ha (.inl hy) ht, rfl, by rwa [List.getLast?_cons_cons]⟩
  intro k
  induction k with
  | zero =>
    intro a b hk ha hb
    have h1 : a = r := by rcases root_low hT hr hroot _ a (Nat.le_refl _) ha with h | h; exact h; omega
    have h2 : b = r := by rcases root_low hT hr hroot _ b (Nat.le_refl _) hb with h | h; exact h; omega
    subst h1; subst h2
    exact ⟨[b], W.one ha, rfl, rfl⟩
  | succ k ih =>
    intro a b hk ha hb
    rcases Nat.le_total (R b) (R a) with h | h
    · exact main k ih a b hk h ha hb
    · obtain ⟨l, hw, h1, h2⟩ := main k ih b a (by omega) h hb ha
      exact ⟨l.reverse, hw.rev, by rw [List.head?_reverse]; exact h2, by rw [List.getLast?_reverse]; exact h1⟩

open Classical in
/-- The walk from one to another. -/
noncomputable def wk (p : List Int) (a b : Nat) : List Nat := if h : ∃ l, W p l ∧ Ends l a b then h.choose else []
theorem wk_spec (hp : IsTree p) {a b : Nat} (ha : a < p.length) (hb : b < p.length) : W p (wk p a b) ∧ Ends (wk p a b) a b := by
  obtain ⟨R, hT⟩ := hp
  have h := walk_some hT _ a b (Nat.le_refl _) ha hb
  unfold wk
  rw [dif_pos h]
  exact h.choose_spec
theorem wk_is (hp : IsTree p) {a b : Nat} {l : List Nat} (h : W p l) (he : Ends l a b) : wk p a b = l := by
  have hx : ∃ l, W p l ∧ Ends l a b := ⟨l, h, he⟩
  have h2 : W p (wk p a b) ∧ Ends (wk p a b) a b := by unfold wk; rw [dif_pos hx]; exact hx.choose_spec
  obtain ⟨R, hT⟩ := hp
  exact walk_one hT _ a b _ _ (Nat.le_refl _) h2.1 h h2.2.1 h2.2.2 he.1 he.2
end Go.Proofs.Ytbofgpmbocjbiaa
