/- Markers flood the tree, in plain Lean. -/
import Derived.Test.YtbofgpmbocjbiaaMrkK
set_option linter.unusedSimpArgs false
set_option linter.unusedVariables false
namespace Go.Proofs.Ytbofgpmbocjbiaa

def sm (f : Nat → Nat) : Nat → Nat
  | 0 => 0
  | n + 1 => sm f n + f n
theorem sm_congr {f g : Nat → Nat} : ∀ n, (∀ i, i < n → f i = g i) → sm f n = sm g n
  | 0, _ => rfl
  | n + 1, h => by rw [sm, sm, sm_congr n (fun i hi => h i (by omega)), h n (by omega)]
theorem sm_add (f g : Nat → Nat) : ∀ n, sm (fun i => f i + g i) n = sm f n + sm g n
  | 0 => rfl
  | n + 1 => by rw [sm, sm, sm, sm_add f g n]; omega
theorem sm_zero : ∀ n, sm (fun _ => 0) n = 0
  | 0 => rfl
  | n + 1 => by rw [sm, sm_zero n]
theorem sm_swap (f : Nat → Nat → Nat) (m : Nat) : ∀ n, sm (fun i => sm (fun k => f i k) m) n = sm (fun k => sm (fun i => f i k) n) m
  | 0 => by simp only [sm]; rw [sm_zero]
  | n + 1 => by
    rw [sm, sm_swap f m n, ← sm_add]
    rfl
def up1 (p : List Int) (i k : Nat) : Nat := if pa p i = k then 1 else 0
theorem sm_up (p : List Int) (i : Nat) : ∀ n, sm (fun k => up1 p i k) n = if 0 ≤ pa p i ∧ pa p i < n then 1 else 0
  | 0 => by simp only [sm]; rw [if_neg (by omega)]
  | n + 1 => by
    rw [sm, sm_up p i n]
    unfold up1
    by_cases e : pa p i = n
    · rw [if_pos e, if_neg (by omega), if_pos (by omega)]
    · rw [if_neg e]
      by_cases h : 0 ≤ pa p i ∧ pa p i < n
      · rw [if_pos h, if_pos (by omega)]
      · rw [if_neg h, if_neg (by omega)]
theorem near_len2 {p : List Int} (hp : IsTree p) {i : Nat} (hi : i < p.length) : ∀ n, n ≤ p.length → (nearTo p i n).length = sm (fun k => up1 p i k + up1 p k i) n
  | 0, _ => rfl
  | n + 1, hn => by
    have ih := near_len2 hp hi n (by omega)
    rw [sm, ← ih]
    obtain ⟨R, hR⟩ := hp
    unfold up1
    by_cases e1 : pa p i = n
    · by_cases e2 : pa p n = i
      · have h1 := hR.rk i hi n e1
        have h2 := hR.rk n (by omega) i e2
        omega
      · rw [if_pos e1, if_neg e2, nearTo_yes (by simp [nearB, e1]), List.length_append]
        rfl
    · by_cases e2 : pa p n = i
      · rw [if_neg e1, if_pos e2, nearTo_yes (by simp [nearB, e2]), List.length_append]
        rfl
      · rw [if_neg e1, if_neg e2, nearTo_no (by simp [nearB, e1, e2])]
        rfl
theorem up_all2 {p : List Int} (hp : IsTree p) : ∀ n, n ≤ p.length → sm (fun i => sm (fun k => up1 p i k) p.length) n + rootsTo p n = n
  | 0, _ => rfl
  | n + 1, hn => by
    have ih := up_all2 hp n (by omega)
    obtain ⟨R, hR⟩ := hp
    have hr := hR.rng n (by omega)
    rw [sm, rootsTo, sm_up]
    by_cases e : pa p n = -1
    · rw [if_neg (by omega), if_pos e]; omega
    · rw [if_pos (by omega), if_neg e]; omega
def pairsTo (p : List Int) (n : Nat) : Nat → Nat := sm (fun i => (nearTo p i n).length)
theorem pairs_all {p : List Int} (hp : IsTree p) : pairsTo p p.length p.length = 2 * (p.length - 1) := by
  unfold pairsTo
  rw [sm_congr p.length (fun i hi => near_len2 hp hi p.length (Nat.le_refl _))]
  rw [show sm (fun i => sm (fun k => up1 p i k + up1 p k i) p.length) p.length = sm (fun i => sm (fun k => up1 p i k) p.length) p.length + sm (fun i => sm (fun k => up1 p k i) p.length) p.length from by
    rw [← sm_add]
    exact sm_congr _ (fun i _ => sm_add _ _ _)]
  rw [sm_swap (fun i k => up1 p k i)]
  have h1 := up_all2 hp p.length (Nat.le_refl _)
  have h2 := ((tree_iff p).1 hp).2.2.2.1
  omega

theorem sm_sumTo (f : Nat → Nat) : ∀ n, sm f n = sumTo f n
  | 0 => rfl
  | n + 1 => by rw [sm, sumTo, sm_sumTo f n]
/-- What has one site and all that is near its sites has all sites. -/
theorem closed_all {p : List Int} (ht : IsTree p) (Q : Nat → Prop) {q : Nat} (hq : q < p.length) (h0 : Q q) (hc : ∀ x y, x < p.length → y < p.length → Nr p x y → Q x → Q y) : ∀ x, x < p.length → Q x := by
  obtain ⟨R, hT⟩ := ht
  obtain ⟨r, hr, hroot⟩ := hT.root
  have hup : ∀ k x, R x ≤ k → x < p.length → Q x → Q r := by
    intro k
    induction k with
    | zero =>
      intro x hk hx hQ
      by_cases e : pa p x = -1
      · rw [← (hroot x hx).1 e]; exact hQ
      · obtain ⟨h1, h2⟩ := hT.rng x hx
        have := hT.rk x hx (pa p x).toNat (by omega)
        omega
    | succ k ih =>
      intro x hk hx hQ
      by_cases e : pa p x = -1
      · rw [← (hroot x hx).1 e]; exact hQ
      · obtain ⟨h1, h2⟩ := hT.rng x hx
        have h3 := hT.rk x hx (pa p x).toNat (by omega)
        exact ih (pa p x).toNat (by omega) (by omega) (hc x _ hx (by omega) (.inl (by omega)) hQ)
  have hQr := hup (R q) q (Nat.le_refl _) hq h0
  have hdn : ∀ k x, R x ≤ k → x < p.length → Q x := by
    intro k
    induction k with
    | zero =>
      intro x hk hx
      by_cases e : pa p x = -1
      · rw [(hroot x hx).1 e]; exact hQr
      · obtain ⟨h1, h2⟩ := hT.rng x hx
        have := hT.rk x hx (pa p x).toNat (by omega)
        omega
    | succ k ih =>
      intro x hk hx
      by_cases e : pa p x = -1
      · rw [(hroot x hx).1 e]; exact hQr
      · obtain ⟨h1, h2⟩ := hT.rng x hx
        have h3 := hT.rk x hx (pa p x).toNat (by omega)
        exact hc _ x (by omega) hx (.inr (by omega)) (ih (pa p x).toNat (by omega) (by omega))
  exact fun x hx => hdn (R x) x (Nat.le_refl _) hx
section
variable {ps : List Int} {st st0 : DSt}
theorem pick_S_up (a b s : Int) (h : st.S s = true) : (pickD ps st a b).S s = true := by
  unfold pickD
  split
  · exact h
  · exact h
  · exact stopD_up _ _ h
theorem pick_C_up (a b : Int) (p : Int × Int) (h : st.C p = true) : (pickD ps st a b).C p = true := by
  unfold pickD
  split
  · exact h
  · exact h
  · rw [stopD_C]
    show (if p = (a, b) then true else st.C p) = true
    rw [h]; simp
theorem pick_less (hm : MI ps st) (ht : IsTree ps) {a b : Int} {t : Thg} {r : List Thg} (hw : st.W (a, b) = t :: r) : (pickD ps st a b).W (a, b) = r := by
  cases t with
  | some l =>
    have : pickD ps st a b = st.setW (a, b) r := by unfold pickD; rw [hw]
    rw [this]
    show (if (a, b) = (a, b) then r else st.W (a, b)) = r
    rw [if_pos rfl]
  | none =>
    have : pickD ps st a b = stopD ps ((st.setW (a, b) r).came (a, b)) b := by unfold pickD; rw [hw]
    rw [this]
    obtain ⟨_, _, hn, _, _⟩ := hm.mark hw
    have hab : a ≠ b := by
      rintro rfl
      obtain ⟨x, y, e1, e2, h1, h2, h3⟩ := (nb_iff ht _ _).1 hn
      have : x = y := by omega
      subst this
      obtain ⟨R, hR⟩ := ht
      exact no_loop hR h1 h3
    have hW : ((st.setW (a, b) r).came (a, b)).W (a, b) = r := by
      show (if (a, b) = (a, b) then r else st.W (a, b)) = r
      rw [if_pos rfl]
    cases hs : ((st.setW (a, b) r).came (a, b)).S b with
    | true => rw [stopD_no (.inr hs)]; exact hW
    | false => rw [(stopD_yes (nb_in ht hn).2 hs).1, if_neg (fun h => hab h.1)]; exact hW
/-- Nobody has stopped. -/
def NS (st : DSt) : Prop := ∀ a, st.S a = false
theorem NS.zero : NS dst0 := fun _ => rfl
theorem NS.send (h : NS st) (a b : Int) (l : ByteArray) : NS (sendD ps st a b l) := by
  unfold sendD
  split
  · exact h
  · exact h
theorem NS.pick (h : NS st) (hm : MI ps st) (a b : Int) : NS (pickD ps st a b) := by
  unfold pickD
  split
  · exact h
  · exact h
  · rename_i r hw
    have := (hm.mark hw).2.2.2.1
    rw [h a] at this
    cases this
/-- Where a round stands: ways ahead of (a, b) of those who had stopped when it began are done with. -/
structure Rd (ps : List Int) (st0 st : DSt) (a b : Nat) : Prop where
  up : ∀ s, st0.S s = true → st.S s = true
  pr : ∀ x y : Nat, (x < a ∨ (x = a ∧ y < b)) → nbB ps x y = true → st0.S x = true → st.C ((x : Int), (y : Int)) = true
theorem Rd.start (st : DSt) : Rd ps st st 0 0 := ⟨fun _ h => h, fun x y h => by omega⟩
theorem Rd.pick {a b : Nat} (h : Rd ps st0 st a b) (x y : Int) : Rd ps st0 (pickD ps st x y) a b :=
  ⟨fun s hs => pick_S_up _ _ _ (h.up s hs), fun u v huv hn hs => pick_C_up _ _ _ (h.pr u v huv hn hs)⟩
theorem Rd.next {a b : Nat} (h : Rd ps st0 st a b) (hm : MI ps st) (hw : st.W ((a : Int), (b : Int)) = []) : Rd ps st0 st a (b + 1) :=
  ⟨h.up, fun x y hxy hn hs => by
    by_cases e : x = a ∧ y = b
    · obtain ⟨rfl, rfl⟩ := e
      rcases hm.mrk x y (h.up _ hs) hn with ⟨g, _⟩ | ⟨_, l, g, _⟩
      · exact g
      · rw [hw] at g
        have := congrArg List.length g
        simp at this
    · exact h.pr x y (by omega) hn hs⟩
theorem Rd.row {a b : Nat} (h : Rd ps st0 st a b) (ht : IsTree ps) (hb : ps.length ≤ b) : Rd ps st0 st (a + 1) 0 :=
  ⟨h.up, fun x y hxy hn hs => h.pr x y (by
    have h2 := (inB_iff _ _).1 (nb_in ht hn).2
    omega) hn hs⟩
noncomputable def cntS (st : DSt) (n : Nat) : Nat := sumTo (fun i => if st.S (i : Int) = true then 1 else 0) n
theorem cnt_le1 (st : DSt) : ∀ n, cntS st n ≤ n := fun n => by
  have := sumTo_le (f := fun i => if st.S (i : Int) = true then 1 else 0) (c := 1) (fun i => by split <;> omega) n
  unfold cntS
  omega
theorem sumTo_mono {f g : Nat → Nat} : ∀ n, (∀ i, i < n → f i ≤ g i) → sumTo f n ≤ sumTo g n
  | 0, _ => Nat.le_refl _
  | n + 1, h => by have := sumTo_mono n (fun i hi => h i (by omega)); have := h n (by omega); simp only [sumTo]; omega
theorem sumTo_less {f g : Nat → Nat} {a : Nat} : ∀ n, (∀ i, i < n → f i ≤ g i) → a < n → f a < g a → sumTo f n < sumTo g n
  | 0, _, h, _ => by omega
  | n + 1, h, ha, hl => by
    simp only [sumTo]
    by_cases e : a = n
    · subst e; have := sumTo_mono a (fun i hi => h i (by omega)); omega
    · have := sumTo_less n (fun i hi => h i (by omega)) (by omega) hl; have := h n (by omega); omega
theorem sumTo_full {f : Nat → Nat} : ∀ n, (∀ i, f i ≤ 1) → n ≤ sumTo f n → ∀ i, i < n → f i = 1
  | 0, _, _ => fun i hi => by omega
  | n + 1, h, hs => fun i hi => by
    simp only [sumTo] at hs
    have h1 := sumTo_le (c := 1) h n
    have h2 := h n
    by_cases e : i = n
    · subst e; omega
    · exact sumTo_full n h (by omega) i (by omega)
/-- All have stopped; or r + 1 sites have. -/
structure FL (ps : List Int) (st : DSt) (r : Nat) : Prop where
  some_ : ∃ q, q < ps.length ∧ st.S (q : Int) = true
  many : (∀ i, i < ps.length → st.S (i : Int) = true) ∨ r + 1 ≤ cntS st ps.length
def Fin6 (ps : List Int) (st : DSt) : Prop := ∀ x y : Nat, nbB ps x y = true → st.C ((x : Int), (y : Int)) = true
theorem FL.stop {q : Nat} (hq : q < ps.length) : FL ps (stopD ps st (q : Int)) 0 := by
  have h : (stopD ps st (q : Int)).S (q : Int) = true := stopD_S ((inB_iff _ _).2 ⟨by omega, by omega⟩)
  refine ⟨⟨q, hq, h⟩, .inr ?_⟩
  unfold cntS
  have := sumTo_less (f := fun _ => 0) (g := fun i => if (stopD ps st (q : Int)).S (i : Int) = true then 1 else 0) (a := q) ps.length (fun i _ => by omega) hq (by rw [if_pos h]; omega)
  omega
theorem FL.round {r : Nat} (h : FL ps st0 r) (hr : Rd ps st0 st ps.length 0) (hc : CS st) (ht : IsTree ps) : FL ps st (r + 1) ∧ ((∀ i, i < ps.length → st0.S (i : Int) = true) → Fin6 ps st) := by
  refine ⟨⟨?_, ?_⟩, fun hall x y hn => ?_⟩
  · obtain ⟨q, h1, h2⟩ := h.some_
    exact ⟨q, h1, hr.up _ h2⟩
  · by_cases hall : ∀ i, i < ps.length → st.S (i : Int) = true
    · exact .inl hall
    · right
      rcases h.many with g | g
      · exact absurd (fun i hi => hr.up _ (g i hi)) hall
      · obtain ⟨q, h1, h2⟩ := h.some_
        have hex : ∃ x y : Nat, x < ps.length ∧ y < ps.length ∧ Nr ps x y ∧ st0.S (x : Int) = true ∧ ¬ st0.S (y : Int) = true := by
          by_cases hex : ∃ x y : Nat, x < ps.length ∧ y < ps.length ∧ Nr ps x y ∧ st0.S (x : Int) = true ∧ ¬ st0.S (y : Int) = true
          · exact hex
          · exfalso
            refine hall fun i hi => hr.up _ (closed_all ht (fun x => st0.S (x : Int) = true) h1 h2 (fun x y hx hy hn hs => ?_) i hi)
            by_cases hy2 : st0.S (y : Int) = true
            · exact hy2
            · exact absurd ⟨x, y, hx, hy, hn, hs, hy2⟩ hex
        obtain ⟨x, y, hx, hy, hn, hs, hy2⟩ := hex
        have hC := hr.pr x y (.inl hx) ((nb_iff ht _ _).2 ⟨x, y, rfl, rfl, hx, hy, hn⟩) hs
        have hSy := hc _ _ hC
        unfold cntS at g ⊢
        have := sumTo_less (f := fun i => if st0.S (i : Int) = true then 1 else 0) (g := fun i => if st.S (i : Int) = true then 1 else 0) (a := y) ps.length (fun i _ => by
          by_cases e : st0.S (i : Int) = true
          · rw [if_pos e, if_pos (hr.up _ e)]; omega
          · rw [if_neg e]; omega) hy (by rw [if_neg hy2, if_pos hSy]; omega)
        omega
  · obtain ⟨x', y', e1, e2, hx, hy, _⟩ := (nb_iff ht _ _).1 hn
    have e1 : x = x' := by omega
    subst e1
    exact hr.pr x y (.inl hx) hn (hall x hx)
theorem FL.all (h : FL ps st 5) (ht : IsTree ps) : ∀ i, i < ps.length → st.S (i : Int) = true := by
  have h6 := ((tree_iff ps).1 ht).2.1
  rcases h.many with g | g
  · exact g
  · intro i hi
    have := sumTo_full (f := fun i => if st.S (i : Int) = true then 1 else 0) ps.length (fun i => by split <;> omega) (by unfold cntS at g; omega) i hi
    by_cases e : st.S (i : Int) = true
    · exact e
    · rw [if_neg e] at this; omega
/-- What the rounds come to. -/
theorem Fin6.done (h : Fin6 ps st) (hm : MI ps st) (hk : KS ps st) (ht : IsTree ps) (hall : ∀ i, i < ps.length → st.S (i : Int) = true) :
    (∀ x y : Nat, st.W ((x : Int), (y : Int)) = []) ∧ allB ps st = true ∧ (st.k : Int) = 2 * ((ps.length : Int) - 1) := by
  have h1 := ((tree_iff ps).1 ht).1
  refine ⟨fun x y => ?_, ?_, ?_⟩
  · cases hw : st.W ((x : Int), (y : Int)) with
    | nil => rfl
    | cons t r =>
      have hn := hm.near _ _ (show st.W ((x : Int), (y : Int)) ≠ [] by rw [hw]; simp)
      obtain ⟨x', y', e1, e2, hx, hy, _⟩ := (nb_iff ht _ _).1 hn
      have e1 : x = x' := by omega
      subst e1
      rcases hm.mrk _ _ (hall x hx) hn with ⟨_, g⟩ | ⟨g, _⟩
      · rw [hw] at g; cases g
      · rw [h x y hn] at g; cases g
  · unfold allB
    rw [List.all_eq_true]
    intro s hs
    have hs := List.mem_range.1 hs
    refine done_iff.2 ⟨(inB_iff _ _).2 ⟨by omega, by omega⟩, hall s hs, fun b hb => ?_⟩
    obtain ⟨x', y', e1, e2, hx, hy, _⟩ := (nb_iff ht _ _).1 hb
    subst e2
    exact h y' s (nb_symm ht hb)
  · unfold KS at hk
    rw [hk]
    have e : sumTo (degOf ps st.S) ps.length = pairsTo ps ps.length ps.length := by
      unfold pairsTo
      rw [sm_sumTo]
      refine sumTo_cong _ fun i hi => ?_
      unfold degOf
      rw [if_pos (hall i hi)]
      unfold nearOf
      rw [if_pos ⟨ht, by omega, by omega⟩, Int.toNat_natCast]
    rw [e, pairs_all ht]
    omega
end
end Go.Proofs.Ytbofgpmbocjbiaa
