/- Drains in plain Lean: what holds of a drain whatever its steps are. -/
import Derived.Test.YtbofgpmbocjbiaaMrkH
import Derived.Test.YtbofgpmbocjbiaaTreeV
set_option linter.unusedSimpArgs false
set_option linter.unusedVariables false
namespace Go.Proofs.Ytbofgpmbocjbiaa

noncomputable def pickD (ps : List Int) (st : DSt) (a b : Int) : DSt := match st.W (a, b) with
  | [] => st
  | some _ :: r => st.setW (a, b) r
  | none :: r => stopD ps ((st.setW (a, b) r).came (a, b)) b
noncomputable def doneB (ps : List Int) (st : DSt) (a : Int) : Bool := inB ps.length a && st.S a && (nearOf ps a).all fun y => st.C ((y : Int), a)
noncomputable def allB (ps : List Int) (st : DSt) : Bool := (List.range ps.length).all fun s => doneB ps st (s : Nat)
def dst0 : DSt := ⟨fun _ => [], fun _ => false, fun _ => false, 0⟩

theorem nb_iff {ps : List Int} (ht : IsTree ps) (a b : Int) : nbB ps a b = true ↔ ∃ x y : Nat, a = x ∧ b = y ∧ x < ps.length ∧ y < ps.length ∧ Nr ps x y := by
  unfold nbB nearOf
  rw [decide_eq_true_iff]
  constructor
  · rintro ⟨y, hy, rfl⟩
    split at hy
    · rename_i h
      obtain ⟨_, h0, h1⟩ := h
      obtain ⟨h2, h3⟩ := near_mem.1 hy
      exact ⟨a.toNat, y, by omega, rfl, by omega, h2, h3⟩
    · cases hy
  · rintro ⟨x, y, rfl, rfl, hx, hy, hn⟩
    rw [if_pos ⟨ht, by omega, by omega⟩]
    exact ⟨y, near_mem.2 ⟨hy, by simpa using hn⟩, rfl⟩
theorem nb_symm {ps : List Int} (ht : IsTree ps) {a b : Int} (h : nbB ps a b = true) : nbB ps b a = true := by
  obtain ⟨x, y, rfl, rfl, hx, hy, hn⟩ := (nb_iff ht _ _).1 h
  exact (nb_iff ht _ _).2 ⟨y, x, rfl, rfl, hy, hx, hn.symm⟩
theorem nb_in {ps : List Int} (ht : IsTree ps) {a b : Int} (h : nbB ps a b = true) : inB ps.length a = true ∧ inB ps.length b = true := by
  obtain ⟨x, y, rfl, rfl, hx, hy, hn⟩ := (nb_iff ht _ _).1 h
  exact ⟨(inB_iff _ _).2 ⟨by omega, by omega⟩, (inB_iff _ _).2 ⟨by omega, by omega⟩⟩
theorem nb_near {ps : List Int} {a b : Int} : nbB ps a b = true ↔ ∃ y ∈ nearOf ps a, (y : Int) = b := by unfold nbB; rw [decide_eq_true_iff]
theorem nearOf_nodup (ps : List Int) (a : Int) : (nearOf ps a).Nodup := by
  unfold nearOf
  split
  · exact near_nodup _ _ _
  · exact List.nodup_nil

/-- What the markers of a site that stops come to. -/
theorem stopI_W (a : Int) : ∀ (l : List Nat) (st : DSt) (p : Int × Int), l.Nodup → (stopI st a l).W p = if p.1 = a ∧ ∃ y ∈ l, (y : Int) = p.2 then st.W p ++ [none] else st.W p
  | [], st, p, _ => by simp [stopI]
  | y :: l, st, p, hn => by
    obtain ⟨h1, h2⟩ := List.nodup_cons.1 hn
    rw [stopI_cons, stopI_W a l _ p h2]
    obtain ⟨p1, p2⟩ := p
    have hW : ((st.setW (a, (y : Int)) (st.W (a, (y : Int)) ++ [none])).mark).W (p1, p2) = if (p1, p2) = (a, (y : Int)) then st.W (a, (y : Int)) ++ [none] else st.W (p1, p2) := rfl
    rw [hW]
    by_cases e1 : p1 = a
    · by_cases e2 : p2 = (y : Int)
      · have h3 : ¬ ∃ z ∈ l, (z : Int) = p2 := by
          rintro ⟨z, hz, e⟩
          have : z = y := by omega
          exact h1 (this ▸ hz)
        rw [if_neg (fun h => h3 h.2), if_pos (by rw [e1, e2]), if_pos ⟨e1, y, List.mem_cons_self, e2.symm⟩, e1, e2]
      · have hne : ¬ (p1, p2) = (a, (y : Int)) := by intro h; injection h with _ h; exact e2 h
        rw [if_neg hne]
        by_cases h5 : ∃ z ∈ l, (z : Int) = p2
        · obtain ⟨z, hz, e⟩ := h5
          rw [if_pos ⟨e1, z, hz, e⟩, if_pos ⟨e1, z, List.mem_cons_of_mem _ hz, e⟩]
        · rw [if_neg (fun h => h5 h.2), if_neg]
          rintro ⟨_, z, hz, e⟩
          rcases List.mem_cons.1 hz with hz | hz
          · subst hz; exact e2 e.symm
          · exact h5 ⟨z, hz, e⟩
    · have hne : ¬ (p1, p2) = (a, (y : Int)) := by intro h; injection h with h _; exact e1 h
      rw [if_neg (fun h => e1 h.1), if_neg hne, if_neg (fun h => e1 h.1)]
theorem stopI_S (a : Int) : ∀ (l : List Nat) (st : DSt), (stopI st a l).S = st.S
  | [], _ => rfl
  | y :: l, st => by rw [stopI_cons, stopI_S a l]; rfl
theorem stopI_C (a : Int) : ∀ (l : List Nat) (st : DSt), (stopI st a l).C = st.C
  | [], _ => rfl
  | y :: l, st => by rw [stopI_cons, stopI_C a l]; rfl

/-- A fresh site stops. -/
theorem stopD_yes {ps : List Int} {st : DSt} {a : Int} (h1 : inB ps.length a = true) (h2 : st.S a = false) :
    (∀ p : Int × Int, (stopD ps st a).W p = if p.1 = a ∧ nbB ps a p.2 = true then st.W p ++ [none] else st.W p) ∧ (∀ s, (stopD ps st a).S s = if s = a then true else st.S s) ∧ (stopD ps st a).C = st.C ∧ (stopD ps st a).k = st.k + (nearOf ps a).length := by
  have hr : stopR ps st a = 0 := by simp [stopR, h1, h2]
  unfold stopD
  rw [if_pos hr]
  refine ⟨fun p => ?_, fun s => ?_, ?_, ?_⟩
  · rw [stopI_W a _ _ p (nearOf_nodup ps a)]
    simp only [nb_near]
    rfl
  · rw [stopI_S]; rfl
  · rw [stopI_C]; rfl
  · rw [stopI_k]; rfl
theorem stopD_no {ps : List Int} {st : DSt} {a : Int} (h : inB ps.length a = false ∨ st.S a = true) : stopD ps st a = st := by
  have hr : stopR ps st a ≠ 0 := by
    rcases h with h | h
    · simp [stopR, h]
    · unfold stopR; split <;> simp [h]
  simp [stopD, hr]

/-- What holds of each drain. -/
structure MI (ps : List Int) (st : DSt) : Prop where
  near : ∀ a b, st.W (a, b) ≠ [] → nbB ps a b = true
  stp : ∀ a, st.S a = true → inB ps.length a = true
  lab : ∀ a b, st.S a = false → (∃ l : List ByteArray, st.W (a, b) = l.map some ∧ l.length ≤ 32) ∧ st.C (a, b) = false
  mrk : ∀ a b, st.S a = true → nbB ps a b = true → (st.C (a, b) = true ∧ st.W (a, b) = []) ∨ (st.C (a, b) = false ∧ ∃ l : List ByteArray, st.W (a, b) = l.map some ++ [none] ∧ l.length ≤ 32)
  cn : ∀ a b, st.C (a, b) = true → nbB ps a b = true
theorem MI.zero (ps : List Int) : MI ps dst0 :=
  ⟨fun a b h => absurd rfl h, fun a h => Bool.noConfusion h, fun a b _ => ⟨⟨[], rfl, by simp⟩, rfl⟩, fun a b h => Bool.noConfusion h, fun a b h => Bool.noConfusion h⟩
section
variable {ps : List Int} {st : DSt}
theorem MI.len (h : MI ps st) (p : Int × Int) : (st.W p).length ≤ 33 := by
  obtain ⟨a, b⟩ := p
  cases hS : st.S a with
  | false => obtain ⟨⟨l, h1, h2⟩, _⟩ := h.lab a b hS; rw [h1]; simp; omega
  | true =>
    cases hw : st.W (a, b) with
    | nil => simp
    | cons t r =>
      have hn := h.near a b (by rw [hw]; simp)
      rcases h.mrk a b hS hn with ⟨_, h2⟩ | ⟨_, l, h2, h3⟩
      · rw [h2] at hw; cases hw
      · rw [← hw, h2]; simp; omega
theorem MI.stop (h : MI ps st) (a : Int) : MI ps (stopD ps st a) := by
  cases h1 : inB ps.length a with
  | false => rw [stopD_no (.inl h1)]; exact h
  | true =>
    cases h2 : st.S a with
    | true => rw [stopD_no (.inr h2)]; exact h
    | false =>
      obtain ⟨e1, e2, e3, e4⟩ := stopD_yes h1 h2
      refine ⟨fun x y hx => ?_, fun x hx => ?_, fun x y hx => ?_, fun x y hx hn => ?_, fun x y hx => ?_⟩
      · rw [e1] at hx
        split at hx
        · rename_i hc
          obtain ⟨hc1, hc2⟩ := hc
          simp only at hc1 hc2
          rw [hc1]; exact hc2
        · exact h.near x y hx
      · rw [e2] at hx
        split at hx
        · rename_i hc; rw [hc]; exact h1
        · exact h.stp x hx
      · rw [e2] at hx
        split at hx
        · cases hx
        · rename_i hc
          rw [e1, if_neg (fun hh => hc hh.1), e3]
          exact h.lab x y hx
      · rw [e2] at hx
        rw [e1, e3]
        by_cases hc : x = a
        · subst hc
          obtain ⟨⟨l, g1, g2⟩, g3⟩ := h.lab x y h2
          rw [if_pos ⟨rfl, hn⟩]
          exact .inr ⟨g3, l, by rw [g1], g2⟩
        · rw [if_neg (fun hh => hc hh.1)]
          rw [if_neg hc] at hx
          exact h.mrk x y hx hn
      · rw [e3] at hx; exact h.cn x y hx
theorem MI.setW (h : MI ps st) {a b : Int} {t : Thg} {r : List Thg} (hw : st.W (a, b) = t :: r) (ht : t ≠ none) : MI ps (st.setW (a, b) r) := by
  obtain ⟨t, rfl⟩ := Option.ne_none_iff_exists'.1 ht
  have hn := h.near a b (by rw [hw]; simp)
  refine ⟨fun x y hx => ?_, fun x hx => h.stp x hx, fun x y hx => ?_, fun x y hx hnb => ?_, fun x y hx => h.cn x y hx⟩
  · unfold DSt.setW at hx
    simp only at hx
    split at hx
    · rename_i hc; injection hc with c1 c2; rw [c1, c2]; exact hn
    · exact h.near x y hx
  · refine ⟨?_, (h.lab x y hx).2⟩
    unfold DSt.setW
    simp only
    split
    · rename_i hc; injection hc with c1 c2; subst c1 c2
      obtain ⟨⟨l, g1, g2⟩, _⟩ := h.lab x y hx
      rw [hw] at g1
      cases l with
      | nil => cases g1
      | cons u l => simp at g1; exact ⟨l, g1.2, by simp at g2; omega⟩
    · exact (h.lab x y hx).1
  · unfold DSt.setW
    simp only
    split
    · rename_i hc; injection hc with c1 c2; subst c1 c2
      rcases h.mrk x y hx hnb with ⟨g1, g2⟩ | ⟨g1, l, g2, g3⟩
      · rw [hw] at g2; cases g2
      · rw [hw] at g2
        cases l with
        | nil => simp at g2
        | cons u l => simp at g2; exact .inr ⟨g1, l, g2.2, by simp at g3; omega⟩
    · exact h.mrk x y hx hnb
theorem MI.mark (h : MI ps st) {a b : Int} {r : List Thg} (hw : st.W (a, b) = none :: r) : MI ps ((st.setW (a, b) r).came (a, b)) ∧ r = [] ∧ nbB ps a b = true ∧ st.S a = true ∧ st.C (a, b) = false := by
  have hn := h.near a b (by rw [hw]; simp)
  have hS : st.S a = true := by
    cases hS : st.S a with
    | true => rfl
    | false =>
      obtain ⟨⟨l, g1, _⟩, _⟩ := h.lab a b hS
      rw [hw] at g1
      cases l <;> simp at g1
  have hC : st.C (a, b) = false ∧ r = [] := by
    rcases h.mrk a b hS hn with ⟨_, g2⟩ | ⟨g1, l, g2, g3⟩
    · rw [hw] at g2; cases g2
    · rw [hw] at g2
      cases l with
      | nil => simp at g2; exact ⟨g1, g2⟩
      | cons u l => simp at g2
  obtain ⟨hC, rfl⟩ := hC
  refine ⟨⟨fun x y hx => ?_, fun x hx => h.stp x hx, fun x y hx => ?_, fun x y hx hnb => ?_, fun x y hx => ?_⟩, rfl, hn, hS, hC⟩
  · unfold DSt.came DSt.setW at hx
    simp only at hx
    split at hx
    · exact absurd rfl hx
    · exact h.near x y hx
  · have hx : st.S x = false := hx
    have hne : ¬ (x, y) = (a, b) := by intro hc; injection hc with c1 c2; rw [c1, hS] at hx; cases hx
    unfold DSt.came DSt.setW
    simp only [if_neg hne]
    exact h.lab x y hx
  · unfold DSt.came DSt.setW
    simp only
    by_cases hc : (x, y) = (a, b)
    · simp [hc]
    · simp only [if_neg hc]
      exact h.mrk x y hx hnb
  · unfold DSt.came DSt.setW at hx
    simp only at hx
    by_cases hc : (x, y) = (a, b)
    · injection hc with c1 c2; rw [c1, c2]; exact hn
    · rw [if_neg hc] at hx; exact h.cn x y hx
theorem MI.pick (h : MI ps st) (a b : Int) : MI ps (pickD ps st a b) := by
  unfold pickD
  split
  · exact h
  · rename_i l r hw; exact h.setW hw (by simp)
  · rename_i r hw; exact (h.mark hw).1.stop b
theorem MI.send (h : MI ps st) (a b : Int) (l : ByteArray) : MI ps (sendD ps st a b l) := by
  unfold sendD
  split
  · rename_i hr
    have hn : nbB ps a b = true := by
      cases hn : nbB ps a b with
      | true => rfl
      | false => simp [sendR, hn] at hr
    have hS : st.S a = false := by
      cases hS : st.S a with
      | false => rfl
      | true => simp [sendR, hn, hS] at hr
    have hl : (st.W (a, b)).length < 32 := by
      rcases Nat.lt_or_ge (st.W (a, b)).length 32 with h | h
      · exact h
      · simp [sendR, hn, hS, h] at hr
    refine ⟨fun x y hx => ?_, fun x hx => h.stp x hx, fun x y hx => ⟨?_, (h.lab x y hx).2⟩, fun x y hx hnb => ?_, fun x y hx => h.cn x y hx⟩
    · unfold DSt.setW at hx
      simp only at hx
      split at hx
      · rename_i hc; injection hc with c1 c2; rw [c1, c2]; exact hn
      · exact h.near x y hx
    · unfold DSt.setW
      simp only
      split
      · rename_i hc; injection hc with c1 c2; subst c1 c2
        obtain ⟨⟨m, g1, g2⟩, _⟩ := h.lab x y hx
        exact ⟨m ++ [l], by rw [g1]; simp, by rw [g1] at hl; simp at hl ⊢; omega⟩
      · exact (h.lab x y hx).1
    · have hx : st.S x = true := hx
      have hne : ¬ (x, y) = (a, b) := by intro hc; injection hc with c1 c2; rw [c1, hS] at hx; cases hx
      unfold DSt.setW
      simp only [if_neg hne]
      exact h.mrk x y hx hnb
  · exact h
/-- Whose marker has come has one who stopped. -/
def CS (st : DSt) : Prop := ∀ a b, st.C (a, b) = true → st.S b = true
theorem CS.stop (h : CS st) (a : Int) : CS (stopD ps st a) := by
  cases h1 : inB ps.length a with
  | false => rw [stopD_no (.inl h1)]; exact h
  | true =>
    cases h2 : st.S a with
    | true => rw [stopD_no (.inr h2)]; exact h
    | false =>
      obtain ⟨e1, e2, e3, e4⟩ := stopD_yes h1 h2
      intro x y hx
      rw [e3] at hx
      rw [e2, h x y hx]
      simp
theorem stopD_S {a : Int} (h1 : inB ps.length a = true) : (stopD ps st a).S a = true := by
  cases h2 : st.S a with
  | true => rw [stopD_no (.inr h2)]; exact h2
  | false => rw [(stopD_yes h1 h2).2.1 a, if_pos rfl]
theorem stopD_up (a s : Int) (h : st.S s = true) : (stopD ps st a).S s = true := by
  cases h1 : inB ps.length a with
  | false => rw [stopD_no (.inl h1)]; exact h
  | true =>
    cases h2 : st.S a with
    | true => rw [stopD_no (.inr h2)]; exact h
    | false => rw [(stopD_yes h1 h2).2.1 s, h]; simp
theorem stopD_C (a : Int) : (stopD ps st a).C = st.C := by
  unfold stopD
  split
  · rw [stopI_C]; rfl
  · rfl
theorem CS.pick (h : CS st) (hm : MI ps st) (ht : IsTree ps) (a b : Int) : CS (pickD ps st a b) := by
  unfold pickD
  split
  · exact h
  · exact h
  · rename_i r hw
    obtain ⟨_, _, hn, _, _⟩ := hm.mark hw
    intro x y hx
    rw [stopD_C] at hx
    unfold DSt.came at hx
    simp only at hx
    split at hx
    · rename_i hc; injection hc with c1 c2; rw [c2]
      exact stopD_S (nb_in ht hn).2
    · exact stopD_up _ _ (h x y hx)
theorem CS.send (h : CS st) (a b : Int) (l : ByteArray) : CS (sendD ps st a b l) := by
  unfold sendD
  split
  · exact h
  · exact h
theorem CS.zero : CS dst0 := fun a b h => by cases h
/-! ### P25.3 -/
theorem done_iff {a : Int} : doneB ps st a = true ↔ inB ps.length a = true ∧ st.S a = true ∧ ∀ b, nbB ps a b = true → st.C (b, a) = true := by
  unfold doneB
  rw [Bool.and_eq_true, Bool.and_eq_true, List.all_eq_true]
  constructor
  · rintro ⟨⟨h1, h2⟩, h3⟩
    exact ⟨h1, h2, fun b hb => by obtain ⟨y, hy, rfl⟩ := nb_near.1 hb; exact h3 y hy⟩
  · rintro ⟨h1, h2, h3⟩
    exact ⟨⟨h1, h2⟩, fun y hy => h3 y (nb_near.2 ⟨y, hy, rfl⟩)⟩
/-- Nothing is on its way to one that is done. -/
theorem MI.done (h : MI ps st) (ht : IsTree ps) {a b : Int} (hd : doneB ps st b = true) : st.W (a, b) = [] := by
  cases hw : st.W (a, b) with
  | nil => rfl
  | cons t r =>
    have hn := h.near a b (by rw [hw]; simp)
    have hC := (done_iff.1 hd).2.2 a (nb_symm ht hn)
    have hS : st.S a = true := by
      cases hS : st.S a with
      | true => rfl
      | false => rw [(h.lab a b hS).2] at hC; cases hC
    rcases h.mrk a b hS hn with ⟨_, g2⟩ | ⟨g1, _⟩
    · rw [g2] at hw; cases hw
    · rw [g1] at hC; cases hC
theorem sendR_ok {a b : Int} (h : sendR ps st a b = 0) : nbB ps a b = true ∧ st.S a = false ∧ (st.W (a, b)).length < 32 := by
  unfold sendR at h
  split at h
  · omega
  · rename_i h1
    split at h
    · omega
    · rename_i h2
      split at h
      · omega
      · exact ⟨by simpa using h1, by simpa using h2, by omega⟩
/-- Who may send does so to none that is done. -/
theorem MI.sendDone (h : MI ps st) (ht : IsTree ps) {a b : Int} {l : ByteArray} (hr : sendR ps st a b = 0) : doneB ps (sendD ps st a b l) b = false := by
  obtain ⟨hn, hS, _⟩ := sendR_ok hr
  cases hd : doneB ps (sendD ps st a b l) b with
  | false => rfl
  | true =>
    have hC := (done_iff.1 hd).2.2 a (nb_symm ht hn)
    unfold sendD at hC
    rw [if_pos hr] at hC
    have hC : st.C (a, b) = true := hC
    rw [(h.lab a b hS).2] at hC
    cases hC
end
end Go.Proofs.Ytbofgpmbocjbiaa
