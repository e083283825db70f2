/- A drain with all that holds of it; the laws' awake and made. -/
import Derived.Test.YtbofgpmbocjbiaaMrkJ
import Derived.Test.YtbofgpmbocjbiaaTreeI
import Derived.Outline
set_option linter.unusedSimpArgs false
set_option linter.unusedVariables false
namespace Go.Proofs.Ytbofgpmbocjbiaa
open Go.RowKit Go.Maps

/-- The sum of a number for each site. -/
def sumTo (f : Nat → Nat) : Nat → Nat
  | 0 => 0
  | n + 1 => sumTo f n + f n
theorem sumTo_cong {f g : Nat → Nat} : ∀ n, (∀ i, i < n → f i = g i) → sumTo f n = sumTo g n
  | 0, _ => rfl
  | n + 1, h => by simp only [sumTo]; rw [sumTo_cong n (fun i hi => h i (by omega)), h n (by omega)]
theorem sumTo_one {f g : Nat → Nat} {a d : Nat} (h : ∀ i, i ≠ a → g i = f i) (ha : g a = f a + d) : ∀ n, sumTo g n = sumTo f n + (if a < n then d else 0)
  | 0 => by simp [sumTo]
  | n + 1 => by
    simp only [sumTo]
    rw [sumTo_one h ha n]
    by_cases e : a = n
    · subst e; rw [ha]; simp; omega
    · rw [h n (Ne.symm e)]
      by_cases e2 : a < n
      · rw [if_pos e2, if_pos (by omega)]; omega
      · rw [if_neg e2, if_neg (by omega)]; omega
theorem sumTo_le {f : Nat → Nat} {c : Nat} (h : ∀ i, f i ≤ c) : ∀ n, sumTo f n ≤ n * c
  | 0 => by simp [sumTo]
  | n + 1 => by have := sumTo_le h n; have := h n; simp only [sumTo]; rw [Nat.add_mul]; omega
noncomputable def degOf (ps : List Int) (S : Int → Bool) (i : Nat) : Nat := if S (i : Int) = true then (nearOf ps i).length else 0
/-- As many markers were sent as those who stopped have neighbours. -/
def KS (ps : List Int) (st : DSt) : Prop := st.k = sumTo (degOf ps st.S) ps.length
theorem KS.zero (ps : List Int) : KS ps dst0 := by
  have : sumTo (degOf ps dst0.S) ps.length = sumTo (fun _ => 0) ps.length := sumTo_cong _ fun i _ => by simp [degOf, dst0]
  unfold KS
  rw [this]
  have : ∀ n, sumTo (fun _ => 0) n = 0 := fun n => by have := sumTo_le (f := fun _ => 0) (c := 0) (fun _ => Nat.le_refl _) n; omega
  rw [this]; rfl
section
variable {ps : List Int} {st : DSt}
theorem KS.stop (h : KS ps st) (a : Int) : KS ps (stopD ps st a) := by
  cases h1 : inB ps.length a with
  | false => rw [stopD_no (.inl h1)]; exact h
  | true =>
    cases h2 : st.S a with
    | true => rw [stopD_no (.inr h2)]; exact h
    | false =>
      obtain ⟨_, e2, _, e4⟩ := stopD_yes h1 h2
      obtain ⟨h3, h4⟩ := (inB_iff _ _).1 h1
      obtain ⟨x, rfl⟩ := Int.eq_ofNat_of_zero_le h3
      unfold KS at h ⊢
      rw [e4, h]
      have g1 : ∀ i, i ≠ x → degOf ps (stopD ps st (x : Int)).S i = degOf ps st.S i := fun i hi => by
        have hne : ¬ ((i : Int) = (x : Int)) := by omega
        unfold degOf
        rw [e2, if_neg hne]
      have g2 : degOf ps (stopD ps st (x : Int)).S x = degOf ps st.S x + (nearOf ps (x : Int)).length := by
        unfold degOf
        rw [e2, if_pos rfl, h2]
        simp
      rw [sumTo_one g1 g2 ps.length, if_pos (by omega)]
theorem KS.pick (h : KS ps st) (a b : Int) : KS ps (pickD ps st a b) := by
  unfold pickD
  split
  · exact h
  · exact h
  · exact KS.stop (st := (st.setW (a, b) _).came (a, b)) h b
theorem KS.send (h : KS ps st) (a b : Int) (l : ByteArray) : KS ps (sendD ps st a b l) := by
  unfold sendD
  split
  · exact h
  · exact h
theorem KS.le (h : KS ps st) (ht : IsTree ps) : st.k ≤ 36 := by
  have h6 := ((tree_iff ps).1 ht).2.1
  unfold KS at h
  rw [h]
  have := sumTo_le (f := degOf ps st.S) (c := 6) (fun i => by
    unfold degOf
    split
    · exact near_len ht _
    · omega) ps.length
  omega
end
/-- All that holds of a drain. -/
structure MK (w0 : World) (X : List Nat) (w : World) (D : Nat) (ps : List Int) (st : DSt) : Prop where
  dr : DrIn w0 X w D ps st
  mi : MI ps st
  cs : CS st
  ks : KS ps st
  kept : Kept w0 w
section
variable {w0 w : World} {X : List Nat} {D : Nat} {ps : List Int} {st : DSt}
theorem MK.tree (h : MK w0 X w D ps st) : IsTree ps := h.dr.bd.1
theorem MK.keep {w2 : World} (h : MK w0 X w D ps st) (k : Kept w w2) : MK w0 X w2 D ps st := ⟨h.dr.keep k, h.mi, h.cs, h.ks, h.kept.call k⟩
theorem MK.l9 (h : MK w0 X w D ps st) (p : Int × Int) : (st.W p).length ≤ 900 := by have := h.mi.len p; omega
theorem MK.l10 (h : MK w0 X w D ps st) (p : Int × Int) : (st.W p).length ≤ 1000 := by have := h.mi.len p; omega
theorem MK.k6 (h : MK w0 X w D ps st) : st.k ≤ 1000000 := by have := h.ks.le h.tree; omega
theorem sendM (h : MK w0 X w D ps st) {a b : Int} (ha : gd a) (hb : gd b) (l : ByteArray) :
    Calls Try.prog 15 #[.pointer (some ⟨D, 0, none⟩), .int .i64 a, .int .i64 b, .string l] w fun e w' => e = .returned (.int .i64 (sendR ps st a b)) ∧ MK w0 X w' D ps (sendD ps st a b l) ∧ FR w0 X w w' :=
  (dsend_any w0 X D ps st a b l w h.dr h.kept ha hb (h.l10 _)).mono fun e w' ⟨he, ht⟩ => ⟨he, ⟨ht.1, h.mi.send a b l, h.cs.send a b l, h.ks.send a b l, ht.2.2.2 h.kept⟩, ht.fr⟩
theorem stopM (h : MK w0 X w D ps st) {a : Int} (ha : gd a) :
    Calls Try.prog 11 #[.pointer (some ⟨D, 0, none⟩), .int .i64 a] w fun e w' => e = .returned (.int .i64 (stopR ps st a)) ∧ MK w0 X w' D ps (stopD ps st a) ∧ FR w0 X w w' :=
  (stop_any w0 X D ps st a w h.dr h.kept ha h.l9 h.k6).mono fun e w' ⟨he, ht⟩ => ⟨he, ⟨ht.1, h.mi.stop a, h.cs.stop a, h.ks.stop a, ht.2.2.2 h.kept⟩, ht.fr⟩
theorem pickM (h : MK w0 X w D ps st) {a b : Int} (ha : gd a) (hb : gd b) :
    Calls Try.prog 13 #[.pointer (some ⟨D, 0, none⟩), .int .i64 a, .int .i64 b] w fun e w' => e = .returned (pickV st a b) ∧ MK w0 X w' D ps (pickD ps st a b) ∧ FR w0 X w w' :=
  (dpick_any w0 X D ps st a b w h.dr h.kept ha hb h.l9 h.k6).mono fun e w' ⟨he, ht⟩ => ⟨he, ⟨ht.1, h.mi.pick a b, h.cs.pick h.mi h.tree a b, h.ks.pick a b, ht.2.2.2 h.kept⟩, ht.fr⟩
end
theorem newM (A : Option Addr) (n c : Nat) (p : List Int) (w w1 : World) (hx : IntsAt w1 A n c p) (ht : IsTree p) (hk : Kept w w1) :
    Calls Try.prog 10 #[.slice A n c] w1 fun e w' => ∃ D, e = .returned (.pointer (some ⟨D, 0, none⟩)) ∧ MK w [] w' D p dst0 ∧ w1.heap.size ≤ D ∧ Kept w1 w' :=
  (new_any A n c p w1 hx ht).mono fun e w' ⟨D, he, hd, k⟩ => ⟨D, he, ⟨by
    obtain ⟨PB, n, c, M1, M2, M3, fW, G, fS, fC, h⟩ := hd
    have hz := hk.size
    exact ⟨_, _, _, _, _, _, _, _, _, _, { h with own := fun x hx => ⟨Nat.le_trans hz (h.own x hx).1, (h.own x hx).2⟩, gown := fun p x hx => ⟨Nat.le_trans hz (h.gown p x hx).1, (h.gown p x hx).2⟩ }⟩, .zero p, .zero, .zero p, hk.call k⟩, by
    obtain ⟨PB, n, c, M1, M2, M3, fW, G, fS, fC, h⟩ := hd
    exact (h.own D (by simp)).1, k⟩
/-! ### Two sites -/
def p2 : List Int := [-1, 0]
theorem t2 : IsTree p2 := tree_of (by decide) (by decide) (by decide) (by decide) (by decide)
theorem near20 : nearOf p2 0 = [1] := by unfold nearOf; rw [if_pos ⟨t2, by decide, by decide⟩]; decide
theorem near21 : nearOf p2 1 = [0] := by unfold nearOf; rw [if_pos ⟨t2, by decide, by decide⟩]; decide
theorem nb01 : nbB p2 0 1 = true := by unfold nbB; rw [near20]; decide
theorem nb10 : nbB p2 1 0 = true := by unfold nbB; rw [near21]; decide
theorem ints_2 (w : World) (a b : Int) (k : Nat) (h0 : w.cell? ⟨k, 0, none⟩ = some (.int .i64 a)) (h1 : w.cell? ⟨k, 1, none⟩ = some (.int .i64 b)) : IntsAt w (some ⟨k, 0, none⟩) 2 2 [a, b] :=
  ⟨rfl, Nat.le_refl _, by unfold maxLen; omega, (fun h => by cases h), fun _ => ⟨_, 0, rfl, fun i hi => by
    rcases i with _ | _ | i
    · exact h0
    · exact h1
    · omega⟩⟩
def lA : ByteArray := ⟨#[97]⟩
def a1 : DSt := dst0.setW (0, 1) [some lA]
def a2 : DSt := stopI (a1.stop 0) 0 [1]
def a3 : DSt := a2.setW (0, 1) [none]
def a4 : DSt := stopI (((a3.setW (0, 1) []).came (0, 1)).stop 1) 1 [0]
theorem aw1 : sendR p2 dst0 0 1 = 0 ∧ sendD p2 dst0 0 1 lA = a1 := by
  have h : sendR p2 dst0 0 1 = 0 := by unfold sendR; rw [nb01]; rfl
  refine ⟨h, ?_⟩
  unfold sendD
  rw [if_pos h]
  rfl
theorem aw2 : stopR p2 a1 0 = 0 ∧ stopD p2 a1 0 = a2 := by
  have h : stopR p2 a1 0 = 0 := rfl
  refine ⟨h, ?_⟩
  unfold stopD
  rw [if_pos h, near20]
  rfl
theorem aw3 : pickV a2 0 1 = .tuple #[.string lA, .bool false, .bool true] ∧ pickD p2 a2 0 1 = a3 := ⟨rfl, rfl⟩
theorem aw4 : pickV a3 0 1 = .tuple #[.string ⟨#[]⟩, .bool true, .bool true] ∧ pickD p2 a3 0 1 = a4 := by
  refine ⟨rfl, ?_⟩
  show stopD p2 ((a3.setW (0, 1) []).came (0, 1)) 1 = a4
  have h : stopR p2 ((a3.setW (0, 1) []).came (0, 1)) 1 = 0 := rfl
  unfold stopD
  rw [if_pos h, near21]
  rfl
theorem aw5 : (inB p2.length 1 && a4.S 1) = true := rfl
theorem aw6 : doneB p2 a4 1 = true := by unfold doneB; rw [near21]; rfl
theorem aw7 : doneB p2 a4 0 = false := by unfold doneB; rw [near20]; rfl
set_option maxRecDepth 20000 in
set_option maxHeartbeats 1000000 in
theorem awake_any (w : World) : Calls Try.prog 8 #[] w fun e w' => e = .returned (.bool true) ∧ Kept w w' := by
  go_enter Try.func8, Try.ntmps8
  go_wp2_with fail
  have hp := Lib.hid (ints_2 (w.alloc (.cells #[.int .i64 (-1), .int .i64 0] 3)) (-1) 0 w.heap.size (by go_simp) (by go_simp))
  refine (newM _ 2 2 p2 w _ hp.out t2 ((Kept.refl w).alloc _)).mono ?_
  rintro e w1 ⟨D, rfl, h1, _, _⟩
  have H1 := Lib.hid h1
  clear h1 hp
  go_wp2_with (go_at_call 15; refine (sendM H1.out (a := 0) (b := 1) (by unfold gd; omega) (by unfold gd; omega) lA).mono ?_; rintro e w2 ⟨rfl, h2, _⟩; rw [aw1.2] at h2; rw [aw1.1]; have H2 := Lib.hid h2; clear h2)
  go_wp2_with (go_at_call 11; refine (stopM H2.out (a := 0) (by unfold gd; omega)).mono ?_; rintro e w3 ⟨rfl, h3, _⟩; rw [aw2.2] at h3; rw [aw2.1]; have H3 := Lib.hid h3; clear h3)
  go_wp2_with (go_at_call 13; refine (pickM H3.out (a := 0) (b := 1) (by unfold gd; omega) (by unfold gd; omega)).mono ?_; rintro e w4 ⟨rfl, h4, _⟩; rw [aw3.2] at h4; rw [aw3.1]; unfold lA; have H4 := Lib.hid h4; clear h4 H3)
  refine (pickM H4.out (a := 0) (b := 1) (by unfold gd; omega) (by unfold gd; omega)).mono ?_
  rintro e w5 ⟨rfl, h5, _⟩
  rw [aw4.2] at h5
  rw [aw4.1]
  have H5 := Lib.hid h5
  clear h5 H4
  go_wp2_with (first | (go_at_call 14; refine (stopped_any w [] D p2 a4 1 _ H5.out.dr (by unfold gd; omega)).mono ?_; rintro e w6 ⟨rfl, k6⟩; rw [aw5]; have H6 := Lib.hid (H5.out.keep k6)) | (go_at_call 12; refine (done_any w [] D p2 a4 1 _ H6.out.dr (by unfold gd; omega)).mono ?_; rintro e w7 ⟨rfl, k7⟩; rw [aw6]; have H7 := Lib.hid (H6.out.keep k7); clear H6) | (go_at_call 12; refine (done_any w [] D p2 a4 0 _ H7.out.dr (by unfold gd; omega)).mono ?_; rintro e w8 ⟨rfl, k8⟩; rw [aw7]; have H8 := Lib.hid (H7.out.keep k8); clear H7))
  go_ret
  exact ⟨rfl, H8.out.kept⟩
end Go.Proofs.Ytbofgpmbocjbiaa
