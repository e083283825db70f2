/- The walk of the law MarkNil: it returns true for every input. -/
import Derived.Test.YtbofgpmbocjbiaaMrkK
import Derived.Test.YtbofgpmbocjbiaaTreeR
import Derived.Test.YtbofgpmbocjbiaaRow
import Derived.Test.YtbofgpmbocjbiaaFld
set_option linter.unusedSimpArgs false
set_option linter.unusedVariables false
namespace Go.Proofs.Ytbofgpmbocjbiaa
open Go.RowKit Go.Maps

theorem IntsAt.take8 {w : World} {A : Option Addr} {n c : Nat} {p : List Int} (h : IntsAt w A n c p) (h8 : 8 < n) : IntsAt w A 8 c (p.take 8) := by
  obtain ⟨h1, h2, h3, h4, h5⟩ := h
  refine ⟨by simp; omega, by omega, h3, fun h => by have := (h4 h).1; omega, fun _ => ?_⟩
  obtain ⟨b, off, rfl, hc⟩ := h5 (by omega)
  refine ⟨b, off, rfl, fun i hi => ?_⟩
  rw [hc i (by omega), List.getElem?_take_of_lt hi]
theorem new_is (A : Option Addr) (n c : Nat) (p : List Int) (w : World) (hx : IntsAt w A n c p) :
    Calls Try.prog 10 #[.slice A n c] w fun e w' => ∃ v : Option Addr, e = .returned (.pointer v) ∧ (IsTree p ∧ (∃ ad, v = some ad) ∨ ¬ IsTree p ∧ v = none) ∧ Kept w w' := by
  by_cases ht : IsTree p
  · exact (new_any A n c p w hx ht).mono fun e w' ⟨D, he, _, k⟩ => ⟨_, he, .inl ⟨ht, _, rfl⟩, k⟩
  · exact (new_bad A n c p w hx ht).mono fun e w' ⟨he, k⟩ => ⟨_, he, .inr ⟨ht, rfl⟩, k⟩
set_option maxRecDepth 20000 in
set_option maxHeartbeats 4000000 in
theorem markNil_walk (A : Option Addr) (n c : Nat) (x : Nat → Int) (a b : Int) (w : World) (r : RowAt w A n c 1 (fun i => [.int .i64 (x i)])) (_r2 : ∀ i, i < n → (Lit.int .i64 (x i)).wf = true) (_wa : (Lit.int .i64 a).wf = true) (_wb : (Lit.int .i64 b).wf = true) :
    Calls Try.prog 7 #[.slice A n c, .int .i64 a, .int .i64 b] w fun e w' => e = .returned (.bool true) ∧ Kept w w' := by
  have hx := IntsAt.of_row r
  generalize (List.range n).map x = p at hx
  have hnc := hx.2.1
  have hcm := hx.2.2.1
  unfold maxLen at hcm
  clear r _r2 _wa _wb
  rcases Nat.lt_or_ge 8 n with h8 | h8
  · have hx8 := hx.take8 h8
    obtain ⟨bb, off, rfl, _⟩ := hx.2.2.2.2 (by omega)
    have HP := Lib.hid hx8
    have d : decide ((8 : Int) < n) = true := by simp; omega
    generalize p.take 8 = P0 at HP
    clear hx hx8
    go_enter Try.func7, Try.ntmps7
    go_wp2_with (first | (go_at_call 10; refine (new_is _ _ c P0 _ (HP.out.keep (by repeat (first | exact Kept.refl _ | assumption | (refine Kept.alloc ?_ _) | (refine Kept.setCell ?_ (by first | omega | (simp; omega) | simp) _) | refine Kept.drew ?_ | refine Kept.drewN ?_ _ | (apply Kept.call; rotate_left; assumption))))).mono ?_; rintro e w1 ⟨v, rfl, hv, k1⟩; have HV := Lib.hid hv; clear hv) | (go_at_call 13; refine (pick_nil a b _).mono ?_; rintro e w2 ⟨rfl, k2⟩) | (go_at_call 8; refine (awake_any _).mono ?_; rintro e w3 ⟨rfl, k3⟩))
    have K3 : Kept w w3 := ((Kept.call (by repeat (first | exact Kept.refl _ | assumption | (refine Kept.alloc ?_ _) | (refine Kept.setCell ?_ (by first | omega | (simp; omega) | simp) _) | refine Kept.drew ?_ | refine Kept.drewN ?_ _ | (apply Kept.call; rotate_left; assumption))) k1).call k2).call k3
    have KK3 := Lib.hid K3
    clear K3 k1 k2 k3
    rcases HV.out with ⟨ht, ad, rfl⟩ | ⟨ht, rfl⟩
    · have HT := Lib.hid ht
      clear ht HV
      go_wp2_with (first | (go_at_call 26; refine (rtree_check _ _ c P0 _ (HP.out.keep KK3.out)).mono ?_; rintro e w4 ⟨B, rfl, hB, k4⟩; obtain rfl : B = true := hB.2 HT.out; clear hB) | (go_at_call 11; refine (stop_nil a _).mono ?_; rintro e w5 ⟨rfl, hb5⟩) | (go_at_call 15; refine (dsend_nil a b _ _).mono ?_; rintro e w6 ⟨rfl, hb6⟩) | (go_at_call 14; refine (stopped_nil a _).mono ?_; rintro e w7 ⟨rfl, hb7⟩) | (go_at_call 12; refine (done_nil a _).mono ?_; rintro e w8 ⟨rfl, hb8⟩) | (go_at_call 23; refine (all_nil _).mono ?_; rintro e w9 ⟨rfl, hb9⟩) | (go_at_call 17; refine (flying_nil a b _).mono ?_; rintro e w10 ⟨rfl, hb10⟩) | (go_at_call 22; refine (markers_nil _).mono ?_; rintro e w11 ⟨rfl, hb11⟩))
      go_ret
      exact ⟨rfl, (((((((KK3.out.call k4).call hb5).call hb6).call hb7).call hb8).call hb9).call hb10).call hb11⟩
    · have HT := Lib.hid ht
      clear ht HV
      go_wp2_with (first | (go_at_call 26; refine (rtree_check _ _ c P0 _ (HP.out.keep KK3.out)).mono ?_; rintro e w4 ⟨B, rfl, hB, k4⟩; obtain rfl : B = false := (by cases B; rfl; exact absurd (hB.1 rfl) HT.out); clear hB) | (go_at_call 11; refine (stop_nil a _).mono ?_; rintro e w5 ⟨rfl, hb5⟩) | (go_at_call 15; refine (dsend_nil a b _ _).mono ?_; rintro e w6 ⟨rfl, hb6⟩) | (go_at_call 14; refine (stopped_nil a _).mono ?_; rintro e w7 ⟨rfl, hb7⟩) | (go_at_call 12; refine (done_nil a _).mono ?_; rintro e w8 ⟨rfl, hb8⟩) | (go_at_call 23; refine (all_nil _).mono ?_; rintro e w9 ⟨rfl, hb9⟩) | (go_at_call 17; refine (flying_nil a b _).mono ?_; rintro e w10 ⟨rfl, hb10⟩) | (go_at_call 22; refine (markers_nil _).mono ?_; rintro e w11 ⟨rfl, hb11⟩))
      go_ret
      exact ⟨rfl, (((((((KK3.out.call k4).call hb5).call hb6).call hb7).call hb8).call hb9).call hb10).call hb11⟩
  · have HP := Lib.hid hx
    have d : decide ((8 : Int) < n) = false := by simp; omega
    generalize p = P0 at HP
    clear hx
    go_enter Try.func7, Try.ntmps7
    go_wp2_with (first | (go_at_call 10; refine (new_is _ _ c P0 _ (HP.out.keep (by repeat (first | exact Kept.refl _ | assumption | (refine Kept.alloc ?_ _) | (refine Kept.setCell ?_ (by first | omega | (simp; omega) | simp) _) | refine Kept.drew ?_ | refine Kept.drewN ?_ _ | (apply Kept.call; rotate_left; assumption))))).mono ?_; rintro e w1 ⟨v, rfl, hv, k1⟩; have HV := Lib.hid hv; clear hv) | (go_at_call 13; refine (pick_nil a b _).mono ?_; rintro e w2 ⟨rfl, k2⟩) | (go_at_call 8; refine (awake_any _).mono ?_; rintro e w3 ⟨rfl, k3⟩))
    have K3 : Kept w w3 := ((Kept.call (by repeat (first | exact Kept.refl _ | assumption | (refine Kept.alloc ?_ _) | (refine Kept.setCell ?_ (by first | omega | (simp; omega) | simp) _) | refine Kept.drew ?_ | refine Kept.drewN ?_ _ | (apply Kept.call; rotate_left; assumption))) k1).call k2).call k3
    have KK3 := Lib.hid K3
    clear K3 k1 k2 k3
    rcases HV.out with ⟨ht, ad, rfl⟩ | ⟨ht, rfl⟩
    · have HT := Lib.hid ht
      clear ht HV
      go_wp2_with (first | (go_at_call 26; refine (rtree_check _ _ c P0 _ (HP.out.keep KK3.out)).mono ?_; rintro e w4 ⟨B, rfl, hB, k4⟩; obtain rfl : B = true := hB.2 HT.out; clear hB) | (go_at_call 11; refine (stop_nil a _).mono ?_; rintro e w5 ⟨rfl, hb5⟩) | (go_at_call 15; refine (dsend_nil a b _ _).mono ?_; rintro e w6 ⟨rfl, hb6⟩) | (go_at_call 14; refine (stopped_nil a _).mono ?_; rintro e w7 ⟨rfl, hb7⟩) | (go_at_call 12; refine (done_nil a _).mono ?_; rintro e w8 ⟨rfl, hb8⟩) | (go_at_call 23; refine (all_nil _).mono ?_; rintro e w9 ⟨rfl, hb9⟩) | (go_at_call 17; refine (flying_nil a b _).mono ?_; rintro e w10 ⟨rfl, hb10⟩) | (go_at_call 22; refine (markers_nil _).mono ?_; rintro e w11 ⟨rfl, hb11⟩))
      go_ret
      exact ⟨rfl, (((((((KK3.out.call k4).call hb5).call hb6).call hb7).call hb8).call hb9).call hb10).call hb11⟩
    · have HT := Lib.hid ht
      clear ht HV
      go_wp2_with (first | (go_at_call 26; refine (rtree_check _ _ c P0 _ (HP.out.keep KK3.out)).mono ?_; rintro e w4 ⟨B, rfl, hB, k4⟩; obtain rfl : B = false := (by cases B; rfl; exact absurd (hB.1 rfl) HT.out); clear hB) | (go_at_call 11; refine (stop_nil a _).mono ?_; rintro e w5 ⟨rfl, hb5⟩) | (go_at_call 15; refine (dsend_nil a b _ _).mono ?_; rintro e w6 ⟨rfl, hb6⟩) | (go_at_call 14; refine (stopped_nil a _).mono ?_; rintro e w7 ⟨rfl, hb7⟩) | (go_at_call 12; refine (done_nil a _).mono ?_; rintro e w8 ⟨rfl, hb8⟩) | (go_at_call 23; refine (all_nil _).mono ?_; rintro e w9 ⟨rfl, hb9⟩) | (go_at_call 17; refine (flying_nil a b _).mono ?_; rintro e w10 ⟨rfl, hb10⟩) | (go_at_call 22; refine (markers_nil _).mono ?_; rintro e w11 ⟨rfl, hb11⟩))
      go_ret
      exact ⟨rfl, (((((((KK3.out.call k4).call hb5).call hb6).call hb7).call hb8).call hb9).call hb10).call hb11⟩
end Go.Proofs.Ytbofgpmbocjbiaa
