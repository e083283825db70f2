/- The walk of the link's Open. -/
import Derived.Test.YtbofoafcglmboaaLinkV
set_option linter.unusedSimpArgs false
set_option linter.unusedVariables false
namespace Go.Proofs.Ytbofoafcglmboaa
open Go.RowKit

set_option maxHeartbeats 1000000 in
theorem clone_some (G : Option Nat) (b off cap n : Nat) (xs : List Value) (w : World) (hb : n ≤ 4294967296) (h1 : ∀ u ∈ xs, u.oneCell' = true) (hl : xs.length = n * 2)
    (h : ∀ j u, xs[j]? = some u → w.cell? ⟨b, off + j, none⟩ = some u) :
    Calls Try.prog 27 #[.slice (some ⟨b, off, none⟩) n cap] w fun e w' => ∃ v', e = .returned v' ∧ w'.ownsRow w.heap.size 60 2 v' n xs ∧ Kept w w' := by
  have H := Lib.hid h
  clear h
  obtain ⟨i0, hi, hz0, hz1, hz2⟩ := info_parts infoPk
  have hown : (w.alloc (.cells #[] 60)).ownsRow w.heap.size 60 2 (.slice (some ⟨w.heap.size, 0, none⟩) 0 0) 0 [] := own_new w 60 [] 0 2 rfl (by decide)
  have H2 : Hid (∀ j u, xs[j]? = some u → (w.alloc (.cells #[] 60)).cell? ((⟨b, off, none⟩ : Addr).add j) = some u) := by
    intro j u hu
    have e : ((⟨b, off, none⟩ : Addr).add j) = ⟨b, off + j, none⟩ := by simp [Addr.add]
    rw [e]
    exact ((Kept.refl w).alloc _).at_ (H.out j u hu)
  have hq := fun W => Lib.run_eql_slice_nil (P := Try.prog) W 37 60 (some ⟨b, off, none⟩) n cap 0 0 Try.underlying37
  go_enter Try.func27, Try.ntmps27
  go_wp2_with (at_builtin; refine wpList_append_own _ rfl _ _ 37 rfl w.heap.size 60 i0 (.agg #[.int .i64 0, .string ⟨#[]⟩]) 2 24 Try.underlying37 hi hz0 hz1 hz2 rfl (by decide) _ 0 [] rfl hown ⟨b, off, none⟩ n cap xs rfl hl H2.out h1 (by unfold maxLen; omega) (by omega) (by simp) ?_; intro v3 w3 hown3 hgrow3 _)
  simp only [Nat.zero_add, List.nil_append] at hown3
  go_ret
  exact ⟨v3, rfl, hown3, ((Kept.refl w).alloc _).grown hgrow3 (by intro g hg; have h9 : some w.heap.size = some g := hg; injection h9 with h9; exact Nat.le_of_eq h9)⟩

set_option maxHeartbeats 400000 in
theorem clone_none (w : World) :
    Calls Try.prog 27 #[.slice none 0 0] w fun e w' => e = .returned (.slice none 0 0) ∧ Kept w w' := by
  have hq := fun W => Lib.run_eql_slice_nil (P := Try.prog) W 37 60 none 0 0 0 0 Try.underlying37
  go_enter Try.func27, Try.ntmps27
  go_wp2
  go_ret
  exact ⟨rfl, by repeat (first | exact Kept.refl _ | assumption | (refine Kept.alloc ?_ _) | (refine Kept.setCell ?_ (by first | omega | (simp; omega) | simp) _) | refine Kept.drew ?_ | refine Kept.drewN ?_ _ | (apply Kept.call; rotate_left; assumption))⟩

theorem clone_any (G : Option Nat) (v : Value) (n : Nat) (xs : List Value) (w : World) (hv : OpenAt w G v n xs) (hx : n = 0 → xs = []) (hb : n ≤ 4294967296) (h1 : ∀ u ∈ xs, u.oneCell' = true) :
    Calls Try.prog 27 #[v] w fun e w' => ∃ v', e = .returned v' ∧ w'.ownsRow w.heap.size 60 2 v' n xs ∧ Kept w w' := by
  rcases hv with ⟨rfl, rfl⟩ | ⟨b, off, cap, rfl, _, _, _, p3, _, p5⟩
  · obtain rfl := hx rfl
    exact (clone_none w).mono fun e w' ⟨he, hk⟩ => ⟨_, he, World.ownsRow_nil _ _ _ _, hk⟩
  · exact clone_some G b off cap n xs w hb h1 p3 p5

set_option maxHeartbeats 400000 in
theorem open_nil (w : World) :
    Calls Try.prog 23 #[.pointer none] w fun e w' => e = .returned (.slice none 0 0) ∧ Kept w w' := by
  go_enter Try.func23, Try.ntmps23
  go_wp2
  go_ret
  exact ⟨rfl, by repeat (first | exact Kept.refl _ | assumption | (refine Kept.alloc ?_ _) | (refine Kept.setCell ?_ (by first | omega | (simp; omega) | simp) _) | refine Kept.drew ?_ | refine Kept.drewN ?_ _ | (apply Kept.call; rotate_left; assumption))⟩

set_option maxHeartbeats 400000 in
theorem open_any (s : Nat) (G : Option Nat) (lo : Nat) (ds : List ByteArray) (w : World) (h : Snd w s G lo ds) (hb : ds.length ≤ 4294967296) :
    Calls Try.prog 23 #[.pointer (some ⟨s, 0, none⟩)] w fun e w' => ∃ v', e = .returned v' ∧ w'.ownsRow w.heap.size 60 2 v' ds.length (pk lo ds) ∧ Kept w w' := by
  obtain ⟨v, h2, h3, _⟩ := h
  have hc := cellOf h2 1
  have HO := Lib.hid h3
  have HX : Hid (ds.length = 0 → pk lo ds = []) := fun h0 => by obtain rfl : ds = [] := List.eq_nil_of_length_eq_zero h0; rfl
  clear h2 h3
  simp only [List.getElem?_toArray, List.getElem?_cons_zero, List.getElem?_cons_succ] at hc
  go_enter Try.func23, Try.ntmps23
  go_wp2_with (go_at_call 27; refine (clone_any G v ds.length (pk lo ds) _ HO.out HX.out hb (pk_one lo ds)).mono ?_; rintro e w2 ⟨v2, rfl, hown2, hk2⟩)
  go_ret
  exact ⟨v2, rfl, hown2, hk2⟩
end Go.Proofs.Ytbofoafcglmboaa
