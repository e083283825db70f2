/- Rows of numbers in memory: general facts. -/
import Derived.Test.YtahokiopapenbaaKit
import Derived.Laws.MakeOwn
import Derived.Deep.Upon
set_option linter.unusedSimpArgs false
set_option linter.unusedVariables false
namespace Go.Proofs.Ytahokiopapenbaa
open Go.RowKit

/-- A row of numbers. -/
def IntsAt (w : World) (A : Option Addr) (n c : Nat) (xs : List Int) : Prop :=
  xs.length = n ∧ n ≤ c ∧ c ≤ maxLen ∧ (A = none → n = 0 ∧ c = 0) ∧ (0 < n → ∃ b off, A = some ⟨b, off, none⟩ ∧ ∀ i, i < n → w.cell? ⟨b, off + i, none⟩ = some (.int .i64 (xs[i]?.getD (-2))))
theorem IntsAt.keep {w w2 : World} {A : Option Addr} {n c : Nat} {xs : List Int} (h : IntsAt w A n c xs) (hk : Kept w w2) : IntsAt w2 A n c xs := by
  obtain ⟨h1, h2, h3, h4, h5⟩ := h
  refine ⟨h1, h2, h3, h4, fun h0 => ?_⟩
  obtain ⟨b, off, rfl, hc⟩ := h5 h0
  exact ⟨b, off, rfl, fun i hi => hk.at_ (hc i hi)⟩
def BoolIs (Q : Prop) (w : World) (e : Ending) (w' : World) : Prop := ∃ B, e = .returned (.bool B) ∧ (B = true ↔ Q) ∧ Kept w w'
theorem boolNo {Q : Prop} {w w' : World} {e : Ending} (he : e = .returned (.bool false)) (h : ¬ Q) (k : Kept w w') : BoolIs Q w e w' := ⟨false, he, ⟨fun g => Bool.noConfusion g, fun g => absurd g h⟩, k⟩
theorem boolYes {Q : Prop} {w w' : World} {e : Ending} (he : e = .returned (.bool true)) (h : Q) (k : Kept w w') : BoolIs Q w e w' := ⟨true, he, ⟨fun _ => h, fun _ => rfl⟩, k⟩

def lenOf : Value → Nat
  | .slice _ n _ => n
  | _ => 0
theorem own_len {w : World} {base e k n : Nat} {v : Value} {xs : List Value} (h : w.ownsRow base e k v n xs) : lenOf v = n := by
  rcases h.2 with ⟨rfl, h0⟩ | ⟨g, cap, cur, rfl, _⟩
  · exact h0.symm
  · rfl
theorem infoInt : (Try.prog.info? 3).map (fun i => (i.zero, i.size, i.bytes)) = some (some (.int .i64 0), 1, 8) := by kernel_rfl
theorem Kept.own {w w2 : World} {base e k n : Nat} {v : Value} {xs : List Value} (h : w.ownsRow base e k v n xs) (hk : Kept w w2) : w2.ownsRow base e k v n xs := by
  refine h.kept (row := none) ⟨hk.os, hk.tape, hk.output, hk.size, fun k hlt _ => hk.block k hlt⟩ ?_
  rcases hv : v.ownBlock with _ | g
  · exact .inl rfl
  · exact .inr (by simp)
theorem cell_one_new2 (w : World) (a : Addr) (b v : Value) (t : TypeId) : ∀ (j : Nat) (u : Value), [v][j]? = some u → ((w.setCell a b).alloc (.cells #[v] t)).cell? ((⟨w.heap.size, 0, none⟩ : Addr).add j) = some u := by
  have h := cell_one_new (w.setCell a b) v t
  simpa only [World.size_setCell] using h
theorem own_slice {w : World} {base e k n : Nat} {v : Value} {xs : List Value} (h : w.ownsRow base e k v n xs) : ∃ A c, v = .slice A n c := by
  rcases h.2 with ⟨rfl, h0⟩ | ⟨g, cap, cur, rfl, _⟩
  · exact ⟨none, 0, by rw [h0]⟩
  · exact ⟨_, cap, rfl⟩
def intC (l : List Int) : List Value := l.map fun x => .int .i64 x
theorem intC_len (l : List Int) : (intC l).length = l.length := by simp [intC]
theorem intC_one (l : List Int) : ∀ u ∈ intC l, u.oneCell' = true := by
  intro u hu
  simp only [intC, List.mem_map] at hu
  obtain ⟨x, _, rfl⟩ := hu
  rfl
theorem intC_set (l : List Int) (i : Nat) (x : Int) : intC (l.set i x) = (intC l).set i (.int .i64 x) := by simp [intC, List.map_set]
theorem IntsAt.of_ownI {w : World} {base e : Nat} {v : Value} {n : Nat} {xs : List Int} (h : w.ownsRow base e 1 v n (intC xs)) : ∃ A c, v = .slice A n c ∧ IntsAt w A n c xs := by
  have hl : xs.length = n := by have := h.1; rw [intC_len] at this; omega
  rcases h.2 with ⟨rfl, h0⟩ | ⟨g, cap, cur, rfl, hb, hg, h1, h2, h3, h4⟩
  · exact ⟨none, 0, by rw [h0], hl, by omega, by unfold maxLen; omega, fun _ => ⟨h0, rfl⟩, fun h => by omega⟩
  · refine ⟨_, cap, rfl, hl, h1, h2, (fun h => by cases h), fun h0 => ⟨g, 0, rfl, fun i hi => ?_⟩⟩
    rw [Nat.zero_add, h.cellAt i (by omega)]
    simp [intC, List.getElem?_eq_getElem (show i < xs.length by omega)]
theorem own_some {w : World} {base e k n : Nat} {v : Value} {xs : List Value} (h : w.ownsRow base e k v n xs) (h0 : 0 < n) : ∃ g c, v = .slice (some ⟨g, 0, none⟩) n c ∧ base ≤ g ∧ g < w.heap.size := by
  rcases h.2 with ⟨rfl, h1⟩ | ⟨g, cap, cur, rfl, hb, hg, _⟩
  · omega
  · exact ⟨g, cap, rfl, hb, (Array.getElem?_eq_some_iff.1 hg).1⟩
theorem intNews {w : World} {b n c : Nat} {p : List Int} (h : IntsAt w (some ⟨b, 0, none⟩) n c p) : ∀ j u, (intC p)[j]? = some u → w.cell? ((⟨b, 0, none⟩ : Addr).add j) = some u := by
  intro j u hu
  have hj : j < p.length := by have := (List.getElem?_eq_some_iff.1 hu).1; rwa [intC_len] at this
  obtain ⟨b2, off, e, hc⟩ := h.2.2.2.2 (by have := h.1; omega)
  cases e
  have := hc j (by have := h.1; omega)
  rw [show ((⟨b, 0, none⟩ : Addr).add j) = ⟨b, 0 + j, none⟩ from by unfold Addr.add; split <;> simp_all, this]
  rw [← hu]
  simp [intC, List.getElem?_eq_getElem hj]

theorem own_new2 (w : World) (a : Addr) (b : Value) (e : TypeId) (vals : List Value) (n size : Nat) (h : vals.length = n * size) (hn : n ≤ maxLen) :
    ((w.setCell a b).alloc (.cells vals.toArray e)).ownsRow w.heap.size e size (.slice (some ⟨w.heap.size, 0, none⟩) n n) n vals := by
  have := own_new (w.setCell a b) e vals n size h hn
  simpa only [World.size_setCell] using this
end Go.Proofs.Ytahokiopapenbaa
