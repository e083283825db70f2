/- Rows of ranges in the making. -/
import Derived.Test.YtjmfdacokdffiaaTabR
import Derived.Laws.BytesArg
set_option linter.unusedSimpArgs false
set_option linter.unusedVariables false
namespace Go.Proofs.Ytjmfdacokdffiaa
open Go.RowKit

/-- The ranges that have an end. -/
def pre (es : List Nat) : List Rg := (List.range es.length).map fun i => (fr es i, to es i)
theorem pre_len (es : List Nat) : (pre es).length = es.length := by simp [pre]
theorem g_app (es : List Nat) (e : Nat) {i : Nat} (hi : i < es.length) : g (es ++ [e]) i = g es i := by unfold g; rw [List.getElem?_append_left hi]
theorem g_last (es : List Nat) (e : Nat) : g (es ++ [e]) es.length = e := by simp [g]
theorem fr_app (es : List Nat) (e : Nat) {i : Nat} (hi : i ≤ es.length) : fr (es ++ [e]) i = fr es i := by
  unfold fr
  split
  · rfl
  · rw [g_app es e (by omega)]
theorem pre_snoc (es : List Nat) (e : Nat) : pre (es ++ [e]) = pre es ++ [(fr es es.length, ch e)] := by
  unfold pre
  rw [List.length_append, List.length_singleton, List.range_succ, List.map_append]
  congr 1
  · refine List.map_congr_left fun i hi => ?_
    have hi := List.mem_range.1 hi
    unfold to
    rw [fr_app es e (by omega), List.length_append, if_pos hi, if_pos (by simp; omega), g_app es e hi]
  · unfold to
    simp [fr_app, g_last]
theorem rgs_pre (es : List Nat) : rgs es = pre es ++ [(fr es es.length, nil)] := by
  unfold rgs pre
  rw [List.range_succ, List.map_append]
  simp [to_last]
theorem fr_end (es : List Nat) (e : Nat) : fr (es ++ [e]) (es ++ [e]).length = ch e := by
  unfold fr
  rw [if_neg (by simp), List.length_append, List.length_singleton, Nat.add_sub_cancel, g_last]
theorem Up.snoc {es : List Nat} (h : Up es) {e : Nat} (h6 : es.length < 6) (h1 : 97 ≤ e) (h2 : e ≤ 122) (hl : hv (fr es es.length) < e) : Up (es ++ [e]) := by
  refine ⟨by simp; omega, fun i hi => ?_, fun i j hij hj => ?_⟩
  · rcases Nat.lt_or_ge i es.length with g1 | g1
    · rw [g_app es e g1]; exact h.rng i g1
    · obtain rfl : i = es.length := by simp at hi; omega
      rw [g_last]; omega
  · rcases Nat.lt_or_ge j es.length with g1 | g1
    · rw [g_app es e g1, g_app es e (by omega)]; exact h.up i j hij g1
    · obtain rfl : j = es.length := by simp at hj; omega
      rw [g_last, g_app es e hij]
      have hr := h.rng (es.length - 1) (by omega)
      unfold fr at hl
      rw [if_neg (by omega), hv_ch (by omega)] at hl
      rcases Nat.lt_or_ge i (es.length - 1) with g2 | g2
      · have := h.up i (es.length - 1) g2 (by omega)
        omega
      · rw [show i = es.length - 1 by omega]; omega
theorem cmp_lo {es : List Nat} (hu : Up es) {c : Nat} (hc : c < 128) (h : hv (fr es es.length) < c) : Op.bytesLess (ch c).toList (fr es es.length).toList = false ∧ ((ch c).toList == (fr es es.length).toList) = false := by
  unfold fr at h ⊢
  split
  · rw [less_nil, ch_toList, nil_toList]; exact ⟨rfl, rfl⟩
  · rename_i h0
    rw [if_neg h0] at h
    have hr := hu.rng (es.length - 1) (by omega)
    rw [hv_ch (by omega)] at h
    rw [less_ch _ (by omega), hv_ch (by omega), ch_toList, ch_toList]
    refine ⟨by simp; omega, ?_⟩
    rw [Bool.eq_false_iff]
    intro e
    have e2 : UInt8.ofNat c = UInt8.ofNat (g es (es.length - 1)) := by simpa using e
    have := congrArg UInt8.toNat e2
    simp at this
    omega
theorem cmp_hi {es : List Nat} (hu : Up es) {c : Nat} (h1 : 97 ≤ c) (hc : c < 128) (h : (c : Int) ≤ hv (fr es es.length)) : Op.bytesLess (ch c).toList (fr es es.length).toList = true ∨ (Op.bytesLess (ch c).toList (fr es es.length).toList = false ∧ ((ch c).toList == (fr es es.length).toList) = true) := by
  unfold fr at h ⊢
  split
  · rename_i h0
    rw [if_pos h0, hv_nil] at h
    omega
  · rename_i h0
    rw [if_neg h0] at h
    have hr := hu.rng (es.length - 1) (by omega)
    rw [hv_ch (by omega)] at h
    rw [less_ch _ (by omega), hv_ch (by omega), ch_toList, ch_toList]
    by_cases e : c = g es (es.length - 1)
    · right
      rw [← e]
      simp
    · left
      simp
      omega
theorem up_nil : Up [] := ⟨by simp, fun i hi => by simp at hi, fun i j _ hj => by simp at hj⟩
/-- A row in the making: its three fields. -/
structure QSt (W : World) (Q : Nat) (w : World) (x y z : Value) : Prop where
  but : But [Q] W w
  c0 : w.cell? ⟨Q, 0, none⟩ = some x
  c1 : w.cell? ⟨Q, 1, none⟩ = some y
  c2 : w.cell? ⟨Q, 2, none⟩ = some z
  frz : ∀ i, w.frozen? ⟨Q, i, none⟩ = false
theorem QSt.keep {W w w2 : World} {Q : Nat} {x y z : Value} (h : QSt W Q w x y z) (hk : Kept w w2) : QSt W Q w2 x y z :=
  ⟨h.but.trans (But.of_kept hk), hk.at_ h.c0, hk.at_ h.c1, hk.at_ h.c2, fun i => by rw [hk.frozen Q i (World.block_lt_of_cell? w _ h.c0)]; exact h.frz i⟩
theorem QSt.grown {W w w3 : World} {Q : Nat} {x y z : Value} {row : Option Nat} (h : QSt W Q w x y z) (hQ : Q < W.heap.size) (hg : w.grownBy w3 row) (hr : ∀ g, row = some g → W.heap.size ≤ g) : QSt W Q w3 x y z := by
  have hne : some Q ≠ row := fun e => by have := hr Q e.symm; omega
  have hb : w3.heap[Q]? = w.heap[Q]? := hg.block Q (World.block_lt_of_cell? w _ h.c0) hne
  exact ⟨h.but.grown hg (fun g e => .inr (hr g e)), hg.cell h.c0 hne, hg.cell h.c1 hne, hg.cell h.c2 hne, fun i => by rw [World.frozen?_of_block (w := w) hb]; exact h.frz i⟩
theorem QSt.set0 {W w : World} {Q : Nat} {x y z : Value} (h : QSt W Q w x y z) (v : Value) : QSt W Q (w.setCell ⟨Q, 0, none⟩ v) v y z :=
  ⟨h.but.setCell (.inl (by simp)) v, World.cell?_setCell_same _ _ _ h.c0, (World.cell?_setCell_other _ _ _ _ (by simp)).trans h.c1, (World.cell?_setCell_other _ _ _ _ (by simp)).trans h.c2, fun i => by rw [World.frozen?_setCell]; exact h.frz i⟩
theorem QSt.set1 {W w : World} {Q : Nat} {x y z : Value} (h : QSt W Q w x y z) (v : Value) : QSt W Q (w.setCell ⟨Q, 1, none⟩ v) x v z :=
  ⟨h.but.setCell (.inl (by simp)) v, (World.cell?_setCell_other _ _ _ _ (by simp)).trans h.c0, World.cell?_setCell_same _ _ _ h.c1, (World.cell?_setCell_other _ _ _ _ (by simp)).trans h.c2, fun i => by rw [World.frozen?_setCell]; exact h.frz i⟩
theorem QSt.set2 {W w : World} {Q : Nat} {x y z : Value} (h : QSt W Q w x y z) (v : Value) : QSt W Q (w.setCell ⟨Q, 2, none⟩ v) x y v :=
  ⟨h.but.setCell (.inl (by simp)) v, (World.cell?_setCell_other _ _ _ _ (by simp)).trans h.c0, (World.cell?_setCell_other _ _ _ _ (by simp)).trans h.c1, World.cell?_setCell_same _ _ _ h.c2, fun i => by rw [World.frozen?_setCell]; exact h.frz i⟩
theorem QSt.again {W w : World} {Q : Nat} {x y z : Value} (h : QSt W Q w x y z) : QSt w Q w x y z := ⟨But.refl _ _, h.c0, h.c1, h.c2, h.frz⟩
theorem QSt.move {W w : World} {Q R : Nat} {x y z : Value} (h : QSt W R W x y z) (hb : But [Q] W w) (hn : R ≠ Q) : QSt w R w x y z :=
  ⟨But.refl _ _, hb.at_ h.c0 (by simpa using hn), hb.at_ h.c1 (by simpa using hn), hb.at_ h.c2 (by simpa using hn), fun i => by rw [hb.frozen (p := ⟨R, i, none⟩) (show R < W.heap.size from World.block_lt_of_cell? W _ h.c0) (by simpa using hn)]; exact h.frz i⟩
theorem QSt.under {W w : World} {Q : Nat} {x y z : Value} (h : QSt W Q w x y z) : Q < w.heap.size := World.block_lt_of_cell? w _ h.c0
theorem conv_ch (w : World) (r : Nat) :
    (convert 53 9 (.slice (some ⟨w.heap.size, 0, none⟩) 1 1)).run Try.prog (w.alloc (.cells #[.int .u8 (97 + (r : Int))] 5)) = .ok (.string (ch (97 + r))) (w.alloc (.cells #[.int .u8 (97 + (r : Int))] 5)) := by
  have h := run_convert_bytes_arg (w.alloc (.cells #[.int .u8 (97 + (r : Int))] 5)) 53 5 Try.underlying53 (by kernel_rfl) w.heap.size 0 1 1 [97 + (r : Int)] rfl (fun i hi => by
    obtain rfl : i = 0 := by omega
    have hg : (w.alloc (.cells #[.int .u8 (97 + (r : Int))] 5)).heap[w.heap.size]? = some (.cells #[.int .u8 (97 + (r : Int))] 5) := heap_alloc_new _ _
    rw [cell_of_row _ _ 0 _ _ (0, 0) hg]
    rfl) 9 (by kernel_rfl)
  have e : ch (97 + r) = ⟨#[UInt8.ofNat (97 + (r : Int)).toNat]⟩ := by unfold ch; rw [show (97 + (r : Int)).toNat = 97 + r by omega]
  rw [e]
  exact h
theorem cells_two2 (w : World) (o : Obj) (a b : Value) (t : TypeId) : ∀ (j : Nat) (u : Value), [a, b][j]? = some u → ((w.alloc o).alloc (.cells #[a, b] t)).cell? ((⟨w.heap.size + 1, 0, none⟩ : Addr).add j) = some u := by
  have h := cells_two (w.alloc o) a b t
  simpa only [World.size_alloc] using h
theorem IntsAt.but {S : List Nat} {w w2 : World} {b off n c : Nat} {xs : List Int} (h : IntsAt w (some ⟨b, off, none⟩) n c xs) (hb : But S w w2) (hn : b ∉ S) : IntsAt w2 (some ⟨b, off, none⟩) n c xs := by
  obtain ⟨h1, h2, h3, h4, h5⟩ := h
  refine ⟨h1, h2, h3, h4, fun h0 => ?_⟩
  obtain ⟨b2, off2, e, hc⟩ := h5 h0
  cases e
  exact ⟨_, _, rfl, fun i hi => hb.at_ (hc i hi) hn⟩
theorem RowS.but {S : List Nat} {w w2 : World} {b off n c : Nat} {rs : List Rg} (h : RowS w (some ⟨b, off, none⟩) n c rs) (hb : But S w w2) (hn : b ∉ S) : RowS w2 (some ⟨b, off, none⟩) n c rs := by
  obtain ⟨h1, h2, h3, h4, h5⟩ := h
  refine ⟨h1, h2, h3, h4, fun h0 => ?_⟩
  obtain ⟨b2, off2, e, hc⟩ := h5 h0
  cases e
  exact ⟨_, _, rfl, fun i hi => ⟨hb.at_ (hc i hi).1 hn, hb.at_ (hc i hi).2 hn⟩⟩
end Go.Proofs.Ytjmfdacokdffiaa
