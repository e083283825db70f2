/- Where all own a key, and where one alone does, in plain Lean; two rows of owners in the making. -/
import Derived.Test.YtjmfdacokdffiaaRouM
set_option linter.unusedSimpArgs false
set_option linter.unusedVariables false
namespace Go.Proofs.Ytjmfdacokdffiaa
open Go.RowKit

theorem bits_sum : ∀ M : Fin 64, (M : Nat) = (if (M : Nat) / 2 ^ 0 % 2 = 1 then 1 else 0) + (if (M : Nat) / 2 ^ 1 % 2 = 1 then 2 else 0) + (if (M : Nat) / 2 ^ 2 % 2 = 1 then 4 else 0) + (if (M : Nat) / 2 ^ 3 % 2 = 1 then 8 else 0) + (if (M : Nat) / 2 ^ 4 % 2 = 1 then 16 else 0) + (if (M : Nat) / 2 ^ 5 % 2 = 1 then 32 else 0) := of_decide_eq_true (by kernel_rfl)
theorem bits_eq {M N : Nat} (hM : M < 64) (hN : N < 64) (h : ∀ k, k < 6 → (M / 2 ^ k % 2 = 1 ↔ N / 2 ^ k % 2 = 1)) : M = N := by
  have e1 := bits_sum ⟨M, hM⟩
  have e2 := bits_sum ⟨N, hN⟩
  simp only at e1 e2
  simp only [h 0 (by omega), h 1 (by omega), h 2 (by omega), h 3 (by omega), h 4 (by omega), h 5 (by omega)] at e1
  exact e1.trans e2.symm
theorem MaskIs.eq {S : Nat → Prop} {m : Int} (h : MaskIs S m) {N : Nat} (hN : N < 64) (e : ∀ k, k < 6 → (S k ↔ N / 2 ^ k % 2 = 1)) : m = N := by
  obtain ⟨M, rfl, h1, h2⟩ := h
  rw [bits_eq h1 hN fun k hk => (h2 k hk).trans (e k hk)]
theorem bits_all : ∀ n : Fin 7, ∀ k : Fin 6, (2 ^ (n : Nat) - 1) / 2 ^ (k : Nat) % 2 = 1 ↔ (k : Nat) < n := of_decide_eq_true (by kernel_rfl)
theorem bits_one : ∀ f : Fin 6, ∀ k : Fin 6, 2 ^ (f : Nat) / 2 ^ (k : Nat) % 2 = 1 ↔ (k : Nat) = f := of_decide_eq_true (by kernel_rfl)
theorem two_big {n : Nat} (h1 : 1 ≤ n) : 2 ≤ 2 ^ n := by
  obtain ⟨k, rfl⟩ : ∃ k, n = k + 1 := ⟨n - 1, by omega⟩
  have : 0 < 2 ^ k := Nat.pow_pos (by omega)
  rw [Nat.pow_succ]; omega
theorem came_lt {ps : List Int} (hp : IsTree ps) {o : Int} (h0 : 0 ≤ o) (h1 : o < 64) {f : Nat} (hf : f < ps.length) {s : Nat} (h : Came ps o f s) : s < ps.length := by
  rcases (came_iff hp h0 h1 hf s).1 h with rfl | ⟨k, h2, _, h3⟩
  · exact hf
  · exact (wk_spec hp hf h2).1.lt _ _ (List.getElem?_of_mem h3).choose_spec
theorem came_every {ps : List Int} (hp : IsTree ps) {f : Nat} (hf : f < ps.length) (s : Nat) : Came ps ((2 ^ ps.length - 1 : Nat) : Int) f s ↔ s < ps.length := by
  have h6 : ps.length ≤ 6 := hp.choose_spec.six
  have ht := two_le h6
  refine ⟨came_lt hp (by omega) (by omega) hf, fun hs => (came_iff hp (by omega) (by omega) hf s).2 (.inr ⟨s, hs, ?_, ?_⟩)⟩
  · rw [bitB_nat (by omega) s (by omega), Int.toNat_natCast, decide_eq_true_eq]
    exact (bits_all ⟨ps.length, by omega⟩ ⟨s, by omega⟩).2 hs
  · obtain ⟨_, _, h3⟩ := wk_spec hp hf hs
    exact List.mem_of_getLast? h3
theorem came_only {ps : List Int} (hp : IsTree ps) {f : Nat} (hf : f < ps.length) (s : Nat) : Came ps ((2 ^ f : Nat) : Int) f s ↔ s = f := by
  have h6 : ps.length ≤ 6 := hp.choose_spec.six
  have ht : 2 ^ f < 64 := Nat.lt_of_lt_of_le (Nat.pow_lt_pow_right (by omega) hf) (two_le h6)
  refine ⟨fun h => ?_, fun h => h ▸ came_start _ _ _⟩
  rcases (came_iff hp (Int.natCast_nonneg _) (Int.ofNat_lt.2 ht) hf s).1 h with h | ⟨k, h2, h3, h4⟩
  · exact h
  · rw [bitB_nat (Int.natCast_nonneg _) k (by omega), Int.toNat_natCast, decide_eq_true_eq] at h3
    have := (bits_one ⟨f, by omega⟩ ⟨k, by omega⟩).1 h3
    simp only at this
    subst this
    rw [wk_self hp hf] at h4
    simpa using h4
theorem len_every {ps : List Int} (hp : IsTree ps) {f : Nat} (hf : f < ps.length) : (allQ (nxt ps ps.length ((2 ^ ps.length - 1 : Nat) : Int)) f).tail.length = ps.length - 1 := by
  have h6 : ps.length ≤ 6 := hp.choose_spec.six
  have ht := two_le h6
  have hG := nxt_goes hp (o := ((2 ^ ps.length - 1 : Nat) : Int)) (by omega) (by omega)
  have hq : QI ps _ f 7 (allQ (nxt ps ps.length ((2 ^ ps.length - 1 : Nat) : Int)) f) := QI.all hp hf hG 7
  have hc := came_every hp hf
  unfold Came at hc
  generalize allQ (nxt ps ps.length ((2 ^ ps.length - 1 : Nat) : Int)) f = L at *
  have h1 := hq.len
  have h2 := nodup_sub (List.range ps.length) (L.map fun x => x.2.toNat) List.nodup_range fun x hx => by
    obtain ⟨c, hc2⟩ := (hc x).2 (List.mem_range.1 hx)
    exact List.mem_map.2 ⟨_, hc2, by simp⟩
  rw [List.length_range, List.length_map] at h2
  rw [List.length_tail]
  omega
theorem len_only {ps : List Int} (hp : IsTree ps) {f : Nat} (hf : f < ps.length) : (allQ (nxt ps ps.length ((2 ^ f : Nat) : Int)) f).tail.length = 0 := by
  have h6 : ps.length ≤ 6 := hp.choose_spec.six
  have ht : 2 ^ f < 64 := Nat.lt_of_lt_of_le (Nat.pow_lt_pow_right (by omega) hf) (two_le h6)
  have hG := nxt_goes hp (o := ((2 ^ f : Nat) : Int)) (Int.natCast_nonneg _) (Int.ofNat_lt.2 ht)
  have hq : QI ps _ f 7 (allQ (nxt ps ps.length ((2 ^ f : Nat) : Int)) f) := QI.all hp hf hG 7
  have hc := came_only hp hf
  unfold Came at hc
  obtain ⟨t, ht2⟩ := all_start (nxt ps ps.length ((2 ^ f : Nat) : Int)) f
  generalize allQ (nxt ps ps.length ((2 ^ f : Nat) : Int)) f = L at *
  cases t with
  | nil => rw [ht2]; rfl
  | cons y t =>
    obtain ⟨c, a⟩ := y
    have hm : (c, a) ∈ L := by rw [ht2]; simp
    obtain ⟨x, e1, e2, _⟩ := hq.site c a hm
    subst e1
    obtain rfl := (hc x).1 ⟨c, hm⟩
    have := snd_one hq.nd (i := 0) (j := 1) (by rw [ht2]; rfl) (by rw [ht2]; rfl)
    omega
theorem oa_rep {n i : Nat} {v : Int} (h : i < n) : oa (List.replicate n v) i = v := by
  unfold oa
  rw [List.getElem?_replicate, if_pos h]; rfl
theorem fit_rep {es : List Nat} {os ps : List Int} {n : Nat} (h : FitT es os ps n) {v : Int} (h1 : 1 ≤ v) (h2 : v < ((2 ^ n : Nat) : Int)) : FitT es (List.replicate (es.length + 1) v) ps n :=
  ⟨⟨h.fit.up, by simp, fun i hi => by rw [oa_rep hi]; exact ⟨h1, h2⟩, h.fit.one, h.fit.six⟩, h.tree⟩
theorem rep_succ (l : Nat) (v : Int) : intC (List.replicate l v) ++ [.int .i64 v] = intC (List.replicate (l + 1) v) := by
  simp [intC, List.replicate_succ']
/-- Two rows with owners in the making. -/
structure Two (W : World) (E1 E2 : Nat) (wr : World) (x z v1 v2 : Value) (l1 l2 : Nat) (q1 q2 : List Int) : Prop where
  but : But [E1, E2] W wr
  a0 : wr.cell? ⟨E1, 0, none⟩ = some x
  a1 : wr.cell? ⟨E1, 1, none⟩ = some v1
  a2 : wr.cell? ⟨E1, 2, none⟩ = some z
  b0 : wr.cell? ⟨E2, 0, none⟩ = some x
  b1 : wr.cell? ⟨E2, 1, none⟩ = some v2
  b2 : wr.cell? ⟨E2, 2, none⟩ = some z
  fa : ∀ i, wr.frozen? ⟨E1, i, none⟩ = false
  fb : ∀ i, wr.frozen? ⟨E2, i, none⟩ = false
  o1 : wr.ownsRow W.heap.size 3 1 v1 l1 (intC q1)
  o2 : wr.ownsRow W.heap.size 3 1 v2 l2 (intC q2)
  ne : ∀ g, v1.ownBlock = some g → v2.ownBlock ≠ some g
  lt : E1 < W.heap.size ∧ E2 < W.heap.size ∧ E1 ≠ E2
theorem Two.keep {W : World} {E1 E2 : Nat} {wr w2 : World} {x z v1 v2 : Value} {l1 l2 : Nat} {q1 q2 : List Int} (h : Two W E1 E2 wr x z v1 v2 l1 l2 q1 q2) (hk : Kept wr w2) : Two W E1 E2 w2 x z v1 v2 l1 l2 q1 q2 :=
  ⟨h.but.trans (.of_kept hk), hk.at_ h.a0, hk.at_ h.a1, hk.at_ h.a2, hk.at_ h.b0, hk.at_ h.b1, hk.at_ h.b2, fun i => by rw [hk.frozen E1 i (World.block_lt_of_cell? wr _ h.a0)]; exact h.fa i, fun i => by rw [hk.frozen E2 i (World.block_lt_of_cell? wr _ h.b0)]; exact h.fb i, Kept.own h.o1 hk, Kept.own h.o2 hk, h.ne, h.lt⟩
theorem Two.swap {W : World} {E1 E2 : Nat} {wr : World} {x z v1 v2 : Value} {l1 l2 : Nat} {q1 q2 : List Int} (h : Two W E1 E2 wr x z v1 v2 l1 l2 q1 q2) : Two W E2 E1 wr x z v2 v1 l2 l1 q2 q1 :=
  ⟨h.but.mono (by simp), h.b0, h.b1, h.b2, h.a0, h.a1, h.a2, h.fb, h.fa, h.o2, h.o1, fun g e e2 => h.ne g e2 e, ⟨h.lt.2.1, h.lt.1, fun e => h.lt.2.2 e.symm⟩⟩
/-- The cells behind an append, ahead of the store. -/
theorem Two.pre {W : World} {E1 E2 : Nat} {wr w3 : World} {x z v1 v2 : Value} {l1 l2 : Nat} {q1 q2 : List Int} (h : Two W E1 E2 wr x z v1 v2 l1 l2 q1 q2) (hg : wr.grownBy w3 v1.ownBlock) : w3.cell? ⟨E1, 1, none⟩ = some v1 ∧ w3.frozen? ⟨E1, 1, none⟩ = false := by
  have hne : some E1 ≠ v1.ownBlock := fun e => by have := (h.o1.lt _ e.symm).1; have := h.lt; omega
  have hb : w3.heap[E1]? = wr.heap[E1]? := hg.block E1 (World.block_lt_of_cell? wr _ h.a0) hne
  exact ⟨hg.cell h.a1 hne, by rw [World.frozen?_of_block (w := wr) hb]; exact h.fa 1⟩
theorem Two.push {W : World} {E1 E2 : Nat} {wr w3 : World} {x z v1 v2 v3 : Value} {l1 l2 l3 : Nat} {q1 q2 q3 : List Int} (h : Two W E1 E2 wr x z v1 v2 l1 l2 q1 q2) (ho : w3.ownsRow W.heap.size 3 1 v3 l3 (intC q3)) (hg : wr.grownBy w3 v1.ownBlock) (hb : v3.ownBlock = v1.ownBlock ∨ v3.ownBlock = some wr.heap.size) :
    Two W E1 E2 (w3.setCell ⟨E1, 1, none⟩ v3) x z v3 v2 l3 l2 q3 q2 := by
  obtain ⟨l1', l2', l3'⟩ := h.lt
  have hne : some E1 ≠ v1.ownBlock := fun e => by have := (h.o1.lt _ e.symm).1; omega
  have hne2 : some E2 ≠ v1.ownBlock := fun e => by have := (h.o1.lt _ e.symm).1; omega
  have hb1 : w3.heap[E1]? = wr.heap[E1]? := hg.block E1 (World.block_lt_of_cell? wr _ h.a0) hne
  have hb2 : w3.heap[E2]? = wr.heap[E2]? := hg.block E2 (World.block_lt_of_cell? wr _ h.b0) hne2
  have hn2 : v2.ownBlock = none ∨ v2.ownBlock ≠ v1.ownBlock := by
    cases e : v1.ownBlock with
    | none => exact (Option.eq_none_or_eq_some v2.ownBlock).imp id fun ⟨g, hg⟩ => by rw [hg]; simp
    | some g => exact .inr (h.ne g e)
  refine ⟨(h.but.grown hg (fun g e => .inr (h.o1.lt g e).1)).setCell (.inl (by simp)) _, (World.cell?_setCell_other _ _ _ _ (by simp)).trans (hg.cell h.a0 hne), World.cell?_setCell_same _ _ _ (hg.cell h.a1 hne), (World.cell?_setCell_other _ _ _ _ (by simp)).trans (hg.cell h.a2 hne),
    (World.cell?_setCell_other _ _ _ _ (by first | (simp; done) | (intro e; cases e; exact l3' rfl) | (simp; exact fun e => absurd e.symm l3') | (simp; exact fun e => absurd e l3'))).trans (hg.cell h.b0 hne2), (World.cell?_setCell_other _ _ _ _ (by first | (simp; done) | (intro e; cases e; exact l3' rfl) | (simp; exact fun e => absurd e.symm l3') | (simp; exact fun e => absurd e l3'))).trans (hg.cell h.b1 hne2), (World.cell?_setCell_other _ _ _ _ (by first | (simp; done) | (intro e; cases e; exact l3' rfl) | (simp; exact fun e => absurd e.symm l3') | (simp; exact fun e => absurd e l3'))).trans (hg.cell h.b2 hne2),
    fun i => by rw [World.frozen?_setCell, World.frozen?_of_block (w := wr) hb1]; exact h.fa i, fun i => by rw [World.frozen?_setCell, World.frozen?_of_block (w := wr) hb2]; exact h.fb i,
    ownsRow_setCell_below ho (a := ⟨E1, 1, none⟩) l1' _, ownsRow_setCell_below (h.o2.kept hg hn2) (a := ⟨E1, 1, none⟩) l1' _, fun g e e2 => ?_, h.lt⟩
  rcases hb with hb | hb
  · exact h.ne g (hb ▸ e) e2
  · have := (h.o2.lt g e2).2
    rw [hb] at e
    injection e with e
    omega
end Go.Proofs.Ytjmfdacokdffiaa
