/- Two arrays of texts beside a net of three sites. -/
import Derived.Test.YtbofoafcglmboaaNetH
set_option linter.unusedSimpArgs false
set_option linter.unusedVariables false
namespace Go.Proofs.Ytbofoafcglmboaa
open Go.RowKit Go.Maps

def txt (l : List UInt8) : ByteArray := ⟨l.toArray⟩
def one (b : UInt8) : ByteArray := txt [b]
theorem txt_size (l : List UInt8) : (txt l).size = l.length := by simp [txt, ByteArray.size]
theorem txt_app (l m : List UInt8) : txt l ++ txt m = txt (l ++ m) := by
  apply ByteArray.ext
  simp [txt]
theorem txt_cut (l : List UInt8) (n : Nat) : (txt l).extract 0 n = txt (l.take n) := by
  apply ByteArray.ext
  simp [txt]
theorem chB_one (k : Nat) : chB k = one (UInt8.ofNat k) := rfl
def updF (f : Nat → Nat → List UInt8) (a b : Nat) (l : List UInt8) : Nat → Nat → List UInt8 := fun i j => if i = a ∧ j = b then l else f i j
theorem updF_same (f : Nat → Nat → List UInt8) (a b : Nat) (l : List UInt8) : updF f a b l a b = l := by simp [updF]
theorem updF_other {f : Nat → Nat → List UInt8} {a b i j : Nat} {l : List UInt8} (h : i ≠ a ∨ j ≠ b) : updF f a b l i j = f i j := by
  unfold updF; rw [if_neg]; rintro ⟨rfl, rfl⟩; rcases h with h | h <;> exact h rfl
structure Ord (w0 : World) (N Q1 Q2 : Nat) (w : World) (st : Nat → Nat → Ses) (SN TD : Nat → Nat → List UInt8) : Prop where
  net : NetIn w0 [Q2, Q1] w N (fullP 3) st
  kept : Kept w0 w
  q1 : w0.heap.size ≤ Q1
  q2 : w0.heap.size ≤ Q2
  ne : Q1 ≠ Q2
  sent : ∀ a b, a < 3 → b < 3 → w.cell? ⟨Q1, a * 3 + b, none⟩ = some (.string (txt (SN a b)))
  told : ∀ a b, a < 3 → b < 3 → w.cell? ⟨Q2, a * 3 + b, none⟩ = some (.string (txt (TD a b)))
  f1 : ∀ k, w.frozen? ⟨Q1, k, none⟩ = false
  f2 : ∀ k, w.frozen? ⟨Q2, k, none⟩ = false
theorem cell_heap {w w2 : World} {Q k : Nat} (h : w2.heap[Q]? = w.heap[Q]?) : w2.cell? ⟨Q, k, none⟩ = w.cell? ⟨Q, k, none⟩ := by simp [World.cell?, h]
theorem frozen_heap {w w2 : World} {Q k : Nat} (h : w2.heap[Q]? = w.heap[Q]?) : w2.frozen? ⟨Q, k, none⟩ = w.frozen? ⟨Q, k, none⟩ := by simp [World.frozen?, h]
theorem Ord.op {w0 w w2 : World} {N Q1 Q2 : Nat} {st st2 : Nat → Nat → Ses} {SN TD : Nat → Nat → List UInt8} (h : Ord w0 N Q1 Q2 w st SN TD) (ht : NetTo w0 [Q2, Q1] w w2 N (fullP 3) st2) : Ord w0 N Q1 Q2 w2 st2 SN TD := by
  obtain ⟨t1, t2, t3, t4⟩ := ht
  have e1 := t4 Q1 (by simp)
  have e2 := t4 Q2 (by simp)
  exact ⟨t1, t2, h.q1, h.q2, h.ne, fun a b ha hb => by rw [cell_heap e1]; exact h.sent a b ha hb, fun a b ha hb => by rw [cell_heap e2]; exact h.told a b ha hb, fun k => by rw [frozen_heap e1]; exact h.f1 k, fun k => by rw [frozen_heap e2]; exact h.f2 k⟩
theorem Ord.keep {w0 w w2 : World} {N Q1 Q2 : Nat} {st : Nat → Nat → Ses} {SN TD : Nat → Nat → List UInt8} (h : Ord w0 N Q1 Q2 w st SN TD) (hk : Kept w w2) : Ord w0 N Q1 Q2 w2 st SN TD := h.op (h.net.to h.kept hk)
theorem Ord.l1 {w0 w : World} {N Q1 Q2 : Nat} {st : Nat → Nat → Ses} {SN TD : Nat → Nat → List UInt8} (h : Ord w0 N Q1 Q2 w st SN TD) : Q1 < w.heap.size := World.block_lt_of_cell? w _ (h.sent 0 0 (by omega) (by omega))
theorem Ord.l2 {w0 w : World} {N Q1 Q2 : Nat} {st : Nat → Nat → Ses} {SN TD : Nat → Nat → List UInt8} (h : Ord w0 N Q1 Q2 w st SN TD) : Q2 < w.heap.size := World.block_lt_of_cell? w _ (h.told 0 0 (by omega) (by omega))
theorem Ord.set1 {w0 w : World} {N Q1 Q2 : Nat} {st : Nat → Nat → Ses} {SN TD : Nat → Nat → List UInt8} (h : Ord w0 N Q1 Q2 w st SN TD) {a b : Nat} (ha : a < 3) (hb : b < 3) (l : List UInt8) :
    Ord w0 N Q1 Q2 (w.setCell ⟨Q1, a * 3 + b, none⟩ (.string (txt l))) st (updF SN a b l) TD := by
  refine ⟨h.net.but ((But.refl _ _).setCell (.inl (by simp)) _), h.kept.setCell h.q1 _, h.q1, h.q2, h.ne, fun i j hi hj => ?_, fun i j hi hj => ?_, fun k => by rw [World.frozen?_setCell]; exact h.f1 k, fun k => by rw [World.frozen?_setCell]; exact h.f2 k⟩
  · by_cases e : i = a ∧ j = b
    · obtain ⟨rfl, rfl⟩ := e
      rw [updF_same, World.cell?_setCell_same _ _ _ (h.sent i j hi hj)]
    · have e2 : i ≠ a ∨ j ≠ b := by by_cases h : i = a; exact .inr fun g => e ⟨h, g⟩; exact .inl h
      rw [updF_other e2, World.cell?_setCell_other _ _ _ _ (by intro g; injection g with _ g _; omega)]
      exact h.sent i j hi hj
  · rw [World.cell?_setCell_other _ _ _ _ (by intro g; injection g with g _ _; exact h.ne g)]
    exact h.told i j hi hj
theorem Ord.set2 {w0 w : World} {N Q1 Q2 : Nat} {st : Nat → Nat → Ses} {SN TD : Nat → Nat → List UInt8} (h : Ord w0 N Q1 Q2 w st SN TD) {a b : Nat} (ha : a < 3) (hb : b < 3) (l : List UInt8) :
    Ord w0 N Q1 Q2 (w.setCell ⟨Q2, a * 3 + b, none⟩ (.string (txt l))) st SN (updF TD a b l) := by
  refine ⟨h.net.but ((But.refl _ _).setCell (.inl (by simp)) _), h.kept.setCell h.q2 _, h.q1, h.q2, h.ne, fun i j hi hj => ?_, fun i j hi hj => ?_, fun k => by rw [World.frozen?_setCell]; exact h.f1 k, fun k => by rw [World.frozen?_setCell]; exact h.f2 k⟩
  · rw [World.cell?_setCell_other _ _ _ _ (by intro g; injection g with g _ _; exact h.ne g.symm)]
    exact h.sent i j hi hj
  · by_cases e : i = a ∧ j = b
    · obtain ⟨rfl, rfl⟩ := e
      rw [updF_same, World.cell?_setCell_same _ _ _ (h.told i j hi hj)]
    · have e2 : i ≠ a ∨ j ≠ b := by by_cases h : i = a; exact .inr fun g => e ⟨h, g⟩; exact .inl h
      rw [updF_other e2, World.cell?_setCell_other _ _ _ _ (by intro g; injection g with _ g _; omega)]
      exact h.told i j hi hj
theorem Ord.start {w w2 : World} {N : Nat} (h : NetIn w [] w2 N (fullP 3) st0) (hk : Kept w w2) {t : TypeId} :
    Ord w N w2.heap.size (w2.heap.size + 1) ((w2.alloc (.cells #[.string ⟨#[]⟩, .string ⟨#[]⟩, .string ⟨#[]⟩, .string ⟨#[]⟩, .string ⟨#[]⟩, .string ⟨#[]⟩, .string ⟨#[]⟩, .string ⟨#[]⟩, .string ⟨#[]⟩] t)).alloc (.cells #[.string ⟨#[]⟩, .string ⟨#[]⟩, .string ⟨#[]⟩, .string ⟨#[]⟩, .string ⟨#[]⟩, .string ⟨#[]⟩, .string ⟨#[]⟩, .string ⟨#[]⟩, .string ⟨#[]⟩] t)) st0 (fun _ _ => []) (fun _ _ => []) := by
  have g1 := heap_alloc_new w2 (.cells #[.string ⟨#[]⟩, .string ⟨#[]⟩, .string ⟨#[]⟩, .string ⟨#[]⟩, .string ⟨#[]⟩, .string ⟨#[]⟩, .string ⟨#[]⟩, .string ⟨#[]⟩, .string ⟨#[]⟩] t)
  generalize hW : w2.alloc (.cells #[.string ⟨#[]⟩, .string ⟨#[]⟩, .string ⟨#[]⟩, .string ⟨#[]⟩, .string ⟨#[]⟩, .string ⟨#[]⟩, .string ⟨#[]⟩, .string ⟨#[]⟩, .string ⟨#[]⟩] t) = W1 at *
  have k1 : Kept w2 W1 := by rw [← hW]; exact (Kept.refl _).alloc _
  have z1 : W1.heap.size = w2.heap.size + 1 := by rw [← hW]; simp
  have g2 := heap_alloc_new W1 (.cells #[.string ⟨#[]⟩, .string ⟨#[]⟩, .string ⟨#[]⟩, .string ⟨#[]⟩, .string ⟨#[]⟩, .string ⟨#[]⟩, .string ⟨#[]⟩, .string ⟨#[]⟩, .string ⟨#[]⟩] t)
  have k2 : Kept W1 (W1.alloc (.cells #[.string ⟨#[]⟩, .string ⟨#[]⟩, .string ⟨#[]⟩, .string ⟨#[]⟩, .string ⟨#[]⟩, .string ⟨#[]⟩, .string ⟨#[]⟩, .string ⟨#[]⟩, .string ⟨#[]⟩] t)) := (Kept.refl _).alloc _
  rw [z1] at g2
  have g1 := k2.heap g1
  have hz := hk.size
  have cells : ∀ (Q : Nat) (W : World), W.heap[Q]? = some (.cells #[.string ⟨#[]⟩, .string ⟨#[]⟩, .string ⟨#[]⟩, .string ⟨#[]⟩, .string ⟨#[]⟩, .string ⟨#[]⟩, .string ⟨#[]⟩, .string ⟨#[]⟩, .string ⟨#[]⟩] t) → ∀ a b, a < 3 → b < 3 → W.cell? ⟨Q, a * 3 + b, none⟩ = some (.string (txt [])) := by
    intro Q W g a b ha hb
    rw [cellOf g]
    have ha : a = 0 ∨ a = 1 ∨ a = 2 := by omega
    have hb : b = 0 ∨ b = 1 ∨ b = 2 := by omega
    rcases ha with rfl | rfl | rfl <;> rcases hb with rfl | rfl | rfl <;> rfl
  refine ⟨(h.more k1 w2.heap.size (Nat.le_refl _) (by omega)).more k2 (w2.heap.size + 1) (by omega) (by rw [World.size_alloc]; omega), (hk.call k1).call k2, hz, by omega, by omega, cells _ _ g1, cells _ _ g2, fun k => freeOf g1 k, fun k => freeOf g2 k⟩
/-- What was sent and what was told is what the sessions hold. -/
structure Fit3 (i : Nat) (st : Nat → Nat → Ses) (SN TD : Nat → Nat → List UInt8) : Prop where
  T : ∀ a b, a < 3 → b < 3 → (st a b).T = (SN a b).map one
  td : ∀ a b, a < 3 → b < 3 → TD a b = (SN a b).take (st a b).lo
  bd : ∀ a b, a < 3 → b < 3 → Bd i (st a b)
  none : ∀ a, a < 3 → st a a = ses0
theorem Fit3.zero : Fit3 0 st0 (fun _ _ => []) (fun _ _ => []) := ⟨fun _ _ _ _ => rfl, fun _ _ _ _ => rfl, fun _ _ _ _ => Bd.zero, fun _ _ => rfl⟩
theorem Fit3.mono {i j : Nat} {st : Nat → Nat → Ses} {SN TD : Nat → Nat → List UInt8} (h : Fit3 i st SN TD) (hij : i ≤ j) : Fit3 j st SN TD := ⟨h.T, h.td, fun a b ha hb => (h.bd a b ha hb).mono hij, h.none⟩
/-- A session turns, and what was told, or sent, with it. -/
theorem Fit3.step {i : Nat} {st : Nat → Nat → Ses} {SN TD : Nat → Nat → List UInt8} (h : Fit3 i st SN TD) {a b : Nat} (hab : a ≠ b) {x : Ses} {sn td : List UInt8} (hT : x.T = sn.map one) (htd : td = sn.take x.lo) (hb : Bd (i + 1) x) : Fit3 (i + 1) (setS st a b x) (updF SN a b sn) (updF TD a b td) := by
  refine ⟨fun c d hc hd => ?_, fun c d hc hd => ?_, fun c d hc hd => ?_, fun c hc => ?_⟩
  · by_cases e : c = a ∧ d = b
    · obtain ⟨rfl, rfl⟩ := e
      rw [setS_same, updF_same]; exact hT
    · have e2 : c ≠ a ∨ d ≠ b := by by_cases h : c = a; exact .inr fun g => e ⟨h, g⟩; exact .inl h
      rw [setS_other e2, updF_other e2]; exact h.T c d hc hd
  · by_cases e : c = a ∧ d = b
    · obtain ⟨rfl, rfl⟩ := e
      rw [setS_same, updF_same, updF_same]; exact htd
    · have e2 : c ≠ a ∨ d ≠ b := by by_cases h : c = a; exact .inr fun g => e ⟨h, g⟩; exact .inl h
      rw [setS_other e2, updF_other e2, updF_other e2]; exact h.td c d hc hd
  · by_cases e : c = a ∧ d = b
    · obtain ⟨rfl, rfl⟩ := e
      rw [setS_same]; exact hb
    · have e2 : c ≠ a ∨ d ≠ b := by by_cases h : c = a; exact .inr fun g => e ⟨h, g⟩; exact .inl h
      rw [setS_other e2]; exact (h.bd c d hc hd).mono (by omega)
  · rw [setS_other (by by_cases h : c = a; exact .inr fun g => hab (h ▸ g); exact .inl h)]
    exact h.none c hc
theorem updF_id (f : Nat → Nat → List UInt8) (a b : Nat) : updF f a b (f a b) = f := by
  funext i j; unfold updF; split
  · rename_i h; rw [h.1, h.2]
  · rfl
/-- A session turns, but neither what was sent nor what was told. -/
theorem Fit3.same {i : Nat} {st : Nat → Nat → Ses} {SN TD : Nat → Nat → List UInt8} (h : Fit3 i st SN TD) {a b : Nat} (ha : a < 3) (hb : b < 3) (hab : a ≠ b) {x : Ses} (hT : x.T = (st a b).T) (hlo : x.lo = (st a b).lo) (hbd : Bd (i + 1) x) : Fit3 (i + 1) (setS st a b x) SN TD := by
  have := h.step (a := a) (b := b) hab (x := x) (sn := SN a b) (td := TD a b) (by rw [hT, h.T a b ha hb]) (by rw [hlo, h.td a b ha hb]) hbd
  rwa [updF_id, updF_id] at this
/-- The facts of the check. -/
theorem Fit3.check {i : Nat} {st : Nat → Nat → Ses} {SN TD : Nat → Nat → List UInt8} (h : Fit3 i st SN TD) {a b : Nat} (ha : a < 3) (hb : b < 3) :
    (txt (SN a b)).size = (SN a b).length ∧ (txt (TD a b)).size = (TD a b).length ∧ (TD a b).length ≤ (SN a b).length ∧ (SN a b).length ≤ i ∧ (txt (SN a b)).extract 0 (TD a b).length = txt (TD a b) ∧ (st a b).T.length - (st a b).lo = (SN a b).length - (TD a b).length := by
  have h1 := h.T a b ha hb
  have h2 := h.td a b ha hb
  obtain ⟨b1, b2, b3, b4⟩ := h.bd a b ha hb
  have hl : (st a b).T.length = (SN a b).length := by rw [h1]; simp
  have hl2 : (TD a b).length = (st a b).lo := by rw [h2, List.length_take]; omega
  refine ⟨txt_size _, txt_size _, by omega, by omega, ?_, by omega⟩
  rw [txt_cut, hl2, ← h2]
theorem Fit3.more {i : Nat} {st : Nat → Nat → Ses} {SN TD : Nat → Nat → List UInt8} (h : Fit3 i st SN TD) {a b : Nat} (ha : a < 3) (hb : b < 3) (hlt : (st a b).lo < (st a b).T.length) : ∃ c, tx (st a b).T (st a b).lo = one c ∧ (SN a b).take ((st a b).lo + 1) = TD a b ++ [c] := by
  have hT := h.T a b ha hb
  have htd := h.td a b ha hb
  rw [hT] at hlt ⊢
  rw [List.length_map] at hlt
  refine ⟨(SN a b)[(st a b).lo], ?_, ?_⟩
  · unfold tx
    rw [List.getElem?_map, List.getElem?_eq_getElem hlt]
    rfl
  · rw [htd, List.take_succ_eq_append_getElem hlt]
theorem pick_same {x : Ses} {i k : Int} (h : pickB x i k = false) : (pickS x i k).T = x.T ∧ (pickS x i k).lo = x.lo := by
  unfold pickB at h
  have h := of_decide_eq_false h
  unfold pickS
  cases hq : pickQ x i with
  | none => exact ⟨rfl, rfl⟩
  | some q =>
    rw [hq] at h
    simp only
    split
    · split <;> exact ⟨rfl, rfl⟩
    · split
      · exact ⟨rfl, rfl⟩
      · split
        · rename_i h2 h1 h0; exact absurd ⟨by rw [h0], h1, h2⟩ h
        · exact ⟨rfl, rfl⟩
theorem pick_told {x : Ses} {i k : Int} (hok : SesOk x) (h : pickB x i k = true) : (pickS x i k).T = x.T ∧ (pickS x i k).lo = x.lo + 1 ∧ x.lo < x.T.length := by
  unfold pickB at h
  obtain ⟨h0, h1, h2⟩ := of_decide_eq_true h
  have hm := pickQ_mem h0
  have := hok.way x.lo hm.1
  unfold pickS
  rw [h0]
  simp [h1, h2]
  exact this
theorem Ord.facts {w0 w : World} {N Q1 Q2 i : Nat} {st : Nat → Nat → Ses} {SN TD : Nat → Nat → List UInt8} (h : Ord w0 N Q1 Q2 w st SN TD) (hf : Fit3 i st SN TD) (hi : i ≤ 61) {a b : Nat} (ha : a < 3) (hb : b < 3) :
    ∃ (sx sy : ByteArray) (n1 n2 : Nat), w.cell? ⟨Q1, a * 3 + b, none⟩ = some (.string sx) ∧ w.cell? ⟨Q2, a * 3 + b, none⟩ = some (.string sy) ∧ sx.size = n1 ∧ sy.size = n2 ∧ n2 ≤ n1 ∧ n1 ≤ 61 ∧ sx.extract 0 n2 = sy ∧ decide (n1 < n2) = false ∧ (st a b).T.length - (st a b).lo = n1 - n2 ∧ ((n1 - n2 : Nat) : Int) = (n1 : Int) - (n2 : Int) := by
  obtain ⟨f1, f2, f3, f4, f5, f6⟩ := hf.check ha hb
  exact ⟨_, _, _, _, h.sent a b ha hb, h.told a b ha hb, f1, f2, f3, by omega, f5, by simp; omega, f6, by omega⟩
theorem Ord.facts0 {w0 w : World} {N Q1 Q2 i : Nat} {st : Nat → Nat → Ses} {SN TD : Nat → Nat → List UInt8} (h : Ord w0 N Q1 Q2 w st SN TD) (hf : Fit3 i st SN TD) {a : Nat} (ha : a < 3) :
    w.cell? ⟨Q1, a * 3 + a, none⟩ = some (.string ⟨#[]⟩) ∧ w.cell? ⟨Q2, a * 3 + a, none⟩ = some (.string ⟨#[]⟩) := by
  have hT := hf.T a a ha ha
  rw [hf.none a ha] at hT
  have h0 : SN a a = [] := by
    cases h : SN a a with
    | nil => rfl
    | cons x l => rw [h] at hT; cases hT
  have h1 := h.sent a a ha ha
  have h2 := h.told a a ha ha
  rw [hf.td a a ha ha, h0] at h2
  rw [h0] at h1
  exact ⟨h1, by simpa [txt] using h2⟩
end Go.Proofs.Ytbofoafcglmboaa
