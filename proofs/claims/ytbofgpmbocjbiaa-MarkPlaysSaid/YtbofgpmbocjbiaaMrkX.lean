/- Both drains, side by side. -/
import Derived.Test.YtbofgpmbocjbiaaMrkW
import Derived.Test.YtbofgpmbocjbiaaMrkR
set_option linter.unusedSimpArgs false
set_option linter.unusedVariables false
namespace Go.Proofs.Ytbofgpmbocjbiaa
open Go.RowKit Go.Maps

/-- The blocks L stay. -/
structure On (L : List Nat) (w w2 : World) : Prop where
  size : w.heap.size ≤ w2.heap.size
  block : ∀ k, k ∈ L → k < w.heap.size → w2.heap[k]? = w.heap[k]?
theorem On.refl (L : List Nat) (w : World) : On L w w := ⟨Nat.le_refl _, fun _ _ _ => rfl⟩
theorem On.trans {L : List Nat} {a b c : World} (h : On L a b) (k : On L b c) : On L a c :=
  ⟨Nat.le_trans h.size k.size, fun i hi hl => (k.block i hi (Nat.lt_of_lt_of_le hl h.size)).trans (h.block i hi hl)⟩
theorem On.of_kept {L : List Nat} {a b : World} (h : Kept a b) : On L a b := ⟨h.size, fun k _ hk => h.block k hk⟩
theorem On.at_ {L : List Nat} {w w2 : World} (h : On L w w2) {p : Addr} {v : Value} (hc : w.cell? p = some v) (hn : p.block ∈ L) : w2.cell? p = some v := by
  rw [World.cell?_of_block (h.block p.block hn (World.block_lt_of_cell? w _ hc))]; exact hc
theorem keepsOn (L : List Nat) : KeepsTwo (On L) Kept := ⟨⟨On.refl L, On.trans, fun w => ⟨Nat.le_refl _, fun _ _ _ => rfl⟩⟩, keepsKept, On.of_kept⟩

theorem DrIn.grow {w0 w w2 : World} {X X' : List Nat} {D : Nat} {ps : List Int} {st : DSt} (h : DrIn w0 X w D ps st) (hb : But X w w2) (hn : ∀ x ∈ X', x ∈ X ∨ w.heap.size ≤ x) (hl : ∀ x ∈ X', x < w2.heap.size) : DrIn w0 X' w2 D ps st := by
  obtain ⟨PB, n, c, M1, M2, M3, fW, G, fS, fC, h⟩ := h
  have h2 := h.but hb
  exact ⟨PB, n, c, M1, M2, M3, fW, G, fS, fC, { h2 with
    own := fun x hx => ⟨(h2.own x hx).1, (h2.own x hx).2.1, fun hm => by
      rcases hn x hm with g | g
      · exact (h.own x hx).2.2 g
      · have := (h.own x hx).2.1; omega⟩
    gown := fun p x hx => by
      obtain ⟨o1, o2, o3, o4⟩ := h2.gown p x hx
      refine ⟨o1, o2, fun hm => ?_, o4⟩
      rcases hn x hm with g | g
      · exact o3 g
      · have := (h.gown p x hx).2.1; omega
    lX := hl }⟩
/-- The program's drain stands at st, the document's at sr. -/
structure J2 (w0 w : World) (D R : Nat) (ps : List Int) (st sr : DSt) : Prop where
  ex : ∃ X, RdIn w0 X w R ps sr ∧ MK w0 X w D ps st
  mr : MI ps sr
  kr : KS ps sr
section
variable {w0 w : World} {D R : Nat} {ps : List Int} {st sr : DSt}
theorem J2.kept {w2 : World} (h : J2 w0 w D R ps st sr) (k : Kept w w2) : J2 w0 w2 D R ps st sr := by
  obtain ⟨X, h1, h2⟩ := h.ex
  exact ⟨⟨X, h1.keep k, h2.keep k⟩, h.mr, h.kr⟩
theorem J2.tree (h : J2 w0 w D R ps st sr) : IsTree ps := by obtain ⟨X, _, h⟩ := h.ex; exact h.tree
theorem J2.k0 (h : J2 w0 w D R ps st sr) : Kept w0 w := by obtain ⟨X, _, h⟩ := h.ex; exact h.kept
theorem J2.mi (h : J2 w0 w D R ps st sr) : MI ps st := by obtain ⟨X, _, h⟩ := h.ex; exact h.mi
theorem J2.l9 (h : J2 w0 w D R ps st sr) (p : Int × Int) : (sr.W p).length ≤ 900 := by have := h.mr.len p; omega
theorem J2.k6 (h : J2 w0 w D R ps st sr) : sr.k ≤ 1000000 := by have := h.kr.le h.tree; omega
/-- The program's drain goes a step. -/
theorem J2.stepD {X : List Nat} {w2 : World} {st2 : DSt} (hr : RdIn w0 X w R ps sr) (h0 : Kept w0 w) (h2 : MK w0 X w2 D ps st2) (hf : FR w0 X w w2) (mr : MI ps sr) (kr : KS ps sr) : J2 w0 w2 D R ps st2 sr := by
  obtain ⟨g, n, c, V, G, hr⟩ := hr
  exact ⟨⟨X, ⟨g, n, c, V, G, hr.same h0 h2.kept hf.1 hf.2.1⟩, h2⟩, mr, kr⟩
/-- The document's drain goes a step. -/
theorem J2.stepR {X : List Nat} {w2 : World} {sr2 : DSt} (hm : MK w0 X w D ps st) (hr : RdIn w0 X w R ps sr) (h : RdTo w0 X w w2 R ps sr2) (mr : MI ps sr2) (kr : KS ps sr2) : J2 w0 w2 D R ps st sr2 := by
  obtain ⟨X2, h1, h2, h3, h4⟩ := h
  exact ⟨⟨X2, h1, ⟨hm.dr.grow h2 h4 h1.lt, hm.mi, hm.cs, hm.ks, hm.kept.but h2 hr.ge⟩⟩, mr, kr⟩
/-- A block that was there stays in each step. -/
theorem RdTo.on {X : List Nat} {w2 : World} (h : RdTo w0 X w w2 R ps sr) {L : List Nat} (hL : ∀ x ∈ L, x ∉ X) : On L w w2 := by
  obtain ⟨X2, h1, h2, h3, h4⟩ := h
  exact ⟨h2.size, fun k hk hl => h2.block k hl (hL k hk)⟩
theorem J2.more (h : J2 w0 w D R ps st sr) (o : Obj) : ∃ X, RdIn w0 X (w.alloc o) R ps sr ∧ MK w0 (w.heap.size :: X) (w.alloc o) D ps st ∧ w.heap.size ∉ X := by
  obtain ⟨X, h1, h2⟩ := h.ex
  have k : Kept w (w.alloc o) := (Kept.refl w).alloc o
  exact ⟨X, h1.keep k, ⟨h2.dr.more k w.heap.size (Nat.le_refl _) (by simp), h2.mi, h2.cs, h2.ks, h2.kept.call k⟩, fun hx => by have := h1.lt _ hx; omega⟩
theorem MK.less {X : List Nat} {Q : Nat} (h : MK w0 (Q :: X) w D ps st) : MK w0 X w D ps st := ⟨h.dr.less, h.mi, h.cs, h.ks, h.kept⟩
theorem FR.on {X : List Nat} {Q : Nat} {w2 : World} (h : FR w0 (Q :: X) w w2) : On [Q] w w2 := ⟨h.1, fun k hk _ => h.2.1 k (by simp at hk; simp [hk])⟩
/-- Both send; the first one leaves the box Q. -/
structure J3 (w0 w : World) (D R Q : Nat) (ps : List Int) (st sr : DSt) : Prop where
  ex : ∃ X, RdIn w0 X w R ps sr ∧ MK w0 (Q :: X) w D ps st
  mr : MI ps sr
  kr : KS ps sr
theorem J2.j3 (h : J2 w0 w D R ps st sr) (o : Obj) : J3 w0 (w.alloc o) D R w.heap.size ps st sr := by
  obtain ⟨X, h1, h2, _⟩ := h.more o
  exact ⟨⟨X, h1, h2⟩, h.mr, h.kr⟩
theorem J3.kept {w2 : World} {Q : Nat} (h : J3 w0 w D R Q ps st sr) (k : Kept w w2) : J3 w0 w2 D R Q ps st sr := by
  obtain ⟨X, h1, h2⟩ := h.ex
  exact ⟨⟨X, h1.keep k, h2.keep k⟩, h.mr, h.kr⟩
theorem J3.j2 {Q : Nat} (h : J3 w0 w D R Q ps st sr) : J2 w0 w D R ps st sr := by
  obtain ⟨X, h1, h2⟩ := h.ex
  exact ⟨⟨X, h1, h2.less⟩, h.mr, h.kr⟩
theorem sendJD {Q : Nat} (h : J3 w0 w D R Q ps st sr) {a b : Int} (ha : gd a) (hb : gd b) (l : ByteArray) :
    Calls Try.prog 15 #[.pointer (some ⟨D, 0, none⟩), .int .i64 a, .int .i64 b, .string l] w fun e w' => e = .returned (.int .i64 (sendR ps st a b)) ∧ J2 w0 w' D R ps (sendD ps st a b l) sr ∧ On [Q] w w' := by
  obtain ⟨X, h1, h2⟩ := h.ex
  exact (sendM h2 ha hb l).mono fun e w' ⟨he, hm, hf⟩ => ⟨he, J2.stepD h1 h2.kept hm.less hf.less h.mr h.kr, hf.on⟩
theorem sendJR (h : J2 w0 w D R ps st sr) {a b : Int} (ha : gd a) (hb : gd b) (l : ByteArray) :
    Calls Try.prog 20 #[.pointer (some ⟨R, 0, none⟩), .int .i64 a, .int .i64 b, .string l] w fun e w' => e = .returned (.int .i64 (sendR ps sr a b)) ∧ J2 w0 w' D R ps st (sendD ps sr a b l) := by
  obtain ⟨X, h1, h2⟩ := h.ex
  exact (rsend w0 X R ps sr a b l w h1 h2.kept ha hb (by have := h.mr.len (a, b); omega)).mono fun e w' ⟨he, ht⟩ => ⟨he, J2.stepR h2 h1 ht (h.mr.send a b l) (h.kr.send a b l)⟩
theorem stopJD (h : J2 w0 w D R ps st sr) {a : Int} (ha : gd a) :
    Calls Try.prog 11 #[.pointer (some ⟨D, 0, none⟩), .int .i64 a] w fun e w' => e = .returned (.int .i64 (stopR ps st a)) ∧ J2 w0 w' D R ps (stopD ps st a) sr := by
  obtain ⟨X, h1, h2⟩ := h.ex
  exact (stopM h2 ha).mono fun e w' ⟨he, hm, hf⟩ => ⟨he, J2.stepD h1 h2.kept hm hf h.mr h.kr⟩
theorem stopJR (h : J2 w0 w D R ps st sr) {a : Int} (ha : gd a) :
    Calls Try.prog 18 #[.pointer (some ⟨R, 0, none⟩), .int .i64 a] w fun e w' => e = .returned (.int .i64 (stopR ps sr a)) ∧ J2 w0 w' D R ps st (stopD ps sr a) := by
  obtain ⟨X, h1, h2⟩ := h.ex
  exact (rstops w0 X R ps sr a w h1 h2.kept ha h.l9 h.k6).mono fun e w' ⟨he, ht⟩ => ⟨he, J2.stepR h2 h1 ht (h.mr.stop a) (h.kr.stop a)⟩
theorem pickJD (h : J2 w0 w D R ps st sr) {a b : Int} (ha : gd a) (hb : gd b) :
    Calls Try.prog 13 #[.pointer (some ⟨D, 0, none⟩), .int .i64 a, .int .i64 b] w fun e w' => e = .returned (pickV st a b) ∧ J2 w0 w' D R ps (pickD ps st a b) sr := by
  obtain ⟨X, h1, h2⟩ := h.ex
  exact (pickM h2 ha hb).mono fun e w' ⟨he, hm, hf⟩ => ⟨he, J2.stepD h1 h2.kept hm hf h.mr h.kr⟩
theorem pickJR (h : J2 w0 w D R ps st sr) {a b : Int} (ha : gd a) (hb : gd b) :
    Calls Try.prog 19 #[.pointer (some ⟨R, 0, none⟩), .int .i64 a, .int .i64 b] w fun e w' => e = .returned (pickT sr a b) ∧ J2 w0 w' D R ps st (pickD ps sr a b) := by
  obtain ⟨X, h1, h2⟩ := h.ex
  exact (rpick w0 X R ps sr a b w h1 h.mr h2.kept ha hb h.l9 h.k6).mono fun e w' ⟨he, ht⟩ => ⟨he, J2.stepR h2 h1 ht (h.mr.pick a b) (h.kr.pick a b)⟩
theorem flyJD (h : J2 w0 w D R ps st sr) {a b : Int} (ha : gd a) (hb : gd b) :
    Calls Try.prog 17 #[.pointer (some ⟨D, 0, none⟩), .int .i64 a, .int .i64 b] w fun e w' => e = .returned (.int .i64 ((st.W (a, b)).length : Nat)) ∧ Kept w w' := by
  obtain ⟨X, h1, h2⟩ := h.ex
  exact flying_any w0 X D ps st a b w h2.dr ha hb
theorem flyJR (h : J2 w0 w D R ps st sr) {a b : Int} (ha : gd a) (hb : gd b) :
    Calls Try.prog 21 #[.pointer (some ⟨R, 0, none⟩), .int .i64 a, .int .i64 b] w fun e w' => e = .returned (.int .i64 ((sr.W (a, b)).length : Nat)) ∧ Kept w w' := by
  obtain ⟨X, h1, h2⟩ := h.ex
  exact rflying w0 X R ps sr a b w h1 h.mr ha hb
theorem mkJD (h : J2 w0 w D R ps st sr) :
    Calls Try.prog 22 #[.pointer (some ⟨D, 0, none⟩)] w fun e w' => e = .returned (.int .i64 (st.k : Nat)) ∧ Kept w w' := by
  obtain ⟨X, h1, h2⟩ := h.ex
  exact markers_any w0 X D ps st w h2.dr
theorem mkJR (h : J2 w0 w D R ps st sr) : w.cell? ⟨R, 79, none⟩ = some (.int .i64 (sr.k : Int)) := by
  obtain ⟨X, ⟨g, n, c, V, G, h1⟩, h2⟩ := h.ex
  exact h1.cK
theorem stJR (h : J2 w0 w D R ps st sr) {s : Nat} (hs : s < 6) : w.cell? ⟨R, 37 + s, none⟩ = some (.bool (sr.S (s : Int))) := by
  obtain ⟨X, ⟨g, n, c, V, G, h1⟩, h2⟩ := h.ex
  exact h1.cS s hs
theorem allJD (h : J2 w0 w D R ps st sr) :
    Calls Try.prog 23 #[.pointer (some ⟨D, 0, none⟩)] w fun e w' => e = .returned (.bool (allB ps st)) ∧ Kept w w' := by
  obtain ⟨X, h1, h2⟩ := h.ex
  exact all_any w0 X D ps st w h2.dr
theorem allJR (h : J2 w0 w D R ps st sr) :
    Calls Try.prog 24 #[.pointer (some ⟨R, 0, none⟩)] w fun e w' => e = .returned (.bool (allB ps sr)) ∧ Kept w w' := by
  obtain ⟨X, h1, h2⟩ := h.ex
  exact rall w0 X R ps sr w h1
theorem stoppedJD (h : J2 w0 w D R ps st sr) {a : Int} (ha : gd a) :
    Calls Try.prog 14 #[.pointer (some ⟨D, 0, none⟩), .int .i64 a] w fun e w' => e = .returned (.bool (inB ps.length a && st.S a)) ∧ Kept w w' := by
  obtain ⟨X, h1, h2⟩ := h.ex
  exact stopped_any w0 X D ps st a w h2.dr ha
theorem doneJD (h : J2 w0 w D R ps st sr) {a : Int} (ha : gd a) :
    Calls Try.prog 12 #[.pointer (some ⟨D, 0, none⟩), .int .i64 a] w fun e w' => e = .returned (.bool (doneB ps st a)) ∧ Kept w w' := by
  obtain ⟨X, h1, h2⟩ := h.ex
  exact done_any w0 X D ps st a w h2.dr ha
theorem doneJR (h : J2 w0 w D R ps st sr) {a : Int} (ha : gd a) :
    Calls Try.prog 25 #[.pointer (some ⟨R, 0, none⟩), .int .i64 a] w fun e w' => e = .returned (.bool (doneB ps sr a)) ∧ Kept w w' := by
  obtain ⟨X, h1, h2⟩ := h.ex
  exact rdone w0 X R ps sr a w h1 ha
end
theorem pick_two (st : DSt) (a b : Int) : ∃ s m is, pickV st a b = .tuple #[.string s, .bool m, .bool is] ∧ pickT st a b = .tuple #[.agg #[.string s, .bool m], .bool is] := by
  unfold pickV pickT
  rcases st.W (a, b) with _ | ⟨_ | l, r⟩
  · exact ⟨_, _, _, rfl, rfl⟩
  · exact ⟨_, _, _, rfl, rfl⟩
  · exact ⟨_, _, _, rfl, rfl⟩
/-- A site by a number, or one that there isn't. -/
theorem site8 (x : Int) : ∃ z : Int, (x.tmod 8 + 8) % 8 = z ∧ x.tmod 8 % 8 = z ∧ 0 ≤ z ∧ z ≤ 7 ∧ ∃ y : Int, z - 1 = y ∧ gd y := by
  refine ⟨_, rfl, by omega, by omega, by omega, _, rfl, ?_, ?_⟩ <;> omega
/-- The document's drain's cells, at first. -/
def cells0 (v : Value) : List Value := [v] ++ (List.replicate 36 (.slice none 0 0) ++ (List.replicate 6 (.bool false) ++ (List.replicate 36 (.bool false) ++ [.int .i64 0])))
theorem cells0_len (v : Value) : (cells0 v).length = 80 := rfl
theorem cells0_W (v : Value) (i : Nat) (h : i < 36) : (cells0 v)[1 + i]? = some (.slice none 0 0) := by
  unfold cells0
  rw [List.getElem?_append_right (by first | (simp; done) | (simp; omega)), List.getElem?_append_left (by first | (simp; done) | (simp; omega)), List.getElem?_replicate, if_pos (by first | (simp; done) | (simp; omega))]
theorem cells0_S (v : Value) (i : Nat) (h : i < 6) : (cells0 v)[37 + i]? = some (.bool false) := by
  unfold cells0
  rw [List.getElem?_append_right (by first | (simp; done) | (simp; omega)), List.getElem?_append_right (by first | (simp; done) | (simp; omega)), List.getElem?_append_left (by first | (simp; done) | (simp; omega)), List.getElem?_replicate, if_pos (by first | (simp; done) | (simp; omega))]
theorem cells0_C (v : Value) (i : Nat) (h : i < 36) : (cells0 v)[43 + i]? = some (.bool false) := by
  unfold cells0
  rw [List.getElem?_append_right (by first | (simp; done) | (simp; omega)), List.getElem?_append_right (by first | (simp; done) | (simp; omega)), List.getElem?_append_right (by first | (simp; done) | (simp; omega)), List.getElem?_append_left (by first | (simp; done) | (simp; omega)), List.getElem?_replicate, if_pos (by first | (simp; done) | (simp; omega))]
theorem rd_new {w0 w : World} {X : List Nat} {D : Nat} {ps : List Int} {g n c : Nat} (hm : MK w0 X w D ps dst0) (hp : IntsAt w (some ⟨g, 0, none⟩) n c ps) (hg : g < w0.heap.size) {cs : Array Value} (hcs : cs.toList = cells0 (.slice (some ⟨g, 0, none⟩) n c)) (t : TypeId) :
    J2 w0 (w.alloc (.cells cs t)) D w.heap.size ps dst0 dst0 := by
  have k : Kept w (w.alloc (.cells cs t)) := (Kept.refl w).alloc _
  have hc : ∀ i, (w.alloc (.cells cs t)).cell? ⟨w.heap.size, i, none⟩ = (cells0 (.slice (some ⟨g, 0, none⟩) n c))[i]? := fun i => by
    rw [cellOf (heap_alloc_new w _) i, ← hcs, Array.getElem?_toList]
  have h0 := hm.kept.size
  have hm2 : MK w0 [w.heap.size] (w.alloc (.cells cs t)) D ps dst0 := by
    have hh := hm.dr.more k w.heap.size (Nat.le_refl _) (by simp)
    have : DrIn w0 [w.heap.size] (w.alloc (.cells cs t)) D ps dst0 := by
      obtain ⟨PB, n, c, M1, M2, M3, fW, G, fS, fC, h⟩ := hh
      have hX : ∀ x ∈ [w.heap.size], x ∈ w.heap.size :: X := fun x hx => by simp at hx; simp [hx]
      exact ⟨_, _, _, _, _, _, _, _, _, _, { h with own := fun x hx => by obtain ⟨o1, o2, o3⟩ := h.own x hx; exact ⟨o1, o2, fun g => o3 (hX x g)⟩, gown := fun p x hx => by obtain ⟨o1, o2, o3, o4⟩ := h.gown p x hx; exact ⟨o1, o2, fun g => o3 (hX x g), o4⟩, lX := fun x hx => h.lX x (hX x hx) }⟩
    exact ⟨this, hm.mi, hm.cs, hm.ks, hm.kept.call k⟩
  refine ⟨⟨[w.heap.size], ⟨g, n, c, fun _ _ => .slice none 0 0, fun _ _ => none, ?_⟩, hm2⟩, .zero ps, .zero ps⟩
  exact
  { c0 := by rw [hc]; rfl
    cW := fun a b ha hb => by rw [hc, Nat.add_assoc]; exact cells0_W _ _ (by omega)
    cS := fun s hs => by rw [hc]; exact cells0_S _ _ hs
    cC := fun a b ha hb => by rw [hc, Nat.add_assoc]; exact cells0_C _ _ (by omega)
    cK := by rw [hc]; rfl
    frz := fun i => freeOf (heap_alloc_new w _) i
    par := hp.keep k
    gP := hg
    tree := hm.tree
    ways := fun a b _ _ => OpenK.nil _ _
    rX := by simp
    gX := fun a b x hx => by cases hx
    gap := fun a b a' b' x hx => by cases hx
    lX := fun x hx => by rw [List.mem_singleton.1 hx]; exact ⟨h0, by simp⟩ }
def zsRd : Array Value := (cells0 (.slice none 0 0)).toArray
theorem zeroRd (w : World) : (zeroValue 49).run Try.prog w = .ok (.agg zsRd) w := by kernel_rfl
theorem zsRd_ne : ¬ zsRd = #[] := by
  intro h
  have := congrArg Array.size h
  simp [zsRd, cells0] at this
theorem zsRd_set (v : Value) : (zsRd.setIfInBounds 0 v).toList = cells0 v := by
  rw [Array.toList_setIfInBounds]
  rfl
end Go.Proofs.Ytbofgpmbocjbiaa
