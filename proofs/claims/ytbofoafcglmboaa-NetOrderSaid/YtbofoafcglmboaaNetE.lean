/- The net's Idle. -/
import Derived.Test.YtbofoafcglmboaaNetD
set_option linter.unusedSimpArgs false
set_option linter.unusedVariables false
namespace Go.Proofs.Ytbofoafcglmboaa
open Go.RowKit Go.Maps

theorem Rp_ptr (v : Value) (y : DataW Unit × List MemPlace) (h : Rp v = some y) : ∃ c, v = ptr c := by
  unfold Rp at h
  split at h
  · exact ⟨none, rfl⟩
  · rename_i b; exact ⟨some b, rfl⟩
  · cases h
theorem Rp_of_ptr {c : Option Nat} {y : DataW Unit × List MemPlace} {s : Nat} (h : Rp (ptr c) = some y) (hy : y.1 = .lit (.int .i64 (s : Int))) : c = some s := by
  cases c with
  | none => simp [ptr, Rp] at h; rw [← h] at hy; cases hy
  | some b =>
    simp [ptr, Rp] at h
    rw [← h] at hy
    injection hy with hy
    injection hy with _ hy
    have : b = s := by omega
    rw [this]
theorem key_id (key : Value) (kl : Lit) (_ : keyOf Try.prog 57 key = some kl) : ∃ x : Value, key = x := ⟨key, rfl⟩
def StillOk (S : Who) (st : Nat → Nat → Ses) (left : Lit → Bool) : Prop := ∀ a c s, a < 6 → c < 6 → S a c = some s → left (kl a c) = false → (st a c).T.length ≤ (st a c).lo
theorem keptGrown {a b : World} (h : Kept a b) : a.grownBy b none := ⟨h.os, h.tape, h.output, h.size, fun i hi _ => h.block i hi⟩
theorem own_slice {w : World} {base e k n : Nat} {v : Value} {xs : List Value} (h : w.ownsRow base e k v n xs) : ∃ A c, v = .slice A n c := by
  rcases h.2 with ⟨rfl, rfl⟩ | ⟨g, cap, cur, rfl, _⟩
  · exact ⟨_, _, rfl⟩
  · exact ⟨_, _, rfl⟩
theorem still_step {S : Who} {st : Nat → Nat → Ses} {left : Lit → Bool} {a b : Nat} (h : StillOk S st left) (ha : a < 6) (hb : b < 6) (hz : (st a b).T.length ≤ (st a b).lo) : StillOk S st (fun z => left z && !z.sameKey (kl a b)) := by
  intro a2 c2 s2 ha2 hc2 hs2 hl
  simp only [Bool.and_eq_false_iff, Bool.not_eq_false'] at hl
  rcases hl with hl | hl
  · exact h a2 c2 s2 ha2 hc2 hs2 hl
  · obtain ⟨rfl, rfl⟩ := kl_inj ha2 hc2 ha hb (WideAt.sameKey_eq hl)
    exact hz
theorem still_start {S : Who} {st : Nat → Nat → Ses} {D : DataW Unit} (h : ∀ a c, a < 6 → c < 6 → ∀ z, D.atKey (kl a c) z = match S a c with | some s => .lit (.int .i64 (s : Int)) | none => z) : StillOk S st (Maps.has D) := by
  intro a c s ha hc hs hl
  have := has_true_of_atKey (D := D) (k := kl a c) (fun z => by rw [h a c ha hc z, hs])
  rw [this] at hl; cases hl
set_option maxRecDepth 20000 in
set_option maxHeartbeats 2000000 in
theorem nidle_any (w0 : World) (X : List Nat) (N : Nat) (P : Nat → Nat → Bool) (st : Nat → Nat → Ses) (w : World) (h : NetIn w0 X w N P st) (hb : ∀ a c, a < 6 → c < 6 → P a c = true → (st a c).T.length ≤ 4294967296) :
    Calls Try.prog 16 #[.pointer (some ⟨N, 0, none⟩)] w fun e w' => (∃ B, e = .returned (.bool B) ∧ (B = true ↔ ∀ a c, a < 6 → c < 6 → P a c = true → (st a c).T.length ≤ (st a c).lo)) ∧ Kept w w' := by
  obtain ⟨M, n, S, F, h⟩ := h
  have HH := Lib.hid h
  have HB := Lib.hid hb
  obtain ⟨D, hown, hat, hhas⟩ := h.map
  have HAT := Lib.hid hat
  have HHAS := Lib.hid hhas
  have c0 : w.cell? ⟨N, 0, none⟩ = some (.map (some M)) := by
    have := cellOf h.net 0
    simpa using this
  clear h hb hat hhas
  go_enter Try.func16, Try.ntmps16
  go_wp2_with (first
    | (at_range; refine wpList_range_own _ rfl _ 46 rfl 57 49 keyPair Try.underlying46 Rp M n D rfl hown ?_; intro w1 hrg0 hg0 hs0)
    | go_in)
  go_frame
  have K1 : Hid (Kept w w1) := (Kept.refl w).grown hg0 (fun g hg => by cases hg)
  have HR0 := Lib.hid hrg0
  clear hown hrg0 hg0 hs0
  go_loopw [4] (fun sv wr => ∃ (left : Lit → Bool) (cnt : Nat) (v : Value), sv = v ∧ Hid (wr.ranges Try.prog 57 Rp M w.heap.size n D left cnt) ∧ Hid (∀ kl, left kl = true → Maps.has D kl = true) ∧ Hid (StillOk S st left) ∧ Kept w wr) (fun _ wr => wr.rangeLeft M w.heap.size)
  case atStart => exact ⟨_, _, _, rfl, HR0, fun k hk => hk, still_start HAT.out, K1.out⟩
  case round =>
    obtain ⟨left, cnt, v, rfl, hrg, hlh, hst, kr⟩ := hrel
    go_wp2_with (first
      | (at_next; refine wpList_next_ranges _ rfl _ rfl 57 keyPair Rp (fun x : Value => x) ptr key_id Rp_ptr M w.heap.size n D left cnt rfl hrg.out ?_ ?_)
      | go_in)
    · intro _ hl0
      go_wp2
      go_ret
      refine ⟨⟨true, rfl, iff_of_true rfl fun a c ha hc hP => ?_⟩, kr⟩
      obtain ⟨s, hs⟩ := (HH.out.who a c ha hc).1 hP
      exact hst.out a c s ha hc hs (hl0 _)
    · intro x c klx ya yb w2 cnt1 hkey hlx hR hatx hrg1 hlt hg1 hs1 hen
      obtain ⟨a, b, s, ha, hc, hs, rfl⟩ := HHAS.out klx (hlh.out klx hlx)
      have hya : ya = .lit (.int .i64 (s : Int)) := by rw [← hatx .nil, HAT.out a b ha hc .nil, hs]
      obtain rfl := Rp_of_ptr hR hya
      have k2 : Kept w w2 := kr.grown hg1 (fun g hg => by injection hg with hg; omega)
      have HR1 := Lib.hid hrg1
      have HRG := hrg
      obtain ⟨sb, rb, Go, Gw, v2, q1, q2, q3, q4, q5, q6, q7, q8, q9⟩ := (HH.out.ses a b s ha hc hs).keep k2
      have c0 := (three_cells q4).1
      have Q5 := Lib.hid q5
      have hP : P a b = true := (HH.out.who a b ha hc).2 ⟨s, hs⟩
      have hbd := HB.out a b ha hc hP
      have hneed : Hid ((st a b).T.length ≤ (st a b).lo ∨ ¬ ((st a b).T.length ≤ (st a b).lo)) := Decidable.em _
      have hlen : (List.drop (st a b).lo (st a b).T).length = (st a b).T.length - (st a b).lo := List.length_drop
      have HLEN := Lib.hid hlen
      have hlt2 := Lib.hid hlt
      have H2 := Lib.hid k2
      clear q1 q2 q3 q4 q5 q6 q7 q9 hkey hatx hR hya hlen hlx hrg1 hg1 hs1 hlt hbd k2 kr
      unfold ptr at hen ⊢
      obtain ⟨n3, hn3⟩ : ∃ n3, (st a b).T.length - (st a b).lo = n3 := ⟨_, rfl⟩
      have HN3 := Lib.hid hn3
      rcases Nat.eq_zero_or_pos n3 with hz | hz
      · subst hz
        clear hn3
        go_wp2_with (first
          | (go_at_call 23; refine (open_any sb Go (st a b).lo _ _ Q5.out (by rw [HLEN.out, HN3.out]; omega)).mono ?_; rintro e w3 ⟨v', rfl, hown3, k3⟩; rw [HLEN.out, HN3.out] at hown3; have HK3 := Lib.hid k3; obtain ⟨A3, c3, rfl⟩ := own_slice hown3; clear hown3 k3))
        go_roundw
        case rel => exact ⟨_, cnt1, _, rfl, Lib.hid (HR1.out.kept (keptGrown HK3.out) (by simp) (by simp)), fun kl hk => hlh.out kl (by simp at hk; exact hk.1), still_step hst.out ha hc (by have := HN3.out; omega), H2.out.call HK3.out⟩
        case measure => rw [(HR1.out.kept (keptGrown HK3.out) (by simp) (by simp)).left_eq, HRG.out.left_eq]; exact hlt2.out
      · have hz1 : (0 : Int) < n3 := by omega
        clear hn3
        go_wp2_with (first
          | (go_at_call 23; refine (open_any sb Go (st a b).lo _ _ Q5.out (by rw [HLEN.out]; have := HB.out a b ha hc hP; omega)).mono ?_; rintro e w3 ⟨v', rfl, hown3, k3⟩; rw [HLEN.out, HN3.out] at hown3; have HK3 := Lib.hid k3; obtain ⟨A3, c3, rfl⟩ := own_slice hown3; clear hown3 k3))
        go_ret
        exact ⟨⟨false, rfl, iff_of_false (by simp) fun hall => by have := hall a b ha hc hP; have := HN3.out; omega⟩, H2.out.call HK3.out⟩
end Go.Proofs.Ytbofoafcglmboaa
