/- The walk of the law VaryReads: it returns true for all bytes, any place, any bound. -/
import Derived.Test.YthceenheaegdbaaVaryRef2
set_option linter.unusedSimpArgs false
set_option linter.unusedVariables false
namespace Go.Proofs.Ythceenheaegdbaa
open Go.RowKit

theorem Rd.same {L : List UInt8} {a : Int} {n m : Nat} {e f : Int} {ok is : Bool} (h : Rd L a n e ok) (g : Rd L a m f is) : n = m ∧ e = f ∧ ok = is := by
  rcases g with ⟨rfl, g1, g2, g3, rfl⟩ | ⟨rfl, rfl, rfl, g1⟩
  · exact h.ok g2 g1 g3
  · exact h.no g1
theorem rd_is {s : ByteArray} {a : Int} {n : Nat} {en : Int} {ok : Bool} (h : Rd s.data.toList a n en ok) : decide (0 < en) = ok := by
  cases ok
  · rcases h with ⟨h, _⟩ | ⟨_, _, rfl, _⟩
    · cases h
    · rfl
  · have := rd_pos h
    simp; omega
theorem rt_is {s : ByteArray} {a : Int} {n : Nat} {en : Int} {ok : Bool} {most : Int} (h : Rd s.data.toList a n en ok) : decide (0 < rtE s n en ok most) = rtOk s n en ok most := by
  unfold rtE
  rcases ho : rtOk s n en ok most with _ | _
  · rfl
  · have hk : ok = true := by unfold rtOk at ho; cases ok <;> simp_all
    subst hk
    have := rd_pos h
    simp; omega
theorem SplitPost.same {s : ByteArray} {w1 w1' w2 w2' : World} {e f : Ending} (h : SplitPost s w1 e w1') (g : SplitPost s w2 f w2') :
    ∃ (ok : Bool) (ns : List Nat) (A B : Option Addr) (n c d : Nat), e = .returned (.tuple #[.slice A n c, .bool ok]) ∧ f = .returned (.tuple #[.slice B n d, .bool ok]) ∧ R64 w1' A n c ns ∧ R64 w2' B n d ns ∧ Kept w1 w1' ∧ Kept w2 w2' := by
  have nil : ∀ w : World, R64 w none 0 0 [] := fun w => ⟨rfl, Nat.le_refl _, by unfold maxLen; omega, fun h => by omega⟩
  rcases h with ⟨ns, A, n, c, rfl, h1, h2, h3, hk⟩ | ⟨rfl, h1, hk⟩
  · rcases g with ⟨ms, B, m, d, rfl, g1, g2, g3, gk⟩ | ⟨rfl, g1, gk⟩
    · obtain rfl : ms = ns := encs_inj (by rw [← g1, ← h1])
      obtain rfl : n = m := by rw [← h3.1, ← g3.1]
      exact ⟨true, ms, A, B, n, c, d, rfl, rfl, h3, g3, hk, gk⟩
    · exact absurd h1 (g1 ns h2)
  · rcases g with ⟨ms, B, m, d, rfl, g1, g2, g3, gk⟩ | ⟨rfl, g1, gk⟩
    · exact absurd g1 (h1 ms g2)
    · exact ⟨false, [], none, none, 0, 0, 0, rfl, rfl, nil _, nil _, hk, gk⟩

set_option maxHeartbeats 4000000 in
set_option maxRecDepth 100000 in
theorem varyReads_walk (s0 : ByteArray) (a most : Int) (w : World) (hs : s0.size ≤ maxLen) (ha : (Lit.int .i64 a).wf = true) (hm : (Lit.int .i64 most).wf = true) :
    Calls Try.prog 8 #[.string s0, .int .i64 a, .int .i64 most] w fun e w' => e = .returned (.bool true) ∧ Kept w w' := by
  unfold maxLen at hs
  have hbm := bounds_i64 hm
  have HBM := Lib.hid hbm
  have HS := Lib.hid hs
  clear hs ha hm hbm
  go_enter Try.func8, Try.ntmps8
  go_wp2_with fail
  refine (awake_any _).mono ?_
  rintro e w1 ⟨rfl, k1⟩
  go_wp2_with fail
  refine (short_any s0 40 40 _ rfl HS.out).mono ?_
  rintro e w2 ⟨rfl, k2⟩
  have K2 := k1.call k2
  have hz := sh_size s0 40
  generalize sh s0 40 = s at *
  go_wp2_with fail
  refine (read_rel s a w2 (by omega)).mono ?_
  rintro e w3 ⟨n, en, ok, rfl, hr, k3⟩
  have HR := Lib.hid hr
  clear hr
  go_wp2_with fail
  refine (rread_rel s a w3 (by omega)).mono ?_
  rintro e w4 ⟨n', en', ok', rfl, hr', k4⟩
  obtain ⟨rfl, rfl, rfl⟩ := hr'.same HR.out
  clear hr'
  have K4 := (K2.call k3).call k4
  have G4 := heap_alloc_new w4 (.cells #[.int .u64 n', .int .i64 en'] 43)
  have K4' : Kept w (w4.alloc (.cells #[.int .u64 n', .int .i64 en'] 43)) := K4.alloc _
  go_wp2_with fail
  refine (readText_rel s a most _ (by omega) HBM.out.1 HBM.out.2).mono ?_
  rintro e w5 ⟨n2, en2, ok2, rfl, hr2, k5⟩
  obtain ⟨rfl, rfl, rfl⟩ := hr2.same HR.out
  clear hr2
  go_wp2_with fail
  refine (rreadText_rel s a most _ (by omega) HBM.out.1 HBM.out.2).mono ?_
  rintro e w6 ⟨n3, en3, ok3, rfl, hr3, k6⟩
  obtain ⟨rfl, rfl, rfl⟩ := hr3.same HR.out
  clear hr3
  have K6 := (K4'.call k5).call k6
  have G6 := (k5.call k6).heap G4
  have hz4 : w4.heap.size < w6.heap.size := by have := (k5.call k6).size; simp at this; omega
  obtain ⟨T, hT⟩ : ∃ T, rtS s n3 en3 ok3 most = T := ⟨_, rfl⟩
  obtain ⟨E, hE⟩ : ∃ E, rtE s n3 en3 ok3 most = E := ⟨_, rfl⟩
  obtain ⟨O, hO⟩ : ∃ O, rtOk s n3 en3 ok3 most = O := ⟨_, rfl⟩
  have e1 := rd_is HR.out
  have e2 := rt_is (most := most) HR.out
  rw [hT, hE, hO] at *
  have HT := Lib.hid hT
  have HE := Lib.hid hE
  have HO := Lib.hid hO
  have E1 := Lib.hid e1
  have E2 := Lib.hid e2
  clear hT hE hO e1 e2 G4
  have H6 := heap_alloc_new w6 (.cells #[.string T, .int .i64 E] 46)
  have K6' : Kept w (w6.alloc (.cells #[.string T, .int .i64 E] 46)) := K6.alloc _
  have G6' : (w6.alloc (.cells #[.string T, .int .i64 E] 46)).heap[w4.heap.size]? = _ := ((Kept.refl w6).alloc _).heap G6
  have HG6 := Lib.hid G6'
  have HH6 := Lib.hid H6
  clear G6 G6' H6
  go_wp2_with fail
  refine (split_rel s _ (by omega)).mono ?_
  rintro e w7 h7
  have H7 := Lib.hid h7
  have k7 : Kept (w6.alloc (.cells #[.string T, .int .i64 E] 46)) w7 := by
    rcases h7 with ⟨_, _, _, _, _, _, _, _, hk⟩ | ⟨_, _, hk⟩ <;> exact hk
  obtain ⟨ok7, A7, n7, c7, rfl⟩ : ∃ ok7 A7 n7 c7, e = .returned (.tuple #[.slice A7 n7 c7, .bool ok7]) := by
    rcases h7 with ⟨ns, A, n, c, rfl, _⟩ | ⟨rfl, _⟩
    · exact ⟨_, _, _, _, rfl⟩
    · exact ⟨_, _, _, _, rfl⟩
  clear h7
  go_wp2_with fail
  refine (rsplit_rel s _ (by omega)).mono ?_
  rintro e w8 h8
  obtain ⟨ok8, ns, A8, B8, n8, c8, d8, e8, rfl, R8, R9, _, k8⟩ := H7.out.same h8
  clear h8
  injection e8 with e8
  simp only [Value.tuple.injEq, Array.mk.injEq, List.cons.injEq, Value.slice.injEq, Value.bool.injEq, and_true, true_and] at e8
  obtain ⟨⟨rfl, rfl, rfl⟩, rfl⟩ := e8
  clear H7
  have R8' := R8.kept k8
  have HR8 := Lib.hid R8'
  have HR9 := Lib.hid R9
  clear R8 R8' R9
  go_wp2_with fail
  refine (same_rows A7 B8 c7 d8 n7 n7 ns _ HR8.out HR9.out).mono ?_
  rintro e w9 ⟨rfl, k9⟩
  have K9 := ((K6'.call k7).call k8).call k9
  have G9 := ((k7.call k8).call k9).heap HG6.out
  have H9 := ((k7.call k8).call k9).heap HH6.out
  have g0 : w9.cell? ⟨w4.heap.size, 0, none⟩ = some (.int .u64 n3) := by rw [Lib.cell_of_heap G9]; rfl
  have g1 : w9.cell? ⟨w4.heap.size, 1, none⟩ = some (.int .i64 en3) := by rw [Lib.cell_of_heap G9]; rfl
  have h0 : w9.cell? ⟨w6.heap.size, 0, none⟩ = some (.string T) := by rw [Lib.cell_of_heap H9]; rfl
  have h1 : w9.cell? ⟨w6.heap.size, 1, none⟩ = some (.int .i64 E) := by rw [Lib.cell_of_heap H9]; rfl
  clear G9 H9
  have e1 := E1.out
  have e2 := E2.out
  go_wp2_with fail
  go_ret
  exact ⟨by first | rfl | exact ret_bool (by simp), K9⟩
end Go.Proofs.Ythceenheaegdbaa
