/- The walk of the law LinkNil: it returns true for every packet. -/
import Derived.Test.YtgcbadlajmbdhaaLinkX
set_option linter.unusedSimpArgs false
set_option linter.unusedVariables false
namespace Go.Proofs.Ytgcbadlajmbdhaa
open Go.RowKit

set_option maxHeartbeats 1000000 in
theorem linkNil_walk (q : Int) (d : ByteArray) (w : World) (_ : (Lit.int .i64 q).wf = true) (_ : d.size ≤ maxLen) :
    Calls Try.prog 9 #[.agg #[.int .i64 q, .string d]] w fun e w' => e = .returned (.bool true) ∧ Kept w w' := by
  go_enter Try.func9, Try.ntmps9
  go_wp2_with fail
  refine (send_nil d _).mono ?_
  rintro e w1 ⟨rfl, k1⟩
  have B1 := k1.heap (heap_alloc_new w (.cells #[.int .i64 q, .string d] 23))
  have K1 : Kept w w1 := ((Kept.refl w).alloc _).call k1
  obtain ⟨b0, b1, _, _⟩ := two_cells B1
  have z1 := k1.size
  simp only [World.size_alloc] at z1
  have y1 : w.heap.size < w1.heap.size := by omega
  go_wp2_with fail
  refine (take_nil q d _).mono ?_
  rintro e w2 ⟨rfl, k2⟩
  have k2' : Kept w1 w2 := ((Kept.refl w1).alloc _).call k2
  have z2 := k2.size
  simp only [World.size_alloc] at z2
  have y2 : w.heap.size < w2.heap.size := by omega
  have B2 := k2'.heap B1
  obtain ⟨c0, c1, _, _⟩ := two_cells B2
  clear b0 b1
  go_wp2_with fail
  let w3 := (w2.alloc (.cells #[.int .i64 0, .slice none 0 0] 60)).alloc (.cells #[.int .i64 0] 62)
  have S3 : SndX w [w2.heap.size + 1, w.heap.size] w3 w2.heap.size 0 [] := by
    refine ⟨none, Snd.kept (w := w2.alloc (.cells #[.int .i64 0, .slice none 0 0] 60)) ⟨_, heap_alloc_new w2 _, .inl ⟨rfl, rfl⟩, by simp, by simp⟩ ((Kept.refl _).alloc _), by omega, by simp, ?_⟩
    intro x hx
    simp only [List.mem_cons, List.not_mem_nil, or_false] at hx
    refine ⟨?_, ?_, by simp⟩
    · show x < ((w2.alloc _).alloc _).heap.size
      simp only [World.size_alloc]; omega
    · omega
  have R3 : Recv w3 (w2.heap.size + 1) 0 := by
    have := heap_alloc_new (w2.alloc (.cells #[.int .i64 0, .slice none 0 0] 60)) (.cells #[.int .i64 0] 62)
    rwa [World.size_alloc] at this
  have K2 : Kept w w2 := K1.call k2'
  have k3 : Kept w2 w3 := ((Kept.refl _).alloc _).alloc _
  have B3 := k3.heap B2
  refine (sendX w _ w2.heap.size 0 [] d 0 w3 S3 (K2.call k3) (by decide) (by decide) (by simp)).mono ?_
  rintro e w4 ⟨rfl, S4, K4, z4, x4⟩
  have R4 : Recv w4 (w2.heap.size + 1) 0 := (x4 _ (by simp)).trans R3
  have B4 := (x4 w.heap.size (by simp)).trans B3
  obtain ⟨d0, d1, _, _⟩ := two_cells B4
  clear c0 c1 B3 B2 B1
  go_wp2_with fail
  refine (take_yes (w2.heap.size + 1) 0 d _ (R4.kept (by repeat (first | exact Kept.refl _ | assumption | (refine Kept.alloc ?_ _) | (refine Kept.setCell ?_ (by first | omega | (simp; omega) | simp) _) | refine Kept.drew ?_ | refine Kept.drewN ?_ _ | (apply Kept.call; rotate_left; assumption)))) (by decide)).mono ?_
  rintro e w5 ⟨rfl, k5, R5⟩
  have B5 := k5.heap (Kept.heap (by repeat (first | exact Kept.refl _ | assumption | (refine Kept.alloc ?_ _) | (refine Kept.setCell ?_ (by first | omega | (simp; omega) | simp) _) | refine Kept.drew ?_ | refine Kept.drewN ?_ _ | (apply Kept.call; rotate_left; assumption))) B4) (by simp; omega)
  obtain ⟨e0, e1, _, _⟩ := two_cells B5
  have K5 : Kept w w5 := by
    refine Kept.but ?_ k5 (by simp; omega)
    repeat (first | exact Kept.refl _ | assumption | (refine Kept.alloc ?_ _) | (refine Kept.setCell ?_ (by first | omega | (simp; omega) | simp) _) | refine Kept.drew ?_ | refine Kept.drewN ?_ _ | (apply Kept.call; rotate_left; assumption))
  have B5' := B5
  clear d0 d1 B4 B5 S4 R4 S3 R3
  go_wp2_with fail
  refine (awake_any _).mono ?_
  rintro e w6 ⟨rfl, k6⟩
  have B6 := k6.heap B5'
  obtain ⟨f0, f1, _, _⟩ := two_cells B6
  clear e0 e1
  go_wp2_with fail
  refine (answer_nil _ _).mono ?_
  rintro e w7 ⟨rfl, k7⟩
  go_wp2_with fail
  refine (open_nil _).mono ?_
  rintro e w8 ⟨rfl, k8⟩
  have B8 := k8.heap (k7.heap B6)
  obtain ⟨g0, g1, _, _⟩ := two_cells B8
  have K8 := ((K5.call k6).call k7).call k8
  clear f0 f1 B6 B5' B8
  go_wp2_with (first | ((go_at_call 18; refine (next_nil _).mono ?_; rintro e w9 ⟨rfl, hb9⟩); (have hd9 : w9.cell? _ = _ := hb9.at_ g1)) | ((go_at_call 13; refine (waits_nil _).mono ?_; rintro e w10 ⟨rfl, hb10⟩); (have hd10 : w10.cell? _ = _ := hb10.at_ hd9)))
  go_ret
  exact ⟨by first | rfl | exact ret_bool (by simp), (K8.call hb9).call hb10⟩
end Go.Proofs.Ytgcbadlajmbdhaa
