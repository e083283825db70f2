/- The walk of the link's Send where there is room. -/
import Derived.Test.YtbofoafcglmboaaLinkT
set_option linter.unusedSimpArgs false
set_option linter.unusedVariables false
namespace Go.Proofs.Ytbofoafcglmboaa
open Go.RowKit

/-- Where the slice of a sender may lie behind a call: where it lay, or in a new block. -/
def GNew (w w2 : World) (G G2 : Option Nat) : Prop := G2 = G ∨ ∃ g, G2 = some g ∧ w.heap.size ≤ g ∧ g < w2.heap.size

set_option maxHeartbeats 1000000 in
theorem send_go (s : Nat) (G : Option Nat) (A : Option Addr) (cap N lo n : Nat) (ds : List ByteArray) (d : ByteArray) (w : World) (hn : n = ds.length) (hN : N = lo + n) (h8 : n < 8) (hlo : N < 4611686018427387904)
    (h2 : w.heap[s]? = some (.cells #[.int .i64 N, .slice A n cap] 71 (0, 0)))
    (ho : OpenAt w G (.slice A n cap) n (pk lo ds)) (hGs : s ∉ G.toList) (hGl : ∀ g ∈ G.toList, g < w.heap.size) :
    Calls Try.prog 22 #[.pointer (some ⟨s, 0, none⟩), .string d] w fun e w' => e = .returned (.tuple #[.agg #[.int .i64 N, .string d], .int .i64 0]) ∧
      ∃ G2, GNew w w' G G2 ∧ Snd w' s G2 lo (ds ++ [d]) ∧ But (s :: G.toList) w w' := by
  have hs : s < w.heap.size := (Array.getElem?_eq_some_iff.1 h2).1
  obtain ⟨c0, c1, f0, f1⟩ := two_cells h2
  have H2 := Lib.hid h2
  have HO := Lib.hid ho
  have HN := Lib.hid hn
  have HNN := Lib.hid hN
  have HGl := Lib.hid hGl
  have n1 : s ∉ G.toList := hGs
  have n2 : w.heap.size ∉ G.toList := fun h => by have := hGl _ h; omega
  have n3 : w.heap.size + 1 ∉ G.toList := fun h => by have := hGl _ h; omega
  clear h2 ho hn hN hGs hGl
  go_enter Try.func22, Try.ntmps22
  go_wp2
  refine wp_region_text (keepsBut G.toList) (fun wB => But [s] w wB ∧ wB.heap[s]? = some (.cells #[.int .i64 ((N : Int) + 1), .slice A n cap] 71 (0, 0)) ∧
      wB.heap[w.heap.size]? = some (.cells #[.int .i64 0, .string ⟨#[]⟩] 60 (0, 0)) ∧ wB.heap[w.heap.size + 1]? = some (.cells #[.int .i64 N, .string d] 60 (0, 0)) ∧
      OpenAt wB G (.slice A n cap) n (pk lo ds)) ?_ (by kernel_rfl) (by kernel_rfl) _ rfl ?_
  · have e1 : But [s] w (w.setCell ⟨s, 0, none⟩ (.int .i64 ((N : Int) + 1))) := (But.refl _ _).setCell (by simp) _
    have e2 : (w.setCell ⟨s, 0, none⟩ (.int .i64 ((N : Int) + 1))).heap[s]? = some (.cells #[.int .i64 ((N : Int) + 1), .slice A n cap] 71 (0, 0)) := by
      have := H2.out
      simp [World.setCell, Array.getElem?_modify, this]
    have e3 : ∀ o1 o2, Kept (w.setCell ⟨s, 0, none⟩ (.int .i64 ((N : Int) + 1))) (((w.setCell ⟨s, 0, none⟩ (.int .i64 ((N : Int) + 1))).alloc o1).alloc o2) := fun o1 o2 => ((Kept.refl _).alloc _).alloc _
    refine ⟨e1.trans (.of_kept (e3 _ _)), (e3 _ _).heap e2, ?_, ?_, (HO.out.but e1 (fun g hg => by rintro h; simp at h; subst h; exact n1 (by simp [hg]))).but (.of_kept (S := []) (e3 _ _)) (by simp)⟩
    · have := heap_alloc_new (w.setCell ⟨s, 0, none⟩ (.int .i64 ((N : Int) + 1))) (.cells #[.int .i64 0, .string ⟨#[]⟩] 60)
      simp only [World.size_setCell] at this
      exact ((Kept.refl _).alloc _).heap this
    · have := heap_alloc_new ((w.setCell ⟨s, 0, none⟩ (.int .i64 ((N : Int) + 1))).alloc (.cells #[.int .i64 0, .string ⟨#[]⟩] 60)) (.cells #[.int .i64 N, .string d] 60)
      simp only [World.size_setCell, World.size_alloc] at this
      exact this
  rintro wB ⟨hB, B1, B2, B3, B4⟩
  have HB4 := Lib.hid B4
  have HBz := Lib.hid (Array.getElem?_eq_some_iff.1 B3).1
  clear B4
  iterate 6 (apply DW.det; (focus (intro wd hI; have x1 := cellOf (hI.heap B1 n1) 1; have x2 := cellOf (hI.heap B3 n3) 0; have x3 := cellOf (hI.heap B3 n3) 1; simp only [List.getElem?_toArray, List.getElem?_cons_zero, List.getElem?_cons_succ] at x1 x2 x3; go_wp2_with (fail); refine StepPost.mk _ rfl ⟨rfl, ?_⟩; repeat (first | exact Kept.refl _ | assumption | (refine Kept.alloc ?_ _) | (refine Kept.setCell ?_ (by first | omega | (simp; omega) | simp) _) | refine Kept.drew ?_ | refine Kept.drewN ?_ _ | (apply Kept.call; rotate_left; assumption)))); simp only [Act.put, List.setIfInBounds_toArray, List.set_cons_succ, List.set_cons_zero])
  refine DW.loud (by kernel_rfl) ?_
  intro wd hI
  go_wp2_with (fail)
  refine StepPost.loud _ rfl (by repeat (first | exact But.refl _ _ | assumption | (refine But.alloc ?_ _) | (refine But.setCell ?_ (by first | (right; omega) | (right; simp; omega) | (left; simp)) _) | refine But.drew ?_ | refine But.drewN ?_ _ | (apply But.trans; rotate_left; assumption))) (fun hkL => ?_)
  simp only [Act.put, List.setIfInBounds_toArray, List.set_cons_succ, List.set_cons_zero]
  clear hkL
  refine DW.loud (by kernel_rfl) ?_
  intro we hJ
  have hJ2 : Kept wB we := (hI.alloc _).call hJ
  have O5 := HB4.out.but (.of_kept (S := []) hJ2) (by simp)
  have B5 := hJ2.heap B1
  have B6 := hJ2.heap B3
  have B7 := hJ2.heap B2
  have N5 : we.heap[wd.heap.size]? = some (.cells #[.int .i64 N, .string d] 60 (0, 0)) := hJ.heap (heap_alloc_new wd _)
  obtain ⟨i0, hi, hz0, hz1, hz2⟩ := info_parts infoPk
  have hnl : (pk lo ds).length = n * 2 := by rw [pk_len, ← HN.out]
  refine append_open we rfl _ _ 37 rfl 60 i0 (.agg #[.int .i64 0, .string ⟨#[]⟩]) 24 Try.underlying37 hi hz0 hz1 hz2 rfl G _ n (pk lo ds) O5 hnl rfl ⟨wd.heap.size, 0, none⟩ 1 [.int .i64 N, .string d] rfl rfl
    (news_two N5) (one_two _ _) (by unfold maxLen; omega) (by omega) ?_
  intro v6 w6 G6 C0 O6 hG6
  have C5 := C0.heap B5 n1
  have C6 := C0.heap B6 n3
  have C7 := C0.heap B7 n2
  have HO6 := Lib.hid O6
  have HG6 := Lib.hid hG6
  have HC0 := Lib.hid C0
  refine StepPost.loud _ rfl C0 (fun _ => ?_)
  simp only [Act.put, List.setIfInBounds_toArray, List.set_cons_succ, List.set_cons_zero]
  clear O5 B5 B6 B7 N5 hi hz0 hz1 hz2 hnl O6 hG6 C0
  iterate 2 (apply DW.det; (focus (intro wg hG; go_wp2_with (fail); refine StepPost.mk _ rfl ⟨rfl, ?_⟩; repeat (first | exact Kept.refl _ | assumption | (refine Kept.alloc ?_ _) | (refine Kept.setCell ?_ (by first | omega | (simp; omega) | simp) _) | refine Kept.drew ?_ | refine Kept.drewN ?_ _ | (apply Kept.call; rotate_left; assumption)))); simp only [Act.put, List.setIfInBounds_toArray, List.set_cons_succ, List.set_cons_zero])
  refine DW.tail (by kernel_rfl) ?_
  intro wf hF
  have D5 := hF.heap C5
  have D6 := hF.heap C6
  have D7 := hF.heap C7
  have x1 := cellOf D5 1
  have x2 := cellOf D6 0
  have x3 := cellOf D6 1
  have x4 := cellOf D7 0
  have x5 := cellOf D7 1
  have y1 := freeOf D5 1
  have y4 := freeOf D7 0
  have y5 := freeOf D7 1
  simp only [List.getElem?_toArray, List.getElem?_cons_zero, List.getElem?_cons_succ] at x1 x2 x3 x4 x5
  have HD := Lib.hid D5
  clear D5 D6 D7 C5 C6 C7 B1 B2 B3 c0 c1 f0 f1
  obtain ⟨A6, c6, hv6⟩ : ∃ A6 c6, v6 = .slice A6 (n + 1) c6 := by
    rcases HO6.out with ⟨_, h⟩ | ⟨b, off, cap, hv, _⟩
    · omega
    · exact ⟨_, _, hv⟩
  have HV := Lib.hid hv6
  rw [hv6]
  clear hv6
  have ne1 : w.heap.size ≠ s := by omega
  go_wp2
  -- what has become of the world
  have k1 : But (s :: G.toList) w wf := (((hB.mono (by simp)).trans (.of_kept hJ2)).trans (HC0.out.mono (fun x hx => List.mem_cons_of_mem _ hx))).trans (.of_kept hF)
  have hz : w.heap.size + 1 < we.heap.size := by
    have := hJ2.size
    have := hB.size
    have hBz : w.heap.size + 1 < wB.heap.size := HBz.out
    omega
  have g1 : ∀ g, G6 = some g → g ≠ s ∧ g ≠ w.heap.size ∧ g < wf.heap.size := by
    intro g hg
    rcases HG6.out with h | ⟨g', h, h3, h4⟩
    · have hgm : g ∈ G.toList := by rw [← h, hg]; simp
      exact ⟨fun e => n1 (e ▸ hgm), fun e => n2 (e ▸ hgm), by have := HGl.out g hgm; have := k1.size; omega⟩
    · rw [hg] at h; injection h with h; subst h
      exact ⟨by omega, by omega, by have := hF.size; omega⟩
  refine bodyPost_ret (v := .tuple #[.agg #[.int .i64 N, .string d], .int .i64 0]) (by simp [results, Try.results22, go_sem, x4, x5, ne1]) rfl ⟨rfl, G6, ?_, ?_, ?_⟩
  · rcases HG6.out with h | ⟨g, h, h3, h4⟩
    · exact .inl h
    · exact .inr ⟨g, h, by omega, by have := hF.size; simp; omega⟩
  · refine ⟨.slice A6 (n + 1) c6, ?_, ?_, ?_, ?_⟩
    · have := HD.out
      have e : (N : Int) + 1 = ((lo + (ds ++ [d]).length : Nat) : Int) := by have := HN.out; have := HNN.out; simp; omega
      rw [← e]
      simp [World.setCell, Array.getElem?_modify, this, ne1, Ne.symm ne1]
    · have e : (ds ++ [d]).length = n + 1 := by have := HN.out; simp; omega
      have e2 : pk lo (ds ++ [d]) = pk lo ds ++ [.int .i64 N, .string d] := by rw [pk_snoc, ← HN.out, ← HNN.out]
      rw [e, e2, ← HV.out]
      have := HO6.out.but (S := [s, w.heap.size]) (w2 := ((wf.setCell ⟨s, 1, none⟩ v6).setCell ⟨w.heap.size, 0, none⟩ (.int .i64 N)).setCell ⟨w.heap.size, 1, none⟩ (.string d))
        ((((But.of_kept hF).setCell (by simp) _).setCell (by simp) _).setCell (by simp) _) (fun g hg => by have := g1 g hg; simp; omega)
      exact this
    · intro h; exact (g1 s h).1 rfl
    · intro g hg; have := (g1 g hg).2.2; simpa using this
  · exact (((k1.setCell (by simp) _).setCell (by simp) _).setCell (by simp) _)

theorem send_ok (s : Nat) (G : Option Nat) (lo : Nat) (ds : List ByteArray) (d : ByteArray) (w : World) (h : Snd w s G lo ds) (h8 : ds.length < 8) (hlo : lo + ds.length < 4611686018427387904) :
    Calls Try.prog 22 #[.pointer (some ⟨s, 0, none⟩), .string d] w fun e w' => e = .returned (.tuple #[.agg #[.int .i64 ((lo + ds.length : Nat) : Int), .string d], .int .i64 0]) ∧
      ∃ G2, GNew w w' G G2 ∧ Snd w' s G2 lo (ds ++ [d]) ∧ But (s :: G.toList) w w' := by
  obtain ⟨v, h2, h3, h4, h5⟩ := h
  obtain ⟨A, c, rfl⟩ : ∃ A c, v = .slice A ds.length c := by
    rcases h3 with ⟨rfl, h⟩ | ⟨b, off, cap, hv, _⟩
    · exact ⟨none, 0, by rw [h]⟩
    · exact ⟨_, _, hv⟩
  exact send_go s G A c (lo + ds.length) lo ds.length ds d w rfl rfl h8 hlo h2 h3 (by simpa using h4) (fun g hg => h5 g (by simpa using hg))
end Go.Proofs.Ytbofoafcglmboaa
