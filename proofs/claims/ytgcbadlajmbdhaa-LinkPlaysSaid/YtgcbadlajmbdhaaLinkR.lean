/- The document's own ends (archipelagoref10): what they do. -/
import Derived.Test.YtgcbadlajmbdhaaOpenK
import Derived.Test.YtgcbadlajmbdhaaLinkY
set_option linter.unusedSimpArgs false
set_option linter.unusedVariables false
namespace Go.Proofs.Ytgcbadlajmbdhaa
open Go.RowKit

theorem infoStr : (Try.prog.info? 9).map (fun i => (i.zero, i.size, i.bytes)) = some (some (.string ⟨#[]⟩), 1, 16) := by kernel_rfl

def strs (l : List ByteArray) : List Value := l.map .string
theorem strs_len (l : List ByteArray) : (strs l).length = l.length := by simp [strs]
theorem strs_snoc (l : List ByteArray) (d : ByteArray) : strs l ++ [.string d] = strs (l ++ [d]) := by simp [strs]

/-- The document's sender in block t: all that was sent, and how many were answered. -/
def RSnd (w : World) (t : Nat) (G : Option Nat) (lo : Nat) (all : List ByteArray) : Prop :=
  ∃ v, w.heap[t]? = some (.cells #[v, .int .i64 (lo : Int)] 49 (0, 0)) ∧ OpenK w G v all.length 1 (strs all) ∧ G ≠ some t ∧ (∀ g, G = some g → g < w.heap.size)
theorem RSnd.but {S : List Nat} {w w2 : World} {s : Nat} {G : Option Nat} {lo : Nat} {ds : List ByteArray} (h : RSnd w s G lo ds) (hb : But S w w2) (h1 : s ∉ S) (hn : ∀ g, G = some g → g ∉ S) : RSnd w2 s G lo ds := by
  obtain ⟨v, h2, h3, h4, h5⟩ := h
  exact ⟨v, hb.heap h2 h1, h3.but hb hn, h4, fun g hg => Nat.lt_of_lt_of_le (h5 g hg) hb.size⟩
theorem RSnd.kept {w w2 : World} {s : Nat} {G : Option Nat} {lo : Nat} {ds : List ByteArray} (h : RSnd w s G lo ds) (hb : Kept w w2) : RSnd w2 s G lo ds := h.but (.of_kept (S := []) hb) (by simp) (by simp)
theorem RSnd.lt {w : World} {s : Nat} {G : Option Nat} {lo : Nat} {ds : List ByteArray} (h : RSnd w s G lo ds) : s < w.heap.size := by
  obtain ⟨v, h2, _⟩ := h
  exact (Array.getElem?_eq_some_iff.1 h2).1

set_option maxHeartbeats 400000 in
theorem rsend_full (s : Nat) (G : Option Nat) (lo : Nat) (ds : List ByteArray) (d : ByteArray) (w : World) (h : RSnd w s G lo ds) (hf : lo + 8 ≤ ds.length) (hb : ds.length < 4294967296) :
    Calls Try.prog 21 #[.pointer (some ⟨s, 0, none⟩), .string d] w fun e w' => e = .returned (.tuple #[.agg #[.int .i64 0, .string ⟨#[]⟩], .int .i64 15]) ∧ Kept w w' := by
  obtain ⟨v, h2, h3, _⟩ := h
  obtain ⟨A, c, rfl⟩ := h3.form
  obtain ⟨c0, c1, f0, f1⟩ := two_cells h2
  have hs : s < w.heap.size := (Array.getElem?_eq_some_iff.1 h2).1
  clear h2 h3
  generalize ds.length = n at *
  have P0 : (w.alloc (.cells #[.int .i64 0, .string ⟨#[]⟩] 23)).heap[w.heap.size]? = _ := heap_alloc_new w _
  go_enter Try.func21, Try.ntmps21
  go_wp2
  refine wp_region_text keepsOne (fun wB => Kept w wB ∧ Kept (w.alloc (.cells #[.int .i64 0, .string ⟨#[]⟩] 23)) wB ∧ wB.cell? ⟨s, 0, none⟩ = some (.slice A n c) ∧ wB.cell? ⟨s, 1, none⟩ = some (.int .i64 lo)) ?_ (by kernel_rfl) (by kernel_rfl) _ rfl ?_
  · exact ⟨by repeat (first | exact Kept.refl _ | assumption | (refine Kept.alloc ?_ _) | (refine Kept.setCell ?_ (by first | omega | (simp; omega) | simp) _) | refine Kept.drew ?_ | refine Kept.drewN ?_ _ | (apply Kept.call; rotate_left; assumption)), by repeat (first | exact Kept.refl _ | assumption | (refine Kept.alloc ?_ _) | (refine Kept.setCell ?_ (by first | omega | (simp; omega) | simp) _) | refine Kept.drew ?_ | refine Kept.drewN ?_ _ | (apply Kept.call; rotate_left; assumption)), by first | assumption | go_simp, by first | assumption | go_simp⟩
  rintro wB ⟨hkB, hkB1, sB1, sB2⟩
  repeat (first | (apply DW.det; (focus (intro wd hI; have hkd1 := hkB1.call hI; have td1 := hI.at_ sB1; have td2 := hI.at_ sB2; go_wp2_with fail; refine StepPost.mk _ rfl ⟨rfl, ?_⟩; repeat (first | exact Kept.refl _ | assumption | (refine Kept.alloc ?_ _) | (refine Kept.setCell ?_ (by first | omega | (simp; omega) | simp) _) | refine Kept.drew ?_ | refine Kept.drewN ?_ _ | (apply Kept.call; rotate_left; assumption)))); simp only [Act.put, List.setIfInBounds_toArray, List.set_cons_succ, List.set_cons_zero]) | (refine DW.loud (by kernel_rfl) ?_; intro wd hI; have hkd1 := hkB1.call hI; have td1 := hI.at_ sB1; have td2 := hI.at_ sB2; go_wp2_with fail; refine StepPost.loud _ rfl (by repeat (first | exact Kept.refl _ | assumption | (refine Kept.alloc ?_ _) | (refine Kept.setCell ?_ (by first | omega | (simp; omega) | simp) _) | refine Kept.drew ?_ | refine Kept.drewN ?_ _ | (apply Kept.call; rotate_left; assumption))) (fun hkL => ?_); have hkL := hI.call hkL; have hkB := hkB.call hkL; have hkB1 := hkB1.call hkL; have sB1 := hkL.at_ sB1; have sB2 := hkL.at_ sB2; simp only [Act.put, List.setIfInBounds_toArray, List.set_cons_succ, List.set_cons_zero]))
  refine DW.nil ?_
  intro wd hI
  have hkd := hkB.call hI
  have hkd1 := hkB1.call hI; have td1 := hI.at_ sB1; have td2 := hI.at_ sB2
  obtain ⟨p0, p1, q0, q1⟩ := two_cells (hkd1.heap P0)
  go_wp2
  refine bodyPost_ret (v := .tuple #[.agg #[.int .i64 0, .string ⟨#[]⟩], .int .i64 15]) (by simp [results, Try.results21, go_sem, p0, p1]) rfl ⟨rfl, ?_⟩
  repeat (first | exact Kept.refl _ | assumption | (refine Kept.alloc ?_ _) | (refine Kept.setCell ?_ (by first | omega | (simp; omega) | simp) _) | refine Kept.drew ?_ | refine Kept.drewN ?_ _ | (apply Kept.call; rotate_left; assumption))

set_option maxHeartbeats 1000000 in
theorem rsend_go (s : Nat) (G : Option Nat) (A : Option Addr) (cap lo n : Nat) (ds : List ByteArray) (d : ByteArray) (w : World) (hn : n = ds.length) (h8 : n < lo + 8) (hlo : n < 4294967296) (hln : lo ≤ n)
    (h2 : w.heap[s]? = some (.cells #[.slice A n cap, .int .i64 lo] 49 (0, 0)))
    (ho : OpenK w G (.slice A n cap) n 1 (strs ds)) (hGs : s ∉ G.toList) (hGl : ∀ g ∈ G.toList, g < w.heap.size) :
    Calls Try.prog 21 #[.pointer (some ⟨s, 0, none⟩), .string d] w fun e w' => e = .returned (.tuple #[.agg #[.int .i64 n, .string d], .int .i64 0]) ∧
      ∃ G2, GNew w w' G G2 ∧ RSnd w' s G2 lo (ds ++ [d]) ∧ But (s :: G.toList) w w' := by
  have hs : s < w.heap.size := (Array.getElem?_eq_some_iff.1 h2).1
  obtain ⟨c0, c1, f0, f1⟩ := two_cells h2
  have H2 := Lib.hid h2
  have HO := Lib.hid ho
  have HN := Lib.hid hn
  have HGl := Lib.hid hGl
  have nP : w.heap.size ∉ G.toList := fun h => by have := hGl _ h; omega
  have nps : s ≠ w.heap.size := by omega
  clear h2 ho hn hGl
  have P0 : (w.alloc (.cells #[.int .i64 0, .string ⟨#[]⟩] 23)).heap[w.heap.size]? = _ := heap_alloc_new w _
  go_enter Try.func21, Try.ntmps21
  go_wp2
  refine wp_region_text keepsOne (fun wB => Kept w wB ∧ Kept (w.alloc (.cells #[.int .i64 0, .string ⟨#[]⟩] 23)) wB ∧ wB.cell? ⟨s, 0, none⟩ = some (.slice A n cap) ∧ wB.cell? ⟨s, 1, none⟩ = some (.int .i64 lo)) ?_ (by kernel_rfl) (by kernel_rfl) _ rfl ?_
  · exact ⟨by repeat (first | exact Kept.refl _ | assumption | (refine Kept.alloc ?_ _) | (refine Kept.setCell ?_ (by first | omega | (simp; omega) | simp) _) | refine Kept.drew ?_ | refine Kept.drewN ?_ _ | (apply Kept.call; rotate_left; assumption)), by repeat (first | exact Kept.refl _ | assumption | (refine Kept.alloc ?_ _) | (refine Kept.setCell ?_ (by first | omega | (simp; omega) | simp) _) | refine Kept.drew ?_ | refine Kept.drewN ?_ _ | (apply Kept.call; rotate_left; assumption)), by first | assumption | go_simp, by first | assumption | go_simp⟩
  rintro wB ⟨hkB, hkB1, sB1, sB2⟩
  repeat (first | (apply DW.det; (focus (intro wd hI; have hkd1 := hkB1.call hI; have td1 := hI.at_ sB1; have td2 := hI.at_ sB2; go_wp2_with fail; refine StepPost.mk _ rfl ⟨rfl, ?_⟩; repeat (first | exact Kept.refl _ | assumption | (refine Kept.alloc ?_ _) | (refine Kept.setCell ?_ (by first | omega | (simp; omega) | simp) _) | refine Kept.drew ?_ | refine Kept.drewN ?_ _ | (apply Kept.call; rotate_left; assumption)))); simp only [Act.put, List.setIfInBounds_toArray, List.set_cons_succ, List.set_cons_zero]) | (refine DW.loud (by kernel_rfl) ?_; intro wd hI; have hkd1 := hkB1.call hI; have td1 := hI.at_ sB1; have td2 := hI.at_ sB2; go_wp2_with fail; refine StepPost.loud _ rfl (by repeat (first | exact Kept.refl _ | assumption | (refine Kept.alloc ?_ _) | (refine Kept.setCell ?_ (by first | omega | (simp; omega) | simp) _) | refine Kept.drew ?_ | refine Kept.drewN ?_ _ | (apply Kept.call; rotate_left; assumption))) (fun hkL => ?_); have hkL := hI.call hkL; have hkB := hkB.call hkL; have hkB1 := hkB1.call hkL; have sB1 := hkL.at_ sB1; have sB2 := hkL.at_ sB2; simp only [Act.put, List.setIfInBounds_toArray, List.set_cons_succ, List.set_cons_zero]))
  refine DW.nil ?_
  intro wd hI
  have hkd := hkB.call hI
  have hkd1 := hkB1.call hI; have td1 := hI.at_ sB1; have td2 := hI.at_ sB2
  obtain ⟨i0, hi, hz0, hz1, hz2⟩ := info_parts infoStr
  have hol : (strs ds).length = n * 1 := by rw [strs_len, HN.out, Nat.mul_one]
  have C0 := ((Kept.refl wd).alloc (.cells #[.string d] 9)).heap (hkd.heap H2.out)
  have C1 := ((Kept.refl wd).alloc (.cells #[.string d] 9)).heap (hkd1.heap P0)
  go_wp2_with (at_builtin; refine append_openK _ rfl _ _ 47 rfl 9 i0 (.string ⟨#[]⟩) 1 16 Try.underlying47 hi hz0 hz1 hz2 rfl (by decide) G _ n (strs ds) (HO.out.kept (by repeat (first | exact Kept.refl _ | assumption | (refine Kept.alloc ?_ _) | (refine Kept.setCell ?_ (by first | omega | (simp; omega) | simp) _) | refine Kept.drew ?_ | refine Kept.drewN ?_ _ | (apply Kept.call; rotate_left; assumption)))) hol rfl ⟨wd.heap.size, 0, none⟩ 1 [.string d] rfl rfl (news_one (heap_alloc_new wd _)) (by simp [Value.oneCell']) (by unfold maxLen; omega) (by omega) ?_; intro v3 w3 G3 hb3 O3 hG3; obtain ⟨A3, c3, rfl⟩ := O3.form; obtain ⟨d0, d1, e0, e1⟩ := two_cells (hb3.heap C0 hGs); obtain ⟨p0, p1, q0, q1⟩ := two_cells (hb3.heap C1 nP))
  have kd : Kept w (wd.alloc (.cells #[.string d] 9)) := hkd.alloc _
  have k3 : But (s :: G.toList) w w3 := (But.of_kept kd).trans (hb3.mono (fun x hx => List.mem_cons_of_mem _ hx))
  have zP : w.heap.size < wd.heap.size := by have := hkd1.size; simp at this; omega
  have z3 : w.heap.size < w3.heap.size := by have := hb3.size; simp at this; omega
  have g1 : ∀ g, G3 = some g → g ≠ s ∧ g ≠ w.heap.size ∧ g < w3.heap.size := by
    intro g hg
    rcases hG3 with h | ⟨g', h, h3, h4⟩
    · have hgm : g ∈ G.toList := by rw [← h, hg]; simp
      exact ⟨fun e => hGs (e ▸ hgm), fun e => nP (e ▸ hgm), by have := HGl.out g hgm; omega⟩
    · rw [hg] at h; injection h with h; subst h
      simp at h3
      exact ⟨by omega, by omega, h4⟩
  have D3 := hb3.heap C0 hGs
  refine bodyPost_ret (v := .tuple #[.agg #[.int .i64 n, .string d], .int .i64 0]) (by simp [results, Try.results21, go_sem, p0, p1, nps, Ne.symm nps]) rfl ⟨rfl, G3, ?_, ?_, ?_⟩
  · rcases hG3 with h | ⟨g, h, h3, h4⟩
    · exact .inl h
    · exact .inr ⟨g, h, by simp at h3; omega, by simpa using h4⟩
  · refine ⟨.slice A3 (n + 1) c3, ?_, ?_, ?_, ?_⟩
    · simp [World.setCell, Array.getElem?_modify, D3, nps, Ne.symm nps]
    · have e : (ds ++ [d]).length = n + 1 := by have := HN.out; simp; omega
      rw [e, ← strs_snoc]
      exact O3.but (S := [s, w.heap.size]) ((((But.refl _ _).setCell (by simp) _).setCell (by simp) _).setCell (by simp) _) (fun g hg => by have := g1 g hg; simp; omega)
    · intro h; exact (g1 s h).1 rfl
    · intro g hg; have := (g1 g hg).2.2; simpa using this
  · exact (((k3.setCell (by simp) _).setCell (by simp) _).setCell (by simp) _)
theorem rsend_ok (s : Nat) (G : Option Nat) (lo : Nat) (ds : List ByteArray) (d : ByteArray) (w : World) (h : RSnd w s G lo ds) (h8 : ds.length < lo + 8) (hb : ds.length < 4294967296) (hl : lo ≤ ds.length) :
    Calls Try.prog 21 #[.pointer (some ⟨s, 0, none⟩), .string d] w fun e w' => e = .returned (.tuple #[.agg #[.int .i64 (ds.length : Int), .string d], .int .i64 0]) ∧
      ∃ G2, GNew w w' G G2 ∧ RSnd w' s G2 lo (ds ++ [d]) ∧ But (s :: G.toList) w w' := by
  obtain ⟨v, h2, h3, h4, h5⟩ := h
  obtain ⟨A, c, rfl⟩ := h3.form
  exact rsend_go s G A c lo ds.length ds d w rfl h8 hb hl h2 h3 (by simpa using h4) (fun g hg => h5 g (by simpa using hg))
end Go.Proofs.Ytgcbadlajmbdhaa
