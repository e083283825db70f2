/- Scripts of steps; how far a session can go; rows of packets compared. -/
import Derived.Test.YtbofoafcglmboaaNetG
import Derived.Test.YtbofoafcglmboaaRow
import Derived.Laws.BytesArg
set_option linter.unusedSimpArgs false
set_option linter.unusedVariables false
namespace Go.Proofs.Ytbofoafcglmboaa
open Go.RowKit Go.ChangeShapes Go.WideShapes Go.Deep Go.Joins Go.Maps

structure OpV where
  kind : Int
  a : Int
  b : Int
  at_ : Int
  how : Int
  text : ByteArray
def opCells (x : OpV) : List Value := [.int .i64 x.kind, .int .i64 x.a, .int .i64 x.b, .int .i64 x.at_, .int .i64 x.how, .string x.text]
def OpOk (x : OpV) : Prop := (Lit.int .i64 x.kind).wf = true ∧ (Lit.int .i64 x.a).wf = true ∧ (Lit.int .i64 x.b).wf = true ∧ (Lit.int .i64 x.at_).wf = true ∧ (Lit.int .i64 x.how).wf = true
theorem cellsInt : Try.prog.cellsOf 3 = 1 := by kernel_rfl
theorem cellsString : Try.prog.cellsOf 9 = 1 := by kernel_rfl
theorem trod_struct6 {H : Type} {enc : TypeId × Value → H} {P : Program} {w : World} {base : Nat} {spare : Nat → Bool} {held : Bool} {t : TypeId} {f0 f1 f2 f3 f4 f5 : Field} {fuel : Nat} {cs : List Value} {x : DataW H × List MemPlace} (ht : P.underlying t = some (.struct #[f0, f1, f2, f3, f4, f5])) (h : DataW.trod enc P w base spare held fuel t cs = some x) :
    ∃ y0 y1 y2 y3 y4 y5 n, DataW.trod enc P w base spare held n f0.type ((cs.drop f0.offset).take (P.cellsOf f0.type)) = some y0 ∧
      DataW.trod enc P w base spare held n f1.type ((cs.drop f1.offset).take (P.cellsOf f1.type)) = some y1 ∧ DataW.trod enc P w base spare held n f2.type ((cs.drop f2.offset).take (P.cellsOf f2.type)) = some y2 ∧
      DataW.trod enc P w base spare held n f3.type ((cs.drop f3.offset).take (P.cellsOf f3.type)) = some y3 ∧ DataW.trod enc P w base spare held n f4.type ((cs.drop f4.offset).take (P.cellsOf f4.type)) = some y4 ∧ DataW.trod enc P w base spare held n f5.type ((cs.drop f5.offset).take (P.cellsOf f5.type)) = some y5 := by
  obtain ⟨xs, n, _, rfl, hl, hlen, hf⟩ := DataW.trod_struct ht h
  match xs, hlen with
  | [y0, y1, y2, y3, y4, y5], _ => exact ⟨y0, y1, y2, y3, y4, y5, n, by simpa using hf 0 f0 rfl, by simpa using hf 1 f1 rfl, by simpa using hf 2 f2 rfl, by simpa using hf 3 f3 rfl, by simpa using hf 4 f4 rfl, by simpa using hf 5 f5 rfl⟩
theorem open_Op {H : Type} {enc : TypeId × Value → H} {w : World} {spare : Nat → Bool} {held : Bool} {a : Option Addr} {n c : Nat} {d : DataW H} {p : List MemPlace}
    (h : DataW.Trod enc Try.prog w 0 spare held 22 (.slice a n c) d p) : ∃ x : Nat → OpV, RowAt w a n c 6 (fun i => opCells (x i)) ∧ ∀ i, i < n → OpOk (x i) :=
  row_open Try.underlying22 (by kernel_rfl) (by omega) opCells OpOk ⟨0, 0, 0, 0, 0, ⟨#[]⟩⟩ (fun m cs y hl hy => by
    obtain ⟨y0, y1, y2, y3, y4, y5, k, r0, r1, r2, r3, r4, r5⟩ := trod_struct6 Try.underlying29 hy
    match cs, hl with
    | [v0, v1, v2, v3, v4, v5], _ =>
      simp [cellsInt, cellsString] at r0 r1 r2 r3 r4 r5
      obtain ⟨a0, e0, _, w0⟩ := DataW.trod_int Try.underlying3 r0
      obtain ⟨a1, e1, _, w1⟩ := DataW.trod_int Try.underlying3 r1
      obtain ⟨a2, e2, _, w2⟩ := DataW.trod_int Try.underlying3 r2
      obtain ⟨a3, e3, _, w3⟩ := DataW.trod_int Try.underlying3 r3
      obtain ⟨a4, e4, _, w4⟩ := DataW.trod_int Try.underlying3 r4
      obtain ⟨a5, e5, _⟩ := DataW.trod_string Try.underlying9 r5
      simp at e0 e1 e2 e3 e4 e5
      exact ⟨⟨a0, a1, a2, a3, a4, a5⟩, by simp [opCells, e0, e1, e2, e3, e4, e5], w0, w1, w2, w3, w4⟩) h
theorem ops_at {w : World} {A : Option Addr} {n c : Nat} {x : Nat → OpV} (h : RowAt w A n c 6 (fun i => opCells (x i))) (h0 : 0 < n) :
    ∃ b off, A = some ⟨b, off, none⟩ ∧ b < w.heap.size ∧ ∀ i, i < n → w.cell? ⟨b, off + i * 6, none⟩ = some (.int .i64 (x i).kind) ∧ w.cell? ⟨b, off + i * 6 + 1, none⟩ = some (.int .i64 (x i).a) ∧ w.cell? ⟨b, off + i * 6 + 2, none⟩ = some (.int .i64 (x i).b) ∧ w.cell? ⟨b, off + i * 6 + 3, none⟩ = some (.int .i64 (x i).at_) ∧ w.cell? ⟨b, off + i * 6 + 4, none⟩ = some (.int .i64 (x i).how) ∧ w.cell? ⟨b, off + i * 6 + 5, none⟩ = some (.string (x i).text) := by
  obtain ⟨b, off, h1, h2, h3⟩ := h.2.2.2 h0
  exact ⟨b, off, h1, h2, fun i hi => ⟨h3 i hi 0 _ rfl, h3 i hi 1 _ rfl, h3 i hi 2 _ rfl, h3 i hi 3 _ rfl, h3 i hi 4 _ rfl, h3 i hi 5 _ rfl⟩⟩
/-- No more than B texts; no more on their way than 32 and those that are open. -/
structure Bd (B : Nat) (x : Ses) : Prop where
  T : x.T.length ≤ B
  lo : x.lo ≤ x.T.length
  op : x.T.length ≤ x.lo + 8
  way : x.way.length + x.lo ≤ 32 + x.T.length
theorem Bd.mono {B C : Nat} {x : Ses} (h : Bd B x) (hB : B ≤ C) : Bd C x := ⟨Nat.le_trans h.T hB, h.lo, h.op, h.way⟩
theorem Bd.zero : Bd 0 ses0 := ⟨by simp [ses0], by simp [ses0], by simp [ses0], by simp [ses0]⟩
theorem Bd.send {B : Nat} {x : Ses} (h : Bd B x) (d : ByteArray) : Bd (B + 1) (sendS x d) := by
  obtain ⟨h1, h2, h3, h4⟩ := h
  unfold sendS
  split
  · exact ⟨by simp; omega, by simp; omega, by simp; omega, by simp; omega⟩
  · exact ⟨by omega, h2, h3, h4⟩
theorem ag_len (x : Ses) : (agS x).way.length = x.way.length + min (x.T.length - x.lo) (32 - x.way.length) := by
  show (agWay _ _ _).length = _
  unfold agWay agK
  rw [List.length_append, List.length_map, List.length_range]
theorem Bd.ag {B : Nat} {x : Ses} (h : Bd B x) : Bd B (agS x) := by
  obtain ⟨h1, h2, h3, h4⟩ := h
  exact ⟨h1, h2, h3, by rw [ag_len]; show _ + x.lo ≤ 32 + x.T.length; omega⟩
theorem pickQ_mem {x : Ses} {i : Int} {q : Nat} (h : pickQ x i = some q) : q ∈ x.way ∧ i.toNat < x.way.length := by
  unfold pickQ at h
  split at h
  · cases h
  · exact ⟨List.mem_of_getElem? h, (List.getElem?_eq_some_iff.1 h).1⟩
theorem Bd.pick {B : Nat} {x : Ses} (h : Bd B x) (hok : SesOk x) (i k : Int) : Bd B (pickS x i k) := by
  obtain ⟨h1, h2, h3, h4⟩ := h
  unfold pickS
  cases hq : pickQ x i with
  | none => exact ⟨h1, h2, h3, h4⟩
  | some q =>
    obtain ⟨hm, hl⟩ := pickQ_mem hq
    have hqT := hok.way q hm
    have he : (x.way.eraseIdx i.toNat).length = x.way.length - 1 := by rw [List.length_eraseIdx, if_pos hl]
    simp only
    split
    · split
      · exact ⟨h1, h2, h3, by simp; omega⟩
      · exact ⟨h1, h2, h3, h4⟩
    · split
      · exact ⟨h1, h2, h3, by simp only [he]; omega⟩
      · split
        · rename_i e; exact ⟨h1, by simp only; omega, by simp only; omega, by simp only [he]; omega⟩
        · exact ⟨h1, h2, h3, by simp only [he]; omega⟩
def chB (k : Nat) : ByteArray := ⟨#[UInt8.ofNat k]⟩
theorem conv_chB (w : World) (r : Nat) :
    (convert 30 9 (.slice (some ⟨w.heap.size, 0, none⟩) 1 1)).run Try.prog (w.alloc (.cells #[.int .u8 (97 + (r : Int))] 5)) = .ok (.string (chB (97 + r))) (w.alloc (.cells #[.int .u8 (97 + (r : Int))] 5)) := by
  have h := run_convert_bytes_arg (w.alloc (.cells #[.int .u8 (97 + (r : Int))] 5)) 30 5 Try.underlying30 (by kernel_rfl) w.heap.size 0 1 1 [97 + (r : Int)] rfl (fun i hi => by
    obtain rfl : i = 0 := by omega
    have hg : (w.alloc (.cells #[.int .u8 (97 + (r : Int))] 5)).heap[w.heap.size]? = some (.cells #[.int .u8 (97 + (r : Int))] 5) := heap_alloc_new _ _
    rw [cell_of_row _ _ 0 _ _ (0, 0) hg]
    rfl) 9 (by kernel_rfl)
  have e : chB (97 + r) = ⟨#[UInt8.ofNat (97 + (r : Int)).toNat]⟩ := by unfold chB; rw [show (97 + (r : Int)).toNat = 97 + r by omega]
  rw [e]
  exact h
/-- A row of packets of its own: its cells. -/
theorem own_packets {w : World} {base e : Nat} {A : Option Addr} {c : Nat} {T : List ByteArray} {l : List Nat} (h : w.ownsRow base e 2 (.slice A l.length c) l.length (wayC T l)) (h0 : 0 < l.length) :
    ∃ g, A = some ⟨g, 0, none⟩ ∧ g < w.heap.size ∧ l.length ≤ c ∧ ∀ (i q : Nat), l[i]? = some q → w.cell? ⟨g, i * 2, none⟩ = some (.int .i64 (q : Int)) ∧ w.cell? ⟨g, i * 2 + 1, none⟩ = some (.string (tx T q)) := by
  rcases h.2 with ⟨hv, hz⟩ | ⟨g, cap, cur, hv, _, hg, hnc, _⟩
  · omega
  · injection hv with e1 _ e3
    subst e1 e3
    refine ⟨g, rfl, (Array.getElem?_eq_some_iff.1 hg).1, hnc, fun i q hq => ?_⟩
    have hi := (List.getElem?_eq_some_iff.1 hq).1
    obtain ⟨p1, p2⟩ := wayC_at T l i q hq
    exact ⟨by rw [h.cellAt (i * 2) (by omega), p1], by rw [h.cellAt (i * 2 + 1) (by omega), p2]⟩
set_option maxHeartbeats 1000000 in
theorem same_packets (A1 A2 : Option Addr) (c1 c2 n : Nat) (b1 b2 e1 e2 : Nat) (T : List ByteArray) (l : List Nat) (w : World) (hn : l.length = n) (h1 : w.ownsRow b1 e1 2 (.slice A1 l.length c1) l.length (wayC T l)) (h2 : w.ownsRow b2 e2 2 (.slice A2 l.length c2) l.length (wayC T l)) (hb : l.length < 4294967296) :
    Calls Try.prog 18 #[.slice A1 n c1, .slice A2 n c2] w fun e w' => e = .returned (.bool true) ∧ Kept w w' := by
  have H1 : Hid (0 < l.length → ∃ g, A1 = some ⟨g, 0, none⟩ ∧ g < w.heap.size ∧ l.length ≤ c1 ∧ ∀ (i q : Nat), l[i]? = some q → w.cell? ⟨g, i * 2, none⟩ = some (.int .i64 (q : Int)) ∧ w.cell? ⟨g, i * 2 + 1, none⟩ = some (.string (tx T q))) := fun h0 => own_packets h1 h0
  have H2 : Hid (0 < l.length → ∃ g, A2 = some ⟨g, 0, none⟩ ∧ g < w.heap.size ∧ l.length ≤ c2 ∧ ∀ (i q : Nat), l[i]? = some q → w.cell? ⟨g, i * 2, none⟩ = some (.int .i64 (q : Int)) ∧ w.cell? ⟨g, i * 2 + 1, none⟩ = some (.string (tx T q))) := fun h0 => own_packets h2 h0
  have HN := Lib.hid hn
  rw [hn] at hb
  clear h1 h2 hn
  go_enter Try.func18, Try.ntmps18
  go_wp2
  go_loopw [5] (fun i wr => ∃ j : Nat, j ≤ n ∧ i = .int .i64 (j : Int) ∧ Kept w wr) (fun i _ => n - (intOf i).toNat)
  case atStart => exact ⟨0, by omega, rfl, Kept.refl w⟩
  case round =>
    obtain ⟨j, hj, rfl, kr⟩ := hrel
    by_cases hlt : j < n
    · obtain ⟨g, rfl, hg, m1, hc⟩ := H1.out (by rw [HN.out]; omega)
      obtain ⟨g2, rfl, hg2, m2, hc2⟩ := H2.out (by rw [HN.out]; omega)
      have hq : l[j]? = some (l[j]'(by rw [HN.out]; exact hlt)) := List.getElem?_eq_getElem _
      obtain ⟨x0, x1⟩ := hc j _ hq
      obtain ⟨y0, y1⟩ := hc2 j _ hq
      have x0 := kr.at_ x0
      have x1 := kr.at_ x1
      have y0 := kr.at_ y0
      have y1 := kr.at_ y1
      rw [HN.out] at m1 m2
      clear hc hc2 hq
      generalize l[j]'(by rw [HN.out]; exact hlt) = q at *
      generalize tx T q = d at *
      go_wp2
      refine wp_region_text keepsOne (fun wB => Kept wr wB ∧ wB.cell? ⟨g, j * 2, none⟩ = some (.int .i64 q) ∧ wB.cell? ⟨g, j * 2 + 1, none⟩ = some (.string d) ∧ wB.cell? ⟨g2, j * 2, none⟩ = some (.int .i64 q) ∧ wB.cell? ⟨g2, j * 2 + 1, none⟩ = some (.string d)) ?_ (by kernel_rfl) (by kernel_rfl) _ (by (try simp only [List.append_eq, List.cons_append, List.nil_append, List.toList_toArray]); exact rfl) ?_
      · exact ⟨by repeat (first | exact Kept.refl _ | assumption | (refine Kept.alloc ?_ _) | (refine Kept.setCell ?_ (by first | omega | (simp; omega) | simp) _) | refine Kept.drew ?_ | refine Kept.drewN ?_ _ | (apply Kept.call; rotate_left; assumption)), by first | assumption | go_simp, by first | assumption | go_simp, by first | assumption | go_simp, by first | assumption | go_simp⟩
      rintro wB ⟨hkB, sB1, sB2, sB3, sB4⟩
      repeat (first | (apply DW.det; (focus (intro wd hI; have td1 := hI.at_ sB1; have td2 := hI.at_ sB2; have td3 := hI.at_ sB3; have td4 := hI.at_ sB4; skip; go_wp2_with fail; refine StepPost.mk _ rfl ⟨rfl, ?_⟩; repeat (first | exact Kept.refl _ | assumption | (refine Kept.alloc ?_ _) | (refine Kept.setCell ?_ (by first | omega | (simp; omega) | simp) _) | refine Kept.drew ?_ | refine Kept.drewN ?_ _ | (apply Kept.call; rotate_left; assumption)))); simp only [Act.put, List.setIfInBounds_toArray, List.set_cons_succ, List.set_cons_zero]) | (refine DW.loud (by kernel_rfl) ?_; intro wd hI; have td1 := hI.at_ sB1; have td2 := hI.at_ sB2; have td3 := hI.at_ sB3; have td4 := hI.at_ sB4; skip; go_wp2_with fail; refine StepPost.loud _ rfl (by repeat (first | exact Kept.refl _ | assumption | (refine Kept.alloc ?_ _) | (refine Kept.setCell ?_ (by first | omega | (simp; omega) | simp) _) | refine Kept.drew ?_ | refine Kept.drewN ?_ _ | (apply Kept.call; rotate_left; assumption))) (fun hkL => ?_); have hkL := hI.call hkL; have hkB := hkB.call hkL; have sB1 := hkL.at_ sB1; have sB2 := hkL.at_ sB2; have sB3 := hkL.at_ sB3; have sB4 := hkL.at_ sB4; simp only [Act.put, List.setIfInBounds_toArray, List.set_cons_succ, List.set_cons_zero]))
      refine DW.nil ?_
      intro wd hI
      have hkd := hkB.call hI
      have td1 := hI.at_ sB1; have td2 := hI.at_ sB2; have td3 := hI.at_ sB3; have td4 := hI.at_ sB4
      go_wp2
      go_roundw
      case rel => first | exact ⟨j + 1, by omega, by go_num, kr.call hkd⟩ | ((repeat apply Exists.intro); exact ⟨⟨j + 1, by omega, by go_num, kr.call hkd⟩, rfl⟩)
      case measure => simp [intOf]; omega
    · obtain rfl : j = n := by omega
      go_wp2
      go_ret
      exact ⟨rfl, kr⟩
end Go.Proofs.Ytbofoafcglmboaa
