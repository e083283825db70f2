/- The net's Again. -/
import Derived.Test.YtbofoafcglmboaaNetT
set_option linter.unusedSimpArgs false
set_option linter.unusedVariables false
namespace Go.Proofs.Ytbofoafcglmboaa
open Go.RowKit

/-- append of any many elements, of none out of whatever slice too. -/
theorem append_openN {P : Program} (w : World) {ops : Array Oper} {rest : List Oper} {o : Oper} {a : Act} {Q : Exit → Act → World → Prop} (hg : o.guard = none) (s x : Operand) (t : TypeId)
    (hop : o.op = Op.call { callee := Callee.builtin Builtin.append, args := #[s, x], argTypes := #[t, t] }) (e : TypeId) (i : TypeInfo) (z : Value) (k bytes : Nat) (h1 : P.underlying t = some (.slice e)) (h2 : P.info? e = some i)
    (h3 : i.zero = some z) (h4 : i.size = k) (h5 : i.bytes = bytes) (h6 : z.cells.size = k) (hk : 1 ≤ k) (G : Option Nat) (v : Value) (n m : Nat) (olds : List Value) (hv : OpenK w G v n k olds) (ho : olds.length = n * k) (hs : a.eval s = v)
    (Ax : Option Addr) (c : Nat) (news : List Value) (hx : a.eval x = .slice Ax m c) (hn : news.length = m * k) (hc : 0 < m → ∃ ad, Ax = some ad ∧ ∀ (j : Nat) u, news[j]? = some u → w.cell? (ad.add j) = some u) (h1c : ∀ u ∈ news, u.oneCell' = true)
    (b1 : n + m ≤ maxLen) (b2 : (n + m) * bytes ≤ 140737488355328)
    (h : ∀ v' w' G', But G.toList w w' → OpenK w' G' v' (n + m) k (olds ++ news) → (G' = G ∨ ∃ g, G' = some g ∧ w.heap.size ≤ g ∧ g < w'.heap.size) → wpList P ops Q rest (a.put o.dst v') w') : wpList P ops Q (o :: rest) a w := by
  rcases Nat.eq_zero_or_pos m with rfl | hm
  · have hnil : news = [] := List.eq_nil_of_length_eq_zero (by simpa using hn)
    subst hnil
    obtain ⟨A0, c0, hf⟩ := hv.form
    have hle : n ≤ c0 := by
      rcases hv with ⟨r1, r2⟩ | ⟨b, off, cap, r1, _, p1, _⟩
      · omega
      · rw [hf] at r1; injection r1 with _ _ r3; omega
    have hsrc : Src P i.size t (.slice Ax 0 c) 0 [] w := by
      cases Ax with
      | none => exact Src.ofNil w h1 c
      | some ad => exact Src.ofSlice w h1 ad 0 c [] (by simp) (by simp) (by simp)
    have hrun := run_append_nothing (P := P) w t t o.type e i h1 h2 A0 n c0 hle _ hsrc
    refine wpList_plain hg fun K hK' => ?_
    have hfin := hK' _ _ (h v w G (But.refl _ _) (by simpa using hv) (.inl rfl))
    unfold Oper.wp
    rw [hf] at hs hfin
    simp [execOp, hop, resolve, invoke, builtin, hs, hx, hrun, Result.andThen]
    exact hfin
  · obtain ⟨ad, rfl, hcell⟩ := hc hm
    exact append_openM w hg s x t hop e i z k bytes h1 h2 h3 h4 h5 h6 hk G v n m olds hv ho hs ad c news hx hn hcell h1c b1 b2 h
/-- The way behind Again: what is open, as far as there is room. -/
def agK (T : List ByteArray) (lo : Nat) (way : List Nat) : Nat := min (T.length - lo) (32 - way.length)
def agWay (T : List ByteArray) (lo : Nat) (way : List Nat) : List Nat := way ++ (List.range (agK T lo way)).map fun i => lo + i
theorem again_end {w w1 w2 w6 : World} {F : List Nat} {s lo sb rb K : Nat} {T : List ByteArray} {way : List Nat} {Go Gw G6 : Option Nat} {A0 A6 : Option Addr} {cp0 cp6 n6 : Nat} (hF : F = [s, sb, rb] ++ Go.toList ++ Gw.toList) (hnd : F.Nodup) (hlt : ∀ x ∈ F, x < w.heap.size)
    (hS : Snd w sb Go lo (T.drop lo)) (hR : Recv w rb lo) (hlo : lo ≤ T.length) (h9 : ∀ q ∈ way, q < T.length) (hK : agK T lo way = K) (hKL : lo + K ≤ T.length) (k1 : Kept w w1) (k2 : Kept w1 w2) (hb : But Gw.toList w2 w6)
    (hh : w6.heap[s]? = some (.cells #[.pointer (some ⟨sb, 0, none⟩), .pointer (some ⟨rb, 0, none⟩), .slice A0 way.length cp0] 55 (0, 0))) (hsG : s ∉ Gw.toList)
    (hO : OpenK w6 G6 (.slice A6 n6 cp6) (way.length + K) 2 (wayC T (way ++ (List.range K).map fun i => lo + i))) (hG : G6 = Gw ∨ ∃ g, G6 = some g ∧ w2.heap.size ≤ g ∧ g < w6.heap.size) :
    SessTo w (w6.setCell ⟨s, 2, none⟩ (.slice A6 n6 cp6)) F s T lo (agWay T lo way) := by
  have hsz : s < w.heap.size := hlt s (by rw [hF]; simp)
  unfold agWay
  rw [hK]
  refine SessTo.way hF hnd hlt hS hR hlo ?_ (v6 := .slice A6 n6 cp6) (G6 := G6) ?_ ?_ ?_ ?_
  · exact ((But.of_kept (k1.call k2)).trans (hb.mono fun x hx => List.mem_cons_of_mem _ hx)).setCell (.inl (by simp)) _
  · simp [World.setCell, Array.getElem?_modify, hh]
  · have e : (way ++ (List.range K).map fun i => lo + i).length = way.length + K := by simp
    rw [e]
    refine hO.but ((But.refl _ _).setCell (.inl (List.mem_singleton.2 rfl)) _) (fun g hg => ?_)
    rw [List.mem_singleton]
    intro e
    have e : g = s := e
    rcases hG with h | ⟨g', h, h3, h4⟩
    · exact hsG (by rw [← h, hg, e]; simp)
    · rw [hg] at h; injection h with h
      have := k1.size; have := k2.size; omega
  · exact hG.imp id fun ⟨g, h, h3, h4⟩ => ⟨g, h, by have := k1.size; have := k2.size; omega, by rw [World.size_setCell]; omega⟩
  · intro q hq
    rcases List.mem_append.1 hq with hq | hq
    · exact h9 q hq
    · obtain ⟨i, hi, rfl⟩ := List.mem_map.1 hq
      have := List.mem_range.1 hi
      omega
set_option maxRecDepth 20000 in
set_option maxHeartbeats 2000000 in
theorem nagain_any (N M n a c s lo : Nat) (F : List Nat) (S : Who) (T : List ByteArray) (way : List Nat) (w : World) (hN : NetAt w N M) (hM : PM w M n S) (ha : a < 6) (hc : c < 6) (hs : S a c = some s) (h : Sess w F s T lo way) (hT : T.length ≤ 4294967296) (hw : way.length ≤ 4294967296) :
    Calls Try.prog 12 #[.pointer (some ⟨N, 0, none⟩), .int .i64 a, .int .i64 c] w fun e w' => e = .returned (.int .i64 (agK T lo way : Nat)) ∧ SessTo w w' F s T lo (agWay T lo way) := by
  obtain ⟨sb, rb, Go, Gw, v, h1, h2, h3, h4, h5, h6, h7, h8', h9⟩ := h
  obtain ⟨i0, hi, hz0, hz1, hz2⟩ := info_parts infoPk
  have HI := Lib.hid hi
  have H1 := Lib.hid h1
  have H2 := Lib.hid h2
  have H3 := Lib.hid h3
  have H4 := Lib.hid h4
  have H5 := Lib.hid h5
  have H6 := Lib.hid h6
  have H7 := Lib.hid h7
  have H9 := Lib.hid h9
  obtain ⟨c0, c1, c2, f2⟩ := three_cells h4
  have HN := Lib.hid hN
  have HM := Lib.hid hM
  have HS := Lib.hid hs
  have hsz : s < w.heap.size := (Array.getElem?_eq_some_iff.1 h4).1
  have hnd := nd5 (h1 ▸ h2)
  have HND := Lib.hid hnd
  have hsG : s ∉ Gw.toList := hnd.1.2.2.2
  obtain ⟨A0, cp0, hv⟩ := h7.form
  subst hv
  obtain ⟨K, hK⟩ : ∃ K, agK T lo way = K := ⟨_, rfl⟩
  obtain ⟨L, hL⟩ : ∃ L, T.length - lo = L := ⟨_, rfl⟩
  have HK := Lib.hid hK
  have HL := Lib.hid hL
  have hLd : (T.drop lo).length = L := by rw [List.length_drop]; exact hL
  have HLD := Lib.hid hLd
  have hL2 : L ≤ 4294967296 := by omega
  have hKL : K ≤ L := by unfold agK at hK; omega
  obtain ⟨X, hX⟩ : ∃ X, 32 - way.length = X := ⟨_, rfl⟩
  have hmax : (if 32 - (way.length : Int) < 0 then (0 : Int) else 32 - (way.length : Int)) = (X : Int) := by split <;> omega
  have hmin : (if X < L then (X : Int) else (L : Int)) = (K : Int) := by unfold agK at hK; split <;> omega
  rw [hK]
  clear hN hM hs h2 h3 h4 h5 h6 h7 h9 hi hnd hK hL hLd h1 hX
  go_enter Try.func12, Try.ntmps12
  go_wp2_with fail
  refine (of_any N M n a c S _ HN.out HM.out ha hc).mono ?_
  rintro e w1 ⟨rfl, k1⟩
  rw [HS.out]
  have c0 := k1.at_ c0
  have c2 := k1.at_ c2
  have hlt1 := Nat.lt_of_lt_of_le hsz k1.size
  unfold ptr
  go_wp2_with fail
  refine (open_any sb Go lo _ _ (H5.out.kept k1) (by rw [HLD.out]; exact hL2)).mono ?_
  rintro e w2 ⟨v', rfl, hown, k2⟩
  rw [HLD.out] at hown
  have c2 := k2.at_ c2
  have hlt2 := Nat.lt_of_lt_of_le hlt1 k2.size
  have HK2 := Lib.hid k2
  have HOW := Lib.hid hown
  have HO2 : Hid (OpenK w2 Gw (.slice A0 way.length cp0) way.length 2 (wayC T way)) := (H7.out.kept k1).kept k2
  rcases hown.2 with ⟨hv1, hv2⟩ | ⟨g, cap, cur, hv1, _, hg, hgn, hgc, _⟩
  · subst hv1
    have hv2 : L = 0 := hv2
    have hK0 : K = 0 := by omega
    subst hK0
    clear hmin hmax
    clear hown
    go_wp2_with (at_builtin; refine append_openN _ rfl _ _ 37 rfl 60 i0 (.agg #[.int .i64 0, .string ⟨#[]⟩]) 2 24 Try.underlying37 HI.out hz0 hz1 hz2 rfl (by omega) Gw _ way.length 0 (wayC T way) HO2.out (wayC_len _ _) rfl none 0 [] rfl rfl (by intro h; omega) (by simp) (by unfold maxLen; omega) (by omega) ?_; intro v6 w6 G6 C0 O6 hG6; have HSW : Hid (w6.heap[s]? = some (.cells #[.pointer (some ⟨sb, 0, none⟩), .pointer (some ⟨rb, 0, none⟩), .slice A0 way.length cp0] 55 (0, 0))) := C0.heap (HK2.out.heap (k1.heap H4.out)) hsG; have y2 := freeOf HSW.out 2; have c2 := C0.at_ c2 hsG; have HO6 := Lib.hid O6; have HG6 := Lib.hid hG6; have HC0 := Lib.hid C0; obtain ⟨A6, cp6, hv6⟩ := O6.form; subst hv6; clear O6 hG6 C0)
    all_goals (go_ret; exact ⟨rfl, again_end (K := 0) H1.out H2.out H3.out H5.out H6.out h8' H9.out HK.out (by omega) k1 HK2.out HC0.out HSW.out hsG (by have h := HO6.out; simp only [Nat.add_zero, List.append_nil, List.range_zero, List.map_nil] at h ⊢; exact h) HG6.out⟩)
  · subst hv1
    have hgn : L ≤ cap := hgn
    have hgc : cap ≤ 9223372036854775807 := by unfold maxLen at hgc; omega
    have hnw : pk lo (T.drop lo) = pk lo (T.drop lo) := rfl
    have HPK : Hid ((pk lo (T.drop lo)).take (K * 2) = wayC T ((List.range K).map fun i => lo + i)) := pk_way T K lo (by have := HL.out; omega)
    have HCE : Hid (0 < K → ∃ ad, (some (⟨g, 0, none⟩ : Addr)) = some ad ∧ ∀ (j : Nat) u, (wayC T ((List.range K).map fun i => lo + i))[j]? = some u → w2.cell? (ad.add j) = some u) := fun h0 => ⟨_, rfl, fun j u hu => by
      rw [← HPK.out] at hu
      have hj := (List.getElem?_eq_some_iff.1 hu).1
      rw [List.length_take] at hj
      rw [List.getElem?_take_of_lt (by omega)] at hu
      have e : ((⟨g, 0, none⟩ : Addr).add j) = ⟨g, j, none⟩ := by simp [Addr.add]; omega
      rw [e, HOW.out.cellAt j (by omega), hu]⟩
    clear hown hg hnw
    go_wp2_with (at_builtin; (refine append_openN _ rfl _ _ 37 rfl 60 i0 (.agg #[.int .i64 0, .string ⟨#[]⟩]) 2 24 Try.underlying37 HI.out hz0 hz1 hz2 rfl (by omega) Gw _ way.length K (wayC T way) HO2.out (wayC_len _ _) rfl (some ⟨g, 0, none⟩) cap (wayC T ((List.range K).map fun i => lo + i)) rfl (by rw [wayC_len]; simp) HCE.out (wayC_one _ _) (by unfold maxLen; omega) (by omega) ?_); intro v6 w6 G6 C0 O6 hG6; have HSW : Hid (w6.heap[s]? = some (.cells #[.pointer (some ⟨sb, 0, none⟩), .pointer (some ⟨rb, 0, none⟩), .slice A0 way.length cp0] 55 (0, 0))) := C0.heap (HK2.out.heap (k1.heap H4.out)) hsG; have y2 := freeOf HSW.out 2; have c2 := C0.at_ c2 hsG; have HO6 := Lib.hid O6; have HG6 := Lib.hid hG6; have HC0 := Lib.hid C0; obtain ⟨A6, cp6, hv6⟩ := O6.form; subst hv6; clear O6 hG6 C0)
    go_ret
    exact ⟨rfl, again_end (K := K) H1.out H2.out H3.out H5.out H6.out h8' H9.out HK.out (by have := HL.out; omega) k1 HK2.out HC0.out HSW.out hsG (by rw [wayC_app]; exact HO6.out) HG6.out⟩
end Go.Proofs.Ytbofoafcglmboaa
