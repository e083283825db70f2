/- The law TreeSides: the sides of all that are near a site have all others, none twice. -/
import Derived.Test.YtcibbcfkehpmiaaTreeTwo
set_option linter.unusedSimpArgs false
set_option linter.unusedVariables false
namespace Go.Proofs.Ytcibbcfkehpmiaa
open Go.RowKit

theorem side_cut (p : List Int) (a b : Int) (k : Nat) : ∀ n, k ≤ n → ∃ r, sideTo p a b n = sideTo p a b k + 2 ^ k * r
  | 0, h => ⟨0, by obtain rfl : k = 0 := by omega
                   simp⟩
  | n + 1, h => by
    rcases Nat.lt_or_ge n k with g | g
    · obtain rfl : k = n + 1 := by omega
      exact ⟨0, by simp⟩
    · obtain ⟨r, hr⟩ := side_cut p a b k n g
      obtain ⟨d, rfl⟩ : ∃ d, n = k + d := ⟨n - k, by omega⟩
      refine ⟨r + if firstIs p a b (k + d) then 2 ^ d else 0, ?_⟩
      rw [sideTo, hr, Nat.mul_add]
      split <;> simp [Nat.pow_add, Nat.add_assoc]
/-- What is left of the mask, the first k bits taken off. -/
noncomputable def rest (p : List Int) (a b : Int) (n k : Nat) : Nat := sideTo p a b n / 2 ^ k
theorem rest_is {p : List Int} {a b : Int} {n k r : Nat} (h : sideTo p a b n = sideTo p a b k + 2 ^ k * r) : rest p a b n k = r := by
  unfold rest
  rw [h, Nat.add_mul_div_left _ _ (Nat.pow_pos (by omega)), Nat.div_eq_of_lt (sideTo_lt p a b k), Nat.zero_add]
theorem rest_step (p : List Int) (a b : Int) {n k : Nat} (h : k < n) : rest p a b n k = (if firstIs p a b k then 1 else 0) + 2 * rest p a b n (k + 1) := by
  obtain ⟨r, hr⟩ := side_cut p a b (k + 1) n h
  rw [rest_is hr]
  refine rest_is ?_
  rw [hr, sideTo, Nat.pow_succ]
  split
  · rw [Nat.mul_add, Nat.mul_one, Nat.mul_assoc, Nat.add_assoc]
  · rw [Nat.zero_add, Nat.add_zero, Nat.mul_assoc]
theorem rest_end (p : List Int) (a b : Int) (n : Nat) : rest p a b n n = 0 := rest_is (r := 0) (by simp)
theorem rest_zero (p : List Int) (a b : Int) (n : Nat) : rest p a b n 0 = sideTo p a b n := by simp [rest]

theorem count_one {l : List Nat} {f : Nat → Bool} {c : Nat} : l.Nodup → (∀ b ∈ l, f b = true ↔ b = c) → (l.filter f).length = if c ∈ l then 1 else 0 := by
  induction l with
  | nil => intro _ _; simp
  | cons y t ih =>
    intro hn hf
    have h1 := ih (List.nodup_cons.1 hn).2 (fun b hb => hf b (by simp [hb]))
    have h2 := hf y (by simp)
    by_cases e : y = c
    · subst e
      rw [List.filter_cons_of_pos (by rw [h2]), List.length_cons, h1, if_neg (List.nodup_cons.1 hn).1]
      simp
    · rw [List.filter_cons_of_neg (by rw [h2]; exact e), h1]
      have : c ∈ y :: t ↔ c ∈ t := by simp [Ne.symm e]
      simp [this]
theorem near_nodup (p : List Int) (a n : Nat) : (nearTo p a n).Nodup := List.Nodup.sublist List.filter_sublist List.nodup_range
theorem near_mem {p : List Int} {a n b : Nat} : b ∈ nearTo p a n ↔ b < n ∧ Nr p a b := by
  simp [nearTo, nearB, Nr]
/-- How many of the first i near ones are on the way to k. -/
noncomputable def seenF (p : List Int) (a n i k : Nat) : Nat := (((nearTo p a n).take i).filter fun b : Nat => firstIs p a b k).length
theorem seen_step {p : List Int} {a n i b : Nat} (h : (nearTo p a n)[i]? = some b) (k : Nat) : seenF p a n (i + 1) k = seenF p a n i k + if firstIs p a b k then 1 else 0 := by
  unfold seenF
  have hlt := (List.getElem?_eq_some_iff.1 h).1
  have hb := (List.getElem?_eq_some_iff.1 h).2
  rw [List.take_succ_eq_append_getElem hlt, hb, List.filter_append, List.length_append]
  congr 1
  cases hf : firstIs p a b k <;> simp [hf]
theorem first_far {p : List Int} {a b : Int} {k : Nat} (h : p.length ≤ k) : firstIs p a b k = false := by
  unfold firstIs
  rw [path_no (fun g => by omega)]
  rfl
theorem seen_other {p : List Int} (hp : IsTree p) {a k : Nat} (ha : a < p.length) (hk : k < p.length) (hne : k ≠ a) : seenF p a p.length (nearTo p a p.length).length k = 1 := by
  obtain ⟨t, ht⟩ := wk_cons hp ha hk
  obtain ⟨h1, h2, h3⟩ := wk_spec hp ha hk
  rw [ht] at h1 h3
  cases t with
  | nil => exact absurd (by simpa using h3) (Ne.symm hne)
  | cons c t =>
    unfold seenF
    rw [List.take_length, count_one (c := c) (near_nodup _ _ _) (fun b hb => by
      rw [first_iff hp b ha hk, ht]
      simp [eq_comm])]
    rw [if_pos (near_mem.2 ⟨h1.lt 1 c rfl, h1.nr 0 a c rfl rfl⟩)]
theorem seen_self {p : List Int} (hp : IsTree p) {a : Nat} (ha : a < p.length) (i : Nat) : seenF p a p.length i a = 0 := by
  unfold seenF
  rw [List.filter_eq_nil_iff.2 (fun b _ => by rw [first_self hp b ha]; simp)]
  rfl
theorem wk_near {p : List Int} (hp : IsTree p) {a b : Nat} (ha : a < p.length) (hb : b < p.length) (hn : Nr p a b) : wk p a b = [a, b] := by
  refine wk_is hp ((W.one hb).cons ha hn (by simp)) ⟨rfl, rfl⟩
theorem seen_near {p : List Int} (hp : IsTree p) {a b i : Nat} (ha : a < p.length) (h : (nearTo p a p.length)[i]? = some b) : seenF p a p.length (i + 1) b = 1 := by
  have hm := near_mem.1 (List.mem_of_getElem? h)
  have hlt := (List.getElem?_eq_some_iff.1 h).1
  unfold seenF
  rw [count_one (c := b) (List.Nodup.sublist (List.take_sublist _ _) (near_nodup _ _ _)) (fun u hu => by
    rw [first_iff hp u ha hm.1, wk_near hp ha hm.1 hm.2]
    simp [eq_comm]), if_pos]
  rw [List.take_succ_eq_append_getElem hlt, (List.getElem?_eq_some_iff.1 h).2]
  simp

theorem tdiv_nat (a b : Nat) : ((a : Int)).tdiv (b : Int) = ((a / b : Nat) : Int) := (Int.ofNat_tdiv a b).symm
structure SSt (w0 : World) (S : Nat) (w : World) (G : Nat → Nat) : Prop where
  kept : Kept w0 w
  cells : ∀ k, k < 6 → w.cell? ⟨S, k, none⟩ = some (.int .i64 (G k : Nat))
  frz : ∀ k, w.frozen? ⟨S, k, none⟩ = false
theorem SSt.put {w0 : World} {S : Nat} {w : World} {G : Nat → Nat} (h : SSt w0 S w G) (hS : w0.heap.size ≤ S) {k : Nat} (hk : k < 6) (v : Nat) : SSt w0 S (w.setCell ⟨S, k, none⟩ (.int .i64 (v : Nat))) (fun x => if x = k then v else G x) := by
  refine ⟨h.kept.setCell hS _, fun x hx => ?_, fun x => by rw [World.frozen?_setCell]; exact h.frz x⟩
  by_cases e : x = k
  · subst e
    rw [World.cell?_setCell_same _ _ _ (h.cells _ hx), if_pos rfl]
  · rw [World.cell?_setCell_other _ _ _ _ (by intro g; cases g; exact e rfl), if_neg e]
    exact h.cells x hx
theorem SSt.keep {w0 : World} {S : Nat} {w w2 : World} {G : Nat → Nat} (h : SSt w0 S w G) (hk : Kept w w2) : SSt w0 S w2 G :=
  ⟨h.kept.call hk, fun k hk2 => hk.at_ (h.cells k hk2), fun k => by
    rw [hk.frozen S k (World.block_lt_of_cell? w _ (h.cells 0 (by omega)))]
    exact h.frz k⟩
theorem SSt.ext {w0 : World} {S : Nat} {w : World} {G H : Nat → Nat} (h : SSt w0 S w G) (e : ∀ k, k < 6 → G k = H k) : SSt w0 S w H :=
  ⟨h.kept, fun k hk => by rw [← e k hk]; exact h.cells k hk, h.frz⟩
theorem SSt.start {w0 w : World} (hk : Kept w0 w) (t : TypeId) : SSt w0 w.heap.size (w.alloc (.cells #[.int .i64 0, .int .i64 0, .int .i64 0, .int .i64 0, .int .i64 0, .int .i64 0] t)) (fun _ => 0) := by
  have hq : (w.alloc (.cells #[.int .i64 0, .int .i64 0, .int .i64 0, .int .i64 0, .int .i64 0, .int .i64 0] t)).heap[w.heap.size]? = some (.cells #[.int .i64 0, .int .i64 0, .int .i64 0, .int .i64 0, .int .i64 0, .int .i64 0] t) := heap_alloc_new _ _
  refine ⟨hk.alloc _, fun k hk => ?_, fun k => ?_⟩
  · rw [cell_of_row _ _ k _ _ (0, 0) hq]
    rcases k with _ | _ | _ | _ | _ | _ | k <;> first | rfl | omega
  · unfold World.frozen?
    rw [hq]
    simp
set_option maxRecDepth 100000 in
set_option maxHeartbeats 4000000 in
theorem treeSides_walk (A : Option Addr) (m c : Nat) (x : Nat → Int) (tn q0 : Int) (w : World) (r : RowAt w A m c 1 (fun i => [.int .i64 (x i)])) (_r2 : ∀ i, i < m → (Lit.int .i64 (x i)).wf = true) (_wt : (Lit.int .i64 tn).wf = true) (_wa : (Lit.int .i64 q0).wf = true) :
    Calls Try.prog 7 #[.slice A m c, .int .i64 tn, .int .i64 q0] w fun e w' => e = .returned (.bool true) ∧ Kept w w' := by
  have HX := Lib.hid (IntsAt.of_row r)
  clear r _r2 _wa _wt
  generalize (List.range m).map x = l at *
  go_enter Try.func7, Try.ntmps7
  go_wp2_with fail
  refine (awake_any _).mono ?_
  rintro e w1 ⟨rfl, k1⟩
  go_wp2_with fail
  refine (made_any A m c l tn _ (HX.out.keep k1)).mono ?_
  rintro e w2 ⟨p, n, t, g, hn, _, _, rfl, hg, hp, hm, k2⟩
  have K2 : Kept w w2 := k1.call k2
  have HP := Lib.hid hp
  have h1 := hm.one
  have h6 := hm.six
  have HT := Lib.hid hm.tree
  have HL := Lib.hid hm.len
  have hb0 := tmod_bd q0 (n : Int) (by omega)
  obtain ⟨a, hb1, hb2⟩ : ∃ d : Nat, (q0.tmod n + n).tmod n = d ∧ d < n := by
    have h2 := Int.tmod_nonneg (n : Int) (show 0 ≤ q0.tmod n + n by omega)
    have h3 := Int.tmod_lt_of_pos (q0.tmod n + n) (show 0 < (n : Int) by omega)
    exact ⟨_, (Int.toNat_of_nonneg h2).symm, by omega⟩
  clear hn hm hp
  go_wp2_with fail
  refine (tnear _ n n p a _ HP.out).mono ?_
  rintro e w3 ⟨A3, c3, rfl, h3, k3⟩
  have K3 := K2.call k3
  have hno : nearOf p (a : Int) = nearTo p a n := by
    unfold nearOf
    rw [if_pos ⟨HT.out, by omega, by rw [HL.out]; omega⟩, Int.toNat_natCast, HL.out]
  rw [hno] at h3 ⊢
  have hN : (nearTo p a n).length ≤ n := nearTo_len p a n
  have HP3 := Lib.hid (HP.out.keep k3)
  obtain ⟨L, hL⟩ : ∃ L, (nearTo p a n).length = L := ⟨_, rfl⟩
  rw [hL] at h3 hN ⊢
  have HLL := Lib.hid hL
  have H3 := Lib.hid h3
  have hc3 : L ≤ c3 ∧ c3 ≤ 9223372036854775807 := by have h1 := h3.2.1; have h2 := h3.2.2.1; unfold maxLen at h2; omega
  have HB : Hid (∀ i, i < L → ∃ b, (nearTo p a n)[i]? = some b ∧ b < n ∧ Nr p a b ∧ b ≠ a) := fun i hi => by
    have hi2 : i < (nearTo p a n).length := by rw [HLL.out]; exact hi
    have hm := near_mem.1 (List.getElem_mem hi2)
    refine ⟨_, List.getElem?_eq_getElem hi2, hm.1, hm.2, fun e => ?_⟩
    obtain ⟨R, hR⟩ := HT.out
    rw [e] at hm
    exact no_loop hR (by rw [HL.out]; exact hb2) hm.2
  clear h3 hL hno
  go_wp2_with fail
  have ST0 := Lib.hid (SSt.start (Kept.refl w3) 35)
  go_loopw [13] (fun iv wr => ∃ i : Nat, i ≤ L ∧ iv = .int .i64 i ∧ SSt w3 w3.heap.size wr (seenF p a n i)) (fun iv _ => L - (intOf iv).toNat)
  case atStart => exact ⟨0, by omega, rfl, ST0.out.ext (fun k _ => by unfold seenF; simp)⟩
  case round =>
    obtain ⟨i, hi, rfl, st⟩ := hrel
    have ST := Lib.hid st
    by_cases hlt : i < L
    · obtain ⟨b, hbi, hbn, hbr, hba⟩ := HB.out i hlt
      obtain ⟨nb, no, rfl, hnc⟩ := (H3.out.keep st.kept).2.2.2.2 (by omega)
      have cb : wr.cell? ⟨nb, no + i, none⟩ = some (.int .i64 (b : Nat)) := by rw [hnc i hlt, ints_get hbi]
      have HBI := Lib.hid hbi
      have HBR := Lib.hid hbr
      have d1 : decide (((b : Nat) : Int) < 0) = false := by simp
      have d2 : decide ((n : Int) ≤ ((b : Nat) : Int)) = false := by simp; omega
      have d3 : decide (n ≤ b) = false := by simp; omega
      have d4 : (((b : Nat) : Int) == ((a : Nat) : Int)) = false := by simp; omega
      have d5 : (b == a) = false := by simp; exact hba
      clear st hnc hbi hbr
      go_wp2_with fail
      refine (tside _ n n p a b _ (HP3.out.keep ST.out.kept)).mono ?_
      rintro e w4 ⟨rfl, k4⟩
      have ST4 := Lib.hid (ST.out.keep k4)
      rw [← rest_zero p a b n]
      have hr6 : rest p a b n 0 < 64 := by
        rw [rest_zero]
        have := sideTo_lt p a b n
        have : 2 ^ n ≤ 2 ^ 6 := Nat.pow_le_pow_right (by omega) h6
        omega
      go_wp2_with fail
      go_loopw [15, 16] (fun sv kv wr => ∃ k : Nat, k ≤ n ∧ sv = .int .i64 (rest p a b n k : Nat) ∧ kv = .int .i64 k ∧ SSt w3 w3.heap.size wr (fun y => if y < k then seenF p a n (i + 1) y else seenF p a n i y)) (fun _ kv _ => n - (intOf kv).toNat)
      case atStart => exact ⟨0, by omega, rfl, rfl, ST4.out.ext (fun y _ => by simp)⟩
      case round =>
        obtain ⟨k, hk, rfl, rfl, st⟩ := hrel
        have ST5 := Lib.hid st
        by_cases hkn : k < n
        · have ck := st.cells k (by omega)
          have fk := st.frz k
          simp only [Nat.lt_irrefl, if_false] at ck
          have hstep := rest_step p a b hkn
          have hsn := seen_step HBI.out k
          have hle : rest p a b n k < 64 := by
            have : rest p a b n k ≤ rest p a b n 0 := by rw [rest_zero]; exact Nat.div_le_self _ _
            omega
          have hsf : seenF p a n i k ≤ 6 := by
            have : seenF p a n i k ≤ i := Nat.le_trans (List.length_filter_le _ _) (by rw [List.length_take]; omega)
            omega
          have PUT : Hid (SSt w3 w3.heap.size (wr.setCell ⟨w3.heap.size, k, none⟩ (.int .i64 ((seenF p a n i k : Nat) + 1 : Int))) (fun y => if y = k then seenF p a n i k + 1 else if y < k then seenF p a n (i + 1) y else seenF p a n i y)) := by
            have h := ST5.out.put (Nat.le_refl _) (k := k) (by omega) (seenF p a n i k + 1)
            have e : ((seenF p a n i k + 1 : Nat) : Int) = (seenF p a n i k : Int) + 1 := by omega
            rw [e] at h
            exact h
          cases hf : firstIs p a b k
          · rw [hf] at hstep hsn
            simp only [Bool.false_eq_true, if_false, Nat.zero_add, Nat.add_zero] at hstep hsn
            have NX : Hid (SSt w3 w3.heap.size wr (fun y => if y < k + 1 then seenF p a n (i + 1) y else seenF p a n i y)) := ST5.out.ext (fun y _ => by
              by_cases e : y = k
              · subst e; rw [if_neg (by omega), if_pos (by omega), hsn]
              · by_cases e2 : y < k
                · rw [if_pos e2, if_pos (by omega)]
                · rw [if_neg e2, if_neg (by omega)])
            have hm : ((rest p a b n k : Nat) : Int).tmod 2 = 0 := (tmod_nat _ 2).trans (by rw [hstep]; omega)
            have hd : ((rest p a b n k : Nat) : Int).tdiv 2 = (rest p a b n (k + 1) : Nat) := (tdiv_nat _ 2).trans (by rw [hstep]; omega)
            have hle2 : rest p a b n (k + 1) < 64 := by omega
            clear hstep hsn st hf PUT
            generalize rest p a b n k = q at *
            generalize seenF p a n i k = f at *
            go_wp2_with fail
            go_roundw
            case rel => first | exact ⟨k + 1, by omega, by rw [hd], by go_num, NX.out⟩ | exact ⟨k + 1, by omega, rfl, by go_num, NX.out⟩ | ((repeat apply Exists.intro); exact ⟨⟨k + 1, by omega, rfl, by go_num, NX.out⟩, rfl⟩)
            case measure => simp [intOf]; omega
          · rw [hf] at hstep hsn
            simp only [if_true] at hstep hsn
            have NX : Hid (SSt w3 w3.heap.size (wr.setCell ⟨w3.heap.size, k, none⟩ (.int .i64 ((seenF p a n i k : Nat) + 1 : Int))) (fun y => if y < k + 1 then seenF p a n (i + 1) y else seenF p a n i y)) := PUT.out.ext (fun y _ => by
              by_cases e : y = k
              · subst e; rw [if_pos rfl, if_pos (by omega), hsn]
              · rw [if_neg e]
                by_cases e2 : y < k
                · rw [if_pos e2, if_pos (by omega)]
                · rw [if_neg e2, if_neg (by omega)])
            have hm : ((rest p a b n k : Nat) : Int).tmod 2 = 1 := (tmod_nat _ 2).trans (by rw [hstep]; omega)
            have hd : ((rest p a b n k : Nat) : Int).tdiv 2 = (rest p a b n (k + 1) : Nat) := (tdiv_nat _ 2).trans (by rw [hstep]; omega)
            have hle2 : rest p a b n (k + 1) < 64 := by omega
            clear hstep hsn st hf PUT
            generalize rest p a b n k = q at *
            generalize seenF p a n i k = f at *
            go_wp2_with fail
            go_roundw
            case rel => first | exact ⟨k + 1, by omega, by rw [hd], by go_num, NX.out⟩ | exact ⟨k + 1, by omega, rfl, by go_num, NX.out⟩ | ((repeat apply Exists.intro); exact ⟨⟨k + 1, by omega, rfl, by go_num, NX.out⟩, rfl⟩)
            case measure => simp [intOf]; omega
        · obtain rfl : k = n := by omega
          rw [rest_end]
          have cb2 := st.cells b (by omega)
          rw [if_pos hbn] at cb2
          have hone : seenF p a k (i + 1) b = 1 := by
            have := seen_near HT.out (a := a) (b := b) (i := i) (by rw [HL.out]; exact hb2) (by rw [HL.out]; exact HBI.out)
            rwa [HL.out] at this
          rw [hone] at cb2
          have NX : Hid (SSt w3 w3.heap.size wr (seenF p a k (i + 1))) := ST5.out.ext (fun y _ => by
            by_cases e : y < k
            · rw [if_pos e]
            · rw [if_neg e, seen_step HBI.out y, first_far (by rw [HL.out]; omega)]
              rfl)
          clear st hone
          go_wp2_with fail
          go_roundw
          case rel => first | exact ⟨i + 1, by omega, by go_num, NX.out⟩ | ((repeat apply Exists.intro); exact ⟨⟨i + 1, by omega, by go_num, NX.out⟩, rfl⟩)
          case measure => simp [intOf]; omega
    · obtain rfl : i = L := by omega
      have HW := Lib.hid st.kept
      clear st
      go_wp2_with fail
      go_loopw [17] (fun kv wr2 => ∃ k : Nat, k ≤ n ∧ kv = .int .i64 k ∧ SSt w3 w3.heap.size wr2 (seenF p a n i)) (fun kv _ => n - (intOf kv).toNat)
      case atStart => exact ⟨0, by omega, rfl, ST.out⟩
      case round =>
        obtain ⟨k, hk, rfl, st⟩ := hrel
        have ST5 := Lib.hid st
        by_cases hkn : k < n
        · have ck := st.cells k (by omega)
          by_cases e : k = a
          · subst e
            have h0 : seenF p k n i k = 0 := by
              have := seen_self HT.out (a := k) (by rw [HL.out]; exact hb2) i
              rwa [HL.out] at this
            rw [h0] at ck
            clear st h0
            go_wp2_with fail
            go_roundw
            case rel => first | exact ⟨k + 1, by omega, by go_num, ST5.out⟩ | ((repeat apply Exists.intro); exact ⟨⟨k + 1, by omega, by go_num, ST5.out⟩, rfl⟩)
            case measure => simp [intOf]; omega
          · have h0 : seenF p a n i k = 1 := by
              have := seen_other HT.out (a := a) (k := k) (by rw [HL.out]; exact hb2) (by rw [HL.out]; exact hkn) e
              rwa [HL.out, HLL.out] at this
            rw [h0] at ck
            have d1 : ((k : Int) == (a : Int)) = false := by simp; omega
            have d2 : (k == a) = false := by simp; exact e
            clear st h0 e
            go_wp2_with fail
            go_roundw
            case rel => first | exact ⟨k + 1, by omega, by go_num, ST5.out⟩ | ((repeat apply Exists.intro); exact ⟨⟨k + 1, by omega, by go_num, ST5.out⟩, rfl⟩)
            case measure => simp [intOf]; omega
        · obtain rfl : k = n := by omega
          clear st
          go_wp2_with fail
          refine (check_any _ _ _ p _ (HP3.out.keep ST5.out.kept)).mono ?_
          rintro e w6 ⟨B, rfl, hB, k6⟩
          obtain rfl : B = true := hB.2 HT.out
          clear hB
          go_wp2_with fail
          go_ret
          exact ⟨rfl, (K3.call ST5.out.kept).call k6⟩
end Go.Proofs.Ytcibbcfkehpmiaa
