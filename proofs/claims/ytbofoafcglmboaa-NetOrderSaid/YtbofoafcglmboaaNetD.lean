/- The net's New and Idle. -/
import Derived.Test.YtbofoafcglmboaaNetC
set_option linter.unusedSimpArgs false
set_option linter.unusedVariables false
namespace Go.Proofs.Ytbofoafcglmboaa
open Go.RowKit Go.Maps

theorem new_no (n : Int) (w : World) (hn : n < 1 ∨ 6 < n) :
    Calls Try.prog 10 #[.int .i64 n] w fun e w' => e = .returned (.pointer none) ∧ Kept w w' := by
  rcases hn with hn | hn
  · have e1 : decide (n < 1) = true := decide_eq_true hn
    go_enter Try.func10, Try.ntmps10
    go_wp2
    go_ret
    exact ⟨rfl, by repeat (first | exact Kept.refl _ | assumption | (refine Kept.alloc ?_ _) | (refine Kept.setCell ?_ (by first | omega | (simp; omega) | simp) _) | refine Kept.drew ?_ | refine Kept.drewN ?_ _ | (apply Kept.call; rotate_left; assumption))⟩
  · have e1 : decide (n < 1) = false := decide_eq_false (by omega)
    have e2 : decide (6 < n) = true := decide_eq_true hn
    go_enter Try.func10, Try.ntmps10
    go_wp2
    go_ret
    exact ⟨rfl, by repeat (first | exact Kept.refl _ | assumption | (refine Kept.alloc ?_ _) | (refine Kept.setCell ?_ (by first | omega | (simp; omega) | simp) _) | refine Kept.drew ?_ | refine Kept.drewN ?_ _ | (apply Kept.call; rotate_left; assumption))⟩
def madeP (n a b : Nat) : Nat → Nat → Bool := fun i j => decide (i < n) && decide (j < n) && decide (i ≠ j) && (decide (i < a) || (decide (i = a) && decide (j < b)))
def fullP (n : Nat) : Nat → Nat → Bool := fun i j => decide (i < n) && decide (j < n) && decide (i ≠ j)
theorem NetF.cong {w0 w : World} {X : List Nat} {N M k : Nat} {S : Who} {F : Nat → Nat → List Nat} {P P' : Nat → Nat → Bool} {st st' : Nat → Nat → Ses} (h : NetF w0 X w N M k S F P st) (hP : ∀ a c, a < 6 → c < 6 → P' a c = P a c) (hst : ∀ a c, a < 6 → c < 6 → st' a c = st a c) : NetF w0 X w N M k S F P' st' :=
  { h with
    who := fun a c ha hc => by rw [hP a c ha hc]; exact h.who a c ha hc
    ses := fun a c s ha hc hs => by rw [hst a c ha hc]; exact h.ses a c s ha hc hs }
theorem madeP_skip (n a i j : Nat) : madeP n a (a + 1) i j = madeP n a a i j := by
  unfold madeP
  by_cases h : i = a
  · subst h
    by_cases h2 : i = j
    · subst h2; simp
    · have e : decide (j < i + 1) = decide (j < i) := by simp; omega
      rw [e]
  · simp [h]
theorem madeP_next (n a i j : Nat) (h : a < n) : madeP n (a + 1) 0 i j = madeP n a n i j := by
  unfold madeP
  by_cases h1 : j < n
  · have e : decide (i < a + 1) = (decide (i < a) || decide (i = a)) := by
      by_cases h2 : i < a
      · simp [h2]; omega
      · simp [h2]; omega
    simp [h1, e]
  · simp [h1]
theorem madeP_more (n a b i j : Nat) (ha : a < n) (hb : b < n) (hab : a ≠ b) : madeP n a (b + 1) i j = (madeP n a b i j || (decide (i = a) && decide (j = b))) := by
  unfold madeP
  by_cases h : i = a
  · subst h
    by_cases h2 : j = b
    · subst h2; simp [ha, hb, hab]
    · have e : decide (j < b + 1) = decide (j < b) := by simp; omega
      simp [e, h2]
  · simp [h]
theorem NetF.putNew {w0 wr wd : World} {N M k : Nat} {S : Who} {F : Nat → Nat → List Nat} {n a b s sb rb : Nat} (h : NetF w0 [] wr N M k S F (madeP n a b) (fun _ _ => ses0)) (h0 : Kept w0 wr) (hk : Kept wr wd) (ha : a < n) (hb : b < n) (hn : n ≤ 6) (hab : a ≠ b) (hkm : k < 36)
    (hss : wd.heap[s]? = some (.cells #[.pointer (some ⟨sb, 0, none⟩), .pointer (some ⟨rb, 0, none⟩), .slice none 0 0] 55 (0, 0))) (hS : Snd wd sb none 0 []) (hR : Recv wd rb 0) (z1 : wr.heap.size ≤ s) (z2 : wr.heap.size ≤ sb) (z3 : wr.heap.size ≤ rb) :
    ∃ w', (Instr.mapUpdate 46 (.map (some M)) (.agg #[.int .i64 (a : Int), .int .i64 (b : Int)]) (.pointer (some ⟨s, 0, none⟩))).run Try.prog wd = .ok () w' ∧
      (∃ S' F', NetF w0 [] w' N M (k + 1) S' F' (madeP n a (b + 1)) (fun _ _ => ses0)) ∧ Kept w0 w' := by
  have hlt := fun {x : Nat} {o : Obj} (h : wd.heap[x]? = some o) => (Array.getElem?_eq_some_iff.1 h).1
  have hsz := hlt hss
  have hbz := hS.lt
  have hrz := hR.lt
  obtain ⟨v, hv, _⟩ := id hS
  unfold Recv at hR
  have n1 : s ≠ sb := by
    intro e; rw [e, hv] at hss; injection hss with hss; injection hss with hss; simp at hss
  have n2 : s ≠ rb := by
    intro e; rw [e, hR] at hss; injection hss with hss; injection hss with hss; simp at hss
  have n3 : sb ≠ rb := by
    intro e; rw [e, hR] at hv; injection hv with hv; injection hv with hv; simp at hv
  have hSes : Sess wd [s, sb, rb] s [] 0 [] := ⟨sb, rb, none, none, .slice none 0 0, rfl, by simp; exact ⟨⟨n1, n2⟩, n3⟩, fun x hx => by simp at hx; rcases hx with rfl | rfl | rfl <;> assumption, hss, hS, hR, OpenK.nil _ _, by simp, fun q hq => by cases hq⟩
  obtain ⟨w', hrun, hp, hg⟩ := (h.keep hk).map.put (a := a) (c := b) (by omega) (by omega) s (by unfold maxLen; omega)
  obtain ⟨hf, hb2⟩ := h.put h0 hk (a := a) (c := b) (by omega) (by omega) [s, sb, rb] ses0 hSes (fun y hy => by simp at hy; rcases hy with rfl | rfl | rfl <;> assumption) hkm hp hg
  refine ⟨w', hrun, ⟨_, _, hf.cong (fun i j _ _ => madeP_more n a b i j ha hb hab) (fun i j _ _ => ?_)⟩, h0.but hb2 (fun x hx => by rw [show x = M by simpa using hx]; exact h.nM)⟩
  unfold setS; split <;> rfl
set_option maxRecDepth 20000 in
set_option maxHeartbeats 2000000 in
theorem new_any (n : Nat) (w : World) (h1 : 1 ≤ n) (h6 : n ≤ 6) :
    Calls Try.prog 10 #[.int .i64 n] w fun e w' => ∃ N, e = .returned (.pointer (some ⟨N, 0, none⟩)) ∧ NetIn w [] w' N (fullP n) (fun _ _ => ses0) ∧ Kept w w' := by
  have e1 : decide ((n : Int) < 1) = false := by simp; omega
  have e2 : decide (6 < (n : Int)) = false := by simp; omega
  have hmm := fun W => run_makeMap (P := Try.prog) 46 W
  go_enter Try.func10, Try.ntmps10
  go_wp2
  have hF0 : NetF w [] ((w.alloc (.map #[] 0)).alloc (.cells #[.map (some w.heap.size)] 48)) (w.heap.size + 1) w.heap.size 0 (fun _ _ => none) (fun _ _ => []) (madeP n 0 0) (fun _ _ => ses0) :=
    { net := by
        have := heap_alloc_new (w.alloc (.map #[] 0)) (.cells #[.map (some w.heap.size)] 48)
        rw [World.size_alloc] at this
        exact this
      map := (PM.new w).keep ((Kept.refl _).alloc _)
      many := by omega
      ne := by omega
      nN := by omega
      nM := by omega
      lN := by simp
      lX := fun x hx => by simp at hx
      who := fun a c ha hc => by simp [madeP]
      ses := fun a c s _ _ h => by cases h
      own := fun a c s _ _ h => by cases h
      apart := fun a c s _ _ _ _ _ h => by cases h }
  have HF0 := Lib.hid hF0
  have HK0 : Hid (Kept w ((w.alloc (.map #[] 0)).alloc (.cells #[.map (some w.heap.size)] 48))) := ((Kept.refl w).alloc _).alloc _
  clear hF0 hmm
  generalize (w.alloc (.map #[] 0)).alloc (.cells #[.map (some w.heap.size)] 48) = W1 at HF0 HK0 ⊢
  generalize hN : w.heap.size + 1 = N at HF0 ⊢
  generalize hM : w.heap.size = M at HF0 ⊢
  have HN := Lib.hid hN
  have HM := Lib.hid hM
  clear hN hM
  go_loopw [16] (fun iv wr => ∃ (a k : Nat) (S : Who) (F : Nat → Nat → List Nat), a ≤ n ∧ k ≤ a * 6 ∧ iv = .int .i64 a ∧ Hid (NetF w [] wr N M k S F (madeP n a 0) (fun _ _ => ses0)) ∧ Kept w wr) (fun iv _ => n - (intOf iv).toNat)
  case atStart => exact ⟨0, 0, _, _, by omega, by omega, rfl, HF0, HK0.out⟩
  case round =>
    obtain ⟨a, k, S, F, ha, hk, rfl, hF, kr⟩ := hrel
    by_cases han : a < n
    · have ea : decide ((a : Int) < n) = true := by simp; omega
      go_wp2_with fail
      go_loopw [20] (fun jv wr => ∃ (b k : Nat) (S : Who) (F : Nat → Nat → List Nat), b ≤ n ∧ k ≤ a * 6 + b ∧ jv = .int .i64 b ∧ Hid (NetF w [] wr N M k S F (madeP n a b) (fun _ _ => ses0)) ∧ Kept w wr) (fun jv _ => n - (intOf jv).toNat)
      case atStart => exact ⟨0, k, _, _, by omega, by omega, rfl, hF, kr⟩
      case round =>
        clear hF kr
        obtain ⟨b, k, S, F, hb, hk, rfl, hF, kr⟩ := hrel
        by_cases hbn : b < n
        · have eb : decide ((b : Int) < n) = true := by simp; omega
          by_cases hab : a = b
          · subst hab
            have e3 : decide (¬ (a : Int) = a) = false := by simp
            go_wp2_with fail
            go_roundw
            case rel => exact ⟨a + 1, k, S, F, by omega, by omega, by go_num, hF.out.cong (fun i j hi hj => madeP_skip n a i j) (fun _ _ _ _ => rfl), kr⟩
            case measure => simp [intOf]; omega
          · have e3 : ¬ (a : Int) = b := by omega
            have c0 : wr.cell? ⟨N, 0, none⟩ = some (.map (some M)) := by
              have := cellOf hF.out.net 0
              simpa using this
            have hNl := hF.out.lN
            have hNn := hF.out.nN
            have KR := Lib.hid kr
            go_wp2_with fail
            (try go_simp)
            refine wp_region_text keepsOne (fun wB => Kept wr wB ∧ wB.cell? ⟨N, 0, none⟩ = some (.map (some M))) ?_ (by kernel_rfl) (by kernel_rfl) _ (by (try simp only [List.append_eq, List.cons_append, List.nil_append, List.toList_toArray]); exact rfl) ?_
            · exact ⟨by repeat (first | exact Kept.refl _ | assumption | (refine Kept.alloc ?_ _) | (refine Kept.setCell ?_ (by first | omega | (simp; omega) | simp) _) | refine Kept.drew ?_ | refine Kept.drewN ?_ _ | (apply Kept.call; rotate_left; assumption)), by first | assumption | go_simp⟩
            rintro wB ⟨hkB, sB1⟩
            iterate 11 (first | (apply DW.det; (focus (intro wd hI; have td1 := hI.at_ sB1; (try have HZS := Lib.hid (hkB.call hI).size); go_wp2_with (first | (go_at_call 19; refine (newSender_any _).mono ?_; rintro e w7 ⟨rfl, hb7, hSA⟩; have HSA := Lib.hid hSA; have HWA := Lib.hid (hkB.call hI).size; clear hSA) | (go_at_call 20; refine (newReceiver_any _).mono ?_; rintro e w8 ⟨rfl, hb8, hSB⟩; have HSA := Lib.hid (HSA.out.kept (hI.call hb8)); have HSB := Lib.hid hSB; have HWB := Lib.hid (hkB.call hI).size; clear hSB)); refine StepPost.mk _ rfl ⟨rfl, ?_⟩; repeat (first | exact Kept.refl _ | assumption | (refine Kept.alloc ?_ _) | (refine Kept.setCell ?_ (by first | omega | (simp; omega) | simp) _) | refine Kept.drew ?_ | refine Kept.drewN ?_ _ | (apply Kept.call; rotate_left; assumption)))); simp only [Act.put, List.setIfInBounds_toArray, List.set_cons_succ, List.set_cons_zero]) | (refine DW.loud (by kernel_rfl) ?_; intro wd hI; have td1 := hI.at_ sB1; (try have HZS := Lib.hid (hkB.call hI).size); go_wp2_with (first | (go_at_call 19; refine (newSender_any _).mono ?_; rintro e w7 ⟨rfl, hb7, hSA⟩; have HSA := Lib.hid hSA; have HWA := Lib.hid (hkB.call hI).size; clear hSA) | (go_at_call 20; refine (newReceiver_any _).mono ?_; rintro e w8 ⟨rfl, hb8, hSB⟩; have HSA := Lib.hid (HSA.out.kept (hI.call hb8)); have HSB := Lib.hid hSB; have HWB := Lib.hid (hkB.call hI).size; clear hSB)); refine StepPost.loud _ rfl (by repeat (first | exact Kept.refl _ | assumption | (refine Kept.alloc ?_ _) | (refine Kept.setCell ?_ (by first | omega | (simp; omega) | simp) _) | refine Kept.drew ?_ | refine Kept.drewN ?_ _ | (apply Kept.call; rotate_left; assumption))) (fun hkL => ?_); have hkL := hI.call hkL; have hkB := hkB.call hkL; have sB1 := hkL.at_ sB1; simp only [Act.put, List.setIfInBounds_toArray, List.set_cons_succ, List.set_cons_zero]))
            refine DW.tail (by kernel_rfl) ?_
            intro wd hI
            have hkd := hkB.call hI
            have td1 := hI.at_ sB1
            have hss := hI.heap (heap_alloc_new _ _)
            obtain ⟨w9, hrun, hnf, hkw⟩ := hF.out.putNew KR.out hkd han hbn h6 hab (by omega) hss (HSA.out.kept (hkL.call hI)) (HSB.out.kept (hkL.call hI)) HZS.out HWA.out HWB.out
            clear hss
            have HNF := Lib.hid hnf
            have HKW := Lib.hid hkw
            clear hnf hkw
            go_wp2_with fail
            go_roundw
            case rel => exact ⟨b + 1, k + 1, _, _, by omega, by omega, by go_num, Lib.hid HNF.out.choose_spec.choose_spec, HKW.out⟩
            case measure => simp [intOf]; omega
        · obtain rfl : b = n := by omega
          have eb : decide ((b : Int) < b) = false := by simp
          go_wp2_with fail
          go_roundw
          case rel => exact ⟨a + 1, k, S, F, by omega, by omega, by go_num, hF.out.cong (fun i j hi hj => madeP_next b a i j han) (fun _ _ _ _ => rfl), kr⟩
          case measure => simp [intOf]; omega
    · obtain rfl : a = n := by omega
      have ea : decide ((a : Int) < a) = false := by simp
      go_wp2_with fail
      go_ret
      exact ⟨N, rfl, ⟨_, _, _, _, hF.out.cong (fun i j hi hj => by unfold fullP madeP; by_cases h : i < a <;> simp [h]) (fun _ _ _ _ => rfl)⟩, kr⟩
end Go.Proofs.Ytbofoafcglmboaa
