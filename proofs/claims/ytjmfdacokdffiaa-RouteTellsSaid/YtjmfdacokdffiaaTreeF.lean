/- The program's Near, Path, Side and Far. -/
import Derived.Test.YtjmfdacokdffiaaTreeE
import Derived.WalkMore
set_option linter.unusedSimpArgs false
set_option linter.unusedVariables false
namespace Go.Proofs.Ytjmfdacokdffiaa
open Go.RowKit

/-- A row of sites is told, and it is the call's own. -/
def OwnIs (l : List Nat) (w : World) (e : Ending) (w' : World) : Prop := ∃ v, e = .returned v ∧ w'.ownsRow w.heap.size 3 1 v l.length (natC l) ∧ Kept w w'
set_option maxHeartbeats 1000000 in
theorem tnear_own (A : Option Addr) (n c : Nat) (p : List Int) (a : Int) (w : World) (hx : IntsAt w A n c p) :
    Calls Try.prog 43 #[.slice A n c, .int .i64 a] w (OwnIs (nearOf p a) w) := by
  obtain ⟨i0, hi, hz0, hz1, hz2⟩ := info_parts infoInt
  have HI := Lib.hid hi
  clear hi
  have HX := Lib.hid hx
  have hnn : n ≤ 9223372036854775807 := by have h1 := hx.2.1; have h2 := hx.2.2.1; unfold maxLen at h2; omega
  clear hx
  go_enter Try.func43, Try.ntmps43
  go_wp2_with fail
  go_step3
  go_wp2_with fail
  refine (there_any A n c p _ 1 1 [a] _ (HX.out.keep (by repeat (first | exact Kept.refl _ | assumption | (refine Kept.alloc ?_ _) | (refine Kept.setCell ?_ (by first | omega | (simp; omega) | simp) _) | refine Kept.drew ?_ | refine Kept.drewN ?_ _ | (apply Kept.call; rotate_left; assumption)))) (ints_one _ a w.heap.size (by go_simp))).mono ?_
  rintro e w1 ⟨B, rfl, hB, k1⟩
  have K1 : Kept w w1 := Kept.call (by repeat (first | exact Kept.refl _ | assumption | (refine Kept.alloc ?_ _) | (refine Kept.setCell ?_ (by first | omega | (simp; omega) | simp) _) | refine Kept.drew ?_ | refine Kept.drewN ?_ _ | (apply Kept.call; rotate_left; assumption))) k1
  have HB := Lib.hid hB
  clear hB
  cases B
  · have hno : Hid (nearOf p a = []) := by
      unfold Hid nearOf
      rw [if_neg (fun h => by have := HB.out.2 ⟨h.1, (allIn_one n a).2 (by rw [← HX.out.1]; exact h.2)⟩; cases this)]
    go_wp2_with fail
    (try rw [Exit.noGoto_ret])
    go_ret
    exact ⟨.slice none 0 0, rfl, by rw [hno.out]; exact World.ownsRow_nil _ _ _ _, K1⟩
  · obtain ⟨ht, hin⟩ := HB.out.1 (by simp)
    obtain ⟨h0, h1⟩ := (allIn_one n a).1 hin
    obtain ⟨y, rfl⟩ := Int.eq_ofNat_of_zero_le h0
    have hyn : y < n := by omega
    have n6 : n ≤ 6 := by have := ((tree_iff p).1 ht).2.1; rw [HX.out.1] at this; exact this
    have hyes : Hid (nearOf p (y : Int) = nearTo p y n) := by
      unfold Hid nearOf
      rw [if_pos ⟨ht, by omega, by rw [HX.out.1]; omega⟩, Int.toNat_natCast, HX.out.1]
    clear ht h0 h1 hin
    go_wp2_with fail
    go_step3
    go_wp2_with fail
    go_loopw [5, 14] (fun ov iv wr => ∃ (j l : Nat) (v : Value), ov = v ∧ j ≤ n ∧ iv = .int .i64 j ∧ (nearTo p y j).length = l ∧ wr.ownsRow w.heap.size 3 1 v l (natC (nearTo p y j)) ∧ Kept w wr) (fun _ iv _ => n - (intOf iv).toNat)
    case atStart => exact ⟨0, 0, _, rfl, by omega, rfl, rfl, World.ownsRow_nil _ _ _ _, K1⟩
    case round =>
      obtain ⟨j, l, v, rfl, hj, rfl, hl, ho, kr⟩ := hrel
      have hl6 : l ≤ j := by rw [← hl]; exact nearTo_len p y j
      have HL := Lib.hid hl
      have HO := Lib.hid ho
      clear hl ho
      by_cases hlt : j < n
      · cases hnr : nearB p y j
        · have HNR := Lib.hid hnr
          have HNN : Hid (nearTo p y (j + 1) = nearTo p y j) := nearTo_no hnr
          clear hnr
          go_wp2_with fail
          refine (near_any A n c p y j _ (HX.out.keep kr) hyn hlt).mono ?_
          rintro e w2 ⟨rfl, k2⟩
          have K2 := kr.call k2
          have HO2 := Lib.hid (Kept.own HO.out k2)
          rw [HNR.out]
          go_wp2_with fail
          go_roundw
          case rel => exact ⟨j + 1, l, _, rfl, by omega, by go_num, by rw [HNN.out]; exact HL.out, by rw [HNN.out]; exact HO2.out, K2⟩
          case measure => simp [intOf]; omega
        · have HNR := Lib.hid hnr
          have HNY : Hid (nearTo p y (j + 1) = nearTo p y j ++ [j]) := nearTo_yes hnr
          clear hnr
          go_wp2_with fail
          refine (near_any A n c p y j _ (HX.out.keep kr) hyn hlt).mono ?_
          rintro e w2 ⟨rfl, k2⟩
          have K2 := kr.call k2
          have HO2 := Lib.hid (Kept.own HO.out k2)
          rw [HNR.out]
          have hol : Hid ((natC (nearTo p y j)).length = l * 1) := by unfold Hid; rw [natC_len, HL.out, Nat.mul_one]
          have hz : w.heap.size ≤ w2.heap.size := K2.size
          go_wp2_with (at_builtin; refine wpList_append_own _ rfl _ _ 22 rfl w.heap.size 3 i0 (.int .i64 0) 1 8 Try.underlying22 HI.out hz0 hz1 hz2 rfl (by decide) _ l _ rfl (HO2.out.alloc _) ⟨w2.heap.size, 0, none⟩ 1 1 [.int .i64 (j : Nat)] rfl rfl (cell_one_new _ _ _) (by simp [Value.oneCell']) (by unfold maxLen; omega) (by omega) (by simp; omega) ?_; intro v3 w3 hown3 hgrow3 _; have HL3 := HO2.out.lt; have K3 : Kept w w3 := (K2.alloc _).grown hgrow3 (fun g hg => (HL3 g hg).1); rw [natC_snoc] at hown3; have HO3 := Lib.hid hown3; clear hown3)
          go_roundw
          case rel => exact ⟨j + 1, l + 1, _, rfl, by omega, by go_num, by rw [HNY.out, List.length_append, HL.out]; rfl, by rw [HNY.out]; exact HO3.out, K3⟩
          case measure => simp [intOf]; omega
      · obtain rfl : j = n := by omega
        obtain ⟨A2, c2, rfl⟩ := own_slice HO.out
        go_wp2_with fail
        (try rw [Exit.noGoto_ret])
        go_ret
        refine ⟨_, rfl, ?_, kr⟩
        rw [hyes.out, HL.out]
        exact HO.out
theorem tnear (A : Option Addr) (n c : Nat) (p : List Int) (a : Int) (w : World) (hx : IntsAt w A n c p) :
    Calls Try.prog 43 #[.slice A n c, .int .i64 a] w (RowIs (nearOf p a) w) :=
  (tnear_own A n c p a w hx).mono fun e w' ⟨v, he, ho, hk⟩ => by
    obtain ⟨A2, c2, rfl, hia⟩ := IntsAt.of_own ho
    exact ⟨A2, c2, he, hia, hk⟩
set_option maxHeartbeats 1000000 in
theorem tpath (A : Option Addr) (n c : Nat) (p : List Int) (a b : Int) (w : World) (hx : IntsAt w A n c p) :
    Calls Try.prog 51 #[.slice A n c, .int .i64 a, .int .i64 b] w (RowIs (pathOf p a b) w) := by
  have hmf : ∀ fn first cap w, (Instr.makeFunc fn first cap).run Try.prog w = .ok (.func fn first cap) w := fun _ _ _ _ => rfl
  have hsf : ∀ fn first cap a w, (store a (.func fn first cap)).run Try.prog w = stored Try.prog w a (.func fn first cap) .plain := fun _ _ _ _ _ => run_store _ _ _ _ _ rfl
  have HX := Lib.hid hx
  clear hx
  go_enter Try.func51, Try.ntmps51
  go_wp2_with fail
  refine (there_any A n c p _ 2 2 [a, b] _ (HX.out.keep (by repeat (first | exact Kept.refl _ | assumption | (refine Kept.alloc ?_ _) | (refine Kept.setCell ?_ (by first | omega | (simp; omega) | simp) _) | refine Kept.drew ?_ | refine Kept.drewN ?_ _ | (apply Kept.call; rotate_left; assumption)))) (ints_two _ a b (w.heap.size + 1 + 1) (by go_simp) (by go_simp))).mono ?_
  rintro e w1 ⟨B, rfl, hB, k1⟩
  have K1 : Kept w w1 := Kept.call (by repeat (first | exact Kept.refl _ | assumption | (refine Kept.alloc ?_ _) | (refine Kept.setCell ?_ (by first | omega | (simp; omega) | simp) _) | refine Kept.drew ?_ | refine Kept.drewN ?_ _ | (apply Kept.call; rotate_left; assumption))) k1
  have cP : w1.cell? ⟨w.heap.size, 0, none⟩ = some (.slice A n c) := k1.at_ (by go_simp)
  have cB : w1.cell? ⟨w.heap.size + 1, 0, none⟩ = some (.int .i64 b) := k1.at_ (by go_simp)
  have HB := Lib.hid hB
  clear hB k1
  cases B
  · have hno : Hid (pathOf p a b = []) := path_no (fun h => by have := HB.out.2 ⟨h.1, (allIn_two n a b).2 (by rw [← HX.out.1]; exact h.2)⟩; cases this)
    go_wp2_with fail
    go_ret
    exact ⟨none, 0, by rw [hno.out]; rfl, by rw [hno.out]; exact ⟨rfl, Nat.le_refl _, by unfold maxLen; omega, fun _ => ⟨rfl, rfl⟩, fun h => absurd h (Nat.lt_irrefl _)⟩, K1⟩
  · obtain ⟨ht, hin⟩ := HB.out.1 (by simp)
    obtain ⟨⟨h0, h1⟩, h2, h3⟩ := (allIn_two n a b).1 hin
    obtain ⟨x, rfl⟩ := Int.eq_ofNat_of_zero_le h0
    obtain ⟨y, rfl⟩ := Int.eq_ofNat_of_zero_le h2
    have hxn : x < n := by omega
    have hyn : y < n := by omega
    have hyes : Hid (pathOf p (x : Int) (y : Int) = wk p x y) := by
      unfold Hid pathOf
      rw [if_pos ⟨ht, ⟨by omega, by rw [HX.out.1]; omega⟩, by omega, by rw [HX.out.1]; omega⟩, Int.toNat_natCast, Int.toNat_natCast]
    have HT := Lib.hid ht
    obtain ⟨R, hT⟩ := ht
    have HR := Lib.hid hT
    clear h0 h1 hin h2 h3 hT
    go_wp2_with fail
    refine (walk_any A n c p R HR.out w.heap.size (w.heap.size + 1) w1.heap.size y _ rfl n [] x (-1) _ (by simp) (W.one (by rw [HX.out.1]; exact hxn)) (.inl ⟨rfl, rfl⟩) (HX.out.keep (by repeat (first | exact Kept.refl _ | assumption | (refine Kept.alloc ?_ _) | (refine Kept.setCell ?_ (by first | omega | (simp; omega) | simp) _) | refine Kept.drew ?_ | refine Kept.drewN ?_ _ | (apply Kept.call; rotate_left; assumption)))) (((Kept.refl w1).alloc _).at_ cP) (((Kept.refl w1).alloc _).at_ cB) (by go_simp)).mono ?_
    rintro e w2 ⟨A3, c3, l, rfl, hia, k2, _, hres⟩
    have K2 : Kept w w2 := Kept.call (by repeat (first | exact Kept.refl _ | assumption | (refine Kept.alloc ?_ _) | (refine Kept.setCell ?_ (by first | omega | (simp; omega) | simp) _) | refine Kept.drew ?_ | refine Kept.drewN ?_ _ | (apply Kept.call; rotate_left; assumption))) k2
    have hl : Hid (wk p x y = l) := by
      have hs := wk_spec HT.out (a := x) (b := y) (by rw [HX.out.1]; exact hxn) (by rw [HX.out.1]; exact hyn)
      rcases hres with ⟨_, hno⟩ | ⟨hw, hh, z, hz, hzb⟩
      · exfalso
        obtain ⟨hw, hh, hz⟩ := hs
        cases hwk : wk p x y with
        | nil => rw [hwk] at hh; cases hh
        | cons u m =>
          rw [hwk] at hw hh hz
          obtain rfl : u = x := by simpa using hh
          exact hno m y (by simpa using hw) hz rfl
      · obtain rfl : z = y := by omega
        exact wk_is HT.out hw ⟨hh, hz⟩
    have HIA := Lib.hid hia
    clear hia hres k2
    go_wp2_with fail
    go_ret
    exact ⟨A3, c3, by rw [hyes.out, hl.out]; rfl, by rw [hyes.out, hl.out]; exact HIA.out, K2⟩
theorem or_pow_all : ∀ j : Fin 6, ∀ r : Fin 32, (r : Nat) < 2 ^ (j : Nat) → bits .or .i64 ((r : Nat) : Int) (wrap64 (2 ^ (j : Nat))) = (((r : Nat) + 2 ^ (j : Nat) : Nat) : Int) := of_decide_eq_true (by kernel_rfl)
theorem or_pow (j r : Nat) (hj : j < 6) (hr : r < 2 ^ j) : bits .or .i64 (r : Int) (wrap64 (2 ^ j)) = ((r + 2 ^ j : Nat) : Int) := by
  have h : 2 ^ j ≤ 2 ^ 5 := Nat.pow_le_pow_right (by omega) (by omega)
  exact or_pow_all ⟨j, hj⟩ ⟨r, by omega⟩ hr
set_option maxHeartbeats 2000000 in
theorem tside (A : Option Addr) (n c : Nat) (p : List Int) (a b : Int) (w : World) (hx : IntsAt w A n c p) :
    Calls Try.prog 41 #[.slice A n c, .int .i64 a, .int .i64 b] w fun e w' => e = .returned (.int .i64 (sideTo p a b n : Nat)) ∧ Kept w w' := by
  by_cases ht : IsTree p
  · have n6 : n ≤ 6 := by have := ((tree_iff p).1 ht).2.1; rw [hx.1] at this; exact this
    have HX := Lib.hid hx
    clear hx ht
    go_enter Try.func41, Try.ntmps41
    go_wp2_with fail
    go_loopw [7, 12] (fun nv iv wr => ∃ j : Nat, j ≤ n ∧ nv = .int .i64 (sideTo p a b j : Nat) ∧ iv = .int .i64 j ∧ Kept w wr) (fun _ iv _ => n - (intOf iv).toNat)
    case atStart => exact ⟨0, by omega, rfl, rfl, by repeat (first | exact Kept.refl _ | assumption | (refine Kept.alloc ?_ _) | (refine Kept.setCell ?_ (by first | omega | (simp; omega) | simp) _) | refine Kept.drew ?_ | refine Kept.drewN ?_ _ | (apply Kept.call; rotate_left; assumption))⟩
    case round =>
      obtain ⟨j, hj, rfl, rfl, kr⟩ := hrel
      by_cases hlt : j < n
      · have hs1 := sideTo_lt p a b j
        have hp1 : 2 ^ j ≤ 2 ^ 6 := Nat.pow_le_pow_right (by omega) (by omega)
        have HS1 := Lib.hid hs1
        have hnx : Hid (sideTo p a b (j + 1) = sideTo p a b j + if firstIs p a b j then 2 ^ j else 0) := rfl
        have hfi : Hid (firstIs p a b j = ((pathOf p a (j : Int))[1]? : Option Nat).any fun x => decide ((x : Int) = b)) := rfl
        go_wp2_with fail
        refine (tpath A n c p a j _ (HX.out.keep kr)).mono ?_
        rintro e w2 ⟨B, bc, rfl, hB, k2⟩
        have K2 := kr.call k2
        have HBB := Lib.hid hB
        have b1 := hB.2.1
        have b2 := hB.2.2.1
        unfold maxLen at b2
        clear hB
        rcases hl : pathOf p a (j : Int) with _ | ⟨z0, _ | ⟨z1, rest⟩⟩
        · have hf : Hid (sideTo p a b (j + 1) = sideTo p a b j) := by unfold Hid; rw [hnx.out, hfi.out, hl]; rfl
          generalize sideTo p a b j = r at *
          go_wp2_with fail
          go_roundw
          case rel => first | exact ⟨j + 1, by omega, by rw [hf.out], by go_num, K2⟩ | ((repeat apply Exists.intro); exact ⟨⟨j + 1, by omega, by rw [hf.out], by go_num, K2⟩, rfl⟩)
          case measure => simp [intOf]; omega
        · have hf : Hid (sideTo p a b (j + 1) = sideTo p a b j) := by unfold Hid; rw [hnx.out, hfi.out, hl]; rfl
          generalize sideTo p a b j = r at *
          go_wp2_with fail
          go_roundw
          case rel => first | exact ⟨j + 1, by omega, by rw [hf.out], by go_num, K2⟩ | ((repeat apply Exists.intro); exact ⟨⟨j + 1, by omega, by rw [hf.out], by go_num, K2⟩, rfl⟩)
          case measure => simp [intOf]; omega
        · rw [hl] at b1
          simp only [List.length_cons] at b1
          have hlen : Hid ((z0 :: z1 :: rest).length = rest.length + 2) := rfl
          obtain ⟨bb, bo, rfl, hbc⟩ := HBB.out.2.2.2.2 (by rw [hl]; simp)
          have c1 : w2.cell? ⟨bb, bo + 1, none⟩ = some (.int .i64 z1) := by rw [hbc 1 (by rw [hl]; simp), hl]; rfl
          clear hbc
          by_cases hb : (z1 : Int) = b
          · have hf : Hid (sideTo p a b (j + 1) = sideTo p a b j + 2 ^ j) := by unfold Hid; rw [hnx.out, hfi.out, hl]; simp [hb]
            have d : ((z1 : Int) == b) = true := by simpa using hb
            clear hb
            go_wp2_with fail
            have hor := or_pow j (sideTo p a b j) (by omega) HS1.out
            go_roundw
            case rel => first | exact ⟨j + 1, by omega, by rw [hf.out, hor], by go_num, K2⟩ | ((repeat apply Exists.intro); exact ⟨⟨j + 1, by omega, by rw [hf.out, hor], by go_num, K2⟩, rfl⟩)
            case measure => simp [intOf]; omega
          · have hf : Hid (sideTo p a b (j + 1) = sideTo p a b j) := by unfold Hid; rw [hnx.out, hfi.out, hl]; simp [hb]
            have d : ((z1 : Int) == b) = false := by simpa using hb
            clear hb
            generalize sideTo p a b j = r at *
            go_wp2_with fail
            go_roundw
            case rel => first | exact ⟨j + 1, by omega, by rw [hf.out], by go_num, K2⟩ | ((repeat apply Exists.intro); exact ⟨⟨j + 1, by omega, by rw [hf.out], by go_num, K2⟩, rfl⟩)
            case measure => simp [intOf]; omega
      · obtain rfl : j = n := by omega
        go_wp2_with fail
        go_ret
        exact ⟨rfl, kr⟩
  · have hn : n ≤ 9223372036854775807 := by have h1 := hx.2.1; have h2 := hx.2.2.1; unfold maxLen at h2; omega
    have HX := Lib.hid hx
    have HS : Hid (∀ j, sideTo p a b j = 0) := side_no ht a b
    have HE : Hid (∀ x : Int, pathOf p a x = []) := fun x => path_no (fun h => ht h.1)
    clear hx ht
    go_enter Try.func41, Try.ntmps41
    go_wp2_with fail
    go_loopw [7, 12] (fun nv iv wr => ∃ j : Nat, j ≤ n ∧ nv = .int .i64 0 ∧ iv = .int .i64 j ∧ Kept w wr) (fun _ iv _ => n - (intOf iv).toNat)
    case atStart => exact ⟨0, by omega, rfl, rfl, by repeat (first | exact Kept.refl _ | assumption | (refine Kept.alloc ?_ _) | (refine Kept.setCell ?_ (by first | omega | (simp; omega) | simp) _) | refine Kept.drew ?_ | refine Kept.drewN ?_ _ | (apply Kept.call; rotate_left; assumption))⟩
    case round =>
      obtain ⟨j, hj, rfl, rfl, kr⟩ := hrel
      by_cases hlt : j < n
      · go_wp2_with fail
        refine (tpath A n c p a j _ (HX.out.keep kr)).mono ?_
        rintro e w2 ⟨B, bc, rfl, _, k2⟩
        have K2 := kr.call k2
        rw [HE.out]
        go_wp2_with fail
        go_roundw
        case rel => first | exact ⟨j + 1, by omega, rfl, by go_num, K2⟩ | ((repeat apply Exists.intro); exact ⟨⟨j + 1, by omega, rfl, by go_num, K2⟩, rfl⟩)
        case measure => simp [intOf]; omega
      · obtain rfl : j = n := by omega
        go_wp2_with fail
        go_ret
        exact ⟨by rw [HS.out]; rfl, kr⟩
end Go.Proofs.Ytjmfdacokdffiaa
