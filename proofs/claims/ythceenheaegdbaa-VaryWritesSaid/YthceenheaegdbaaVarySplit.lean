/- The walk of the law VarySplit: it returns true for all rows of numbers. -/
import Derived.Test.YthceenheaegdbaaVarySp
set_option linter.unusedSimpArgs false
set_option linter.unusedVariables false
namespace Go.Proofs.Ythceenheaegdbaa
open Go.RowKit

/-- The first K numbers of a row. -/
def firsts (x : Nat → Int) (K : Nat) : List Nat := (List.range K).map fun i => (x i).toNat
theorem firsts_len (x : Nat → Int) (K : Nat) : (firsts x K).length = K := by simp [firsts]
theorem firsts_get (x : Nat → Int) (K i : Nat) (h : i < K) : (firsts x K)[i]?.getD 0 = (x i).toNat := by simp [firsts, h]
theorem firsts_snoc (x : Nat → Int) (K : Nat) : firsts x (K + 1) = firsts x K ++ [(x K).toNat] := by simp [firsts, List.range_succ]
theorem firsts_small (x : Nat → Int) (n K : Nat) (hK : K ≤ n) (hx : ∀ i, i < n → (Lit.int .u64 (x i)).wf = true) : Small (firsts x K) := by
  intro m hm
  simp only [firsts, List.mem_map, List.mem_range] at hm
  obtain ⟨i, hi, rfl⟩ := hm
  have := bounds_u64 (hx i (by omega))
  omega
theorem R64.of_row {w : World} {A : Option Addr} {n c : Nat} {x : Nat → Int} (K : Nat) (hK : K ≤ n) (h : RowAt w A n c 1 (fun i => [.int .u64 (x i)])) (hx : ∀ i, i < n → (Lit.int .u64 (x i)).wf = true) : R64 w A K c (firsts x K) := by
  refine ⟨firsts_len x K, by have := h.1; omega, h.2.1, fun h0 => ?_⟩
  obtain ⟨b, off, h1, h2, h3⟩ := h.one (by omega)
  refine ⟨b, off, h1, h2, fun i hi => ?_⟩
  rw [h3 i (by omega), firsts_get x K i hi]
  have := (bounds_u64 (hx i (by omega))).1
  rw [Int.toNat_of_nonneg this]
theorem no_more (xs ms : List Nat) : encs xs ++ [128] ≠ encs ms := by
  intro h
  obtain ⟨r, _, h2⟩ := encs_split xs ms [128] h.symm
  cases r with
  | nil => exact absurd h2 (by simp [encs])
  | cons a r =>
    have h3 : enc a <+: [128] := by rw [h2, encs_cons]; exact List.prefix_append _ _
    obtain ⟨k, _, _, h4⟩ := (enc_at_hi a 128 [] (by decide)).1 h3
    exact enc_at_nil k h4


set_option maxHeartbeats 4000000 in
set_option maxRecDepth 100000 in
theorem varySplit_walk (A : Option Addr) (n c : Nat) (x : Nat → Int) (w : World) (hr : RowAt w A n c 1 (fun i => [.int .u64 (x i)])) (hx : ∀ i, i < n → (Lit.int .u64 (x i)).wf = true) :
    Calls Try.prog 10 #[.slice A n c] w fun e w' => e = .returned (.bool true) ∧ Kept w w' := by
  have HX := Lib.hid hx
  have HR := Lib.hid hr
  have hnc := hr.1
  have hcm := hr.2.1
  unfold maxLen at hcm
  clear hr hx
  rcases Nat.lt_or_ge 12 n with h12 | h12
  · obtain ⟨b0, o0, rfl, _⟩ := HR.out.2.2.2 (by omega)
    generalize hAA : (some ⟨b0, o0, none⟩ : Option Addr) = A at *
    have HAA := Lib.hid hAA
    clear hAA
    go_enter Try.func10, Try.ntmps10
    go_wp2_with fail
    refine (awake_any _).mono ?_
    rintro e w1 ⟨rfl, k1⟩
    have hR := R64.of_row (12) (by omega) HR.out HX.out
    have hSm := firsts_small x n (12) (by omega) HX.out
    obtain ⟨xs, hxs⟩ : ∃ xs, xs = firsts x (12) := ⟨_, rfl⟩
    rw [← hxs] at hR hSm
    have HXS := Lib.hid hxs
    have HR6 := Lib.hid hR
    have HSM := Lib.hid hSm
    clear hxs hR hSm
    have hel : (encs xs).length ≤ 120 := by
      have := encs_len xs HSM.out
      have h2 := HR6.out.1
      omega
    go_wp2_with fail
    refine (join_any A (12) c xs _ HR6.out.1 (by omega) HR6.out.2.1 HSM.out (fun h0 => (HR6.out.kept k1).2.2.2 h0)).mono ?_
    rintro e w2 ⟨rfl, k2⟩
    have K2 := k1.call k2
    obtain ⟨s, hs⟩ : ∃ s : ByteArray, s = ⟨(encs xs).toArray⟩ := ⟨_, rfl⟩
    rw [← hs]
    have hsz : s.size = (encs xs).length := by rw [hs]; rfl
    have hsl : s.data.toList = encs xs := by rw [hs]
    have HSL := Lib.hid hsl
    have HSZ := Lib.hid hsz
    have hsz2 : s.size ≤ 120 := by omega
    clear hs hsl hsz
    go_wp2_with fail
    refine (split_yes s xs _ (by omega) HSL.out HSM.out).mono ?_
    rintro e w3 ⟨A3, n3, c3, rfl, R3, k3⟩
    have HR3 := Lib.hid R3
    clear R3
    have e128 : (s ++ ⟨#[128]⟩).data.toList = encs xs ++ [128] := by rw [bs_app, HSL.out]
    have e129 : (s ++ ⟨#[128]⟩ : ByteArray).size = s.size + 1 := by rw [ByteArray.size_append]; rfl
    have E128 := Lib.hid e128
    have E129 := Lib.hid e129
    clear e128 e129
    have hz8 : (⟨#[128]⟩ : ByteArray).size ≤ 1 := by decide
    go_wp2_with fail
    refine (split_no _ _ (by rw [E129.out]; omega) (fun ns _ => by rw [E128.out]; exact no_more xs ns)).mono ?_
    rintro e w4 ⟨rfl, k4⟩
    have K4 := (K2.call k3).call k4
    go_wp2_with fail
    go_loopw [9, 10] (fun nv iv wr => ∃ j : Nat, j ≤ 12 ∧ nv = .int .i64 ((encs (firsts x j)).length : Nat) ∧ iv = .int .i64 j ∧ Kept w wr ∧ Kept w4 wr) (fun _ iv _ => 12 - (intOf iv).toNat)
    case atStart => exact ⟨0, by omega, rfl, rfl, K4, Kept.refl _⟩
    case round =>
      obtain ⟨j, hj, rfl, rfl, kr, k4r⟩ := hrel
      have hsm2 := firsts_small x n j (by omega) HX.out
      have hl2 := encs_len (firsts x j) hsm2
      rw [firsts_len] at hl2
      clear hsm2
      by_cases hlt : j < 12
      · obtain ⟨b, off, rfl, hb, hc⟩ := (HR.out.kept kr).one (by omega)
        have cj := hc j (by omega)
        clear hc
        have hbj := bounds_u64 (HX.out j (by omega))
        obtain ⟨y, hy⟩ := Int.eq_ofNat_of_zero_le hbj.1
        rw [hy] at cj
        have hy64 : y < 18446744073709551616 := by have := hbj.2; omega
        have hsn : Hid ((encs (firsts x (j + 1))).length = (encs (firsts x j)).length + (enc y).length) := by
          unfold Hid
          rw [firsts_snoc, encs_snoc, List.length_append, hy]; rfl
        obtain ⟨ly, hly⟩ : ∃ l, (enc y).length = l := ⟨_, rfl⟩
        have hly2 := enc_ten y hy64
        have HY64 := Lib.hid hy64
        rw [hly] at hsn hly2
        have HLY := Lib.hid hly
        clear hbj hy hy64 hly
        generalize hq : (encs (firsts x j)).length = q at *
        have HQ := Lib.hid hq
        clear hq
        go_wp2_with fail
        refine (long_any y ly _ HY64.out HLY.out.symm).mono ?_
        rintro e w5 ⟨rfl, k5⟩
        go_wp2_with fail
        go_roundw
        case rel => first | exact ⟨j + 1, by omega, by rw [hsn.out]; go_num, by go_num, kr.call k5, k4r.call k5⟩ | ((repeat apply Exists.intro); exact ⟨⟨j + 1, by omega, by rw [hsn.out]; go_num, by go_num, kr.call k5, k4r.call k5⟩, rfl⟩)
        case measure => simp [intOf]; omega
      · have hjK : j = 12 := by omega
        have hq : (encs (firsts x j)).length = s.size := by rw [HSZ.out, HXS.out, hjK]
        clear hjK
        rw [hq]
        clear hq hl2
        go_wp2_with fail
        refine (same_rows A A3 c c3 (12) n3 xs _ (HR6.out.kept kr) (HR3.out.kept (k4.call k4r))).mono ?_
        rintro e w6 ⟨rfl, k6⟩
        go_wp2_with fail
        go_ret
        exact ⟨by first | rfl | exact ret_bool (by simp), kr.call k6⟩
  · go_enter Try.func10, Try.ntmps10
    go_wp2_with fail
    refine (awake_any _).mono ?_
    rintro e w1 ⟨rfl, k1⟩
    have hR := R64.of_row (n) (by omega) HR.out HX.out
    have hSm := firsts_small x n (n) (by omega) HX.out
    obtain ⟨xs, hxs⟩ : ∃ xs, xs = firsts x (n) := ⟨_, rfl⟩
    rw [← hxs] at hR hSm
    have HXS := Lib.hid hxs
    have HR6 := Lib.hid hR
    have HSM := Lib.hid hSm
    clear hxs hR hSm
    have hel : (encs xs).length ≤ 120 := by
      have := encs_len xs HSM.out
      have h2 := HR6.out.1
      omega
    go_wp2_with fail
    refine (join_any A (n) c xs _ HR6.out.1 (by omega) HR6.out.2.1 HSM.out (fun h0 => (HR6.out.kept k1).2.2.2 h0)).mono ?_
    rintro e w2 ⟨rfl, k2⟩
    have K2 := k1.call k2
    obtain ⟨s, hs⟩ : ∃ s : ByteArray, s = ⟨(encs xs).toArray⟩ := ⟨_, rfl⟩
    rw [← hs]
    have hsz : s.size = (encs xs).length := by rw [hs]; rfl
    have hsl : s.data.toList = encs xs := by rw [hs]
    have HSL := Lib.hid hsl
    have HSZ := Lib.hid hsz
    have hsz2 : s.size ≤ 120 := by omega
    clear hs hsl hsz
    go_wp2_with fail
    refine (split_yes s xs _ (by omega) HSL.out HSM.out).mono ?_
    rintro e w3 ⟨A3, n3, c3, rfl, R3, k3⟩
    have HR3 := Lib.hid R3
    clear R3
    have e128 : (s ++ ⟨#[128]⟩).data.toList = encs xs ++ [128] := by rw [bs_app, HSL.out]
    have e129 : (s ++ ⟨#[128]⟩ : ByteArray).size = s.size + 1 := by rw [ByteArray.size_append]; rfl
    have E128 := Lib.hid e128
    have E129 := Lib.hid e129
    clear e128 e129
    have hz8 : (⟨#[128]⟩ : ByteArray).size ≤ 1 := by decide
    go_wp2_with fail
    refine (split_no _ _ (by rw [E129.out]; omega) (fun ns _ => by rw [E128.out]; exact no_more xs ns)).mono ?_
    rintro e w4 ⟨rfl, k4⟩
    have K4 := (K2.call k3).call k4
    go_wp2_with fail
    go_loopw [9, 10] (fun nv iv wr => ∃ j : Nat, j ≤ n ∧ nv = .int .i64 ((encs (firsts x j)).length : Nat) ∧ iv = .int .i64 j ∧ Kept w wr ∧ Kept w4 wr) (fun _ iv _ => n - (intOf iv).toNat)
    case atStart => exact ⟨0, by omega, rfl, rfl, K4, Kept.refl _⟩
    case round =>
      obtain ⟨j, hj, rfl, rfl, kr, k4r⟩ := hrel
      have hsm2 := firsts_small x n j (by omega) HX.out
      have hl2 := encs_len (firsts x j) hsm2
      rw [firsts_len] at hl2
      clear hsm2
      by_cases hlt : j < n
      · obtain ⟨b, off, rfl, hb, hc⟩ := (HR.out.kept kr).one (by omega)
        have cj := hc j (by omega)
        clear hc
        have hbj := bounds_u64 (HX.out j (by omega))
        obtain ⟨y, hy⟩ := Int.eq_ofNat_of_zero_le hbj.1
        rw [hy] at cj
        have hy64 : y < 18446744073709551616 := by have := hbj.2; omega
        have hsn : Hid ((encs (firsts x (j + 1))).length = (encs (firsts x j)).length + (enc y).length) := by
          unfold Hid
          rw [firsts_snoc, encs_snoc, List.length_append, hy]; rfl
        obtain ⟨ly, hly⟩ : ∃ l, (enc y).length = l := ⟨_, rfl⟩
        have hly2 := enc_ten y hy64
        have HY64 := Lib.hid hy64
        rw [hly] at hsn hly2
        have HLY := Lib.hid hly
        clear hbj hy hy64 hly
        generalize hq : (encs (firsts x j)).length = q at *
        have HQ := Lib.hid hq
        clear hq
        go_wp2_with fail
        refine (long_any y ly _ HY64.out HLY.out.symm).mono ?_
        rintro e w5 ⟨rfl, k5⟩
        go_wp2_with fail
        go_roundw
        case rel => first | exact ⟨j + 1, by omega, by rw [hsn.out]; go_num, by go_num, kr.call k5, k4r.call k5⟩ | ((repeat apply Exists.intro); exact ⟨⟨j + 1, by omega, by rw [hsn.out]; go_num, by go_num, kr.call k5, k4r.call k5⟩, rfl⟩)
        case measure => simp [intOf]; omega
      · have hjK : j = n := by omega
        have hq : (encs (firsts x j)).length = s.size := by rw [HSZ.out, HXS.out, hjK]
        clear hjK
        rw [hq]
        clear hq hl2
        go_wp2_with fail
        refine (same_rows A A3 c c3 (n) n3 xs _ (HR6.out.kept kr) (HR3.out.kept (k4.call k4r))).mono ?_
        rintro e w6 ⟨rfl, k6⟩
        go_wp2_with fail
        go_ret
        exact ⟨by first | rfl | exact ret_bool (by simp), kr.call k6⟩
end Go.Proofs.Ythceenheaegdbaa
