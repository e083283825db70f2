/- The walk of the law VaryTexts: it returns true for all texts. -/
import Derived.Test.YthceenheaegdbaaVaryBack
import Derived.Test.YthceenheaegdbaaRow
set_option linter.unusedSimpArgs false
set_option linter.unusedVariables false
namespace Go.Proofs.Ythceenheaegdbaa
open Go.RowKit

/-- Texts written one behind the other. -/
def pre (t : Nat → ByteArray) : Nat → ByteArray
  | 0 => ⟨#[]⟩
  | k + 1 => pre t k ++ txt (t k)
theorem bs_assoc (a b c : ByteArray) : a ++ b ++ c = a ++ (b ++ c) := bs_ext (by simp only [bs_app, List.append_assoc])
theorem bs_nil (a : ByteArray) : a ++ ⟨#[]⟩ = a := bs_ext (by rw [bs_app]; exact List.append_nil _)
theorem pre_split (t : Nat → ByteArray) (i : Nat) : ∀ n, i < n → ∃ r, pre t n = pre t i ++ txt (t i) ++ r
  | 0, h => by omega
  | n + 1, h => by
    rcases Nat.lt_or_ge i n with h1 | h1
    · obtain ⟨r, hr⟩ := pre_split t i n h1
      exact ⟨r ++ txt (t n), by rw [pre, hr, bs_assoc]⟩
    · obtain rfl : i = n := by omega
      exact ⟨⟨#[]⟩, by rw [bs_nil]; rfl⟩
theorem txt_size (s : ByteArray) : (txt s).size = (enc s.size).length + s.size := by rw [txt, ByteArray.size_append]; rfl
theorem pre_size (t : Nat → ByteArray) (ht : ∀ i, (t i).size ≤ 30) : ∀ k, (pre t k).size ≤ 40 * k
  | 0 => by show (0 : Nat) ≤ _; omega
  | k + 1 => by
    have h1 := pre_size t ht k
    have h2 := enc_ten (t k).size (by have := ht k; omega)
    have h3 := ht k
    rw [pre, ByteArray.size_append, txt_size]
    omega

set_option maxHeartbeats 4000000 in
set_option maxRecDepth 100000 in
theorem varyTexts_walk (A : Option Addr) (n c : Nat) (x : Nat → ByteArray) (w : World) (hr : RowAt w A n c 1 (fun i => [.string (x i)])) (hx : ∀ i, i < n → (x i).size ≤ maxLen) :
    Calls Try.prog 5 #[.slice A n c] w fun e w' => e = .returned (.bool true) ∧ Kept w w' := by
  obtain ⟨t, ht⟩ : ∃ t : Nat → ByteArray, ∀ i, t i = sh (x i) 30 := ⟨_, fun _ => rfl⟩
  have ht30 : ∀ i, (t i).size ≤ 30 := fun i => by rw [ht]; exact sh_size _ _
  have hps := pre_size t ht30
  have HT := Lib.hid ht
  have HT30 := Lib.hid ht30
  have HPS := Lib.hid hps
  have HX := Lib.hid hx
  have HR := Lib.hid hr
  have hnc := hr.1
  have hcm := hr.2.1
  unfold maxLen at hcm
  clear ht ht30 hps hx hr
  go_enter Try.func5, Try.ntmps5
  go_wp2_with fail
  refine (awake_any _).mono ?_
  rintro e w1 ⟨rfl, k1⟩
  go_wp2_with fail
  go_loopw [4, 5, 6] (fun sv nv iv wr => ∃ i : Nat, i ≤ n ∧ i ≤ 6 ∧ sv = .string (pre t i) ∧ nv = .int .i64 i ∧ iv = .int .i64 i ∧ Kept w wr) (fun _ _ i _ => 6 - (intOf i).toNat)
  case atStart => exact ⟨0, by omega, by omega, rfl, rfl, rfl, k1⟩
  case round =>
    obtain ⟨i, hin, hi6, rfl, rfl, rfl, kr⟩ := hrel
    have hpz := HPS.out i
    by_cases h12 : i < n ∧ i < 6
    · obtain ⟨h1, h2⟩ := h12
      obtain ⟨b, off, rfl, hb, hc⟩ := HR.out.one (by omega)
      have ci := kr.at_ (hc i h1)
      clear hc
      go_wp2_with fail
      refine (short_any (x i) 30 30 _ rfl (by have := HX.out i h1; unfold maxLen at this; exact this)).mono ?_
      rintro e w2 ⟨rfl, k2⟩
      rw [← HT.out i]
      have hti := HT30.out i
      have htz : (txt (t i)).size ≤ 40 := by rw [txt_size]; have := enc_ten (t i).size (by omega); omega
      go_wp2_with fail
      refine (text_any (t i) _ (by omega)).mono ?_
      rintro e w3 ⟨rfl, k3⟩
      have K3 := (kr.call k2).call k3
      go_wp2_with fail
      have hpre : pre t i ++ txt (t i) = pre t (i + 1) := rfl
      go_roundw
      case rel => first | exact ⟨i + 1, by omega, by omega, rfl, by go_num, by go_num, K3⟩ | ((repeat apply Exists.intro); exact ⟨⟨i + 1, by omega, by omega, rfl, by go_num, by go_num, K3⟩, rfl⟩)
      case measure => simp [intOf]; omega
    · have hex : i = n ∨ (i < n ∧ i = 6) := by omega
      clear h12
      rcases hex with rfl | ⟨h1, rfl⟩
      · skip
        go_wp2_with fail
        go_loopw [7, 8] (fun av iv wr => ∃ j : Nat, j ≤ i ∧ av = .int .i64 (pre t j).size ∧ iv = .int .i64 j ∧ Kept w wr) (fun _ iv _ => i - (intOf iv).toNat)
        case atStart => exact ⟨0, by omega, rfl, rfl, kr⟩
        case round =>
          clear kr
          obtain ⟨j, hj, rfl, rfl, kr⟩ := hrel
          by_cases hlt : j < i
          · obtain ⟨r, hr⟩ := pre_split t j (i) hlt
            obtain ⟨b, off, rfl, hb, hc⟩ := HR.out.one (by omega)
            have cj := kr.at_ (hc j (by omega))
            clear hc
            have htj := HT30.out j
            obtain ⟨lt, hltt⟩ : ∃ l, (enc (t j).size).length = l := ⟨_, rfl⟩
            have hlt1 := enc_pos (t j).size
            have hlt2 := enc_ten (t j).size (by omega)
            rw [hltt] at hlt1 hlt2
            have hpj := HPS.out j
            have hpm := HPS.out (i)
            have hsz : (pre t (i)).size = (pre t j).size + (lt + (t j).size) + r.size := by rw [hr, ByteArray.size_append, ByteArray.size_append, txt_size, hltt]
            have hnext : (pre t (j + 1)).size = (pre t j).size + lt + (t j).size := by rw [pre, ByteArray.size_append, txt_size, hltt]; omega
            have hp : enc (t j).size <+: (pre t (i)).data.toList.drop (pre t j).size := by rw [hr]; exact mid_prefix _ _ _ _
            have he : (t j) = (pre t (i)).extract ((pre t j).size + lt) ((pre t j).size + lt + (t j).size) := by rw [hr]; exact (mid_text _ _ _ _ hltt.symm).symm
            have HP := Lib.hid hp
            have HE := Lib.hid he
            have HN := Lib.hid hnext
            have HSZ := Lib.hid hsz
            have HL := Lib.hid hltt
            clear hp he hnext hsz hltt hr
            generalize hq : (pre t j).size = q at *
            have HQ := Lib.hid hq
            clear hq
            go_wp2_with fail
            refine (rt_yes _ _ 30 q (t j).size lt _ (by omega) rfl (by omega) (by omega) HP.out HL.out.symm (by rw [HSZ.out]; omega) (t j) HE.out _ rfl).mono ?_
            rintro e w2 ⟨rfl, k2⟩
            have k2' := kr.call k2
            have cj2 := k2.at_ cj
            go_wp2_with fail
            refine (short_any (x j) 30 30 _ rfl (by have := HX.out j (by omega); unfold maxLen at this; exact this)).mono ?_
            rintro e w3 ⟨rfl, k3⟩
            rw [← HT.out j]
            have K3 := k2'.call k3
            go_wp2_with fail
            go_roundw
            case rel => first | exact ⟨j + 1, by omega, by rw [HN.out]; go_num, by go_num, K3⟩ | ((repeat apply Exists.intro); exact ⟨⟨j + 1, by omega, by rw [HN.out]; go_num, by go_num, K3⟩, rfl⟩)
            case measure => simp [intOf]; omega
          · obtain rfl : j = i := by omega
            go_wp2_with fail
            go_ret
            exact ⟨by first | rfl | exact ret_bool (by simp), kr⟩
      · skip
        go_wp2_with fail
        go_loopw [7, 8] (fun av iv wr => ∃ j : Nat, j ≤ 6 ∧ av = .int .i64 (pre t j).size ∧ iv = .int .i64 j ∧ Kept w wr) (fun _ iv _ => 6 - (intOf iv).toNat)
        case atStart => exact ⟨0, by omega, rfl, rfl, kr⟩
        case round =>
          clear kr
          obtain ⟨j, hj, rfl, rfl, kr⟩ := hrel
          by_cases hlt : j < 6
          · obtain ⟨r, hr⟩ := pre_split t j (6) hlt
            obtain ⟨b, off, rfl, hb, hc⟩ := HR.out.one (by omega)
            have cj := kr.at_ (hc j (by omega))
            clear hc
            have htj := HT30.out j
            obtain ⟨lt, hltt⟩ : ∃ l, (enc (t j).size).length = l := ⟨_, rfl⟩
            have hlt1 := enc_pos (t j).size
            have hlt2 := enc_ten (t j).size (by omega)
            rw [hltt] at hlt1 hlt2
            have hpj := HPS.out j
            have hpm := HPS.out (6)
            have hsz : (pre t (6)).size = (pre t j).size + (lt + (t j).size) + r.size := by rw [hr, ByteArray.size_append, ByteArray.size_append, txt_size, hltt]
            have hnext : (pre t (j + 1)).size = (pre t j).size + lt + (t j).size := by rw [pre, ByteArray.size_append, txt_size, hltt]; omega
            have hp : enc (t j).size <+: (pre t (6)).data.toList.drop (pre t j).size := by rw [hr]; exact mid_prefix _ _ _ _
            have he : (t j) = (pre t (6)).extract ((pre t j).size + lt) ((pre t j).size + lt + (t j).size) := by rw [hr]; exact (mid_text _ _ _ _ hltt.symm).symm
            have HP := Lib.hid hp
            have HE := Lib.hid he
            have HN := Lib.hid hnext
            have HSZ := Lib.hid hsz
            have HL := Lib.hid hltt
            clear hp he hnext hsz hltt hr
            generalize hq : (pre t j).size = q at *
            have HQ := Lib.hid hq
            clear hq
            go_wp2_with fail
            refine (rt_yes _ _ 30 q (t j).size lt _ (by omega) rfl (by omega) (by omega) HP.out HL.out.symm (by rw [HSZ.out]; omega) (t j) HE.out _ rfl).mono ?_
            rintro e w2 ⟨rfl, k2⟩
            have k2' := kr.call k2
            have cj2 := k2.at_ cj
            go_wp2_with fail
            refine (short_any (x j) 30 30 _ rfl (by have := HX.out j (by omega); unfold maxLen at this; exact this)).mono ?_
            rintro e w3 ⟨rfl, k3⟩
            rw [← HT.out j]
            have K3 := k2'.call k3
            go_wp2_with fail
            go_roundw
            case rel => first | exact ⟨j + 1, by omega, by rw [HN.out]; go_num, by go_num, K3⟩ | ((repeat apply Exists.intro); exact ⟨⟨j + 1, by omega, by rw [HN.out]; go_num, by go_num, K3⟩, rfl⟩)
            case measure => simp [intOf]; omega
          · obtain rfl : j = 6 := by omega
            go_wp2_with fail
            go_ret
            exact ⟨by first | rfl | exact ret_bool (by simp), kr⟩
end Go.Proofs.Ythceenheaegdbaa
