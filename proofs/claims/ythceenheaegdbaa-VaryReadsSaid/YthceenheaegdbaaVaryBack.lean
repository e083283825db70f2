/- The walk of the law VaryBack: it returns true for every number, every text, whatever lies ahead and behind. -/
import Derived.Test.YthceenheaegdbaaVaryLong
set_option linter.unusedSimpArgs false
set_option linter.unusedVariables false
namespace Go.Proofs.Ythceenheaegdbaa
open Go.RowKit

theorem bs_ext {a b : ByteArray} (h : a.data.toList = b.data.toList) : a = b := by
  ext1
  exact Array.toList_inj.1 h
theorem bs_app (a b : ByteArray) : (a ++ b).data.toList = a.data.toList ++ b.data.toList := by simp [ByteArray.data_append]
theorem bs_ex (a : ByteArray) (i j : Nat) : (a.extract i j).data.toList = (a.data.toList.take j).drop i := by
  simp [ByteArray.data_extract, List.extract_eq_take_drop, List.drop_take]
theorem bs_len (a : ByteArray) : a.data.toList.length = a.size := rfl
/-- What lies in the middle begins there. -/
theorem mid_prefix (a b : ByteArray) (n : Nat) (r : ByteArray) : enc n <+: (a ++ (num n ++ r) ++ b).data.toList.drop a.size := by
  rw [bs_app, bs_app, bs_app, List.append_assoc, ← bs_len a, List.drop_left]
  rw [List.append_assoc]
  exact List.prefix_append _ _
theorem mid_prefix0 (a b : ByteArray) (n : Nat) : enc n <+: (a ++ num n ++ b).data.toList.drop a.size := by
  rw [bs_app, bs_app, List.append_assoc, ← bs_len a, List.drop_left]
  exact List.prefix_append _ _
theorem mid_text (a b s : ByteArray) (k : Nat) (hk : k = (enc s.size).length) : (a ++ txt s ++ b).extract (a.size + k) (a.size + k + s.size) = s := by
  apply bs_ext
  rw [bs_ex, bs_app, bs_app, txt, bs_app]
  have e1 : (num s.size).data.toList = enc s.size := rfl
  rw [e1, List.append_assoc, List.append_assoc]
  have h1 : (a.data.toList ++ (enc s.size ++ (s.data.toList ++ b.data.toList))) = (a.data.toList ++ enc s.size) ++ (s.data.toList ++ b.data.toList) := by simp
  have h2 : (a.data.toList ++ enc s.size).length = a.size + k := by rw [List.length_append, bs_len, hk]
  rw [h1, ← h2, ← bs_len s, List.take_length_add_append, List.take_left' rfl, List.drop_left' rfl]

set_option maxHeartbeats 2000000 in
set_option maxRecDepth 100000 in
theorem varyBack_walk (n : Int) (s0 a0 b0 : ByteArray) (w : World) (hn : (Lit.int .u64 n).wf = true) (hs : s0.size ≤ maxLen) (ha : a0.size ≤ maxLen) (hb : b0.size ≤ maxLen) :
    Calls Try.prog 9 #[.int .u64 n, .string s0, .agg #[.string a0, .string b0]] w fun e w' => e = .returned (.bool true) ∧ Kept w w' := by
  unfold maxLen at hs ha hb
  have hbn := bounds_u64 hn
  obtain ⟨N, rfl⟩ := Int.eq_ofNat_of_zero_le hbn.1
  have hN : N < 18446744073709551616 := by have := hbn.2; omega
  have HN := Lib.hid hN
  have HS := Lib.hid hs
  have HA := Lib.hid ha
  have HB := Lib.hid hb
  have hl1 := enc_ten N HN.out
  obtain ⟨ln, hln⟩ : ∃ l, (enc N).length = l := ⟨_, rfl⟩
  rw [hln] at hl1
  have hzn : (num N).size = ln := hln
  have HLN := Lib.hid hln
  clear hn hbn hN hs ha hb hln
  have C0 := heap_alloc_new w (.cells #[.string a0, .string b0] 52)
  have c0 : (w.alloc (.cells #[.string a0, .string b0] 52)).cell? ⟨w.heap.size, 0, none⟩ = some (.string a0) := by rw [Lib.cell_of_heap C0]; rfl
  have c1 : (w.alloc (.cells #[.string a0, .string b0] 52)).cell? ⟨w.heap.size, 1, none⟩ = some (.string b0) := by rw [Lib.cell_of_heap C0]; rfl
  have HC0 := Lib.hid c0
  have HC1 := Lib.hid c1
  clear C0 c0 c1
  have k0 : Kept w (w.alloc (.cells #[.string a0, .string b0] 52)) := by repeat (first | exact Kept.refl _ | assumption | (refine Kept.alloc ?_ _) | (refine Kept.setCell ?_ (by first | omega | (simp; omega) | simp) _) | refine Kept.drew ?_ | refine Kept.drewN ?_ _ | (apply Kept.call; rotate_left; assumption))
  go_enter Try.func9, Try.ntmps9
  go_wp2_with fail
  refine (awake_any _).mono ?_
  rintro e w1 ⟨rfl, k1⟩
  go_wp2_with fail
  refine (short_any s0 60 60 _ rfl HS.out).mono ?_
  rintro e w2 ⟨rfl, k2⟩
  have hz := sh_size s0 60
  generalize sh s0 60 = s at *
  have d0 := (k1.call k2).at_ HC0.out
  go_wp2_with fail
  refine (short_any a0 9 9 _ rfl HA.out).mono ?_
  rintro e w3 ⟨rfl, k3⟩
  have hza := sh_size a0 9
  generalize sh a0 9 = a at *
  have d1 := ((k1.call k2).call k3).at_ HC1.out
  clear d0
  go_wp2_with fail
  refine (short_any b0 9 9 _ rfl HB.out).mono ?_
  rintro e w4 ⟨rfl, k4⟩
  have hzb := sh_size b0 9
  generalize sh b0 9 = b at *
  have K4 := (((k0.call k1).call k2).call k3).call k4
  clear d1 k0 k1 k2 k3 k4 HC0 HC1
  go_wp2_with fail
  refine (number_any N _ HN.out).mono ?_
  rintro e w5 ⟨rfl, k5⟩
  go_wp2_with fail
  refine (read_yes _ a.size a.size N ln _ (by simp only [ByteArray.size_append]; omega) rfl HN.out (mid_prefix0 a b N) HLN.out.symm).mono ?_
  rintro e w6 ⟨rfl, k6⟩
  have K6 := (K4.call k5).call k6
  clear K4 k5 k6
  have htz : (txt s).size ≤ 70 := by
    have h1 : (num s.size).size ≤ 10 := enc_ten _ (by omega)
    have h2 : (txt s).size = (num s.size).size + s.size := by rw [txt, ByteArray.size_append]
    omega
  go_wp2_with fail
  refine (text_any s _ (by omega)).mono ?_
  rintro e w7 ⟨rfl, k7⟩
  obtain ⟨lt, hlt⟩ : ∃ l, (enc s.size).length = l := ⟨_, rfl⟩
  have hlt2 := enc_ten s.size (by omega)
  have HT := Lib.hid (mid_text a b s lt hlt.symm)
  have HTP := Lib.hid (mid_prefix a b s.size s)
  have HLT := Lib.hid hlt
  have htz2 : (txt s).size = lt + s.size := by
    have h2 : (txt s).size = (num s.size).size + s.size := by rw [txt, ByteArray.size_append]
    rw [h2, num_size, hlt]
  rw [hlt] at hlt2
  clear hlt
  have hbz : (a ++ txt s ++ b).size = a.size + (lt + s.size) + b.size := by rw [ByteArray.size_append, ByteArray.size_append, htz2]
  have HTZ := Lib.hid htz2
  have HBZ := Lib.hid hbz
  clear htz2 hbz
  go_wp2_with fail
  refine (rt_yes (a ++ txt s ++ b) a.size 60 a.size s.size lt _ (by rw [HBZ.out]; omega) rfl (by omega) (by omega) HTP.out HLT.out.symm (by rw [HBZ.out]; omega) s HT.out.symm _ rfl).mono ?_
  rintro e w8 ⟨rfl, k8⟩
  go_wp2_with fail
  refine (text_any s _ (by omega)).mono ?_
  rintro e w9 ⟨rfl, k9⟩
  go_wp2_with fail
  refine (rt_less (a ++ txt s ++ b) a.size _ a.size s.size _ (by rw [HBZ.out]; omega) rfl (by omega) (by omega) (by omega) HTP.out (by omega)).mono ?_
  rintro e w10 ⟨rfl, k10⟩
  have K10 := (((K6.call k7).call k8).call k9).call k10
  clear K6 k7 k8 k9 k10
  have htz2 := HTZ.out
  go_wp2_with fail
  refine (long_any N ln _ HN.out HLN.out.symm).mono ?_
  rintro e w11 ⟨rfl, k11⟩
  go_wp2_with fail
  refine (text_any s _ (by omega)).mono ?_
  rintro e w12 ⟨rfl, k12⟩
  go_wp2_with fail
  go_ret
  exact ⟨by first | rfl | exact ret_bool (by simp; (try omega)), (K10.call k11).call k12⟩
end Go.Proofs.Ythceenheaegdbaa
