/- Texts as bytes; the walks of the document's own Number and Read (archipelagoref01). -/
import Derived.Test.YtfiocebipckaaaaVaryR
import Derived.Lib.Bytes
import Derived.Laws.BytesArg
set_option linter.unusedSimpArgs false
set_option linter.unusedVariables false
namespace Go.Proofs.Ytfiocebipckaaaa
open Go.RowKit

theorem str_ne {a b : ByteArray} (h : ¬ a = b) : (a.toList == b.toList) = false := by
  rw [beq_eq_false_iff_ne, Lib.toList_data, Lib.toList_data]
  intro h2
  apply h
  ext1
  exact Array.toList_inj.1 h2
theorem take_of_prefix {l m : List UInt8} (h : l <+: m) : m.take l.length = l := (List.prefix_iff_eq_take.1 h).symm
theorem ext_take (s : ByteArray) (k : Nat) : (s.extract 0 k).data.toList = s.data.toList.take k := by simp [ByteArray.data_extract]
theorem bs_ext {a b : ByteArray} (h : a.data.toList = b.data.toList) : a = b := by
  ext1
  exact Array.toList_inj.1 h
theorem bs_app (a b : ByteArray) : (a ++ b).data.toList = a.data.toList ++ b.data.toList := by simp [ByteArray.data_append]
theorem bs_ex (a : ByteArray) (i j : Nat) : (a.extract i j).data.toList = (a.data.toList.take j).drop i := by
  simp [ByteArray.data_extract, List.extract_eq_take_drop, List.drop_take]
theorem bs_len (a : ByteArray) : a.data.toList.length = a.size := rfl
theorem bs_assoc (a b c : ByteArray) : a ++ b ++ c = a ++ (b ++ c) := bs_ext (by simp only [bs_app, List.append_assoc])
/-- A text of one letter. -/
def chr (c : Int) : ByteArray := ⟨#[UInt8.ofNat c.toNat]⟩
theorem conv_chr (w : World) (g : Nat) (c : Int) (hc : w.cell? ⟨g, 0, none⟩ = some (.int .u8 c)) :
    (convert 54 9 (.slice (some ⟨g, 0, none⟩) 1 1)).run Try.prog w = .ok (.string (chr c)) w := by
  exact run_convert_bytes_arg _ 54 5 Try.underlying54 (by kernel_rfl) g 0 1 1 [c] rfl (fun i hi => by
    obtain rfl : i = 0 := by omega
    exact hc) 9 (by kernel_rfl)
theorem conv_new (w : World) (c : Int) :
    (convert 54 9 (.slice (some ⟨w.heap.size, 0, none⟩) 1 1)).run Try.prog (w.alloc (.cells #[.int .u8 c] 5)) = .ok (.string (chr c)) (w.alloc (.cells #[.int .u8 c] 5)) :=
  conv_chr _ _ c (by rw [Lib.cell_of_heap (heap_alloc_new w _)]; rfl)
theorem conv_kept (w0 wd : World) (c : Int) (hk : Kept (w0.alloc (.cells #[.int .u8 c] 5)) wd) :
    (convert 54 9 (.slice (some ⟨w0.heap.size, 0, none⟩) 1 1)).run Try.prog wd = .ok (.string (chr c)) wd := by
  have h1 : (w0.alloc (.cells #[.int .u8 c] 5)).cell? ⟨w0.heap.size, 0, none⟩ = some (.int .u8 c) := by rw [Lib.cell_of_heap (heap_alloc_new w0 _)]; rfl
  exact conv_chr wd w0.heap.size c (hk.at_ h1)
theorem num_lo (n : Nat) (h : n < 128) : num n = chr n := by
  unfold num chr; rw [enc_lo h]; rfl
theorem num_hi (n : Nat) (h : 128 ≤ n) : num n = chr (128 + (n : Int) % 128) ++ num (n / 128) := by
  apply bs_ext
  rw [bs_app]
  show enc n = [_] ++ enc (n / 128)
  rw [enc_hi h, show (128 + (n : Int) % 128).toNat = 128 + n % 128 by omega]
  rfl

set_option maxHeartbeats 2000000 in
set_option maxRecDepth 100000 in
theorem rnumber_any (n : Nat) : ∀ (w : World), n < 18446744073709551616 →
    Calls Try.prog 25 #[.int .u64 n] w fun e w' => e = .returned (.string (num n)) ∧ Kept w w' := by
  induction n using Nat.strongRecOn with
  | _ n ih =>
    intro w hn
    have kc := fun (w : World) (c : Int) => conv_new w c
    rcases Nat.lt_or_ge n 128 with h | h
    · have h1 := num_lo n h
      have H1 := Lib.hid h1
      clear h1 ih hn
      go_enter Try.func25, Try.ntmps25
      go_wp2_with fail
      go_ret
      exact ⟨by rw [H1.out]; rfl, by repeat (first | exact Kept.refl _ | assumption | (refine Kept.alloc ?_ _) | (refine Kept.setCell ?_ (by first | omega | (simp; omega) | simp) _) | refine Kept.drew ?_ | refine Kept.drewN ?_ _ | (apply Kept.call; rotate_left; assumption))⟩
    · have ih2 : ∀ w, Calls Try.prog 25 #[.int .u64 ((n : Int) / 128)] w fun e w' => e = .returned (.string (num (n / 128))) ∧ Kept w w' := fun w => by
        have h1 := ih (n / 128) (by omega) w (by omega)
        have e : ((n / 128 : Nat) : Int) = (n : Int) / 128 := by omega
        rwa [e] at h1
      have IH := Lib.hid ih2
      have h1 := num_hi n h
      have H1 := Lib.hid h1
      have HN := Lib.hid hn
      have hz : (num (n / 128)).size ≤ 10 := enc_ten _ (by omega)
      clear ih ih2 h1 hn
      go_enter Try.func25, Try.ntmps25
      obtain ⟨c, hc⟩ : ∃ c : Int, 128 + (n : Int) % 128 = c := ⟨_, rfl⟩
      rw [hc] at H1
      have hw : IntKind.u64.wrap ((n : Int) / 128) = (n : Int) / 128 := by rw [IntKind.wrap_u64]; have := HN.out; omega
      have hc1 : 128 ≤ c := by omega
      have hcz : (chr c).size ≤ 1 := Nat.le_refl _
      have hc2 : c ≤ 255 := by omega
      clear kc
      go_wp2_with fail
      refine wp_region_dw keepsOne [0, 6, 7, 8, 1, 2, 3, 4, 5, 9, 10] (fun wB => Kept w wB) ?_ (by kernel_rfl) (by kernel_rfl) _ rfl ?_
      · exact (by repeat (first | exact Kept.refl _ | assumption | (refine Kept.alloc ?_ _) | (refine Kept.setCell ?_ (by first | omega | (simp; omega) | simp) _) | refine Kept.drew ?_ | refine Kept.drewN ?_ _ | (apply Kept.call; rotate_left; assumption)))
      rintro wB hkB
      simp only [List.map_cons, List.map_nil, List.toList_toArray, List.getElem?_cons_zero, List.getElem?_cons_succ, Option.getD_some]
      iterate 8 (first | (apply DW.det; (focus (intro wd hI; skip; skip; go_wp2_with (first | (go_at_call 25; refine (IH.out _).mono ?_; rintro e w5 ⟨rfl, hb5⟩)); refine StepPost.mk _ rfl ⟨rfl, ?_⟩; repeat (first | exact Kept.refl _ | assumption | (refine Kept.alloc ?_ _) | (refine Kept.setCell ?_ (by first | omega | (simp; omega) | simp) _) | refine Kept.drew ?_ | refine Kept.drewN ?_ _ | (apply Kept.call; rotate_left; assumption)))); simp only [Act.put, List.setIfInBounds_toArray, List.set_cons_succ, List.set_cons_zero]) | (refine DW.loud (by kernel_rfl) ?_; intro wd hI; skip; skip; go_wp2_with (first | (go_at_call 25; refine (IH.out _).mono ?_; rintro e w5 ⟨rfl, hb5⟩)); refine StepPost.loud _ rfl (by repeat (first | exact Kept.refl _ | assumption | (refine Kept.alloc ?_ _) | (refine Kept.setCell ?_ (by first | omega | (simp; omega) | simp) _) | refine Kept.drew ?_ | refine Kept.drewN ?_ _ | (apply Kept.call; rotate_left; assumption))) (fun hkL => ?_); have hkL := hI.call hkL; have hkB := hkB.call hkL; simp only [Act.put, List.setIfInBounds_toArray, List.set_cons_succ, List.set_cons_zero]))
      apply DW.det
      focus
        intro wd hI
        have kc3 := conv_kept _ _ c hI
        go_wp2_with fail
        refine StepPost.mk _ rfl ⟨rfl, ?_⟩
        exact Kept.refl _
      simp only [Act.put, List.setIfInBounds_toArray, List.set_cons_succ, List.set_cons_zero]
      repeat (first | (apply DW.det; (focus (intro wd hI; skip; skip; go_wp2_with (first | (go_at_call 25; refine (IH.out _).mono ?_; rintro e w5 ⟨rfl, hb5⟩)); refine StepPost.mk _ rfl ⟨rfl, ?_⟩; repeat (first | exact Kept.refl _ | assumption | (refine Kept.alloc ?_ _) | (refine Kept.setCell ?_ (by first | omega | (simp; omega) | simp) _) | refine Kept.drew ?_ | refine Kept.drewN ?_ _ | (apply Kept.call; rotate_left; assumption)))); simp only [Act.put, List.setIfInBounds_toArray, List.set_cons_succ, List.set_cons_zero]) | (refine DW.loud (by kernel_rfl) ?_; intro wd hI; skip; skip; go_wp2_with (first | (go_at_call 25; refine (IH.out _).mono ?_; rintro e w5 ⟨rfl, hb5⟩)); refine StepPost.loud _ rfl (by repeat (first | exact Kept.refl _ | assumption | (refine Kept.alloc ?_ _) | (refine Kept.setCell ?_ (by first | omega | (simp; omega) | simp) _) | refine Kept.drew ?_ | refine Kept.drewN ?_ _ | (apply Kept.call; rotate_left; assumption))) (fun hkL => ?_); have hkL := hI.call hkL; have hkB := hkB.call hkL; simp only [Act.put, List.setIfInBounds_toArray, List.set_cons_succ, List.set_cons_zero]))
      refine DW.nil ?_
      intro wd hI
      have hkd := hkB.call hI
      go_wp2_with fail
      go_ret
      exact ⟨by rw [H1.out]; rfl, hkd⟩
theorem wrap_mod (a : Nat) : IntKind.u64.wrap (a : Int) = ((a % 18446744073709551616 : Nat) : Int) := by rw [IntKind.wrap_u64]; omega
theorem pow9 (j : Nat) (h : j ≤ 9) : 128 ^ j ≤ 9223372036854775808 := by
  have := Nat.pow_le_pow_right (show 0 < 128 by omega) h
  omega

/-- What the document's Read hands back. -/
def RRdPost (s : ByteArray) (a : Int) (w : World) (e : Ending) (w' : World) : Prop :=
  ∃ (n : Nat) (en : Int) (ok : Bool), e = .returned (.agg #[.int .u64 n, .int .i64 en]) ∧ Rd s.data.toList a n en ok ∧ Kept w w'
set_option maxHeartbeats 4000000 in
set_option maxRecDepth 100000 in
theorem rread_rel (s : ByteArray) (a : Int) (w : World) (hs : s.size ≤ 1099511627776) :
    Calls Try.prog 26 #[.string s, .int .i64 a] w (RRdPost s a w) := by
  have P0 := heap_alloc_new w (.cells #[.int .u64 0, .int .i64 0] 50)
  rcases Int.lt_or_le a 0 with h0 | h0
  · go_enter Try.func26, Try.ntmps26
    go_wp2_with fail
    exact bodyPost_ret (v := .agg #[.int .u64 0, .int .i64 0]) (by simp [results, Try.results26, go_sem]) rfl ⟨0, 0, false, rfl, .inr ⟨rfl, rfl, rfl, fun h => absurd h (by omega)⟩, by repeat (first | exact Kept.refl _ | assumption | (refine Kept.alloc ?_ _) | (refine Kept.setCell ?_ (by first | omega | (simp; omega) | simp) _) | refine Kept.drew ?_ | refine Kept.drewN ?_ _ | (apply Kept.call; rotate_left; assumption))⟩
  · obtain ⟨k, rfl⟩ := Int.eq_ofNat_of_zero_le h0
    rcases Nat.lt_or_ge k s.size with h1 | h1
    · clear h0
      have HP0 := Lib.hid P0
      clear P0
      go_enter Try.func26, Try.ntmps26
      go_wp2_with fail
      go_loopw [5, 6, 7] (fun nv bv iv wr => ∃ (j n nn bb : Nat), j ≤ 10 ∧ k + j ≤ s.size ∧ nv = .int .u64 nn ∧ bv = .int .u64 bb ∧ iv = .int .i64 ((k + j : Nat) : Int) ∧ Half (s.data.toList.drop k) j n ∧ (j ≤ 9 → nn = n ∧ bb = 128 ^ j) ∧ Kept w wr ∧ Kept (w.alloc (.cells #[.int .u64 0, .int .i64 0] 50)) wr) (fun _ _ iv _ => s.size - (intOf iv).toNat)
      case atStart => exact ⟨0, 0, 0, 1, by omega, by omega, rfl, rfl, rfl, Half.zero _, fun _ => ⟨rfl, rfl⟩, by repeat (first | exact Kept.refl _ | assumption | (refine Kept.alloc ?_ _) | (refine Kept.setCell ?_ (by first | omega | (simp; omega) | simp) _) | refine Kept.drew ?_ | refine Kept.drewN ?_ _ | (apply Kept.call; rotate_left; assumption)), Kept.refl _⟩
      case round =>
        obtain ⟨j, n, nn, bb, hj, hkj, rfl, rfl, rfl, hh, hnb, kr, kr1⟩ := hrel
        have HH := Lib.hid hh
        have HNB := Lib.hid hnb
        clear hh hnb
        by_cases hlt : k + j < s.size ∧ j < 10
        · obtain ⟨hlt, hj10⟩ := hlt
          obtain ⟨e1, e2⟩ := HNB.out (by omega)
          subst e1
          obtain ⟨c, hc⟩ : ∃ c, s[k + j].toNat = c := ⟨_, rfl⟩
          have hc2 : c < 256 := by rw [← hc]; exact UInt8.toNat_lt _
          have hget : Hid ((s.data.toList.drop k)[j]? = some s[k + j]) := by
            unfold Hid
            rw [List.getElem?_drop, Array.getElem?_toList, Array.getElem?_eq_getElem hlt]; rfl
          have HC := Lib.hid hc
          obtain ⟨lo, hlo⟩ : ∃ lo, c % 128 = lo := ⟨_, rfl⟩
          have hlow : (c : Int) % 128 = (lo : Int) := by omega
          have r1 : IntKind.u64.wrap ((lo : Int) * (bb : Int)) = (((lo * bb) % 18446744073709551616 : Nat) : Int) := by
            rw [← Int.natCast_mul]; exact wrap_mod _
          obtain ⟨sh, hsh⟩ : ∃ sh, (lo * bb) % 18446744073709551616 = sh := ⟨_, rfl⟩
          rw [hsh] at r1
          have r2 : IntKind.u64.wrap ((nn : Int) + (sh : Int)) = (((nn + sh) % 18446744073709551616 : Nat) : Int) := by
            rw [← Int.natCast_add]; exact wrap_mod _
          obtain ⟨m, hm⟩ : ∃ m, (nn + sh) % 18446744073709551616 = m := ⟨_, rfl⟩
          rw [hm] at r2
          have r3 : IntKind.u64.wrap ((bb : Int) * 128) = (((bb * 128) % 18446744073709551616 : Nat) : Int) := by
            have := wrap_mod (bb * 128)
            simpa using this
          obtain ⟨b2, hb2⟩ : ∃ b2, (bb * 128) % 18446744073709551616 = b2 := ⟨_, rfl⟩
          rw [hb2] at r3
          have HLO := Lib.hid hlo
          have HSH := Lib.hid hsh
          have HM := Lib.hid hm
          have HB2 := Lib.hid hb2
          have HBB := Lib.hid e2
          clear hlo hsh hm hb2 e2
          rcases Nat.lt_or_ge c 128 with h128 | h128
          · have hlc : lo = c := by have := HLO.out; omega
            have HLC := Lib.hid hlc
            clear hlc
            have hm64 : m < 18446744073709551616 := by have := HM.out; omega
            have HM64 := Lib.hid hm64
            clear hm64
            have hbj := pow9 j (by omega)
            rw [← HBB.out] at hbj
            have spec : (s.extract k (k + j + 1) = num m → enc m <+: s.data.toList.drop k ∧ (enc m).length = j + 1) ∧ (¬ s.extract k (k + j + 1) = num m → ∀ m', m' < 18446744073709551616 → ¬ enc m' <+: s.data.toList.drop k) := by
              have hex : (s.extract k (k + j + 1)).data.toList = (s.data.toList.drop k).take (j + 1) := by
                rw [bs_ex, List.drop_take, show k + j + 1 - k = j + 1 by omega]
              refine ⟨fun he => ?_, fun hne m' hm' hp => hne ?_⟩
              · rw [he] at hex
                have e1 : enc m = (s.data.toList.drop k).take (j + 1) := hex
                refine ⟨by rw [e1]; exact List.take_prefix _ _, ?_⟩
                rw [e1, List.length_take, List.length_drop]
                have : s.data.toList.length = s.size := rfl
                omega
              · by_cases hz : c = 0 ∧ 0 < j
                · exact absurd hp (HH.out.bad hget.out (by rw [HC.out]; exact hz.1) hz.2 m')
                · have h0j : 0 < j → 0 < c := fun hj0 => by
                    rcases Nat.eq_zero_or_pos c with h | h
                    · exact absurd ⟨h, hj0⟩ hz
                    · exact h
                  have hd := (HH.out.done hget.out (by rw [HC.out]; exact h128) (by rw [HC.out]; exact h0j) m').1 hp
                  rw [HC.out, ← HBB.out] at hd
                  have hlen := HH.out.len c m' h128 h0j (by rw [← HBB.out]; exact hd.symm)
                  have hmm : m = m' := by
                    have g1 := HSH.out
                    have g2 := HM.out
                    rw [HLC.out] at g1
                    rw [Nat.mod_eq_of_lt (by omega)] at g1
                    rw [g1.symm] at g2
                    omega
                  subst hmm
                  apply bs_ext
                  rw [hex]
                  have := take_of_prefix hp
                  rw [hlen] at this
                  exact this
            have SPEC := Lib.hid spec
            clear spec hbj
            have Q0 := kr1.heap HP0.out
            have d0 : wr.cell? ⟨w.heap.size, 0, none⟩ = some (.int .u64 0) := by rw [Lib.cell_of_heap Q0]; rfl
            have d1 : wr.cell? ⟨w.heap.size, 1, none⟩ = some (.int .i64 0) := by rw [Lib.cell_of_heap Q0]; rfl
            have HQ0 := Lib.hid Q0
            clear Q0
            have hdc : decide ((c : Int) < 128) = true := by simp; omega
            by_cases heq : s.extract k (k + j + 1) = num m
            · obtain ⟨g1, g2⟩ := SPEC.out.1 heq
              have G1 := Lib.hid g1
              have G2 := Lib.hid g2
              clear g1 g2
              go_wp2_with fail
              clear hlow r1 r2 r3 h128 hc
              refine wp_region_text keepsOne (fun wB => Kept w wB ∧ Kept wr wB) ?_ (by kernel_rfl) (by kernel_rfl) _ rfl ?_
              · exact ⟨by repeat (first | exact Kept.refl _ | assumption | (refine Kept.alloc ?_ _) | (refine Kept.setCell ?_ (by first | omega | (simp; omega) | simp) _) | refine Kept.drew ?_ | refine Kept.drewN ?_ _ | (apply Kept.call; rotate_left; assumption)), by repeat (first | exact Kept.refl _ | assumption | (refine Kept.alloc ?_ _) | (refine Kept.setCell ?_ (by first | omega | (simp; omega) | simp) _) | refine Kept.drew ?_ | refine Kept.drewN ?_ _ | (apply Kept.call; rotate_left; assumption))⟩
              rintro wB ⟨hkB, hkB1⟩
              repeat (first | (apply DW.det; (focus (intro wd hI; have hkd1 := hkB1.call hI; skip; go_wp2_with (first | (go_at_call 25; refine (rnumber_any m _ HM64.out).mono ?_; rintro e w5 ⟨rfl, hb5⟩)); refine StepPost.mk _ rfl ⟨rfl, ?_⟩; repeat (first | exact Kept.refl _ | assumption | (refine Kept.alloc ?_ _) | (refine Kept.setCell ?_ (by first | omega | (simp; omega) | simp) _) | refine Kept.drew ?_ | refine Kept.drewN ?_ _ | (apply Kept.call; rotate_left; assumption)))); simp only [Act.put, List.setIfInBounds_toArray, List.set_cons_succ, List.set_cons_zero]) | (refine DW.loud (by kernel_rfl) ?_; intro wd hI; have hkd1 := hkB1.call hI; skip; go_wp2_with (first | (go_at_call 25; refine (rnumber_any m _ HM64.out).mono ?_; rintro e w5 ⟨rfl, hb5⟩)); refine StepPost.loud _ rfl (by repeat (first | exact Kept.refl _ | assumption | (refine Kept.alloc ?_ _) | (refine Kept.setCell ?_ (by first | omega | (simp; omega) | simp) _) | refine Kept.drew ?_ | refine Kept.drewN ?_ _ | (apply Kept.call; rotate_left; assumption))) (fun hkL => ?_); have hkL := hI.call hkL; have hkB := hkB.call hkL; have hkB1 := hkB1.call hkL; simp only [Act.put, List.setIfInBounds_toArray, List.set_cons_succ, List.set_cons_zero]))
              refine DW.nil ?_
              intro wd hI
              have hkd := hkB.call hI
              have hkd1 := hkB1.call hI
              have Q1 := hkd1.heap HQ0.out
              have d0 : wd.cell? ⟨w.heap.size, 0, none⟩ = some (.int .u64 0) := by rw [Lib.cell_of_heap Q1]; rfl
              have d1 : wd.cell? ⟨w.heap.size, 1, none⟩ = some (.int .i64 0) := by rw [Lib.cell_of_heap Q1]; rfl
              have f0 : wd.frozen? ⟨w.heap.size, 0, none⟩ = false := Lib.frozen_of_heap Q1 0
              have f1 : wd.frozen? ⟨w.heap.size, 1, none⟩ = false := Lib.frozen_of_heap Q1 1
              clear Q1
              go_wp2_with fail
              have KE : Kept w ((wd.setCell ⟨w.heap.size, 0, none⟩ (.int .u64 m)).setCell ⟨w.heap.size, 1, none⟩ (.int .i64 ((k : Int) + j + 1))) := (hkd.setCell (by simp) _).setCell (by simp) _
              exact bodyPost_ret (v := .agg #[.int .u64 m, .int .i64 ((k : Int) + j + 1)]) (by simp [results, Try.results26, go_sem, d0, d1]) rfl ⟨m, _, true, rfl, .inl ⟨rfl, HM64.out, by omega, G1.out, by rw [G2.out]; omega⟩, KE⟩
            · have hne := str_ne (fun h => heq h.symm)
              have HN := Lib.hid (SPEC.out.2 heq)
              clear heq
              go_wp2_with fail
              clear hlow r1 r2 r3 h128 hc
              refine wp_region_text keepsOne (fun wB => Kept w wB ∧ Kept wr wB) ?_ (by kernel_rfl) (by kernel_rfl) _ rfl ?_
              · exact ⟨by repeat (first | exact Kept.refl _ | assumption | (refine Kept.alloc ?_ _) | (refine Kept.setCell ?_ (by first | omega | (simp; omega) | simp) _) | refine Kept.drew ?_ | refine Kept.drewN ?_ _ | (apply Kept.call; rotate_left; assumption)), by repeat (first | exact Kept.refl _ | assumption | (refine Kept.alloc ?_ _) | (refine Kept.setCell ?_ (by first | omega | (simp; omega) | simp) _) | refine Kept.drew ?_ | refine Kept.drewN ?_ _ | (apply Kept.call; rotate_left; assumption))⟩
              rintro wB ⟨hkB, hkB1⟩
              repeat (first | (apply DW.det; (focus (intro wd hI; have hkd1 := hkB1.call hI; skip; go_wp2_with (first | (go_at_call 25; refine (rnumber_any m _ HM64.out).mono ?_; rintro e w5 ⟨rfl, hb5⟩)); refine StepPost.mk _ rfl ⟨rfl, ?_⟩; repeat (first | exact Kept.refl _ | assumption | (refine Kept.alloc ?_ _) | (refine Kept.setCell ?_ (by first | omega | (simp; omega) | simp) _) | refine Kept.drew ?_ | refine Kept.drewN ?_ _ | (apply Kept.call; rotate_left; assumption)))); simp only [Act.put, List.setIfInBounds_toArray, List.set_cons_succ, List.set_cons_zero]) | (refine DW.loud (by kernel_rfl) ?_; intro wd hI; have hkd1 := hkB1.call hI; skip; go_wp2_with (first | (go_at_call 25; refine (rnumber_any m _ HM64.out).mono ?_; rintro e w5 ⟨rfl, hb5⟩)); refine StepPost.loud _ rfl (by repeat (first | exact Kept.refl _ | assumption | (refine Kept.alloc ?_ _) | (refine Kept.setCell ?_ (by first | omega | (simp; omega) | simp) _) | refine Kept.drew ?_ | refine Kept.drewN ?_ _ | (apply Kept.call; rotate_left; assumption))) (fun hkL => ?_); have hkL := hI.call hkL; have hkB := hkB.call hkL; have hkB1 := hkB1.call hkL; simp only [Act.put, List.setIfInBounds_toArray, List.set_cons_succ, List.set_cons_zero]))
              refine DW.nil ?_
              intro wd hI
              have hkd := hkB.call hI
              have hkd1 := hkB1.call hI
              have Q1 := hkd1.heap HQ0.out
              have d0 : wd.cell? ⟨w.heap.size, 0, none⟩ = some (.int .u64 0) := by rw [Lib.cell_of_heap Q1]; rfl
              have d1 : wd.cell? ⟨w.heap.size, 1, none⟩ = some (.int .i64 0) := by rw [Lib.cell_of_heap Q1]; rfl
              have f0 : wd.frozen? ⟨w.heap.size, 0, none⟩ = false := Lib.frozen_of_heap Q1 0
              have f1 : wd.frozen? ⟨w.heap.size, 1, none⟩ = false := Lib.frozen_of_heap Q1 1
              clear Q1
              go_wp2_with fail
              have KE : Kept w ((wd.setCell ⟨w.heap.size, 0, none⟩ (.int .u64 0)).setCell ⟨w.heap.size, 1, none⟩ (.int .i64 0)) := (hkd.setCell (by simp) _).setCell (by simp) _
              exact bodyPost_ret (v := .agg #[.int .u64 0, .int .i64 0]) (by simp [results, Try.results26, go_sem, d0, d1]) rfl ⟨0, 0, false, rfl, .inr ⟨rfl, rfl, rfl, fun _ => HN.out⟩, KE⟩
          · have next : Half (s.data.toList.drop k) (j + 1) (nn + lo * 128 ^ j) := by
              have h2 := HH.out.next hget.out (by rw [HC.out]; exact h128)
              rw [HC.out] at h2
              have h3 : c - 128 = lo := by have := HLO.out; omega
              rwa [h3] at h2
            have exact9 : j + 1 ≤ 9 → m = nn + lo * 128 ^ j ∧ b2 = 128 ^ (j + 1) := fun h9 => by
              have g0 := next.1
              have g3 := pow9 (j + 1) h9
              have g1 := HSH.out
              have g2 := HM.out
              have g4 := HB2.out
              rw [HBB.out] at g1 g4
              rw [← Nat.pow_succ] at g4
              rw [Nat.mod_eq_of_lt (by omega)] at g1 g4
              rw [← g1] at g2
              rw [Nat.mod_eq_of_lt (by omega)] at g2
              exact ⟨g2.symm, g4.symm⟩
            have NEXT := Lib.hid next
            have EX := Lib.hid exact9
            clear next exact9
            go_wp2_with fail
            go_roundw
            case rel => first | exact ⟨j + 1, nn + lo * 128 ^ j, m, b2, by omega, by omega, rfl, rfl, by go_num, NEXT.out, EX.out, kr, kr1⟩ | ((repeat apply Exists.intro); exact ⟨⟨j + 1, nn + lo * 128 ^ j, m, b2, by omega, by omega, rfl, rfl, by go_num, NEXT.out, EX.out, kr, kr1⟩, rfl⟩)
            case measure => simp [intOf]; omega
        · have hno : Hid (∀ m, m < 18446744073709551616 → ¬ enc m <+: s.data.toList.drop k) := by
            intro m hm
            rcases Nat.lt_or_ge j 10 with h | h
            · exact HH.out.over (by rw [List.length_drop]; have : s.data.toList.length = s.size := rfl; omega) m
            · obtain rfl : j = 10 := by omega
              exact HH.out.long m hm
          have Q0 := kr1.heap HP0.out
          have d0 : wr.cell? ⟨w.heap.size, 0, none⟩ = some (.int .u64 0) := by rw [Lib.cell_of_heap Q0]; rfl
          have d1 : wr.cell? ⟨w.heap.size, 1, none⟩ = some (.int .i64 0) := by rw [Lib.cell_of_heap Q0]; rfl
          have f0 : wr.frozen? ⟨w.heap.size, 0, none⟩ = false := Lib.frozen_of_heap Q0 0
          have f1 : wr.frozen? ⟨w.heap.size, 1, none⟩ = false := Lib.frozen_of_heap Q0 1
          clear Q0
          have hex : k + j = s.size ∨ (k + j < s.size ∧ j = 10) := by omega
          rcases hex with hex | ⟨hex, rfl⟩
          · replace hex : s.size ≤ k + j := by omega
            go_wp2_with fail
            have KE : Kept w ((wr.setCell ⟨w.heap.size, 0, none⟩ (.int .u64 0)).setCell ⟨w.heap.size, 1, none⟩ (.int .i64 0)) := (kr.setCell (by simp) _).setCell (by simp) _
            exact bodyPost_ret (v := .agg #[.int .u64 0, .int .i64 0]) (by simp [results, Try.results26, go_sem, d0, d1]) rfl ⟨0, 0, false, rfl, .inr ⟨rfl, rfl, rfl, fun _ => hno.out⟩, KE⟩
          · go_wp2_with fail
            have KE : Kept w ((wr.setCell ⟨w.heap.size, 0, none⟩ (.int .u64 0)).setCell ⟨w.heap.size, 1, none⟩ (.int .i64 0)) := (kr.setCell (by simp) _).setCell (by simp) _
            exact bodyPost_ret (v := .agg #[.int .u64 0, .int .i64 0]) (by simp [results, Try.results26, go_sem, d0, d1]) rfl ⟨0, 0, false, rfl, .inr ⟨rfl, rfl, rfl, fun _ => hno.out⟩, KE⟩
    · go_enter Try.func26, Try.ntmps26
      go_wp2_with fail
      go_loopw [5, 6, 7] (fun nv bv iv wr => iv = .int .i64 (k : Nat) ∧ Kept w wr ∧ Kept (w.alloc (.cells #[.int .u64 0, .int .i64 0] 50)) wr) (fun _ _ _ _ => 0)
      case atStart => exact ⟨rfl, by repeat (first | exact Kept.refl _ | assumption | (refine Kept.alloc ?_ _) | (refine Kept.setCell ?_ (by first | omega | (simp; omega) | simp) _) | refine Kept.drew ?_ | refine Kept.drewN ?_ _ | (apply Kept.call; rotate_left; assumption)), Kept.refl _⟩
      case round =>
        obtain ⟨rfl, kr, kr1⟩ := hrel
        have Q0 := kr1.heap P0
        have d0 : wr.cell? ⟨w.heap.size, 0, none⟩ = some (.int .u64 0) := by rw [Lib.cell_of_heap Q0]; rfl
        have d1 : wr.cell? ⟨w.heap.size, 1, none⟩ = some (.int .i64 0) := by rw [Lib.cell_of_heap Q0]; rfl
        have f0 : wr.frozen? ⟨w.heap.size, 0, none⟩ = false := Lib.frozen_of_heap Q0 0
        have f1 : wr.frozen? ⟨w.heap.size, 1, none⟩ = false := Lib.frozen_of_heap Q0 1
        clear Q0
        go_wp2_with fail
        have KE : Kept w ((wr.setCell ⟨w.heap.size, 0, none⟩ (.int .u64 0)).setCell ⟨w.heap.size, 1, none⟩ (.int .i64 0)) := (kr.setCell (by simp) _).setCell (by simp) _
        exact bodyPost_ret (v := .agg #[.int .u64 0, .int .i64 0]) (by simp [results, Try.results26, go_sem, d0, d1]) rfl ⟨0, 0, false, rfl, .inr ⟨rfl, rfl, rfl, fun _ m _ => by rw [show s.data.toList.drop (k : Int).toNat = [] from List.drop_eq_nil_of_le (by simpa using h1)]; exact enc_at_nil m⟩, KE⟩
end Go.Proofs.Ytfiocebipckaaaa
