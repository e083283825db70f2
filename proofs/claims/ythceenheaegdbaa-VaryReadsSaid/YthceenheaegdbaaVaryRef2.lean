/- The walks of the document's own ReadText and Split (archipelagoref01). -/
import Derived.Test.YthceenheaegdbaaVaryRef
set_option linter.unusedSimpArgs false
set_option linter.unusedVariables false
namespace Go.Proofs.Ythceenheaegdbaa
open Go.RowKit

/-- What the document's ReadText hands back. -/
def RRtPost (s : ByteArray) (a most : Int) (w : World) (e : Ending) (w' : World) : Prop :=
  ∃ (n : Nat) (en : Int) (ok : Bool), e = .returned (.agg #[.string (rtS s n en ok most), .int .i64 (rtE s n en ok most)]) ∧ Rd s.data.toList a n en ok ∧ Kept w w'
theorem rd_pos {s : ByteArray} {a : Int} {n : Nat} {en : Int} (h : Rd s.data.toList a n en true) : 1 ≤ en := by
  rcases h with ⟨_, _, h1, h2, rfl⟩ | ⟨h, _⟩
  · have := enc_pos n; omega
  · cases h

set_option maxHeartbeats 4000000 in
set_option maxRecDepth 100000 in
theorem rreadText_rel (s : ByteArray) (a most : Int) (w : World) (hs : s.size ≤ 1099511627776) (hm1 : -9223372036854775808 ≤ most) (hm2 : most ≤ 9223372036854775807) :
    Calls Try.prog 23 #[.string s, .int .i64 a, .int .i64 most] w (RRtPost s a most w) := by
  have HM1 := Lib.hid hm1
  have HM2 := Lib.hid hm2
  clear hm1 hm2
  have P0 := heap_alloc_new w (.cells #[.string ⟨#[]⟩, .int .i64 0] 46)
  have HP0 := Lib.hid P0
  clear P0
  go_enter Try.func23, Try.ntmps23
  go_wp2_with fail
  refine (rread_rel s a _ hs).mono ?_
  rintro e w1 ⟨n, en, ok, rfl, hr, k1⟩
  obtain ⟨he1, he2⟩ := rd_end hr
  have HR := Lib.hid hr
  clear hr
  have Q1 := k1.heap HP0.out
  have q0 : w1.cell? ⟨w.heap.size, 0, none⟩ = some (.string ⟨#[]⟩) := by rw [Lib.cell_of_heap Q1]; rfl
  have q1 : w1.cell? ⟨w.heap.size, 1, none⟩ = some (.int .i64 0) := by rw [Lib.cell_of_heap Q1]; rfl
  have f0 : w1.frozen? ⟨w.heap.size, 0, none⟩ = false := Lib.frozen_of_heap Q1 0
  have f1 : w1.frozen? ⟨w.heap.size, 1, none⟩ = false := Lib.frozen_of_heap Q1 1
  have hz1 : w.heap.size < w1.heap.size := by have := k1.size; simp at this; omega
  have K1 : Kept w w1 := Kept.call (by repeat (first | exact Kept.refl _ | assumption | (refine Kept.alloc ?_ _) | (refine Kept.setCell ?_ (by first | omega | (simp; omega) | simp) _) | refine Kept.drew ?_ | refine Kept.drewN ?_ _ | (apply Kept.call; rotate_left; assumption))) k1
  have HQ1 := Lib.hid Q1
  clear Q1
  cases ok
  · have ho : rtOk s n en false most = false := rfl
    have hen : en = 0 := by rcases HR.out with ⟨h, _⟩ | ⟨_, _, h, _⟩; cases h; exact h
    subst hen
    go_wp2_with fail
    exact bodyPost_ret (v := .agg #[.string ⟨#[]⟩, .int .i64 0]) (by simp [results, Try.results23, go_sem, q0, q1, hz1, Nat.ne_of_lt hz1]) rfl ⟨n, _, false, by rw [rtS, rtE, ho]; rfl, HR.out, by repeat (first | exact Kept.refl _ | assumption | (refine Kept.alloc ?_ _) | (refine Kept.setCell ?_ (by first | omega | (simp; omega) | simp) _) | refine Kept.drew ?_ | refine Kept.drewN ?_ _ | (apply Kept.call; rotate_left; assumption))⟩
  · have hp := rd_pos HR.out
    have hne : (en == 0) = false := by simp; omega
    rcases Int.lt_or_le most 0 with h1 | h1
    · have ho : Hid (rtOk s n en true most = false) := by unfold Hid rtOk; simp; omega
      go_wp2_with fail
      exact bodyPost_ret (v := .agg #[.string ⟨#[]⟩, .int .i64 0]) (by simp [results, Try.results23, go_sem, q0, q1, hz1, Nat.ne_of_lt hz1]) rfl ⟨n, _, true, by rw [rtS, rtE, ho.out]; rfl, HR.out, by repeat (first | exact Kept.refl _ | assumption | (refine Kept.alloc ?_ _) | (refine Kept.setCell ?_ (by first | omega | (simp; omega) | simp) _) | refine Kept.drew ?_ | refine Kept.drewN ?_ _ | (apply Kept.call; rotate_left; assumption))⟩
    · have hm2 := HM2.out
      rcases Int.lt_or_le most (n : Int) with h2 | h2
      · have ho : Hid (rtOk s n en true most = false) := by unfold Hid rtOk; simp; omega
        go_wp2_with fail
        exact bodyPost_ret (v := .agg #[.string ⟨#[]⟩, .int .i64 0]) (by simp [results, Try.results23, go_sem, q0, q1, hz1, Nat.ne_of_lt hz1]) rfl ⟨n, _, true, by rw [rtS, rtE, ho.out]; rfl, HR.out, by repeat (first | exact Kept.refl _ | assumption | (refine Kept.alloc ?_ _) | (refine Kept.setCell ?_ (by first | omega | (simp; omega) | simp) _) | refine Kept.drew ?_ | refine Kept.drewN ?_ _ | (apply Kept.call; rotate_left; assumption))⟩
      · rcases Int.lt_or_le ((s.size : Int) - en) (n : Int) with h3 | h3
        · have ho : Hid (rtOk s n en true most = false) := by unfold Hid rtOk; simp; omega
          go_wp2_with fail
          exact bodyPost_ret (v := .agg #[.string ⟨#[]⟩, .int .i64 0]) (by simp [results, Try.results23, go_sem, q0, q1, hz1, Nat.ne_of_lt hz1]) rfl ⟨n, _, true, by rw [rtS, rtE, ho.out]; rfl, HR.out, by repeat (first | exact Kept.refl _ | assumption | (refine Kept.alloc ?_ _) | (refine Kept.setCell ?_ (by first | omega | (simp; omega) | simp) _) | refine Kept.drew ?_ | refine Kept.drewN ?_ _ | (apply Kept.call; rotate_left; assumption))⟩
        · have ho : Hid (rtOk s n en true most = true) := by unfold Hid rtOk; simp; omega
          obtain ⟨k, rfl⟩ := Int.eq_ofNat_of_zero_le he1
          go_wp2_with fail
          exact bodyPost_ret (v := .agg #[.string (s.extract k (k + n)), .int .i64 ((k : Int) + n)]) (by simp [results, Try.results23, go_sem, q0, q1, hz1, Nat.ne_of_lt hz1]) rfl ⟨n, (k : Int), true, by rw [rtS, rtE, ho.out]; rfl, HR.out, by repeat (first | exact Kept.refl _ | assumption | (refine Kept.alloc ?_ _) | (refine Kept.setCell ?_ (by first | omega | (simp; omega) | simp) _) | refine Kept.drew ?_ | refine Kept.drewN ?_ _ | (apply Kept.call; rotate_left; assumption))⟩

set_option maxHeartbeats 4000000 in
set_option maxRecDepth 100000 in
theorem rsplit_rel (s : ByteArray) (w : World) (hs : s.size ≤ 4294967296) :
    Calls Try.prog 25 #[.string s] w (SplitPost s w) := by
  obtain ⟨i0, hi, hz0, hz1, hz2⟩ := info_parts infoU64
  have HI := Lib.hid hi
  clear hi
  go_enter Try.func25, Try.ntmps25
  go_wp2_with fail
  go_loopw [4, 5] (fun ov av wr => ∃ (a : Nat) (ns : List Nat) (l : Nat) (v : Value), ov = v ∧ a ≤ s.size ∧ l ≤ a ∧ av = .int .i64 a ∧ (encs ns).length = a ∧ ns.length = l ∧ encs ns <+: s.data.toList ∧ Small ns ∧ wr.ownsRow w.heap.size 22 1 v l (u64s ns) ∧ Kept w wr) (fun _ a _ => s.size - (intOf a).toNat)
  case atStart => exact ⟨0, [], 0, _, rfl, by omega, by omega, rfl, rfl, rfl, List.nil_prefix, (fun n h => by cases h), World.ownsRow_nil _ _ _ _, Kept.refl w⟩
  case round =>
    obtain ⟨a, ns, l, v, rfl, ha, hla, rfl, hal, hll, hp, hsm, ho, kr⟩ := hrel
    have HAL := Lib.hid hal
    have HLL := Lib.hid hll
    have HP := Lib.hid hp
    have HSM := Lib.hid hsm
    have HO := Lib.hid ho
    clear hal hll hp hsm ho
    by_cases hlt : a < s.size
    · go_wp2_with fail
      refine (rread_rel s a wr (by omega)).mono ?_
      rintro e w2 ⟨n, en, ok, rfl, hr, k2⟩
      have K2 := kr.call k2
      have hz : w.heap.size ≤ w2.heap.size := K2.size
      have HO2 := Lib.hid (Kept.own HO.out k2)
      rcases hr with ⟨rfl, hn, _, hpre, rfl⟩ | ⟨rfl, rfl, rfl, hno⟩
      · obtain ⟨len, hlen⟩ : ∃ len, (enc n).length = len := ⟨_, rfl⟩
        rw [hlen]
        have HN := Lib.hid hn
        have HPRE := Lib.hid hpre
        have HLEN := Lib.hid hlen
        clear hn hpre hlen
        have hcons : Hid (encs (ns ++ [n]) <+: s.data.toList ∧ (encs (ns ++ [n])).length = a + len) := by
          unfold Hid
          obtain ⟨R, hR⟩ := HP.out
          have h1 := HPRE.out
          have hd : s.data.toList.drop (a : Int).toNat = R := by
            show s.data.toList.drop a = R
            rw [← hR, ← HAL.out, List.drop_left]
          rw [hd] at h1
          obtain ⟨R2, hR2⟩ := h1
          exact ⟨⟨R2, by rw [encs_snoc, List.append_assoc, hR2, hR]⟩, by rw [encs_snoc, List.length_append, HAL.out, HLEN.out]⟩
        have hle : a + len ≤ s.size := by
          have := hcons.out.1.length_le
          rw [hcons.out.2] at this
          exact this
        have hlp : 0 < len := by have := enc_pos n; rw [HLEN.out] at this; exact this
        have hne : ((a : Int) + (len : Int) == 0) = false := by simp; omega
        have C2 := heap_alloc_new w2 (.cells #[.int .u64 n, .int .i64 ((a : Int) + (len : Int))] 43)
        have HC2 := Lib.hid C2
        clear C2
        go_wp2_with (at_builtin; refine wpList_append_own _ rfl _ _ 38 rfl w.heap.size 22 i0 (.int .u64 0) 1 8 Try.underlying38 HI.out hz0 hz1 hz2 rfl (by decide) _ l _ rfl ((HO2.out.alloc _).alloc _) ⟨w2.heap.size + 1, 0, none⟩ 1 1 [.int .u64 (n : Nat)] rfl rfl (by have := cell_one_new (w2.alloc (.cells #[.int .u64 n, .int .i64 ((a : Int) + (len : Int))] 43)) (.int .u64 (n : Nat)) 22; rwa [World.size_alloc] at this) (by simp [Value.oneCell']) (by unfold maxLen; omega) (by omega) (by simp; omega) ?_; intro v3 w3 hown3 hgrow3 _; have HL3 := HO2.out.lt; have K3 : Kept w w3 := ((K2.alloc _).alloc _).grown hgrow3 (fun g hg => (HL3 g hg).1); have D3 := (hgrow3.block w2.heap.size (by rw [World.size_alloc, World.size_alloc]; omega) (fun e => by have := (HL3 _ e.symm).2; omega)).trans (((Kept.refl _).alloc _).heap HC2.out); have d1 : w3.cell? ⟨w2.heap.size, 1, none⟩ = some (.int .i64 ((a : Int) + (len : Int))) := (by rw [Lib.cell_of_heap D3]; rfl); rw [u64s_snoc] at hown3; have HO3 := Lib.hid hown3; clear hown3 D3)
        go_roundw
        case rel => first | exact ⟨a + len, ns ++ [n], l + 1, _, rfl, hle, by omega, by go_num, hcons.out.2, by rw [List.length_append, HLL.out]; rfl, hcons.out.1, fun x hx => by rcases List.mem_append.1 hx with h | h; exact HSM.out x h; (simp only [List.mem_singleton] at h; rw [h]; exact HN.out), HO3.out, K3⟩ | ((repeat apply Exists.intro); exact ⟨⟨a + len, ns ++ [n], l + 1, _, rfl, hle, by omega, by go_num, hcons.out.2, by rw [List.length_append, HLL.out]; rfl, hcons.out.1, fun x hx => by rcases List.mem_append.1 hx with h | h; exact HSM.out x h; (simp only [List.mem_singleton] at h; rw [h]; exact HN.out), HO3.out, K3⟩, rfl⟩)
        case measure => simp [intOf]; omega
      · have HNO := Lib.hid hno
        clear hno
        go_wp2_with fail
        go_ret2
        refine .inr ⟨rfl, fun ms hms he => ?_, by repeat (first | exact Kept.refl _ | assumption | (refine Kept.alloc ?_ _) | (refine Kept.setCell ?_ (by first | omega | (simp; omega) | simp) _) | refine Kept.drew ?_ | refine Kept.drewN ?_ _ | (apply Kept.call; rotate_left; assumption))⟩
        obtain ⟨R, hR⟩ := HP.out
        have hd : s.data.toList.drop a = R := by rw [← hR, ← HAL.out, List.drop_left]
        obtain ⟨ms', h1, h2⟩ := encs_split ns ms R (by rw [← he, hR])
        cases ms' with
        | nil =>
          have := congrArg List.length hd
          rw [h2, List.length_drop] at this
          have e : s.data.toList.length = s.size := rfl
          rw [e] at this
          simp [encs_nil] at this
          omega
        | cons m r =>
          refine HNO.out (by omega) m (hms m (by rw [h1]; simp)) ?_
          show enc m <+: s.data.toList.drop a
          rw [hd, h2, encs_cons]
          exact List.prefix_append _ _
    · have hae : a = s.size := by omega
      have HAE := Lib.hid hae
      clear hae
      obtain ⟨SA, sc, rfl, hR⟩ := R64.of_own HO.out
      have HR := Lib.hid hR
      clear hR
      go_wp2_with fail
      go_ret2
      refine .inl ⟨ns, SA, l, sc, rfl, ?_, HSM.out, HR.out, kr⟩
      obtain ⟨R, hR⟩ := HP.out
      have : R.length = 0 := by
        have := congrArg List.length hR
        rw [List.length_append, HAL.out] at this
        have e : s.data.toList.length = s.size := rfl
        omega
      rw [← hR, List.eq_nil_of_length_eq_zero this, List.append_nil]
end Go.Proofs.Ythceenheaegdbaa
