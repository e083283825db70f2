/- The document's Runes and Check at any text. -/
import Derived.Test.YtahokiopapenbaaTabI
import Derived.Outline
set_option linter.unusedSimpArgs false
set_option linter.unusedVariables false
namespace Go.Proofs.Ytahokiopapenbaa
open Go.RowKit

theorem rlong (c : Nat) (w : World) (h2 : c < 256) :
    Calls Try.prog 49 #[.int .u8 (c : Nat)] w fun e w' => e = .returned (.int .i64 (lng c : Nat)) ∧ Kept w w' := by
  have hl : (c < 128 ∧ lng c = 1) ∨ ((128 ≤ c ∧ c < 194) ∧ lng c = 0) ∨ ((194 ≤ c ∧ c ≤ 223) ∧ lng c = 2) ∨ ((224 ≤ c ∧ c ≤ 239) ∧ lng c = 3) ∨ ((240 ≤ c ∧ c ≤ 244) ∧ lng c = 4) ∨ (244 < c ∧ lng c = 0) := by
    unfold lng
    split
    · exact .inl ⟨by assumption, rfl⟩
    · split
      · exact .inr (.inr (.inl ⟨by omega, rfl⟩))
      · split
        · exact .inr (.inr (.inr (.inl ⟨by omega, rfl⟩)))
        · split
          · exact .inr (.inr (.inr (.inr (.inl ⟨by omega, rfl⟩))))
          · rcases Nat.lt_or_ge c 194 with h | h
            · exact .inr (.inl ⟨by omega, rfl⟩)
            · exact .inr (.inr (.inr (.inr (.inr ⟨by omega, rfl⟩))))
  rcases hl with ⟨h1, h2⟩ | ⟨h1, h2⟩ | ⟨h1, h2⟩ | ⟨h1, h2⟩ | ⟨h1, h2⟩ | ⟨h1, h2⟩
  all_goals
    (rw [h2]
     clear h2
     obtain ⟨ci, hci⟩ : ∃ ci : Int, (c : Int) = ci := ⟨_, rfl⟩
     have g1 : (ci < 128 ↔ c < 128) ∧ (194 ≤ ci ↔ 194 ≤ c) ∧ (ci ≤ 223 ↔ c ≤ 223) ∧ (224 ≤ ci ↔ 224 ≤ c) ∧ (ci ≤ 239 ↔ c ≤ 239) ∧ (240 ≤ ci ↔ 240 ≤ c) ∧ (ci ≤ 244 ↔ c ≤ 244) := by omega
     rw [hci]
     have d1 : decide (ci < 128) = decide (c < 128) := by rw [decide_eq_decide]; exact g1.1
     have d2 : decide (194 ≤ ci) = decide (194 ≤ c) := by rw [decide_eq_decide]; exact g1.2.1
     have d3 : decide (ci ≤ 223) = decide (c ≤ 223) := by rw [decide_eq_decide]; exact g1.2.2.1
     have d4 : decide (224 ≤ ci) = decide (224 ≤ c) := by rw [decide_eq_decide]; exact g1.2.2.2.1
     have d5 : decide (ci ≤ 239) = decide (c ≤ 239) := by rw [decide_eq_decide]; exact g1.2.2.2.2.1
     have d6 : decide (240 ≤ ci) = decide (240 ≤ c) := by rw [decide_eq_decide]; exact g1.2.2.2.2.2.1
     have d7 : decide (ci ≤ 244) = decide (c ≤ 244) := by rw [decide_eq_decide]; exact g1.2.2.2.2.2.2
     clear g1 hci
     (try rw [show decide (c < 128) = true by simp; omega] at d1)
     (try rw [show decide (c < 128) = false by simp; omega] at d1)
     (try rw [show decide (194 ≤ c) = true by simp; omega] at d2)
     (try rw [show decide (194 ≤ c) = false by simp; omega] at d2)
     (try rw [show decide (c ≤ 223) = true by simp; omega] at d3)
     (try rw [show decide (c ≤ 223) = false by simp; omega] at d3)
     (try rw [show decide (224 ≤ c) = true by simp; omega] at d4)
     (try rw [show decide (224 ≤ c) = false by simp; omega] at d4)
     (try rw [show decide (c ≤ 239) = true by simp; omega] at d5)
     (try rw [show decide (c ≤ 239) = false by simp; omega] at d5)
     (try rw [show decide (240 ≤ c) = true by simp; omega] at d6)
     (try rw [show decide (240 ≤ c) = false by simp; omega] at d6)
     (try rw [show decide (c ≤ 244) = true by simp; omega] at d7)
     (try rw [show decide (c ≤ 244) = false by simp; omega] at d7)
     clear h1
     go_enter Try.func49, Try.ntmps49
     go_wp2_with fail
     go_ret
     exact ⟨rfl, by repeat (first | exact Kept.refl _ | assumption | (refine Kept.alloc ?_ _) | (refine Kept.setCell ?_ (by first | omega | (simp; omega) | simp) _) | refine Kept.drew ?_ | refine Kept.drewN ?_ _ | (apply Kept.call; rotate_left; assumption))⟩)
set_option maxRecDepth 20000 in
set_option maxHeartbeats 4000000 in
theorem rrunes (s : ByteArray) (w : World) (hz : s.size ≤ 4294967296) :
    Calls Try.prog 48 #[.string s] w fun e w' => e = .returned (.int .i64 (runesI s)) ∧ Kept w w' := by
  go_enter Try.func48, Try.ntmps48
  go_wp2_with fail
  go_loopw [3, 4] (fun nv pv wr => ∃ p n : Nat, nv = .int .i64 n ∧ pv = .int .i64 p ∧ Hid (Rn s p n) ∧ Kept w wr) (fun _ pv _ => s.size - (intOf pv).toNat)
  case atStart => exact ⟨0, 0, rfl, rfl, Rn.zero s, Kept.refl w⟩
  case round =>
    obtain ⟨p, n, rfl, rfl, HR, kr⟩ := hrel
    have hpl := HR.out.le
    by_cases hp : p < s.size
    · have e1 : decide ((p : Int) < (s.size : Int)) = true := by simp; omega
      have hix := fun w => index_at (P := Try.prog) 9 Try.underlying9 hp w
      obtain ⟨c, hc⟩ : ∃ c, by_ s p = c := ⟨_, rfl⟩
      have HC := Lib.hid hc
      have hcl := by_lt s p
      rw [hc] at hix hcl
      obtain ⟨k, hk⟩ : ∃ k, lng c = k := ⟨_, rfl⟩
      have HK : Hid (lng (by_ s p) = k) := by unfold Hid; rw [hc, hk]
      have HK1 := Lib.hid hk
      have hk4 := lng_le c
      rw [hk] at hk4
      clear hc hk
      by_cases hk0 : k = 0
      · have hbad : Hid (runesI s = -1) := HR.out.bad hp (fun hok => hok.1 (by rw [HK.out]; exact hk0))
        subst hk0
        go_wp2_with (go_at_call 49; refine (rlong c _ hcl).mono ?_; rintro e w1 ⟨rfl, k1⟩; rw [HK1.out])
        go_ret
        exact ⟨ret_int hbad.out.symm, kr.call k1⟩
      · have d1 : ((k : Int) == 0) = false := by simp; omega
        by_cases hks : p + k ≤ s.size
        · have d2 : decide ((s.size : Int) - (p : Int) < (k : Int)) = false := by simp; omega
          go_wp2_with (go_at_call 49; refine (rlong c _ hcl).mono ?_; rintro e w1 ⟨rfl, k1⟩; rw [HK1.out])
          go_loopw [6] (fun iv wr2 => ∃ i : Nat, 1 ≤ i ∧ i ≤ k ∧ iv = .int .i64 i ∧ Hid (∀ j, 1 ≤ j → j < i → cont s (p + j)) ∧ Kept w1 wr2) (fun iv _ => k - (intOf iv).toNat)
          case atStart => exact ⟨1, by omega, by omega, rfl, fun j h1 h2 => by omega, Kept.refl _⟩
          case round =>
            obtain ⟨i, hi1, hik, rfl, HCT, kr2⟩ := hrel
            by_cases hlt : i < k
            · have d3 : decide ((i : Int) < (k : Int)) = true := by simp; omega
              have hiy0 := fun w => index_at (P := Try.prog) (s := s) (p := p + i) 9 Try.underlying9 (by omega) w
              have hiy : ∀ w, (Instr.index 9 (.string s) (.int .i64 ((p : Int) + (i : Int)))).run Try.prog w = .ok (.int .u8 (by_ s (p + i) : Nat)) w := fun w => by
                have := hiy0 w
                rwa [Int.natCast_add] at this
              obtain ⟨b, hb⟩ : ∃ b, by_ s (p + i) = b := ⟨_, rfl⟩
              have HB := Lib.hid hb
              have hbl := by_lt s (p + i)
              rw [hb] at hiy hbl
              clear hiy0 hb
              by_cases hcn : 128 ≤ b ∧ b ≤ 191
              · have d4 : decide ((b : Int) < 128) = false := by simp; omega
                have d5 : decide ((191 : Int) < (b : Int)) = false := by simp; omega
                have HCT2 : Hid (∀ j, 1 ≤ j → j < i + 1 → cont s (p + j)) := fun j h1 h2 => by
                  rcases Nat.lt_or_ge j i with g | g
                  · exact HCT.out j h1 g
                  · obtain rfl : j = i := by omega
                    unfold cont
                    rw [HB.out]; exact hcn
                clear hcn
                go_wp2_with fail
                go_roundw
                case rel => first | exact ⟨i + 1, by omega, by omega, by go_num, HCT2, kr2⟩ | ((repeat apply Exists.intro); exact ⟨⟨i + 1, by omega, by omega, by go_num, HCT2, kr2⟩, rfl⟩)
                case measure => simp [intOf]; omega
              · have hbad : Hid (runesI s = -1) := HR.out.bad hp (fun hok => by
                  have := hok.2.2.1 i hi1 (by rw [HK.out]; exact hlt)
                  unfold cont at this
                  rw [HB.out] at this
                  exact hcn this)
                have hcase : decide ((b : Int) < 128) = true ∨ (decide ((b : Int) < 128) = false ∧ decide ((191 : Int) < (b : Int)) = true) := by
                  simp only [decide_eq_true_eq, decide_eq_false_iff_not]
                  omega
                clear hcn
                rcases hcase with d4 | ⟨d4, d5⟩
                all_goals
                  (go_wp2_with fail
                   go_ret
                   exact ⟨ret_int hbad.out.symm, (kr.call k1).call kr2⟩)
            · obtain rfl : i = k := by omega
              have d3 : decide ((i : Int) < (i : Int)) = false := by simp
              obtain ⟨c1, hc1⟩ : ∃ c1, by_ s (p + 1) = c1 := ⟨_, rfl⟩
              have HC1 := Lib.hid hc1
              have hc1l := by_lt s (p + 1)
              rw [hc1] at hc1l
              have hiy : 2 ≤ i → ∀ w, (Instr.index 9 (.string s) (.int .i64 ((p : Int) + 1))).run Try.prog w = .ok (.int .u8 (c1 : Nat)) w := fun h2 w => by
                have := index_at (P := Try.prog) (s := s) (p := p + 1) 9 Try.underlying9 (by omega) w
                rw [hc1] at this
                exact this
              have hk2 : 224 ≤ c → c ≤ 244 → 2 ≤ i := fun h1 h2 => by
                rw [← HK1.out]
                unfold lng
                rw [if_neg (by omega), if_neg (by omega)]
                split
                · omega
                · rw [if_pos (by omega)]; omega
              clear hc1
              by_cases q1 : c = 224
              · subst q1
                have hiy := hiy (hk2 (by omega) (by omega))
                clear hk2
                rcases Nat.lt_or_ge c1 160 with g | g
                · have d5 : decide ((c1 : Int) < 160) = true := by simp; omega
                  have hbad : Hid (runesI s = -1) := HR.out.bad hp (fun hok => by
                    obtain ⟨_, _, _, h1, h2, h3, h4⟩ := hok
                    rw [HC.out, HC1.out] at h1 h2 h3 h4
                    omega)
                  go_wp2_with fail
                  go_ret
                  exact ⟨ret_int hbad.out.symm, (kr.call k1).call kr2⟩
                · have d5 : decide ((c1 : Int) < 160) = false := by simp; omega
                  have hok : okR s p := ⟨by rw [HK.out]; omega, by rw [HK.out]; omega, fun j h1 h2 => by rw [HK.out] at h2; exact HCT.out j h1 h2, by rw [HC.out, HC1.out]; omega, by rw [HC.out, HC1.out]; omega, by rw [HC.out, HC1.out]; omega, by rw [HC.out, HC1.out]; omega⟩
                  obtain ⟨hn, hn1⟩ := HR.out.next hp hok
                  rw [HK.out] at hn hn1
                  have HN := Lib.hid hn
                  have hnp := hn.np
                  have hnle := hn.le
                  clear hok hn
                  (try clear q1)
                  (try clear q2)
                  (try clear q3)
                  (try clear q4)
                  go_wp2_with fail
                  go_roundw
                  case rel => first | exact ⟨p + i, n + 1, by go_num, by go_num, HN, (kr.call k1).call kr2⟩ | ((repeat apply Exists.intro); exact ⟨⟨p + i, n + 1, by go_num, by go_num, HN, (kr.call k1).call kr2⟩, rfl⟩)
                  case measure => simp [intOf]; omega
              · by_cases q2 : c = 237
                · subst q2
                  have hiy := hiy (hk2 (by omega) (by omega))
                  clear hk2
                  rcases Nat.lt_or_ge 159 c1 with g | g
                  · have d5 : decide ((159 : Int) < (c1 : Int)) = true := by simp; omega
                    have hbad : Hid (runesI s = -1) := HR.out.bad hp (fun hok => by
                      obtain ⟨_, _, _, h1, h2, h3, h4⟩ := hok
                      rw [HC.out, HC1.out] at h1 h2 h3 h4
                      omega)
                    go_wp2_with fail
                    go_ret
                    exact ⟨ret_int hbad.out.symm, (kr.call k1).call kr2⟩
                  · have d5 : decide ((159 : Int) < (c1 : Int)) = false := by simp; omega
                    have hok : okR s p := ⟨by rw [HK.out]; omega, by rw [HK.out]; omega, fun j h1 h2 => by rw [HK.out] at h2; exact HCT.out j h1 h2, by rw [HC.out, HC1.out]; omega, by rw [HC.out, HC1.out]; omega, by rw [HC.out, HC1.out]; omega, by rw [HC.out, HC1.out]; omega⟩
                    obtain ⟨hn, hn1⟩ := HR.out.next hp hok
                    rw [HK.out] at hn hn1
                    have HN := Lib.hid hn
                    have hnp := hn.np
                    have hnle := hn.le
                    clear hok hn
                    (try clear q1)
                    (try clear q2)
                    (try clear q3)
                    (try clear q4)
                    go_wp2_with fail
                    go_roundw
                    case rel => first | exact ⟨p + i, n + 1, by go_num, by go_num, HN, (kr.call k1).call kr2⟩ | ((repeat apply Exists.intro); exact ⟨⟨p + i, n + 1, by go_num, by go_num, HN, (kr.call k1).call kr2⟩, rfl⟩)
                    case measure => simp [intOf]; omega
                · by_cases q3 : c = 240
                  · subst q3
                    have hiy := hiy (hk2 (by omega) (by omega))
                    clear hk2
                    rcases Nat.lt_or_ge c1 144 with g | g
                    · have d5 : decide ((c1 : Int) < 144) = true := by simp; omega
                      have hbad : Hid (runesI s = -1) := HR.out.bad hp (fun hok => by
                        obtain ⟨_, _, _, h1, h2, h3, h4⟩ := hok
                        rw [HC.out, HC1.out] at h1 h2 h3 h4
                        omega)
                      go_wp2_with fail
                      go_ret
                      exact ⟨ret_int hbad.out.symm, (kr.call k1).call kr2⟩
                    · have d5 : decide ((c1 : Int) < 144) = false := by simp; omega
                      have hok : okR s p := ⟨by rw [HK.out]; omega, by rw [HK.out]; omega, fun j h1 h2 => by rw [HK.out] at h2; exact HCT.out j h1 h2, by rw [HC.out, HC1.out]; omega, by rw [HC.out, HC1.out]; omega, by rw [HC.out, HC1.out]; omega, by rw [HC.out, HC1.out]; omega⟩
                      obtain ⟨hn, hn1⟩ := HR.out.next hp hok
                      rw [HK.out] at hn hn1
                      have HN := Lib.hid hn
                      have hnp := hn.np
                      have hnle := hn.le
                      clear hok hn
                      (try clear q1)
                      (try clear q2)
                      (try clear q3)
                      (try clear q4)
                      go_wp2_with fail
                      go_roundw
                      case rel => first | exact ⟨p + i, n + 1, by go_num, by go_num, HN, (kr.call k1).call kr2⟩ | ((repeat apply Exists.intro); exact ⟨⟨p + i, n + 1, by go_num, by go_num, HN, (kr.call k1).call kr2⟩, rfl⟩)
                      case measure => simp [intOf]; omega
                  · by_cases q4 : c = 244
                    · subst q4
                      have hiy := hiy (hk2 (by omega) (by omega))
                      clear hk2
                      rcases Nat.lt_or_ge 143 c1 with g | g
                      · have d5 : decide ((143 : Int) < (c1 : Int)) = true := by simp; omega
                        have hbad : Hid (runesI s = -1) := HR.out.bad hp (fun hok => by
                          obtain ⟨_, _, _, h1, h2, h3, h4⟩ := hok
                          rw [HC.out, HC1.out] at h1 h2 h3 h4
                          omega)
                        go_wp2_with fail
                        go_ret
                        exact ⟨ret_int hbad.out.symm, (kr.call k1).call kr2⟩
                      · have d5 : decide ((143 : Int) < (c1 : Int)) = false := by simp; omega
                        have hok : okR s p := ⟨by rw [HK.out]; omega, by rw [HK.out]; omega, fun j h1 h2 => by rw [HK.out] at h2; exact HCT.out j h1 h2, by rw [HC.out, HC1.out]; omega, by rw [HC.out, HC1.out]; omega, by rw [HC.out, HC1.out]; omega, by rw [HC.out, HC1.out]; omega⟩
                        obtain ⟨hn, hn1⟩ := HR.out.next hp hok
                        rw [HK.out] at hn hn1
                        have HN := Lib.hid hn
                        have hnp := hn.np
                        have hnle := hn.le
                        clear hok hn
                        (try clear q1)
                        (try clear q2)
                        (try clear q3)
                        (try clear q4)
                        go_wp2_with fail
                        go_roundw
                        case rel => first | exact ⟨p + i, n + 1, by go_num, by go_num, HN, (kr.call k1).call kr2⟩ | ((repeat apply Exists.intro); exact ⟨⟨p + i, n + 1, by go_num, by go_num, HN, (kr.call k1).call kr2⟩, rfl⟩)
                        case measure => simp [intOf]; omega
                    · have b1 : ((c : Int) == 224) = false := by simp; omega
                      have b2 : ((c : Int) == 237) = false := by simp; omega
                      have b3 : ((c : Int) == 240) = false := by simp; omega
                      have b4 : ((c : Int) == 244) = false := by simp; omega
                      clear hk2 hiy
                      have hok : okR s p := ⟨by rw [HK.out]; omega, by rw [HK.out]; omega, fun j h1 h2 => by rw [HK.out] at h2; exact HCT.out j h1 h2, by rw [HC.out, HC1.out]; omega, by rw [HC.out, HC1.out]; omega, by rw [HC.out, HC1.out]; omega, by rw [HC.out, HC1.out]; omega⟩
                      obtain ⟨hn, hn1⟩ := HR.out.next hp hok
                      rw [HK.out] at hn hn1
                      have HN := Lib.hid hn
                      have hnp := hn.np
                      have hnle := hn.le
                      clear hok hn
                      (try clear q1)
                      (try clear q2)
                      (try clear q3)
                      (try clear q4)
                      go_wp2_with fail
                      go_roundw
                      case rel => first | exact ⟨p + i, n + 1, by go_num, by go_num, HN, (kr.call k1).call kr2⟩ | ((repeat apply Exists.intro); exact ⟨⟨p + i, n + 1, by go_num, by go_num, HN, (kr.call k1).call kr2⟩, rfl⟩)
                      case measure => simp [intOf]; omega
        · have hbad : Hid (runesI s = -1) := HR.out.bad hp (fun hok => by have := hok.2.1; rw [HK.out] at this; omega)
          have d2 : decide ((s.size : Int) - (p : Int) < (k : Int)) = true := by simp; omega
          go_wp2_with (go_at_call 49; refine (rlong c _ hcl).mono ?_; rintro e w1 ⟨rfl, k1⟩; rw [HK1.out])
          go_ret
          exact ⟨ret_int hbad.out.symm, kr.call k1⟩
    · have hend := Lib.hid (HR.out.end hp)
      have e1 : decide ((p : Int) < (s.size : Int)) = false := by simp; omega
      go_wp2_with fail
      go_ret
      exact ⟨ret_int hend.out.symm, kr⟩
end Go.Proofs.Ytahokiopapenbaa
