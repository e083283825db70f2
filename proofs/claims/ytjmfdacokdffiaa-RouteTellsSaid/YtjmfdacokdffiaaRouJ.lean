/- The document's keys and table, at rows that fit. -/
import Derived.Test.YtjmfdacokdffiaaRouH
set_option linter.unusedSimpArgs false
set_option linter.unusedVariables false
namespace Go.Proofs.Ytjmfdacokdffiaa
open Go.RowKit

theorem rlong_ch (c : Nat) (w : World) (h2 : c < 128) :
    Calls Try.prog 69 #[.int .u8 (c : Nat)] w fun e w' => e = .returned (.int .i64 1) ∧ Kept w w' := by
  have d : decide (((c : Nat) : Int) < 128) = true := by simp; omega
  go_enter Try.func69, Try.ntmps69
  go_wp2_with fail
  go_ret
  exact ⟨rfl, by repeat (first | exact Kept.refl _ | assumption | (refine Kept.alloc ?_ _) | (refine Kept.setCell ?_ (by first | omega | (simp; omega) | simp) _) | refine Kept.drew ?_ | refine Kept.drewN ?_ _ | (apply Kept.call; rotate_left; assumption))⟩
set_option maxRecDepth 20000 in
set_option maxHeartbeats 2000000 in
theorem rrunes_ch (c : Nat) (w : World) (h1 : 33 ≤ c) (h2 : c < 128) :
    Calls Try.prog 67 #[.string (ch c)] w fun e w' => e = .returned (.int .i64 1) ∧ Kept w w' := by
  obtain ⟨s, hs⟩ : ∃ s, s = ch c := ⟨_, rfl⟩
  have hsz : s.size = 1 := by rw [hs]; rfl
  rw [← hs]
  have HS := Lib.hid hsz
  have hix : ∀ w, (Instr.index 9 (.string s) (.int .i64 0)).run Try.prog w = .ok (.int .u8 (c : Int)) w := fun w => by
    rw [run_index_string w 9 s .i64 0 Try.underlying9, dif_pos ⟨by omega, by omega⟩]
    congr 3
    subst hs
    show ((UInt8.ofNat c).toNat) = c
    simp
    omega
  clear hs
  have d1 : ((c : Int) == 224) = false := by simp; omega
  have d2 : ((c : Int) == 237) = false := by simp; omega
  have d3 : ((c : Int) == 240) = false := by simp; omega
  have d4 : ((c : Int) == 244) = false := by simp; omega
  go_enter Try.func67, Try.ntmps67
  go_wp2_with fail
  go_loopw [3, 4] (fun nv pv wr => ∃ pos : Nat, pos ≤ 1 ∧ nv = .int .i64 pos ∧ pv = .int .i64 pos ∧ Kept w wr) (fun nv _ _ => 1 - (intOf nv).toNat)
  case atStart => exact ⟨0, by omega, rfl, rfl, Kept.refl w⟩
  case round =>
    obtain ⟨pos, hp, rfl, rfl, kr⟩ := hrel
    by_cases h0 : pos = 0
    · subst h0
      have hx1 : ∀ w, (Instr.index 9 (.string s) (.int .i64 ((0 : Nat) : Int))).run Try.prog w = .ok (.int .u8 (c : Int)) w := fun w => hix w
      go_wp2_with fail
      refine (rlong_ch c _ h2).mono ?_
      rintro e w1 ⟨rfl, k1⟩
      go_wp2_with fail
      go_loopw [6] (fun iv wr2 => iv = .int .i64 1 ∧ Kept w1 wr2) (fun _ _ => 0)
      case atStart => exact ⟨rfl, Kept.refl _⟩
      case round =>
        obtain ⟨rfl, kr2⟩ := hrel
        go_wp2_with fail
        go_roundw
        case rel => first | exact ⟨1, by omega, by go_num, by go_num, (kr.call k1).call kr2⟩ | ((repeat apply Exists.intro); exact ⟨⟨1, by omega, by go_num, by go_num, (kr.call k1).call kr2⟩, rfl⟩)
        case measure => first | (simp [intOf]; done) | (simp [intOf]; omega)
    · obtain rfl : pos = 1 := by omega
      go_wp2_with fail
      go_ret
      exact ⟨rfl, kr⟩
set_option maxHeartbeats 2000000 in
theorem rcheck_ch (c : Nat) (w : World) (h1 : 33 ≤ c) (h2 : c < 128) :
    Calls Try.prog 64 #[.string (ch c)] w fun e w' => e = .returned (.bool true) ∧ Kept w w' := by
  have HR := Lib.hid (fun w => rrunes_ch c w h1 h2)
  obtain ⟨s, hs⟩ : ∃ s, s = ch c := ⟨_, rfl⟩
  have hsz : s.size = 1 := by rw [hs]; rfl
  rw [← hs] at HR ⊢
  have HS := Lib.hid hsz
  have hix : ∀ w, (Instr.index 9 (.string s) (.int .i64 0)).run Try.prog w = .ok (.int .u8 (c : Int)) w := fun w => by
    rw [run_index_string w 9 s .i64 0 Try.underlying9, dif_pos ⟨by omega, by omega⟩]
    congr 3
    subst hs
    show ((UInt8.ofNat c).toNat) = c
    simp
    omega
  have hx1 : ∀ w, (Instr.index 9 (.string s) (.int .i64 ((0 : Nat) : Int))).run Try.prog w = .ok (.int .u8 (c : Int)) w := fun w => hix w
  clear hs
  have d1 : decide ((c : Int) < 33) = false := by simp; omega
  go_enter Try.func64, Try.ntmps64
  go_wp2_with fail
  refine (HR.out _).mono ?_
  rintro e w1 ⟨rfl, k1⟩
  go_wp2_with fail
  go_loopw [4] (fun pv wr => ∃ pos : Nat, pos ≤ 1 ∧ pv = .int .i64 pos ∧ Kept w wr) (fun pv _ => 1 - (intOf pv).toNat)
  case atStart => exact ⟨0, by omega, rfl, k1⟩
  case round =>
    obtain ⟨pos, hp, rfl, kr⟩ := hrel
    by_cases h0 : pos = 0
    · subst h0
      go_wp2_with fail
      go_roundw
      case rel => first | exact ⟨1, by omega, by go_num, kr⟩ | ((repeat apply Exists.intro); exact ⟨⟨1, by omega, by go_num, kr⟩, rfl⟩)
      case measure => first | (simp [intOf]; done) | (simp [intOf]; omega)
    · obtain rfl : pos = 1 := by omega
      go_wp2_with fail
      go_ret
      exact ⟨rfl, kr⟩
set_option maxHeartbeats 2000000 in
theorem rcheck_nil (w : World) :
    Calls Try.prog 64 #[.string nil] w fun e w' => e = .returned (.bool false) ∧ Kept w w' := by
  have HR : Hid (∀ w, Calls Try.prog 67 #[.string nil] w fun e w' => e = .returned (.int .i64 0) ∧ Kept w w') := fun w => by
    have hsz : nil.size = 0 := rfl
    generalize nil = s at *
    go_enter Try.func67, Try.ntmps67
    go_wp2_with fail
    go_loopw [3, 4] (fun nv pv wr => nv = .int .i64 0 ∧ pv = .int .i64 0 ∧ Kept w wr) (fun nv _ _ => 0)
    case atStart => exact ⟨rfl, rfl, Kept.refl w⟩
    case round =>
      obtain ⟨rfl, rfl, kr⟩ := hrel
      go_wp2_with fail
      go_ret
      exact ⟨rfl, kr⟩
  have hsz : nil.size = 0 := rfl
  generalize nil = s at *
  go_enter Try.func64, Try.ntmps64
  go_wp2_with fail
  refine (HR.out _).mono ?_
  rintro e w1 ⟨rfl, k1⟩
  go_wp2_with fail
  go_loopw [4] (fun pv wr => pv = .int .i64 0 ∧ Kept w wr) (fun pv _ => 0)
  case atStart => exact ⟨rfl, k1⟩
  case round =>
    obtain ⟨rfl, kr⟩ := hrel
    go_wp2_with fail
    go_ret
    exact ⟨rfl, kr⟩
theorem rcheck_plain (s : ByteArray) (w : World) (h : Plain s) :
    Calls Try.prog 64 #[.string s] w fun e w' => e = .returned (.bool (!s.toList.isEmpty)) ∧ Kept w w' := by
  rcases h with rfl | ⟨c, rfl, h1, h2⟩
  · rw [nil_toList]
    exact rcheck_nil w
  · rw [ch_toList]
    exact rcheck_ch c w h1 h2
theorem rgood_any (f t : ByteArray) (w : World) (hf : Plain f) (ht : Plain t) (h : t = nil ∨ Op.bytesLess f.toList t.toList = true) :
    Calls Try.prog 55 #[.agg #[.string f, .string t]] w fun e w' => e = .returned (.bool true) ∧ Kept w w' := by
  have HF := Lib.hid hf
  have HT := Lib.hid ht
  have hb : t.toList.isEmpty = true ∨ (t.toList.isEmpty = false ∧ Op.bytesLess f.toList t.toList = true) := by
    rcases h with rfl | h
    · left; rw [nil_toList]; rfl
    · cases he : t.toList.isEmpty
      · exact .inr ⟨rfl, h⟩
      · exact .inl rfl
  have h1 : f.toList.isEmpty = true ∨ f.toList.isEmpty = false := by cases f.toList.isEmpty <;> simp
  clear hf ht h
  go_enter Try.func55, Try.ntmps55
  go_wp2_with fail
  refine (rcheck_plain f _ HF.out).mono ?_
  rintro e w1 ⟨rfl, k1⟩
  have K1 : Kept w w1 := Kept.call (by repeat (first | exact Kept.refl _ | assumption | (refine Kept.alloc ?_ _) | (refine Kept.setCell ?_ (by first | omega | (simp; omega) | simp) _) | refine Kept.drew ?_ | refine Kept.drewN ?_ _ | (apply Kept.call; rotate_left; assumption))) k1
  have c0 : w1.cell? ⟨w.heap.size, 0, none⟩ = some (.string f) := k1.at_ (by go_simp)
  have c1 : w1.cell? ⟨w.heap.size, 1, none⟩ = some (.string t) := k1.at_ (by go_simp)
  go_wp2_with fail
  refine (rcheck_plain t _ HT.out).mono ?_
  rintro e w2 ⟨rfl, k2⟩
  have K2 := K1.call k2
  have c0 := k2.at_ c0
  have c1 := k2.at_ c1
  rcases h1 with h1 | h1
  · rcases hb with hb | ⟨hb1, hb2⟩
    · rw [h1, hb]
      go_wp2_with fail
      go_ret
      exact ⟨rfl, K2⟩
    · rw [h1, hb1]
      go_wp2_with fail
      go_ret
      exact ⟨rfl, K2⟩
  · rcases hb with hb | ⟨hb1, hb2⟩
    · rw [h1, hb]
      go_wp2_with fail
      go_ret
      exact ⟨rfl, K2⟩
    · rw [h1, hb1]
      go_wp2_with fail
      go_ret
      exact ⟨rfl, K2⟩
theorem rtwo_any (n : Nat) (w : World) (h : n ≤ 6) :
    Calls Try.prog 33 #[.int .i64 n] w fun e w' => e = .returned (.int .i64 ((2 ^ n : Nat) : Int)) ∧ Kept w w' := by
  go_enter Try.func33, Try.ntmps33
  go_wp2_with fail
  go_loopw [3, 4] (fun av kv w9 => ∃ k : Nat, k ≤ n ∧ av = .int .i64 ((2 ^ k : Nat) : Int) ∧ kv = .int .i64 k ∧ Kept w w9) (fun _ kv _ => n - (intOf kv).toNat)
  case atStart => exact ⟨0, by omega, rfl, rfl, Kept.refl _⟩
  case round =>
    obtain ⟨k, hk, rfl, rfl, kr⟩ := hrel
    by_cases hkn : k < n
    · have hp1 := two_le (n := k) (by omega)
      have hp2 : Hid (2 ^ (k + 1) = 2 * 2 ^ k) := by unfold Hid; rw [Nat.pow_succ, Nat.mul_comm]
      generalize 2 ^ k = t at *
      go_wp2_with fail
      go_roundw
      case rel => first | exact ⟨k + 1, by omega, by rw [hp2.out]; go_num, by go_num, kr⟩ | ((repeat apply Exists.intro); exact ⟨⟨k + 1, by omega, by rw [hp2.out]; go_num, by go_num, kr⟩, rfl⟩)
      case measure => simp [intOf]; omega
    · obtain rfl : k = n := by omega
      obtain ⟨t, ht⟩ : ∃ t, 2 ^ k = t := ⟨_, rfl⟩
      have HT := Lib.hid ht
      rw [ht]
      go_wp2_with fail
      go_ret
      exact ⟨by rw [HT.out]; rfl, kr⟩
theorem rbit_any (M s : Nat) (w : World) (h0 : M < 64) (hs : s < 6) :
    Calls Try.prog 15 #[.int .i64 M, .int .i64 s] w fun e w' => e = .returned (.bool (decide (M / 2 ^ s % 2 = 1))) ∧ Kept w w' := by
  have hp : 0 < 2 ^ s := Nat.pow_pos (by omega)
  have hp1 := two_le (n := s) (by omega)
  have hr := rtwo_any s w (by omega)
  have HQ : Hid (∀ q : Nat, q = M / 2 ^ s → ((M : Int).tdiv ((2 ^ s : Nat) : Int)) = q) := fun q hq => by
    rw [Int.tdiv_eq_ediv_of_nonneg (by omega), ← Int.natCast_ediv, hq]
  have hdl : M / 2 ^ s ≤ M := Nat.div_le_self _ _
  generalize 2 ^ s = t at *
  have hq := HQ.out _ rfl
  generalize M / t = q at *
  have hne : ((t : Int) == 0) = false := by simp; omega
  go_enter Try.func15, Try.ntmps15
  go_wp2_with fail
  refine hr.mono ?_
  rintro e w1 ⟨rfl, k1⟩
  rcases Nat.mod_two_eq_zero_or_one q with hm | hm
  · have hm2 : ((q : Nat) : Int).tmod 2 = 0 := by rw [Int.tmod_eq_emod_of_nonneg (by omega)]; omega
    go_wp2_with fail
    go_ret
    exact ⟨by rw [hm]; rfl, k1⟩
  · have hm2 : ((q : Nat) : Int).tmod 2 = 1 := by rw [Int.tmod_eq_emod_of_nonneg (by omega)]; omega
    go_wp2_with fail
    go_ret
    exact ⟨by rw [hm]; rfl, k1⟩
end Go.Proofs.Ytjmfdacokdffiaa
