/- The laws' awake; NetNil's parts. -/
import Derived.Test.YtbofoafcglmboaaNetF
set_option linter.unusedSimpArgs false
set_option linter.unusedVariables false
namespace Go.Proofs.Ytbofoafcglmboaa
open Go.RowKit Go.Maps

theorem bits0 : bits .and .i64 0 3 = 0 := by decide
theorem bits1 : bits .and .i64 1 3 = 1 := by decide
theorem bits2 : bits .and .i64 2 3 = 2 := by decide
def st0 : Nat → Nat → Ses := fun _ _ => ses0
def xT : ByteArray := ⟨#[120]⟩
def aw1 : Ses := ⟨[xT], 0, [0]⟩
def aw2 : Ses := ⟨[xT], 0, []⟩
def aw4 : Ses := ⟨[xT], 1, []⟩
theorem setS_twice (st : Nat → Nat → Ses) (a c : Nat) (x y : Ses) : setS (setS st a c x) a c y = setS st a c y := by
  funext i j; unfold setS; split <;> rfl
theorem awS : sendS (st0 0 1) xT = aw1 := rfl
theorem awP : pickS aw1 0 1 = aw2 := rfl
theorem awPB : pickB aw1 0 1 = false := rfl
theorem awA : agS aw2 = aw1 := rfl
theorem awAK : agK aw2.T aw2.lo aw2.way = 1 := rfl
theorem awT : pickS aw1 0 0 = aw4 := rfl
theorem awTB : pickB aw1 0 0 = true := rfl
theorem awTx : tx aw1.T aw1.lo = xT := rfl
theorem full01 : fullP 2 0 1 = true := rfl
theorem full10 : fullP 2 1 0 = true := rfl
theorem NetIn.under {w0 w1 w : World} {X : List Nat} {N : Nat} {P : Nat → Nat → Bool} {st : Nat → Nat → Ses} (h : NetIn w1 X w N P st) (hk : Kept w0 w1) : NetIn w0 X w N P st := by
  obtain ⟨M, k, S, F, h⟩ := h
  have hz := hk.size
  exact ⟨M, k, S, F, { h with nN := Nat.le_trans hz h.nN, nM := Nat.le_trans hz h.nM, own := fun a c s ha hc hs x hx => by obtain ⟨o1, o2, o3⟩ := h.own a c s ha hc hs x hx; exact ⟨o1, Nat.le_trans hz o2, o3⟩ }⟩
set_option maxRecDepth 20000 in
theorem awake_any (w : World) : Calls Try.prog 9 #[] w fun e w' => e = .returned (.bool true) ∧ Kept w w' := by
  go_enter Try.func9, Try.ntmps9
  go_wp2_with (go_at_call 10; refine (new_any 2 _ (by omega) (by omega)).mono ?_; rintro e w1 ⟨N, rfl, hN1, k1⟩; have H1 := Lib.hid hN1; clear hN1)
  have HK1 := Lib.hid k1
  clear k1
  go_wp2_with (go_at_call 11; refine (sendN w [] N (fullP 2) st0 0 1 0 1 _ H1.out HK1.out rfl rfl (by omega) (by omega) xT full01 (by simp [st0, ses0]) (by simp [st0, ses0])).mono ?_; rintro e w2 ⟨rfl, h2⟩; rw [awS] at h2; rw [show sendE (st0 0 1) = 0 from rfl]; have H2 := Lib.hid h2; clear h2)
  go_wp2_with (go_at_call 13; refine (pickN w [] N (fullP 2) _ 0 1 0 1 _ H2.out.1 H2.out.2.1 rfl rfl (by omega) (by omega) 0 1 full01 (by rw [setS_same]; simp [aw1]) (by rw [setS_same]; simp [aw1])).mono ?_; rintro e w3 ⟨rfl, h3⟩; rw [setS_same, bits1, setS_twice, awP] at h3; rw [setS_same, bits1, awPB]; unfold told; have H3 := Lib.hid h3; clear h3)
  go_wp2_with (go_at_call 12; refine (againN w [] N (fullP 2) _ 0 1 0 1 _ H3.out.1 H3.out.2.1 rfl rfl (by omega) (by omega) full01 (by rw [setS_same]; simp [aw2]) (by rw [setS_same]; simp [aw2])).mono ?_; rintro e w4 ⟨rfl, h4⟩; rw [setS_same, setS_twice, awA] at h4; rw [setS_same, awAK]; have H4 := Lib.hid h4; clear h4)
  go_wp2_with (go_at_call 13; refine (pickN w [] N (fullP 2) _ 0 1 0 1 _ H4.out.1 H4.out.2.1 rfl rfl (by omega) (by omega) 0 0 full01 (by rw [setS_same]; simp [aw1]) (by rw [setS_same]; simp [aw1])).mono ?_; rintro e w5 ⟨rfl, h5⟩; rw [setS_same, bits0, setS_twice, awT] at h5; rw [setS_same, bits0, awTB, awTx]; unfold told xT; have H5 := Lib.hid h5; clear h5)
  go_wp2_with (go_at_call 16; refine (nidle_any w [] N (fullP 2) _ _ H5.out.1 (by intro a c _ _ _; unfold setS; split <;> simp [aw4, st0, ses0])).mono ?_; rintro e w6 ⟨⟨B, rfl, hB⟩, k6⟩; obtain rfl : B = true := hB.2 (by intro a c _ _ _; unfold setS; split <;> simp [aw4, st0, ses0]))
  go_ret
  exact ⟨rfl, H5.out.2.1.call k6⟩
end Go.Proofs.Ytbofoafcglmboaa
