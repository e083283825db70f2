/- The statement Rows.RouteTellsSaid: for every input the law RouteTells returns true, and each argument reads afterwards as it read before. No condition. -/
import Derived.Test.YtjmfdacokdffiaaArr
import Derived.Test.YtjmfdacokdffiaaRows
import Derived.Test.YtjmfdacokdffiaaRouteTells
import Derived.WalkKit
import Derived.ProofKit
import Derived.OpenShut
import Derived.ShutString
import Derived.ChangeOld
import Derived.Below
import Derived.Lib.SmallJoins
set_option linter.unusedVariables false
set_option linter.unusedSimpArgs false
namespace Go.Proofs.Ytjmfdacokdffiaa.routeTellsDone
open Go.ChangeShapes Go.WideShapes Go.ChangeAt Go.RowKit Go.Joins
open Go.ChangeMaps (open_string shut_string)

theorem own : ownKnob Try.prog.godebug = none := by kernel_rfl
theorem laidOut : laidOutB Try.prog = true := by kernel_rfl
theorem cells3 : Try.prog.cellsOf 3 = 1 := by kernel_rfl
theorem cells24 : Try.prog.cellsOf 24 = 3 := by kernel_rfl
theorem cells43 : Try.prog.cellsOf 43 = 4 := by kernel_rfl

set_option maxRecDepth 100000 in
theorem lifted (os : Os) (started : os.Started) (H : Type) (enc : TypeId × Value → H) :
    ReturnsInHanded {} Try.checked os 7 .any (Rows.routeTellsSpec.pre6 enc Try.prog Try.f7 Rows.routeTellsRow.domain false) (Rows.routeTellsSpec.post enc Try.prog Try.f7 false true false false) := by
  refine returnsInHanded_of_change (C := Try.checked) own started (by kernel_rfl) Try.func7
    (ChangeSpec.witness6 (enc := enc) (C := Try.checked) false ⟨#[], #[.agg #[.slice none 0 0, .slice none 0 0, .slice none 0 0], .string ByteArray.empty, .agg #[.int .i64 0, .int .i64 0, .int .i64 0, .int .i64 0]], []⟩ 8 (by kernel_rfl) (by kernel_rfl) (by kernel_rfl) (by kernel_rfl)) ?_
  intro W base args ds gs before hval0 hW hcnd _
  have hval : ∀ (j : Nat) t v, Try.f7.params[j]? = some t → args[j]? = some v → Value.okWide Try.prog W .any base t v := hval0
  have hW' := hW
  obtain ⟨p, q, hA0, hV, rfl, hfz, hnd⟩ := hW
  have hA : DataW.TrodAll enc Try.prog W 0 (fun _ => true) true Try.f7.params.toList args.toList ds p := hA0
  rw [Try.params7] at hA hval
  obtain ⟨v0, vs0, d0, ds0, p0, q0, hargs, rfl, rfl, h0, r_0⟩ := trodAll_cons hA
  obtain ⟨v1, vs1, d1, ds1, p1, q1, rfl, rfl, rfl, h1, r_1⟩ := trodAll_cons r_0
  obtain ⟨v2, vs2, d2, ds2, p2, q2, rfl, rfl, rfl, h2, r_2⟩ := trodAll_cons r_1
  obtain ⟨rfl, rfl, rfl⟩ := trodAll_nil r_2
  obtain rfl : args = #[v0, v1, v2] := by cases args; simp_all
  obtain ⟨rfl, rfl⟩ := trodVars_none hV
  have k0 := h0
  have lt0 : ∀ x ∈ p0, x.block < W.heap.size := by obtain ⟨m, hm⟩ := k0; exact DataW.trod_lt m _ _ _ hm
  obtain ⟨c0a, c0b, c0c, y0a, y0b, y0c, m0, rfl, _, _, hy0a, hy0b, hy0c⟩ := open_agg3 Try.underlying24 (by kernel_rfl) cells24 (hval 0 24 v0 rfl rfl) h0
  obtain ⟨ada0a, na0a, ca0a, xsa0a, ea0a, ra0aa, ra0ab⟩ := field_ints Try.underlying22 Try.underlying3 (by kernel_rfl) hy0a
  obtain ⟨ada0b, na0b, ca0b, xsa0b, ea0b, ra0ba, ra0bb⟩ := field_ints Try.underlying22 Try.underlying3 (by kernel_rfl) hy0b
  obtain ⟨ada0c, na0c, ca0c, xsa0c, ea0c, ra0ca, ra0cb⟩ := field_ints Try.underlying22 Try.underlying3 (by kernel_rfl) hy0c
  simp only [List.cons.injEq, and_true] at ea0a ea0b ea0c
  subst ea0a ea0b ea0c
  have k1 := h1
  have lt1 : ∀ x ∈ p1, x.block < W.heap.size := by obtain ⟨m, hm⟩ := k1; exact DataW.trod_lt m _ _ _ hm
  obtain ⟨s1, rfl, _, _, w1⟩ := open_string Try.underlying9 (hval 1 9 v1 rfl rfl) h1
  have k2 := h2
  have lt2 : ∀ x ∈ p2, x.block < W.heap.size := by obtain ⟨m, hm⟩ := k2; exact DataW.trod_lt m _ _ _ hm
  obtain ⟨c2a, c2b, c2c, c2d, y2a, y2b, y2c, y2d, m2, rfl, _, _, hy2a, hy2b, hy2c, hy2d⟩ := open_arr4 Try.underlying43 cells3 cells43 (hval 2 43 v2 rfl rfl) h2
  obtain ⟨a2a, ea2a, rfl, wa2a⟩ := DataW.trod_int Try.underlying3 hy2a
  obtain ⟨a2b, ea2b, rfl, wa2b⟩ := DataW.trod_int Try.underlying3 hy2b
  obtain ⟨a2c, ea2c, rfl, wa2c⟩ := DataW.trod_int Try.underlying3 hy2c
  obtain ⟨a2d, ea2d, rfl, wa2d⟩ := DataW.trod_int Try.underlying3 hy2d
  simp only [List.cons.injEq, and_true] at ea2a ea2b ea2c ea2d
  subst ea2a ea2b ea2c ea2d
  clear hA0 hval0
  refine (routeTells_walk ada0a na0a ca0a xsa0a ada0b na0b ca0b xsa0b ada0c na0c ca0c xsa0c s1 a2a a2b a2c a2d W ra0aa ra0ab ra0ba ra0bb ra0ca ra0cb w1 wa2a wa2b wa2c wa2d).mono fun e W' ⟨he, bel0⟩ => ?_
  have bel : Below W.heap.size W W' := bel0
  subst he
  exact ⟨_, rfl, _, _, _, [], _, [], hW', trodAll_mk1 (shut_bool Try.underlying4 _), (trodAll_cons_mk (Below.trod laidOut (by kernel_rfl) (of_decide_eq_true (by kernel_rfl)) k0 bel lt0) (trodAll_cons_mk (Below.trod laidOut (by kernel_rfl) (of_decide_eq_true (by kernel_rfl)) k1 bel lt1) (trodAll_cons_mk (Below.trod laidOut (by kernel_rfl) (of_decide_eq_true (by kernel_rfl)) k2 bel lt2) trodAll_mk0))), rfl, bel.frame _, fun h => by cases h⟩

theorem over : Rows.routeTellsRow.holds Try.pinned (OpenSpec.ofChange Rows.routeTellsSpec) :=
  OpenClaim.holds_of_wide 7 Try.f7 rfl rfl rfl rfl rfl rfl rfl ⟨rfl, rfl, rfl, rfl, rfl⟩ rfl rfl rfl rfl rfl (by kernel_rfl) Try.func7 (by kernel_rfl)
    (of_decide_eq_true (by kernel_rfl)) (by unfold Func.isWrapper; first | (rw [if_pos (by decide +kernel)]; kernel_rfl) | (rw [if_neg (by decide +kernel)]; exact ⟨rfl, rfl⟩))
    (fun os started H enc _ => lifted os started H enc)

/-- The statement. -/
theorem proved : Rows.RouteTellsSaid := over
end Go.Proofs.Ytjmfdacokdffiaa.routeTellsDone
