/- The statement Rows.TableTellsSaid: for every input the law TableTells returns true, and each argument reads afterwards as it read before. No condition. -/
import Derived.Test.YtahokiopapenbaaArr
import Derived.Test.YtahokiopapenbaaRows
import Derived.Test.YtahokiopapenbaaTableTells
import Derived.WalkKit
import Derived.ProofKit
import Derived.OpenShut
import Derived.ShutString
import Derived.ChangeOld
import Derived.Below
import Derived.Lib.SmallJoins
set_option linter.unusedVariables false
set_option linter.unusedSimpArgs false
namespace Go.Proofs.Ytahokiopapenbaa.tableTellsDone
open Go.ChangeShapes Go.WideShapes Go.ChangeAt Go.RowKit Go.Joins
open Go.ChangeMaps (open_string shut_string)

theorem own : ownKnob Try.prog.godebug = none := by kernel_rfl
theorem laidOut : laidOutB Try.prog = true := by kernel_rfl
theorem cells3 : Try.prog.cellsOf 3 = 1 := by kernel_rfl
theorem cells28 : Try.prog.cellsOf 28 = 2 := by kernel_rfl
theorem cells31 : Try.prog.cellsOf 31 = 3 := by kernel_rfl

set_option maxRecDepth 100000 in
theorem lifted (os : Os) (started : os.Started) (H : Type) (enc : TypeId × Value → H) :
    ReturnsInHanded {} Try.checked os 6 .any (Rows.tableTellsSpec.pre6 enc Try.prog Try.f6 Rows.tableTellsRow.domain false) (Rows.tableTellsSpec.post enc Try.prog Try.f6 false true false false) := by
  refine returnsInHanded_of_change (C := Try.checked) own started (by kernel_rfl) Try.func6
    (ChangeSpec.witness6 (enc := enc) (C := Try.checked) false ⟨#[], #[.agg #[.slice none 0 0, .slice none 0 0, .slice none 0 0], .string ByteArray.empty, .agg #[.int .i64 0, .int .i64 0]], []⟩ 8 (by kernel_rfl) (by kernel_rfl) (by kernel_rfl) (by kernel_rfl)) ?_
  intro W base args ds gs before hval0 hW hcnd _
  have hval : ∀ (j : Nat) t v, Try.f6.params[j]? = some t → args[j]? = some v → Value.okWide Try.prog W .any base t v := hval0
  have hW' := hW
  obtain ⟨p, q, hA0, hV, rfl, hfz, hnd⟩ := hW
  have hA : DataW.TrodAll enc Try.prog W 0 (fun _ => true) true Try.f6.params.toList args.toList ds p := hA0
  rw [Try.params6] at hA hval
  obtain ⟨v0, vs0, d0, ds0, p0, q0, hargs, rfl, rfl, h0, r_0⟩ := trodAll_cons hA
  obtain ⟨v1, vs1, d1, ds1, p1, q1, rfl, rfl, rfl, h1, r_1⟩ := trodAll_cons r_0
  obtain ⟨v2, vs2, d2, ds2, p2, q2, rfl, rfl, rfl, h2, r_2⟩ := trodAll_cons r_1
  obtain ⟨rfl, rfl, rfl⟩ := trodAll_nil r_2
  obtain rfl : args = #[v0, v1, v2] := by cases args; simp_all
  obtain ⟨rfl, rfl⟩ := trodVars_none hV
  have k0 := h0
  have lt0 : ∀ x ∈ p0, x.block < W.heap.size := by obtain ⟨m, hm⟩ := k0; exact DataW.trod_lt m _ _ _ hm
  obtain ⟨c0a, c0b, c0c, y0a, y0b, y0c, m0, rfl, _, _, hy0a, hy0b, hy0c⟩ := open_agg3 Try.underlying31 (by kernel_rfl) cells31 (hval 0 31 v0 rfl rfl) h0
  obtain ⟨ada0a, na0a, ca0a, xsa0a, ea0a, ra0aa, ra0ab⟩ := field_rgs hy0a
  obtain ⟨ada0b, na0b, ca0b, xsa0b, ea0b, ra0ba, ra0bb⟩ := field_ints Try.underlying25 Try.underlying3 (by kernel_rfl) hy0b
  obtain ⟨ada0c, na0c, ca0c, xsa0c, ea0c, ra0ca, ra0cb⟩ := field_ints Try.underlying25 Try.underlying3 (by kernel_rfl) hy0c
  simp only [List.cons.injEq, and_true] at ea0a ea0b ea0c
  subst ea0a ea0b ea0c
  have k1 := h1
  have lt1 : ∀ x ∈ p1, x.block < W.heap.size := by obtain ⟨m, hm⟩ := k1; exact DataW.trod_lt m _ _ _ hm
  obtain ⟨s1, rfl, _, _, w1⟩ := open_string Try.underlying9 (hval 1 9 v1 rfl rfl) h1
  have k2 := h2
  have lt2 : ∀ x ∈ p2, x.block < W.heap.size := by obtain ⟨m, hm⟩ := k2; exact DataW.trod_lt m _ _ _ hm
  obtain ⟨c2a, c2b, y2a, y2b, m2, rfl, _, _, hy2a, hy2b⟩ := open_arr2 Try.underlying28 cells3 cells28 (hval 2 28 v2 rfl rfl) h2
  obtain ⟨a2a, ea2a, rfl, wa2a⟩ := DataW.trod_int Try.underlying3 hy2a
  obtain ⟨a2b, ea2b, rfl, wa2b⟩ := DataW.trod_int Try.underlying3 hy2b
  simp only [List.cons.injEq, and_true] at ea2a ea2b
  subst ea2a ea2b
  clear hA0 hval0
  refine (tableTells_walk ada0a na0a ca0a xsa0a ada0b na0b ca0b xsa0b ada0c na0c ca0c xsa0c s1 a2a a2b W ra0aa ra0ab ra0ba ra0bb ra0ca ra0cb w1 wa2a wa2b).mono fun e W' ⟨he, bel0⟩ => ?_
  have bel : Below W.heap.size W W' := bel0
  subst he
  exact ⟨_, rfl, _, _, _, [], _, [], hW', trodAll_mk1 (shut_bool Try.underlying4 _), (trodAll_cons_mk (Below.trod laidOut (by kernel_rfl) (of_decide_eq_true (by kernel_rfl)) k0 bel lt0) (trodAll_cons_mk (Below.trod laidOut (by kernel_rfl) (of_decide_eq_true (by kernel_rfl)) k1 bel lt1) (trodAll_cons_mk (Below.trod laidOut (by kernel_rfl) (of_decide_eq_true (by kernel_rfl)) k2 bel lt2) trodAll_mk0))), rfl, bel.frame _, fun h => by cases h⟩

theorem over : Rows.tableTellsRow.holds Try.pinned (OpenSpec.ofChange Rows.tableTellsSpec) :=
  OpenClaim.holds_of_wide 6 Try.f6 rfl rfl rfl rfl rfl rfl rfl ⟨rfl, rfl, rfl, rfl, rfl⟩ rfl rfl rfl rfl rfl (by kernel_rfl) Try.func6 (by kernel_rfl)
    (of_decide_eq_true (by kernel_rfl)) (by unfold Func.isWrapper; first | (rw [if_pos (by decide +kernel)]; kernel_rfl) | (rw [if_neg (by decide +kernel)]; exact ⟨rfl, rfl⟩))
    (fun os started H enc _ => lifted os started H enc)

/-- The statement. -/
theorem proved : Rows.TableTellsSaid := over
end Go.Proofs.Ytahokiopapenbaa.tableTellsDone
