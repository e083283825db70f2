/- The closed facts of the row of TopOwns. -/
import Derived.Test.YtehaoggjlciobaaGreatRows
import Derived.Test.YtehaoggjlciobaaGreatChecked
import Derived.WalkKit
import Derived.ProofKit
namespace Go.Proofs.YtehaoggjlciobaaGreat.topOwnsDone
open Go.ChangeShapes Go.WideShapes Go.ChangeAt Go.RowKit

theorem qjZ : (Rows.topOwnsRow.wf (OpenSpec.ofChange Rows.topOwnsSpec)) = true := by kernel_rfl
theorem J6 : (laidOutB Tryz.prog) = true := by kernel_rfl
theorem j2 : (mapsRowed Tryz.prog) = true := by kernel_rfl
theorem FT : (Tryz.f4.params.all (Tryz.prog.readableRec ·)) = true := by kernel_rfl
theorem qj0 : (namedTie Tryz.prog Rows.topOwnsRow.named Rows.topOwnsSpec.vars) = true := by kernel_rfl
theorem qj1 : ((Rows.topOwnsRow.stops == [])) = true := by kernel_rfl
theorem qj2 : ((Tryz.prog.stops == [])) = true := by kernel_rfl
theorem qj3 : ((Rows.topOwnsRow.knobs == [])) = true := by kernel_rfl
theorem qj4 : ((Tryz.prog.stopKnobs == [])) = true := by kernel_rfl
theorem qj5 : ((Rows.topOwnsRow.inPlace == Tryz.prog.inPlace 4)) = true := by kernel_rfl
theorem j10 : ((Rows.topOwnsRow.unfollowed == Tryz.prog.unfollowed 4)) = true := by kernel_rfl
theorem j11 : ((Rows.topOwnsRow.recurses == Tryz.prog.recurses 4)) = true := by kernel_rfl
theorem j12 : ((Rows.topOwnsRow.named == Tryz.prog.varsNamed 4)) = true := by kernel_rfl
theorem j13 : ((Rows.topOwnsRow.maps == (Tryz.f4.params.toList ++ Rows.topOwnsSpec.plain.varTypes Tryz.prog).any (Tryz.prog.mapsRec ·))) = true := by kernel_rfl
theorem j14 : ((Rows.topOwnsRow.ifaces == (Tryz.f4.params.toList ++ Rows.topOwnsSpec.plain.varTypes Tryz.prog).any (Tryz.prog.ifacesRec ·))) = true := by kernel_rfl
theorem j15 : ((Rows.topOwnsRow.mapsOut == Tryz.prog.mapsAmong Tryz.f4.resultTypes.toList)) = true := by kernel_rfl
theorem j16 : ((Rows.topOwnsRow.loops == (Tryz.f4.params.toList ++ Rows.topOwnsSpec.plain.varTypes Tryz.prog).any (Tryz.prog.loopsFrom ·))) = true := by kernel_rfl
theorem j17 : ((Rows.topOwnsRow.wideKeys == (Tryz.f4.params.toList ++ Rows.topOwnsSpec.plain.varTypes Tryz.prog ++ Tryz.f4.resultTypes.toList).any (Tryz.prog.wideKeysFrom ·))) = true := by kernel_rfl
theorem j18 : (Rows.topOwnsSpec.vars.all (Tryz.prog.varReadable ·)) = true := by kernel_rfl
theorem j19 : (Tryz.f4.resultTypes.all (fun t => Tryz.prog.readableRec t && decide (t < Tryz.prog.types.size))) = true := by kernel_rfl
theorem j20 : ((Rows.topOwnsRow.ifacesOut == Tryz.f4.resultTypes.toList.any (Tryz.prog.ifacesRec ·))) = true := by kernel_rfl
theorem j21 : ((Rows.topOwnsRow.loopsOut == Tryz.f4.resultTypes.toList.any (Tryz.prog.loopsFrom ·))) = true := by kernel_rfl
theorem j22 : ((Rows.topOwnsRow.plainKeys == Tryz.prog.plainKeys)) = true := by kernel_rfl
theorem j23 : (Rows.topOwnsRow.shortTexts.isNone) = true := by kernel_rfl
theorem j24 : (Tryz.prog.stopsHeard) = true := by kernel_rfl
theorem j25 : (Tryz.prog.mayEnter) = true := by kernel_rfl
theorem j26 : ((Rows.topOwnsRow.lifted == Tryz.prog.liftsFinal)) = true := by kernel_rfl
theorem j27 : ((Tryz.prog.make == some Rows.topOwnsRow.make)) = true := by kernel_rfl
theorem j28 : ((Rows.topOwnsRow.kinds == (if Rows.topOwnsRow.domain.isEmpty then [] else Tryz.f4.params.toList.map fun t => match Tryz.prog.underlying t with | some (.int k) => some k | _ => none))) = true := by kernel_rfl
theorem j29 : ((Rows.topOwnsRow.pinned == Rows.topOwnsRow.pinnedBy)) = true := by kernel_rfl
theorem j30 : ((Rows.topOwnsRow.veiled == (Tryz.f4.params.toList ++ Rows.topOwnsSpec.plain.varTypes Tryz.prog ++ Tryz.f4.resultTypes.toList).any (Tryz.prog.veiledRec ·))) = true := by kernel_rfl
theorem j31 : (Rows.topOwnsRow.veiledFits Tryz.prog Tryz.f4.params.toList (Tryz.f4.params.toList ++ Rows.topOwnsSpec.plain.varTypes Tryz.prog ++ Tryz.f4.resultTypes.toList)) = true := by kernel_rfl
end Go.Proofs.YtehaoggjlciobaaGreat.topOwnsDone
