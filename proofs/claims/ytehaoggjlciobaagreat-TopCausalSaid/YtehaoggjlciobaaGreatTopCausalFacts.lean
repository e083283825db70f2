/- The closed facts of the row of TopCausal. -/
import Derived.Test.YtehaoggjlciobaaGreatRows
import Derived.Test.YtehaoggjlciobaaGreatChecked
import Derived.WalkKit
import Derived.ProofKit
namespace Go.Proofs.YtehaoggjlciobaaGreat.topCausalDone
open Go.ChangeShapes Go.WideShapes Go.ChangeAt Go.RowKit Go.Proofs.Tryz
open Go.Proofs.YtehaoggjlciobaaGreat.Rows (topCausalSpec topCausalRow)
theorem qjZ:(topCausalRow.wf (OpenSpec.ofChange topCausalSpec))=true:=by kernel_rfl
theorem J6:(laidOutB prog)=true:=by kernel_rfl
theorem j2:(mapsRowed prog)=true:=by kernel_rfl
theorem FT:(f3.params.all (prog.readableRec ·))=true:=by kernel_rfl
theorem qj0:(namedTie prog topCausalRow.named topCausalSpec.vars)=true:=by kernel_rfl
theorem qj1:((topCausalRow.stops==[]))=true:=by kernel_rfl
theorem qj2:((prog.stops==[]))=true:=by kernel_rfl
theorem qj3:((topCausalRow.knobs==[]))=true:=by kernel_rfl
theorem qj4:((prog.stopKnobs==[]))=true:=by kernel_rfl
theorem qj5:((topCausalRow.inPlace==prog.inPlace 3))=true:=by kernel_rfl
theorem j10:((topCausalRow.unfollowed==prog.unfollowed 3))=true:=by kernel_rfl
theorem j11:((topCausalRow.recurses==prog.recurses 3))=true:=by kernel_rfl
theorem j12:((topCausalRow.named==prog.varsNamed 3))=true:=by kernel_rfl
theorem j13:((topCausalRow.maps==(f3.params.toList++topCausalSpec.plain.varTypes prog).any (prog.mapsRec ·)))=true:=by kernel_rfl
theorem j14:((topCausalRow.ifaces==(f3.params.toList++topCausalSpec.plain.varTypes prog).any (prog.ifacesRec ·)))=true:=by kernel_rfl
theorem j15:((topCausalRow.mapsOut==prog.mapsAmong f3.resultTypes.toList))=true:=by kernel_rfl
theorem j16:((topCausalRow.loops==(f3.params.toList++topCausalSpec.plain.varTypes prog).any (prog.loopsFrom ·)))=true:=by kernel_rfl
theorem j17:((topCausalRow.wideKeys==(f3.params.toList++topCausalSpec.plain.varTypes prog++f3.resultTypes.toList).any (prog.wideKeysFrom ·)))=true:=by kernel_rfl
theorem j18:(topCausalSpec.vars.all (prog.varReadable ·))=true:=by kernel_rfl
theorem j19:(f3.resultTypes.all (fun t=>prog.readableRec t&&decide (t<prog.types.size)))=true:=by kernel_rfl
theorem j20:((topCausalRow.ifacesOut==f3.resultTypes.toList.any (prog.ifacesRec ·)))=true:=by kernel_rfl
theorem j21:((topCausalRow.loopsOut==f3.resultTypes.toList.any (prog.loopsFrom ·)))=true:=by kernel_rfl
theorem j22:((topCausalRow.plainKeys==prog.plainKeys))=true:=by kernel_rfl
theorem j23:(topCausalRow.shortTexts.isNone)=true:=by kernel_rfl
theorem j24:(prog.stopsHeard)=true:=by kernel_rfl
theorem j25:(prog.mayEnter)=true:=by kernel_rfl
theorem j26:((topCausalRow.lifted==prog.liftsFinal))=true:=by kernel_rfl
theorem j27:((prog.make==some topCausalRow.make))=true:=by kernel_rfl
theorem j28:((topCausalRow.kinds==(if topCausalRow.domain.isEmpty then []else f3.params.toList.map fun t=>match prog.underlying t with|some (.int k)=>some k|_=>none)))=true:=by kernel_rfl
theorem j29:((topCausalRow.pinned==topCausalRow.pinnedBy))=true:=by kernel_rfl
theorem j30:((topCausalRow.veiled==(f3.params.toList++topCausalSpec.plain.varTypes prog++f3.resultTypes.toList).any (prog.veiledRec ·)))=true:=by kernel_rfl
theorem j31:(topCausalRow.veiledFits prog f3.params.toList (f3.params.toList++topCausalSpec.plain.varTypes prog++f3.resultTypes.toList))=true:=by kernel_rfl
end Go.Proofs.YtehaoggjlciobaaGreat.topCausalDone
