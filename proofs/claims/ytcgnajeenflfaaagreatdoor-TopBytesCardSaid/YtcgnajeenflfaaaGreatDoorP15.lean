import Derived.JoinedOf
import Derived.Test.YtcgnajeenflfaaaGreatDoorRows
import Derived.Test.YtcgnajeenflfaaaGreatDoorP0
set_option maxRecDepth 100000
set_option maxHeartbeats 4000000
set_option linter.all false
open Go.Proofs.Tryz Go.RowKit
namespace Go.Proofs.YtcgnajeenflfaaaGreatDoor
namespace topBytes
theorem c0:(Rows.topBytesRow.wf (OpenSpec.ofChange Rows.topBytesSpec))=true:=by kernel_rfl
theorem c1:(laidOutB prog)=true:=by kernel_rfl
theorem c2:(mapsRowed prog)=true:=by kernel_rfl
theorem c3:(Tryz.f3.params.all (prog.readableRec ·))=true:=by kernel_rfl
theorem c4:(namedTie prog Rows.topBytesRow.named Rows.topBytesSpec.vars)=true:=by kernel_rfl
theorem c5:((Rows.topBytesRow.stops==[]))=true:=by kernel_rfl
theorem c6:((prog.stops==[]))=true:=by kernel_rfl
theorem c7:((Rows.topBytesRow.knobs==[]))=true:=by kernel_rfl
theorem c8:((prog.stopKnobs==[]))=true:=by kernel_rfl
theorem c9:((Rows.topBytesRow.inPlace==prog.inPlace 3))=true:=by kernel_rfl
theorem c10:((Rows.topBytesRow.unfollowed==prog.unfollowed 3))=true:=by kernel_rfl
theorem c11:((Rows.topBytesRow.recurses==prog.recurses 3))=true:=by kernel_rfl
theorem c12:((Rows.topBytesRow.named==prog.varsNamed 3))=true:=by kernel_rfl
theorem c13:((Rows.topBytesRow.maps==(Tryz.f3.params.toList++Rows.topBytesSpec.plain.varTypes prog).any (prog.mapsRec ·)))=true:=by kernel_rfl
theorem c14:((Rows.topBytesRow.ifaces==(Tryz.f3.params.toList++Rows.topBytesSpec.plain.varTypes prog).any (prog.ifacesRec ·)))=true:=by kernel_rfl
theorem c15:((Rows.topBytesRow.mapsOut==prog.mapsAmong Tryz.f3.resultTypes.toList))=true:=by kernel_rfl
theorem c16:((Rows.topBytesRow.loops==(Tryz.f3.params.toList++Rows.topBytesSpec.plain.varTypes prog).any (prog.loopsFrom ·)))=true:=by kernel_rfl
theorem c17:((Rows.topBytesRow.wideKeys==(Tryz.f3.params.toList++Rows.topBytesSpec.plain.varTypes prog++Tryz.f3.resultTypes.toList).any (prog.wideKeysFrom ·)))=true:=by kernel_rfl
theorem c18:(Rows.topBytesSpec.vars.all (prog.varReadable ·))=true:=by kernel_rfl
theorem c19:(Tryz.f3.resultTypes.all (fun t=>prog.readableRec t&&decide (t<prog.types.size)))=true:=by kernel_rfl
theorem c20:((Rows.topBytesRow.ifacesOut==Tryz.f3.resultTypes.toList.any (prog.ifacesRec ·)))=true:=by kernel_rfl
theorem c21:((Rows.topBytesRow.loopsOut==Tryz.f3.resultTypes.toList.any (prog.loopsFrom ·)))=true:=by kernel_rfl
theorem c22:((Rows.topBytesRow.plainKeys==prog.plainKeys))=true:=by kernel_rfl
theorem c23:(Rows.topBytesRow.shortTexts.isNone)=true:=by kernel_rfl
theorem c24:(prog.stopsHeard)=true:=by kernel_rfl
theorem c25:(prog.mayEnter)=true:=by kernel_rfl
theorem c26:((Rows.topBytesRow.lifted==prog.liftsFinal))=true:=by kernel_rfl
theorem c27:((prog.make==some Rows.topBytesRow.make))=true:=by kernel_rfl
theorem c28:((Rows.topBytesRow.kinds==(if Rows.topBytesRow.domain.isEmpty then [] else Tryz.f3.params.toList.map fun t=>match prog.underlying t with | some (.int k)=>some k | _=>none)))=true:=by kernel_rfl
theorem c29:((Rows.topBytesRow.pinned==Rows.topBytesRow.pinnedBy))=true:=by kernel_rfl
theorem c30:((Rows.topBytesRow.veiled==(Tryz.f3.params.toList++Rows.topBytesSpec.plain.varTypes prog++Tryz.f3.resultTypes.toList).any (prog.veiledRec ·)))=true:=by kernel_rfl
theorem c31:(Rows.topBytesRow.veiledFits prog Tryz.f3.params.toList (Tryz.f3.params.toList++Rows.topBytesSpec.plain.varTypes prog++Tryz.f3.resultTypes.toList))=true:=by kernel_rfl
theorem and2 {a b:Bool} (h:a=true) (k:b=true):(a&&b)=true:=by rw[h,k];rfl
