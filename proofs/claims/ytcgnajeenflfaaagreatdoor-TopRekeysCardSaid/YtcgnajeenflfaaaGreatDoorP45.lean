import Derived.JoinedOf
import Derived.Test.YtcgnajeenflfaaaGreatDoorRows
import Derived.Test.YtcgnajeenflfaaaGreatDoorP0
set_option maxRecDepth 100000
set_option maxHeartbeats 4000000
set_option linter.all false
open Go.Proofs.Tryz Go.RowKit
namespace Go.Proofs.YtcgnajeenflfaaaGreatDoor
namespace topRekeys
theorem c0:(Rows.topRekeysRow.wf (OpenSpec.ofChange Rows.topRekeysSpec))=true:=by kernel_rfl
theorem c1:(laidOutB prog)=true:=by kernel_rfl
theorem c2:(mapsRowed prog)=true:=by kernel_rfl
theorem c3:(Tryz.f4.params.all (prog.readableRec ·))=true:=by kernel_rfl
theorem c4:(namedTie prog Rows.topRekeysRow.named Rows.topRekeysSpec.vars)=true:=by kernel_rfl
theorem c5:((Rows.topRekeysRow.stops==[]))=true:=by kernel_rfl
theorem c6:((prog.stops==[]))=true:=by kernel_rfl
theorem c7:((Rows.topRekeysRow.knobs==[]))=true:=by kernel_rfl
theorem c8:((prog.stopKnobs==[]))=true:=by kernel_rfl
theorem c9:((Rows.topRekeysRow.inPlace==prog.inPlace 4))=true:=by kernel_rfl
theorem c10:((Rows.topRekeysRow.unfollowed==prog.unfollowed 4))=true:=by kernel_rfl
theorem c11:((Rows.topRekeysRow.recurses==prog.recurses 4))=true:=by kernel_rfl
theorem c12:((Rows.topRekeysRow.named==prog.varsNamed 4))=true:=by kernel_rfl
theorem c13:((Rows.topRekeysRow.maps==(Tryz.f4.params.toList++Rows.topRekeysSpec.plain.varTypes prog).any (prog.mapsRec ·)))=true:=by kernel_rfl
theorem c14:((Rows.topRekeysRow.ifaces==(Tryz.f4.params.toList++Rows.topRekeysSpec.plain.varTypes prog).any (prog.ifacesRec ·)))=true:=by kernel_rfl
theorem c15:((Rows.topRekeysRow.mapsOut==prog.mapsAmong Tryz.f4.resultTypes.toList))=true:=by kernel_rfl
theorem c16:((Rows.topRekeysRow.loops==(Tryz.f4.params.toList++Rows.topRekeysSpec.plain.varTypes prog).any (prog.loopsFrom ·)))=true:=by kernel_rfl
theorem c17:((Rows.topRekeysRow.wideKeys==(Tryz.f4.params.toList++Rows.topRekeysSpec.plain.varTypes prog++Tryz.f4.resultTypes.toList).any (prog.wideKeysFrom ·)))=true:=by kernel_rfl
theorem c18:(Rows.topRekeysSpec.vars.all (prog.varReadable ·))=true:=by kernel_rfl
theorem c19:(Tryz.f4.resultTypes.all (fun t=>prog.readableRec t&&decide (t<prog.types.size)))=true:=by kernel_rfl
theorem c20:((Rows.topRekeysRow.ifacesOut==Tryz.f4.resultTypes.toList.any (prog.ifacesRec ·)))=true:=by kernel_rfl
theorem c21:((Rows.topRekeysRow.loopsOut==Tryz.f4.resultTypes.toList.any (prog.loopsFrom ·)))=true:=by kernel_rfl
theorem c22:((Rows.topRekeysRow.plainKeys==prog.plainKeys))=true:=by kernel_rfl
theorem c23:(Rows.topRekeysRow.shortTexts.isNone)=true:=by kernel_rfl
theorem c24:(prog.stopsHeard)=true:=by kernel_rfl
theorem c25:(prog.mayEnter)=true:=by kernel_rfl
theorem c26:((Rows.topRekeysRow.lifted==prog.liftsFinal))=true:=by kernel_rfl
theorem c27:((prog.make==some Rows.topRekeysRow.make))=true:=by kernel_rfl
theorem c28:((Rows.topRekeysRow.kinds==(if Rows.topRekeysRow.domain.isEmpty then [] else Tryz.f4.params.toList.map fun t=>match prog.underlying t with | some (.int k)=>some k | _=>none)))=true:=by kernel_rfl
theorem c29:((Rows.topRekeysRow.pinned==Rows.topRekeysRow.pinnedBy))=true:=by kernel_rfl
theorem c30:((Rows.topRekeysRow.veiled==(Tryz.f4.params.toList++Rows.topRekeysSpec.plain.varTypes prog++Tryz.f4.resultTypes.toList).any (prog.veiledRec ·)))=true:=by kernel_rfl
theorem c31:(Rows.topRekeysRow.veiledFits prog Tryz.f4.params.toList (Tryz.f4.params.toList++Rows.topRekeysSpec.plain.varTypes prog++Tryz.f4.resultTypes.toList))=true:=by kernel_rfl
theorem iZ {a b:Bool} (h:a=true) (k:b=true):(a&&b)=true:=by rw[h,k];rfl
