/- Contracts and plain laws. -/
import Derived.Test.YtlmllmonabafjaaGreatDoorMg1
import Derived.Test.YtlmllmonabafjaaGreatDoorCards
import Derived.JoinedCond
import Derived.Stop.Joined
namespace Go.Proofs.YtlmllmonabafjaaGreatDoor.topDrains
open Go.Value renaming bool->μ,slice->δ,pointer->π,agg->θ
open Go.IntKind renaming i64->ι,u8->υ,u16->φ,u32->ω,i32->χ,u64->ψ
open _root_.Go.Proofs.Tryz
set_option linter.unusedSimpArgs false
set_option maxHeartbeats 8000000
set_option linter.unusedVariables false
open Go.ChangeShapes Go.WideShapes Go.ChangeAt
set_option maxHeartbeats 8000000
set_option linter.unusedVariables false
theorem jB {a b:Bool} (h:a=true) (k:b=true):(a&&b)=true:=by rw[h,k];rfl
theorem k1:Rows.topDrainsRow.wf (OpenSpec.ofChange (OpenSpec.ofChange Rows.topDrainsSpec).bare)=true:=by kernel_rfl
theorem k2:laidOutB prog=true:=by kernel_rfl
theorem k3:mapsRowed prog=true:=by kernel_rfl
theorem k4:f5.params.all (prog.readableRec ·)=true:=by kernel_rfl
theorem k5:namedTie prog Rows.topDrainsRow.named (OpenSpec.ofChange Rows.topDrainsSpec).bare.vars=true:=by kernel_rfl
theorem k6:(Rows.topDrainsRow.stops==[])=true:=by kernel_rfl
theorem k7:(prog.stops==[])=true:=by kernel_rfl
theorem k8:(Rows.topDrainsRow.knobs==[])=true:=by kernel_rfl
theorem k9:(prog.stopKnobs==[])=true:=by kernel_rfl
theorem k10:(Rows.topDrainsRow.inPlace==prog.inPlace 5)=true:=by kernel_rfl
theorem k11:(Rows.topDrainsRow.unfollowed==prog.unfollowed 5)=true:=by kernel_rfl
theorem k12:(Rows.topDrainsRow.recurses==prog.recurses 5)=true:=by kernel_rfl
theorem k13:(Rows.topDrainsRow.named==prog.varsNamed 5)=true:=by kernel_rfl
theorem k14:(Rows.topDrainsRow.maps==(f5.params.toList++(OpenSpec.ofChange Rows.topDrainsSpec).bare.plain.varTypes prog).any (prog.mapsRec ·))=true:=by kernel_rfl
theorem k15:(Rows.topDrainsRow.ifaces==(f5.params.toList++(OpenSpec.ofChange Rows.topDrainsSpec).bare.plain.varTypes prog).any (prog.ifacesRec ·))=true:=by kernel_rfl
theorem k16:(Rows.topDrainsRow.mapsOut==prog.mapsAmong f5.resultTypes.toList)=true:=by kernel_rfl
theorem k17:(Rows.topDrainsRow.loops==(f5.params.toList++(OpenSpec.ofChange Rows.topDrainsSpec).bare.plain.varTypes prog).any (prog.loopsFrom ·))=true:=by kernel_rfl
theorem k18:(Rows.topDrainsRow.wideKeys==(f5.params.toList++(OpenSpec.ofChange Rows.topDrainsSpec).bare.plain.varTypes prog++f5.resultTypes.toList).any (prog.wideKeysFrom ·))=true:=by kernel_rfl
theorem k19:(OpenSpec.ofChange Rows.topDrainsSpec).bare.vars.all (prog.varReadable ·)=true:=by kernel_rfl
theorem k20:f5.resultTypes.all (λt=>prog.readableRec t&&decide (t<prog.types.size))=true:=by kernel_rfl
theorem k21:(Rows.topDrainsRow.ifacesOut==f5.resultTypes.toList.any (prog.ifacesRec ·))=true:=by kernel_rfl
theorem k22:(Rows.topDrainsRow.loopsOut==f5.resultTypes.toList.any (prog.loopsFrom ·))=true:=by kernel_rfl
theorem k23:(Rows.topDrainsRow.plainKeys==prog.plainKeys)=true:=by kernel_rfl
theorem k24:Rows.topDrainsRow.shortTexts.isNone=true:=by kernel_rfl
theorem k25:prog.stopsHeard=true:=by kernel_rfl
theorem k26:prog.mayEnter=true:=by kernel_rfl
theorem k27:(Rows.topDrainsRow.lifted==prog.liftsFinal)=true:=by kernel_rfl
theorem k28:(prog.make==some Rows.topDrainsRow.make)=true:=by kernel_rfl
theorem k29:(Rows.topDrainsRow.kinds==(if Rows.topDrainsRow.domain.isEmpty then [] else f5.params.toList.map λt=>match prog.underlying t with | some (.int k)=>some k | _=>none))=true:=by kernel_rfl
theorem k30:(Rows.topDrainsRow.pinned==Rows.topDrainsRow.pinnedBy)=true:=by kernel_rfl
theorem k31:(Rows.topDrainsRow.veiled==(f5.params.toList++(OpenSpec.ofChange Rows.topDrainsSpec).bare.plain.varTypes prog++f5.resultTypes.toList).any (prog.veiledRec ·))=true:=by kernel_rfl
theorem k32:Rows.topDrainsRow.veiledFits prog f5.params.toList (f5.params.toList++(OpenSpec.ofChange Rows.topDrainsSpec).bare.plain.varTypes prog++f5.resultTypes.toList)=true:=by kernel_rfl
set_option maxRecDepth 100000 in
theorem closed:joinedFacts prog 5 f5 (OpenSpec.ofChange Rows.topDrainsSpec).bare Rows.topDrainsRow=true:=jB (jB (jB (jB (jB (jB (jB (jB (jB (jB (jB (jB (jB (jB (jB (jB (jB (jB (jB (jB (jB (jB (jB (jB (jB (jB (jB (jB (jB (jB (jB (k1) k2) k3) k4) k5) k6) k7) k8) k9) k10) k11) k12) k13) k14) k15) k16) k17) k18) k19) k20) k21) k22) k23) k24) k25) k26) k27) k28) k29) k30) k31) k32
end Go.Proofs.YtlmllmonabafjaaGreatDoor.topDrains
