/- Contracts of the functions that the law reaches, and plain laws; no conditions but those written at each. -/
import Derived.Test.YtlmllmonabafjaaGreatDoorMg1
import Derived.Test.YtlmllmonabafjaaGreatDoorCards
import Derived.JoinedCond
import Derived.Stop.Joined
namespace Go.Proofs.YtlmllmonabafjaaGreatDoor.topEnds
open Go.Value renaming bool->μ,slice->δ,pointer->π,agg->θ
open Go.IntKind renaming i64->ι,u8->υ,u16->φ,u32->ω,i32->χ,u64->ψ
open _root_.Go.Proofs.Tryz
set_option linter.unusedSimpArgs false
set_option maxHeartbeats 8000000
set_option linter.unusedVariables false
open Go.ChangeShapes Go.WideShapes Go.ChangeAt
set_option maxHeartbeats 8000000
set_option linter.unusedVariables false
theorem MR {a b:Bool} (h:a=true) (k:b=true):(a&&b)=true:=by rw[h,k];rfl
theorem k1:Rows.topEndsRow.wf (OpenSpec.ofChange (OpenSpec.ofChange Rows.topEndsSpec).bare)=true:=by kernel_rfl
theorem k2:laidOutB prog=true:=by kernel_rfl
theorem k3:mapsRowed prog=true:=by kernel_rfl
theorem k4:f6.params.all (prog.readableRec ·)=true:=by kernel_rfl
theorem k5:namedTie prog Rows.topEndsRow.named (OpenSpec.ofChange Rows.topEndsSpec).bare.vars=true:=by kernel_rfl
theorem k6:(Rows.topEndsRow.stops==[])=true:=by kernel_rfl
theorem k7:(prog.stops==[])=true:=by kernel_rfl
theorem k8:(Rows.topEndsRow.knobs==[])=true:=by kernel_rfl
theorem k9:(prog.stopKnobs==[])=true:=by kernel_rfl
theorem k10:(Rows.topEndsRow.inPlace==prog.inPlace 6)=true:=by kernel_rfl
theorem k11:(Rows.topEndsRow.unfollowed==prog.unfollowed 6)=true:=by kernel_rfl
theorem k12:(Rows.topEndsRow.recurses==prog.recurses 6)=true:=by kernel_rfl
theorem k13:(Rows.topEndsRow.named==prog.varsNamed 6)=true:=by kernel_rfl
theorem k14:(Rows.topEndsRow.maps==(f6.params.toList++(OpenSpec.ofChange Rows.topEndsSpec).bare.plain.varTypes prog).any (prog.mapsRec ·))=true:=by kernel_rfl
theorem k15:(Rows.topEndsRow.ifaces==(f6.params.toList++(OpenSpec.ofChange Rows.topEndsSpec).bare.plain.varTypes prog).any (prog.ifacesRec ·))=true:=by kernel_rfl
theorem k16:(Rows.topEndsRow.mapsOut==prog.mapsAmong f6.resultTypes.toList)=true:=by kernel_rfl
theorem k17:(Rows.topEndsRow.loops==(f6.params.toList++(OpenSpec.ofChange Rows.topEndsSpec).bare.plain.varTypes prog).any (prog.loopsFrom ·))=true:=by kernel_rfl
theorem k18:(Rows.topEndsRow.wideKeys==(f6.params.toList++(OpenSpec.ofChange Rows.topEndsSpec).bare.plain.varTypes prog++f6.resultTypes.toList).any (prog.wideKeysFrom ·))=true:=by kernel_rfl
theorem k19:(OpenSpec.ofChange Rows.topEndsSpec).bare.vars.all (prog.varReadable ·)=true:=by kernel_rfl
theorem k20:f6.resultTypes.all (λt=>prog.readableRec t&&decide (t<prog.types.size))=true:=by kernel_rfl
theorem k21:(Rows.topEndsRow.ifacesOut==f6.resultTypes.toList.any (prog.ifacesRec ·))=true:=by kernel_rfl
theorem k22:(Rows.topEndsRow.loopsOut==f6.resultTypes.toList.any (prog.loopsFrom ·))=true:=by kernel_rfl
theorem k23:(Rows.topEndsRow.plainKeys==prog.plainKeys)=true:=by kernel_rfl
theorem k24:Rows.topEndsRow.shortTexts.isNone=true:=by kernel_rfl
theorem k25:prog.stopsHeard=true:=by kernel_rfl
theorem k26:prog.mayEnter=true:=by kernel_rfl
theorem k27:(Rows.topEndsRow.lifted==prog.liftsFinal)=true:=by kernel_rfl
theorem k28:(prog.make==some Rows.topEndsRow.make)=true:=by kernel_rfl
theorem k29:(Rows.topEndsRow.kinds==(if Rows.topEndsRow.domain.isEmpty then [] else f6.params.toList.map λt=>match prog.underlying t with | some (.int k)=>some k | _=>none))=true:=by kernel_rfl
theorem k30:(Rows.topEndsRow.pinned==Rows.topEndsRow.pinnedBy)=true:=by kernel_rfl
theorem k31:(Rows.topEndsRow.veiled==(f6.params.toList++(OpenSpec.ofChange Rows.topEndsSpec).bare.plain.varTypes prog++f6.resultTypes.toList).any (prog.veiledRec ·))=true:=by kernel_rfl
theorem k32:Rows.topEndsRow.veiledFits prog f6.params.toList (f6.params.toList++(OpenSpec.ofChange Rows.topEndsSpec).bare.plain.varTypes prog++f6.resultTypes.toList)=true:=by kernel_rfl
set_option maxRecDepth 100000 in
theorem closed:joinedFacts prog 6 f6 (OpenSpec.ofChange Rows.topEndsSpec).bare Rows.topEndsRow=true:=MR (MR (MR (MR (MR (MR (MR (MR (MR (MR (MR (MR (MR (MR (MR (MR (MR (MR (MR (MR (MR (MR (MR (MR (MR (MR (MR (MR (MR (MR (MR (k1) k2) k3) k4) k5) k6) k7) k8) k9) k10) k11) k12) k13) k14) k15) k16) k17) k18) k19) k20) k21) k22) k23) k24) k25) k26) k27) k28) k29) k30) k31) k32
end Go.Proofs.YtlmllmonabafjaaGreatDoor.topEnds
