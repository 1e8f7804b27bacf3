/- x -/
import Derived.Test.YtmgaiiffmheabaaGreatDoorMg1
import Derived.Test.YtmgaiiffmheabaaGreatDoorCards
import Derived.JoinedCond
import Derived.Stop.Joined
namespace Go.Proofs.YtmgaiiffmheabaaGreatDoor.scriptSpaces
open Option renaming some->ϊ,none->ϋ
open Bool renaming true->ό,false->ύ
open Go.Value renaming bool->μ,slice->δ,pointer->π,agg->θ
open Go.IntKind renaming i64->ι,u8->υ,u16->φ,u32->ω,i32->χ,u64->ψ
open _root_.Go.Proofs.Tryz
set_option linter.all false
set_option maxHeartbeats 8000000
open Rows renaming scriptSpacesRow->QqR,scriptSpacesSpec->QqS
open Go.ChangeShapes Go.WideShapes Go.ChangeAt
theorem V8 {a b:Bool} (h:a=ό) (k:b=ό):(a&&b)=ό:=by rw[h,k];rfl
theorem k1:QqR.wf (OpenSpec.ofChange (OpenSpec.ofChange QqS).bare)=ό:=by kernel_rfl
theorem k2:laidOutB prog=ό:=by kernel_rfl
theorem k3:mapsRowed prog=ό:=by kernel_rfl
theorem k4:f3.params.all (prog.readableRec ·)=ό:=by kernel_rfl
theorem k5:namedTie prog QqR.named (OpenSpec.ofChange QqS).bare.vars=ό:=by kernel_rfl
theorem k6:(QqR.stops==[])=ό:=by kernel_rfl
theorem k7:(prog.stops==[])=ό:=by kernel_rfl
theorem k8:(QqR.knobs==[])=ό:=by kernel_rfl
theorem k9:(prog.stopKnobs==[])=ό:=by kernel_rfl
theorem k10:(QqR.inPlace==prog.inPlace 3)=ό:=by kernel_rfl
theorem k11:(QqR.unfollowed==prog.unfollowed 3)=ό:=by kernel_rfl
theorem k12:(QqR.recurses==prog.recurses 3)=ό:=by kernel_rfl
theorem k13:(QqR.named==prog.varsNamed 3)=ό:=by kernel_rfl
theorem k14:(QqR.maps==(f3.params.toList++(OpenSpec.ofChange QqS).bare.plain.varTypes prog).any (prog.mapsRec ·))=ό:=by kernel_rfl
theorem k15:(QqR.ifaces==(f3.params.toList++(OpenSpec.ofChange QqS).bare.plain.varTypes prog).any (prog.ifacesRec ·))=ό:=by kernel_rfl
theorem k16:(QqR.mapsOut==prog.mapsAmong f3.resultTypes.toList)=ό:=by kernel_rfl
theorem k17:(QqR.loops==(f3.params.toList++(OpenSpec.ofChange QqS).bare.plain.varTypes prog).any (prog.loopsFrom ·))=ό:=by kernel_rfl
theorem k18:(QqR.wideKeys==(f3.params.toList++(OpenSpec.ofChange QqS).bare.plain.varTypes prog++f3.resultTypes.toList).any (prog.wideKeysFrom ·))=ό:=by kernel_rfl
theorem k19:(OpenSpec.ofChange QqS).bare.vars.all (prog.varReadable ·)=ό:=by kernel_rfl
theorem k20:f3.resultTypes.all (λt=>prog.readableRec t&&decide (t<prog.types.size))=ό:=by kernel_rfl
theorem k21:(QqR.ifacesOut==f3.resultTypes.toList.any (prog.ifacesRec ·))=ό:=by kernel_rfl
theorem k22:(QqR.loopsOut==f3.resultTypes.toList.any (prog.loopsFrom ·))=ό:=by kernel_rfl
theorem k23:(QqR.plainKeys==prog.plainKeys)=ό:=by kernel_rfl
theorem k24:QqR.shortTexts.isNone=ό:=by kernel_rfl
theorem k25:prog.stopsHeard=ό:=by kernel_rfl
theorem k26:prog.mayEnter=ό:=by kernel_rfl
theorem k27:(QqR.lifted==prog.liftsFinal)=ό:=by kernel_rfl
theorem k28:(prog.make==ϊ QqR.make)=ό:=by kernel_rfl
theorem k29:(QqR.kinds==(if QqR.domain.isEmpty then [] else f3.params.toList.map λt=>match prog.underlying t with | some (.int k)=>ϊ k | _=>ϋ))=ό:=by kernel_rfl
theorem k30:(QqR.pinned==QqR.pinnedBy)=ό:=by kernel_rfl
theorem k31:(QqR.veiled==(f3.params.toList++(OpenSpec.ofChange QqS).bare.plain.varTypes prog++f3.resultTypes.toList).any (prog.veiledRec ·))=ό:=by kernel_rfl
theorem k32:QqR.veiledFits prog f3.params.toList (f3.params.toList++(OpenSpec.ofChange QqS).bare.plain.varTypes prog++f3.resultTypes.toList)=ό:=by kernel_rfl
set_option maxRecDepth 100000 in
theorem closed:joinedFacts prog 3 f3 (OpenSpec.ofChange QqS).bare QqR=ό:=V8 (V8 (V8 (V8 (V8 (V8 (V8 (V8 (V8 (V8 (V8 (V8 (V8 (V8 (V8 (V8 (V8 (V8 (V8 (V8 (V8 (V8 (V8 (V8 (V8 (V8 (V8 (V8 (V8 (V8 (V8 (k1) k2) k3) k4) k5) k6) k7) k8) k9) k10) k11) k12) k13) k14) k15) k16) k17) k18) k19) k20) k21) k22) k23) k24) k25) k26) k27) k28) k29) k30) k31) k32
end Go.Proofs.YtmgaiiffmheabaaGreatDoor.scriptSpaces
