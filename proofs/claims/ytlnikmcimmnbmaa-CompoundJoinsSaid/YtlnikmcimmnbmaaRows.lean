/-
  No cell of these rows narrows 'for every input' (looked for: loops, veiled, ifaces, maps, wideKeys, modest, calm, conditions, laid).
  DERIVED. THE GIVEN ROWS OF THIS SEAT. 12 by the template 'for every input the law returns true; each argument reads behind the call as it read before'; 0 by the template 'total and deterministic' (their statements: YtlnikmcimmnbmaaTotals.lean).
  GIVEN WITH THE SEED: the statements are not yours to turn. If you find one false, say at which input.
  Laid BY PROGRAM, IN A SANDBOX (cutbox-rows.mjs): the forced cells as the released guide's own fill.sh prints them over the translation 2b5bec4aff8ca38f… (all of the seat's roots in one cut). By AI agents, Wed Nov 11 2026. No macro, syntax, notation, axiom, sorry.
-/
import Derived.Test.YtlnikmcimmnbmaaChecked
import GoSem.Claim
import GoSem.ClaimJoined
import GoSem.ClaimMapViews
import Derived.JoinedTies
import Derived.KernelRfl
namespace Go.Proofs.Ytlnikmcimmnbmaa
/- THE CELL 'sum', in the pinned program and in every row, IS THE sha256 OF THE DUMP (.gsa) THAT YtlnikmcimmnbmaaProg.lean LOADS. Nothing in Lean hashes anything: it is a label: what it is worth is what the hold of that sum in a sandbox is worth. -/
noncomputable def Try.pinned : Pinned := { name := "ytlnikmcimmnbmaa", sum := "2b5bec4aff8ca38f0cce3a2c42ef523f514fafa17a42604f55b50106dbb0c571", checked := Try.checked }
namespace Rows
def none {H : Type} : Left H := { results := [], args := [] }

/-- 'manifoldlaw08.ReportTells': WHATEVER THE INPUT: true; the input reads as it did. -/
def reportTellsSpec : ChangeSpec := { name := "reportTells", fn := fun _ => fun
  | [d1, d2] => { results := [.lit (.bool true)], args := [d1, d2] }
  | _ => none }
def reportTellsRow : OpenClaim := { program := "ytlnikmcimmnbmaa", sum := "2b5bec4aff8ca38f0cce3a2c42ef523f514fafa17a42604f55b50106dbb0c571", func := "manifold/manifoldlaw08.ReportTells", spec := "reportTells", unfollowed := true, recurses := true, apart := false }
def ReportTellsSaid : Prop := reportTellsRow.holds Try.pinned (OpenSpec.ofChange reportTellsSpec)

/-- ITS FALSE NEIGHBOUR: 'it returns false'. Refute it at one input. -/
def reportTellsWrong : ChangeSpec := { name := "reportTells", fn := fun _ => fun
  | [d1, d2] => { results := [.lit (.bool false)], args := [d1, d2] }
  | _ => none }
def ReportTellsWrongFalsely : Prop := reportTellsRow.holds Try.pinned (OpenSpec.ofChange reportTellsWrong)

/-- 'manifoldlaw04.HeadTells': WHATEVER THE INPUT: true; the input reads as it did. -/
def headTellsSpec : ChangeSpec := { name := "headTells", fn := fun _ => fun
  | [d1, d2] => { results := [.lit (.bool true)], args := [d1, d2] }
  | _ => none }
def headTellsRow : OpenClaim := { program := "ytlnikmcimmnbmaa", sum := "2b5bec4aff8ca38f0cce3a2c42ef523f514fafa17a42604f55b50106dbb0c571", func := "manifold/manifoldlaw04.HeadTells", spec := "headTells", unfollowed := true, recurses := true, apart := false }
def HeadTellsSaid : Prop := headTellsRow.holds Try.pinned (OpenSpec.ofChange headTellsSpec)

/-- ITS FALSE NEIGHBOUR: 'it returns false'. Refute it at one input. -/
def headTellsWrong : ChangeSpec := { name := "headTells", fn := fun _ => fun
  | [d1, d2] => { results := [.lit (.bool false)], args := [d1, d2] }
  | _ => none }
def HeadTellsWrongFalsely : Prop := headTellsRow.holds Try.pinned (OpenSpec.ofChange headTellsWrong)

/-- 'manifoldlaw04.HeadCuts': WHATEVER THE INPUT: true; the input reads as it did. -/
def headCutsSpec : ChangeSpec := { name := "headCuts", fn := fun _ => fun
  | [d1, d2] => { results := [.lit (.bool true)], args := [d1, d2] }
  | _ => none }
def headCutsRow : OpenClaim := { program := "ytlnikmcimmnbmaa", sum := "2b5bec4aff8ca38f0cce3a2c42ef523f514fafa17a42604f55b50106dbb0c571", func := "manifold/manifoldlaw04.HeadCuts", spec := "headCuts", unfollowed := true, recurses := true, apart := false }
def HeadCutsSaid : Prop := headCutsRow.holds Try.pinned (OpenSpec.ofChange headCutsSpec)

/-- ITS FALSE NEIGHBOUR: 'it returns false'. Refute it at one input. -/
def headCutsWrong : ChangeSpec := { name := "headCuts", fn := fun _ => fun
  | [d1, d2] => { results := [.lit (.bool false)], args := [d1, d2] }
  | _ => none }
def HeadCutsWrongFalsely : Prop := headCutsRow.holds Try.pinned (OpenSpec.ofChange headCutsWrong)

/-- 'manifoldlaw06.ProbeBegins': WHATEVER THE INPUT: true; the input reads as it did. -/
def probeBeginsSpec : ChangeSpec := { name := "probeBegins", fn := fun _ => fun
  | [d1, d2] => { results := [.lit (.bool true)], args := [d1, d2] }
  | _ => none }
def probeBeginsRow : OpenClaim := { program := "ytlnikmcimmnbmaa", sum := "2b5bec4aff8ca38f0cce3a2c42ef523f514fafa17a42604f55b50106dbb0c571", func := "manifold/manifoldlaw06.ProbeBegins", spec := "probeBegins", unfollowed := true, recurses := true, apart := false }
def ProbeBeginsSaid : Prop := probeBeginsRow.holds Try.pinned (OpenSpec.ofChange probeBeginsSpec)

/-- ITS FALSE NEIGHBOUR: 'it returns false'. Refute it at one input. -/
def probeBeginsWrong : ChangeSpec := { name := "probeBegins", fn := fun _ => fun
  | [d1, d2] => { results := [.lit (.bool false)], args := [d1, d2] }
  | _ => none }
def ProbeBeginsWrongFalsely : Prop := probeBeginsRow.holds Try.pinned (OpenSpec.ofChange probeBeginsWrong)

/-- 'manifoldlaw06.ProbeLoose': WHATEVER THE INPUT: true; the input reads as it did. -/
def probeLooseSpec : ChangeSpec := { name := "probeLoose", fn := fun _ => fun
  | [d] => { results := [.lit (.bool true)], args := [d] }
  | _ => none }
def probeLooseRow : OpenClaim := { program := "ytlnikmcimmnbmaa", sum := "2b5bec4aff8ca38f0cce3a2c42ef523f514fafa17a42604f55b50106dbb0c571", func := "manifold/manifoldlaw06.ProbeLoose", spec := "probeLoose", unfollowed := true, recurses := true, apart := false }
def ProbeLooseSaid : Prop := probeLooseRow.holds Try.pinned (OpenSpec.ofChange probeLooseSpec)

/-- ITS FALSE NEIGHBOUR: 'it returns false'. Refute it at one input. -/
def probeLooseWrong : ChangeSpec := { name := "probeLoose", fn := fun _ => fun
  | [d] => { results := [.lit (.bool false)], args := [d] }
  | _ => none }
def ProbeLooseWrongFalsely : Prop := probeLooseRow.holds Try.pinned (OpenSpec.ofChange probeLooseWrong)

/-- 'manifoldlaw09.FeedBack': WHATEVER THE INPUT: true; the input reads as it did. -/
def feedBackSpec : ChangeSpec := { name := "feedBack", fn := fun _ => fun
  | [d1, d2, d3] => { results := [.lit (.bool true)], args := [d1, d2, d3] }
  | _ => none }
def feedBackRow : OpenClaim := { program := "ytlnikmcimmnbmaa", sum := "2b5bec4aff8ca38f0cce3a2c42ef523f514fafa17a42604f55b50106dbb0c571", func := "manifold/manifoldlaw09.FeedBack", spec := "feedBack", unfollowed := true, recurses := true, apart := false }
def FeedBackSaid : Prop := feedBackRow.holds Try.pinned (OpenSpec.ofChange feedBackSpec)

/-- ITS FALSE NEIGHBOUR: 'it returns false'. Refute it at one input. -/
def feedBackWrong : ChangeSpec := { name := "feedBack", fn := fun _ => fun
  | [d1, d2, d3] => { results := [.lit (.bool false)], args := [d1, d2, d3] }
  | _ => none }
def FeedBackWrongFalsely : Prop := feedBackRow.holds Try.pinned (OpenSpec.ofChange feedBackWrong)

/-- 'manifoldlaw09.FeedPairs': WHATEVER THE INPUT: true; the input reads as it did. -/
def feedPairsSpec : ChangeSpec := { name := "feedPairs", fn := fun _ => fun
  | [d] => { results := [.lit (.bool true)], args := [d] }
  | _ => none }
def feedPairsRow : OpenClaim := { program := "ytlnikmcimmnbmaa", sum := "2b5bec4aff8ca38f0cce3a2c42ef523f514fafa17a42604f55b50106dbb0c571", func := "manifold/manifoldlaw09.FeedPairs", spec := "feedPairs", unfollowed := true, recurses := true, apart := false }
def FeedPairsSaid : Prop := feedPairsRow.holds Try.pinned (OpenSpec.ofChange feedPairsSpec)

/-- ITS FALSE NEIGHBOUR: 'it returns false'. Refute it at one input. -/
def feedPairsWrong : ChangeSpec := { name := "feedPairs", fn := fun _ => fun
  | [d] => { results := [.lit (.bool false)], args := [d] }
  | _ => none }
def FeedPairsWrongFalsely : Prop := feedPairsRow.holds Try.pinned (OpenSpec.ofChange feedPairsWrong)

/-- 'manifoldlaw12.JitterRises': WHATEVER THE INPUT: true; the input reads as it did. -/
def jitterRisesSpec : ChangeSpec := { name := "jitterRises", fn := fun _ => fun
  | [d1, d2, d3] => { results := [.lit (.bool true)], args := [d1, d2, d3] }
  | _ => none }
def jitterRisesRow : OpenClaim := { program := "ytlnikmcimmnbmaa", sum := "2b5bec4aff8ca38f0cce3a2c42ef523f514fafa17a42604f55b50106dbb0c571", func := "manifold/manifoldlaw12.JitterRises", spec := "jitterRises", inPlace := ["slices.overlaps[manifold/jitter.held[int]]"], unfollowed := true, recurses := true, apart := false }
def JitterRisesSaid : Prop := jitterRisesRow.holds Try.pinned (OpenSpec.ofChange jitterRisesSpec)

/-- ITS FALSE NEIGHBOUR: 'it returns false'. Refute it at one input. -/
def jitterRisesWrong : ChangeSpec := { name := "jitterRises", fn := fun _ => fun
  | [d1, d2, d3] => { results := [.lit (.bool false)], args := [d1, d2, d3] }
  | _ => none }
def JitterRisesWrongFalsely : Prop := jitterRisesRow.holds Try.pinned (OpenSpec.ofChange jitterRisesWrong)

/-- 'manifoldlaw12.JitterWaits': WHATEVER THE INPUT: true; the input reads as it did. -/
def jitterWaitsSpec : ChangeSpec := { name := "jitterWaits", fn := fun _ => fun
  | [d1, d2, d3, d4] => { results := [.lit (.bool true)], args := [d1, d2, d3, d4] }
  | _ => none }
def jitterWaitsRow : OpenClaim := { program := "ytlnikmcimmnbmaa", sum := "2b5bec4aff8ca38f0cce3a2c42ef523f514fafa17a42604f55b50106dbb0c571", func := "manifold/manifoldlaw12.JitterWaits", spec := "jitterWaits", inPlace := ["slices.overlaps[manifold/jitter.held[int]]"], unfollowed := true, recurses := true, apart := false }
def JitterWaitsSaid : Prop := jitterWaitsRow.holds Try.pinned (OpenSpec.ofChange jitterWaitsSpec)

/-- ITS FALSE NEIGHBOUR: 'it returns false'. Refute it at one input. -/
def jitterWaitsWrong : ChangeSpec := { name := "jitterWaits", fn := fun _ => fun
  | [d1, d2, d3, d4] => { results := [.lit (.bool false)], args := [d1, d2, d3, d4] }
  | _ => none }
def JitterWaitsWrongFalsely : Prop := jitterWaitsRow.holds Try.pinned (OpenSpec.ofChange jitterWaitsWrong)

/-- 'manifoldlaw12.JitterOrders': WHATEVER THE INPUT: true; the input reads as it did. -/
def jitterOrdersSpec : ChangeSpec := { name := "jitterOrders", fn := fun _ => fun
  | [d1, d2, d3, d4] => { results := [.lit (.bool true)], args := [d1, d2, d3, d4] }
  | _ => none }
def jitterOrdersRow : OpenClaim := { program := "ytlnikmcimmnbmaa", sum := "2b5bec4aff8ca38f0cce3a2c42ef523f514fafa17a42604f55b50106dbb0c571", func := "manifold/manifoldlaw12.JitterOrders", spec := "jitterOrders", inPlace := ["slices.overlaps[manifold/jitter.held[int]]"], unfollowed := true, recurses := true, apart := false }
def JitterOrdersSaid : Prop := jitterOrdersRow.holds Try.pinned (OpenSpec.ofChange jitterOrdersSpec)

/-- ITS FALSE NEIGHBOUR: 'it returns false'. Refute it at one input. -/
def jitterOrdersWrong : ChangeSpec := { name := "jitterOrders", fn := fun _ => fun
  | [d1, d2, d3, d4] => { results := [.lit (.bool false)], args := [d1, d2, d3, d4] }
  | _ => none }
def JitterOrdersWrongFalsely : Prop := jitterOrdersRow.holds Try.pinned (OpenSpec.ofChange jitterOrdersWrong)

/-- 'manifoldlaw10.CompoundBack': WHATEVER THE INPUT: true; the input reads as it did. -/
def compoundBackSpec : ChangeSpec := { name := "compoundBack", fn := fun _ => fun
  | [d1, d2, d3] => { results := [.lit (.bool true)], args := [d1, d2, d3] }
  | _ => none }
def compoundBackRow : OpenClaim := { program := "ytlnikmcimmnbmaa", sum := "2b5bec4aff8ca38f0cce3a2c42ef523f514fafa17a42604f55b50106dbb0c571", func := "manifold/manifoldlaw10.CompoundBack", spec := "compoundBack", unfollowed := true, recurses := true, apart := false }
def CompoundBackSaid : Prop := compoundBackRow.holds Try.pinned (OpenSpec.ofChange compoundBackSpec)

/-- ITS FALSE NEIGHBOUR: 'it returns false'. Refute it at one input. -/
def compoundBackWrong : ChangeSpec := { name := "compoundBack", fn := fun _ => fun
  | [d1, d2, d3] => { results := [.lit (.bool false)], args := [d1, d2, d3] }
  | _ => none }
def CompoundBackWrongFalsely : Prop := compoundBackRow.holds Try.pinned (OpenSpec.ofChange compoundBackWrong)

/-- 'manifoldlaw10.CompoundJoins': WHATEVER THE INPUT: true; the input reads as it did. -/
def compoundJoinsSpec : ChangeSpec := { name := "compoundJoins", fn := fun _ => fun
  | [d1, d2, d3] => { results := [.lit (.bool true)], args := [d1, d2, d3] }
  | _ => none }
def compoundJoinsRow : OpenClaim := { program := "ytlnikmcimmnbmaa", sum := "2b5bec4aff8ca38f0cce3a2c42ef523f514fafa17a42604f55b50106dbb0c571", func := "manifold/manifoldlaw10.CompoundJoins", spec := "compoundJoins", unfollowed := true, recurses := true, apart := false }
def CompoundJoinsSaid : Prop := compoundJoinsRow.holds Try.pinned (OpenSpec.ofChange compoundJoinsSpec)

/-- ITS FALSE NEIGHBOUR: 'it returns false'. Refute it at one input. -/
def compoundJoinsWrong : ChangeSpec := { name := "compoundJoins", fn := fun _ => fun
  | [d1, d2, d3] => { results := [.lit (.bool false)], args := [d1, d2, d3] }
  | _ => none }
def CompoundJoinsWrongFalsely : Prop := compoundJoinsRow.holds Try.pinned (OpenSpec.ofChange compoundJoinsWrong)

/- THE SECOND FORM. 'bulk': how many values and letters a reading holds, each counted each time it is reached (what is shared counts as often as it is met; a slice's spare places count too). A statement '..UptoSaid' is the law's where the arguments, and the package variables that the reading takes, are together of bulk at most 1048576: NARROWER than '..Said'. Prove '..Said' where nothing that the law and all that it calls make is longer than what came in: it says more and counts as full. Else prove '..UptoSaid'. A law counts once. -/
mutual
def uptoBulk {H : Type} : DataW H → Nat
  | .lit (.string bytes) => bytes.length + 1
  | .lit _ => 1
  | .nil => 1
  | .ptr d => uptoBulk d + 1
  | .slice elems spare => uptoBulkAll elems + uptoBulkAll spare + 1
  | .agg parts => uptoBulkAll parts + 1
  | .iface _ d => uptoBulk d + 1
  | .map entries => uptoBulkEntries entries + 1
  | .held _ => 1
def uptoBulkAll {H : Type} : List (DataW H) → Nat
  | [] => 0
  | d :: r => uptoBulk d + uptoBulkAll r
def uptoBulkEntries {H : Type} : List (Lit × DataW H) → Nat
  | [] => 0
  | x :: r => uptoBulkEntry x + uptoBulkEntries r
def uptoBulkEntry {H : Type} : Lit × DataW H → Nat
  | (.string bytes, d) => bytes.length + uptoBulk d + 1
  | (_, d) => uptoBulk d + 1
 end
def uptoSmall : (H : Type) → List (DataW H) → Bool := fun _ ds => decide (uptoBulkAll ds ≤ 1048576)
def OpenSpec.upto (s : _root_.Go.ChangeSpec) : _root_.Go.OpenSpec := { _root_.Go.OpenSpec.ofChange s with cond := some uptoSmall }

/-- 'manifoldlaw08.ReportTells', WHERE WHAT IT READS IS OF BULK AT MOST 1048576: true; the input reads as it did. -/
def reportTellsUptoRow : OpenClaim := { program := "ytlnikmcimmnbmaa", sum := "2b5bec4aff8ca38f0cce3a2c42ef523f514fafa17a42604f55b50106dbb0c571", func := "manifold/manifoldlaw08.ReportTells", spec := "reportTells", unfollowed := true, recurses := true, apart := false, narrowed := true }
def ReportTellsUptoSaid : Prop := reportTellsUptoRow.holds Try.pinned (OpenSpec.upto reportTellsSpec)

/-- 'manifoldlaw04.HeadTells', WHERE WHAT IT READS IS OF BULK AT MOST 1048576: true; the input reads as it did. -/
def headTellsUptoRow : OpenClaim := { program := "ytlnikmcimmnbmaa", sum := "2b5bec4aff8ca38f0cce3a2c42ef523f514fafa17a42604f55b50106dbb0c571", func := "manifold/manifoldlaw04.HeadTells", spec := "headTells", unfollowed := true, recurses := true, apart := false, narrowed := true }
def HeadTellsUptoSaid : Prop := headTellsUptoRow.holds Try.pinned (OpenSpec.upto headTellsSpec)

/-- 'manifoldlaw04.HeadCuts', WHERE WHAT IT READS IS OF BULK AT MOST 1048576: true; the input reads as it did. -/
def headCutsUptoRow : OpenClaim := { program := "ytlnikmcimmnbmaa", sum := "2b5bec4aff8ca38f0cce3a2c42ef523f514fafa17a42604f55b50106dbb0c571", func := "manifold/manifoldlaw04.HeadCuts", spec := "headCuts", unfollowed := true, recurses := true, apart := false, narrowed := true }
def HeadCutsUptoSaid : Prop := headCutsUptoRow.holds Try.pinned (OpenSpec.upto headCutsSpec)

/-- 'manifoldlaw06.ProbeBegins', WHERE WHAT IT READS IS OF BULK AT MOST 1048576: true; the input reads as it did. -/
def probeBeginsUptoRow : OpenClaim := { program := "ytlnikmcimmnbmaa", sum := "2b5bec4aff8ca38f0cce3a2c42ef523f514fafa17a42604f55b50106dbb0c571", func := "manifold/manifoldlaw06.ProbeBegins", spec := "probeBegins", unfollowed := true, recurses := true, apart := false, narrowed := true }
def ProbeBeginsUptoSaid : Prop := probeBeginsUptoRow.holds Try.pinned (OpenSpec.upto probeBeginsSpec)

/-- 'manifoldlaw06.ProbeLoose', WHERE WHAT IT READS IS OF BULK AT MOST 1048576: true; the input reads as it did. -/
def probeLooseUptoRow : OpenClaim := { program := "ytlnikmcimmnbmaa", sum := "2b5bec4aff8ca38f0cce3a2c42ef523f514fafa17a42604f55b50106dbb0c571", func := "manifold/manifoldlaw06.ProbeLoose", spec := "probeLoose", unfollowed := true, recurses := true, apart := false, narrowed := true }
def ProbeLooseUptoSaid : Prop := probeLooseUptoRow.holds Try.pinned (OpenSpec.upto probeLooseSpec)

/-- 'manifoldlaw09.FeedBack', WHERE WHAT IT READS IS OF BULK AT MOST 1048576: true; the input reads as it did. -/
def feedBackUptoRow : OpenClaim := { program := "ytlnikmcimmnbmaa", sum := "2b5bec4aff8ca38f0cce3a2c42ef523f514fafa17a42604f55b50106dbb0c571", func := "manifold/manifoldlaw09.FeedBack", spec := "feedBack", unfollowed := true, recurses := true, apart := false, narrowed := true }
def FeedBackUptoSaid : Prop := feedBackUptoRow.holds Try.pinned (OpenSpec.upto feedBackSpec)

/-- 'manifoldlaw09.FeedPairs', WHERE WHAT IT READS IS OF BULK AT MOST 1048576: true; the input reads as it did. -/
def feedPairsUptoRow : OpenClaim := { program := "ytlnikmcimmnbmaa", sum := "2b5bec4aff8ca38f0cce3a2c42ef523f514fafa17a42604f55b50106dbb0c571", func := "manifold/manifoldlaw09.FeedPairs", spec := "feedPairs", unfollowed := true, recurses := true, apart := false, narrowed := true }
def FeedPairsUptoSaid : Prop := feedPairsUptoRow.holds Try.pinned (OpenSpec.upto feedPairsSpec)

/-- 'manifoldlaw12.JitterRises', WHERE WHAT IT READS IS OF BULK AT MOST 1048576: true; the input reads as it did. -/
def jitterRisesUptoRow : OpenClaim := { program := "ytlnikmcimmnbmaa", sum := "2b5bec4aff8ca38f0cce3a2c42ef523f514fafa17a42604f55b50106dbb0c571", func := "manifold/manifoldlaw12.JitterRises", spec := "jitterRises", inPlace := ["slices.overlaps[manifold/jitter.held[int]]"], unfollowed := true, recurses := true, apart := false, narrowed := true }
def JitterRisesUptoSaid : Prop := jitterRisesUptoRow.holds Try.pinned (OpenSpec.upto jitterRisesSpec)

/-- 'manifoldlaw12.JitterWaits', WHERE WHAT IT READS IS OF BULK AT MOST 1048576: true; the input reads as it did. -/
def jitterWaitsUptoRow : OpenClaim := { program := "ytlnikmcimmnbmaa", sum := "2b5bec4aff8ca38f0cce3a2c42ef523f514fafa17a42604f55b50106dbb0c571", func := "manifold/manifoldlaw12.JitterWaits", spec := "jitterWaits", inPlace := ["slices.overlaps[manifold/jitter.held[int]]"], unfollowed := true, recurses := true, apart := false, narrowed := true }
def JitterWaitsUptoSaid : Prop := jitterWaitsUptoRow.holds Try.pinned (OpenSpec.upto jitterWaitsSpec)

/-- 'manifoldlaw12.JitterOrders', WHERE WHAT IT READS IS OF BULK AT MOST 1048576: true; the input reads as it did. -/
def jitterOrdersUptoRow : OpenClaim := { program := "ytlnikmcimmnbmaa", sum := "2b5bec4aff8ca38f0cce3a2c42ef523f514fafa17a42604f55b50106dbb0c571", func := "manifold/manifoldlaw12.JitterOrders", spec := "jitterOrders", inPlace := ["slices.overlaps[manifold/jitter.held[int]]"], unfollowed := true, recurses := true, apart := false, narrowed := true }
def JitterOrdersUptoSaid : Prop := jitterOrdersUptoRow.holds Try.pinned (OpenSpec.upto jitterOrdersSpec)

/-- 'manifoldlaw10.CompoundBack', WHERE WHAT IT READS IS OF BULK AT MOST 1048576: true; the input reads as it did. -/
def compoundBackUptoRow : OpenClaim := { program := "ytlnikmcimmnbmaa", sum := "2b5bec4aff8ca38f0cce3a2c42ef523f514fafa17a42604f55b50106dbb0c571", func := "manifold/manifoldlaw10.CompoundBack", spec := "compoundBack", unfollowed := true, recurses := true, apart := false, narrowed := true }
def CompoundBackUptoSaid : Prop := compoundBackUptoRow.holds Try.pinned (OpenSpec.upto compoundBackSpec)

/-- 'manifoldlaw10.CompoundJoins', WHERE WHAT IT READS IS OF BULK AT MOST 1048576: true; the input reads as it did. -/
def compoundJoinsUptoRow : OpenClaim := { program := "ytlnikmcimmnbmaa", sum := "2b5bec4aff8ca38f0cce3a2c42ef523f514fafa17a42604f55b50106dbb0c571", func := "manifold/manifoldlaw10.CompoundJoins", spec := "compoundJoins", unfollowed := true, recurses := true, apart := false, narrowed := true }
def CompoundJoinsUptoSaid : Prop := compoundJoinsUptoRow.holds Try.pinned (OpenSpec.upto compoundJoinsSpec)

end Rows
end Go.Proofs.Ytlnikmcimmnbmaa
