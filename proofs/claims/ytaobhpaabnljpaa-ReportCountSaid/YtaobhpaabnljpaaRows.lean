/-
  No cell of these rows narrows 'for every input' (looked for: loops, veiled, ifaces, maps, wideKeys, modest, calm, conditions, laid).
  DERIVED. THE GIVEN ROWS OF THIS SEAT. 11 by the template 'for every input the law returns true; each argument reads behind the call as it read before'; 0 by the template 'total and deterministic' (their statements: YtaobhpaabnljpaaTotals.lean).
  GIVEN WITH THE SEED: the statements are not yours to turn. If you find one false, say at which input.
  Laid BY PROGRAM, IN A SANDBOX (cutbox-rows.mjs): the forced cells as the released guide's own fill.sh prints them over the translation 709f19219df1bebb… (all of the seat's roots in one cut). By AI agents, Wed Nov 11 2026. No macro, syntax, notation, axiom, sorry.
-/
import Derived.Test.YtaobhpaabnljpaaChecked
import GoSem.Claim
import GoSem.ClaimJoined
import GoSem.ClaimMapViews
import Derived.JoinedTies
import Derived.KernelRfl
namespace Go.Proofs.Ytaobhpaabnljpaa
/- THE CELL 'sum', in the pinned program and in every row, IS THE sha256 OF THE DUMP (.gsa) THAT YtaobhpaabnljpaaProg.lean LOADS. Nothing in Lean hashes anything: it is a label: what it is worth is what the hold of that sum in a sandbox is worth. -/
noncomputable def Try.pinned : Pinned := { name := "ytaobhpaabnljpaa", sum := "709f19219df1bebbbca923a6217a2e5390bd678e5b369743826b3c172f4ce645", checked := Try.checked }
namespace Rows
def none {H : Type} : Left H := { results := [], args := [] }

/-- 'manifoldlaw13.RingSums': WHATEVER THE INPUT: true; the input reads as it did. -/
def ringSumsSpec : ChangeSpec := { name := "ringSums", fn := fun _ => fun
  | [d1, d2] => { results := [.lit (.bool true)], args := [d1, d2] }
  | _ => none }
def ringSumsRow : OpenClaim := { program := "ytaobhpaabnljpaa", sum := "709f19219df1bebbbca923a6217a2e5390bd678e5b369743826b3c172f4ce645", func := "manifold/manifoldlaw13.RingSums", spec := "ringSums", apart := false }
def RingSumsSaid : Prop := ringSumsRow.holds Try.pinned (OpenSpec.ofChange ringSumsSpec)

/-- ITS FALSE NEIGHBOUR: 'it returns false'. Refute it at one input. -/
def ringSumsWrong : ChangeSpec := { name := "ringSums", fn := fun _ => fun
  | [d1, d2] => { results := [.lit (.bool false)], args := [d1, d2] }
  | _ => none }
def RingSumsWrongFalsely : Prop := ringSumsRow.holds Try.pinned (OpenSpec.ofChange ringSumsWrong)

/-- 'manifoldlaw13.RingOrders': WHATEVER THE INPUT: true; the input reads as it did. -/
def ringOrdersSpec : ChangeSpec := { name := "ringOrders", fn := fun _ => fun
  | [d1, d2] => { results := [.lit (.bool true)], args := [d1, d2] }
  | _ => none }
def ringOrdersRow : OpenClaim := { program := "ytaobhpaabnljpaa", sum := "709f19219df1bebbbca923a6217a2e5390bd678e5b369743826b3c172f4ce645", func := "manifold/manifoldlaw13.RingOrders", spec := "ringOrders", apart := false }
def RingOrdersSaid : Prop := ringOrdersRow.holds Try.pinned (OpenSpec.ofChange ringOrdersSpec)

/-- ITS FALSE NEIGHBOUR: 'it returns false'. Refute it at one input. -/
def ringOrdersWrong : ChangeSpec := { name := "ringOrders", fn := fun _ => fun
  | [d1, d2] => { results := [.lit (.bool false)], args := [d1, d2] }
  | _ => none }
def RingOrdersWrongFalsely : Prop := ringOrdersRow.holds Try.pinned (OpenSpec.ofChange ringOrdersWrong)

/-- 'manifoldlaw03.WireStays': WHATEVER THE INPUT: true; the input reads as it did. -/
def wireStaysSpec : ChangeSpec := { name := "wireStays", fn := fun _ => fun
  | [d1, d2, d3] => { results := [.lit (.bool true)], args := [d1, d2, d3] }
  | _ => none }
def wireStaysRow : OpenClaim := { program := "ytaobhpaabnljpaa", sum := "709f19219df1bebbbca923a6217a2e5390bd678e5b369743826b3c172f4ce645", func := "manifold/manifoldlaw03.WireStays", spec := "wireStays", unfollowed := true, recurses := true, apart := false }
def WireStaysSaid : Prop := wireStaysRow.holds Try.pinned (OpenSpec.ofChange wireStaysSpec)

/-- ITS FALSE NEIGHBOUR: 'it returns false'. Refute it at one input. -/
def wireStaysWrong : ChangeSpec := { name := "wireStays", fn := fun _ => fun
  | [d1, d2, d3] => { results := [.lit (.bool false)], args := [d1, d2, d3] }
  | _ => none }
def WireStaysWrongFalsely : Prop := wireStaysRow.holds Try.pinned (OpenSpec.ofChange wireStaysWrong)

/-- 'manifoldlaw03.WireWrites': WHATEVER THE INPUT: true; the input reads as it did. -/
def wireWritesSpec : ChangeSpec := { name := "wireWrites", fn := fun _ => fun
  | [d] => { results := [.lit (.bool true)], args := [d] }
  | _ => none }
def wireWritesRow : OpenClaim := { program := "ytaobhpaabnljpaa", sum := "709f19219df1bebbbca923a6217a2e5390bd678e5b369743826b3c172f4ce645", func := "manifold/manifoldlaw03.WireWrites", spec := "wireWrites", unfollowed := true, recurses := true, apart := false }
def WireWritesSaid : Prop := wireWritesRow.holds Try.pinned (OpenSpec.ofChange wireWritesSpec)

/-- ITS FALSE NEIGHBOUR: 'it returns false'. Refute it at one input. -/
def wireWritesWrong : ChangeSpec := { name := "wireWrites", fn := fun _ => fun
  | [d] => { results := [.lit (.bool false)], args := [d] }
  | _ => none }
def WireWritesWrongFalsely : Prop := wireWritesRow.holds Try.pinned (OpenSpec.ofChange wireWritesWrong)

/-- 'manifoldlaw03.WireBack': WHATEVER THE INPUT: true; the input reads as it did. -/
def wireBackSpec : ChangeSpec := { name := "wireBack", fn := fun _ => fun
  | [d1, d2] => { results := [.lit (.bool true)], args := [d1, d2] }
  | _ => none }
def wireBackRow : OpenClaim := { program := "ytaobhpaabnljpaa", sum := "709f19219df1bebbbca923a6217a2e5390bd678e5b369743826b3c172f4ce645", func := "manifold/manifoldlaw03.WireBack", spec := "wireBack", unfollowed := true, recurses := true, apart := false }
def WireBackSaid : Prop := wireBackRow.holds Try.pinned (OpenSpec.ofChange wireBackSpec)

/-- ITS FALSE NEIGHBOUR: 'it returns false'. Refute it at one input. -/
def wireBackWrong : ChangeSpec := { name := "wireBack", fn := fun _ => fun
  | [d1, d2] => { results := [.lit (.bool false)], args := [d1, d2] }
  | _ => none }
def WireBackWrongFalsely : Prop := wireBackRow.holds Try.pinned (OpenSpec.ofChange wireBackWrong)

/-- 'manifoldlaw07.ChunkBack': WHATEVER THE INPUT: true; the input reads as it did. -/
def chunkBackSpec : ChangeSpec := { name := "chunkBack", fn := fun _ => fun
  | [d1, d2, d3] => { results := [.lit (.bool true)], args := [d1, d2, d3] }
  | _ => none }
def chunkBackRow : OpenClaim := { program := "ytaobhpaabnljpaa", sum := "709f19219df1bebbbca923a6217a2e5390bd678e5b369743826b3c172f4ce645", func := "manifold/manifoldlaw07.ChunkBack", spec := "chunkBack", unfollowed := true, recurses := true, apart := false }
def ChunkBackSaid : Prop := chunkBackRow.holds Try.pinned (OpenSpec.ofChange chunkBackSpec)

/-- ITS FALSE NEIGHBOUR: 'it returns false'. Refute it at one input. -/
def chunkBackWrong : ChangeSpec := { name := "chunkBack", fn := fun _ => fun
  | [d1, d2, d3] => { results := [.lit (.bool false)], args := [d1, d2, d3] }
  | _ => none }
def ChunkBackWrongFalsely : Prop := chunkBackRow.holds Try.pinned (OpenSpec.ofChange chunkBackWrong)

/-- 'manifoldlaw08.ReportTells': WHATEVER THE INPUT: true; the input reads as it did. -/
def reportTellsSpec : ChangeSpec := { name := "reportTells", fn := fun _ => fun
  | [d1, d2] => { results := [.lit (.bool true)], args := [d1, d2] }
  | _ => none }
def reportTellsRow : OpenClaim := { program := "ytaobhpaabnljpaa", sum := "709f19219df1bebbbca923a6217a2e5390bd678e5b369743826b3c172f4ce645", func := "manifold/manifoldlaw08.ReportTells", spec := "reportTells", unfollowed := true, recurses := true, apart := false }
def ReportTellsSaid : Prop := reportTellsRow.holds Try.pinned (OpenSpec.ofChange reportTellsSpec)

/-- ITS FALSE NEIGHBOUR: 'it returns false'. Refute it at one input. -/
def reportTellsWrong : ChangeSpec := { name := "reportTells", fn := fun _ => fun
  | [d1, d2] => { results := [.lit (.bool false)], args := [d1, d2] }
  | _ => none }
def ReportTellsWrongFalsely : Prop := reportTellsRow.holds Try.pinned (OpenSpec.ofChange reportTellsWrong)

/-- 'manifoldlaw08.ReportBack': WHATEVER THE INPUT: true; the input reads as it did. -/
def reportBackSpec : ChangeSpec := { name := "reportBack", fn := fun _ => fun
  | [d1, d2, d3] => { results := [.lit (.bool true)], args := [d1, d2, d3] }
  | _ => none }
def reportBackRow : OpenClaim := { program := "ytaobhpaabnljpaa", sum := "709f19219df1bebbbca923a6217a2e5390bd678e5b369743826b3c172f4ce645", func := "manifold/manifoldlaw08.ReportBack", spec := "reportBack", unfollowed := true, recurses := true, apart := false }
def ReportBackSaid : Prop := reportBackRow.holds Try.pinned (OpenSpec.ofChange reportBackSpec)

/-- ITS FALSE NEIGHBOUR: 'it returns false'. Refute it at one input. -/
def reportBackWrong : ChangeSpec := { name := "reportBack", fn := fun _ => fun
  | [d1, d2, d3] => { results := [.lit (.bool false)], args := [d1, d2, d3] }
  | _ => none }
def ReportBackWrongFalsely : Prop := reportBackRow.holds Try.pinned (OpenSpec.ofChange reportBackWrong)

/-- 'manifoldlaw08.ReportCount': WHATEVER THE INPUT: true; the input reads as it did. -/
def reportCountSpec : ChangeSpec := { name := "reportCount", fn := fun _ => fun
  | [d1, d2] => { results := [.lit (.bool true)], args := [d1, d2] }
  | _ => none }
def reportCountRow : OpenClaim := { program := "ytaobhpaabnljpaa", sum := "709f19219df1bebbbca923a6217a2e5390bd678e5b369743826b3c172f4ce645", func := "manifold/manifoldlaw08.ReportCount", spec := "reportCount", unfollowed := true, recurses := true, apart := false }
def ReportCountSaid : Prop := reportCountRow.holds Try.pinned (OpenSpec.ofChange reportCountSpec)

/-- ITS FALSE NEIGHBOUR: 'it returns false'. Refute it at one input. -/
def reportCountWrong : ChangeSpec := { name := "reportCount", fn := fun _ => fun
  | [d1, d2] => { results := [.lit (.bool false)], args := [d1, d2] }
  | _ => none }
def ReportCountWrongFalsely : Prop := reportCountRow.holds Try.pinned (OpenSpec.ofChange reportCountWrong)

/-- 'manifoldlaw04.HeadTells': WHATEVER THE INPUT: true; the input reads as it did. -/
def headTellsSpec : ChangeSpec := { name := "headTells", fn := fun _ => fun
  | [d1, d2] => { results := [.lit (.bool true)], args := [d1, d2] }
  | _ => none }
def headTellsRow : OpenClaim := { program := "ytaobhpaabnljpaa", sum := "709f19219df1bebbbca923a6217a2e5390bd678e5b369743826b3c172f4ce645", func := "manifold/manifoldlaw04.HeadTells", spec := "headTells", unfollowed := true, recurses := true, apart := false }
def HeadTellsSaid : Prop := headTellsRow.holds Try.pinned (OpenSpec.ofChange headTellsSpec)

/-- ITS FALSE NEIGHBOUR: 'it returns false'. Refute it at one input. -/
def headTellsWrong : ChangeSpec := { name := "headTells", fn := fun _ => fun
  | [d1, d2] => { results := [.lit (.bool false)], args := [d1, d2] }
  | _ => none }
def HeadTellsWrongFalsely : Prop := headTellsRow.holds Try.pinned (OpenSpec.ofChange headTellsWrong)

/-- 'manifoldlaw04.HeadCuts': WHATEVER THE INPUT: true; the input reads as it did. -/
def headCutsSpec : ChangeSpec := { name := "headCuts", fn := fun _ => fun
  | [d1, d2] => { results := [.lit (.bool true)], args := [d1, d2] }
  | _ => none }
def headCutsRow : OpenClaim := { program := "ytaobhpaabnljpaa", sum := "709f19219df1bebbbca923a6217a2e5390bd678e5b369743826b3c172f4ce645", func := "manifold/manifoldlaw04.HeadCuts", spec := "headCuts", unfollowed := true, recurses := true, apart := false }
def HeadCutsSaid : Prop := headCutsRow.holds Try.pinned (OpenSpec.ofChange headCutsSpec)

/-- ITS FALSE NEIGHBOUR: 'it returns false'. Refute it at one input. -/
def headCutsWrong : ChangeSpec := { name := "headCuts", fn := fun _ => fun
  | [d1, d2] => { results := [.lit (.bool false)], args := [d1, d2] }
  | _ => none }
def HeadCutsWrongFalsely : Prop := headCutsRow.holds Try.pinned (OpenSpec.ofChange headCutsWrong)

/- THE SECOND FORM. 'bulk': how many values and letters a reading holds, each counted each time it is reached (what is shared counts as often as it is met; a slice's spare places count too). A statement '..UptoSaid' is the law's where the arguments, and the package variables that the reading takes, are together of bulk at most 1048576: NARROWER than '..Said'. Prove '..Said' where nothing that the law and all that it calls make is longer than what came in: it says more and counts as full. Else prove '..UptoSaid'. A law counts once. -/
mutual
def uptoBulk {H : Type} : DataW H → Nat
  | .lit (.string bytes) => bytes.length + 1
  | .lit _ => 1
  | .nil => 1
  | .ptr d => uptoBulk d + 1
  | .slice elems spare => uptoBulkAll elems + uptoBulkAll spare + 1
  | .agg parts => uptoBulkAll parts + 1
  | .iface _ d => uptoBulk d + 1
  | .map entries => uptoBulkEntries entries + 1
  | .held _ => 1
def uptoBulkAll {H : Type} : List (DataW H) → Nat
  | [] => 0
  | d :: r => uptoBulk d + uptoBulkAll r
def uptoBulkEntries {H : Type} : List (Lit × DataW H) → Nat
  | [] => 0
  | x :: r => uptoBulkEntry x + uptoBulkEntries r
def uptoBulkEntry {H : Type} : Lit × DataW H → Nat
  | (.string bytes, d) => bytes.length + uptoBulk d + 1
  | (_, d) => uptoBulk d + 1
 end
def uptoSmall : (H : Type) → List (DataW H) → Bool := fun _ ds => decide (uptoBulkAll ds ≤ 1048576)
def OpenSpec.upto (s : _root_.Go.ChangeSpec) : _root_.Go.OpenSpec := { _root_.Go.OpenSpec.ofChange s with cond := some uptoSmall }

/-- 'manifoldlaw13.RingSums', WHERE WHAT IT READS IS OF BULK AT MOST 1048576: true; the input reads as it did. -/
def ringSumsUptoRow : OpenClaim := { program := "ytaobhpaabnljpaa", sum := "709f19219df1bebbbca923a6217a2e5390bd678e5b369743826b3c172f4ce645", func := "manifold/manifoldlaw13.RingSums", spec := "ringSums", apart := false, narrowed := true }
def RingSumsUptoSaid : Prop := ringSumsUptoRow.holds Try.pinned (OpenSpec.upto ringSumsSpec)

/-- 'manifoldlaw13.RingOrders', WHERE WHAT IT READS IS OF BULK AT MOST 1048576: true; the input reads as it did. -/
def ringOrdersUptoRow : OpenClaim := { program := "ytaobhpaabnljpaa", sum := "709f19219df1bebbbca923a6217a2e5390bd678e5b369743826b3c172f4ce645", func := "manifold/manifoldlaw13.RingOrders", spec := "ringOrders", apart := false, narrowed := true }
def RingOrdersUptoSaid : Prop := ringOrdersUptoRow.holds Try.pinned (OpenSpec.upto ringOrdersSpec)

/-- 'manifoldlaw03.WireStays', WHERE WHAT IT READS IS OF BULK AT MOST 1048576: true; the input reads as it did. -/
def wireStaysUptoRow : OpenClaim := { program := "ytaobhpaabnljpaa", sum := "709f19219df1bebbbca923a6217a2e5390bd678e5b369743826b3c172f4ce645", func := "manifold/manifoldlaw03.WireStays", spec := "wireStays", unfollowed := true, recurses := true, apart := false, narrowed := true }
def WireStaysUptoSaid : Prop := wireStaysUptoRow.holds Try.pinned (OpenSpec.upto wireStaysSpec)

/-- 'manifoldlaw03.WireWrites', WHERE WHAT IT READS IS OF BULK AT MOST 1048576: true; the input reads as it did. -/
def wireWritesUptoRow : OpenClaim := { program := "ytaobhpaabnljpaa", sum := "709f19219df1bebbbca923a6217a2e5390bd678e5b369743826b3c172f4ce645", func := "manifold/manifoldlaw03.WireWrites", spec := "wireWrites", unfollowed := true, recurses := true, apart := false, narrowed := true }
def WireWritesUptoSaid : Prop := wireWritesUptoRow.holds Try.pinned (OpenSpec.upto wireWritesSpec)

/-- 'manifoldlaw03.WireBack', WHERE WHAT IT READS IS OF BULK AT MOST 1048576: true; the input reads as it did. -/
def wireBackUptoRow : OpenClaim := { program := "ytaobhpaabnljpaa", sum := "709f19219df1bebbbca923a6217a2e5390bd678e5b369743826b3c172f4ce645", func := "manifold/manifoldlaw03.WireBack", spec := "wireBack", unfollowed := true, recurses := true, apart := false, narrowed := true }
def WireBackUptoSaid : Prop := wireBackUptoRow.holds Try.pinned (OpenSpec.upto wireBackSpec)

/-- 'manifoldlaw07.ChunkBack', WHERE WHAT IT READS IS OF BULK AT MOST 1048576: true; the input reads as it did. -/
def chunkBackUptoRow : OpenClaim := { program := "ytaobhpaabnljpaa", sum := "709f19219df1bebbbca923a6217a2e5390bd678e5b369743826b3c172f4ce645", func := "manifold/manifoldlaw07.ChunkBack", spec := "chunkBack", unfollowed := true, recurses := true, apart := false, narrowed := true }
def ChunkBackUptoSaid : Prop := chunkBackUptoRow.holds Try.pinned (OpenSpec.upto chunkBackSpec)

/-- 'manifoldlaw08.ReportTells', WHERE WHAT IT READS IS OF BULK AT MOST 1048576: true; the input reads as it did. -/
def reportTellsUptoRow : OpenClaim := { program := "ytaobhpaabnljpaa", sum := "709f19219df1bebbbca923a6217a2e5390bd678e5b369743826b3c172f4ce645", func := "manifold/manifoldlaw08.ReportTells", spec := "reportTells", unfollowed := true, recurses := true, apart := false, narrowed := true }
def ReportTellsUptoSaid : Prop := reportTellsUptoRow.holds Try.pinned (OpenSpec.upto reportTellsSpec)

/-- 'manifoldlaw08.ReportBack', WHERE WHAT IT READS IS OF BULK AT MOST 1048576: true; the input reads as it did. -/
def reportBackUptoRow : OpenClaim := { program := "ytaobhpaabnljpaa", sum := "709f19219df1bebbbca923a6217a2e5390bd678e5b369743826b3c172f4ce645", func := "manifold/manifoldlaw08.ReportBack", spec := "reportBack", unfollowed := true, recurses := true, apart := false, narrowed := true }
def ReportBackUptoSaid : Prop := reportBackUptoRow.holds Try.pinned (OpenSpec.upto reportBackSpec)

/-- 'manifoldlaw08.ReportCount', WHERE WHAT IT READS IS OF BULK AT MOST 1048576: true; the input reads as it did. -/
def reportCountUptoRow : OpenClaim := { program := "ytaobhpaabnljpaa", sum := "709f19219df1bebbbca923a6217a2e5390bd678e5b369743826b3c172f4ce645", func := "manifold/manifoldlaw08.ReportCount", spec := "reportCount", unfollowed := true, recurses := true, apart := false, narrowed := true }
def ReportCountUptoSaid : Prop := reportCountUptoRow.holds Try.pinned (OpenSpec.upto reportCountSpec)

/-- 'manifoldlaw04.HeadTells', WHERE WHAT IT READS IS OF BULK AT MOST 1048576: true; the input reads as it did. -/
def headTellsUptoRow : OpenClaim := { program := "ytaobhpaabnljpaa", sum := "709f19219df1bebbbca923a6217a2e5390bd678e5b369743826b3c172f4ce645", func := "manifold/manifoldlaw04.HeadTells", spec := "headTells", unfollowed := true, recurses := true, apart := false, narrowed := true }
def HeadTellsUptoSaid : Prop := headTellsUptoRow.holds Try.pinned (OpenSpec.upto headTellsSpec)

/-- 'manifoldlaw04.HeadCuts', WHERE WHAT IT READS IS OF BULK AT MOST 1048576: true; the input reads as it did. -/
def headCutsUptoRow : OpenClaim := { program := "ytaobhpaabnljpaa", sum := "709f19219df1bebbbca923a6217a2e5390bd678e5b369743826b3c172f4ce645", func := "manifold/manifoldlaw04.HeadCuts", spec := "headCuts", unfollowed := true, recurses := true, apart := false, narrowed := true }
def HeadCutsUptoSaid : Prop := headCutsUptoRow.holds Try.pinned (OpenSpec.upto headCutsSpec)

end Rows
end Go.Proofs.Ytaobhpaabnljpaa
