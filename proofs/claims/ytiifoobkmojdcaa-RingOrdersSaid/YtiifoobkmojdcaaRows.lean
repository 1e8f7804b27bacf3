/-
  No cell of these rows narrows 'for every input' (looked for: loops, veiled, ifaces, maps, wideKeys, modest, calm, conditions, laid).
  DERIVED. THE GIVEN ROWS OF THIS SEAT. 12 by the template 'for every input the law returns true; each argument reads behind the call as it read before'; 0 by the template 'total and deterministic' (their statements: YtiifoobkmojdcaaTotals.lean).
  GIVEN WITH THE SEED: the statements are not yours to turn. If you find one false, say at which input.
  Laid BY PROGRAM, IN A SANDBOX (cutbox-rows.mjs): the forced cells as the released guide's own fill.sh prints them over the translation cf481d8d2c80d07f… (all of the seat's roots in one cut). By AI agents, Wed Nov 11 2026. No macro, syntax, notation, axiom, sorry.
-/
import Derived.Test.YtiifoobkmojdcaaChecked
import GoSem.Claim
import GoSem.ClaimJoined
import GoSem.ClaimMapViews
import Derived.JoinedTies
import Derived.KernelRfl
namespace Go.Proofs.Ytiifoobkmojdcaa
/- THE CELL 'sum', in the pinned program and in every row, IS THE sha256 OF THE DUMP (.gsa) THAT YtiifoobkmojdcaaProg.lean LOADS. Nothing in Lean hashes anything: it is a label: what it is worth is what the hold of that sum in a sandbox is worth. -/
noncomputable def Try.pinned : Pinned := { name := "ytiifoobkmojdcaa", sum := "cf481d8d2c80d07f1503af65310a06d2a997a70ad06ed4e2e6ad1a7fa72f605a", checked := Try.checked }
namespace Rows
def none {H : Type} : Left H := { results := [], args := [] }

/-- 'manifoldlaw11.SeenTells': WHATEVER THE INPUT: true; the input reads as it did. -/
def seenTellsSpec : ChangeSpec := { name := "seenTells", fn := fun _ => fun
  | [d1, d2] => { results := [.lit (.bool true)], args := [d1, d2] }
  | _ => none }
def seenTellsRow : OpenClaim := { program := "ytiifoobkmojdcaa", sum := "cf481d8d2c80d07f1503af65310a06d2a997a70ad06ed4e2e6ad1a7fa72f605a", func := "manifold/manifoldlaw11.SeenTells", spec := "seenTells", apart := false }
def SeenTellsSaid : Prop := seenTellsRow.holds Try.pinned (OpenSpec.ofChange seenTellsSpec)

/-- ITS FALSE NEIGHBOUR: 'it returns false'. Refute it at one input. -/
def seenTellsWrong : ChangeSpec := { name := "seenTells", fn := fun _ => fun
  | [d1, d2] => { results := [.lit (.bool false)], args := [d1, d2] }
  | _ => none }
def SeenTellsWrongFalsely : Prop := seenTellsRow.holds Try.pinned (OpenSpec.ofChange seenTellsWrong)

/-- 'manifoldlaw11.SeenKnows': WHATEVER THE INPUT: true; the input reads as it did. -/
def seenKnowsSpec : ChangeSpec := { name := "seenKnows", fn := fun _ => fun
  | [d1, d2] => { results := [.lit (.bool true)], args := [d1, d2] }
  | _ => none }
def seenKnowsRow : OpenClaim := { program := "ytiifoobkmojdcaa", sum := "cf481d8d2c80d07f1503af65310a06d2a997a70ad06ed4e2e6ad1a7fa72f605a", func := "manifold/manifoldlaw11.SeenKnows", spec := "seenKnows", apart := false }
def SeenKnowsSaid : Prop := seenKnowsRow.holds Try.pinned (OpenSpec.ofChange seenKnowsSpec)

/-- ITS FALSE NEIGHBOUR: 'it returns false'. Refute it at one input. -/
def seenKnowsWrong : ChangeSpec := { name := "seenKnows", fn := fun _ => fun
  | [d1, d2] => { results := [.lit (.bool false)], args := [d1, d2] }
  | _ => none }
def SeenKnowsWrongFalsely : Prop := seenKnowsRow.holds Try.pinned (OpenSpec.ofChange seenKnowsWrong)

/-- 'manifoldlaw11.SeenOrder': WHATEVER THE INPUT: true; the input reads as it did. -/
def seenOrderSpec : ChangeSpec := { name := "seenOrder", fn := fun _ => fun
  | [d1, d2, d3] => { results := [.lit (.bool true)], args := [d1, d2, d3] }
  | _ => none }
def seenOrderRow : OpenClaim := { program := "ytiifoobkmojdcaa", sum := "cf481d8d2c80d07f1503af65310a06d2a997a70ad06ed4e2e6ad1a7fa72f605a", func := "manifold/manifoldlaw11.SeenOrder", spec := "seenOrder", apart := false }
def SeenOrderSaid : Prop := seenOrderRow.holds Try.pinned (OpenSpec.ofChange seenOrderSpec)

/-- ITS FALSE NEIGHBOUR: 'it returns false'. Refute it at one input. -/
def seenOrderWrong : ChangeSpec := { name := "seenOrder", fn := fun _ => fun
  | [d1, d2, d3] => { results := [.lit (.bool false)], args := [d1, d2, d3] }
  | _ => none }
def SeenOrderWrongFalsely : Prop := seenOrderRow.holds Try.pinned (OpenSpec.ofChange seenOrderWrong)

/-- 'manifoldlaw01.BitsTells': WHATEVER THE INPUT: true; the input reads as it did. -/
def bitsTellsSpec : ChangeSpec := { name := "bitsTells", fn := fun _ => fun
  | [d1, d2, d3, d4, d5] => { results := [.lit (.bool true)], args := [d1, d2, d3, d4, d5] }
  | _ => none }
def bitsTellsRow : OpenClaim := { program := "ytiifoobkmojdcaa", sum := "cf481d8d2c80d07f1503af65310a06d2a997a70ad06ed4e2e6ad1a7fa72f605a", func := "manifold/manifoldlaw01.BitsTells", spec := "bitsTells", apart := false }
def BitsTellsSaid : Prop := bitsTellsRow.holds Try.pinned (OpenSpec.ofChange bitsTellsSpec)

/-- ITS FALSE NEIGHBOUR: 'it returns false'. Refute it at one input. -/
def bitsTellsWrong : ChangeSpec := { name := "bitsTells", fn := fun _ => fun
  | [d1, d2, d3, d4, d5] => { results := [.lit (.bool false)], args := [d1, d2, d3, d4, d5] }
  | _ => none }
def BitsTellsWrongFalsely : Prop := bitsTellsRow.holds Try.pinned (OpenSpec.ofChange bitsTellsWrong)

/-- 'manifoldlaw01.BitsLays': WHATEVER THE INPUT: true; the input reads as it did. -/
def bitsLaysSpec : ChangeSpec := { name := "bitsLays", fn := fun _ => fun
  | [d1, d2, d3, d4, d5] => { results := [.lit (.bool true)], args := [d1, d2, d3, d4, d5] }
  | _ => none }
def bitsLaysRow : OpenClaim := { program := "ytiifoobkmojdcaa", sum := "cf481d8d2c80d07f1503af65310a06d2a997a70ad06ed4e2e6ad1a7fa72f605a", func := "manifold/manifoldlaw01.BitsLays", spec := "bitsLays", apart := false }
def BitsLaysSaid : Prop := bitsLaysRow.holds Try.pinned (OpenSpec.ofChange bitsLaysSpec)

/-- ITS FALSE NEIGHBOUR: 'it returns false'. Refute it at one input. -/
def bitsLaysWrong : ChangeSpec := { name := "bitsLays", fn := fun _ => fun
  | [d1, d2, d3, d4, d5] => { results := [.lit (.bool false)], args := [d1, d2, d3, d4, d5] }
  | _ => none }
def BitsLaysWrongFalsely : Prop := bitsLaysRow.holds Try.pinned (OpenSpec.ofChange bitsLaysWrong)

/-- 'manifoldlaw01.BitsBack': WHATEVER THE INPUT: true; the input reads as it did. -/
def bitsBackSpec : ChangeSpec := { name := "bitsBack", fn := fun _ => fun
  | [d1, d2, d3] => { results := [.lit (.bool true)], args := [d1, d2, d3] }
  | _ => none }
def bitsBackRow : OpenClaim := { program := "ytiifoobkmojdcaa", sum := "cf481d8d2c80d07f1503af65310a06d2a997a70ad06ed4e2e6ad1a7fa72f605a", func := "manifold/manifoldlaw01.BitsBack", spec := "bitsBack", apart := false }
def BitsBackSaid : Prop := bitsBackRow.holds Try.pinned (OpenSpec.ofChange bitsBackSpec)

/-- ITS FALSE NEIGHBOUR: 'it returns false'. Refute it at one input. -/
def bitsBackWrong : ChangeSpec := { name := "bitsBack", fn := fun _ => fun
  | [d1, d2, d3] => { results := [.lit (.bool false)], args := [d1, d2, d3] }
  | _ => none }
def BitsBackWrongFalsely : Prop := bitsBackRow.holds Try.pinned (OpenSpec.ofChange bitsBackWrong)

/-- 'manifoldlaw01.BitsSigned': WHATEVER THE INPUT: true; the input reads as it did. -/
def bitsSignedSpec : ChangeSpec := { name := "bitsSigned", fn := fun _ => fun
  | [d1, d2] => { results := [.lit (.bool true)], args := [d1, d2] }
  | _ => none }
def bitsSignedRow : OpenClaim := { program := "ytiifoobkmojdcaa", sum := "cf481d8d2c80d07f1503af65310a06d2a997a70ad06ed4e2e6ad1a7fa72f605a", func := "manifold/manifoldlaw01.BitsSigned", spec := "bitsSigned", apart := false }
def BitsSignedSaid : Prop := bitsSignedRow.holds Try.pinned (OpenSpec.ofChange bitsSignedSpec)

/-- ITS FALSE NEIGHBOUR: 'it returns false'. Refute it at one input. -/
def bitsSignedWrong : ChangeSpec := { name := "bitsSigned", fn := fun _ => fun
  | [d1, d2] => { results := [.lit (.bool false)], args := [d1, d2] }
  | _ => none }
def BitsSignedWrongFalsely : Prop := bitsSignedRow.holds Try.pinned (OpenSpec.ofChange bitsSignedWrong)

/-- 'manifoldlaw13.RingSums': WHATEVER THE INPUT: true; the input reads as it did. -/
def ringSumsSpec : ChangeSpec := { name := "ringSums", fn := fun _ => fun
  | [d1, d2] => { results := [.lit (.bool true)], args := [d1, d2] }
  | _ => none }
def ringSumsRow : OpenClaim := { program := "ytiifoobkmojdcaa", sum := "cf481d8d2c80d07f1503af65310a06d2a997a70ad06ed4e2e6ad1a7fa72f605a", func := "manifold/manifoldlaw13.RingSums", spec := "ringSums", apart := false }
def RingSumsSaid : Prop := ringSumsRow.holds Try.pinned (OpenSpec.ofChange ringSumsSpec)

/-- ITS FALSE NEIGHBOUR: 'it returns false'. Refute it at one input. -/
def ringSumsWrong : ChangeSpec := { name := "ringSums", fn := fun _ => fun
  | [d1, d2] => { results := [.lit (.bool false)], args := [d1, d2] }
  | _ => none }
def RingSumsWrongFalsely : Prop := ringSumsRow.holds Try.pinned (OpenSpec.ofChange ringSumsWrong)

/-- 'manifoldlaw13.RingOrders': WHATEVER THE INPUT: true; the input reads as it did. -/
def ringOrdersSpec : ChangeSpec := { name := "ringOrders", fn := fun _ => fun
  | [d1, d2] => { results := [.lit (.bool true)], args := [d1, d2] }
  | _ => none }
def ringOrdersRow : OpenClaim := { program := "ytiifoobkmojdcaa", sum := "cf481d8d2c80d07f1503af65310a06d2a997a70ad06ed4e2e6ad1a7fa72f605a", func := "manifold/manifoldlaw13.RingOrders", spec := "ringOrders", apart := false }
def RingOrdersSaid : Prop := ringOrdersRow.holds Try.pinned (OpenSpec.ofChange ringOrdersSpec)

/-- ITS FALSE NEIGHBOUR: 'it returns false'. Refute it at one input. -/
def ringOrdersWrong : ChangeSpec := { name := "ringOrders", fn := fun _ => fun
  | [d1, d2] => { results := [.lit (.bool false)], args := [d1, d2] }
  | _ => none }
def RingOrdersWrongFalsely : Prop := ringOrdersRow.holds Try.pinned (OpenSpec.ofChange ringOrdersWrong)

/-- 'manifoldlaw03.WireStays': WHATEVER THE INPUT: true; the input reads as it did. -/
def wireStaysSpec : ChangeSpec := { name := "wireStays", fn := fun _ => fun
  | [d1, d2, d3] => { results := [.lit (.bool true)], args := [d1, d2, d3] }
  | _ => none }
def wireStaysRow : OpenClaim := { program := "ytiifoobkmojdcaa", sum := "cf481d8d2c80d07f1503af65310a06d2a997a70ad06ed4e2e6ad1a7fa72f605a", func := "manifold/manifoldlaw03.WireStays", spec := "wireStays", unfollowed := true, recurses := true, apart := false }
def WireStaysSaid : Prop := wireStaysRow.holds Try.pinned (OpenSpec.ofChange wireStaysSpec)

/-- ITS FALSE NEIGHBOUR: 'it returns false'. Refute it at one input. -/
def wireStaysWrong : ChangeSpec := { name := "wireStays", fn := fun _ => fun
  | [d1, d2, d3] => { results := [.lit (.bool false)], args := [d1, d2, d3] }
  | _ => none }
def WireStaysWrongFalsely : Prop := wireStaysRow.holds Try.pinned (OpenSpec.ofChange wireStaysWrong)

/-- 'manifoldlaw03.WireWrites': WHATEVER THE INPUT: true; the input reads as it did. -/
def wireWritesSpec : ChangeSpec := { name := "wireWrites", fn := fun _ => fun
  | [d] => { results := [.lit (.bool true)], args := [d] }
  | _ => none }
def wireWritesRow : OpenClaim := { program := "ytiifoobkmojdcaa", sum := "cf481d8d2c80d07f1503af65310a06d2a997a70ad06ed4e2e6ad1a7fa72f605a", func := "manifold/manifoldlaw03.WireWrites", spec := "wireWrites", unfollowed := true, recurses := true, apart := false }
def WireWritesSaid : Prop := wireWritesRow.holds Try.pinned (OpenSpec.ofChange wireWritesSpec)

/-- ITS FALSE NEIGHBOUR: 'it returns false'. Refute it at one input. -/
def wireWritesWrong : ChangeSpec := { name := "wireWrites", fn := fun _ => fun
  | [d] => { results := [.lit (.bool false)], args := [d] }
  | _ => none }
def WireWritesWrongFalsely : Prop := wireWritesRow.holds Try.pinned (OpenSpec.ofChange wireWritesWrong)

/-- 'manifoldlaw03.WireBack': WHATEVER THE INPUT: true; the input reads as it did. -/
def wireBackSpec : ChangeSpec := { name := "wireBack", fn := fun _ => fun
  | [d1, d2] => { results := [.lit (.bool true)], args := [d1, d2] }
  | _ => none }
def wireBackRow : OpenClaim := { program := "ytiifoobkmojdcaa", sum := "cf481d8d2c80d07f1503af65310a06d2a997a70ad06ed4e2e6ad1a7fa72f605a", func := "manifold/manifoldlaw03.WireBack", spec := "wireBack", unfollowed := true, recurses := true, apart := false }
def WireBackSaid : Prop := wireBackRow.holds Try.pinned (OpenSpec.ofChange wireBackSpec)

/-- ITS FALSE NEIGHBOUR: 'it returns false'. Refute it at one input. -/
def wireBackWrong : ChangeSpec := { name := "wireBack", fn := fun _ => fun
  | [d1, d2] => { results := [.lit (.bool false)], args := [d1, d2] }
  | _ => none }
def WireBackWrongFalsely : Prop := wireBackRow.holds Try.pinned (OpenSpec.ofChange wireBackWrong)

/- THE SECOND FORM. 'bulk': how many values and letters a reading holds, each counted each time it is reached (what is shared counts as often as it is met; a slice's spare places count too). A statement '..UptoSaid' is the law's where the arguments, and the package variables that the reading takes, are together of bulk at most 1048576: NARROWER than '..Said'. Prove '..Said' where nothing that the law and all that it calls make is longer than what came in: it says more and counts as full. Else prove '..UptoSaid'. A law counts once. -/
mutual
def uptoBulk {H : Type} : DataW H → Nat
  | .lit (.string bytes) => bytes.length + 1
  | .lit _ => 1
  | .nil => 1
  | .ptr d => uptoBulk d + 1
  | .slice elems spare => uptoBulkAll elems + uptoBulkAll spare + 1
  | .agg parts => uptoBulkAll parts + 1
  | .iface _ d => uptoBulk d + 1
  | .map entries => uptoBulkEntries entries + 1
  | .held _ => 1
def uptoBulkAll {H : Type} : List (DataW H) → Nat
  | [] => 0
  | d :: r => uptoBulk d + uptoBulkAll r
def uptoBulkEntries {H : Type} : List (Lit × DataW H) → Nat
  | [] => 0
  | x :: r => uptoBulkEntry x + uptoBulkEntries r
def uptoBulkEntry {H : Type} : Lit × DataW H → Nat
  | (.string bytes, d) => bytes.length + uptoBulk d + 1
  | (_, d) => uptoBulk d + 1
 end
def uptoSmall : (H : Type) → List (DataW H) → Bool := fun _ ds => decide (uptoBulkAll ds ≤ 1048576)
def OpenSpec.upto (s : _root_.Go.ChangeSpec) : _root_.Go.OpenSpec := { _root_.Go.OpenSpec.ofChange s with cond := some uptoSmall }

/-- 'manifoldlaw11.SeenTells', WHERE WHAT IT READS IS OF BULK AT MOST 1048576: true; the input reads as it did. -/
def seenTellsUptoRow : OpenClaim := { program := "ytiifoobkmojdcaa", sum := "cf481d8d2c80d07f1503af65310a06d2a997a70ad06ed4e2e6ad1a7fa72f605a", func := "manifold/manifoldlaw11.SeenTells", spec := "seenTells", apart := false, narrowed := true }
def SeenTellsUptoSaid : Prop := seenTellsUptoRow.holds Try.pinned (OpenSpec.upto seenTellsSpec)

/-- 'manifoldlaw11.SeenKnows', WHERE WHAT IT READS IS OF BULK AT MOST 1048576: true; the input reads as it did. -/
def seenKnowsUptoRow : OpenClaim := { program := "ytiifoobkmojdcaa", sum := "cf481d8d2c80d07f1503af65310a06d2a997a70ad06ed4e2e6ad1a7fa72f605a", func := "manifold/manifoldlaw11.SeenKnows", spec := "seenKnows", apart := false, narrowed := true }
def SeenKnowsUptoSaid : Prop := seenKnowsUptoRow.holds Try.pinned (OpenSpec.upto seenKnowsSpec)

/-- 'manifoldlaw11.SeenOrder', WHERE WHAT IT READS IS OF BULK AT MOST 1048576: true; the input reads as it did. -/
def seenOrderUptoRow : OpenClaim := { program := "ytiifoobkmojdcaa", sum := "cf481d8d2c80d07f1503af65310a06d2a997a70ad06ed4e2e6ad1a7fa72f605a", func := "manifold/manifoldlaw11.SeenOrder", spec := "seenOrder", apart := false, narrowed := true }
def SeenOrderUptoSaid : Prop := seenOrderUptoRow.holds Try.pinned (OpenSpec.upto seenOrderSpec)

/-- 'manifoldlaw01.BitsTells', WHERE WHAT IT READS IS OF BULK AT MOST 1048576: true; the input reads as it did. -/
def bitsTellsUptoRow : OpenClaim := { program := "ytiifoobkmojdcaa", sum := "cf481d8d2c80d07f1503af65310a06d2a997a70ad06ed4e2e6ad1a7fa72f605a", func := "manifold/manifoldlaw01.BitsTells", spec := "bitsTells", apart := false, narrowed := true }
def BitsTellsUptoSaid : Prop := bitsTellsUptoRow.holds Try.pinned (OpenSpec.upto bitsTellsSpec)

/-- 'manifoldlaw01.BitsLays', WHERE WHAT IT READS IS OF BULK AT MOST 1048576: true; the input reads as it did. -/
def bitsLaysUptoRow : OpenClaim := { program := "ytiifoobkmojdcaa", sum := "cf481d8d2c80d07f1503af65310a06d2a997a70ad06ed4e2e6ad1a7fa72f605a", func := "manifold/manifoldlaw01.BitsLays", spec := "bitsLays", apart := false, narrowed := true }
def BitsLaysUptoSaid : Prop := bitsLaysUptoRow.holds Try.pinned (OpenSpec.upto bitsLaysSpec)

/-- 'manifoldlaw01.BitsBack', WHERE WHAT IT READS IS OF BULK AT MOST 1048576: true; the input reads as it did. -/
def bitsBackUptoRow : OpenClaim := { program := "ytiifoobkmojdcaa", sum := "cf481d8d2c80d07f1503af65310a06d2a997a70ad06ed4e2e6ad1a7fa72f605a", func := "manifold/manifoldlaw01.BitsBack", spec := "bitsBack", apart := false, narrowed := true }
def BitsBackUptoSaid : Prop := bitsBackUptoRow.holds Try.pinned (OpenSpec.upto bitsBackSpec)

/-- 'manifoldlaw01.BitsSigned', WHERE WHAT IT READS IS OF BULK AT MOST 1048576: true; the input reads as it did. -/
def bitsSignedUptoRow : OpenClaim := { program := "ytiifoobkmojdcaa", sum := "cf481d8d2c80d07f1503af65310a06d2a997a70ad06ed4e2e6ad1a7fa72f605a", func := "manifold/manifoldlaw01.BitsSigned", spec := "bitsSigned", apart := false, narrowed := true }
def BitsSignedUptoSaid : Prop := bitsSignedUptoRow.holds Try.pinned (OpenSpec.upto bitsSignedSpec)

/-- 'manifoldlaw13.RingSums', WHERE WHAT IT READS IS OF BULK AT MOST 1048576: true; the input reads as it did. -/
def ringSumsUptoRow : OpenClaim := { program := "ytiifoobkmojdcaa", sum := "cf481d8d2c80d07f1503af65310a06d2a997a70ad06ed4e2e6ad1a7fa72f605a", func := "manifold/manifoldlaw13.RingSums", spec := "ringSums", apart := false, narrowed := true }
def RingSumsUptoSaid : Prop := ringSumsUptoRow.holds Try.pinned (OpenSpec.upto ringSumsSpec)

/-- 'manifoldlaw13.RingOrders', WHERE WHAT IT READS IS OF BULK AT MOST 1048576: true; the input reads as it did. -/
def ringOrdersUptoRow : OpenClaim := { program := "ytiifoobkmojdcaa", sum := "cf481d8d2c80d07f1503af65310a06d2a997a70ad06ed4e2e6ad1a7fa72f605a", func := "manifold/manifoldlaw13.RingOrders", spec := "ringOrders", apart := false, narrowed := true }
def RingOrdersUptoSaid : Prop := ringOrdersUptoRow.holds Try.pinned (OpenSpec.upto ringOrdersSpec)

/-- 'manifoldlaw03.WireStays', WHERE WHAT IT READS IS OF BULK AT MOST 1048576: true; the input reads as it did. -/
def wireStaysUptoRow : OpenClaim := { program := "ytiifoobkmojdcaa", sum := "cf481d8d2c80d07f1503af65310a06d2a997a70ad06ed4e2e6ad1a7fa72f605a", func := "manifold/manifoldlaw03.WireStays", spec := "wireStays", unfollowed := true, recurses := true, apart := false, narrowed := true }
def WireStaysUptoSaid : Prop := wireStaysUptoRow.holds Try.pinned (OpenSpec.upto wireStaysSpec)

/-- 'manifoldlaw03.WireWrites', WHERE WHAT IT READS IS OF BULK AT MOST 1048576: true; the input reads as it did. -/
def wireWritesUptoRow : OpenClaim := { program := "ytiifoobkmojdcaa", sum := "cf481d8d2c80d07f1503af65310a06d2a997a70ad06ed4e2e6ad1a7fa72f605a", func := "manifold/manifoldlaw03.WireWrites", spec := "wireWrites", unfollowed := true, recurses := true, apart := false, narrowed := true }
def WireWritesUptoSaid : Prop := wireWritesUptoRow.holds Try.pinned (OpenSpec.upto wireWritesSpec)

/-- 'manifoldlaw03.WireBack', WHERE WHAT IT READS IS OF BULK AT MOST 1048576: true; the input reads as it did. -/
def wireBackUptoRow : OpenClaim := { program := "ytiifoobkmojdcaa", sum := "cf481d8d2c80d07f1503af65310a06d2a997a70ad06ed4e2e6ad1a7fa72f605a", func := "manifold/manifoldlaw03.WireBack", spec := "wireBack", unfollowed := true, recurses := true, apart := false, narrowed := true }
def WireBackUptoSaid : Prop := wireBackUptoRow.holds Try.pinned (OpenSpec.upto wireBackSpec)

end Rows
end Go.Proofs.Ytiifoobkmojdcaa
