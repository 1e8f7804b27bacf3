/-
  No cell of these rows narrows 'for every input' (looked for: loops, veiled, ifaces, maps, wideKeys, modest, calm, conditions, laid).
  DERIVED. THE GIVEN ROWS OF THIS SEAT. 6 by the template 'for every input the law returns true; each argument reads behind the call as it read before'; 0 by the template 'total and deterministic' (their statements: YtdgmmffedhikcaaTotals.lean).
  GIVEN WITH THE SEED: the statements are not yours to turn. If you find one false, say at which input.
  Laid BY PROGRAM, IN A SANDBOX (cutbox-rows.mjs): the forced cells as the released guide's own fill.sh prints them over the translation f611d217f847ccf7… (all of the seat's roots in one cut). By AI agents, Wed Nov 11 2026. No macro, syntax, notation, axiom, sorry.
-/
import Derived.Test.YtdgmmffedhikcaaChecked
import GoSem.Claim
import GoSem.ClaimJoined
import GoSem.ClaimMapViews
import Derived.JoinedTies
import Derived.KernelRfl
namespace Go.Proofs.Ytdgmmffedhikcaa
/- THE CELL 'sum', in the pinned program and in every row, IS THE sha256 OF THE DUMP (.gsa) THAT YtdgmmffedhikcaaProg.lean LOADS. Nothing in Lean hashes anything: it is a label: what it is worth is what the hold of that sum in a sandbox is worth. -/
noncomputable def Try.pinned : Pinned := { name := "ytdgmmffedhikcaa", sum := "f611d217f847ccf77349b47f9d38fbd71dcee5a6e60869cabc6e6625e19e470f", checked := Try.checked }
namespace Rows
def none {H : Type} : Left H := { results := [], args := [] }

/-- 'manifoldlaw20.LaneFates': WHATEVER THE INPUT: true; the input reads as it did. -/
def laneFatesSpec : ChangeSpec := { name := "laneFates", fn := fun _ => fun
  | [d1, d2] => { results := [.lit (.bool true)], args := [d1, d2] }
  | _ => none }
def laneFatesRow : OpenClaim := { program := "ytdgmmffedhikcaa", sum := "f611d217f847ccf77349b47f9d38fbd71dcee5a6e60869cabc6e6625e19e470f", func := "manifold/manifoldlaw20.LaneFates", spec := "laneFates", unfollowed := true, recurses := true, apart := false }
def LaneFatesSaid : Prop := laneFatesRow.holds Try.pinned (OpenSpec.ofChange laneFatesSpec)

/-- ITS FALSE NEIGHBOUR: 'it returns false'. Refute it at one input. -/
def laneFatesWrong : ChangeSpec := { name := "laneFates", fn := fun _ => fun
  | [d1, d2] => { results := [.lit (.bool false)], args := [d1, d2] }
  | _ => none }
def LaneFatesWrongFalsely : Prop := laneFatesRow.holds Try.pinned (OpenSpec.ofChange laneFatesWrong)

/-- 'manifoldlaw20.LaneEnds': WHATEVER THE INPUT: true; the input reads as it did. -/
def laneEndsSpec : ChangeSpec := { name := "laneEnds", fn := fun _ => fun
  | [d1, d2] => { results := [.lit (.bool true)], args := [d1, d2] }
  | _ => none }
def laneEndsRow : OpenClaim := { program := "ytdgmmffedhikcaa", sum := "f611d217f847ccf77349b47f9d38fbd71dcee5a6e60869cabc6e6625e19e470f", func := "manifold/manifoldlaw20.LaneEnds", spec := "laneEnds", unfollowed := true, recurses := true, apart := false }
def LaneEndsSaid : Prop := laneEndsRow.holds Try.pinned (OpenSpec.ofChange laneEndsSpec)

/-- ITS FALSE NEIGHBOUR: 'it returns false'. Refute it at one input. -/
def laneEndsWrong : ChangeSpec := { name := "laneEnds", fn := fun _ => fun
  | [d1, d2] => { results := [.lit (.bool false)], args := [d1, d2] }
  | _ => none }
def LaneEndsWrongFalsely : Prop := laneEndsRow.holds Try.pinned (OpenSpec.ofChange laneEndsWrong)

/-- 'manifoldlaw20.LaneFirst': WHATEVER THE INPUT: true; the input reads as it did. -/
def laneFirstSpec : ChangeSpec := { name := "laneFirst", fn := fun _ => fun
  | [d1, d2] => { results := [.lit (.bool true)], args := [d1, d2] }
  | _ => none }
def laneFirstRow : OpenClaim := { program := "ytdgmmffedhikcaa", sum := "f611d217f847ccf77349b47f9d38fbd71dcee5a6e60869cabc6e6625e19e470f", func := "manifold/manifoldlaw20.LaneFirst", spec := "laneFirst", unfollowed := true, recurses := true, apart := false }
def LaneFirstSaid : Prop := laneFirstRow.holds Try.pinned (OpenSpec.ofChange laneFirstSpec)

/-- ITS FALSE NEIGHBOUR: 'it returns false'. Refute it at one input. -/
def laneFirstWrong : ChangeSpec := { name := "laneFirst", fn := fun _ => fun
  | [d1, d2] => { results := [.lit (.bool false)], args := [d1, d2] }
  | _ => none }
def LaneFirstWrongFalsely : Prop := laneFirstRow.holds Try.pinned (OpenSpec.ofChange laneFirstWrong)

/-- 'manifoldlaw20.LaneWrites': WHATEVER THE INPUT: true; the input reads as it did. -/
def laneWritesSpec : ChangeSpec := { name := "laneWrites", fn := fun _ => fun
  | [d1, d2] => { results := [.lit (.bool true)], args := [d1, d2] }
  | _ => none }
def laneWritesRow : OpenClaim := { program := "ytdgmmffedhikcaa", sum := "f611d217f847ccf77349b47f9d38fbd71dcee5a6e60869cabc6e6625e19e470f", func := "manifold/manifoldlaw20.LaneWrites", spec := "laneWrites", unfollowed := true, recurses := true, apart := false }
def LaneWritesSaid : Prop := laneWritesRow.holds Try.pinned (OpenSpec.ofChange laneWritesSpec)

/-- ITS FALSE NEIGHBOUR: 'it returns false'. Refute it at one input. -/
def laneWritesWrong : ChangeSpec := { name := "laneWrites", fn := fun _ => fun
  | [d1, d2] => { results := [.lit (.bool false)], args := [d1, d2] }
  | _ => none }
def LaneWritesWrongFalsely : Prop := laneWritesRow.holds Try.pinned (OpenSpec.ofChange laneWritesWrong)

/-- 'manifoldlaw20.LaneSeqs': WHATEVER THE INPUT: true; the input reads as it did. -/
def laneSeqsSpec : ChangeSpec := { name := "laneSeqs", fn := fun _ => fun
  | [d1, d2] => { results := [.lit (.bool true)], args := [d1, d2] }
  | _ => none }
def laneSeqsRow : OpenClaim := { program := "ytdgmmffedhikcaa", sum := "f611d217f847ccf77349b47f9d38fbd71dcee5a6e60869cabc6e6625e19e470f", func := "manifold/manifoldlaw20.LaneSeqs", spec := "laneSeqs", unfollowed := true, recurses := true, apart := false }
def LaneSeqsSaid : Prop := laneSeqsRow.holds Try.pinned (OpenSpec.ofChange laneSeqsSpec)

/-- ITS FALSE NEIGHBOUR: 'it returns false'. Refute it at one input. -/
def laneSeqsWrong : ChangeSpec := { name := "laneSeqs", fn := fun _ => fun
  | [d1, d2] => { results := [.lit (.bool false)], args := [d1, d2] }
  | _ => none }
def LaneSeqsWrongFalsely : Prop := laneSeqsRow.holds Try.pinned (OpenSpec.ofChange laneSeqsWrong)

/-- 'manifoldlaw20.LaneOwn': WHATEVER THE INPUT: true; the input reads as it did. -/
def laneOwnSpec : ChangeSpec := { name := "laneOwn", fn := fun _ => fun
  | [d1, d2] => { results := [.lit (.bool true)], args := [d1, d2] }
  | _ => none }
def laneOwnRow : OpenClaim := { program := "ytdgmmffedhikcaa", sum := "f611d217f847ccf77349b47f9d38fbd71dcee5a6e60869cabc6e6625e19e470f", func := "manifold/manifoldlaw20.LaneOwn", spec := "laneOwn", unfollowed := true, recurses := true, apart := false }
def LaneOwnSaid : Prop := laneOwnRow.holds Try.pinned (OpenSpec.ofChange laneOwnSpec)

/-- ITS FALSE NEIGHBOUR: 'it returns false'. Refute it at one input. -/
def laneOwnWrong : ChangeSpec := { name := "laneOwn", fn := fun _ => fun
  | [d1, d2] => { results := [.lit (.bool false)], args := [d1, d2] }
  | _ => none }
def LaneOwnWrongFalsely : Prop := laneOwnRow.holds Try.pinned (OpenSpec.ofChange laneOwnWrong)

/- THE SECOND FORM. 'bulk': how many values and letters a reading holds, each counted each time it is reached (what is shared counts as often as it is met; a slice's spare places count too). A statement '..UptoSaid' is the law's where the arguments, and the package variables that the reading takes, are together of bulk at most 1048576: NARROWER than '..Said'. Prove '..Said' where nothing that the law and all that it calls make is longer than what came in: it says more and counts as full. Else prove '..UptoSaid'. A law counts once. -/
mutual
def uptoBulk {H : Type} : DataW H → Nat
  | .lit (.string bytes) => bytes.length + 1
  | .lit _ => 1
  | .nil => 1
  | .ptr d => uptoBulk d + 1
  | .slice elems spare => uptoBulkAll elems + uptoBulkAll spare + 1
  | .agg parts => uptoBulkAll parts + 1
  | .iface _ d => uptoBulk d + 1
  | .map entries => uptoBulkEntries entries + 1
  | .held _ => 1
def uptoBulkAll {H : Type} : List (DataW H) → Nat
  | [] => 0
  | d :: r => uptoBulk d + uptoBulkAll r
def uptoBulkEntries {H : Type} : List (Lit × DataW H) → Nat
  | [] => 0
  | x :: r => uptoBulkEntry x + uptoBulkEntries r
def uptoBulkEntry {H : Type} : Lit × DataW H → Nat
  | (.string bytes, d) => bytes.length + uptoBulk d + 1
  | (_, d) => uptoBulk d + 1
 end
def uptoSmall : (H : Type) → List (DataW H) → Bool := fun _ ds => decide (uptoBulkAll ds ≤ 1048576)
def OpenSpec.upto (s : _root_.Go.ChangeSpec) : _root_.Go.OpenSpec := { _root_.Go.OpenSpec.ofChange s with cond := some uptoSmall }

/-- 'manifoldlaw20.LaneFates', WHERE WHAT IT READS IS OF BULK AT MOST 1048576: true; the input reads as it did. -/
def laneFatesUptoRow : OpenClaim := { program := "ytdgmmffedhikcaa", sum := "f611d217f847ccf77349b47f9d38fbd71dcee5a6e60869cabc6e6625e19e470f", func := "manifold/manifoldlaw20.LaneFates", spec := "laneFates", unfollowed := true, recurses := true, apart := false, narrowed := true }
def LaneFatesUptoSaid : Prop := laneFatesUptoRow.holds Try.pinned (OpenSpec.upto laneFatesSpec)

/-- 'manifoldlaw20.LaneEnds', WHERE WHAT IT READS IS OF BULK AT MOST 1048576: true; the input reads as it did. -/
def laneEndsUptoRow : OpenClaim := { program := "ytdgmmffedhikcaa", sum := "f611d217f847ccf77349b47f9d38fbd71dcee5a6e60869cabc6e6625e19e470f", func := "manifold/manifoldlaw20.LaneEnds", spec := "laneEnds", unfollowed := true, recurses := true, apart := false, narrowed := true }
def LaneEndsUptoSaid : Prop := laneEndsUptoRow.holds Try.pinned (OpenSpec.upto laneEndsSpec)

/-- 'manifoldlaw20.LaneFirst', WHERE WHAT IT READS IS OF BULK AT MOST 1048576: true; the input reads as it did. -/
def laneFirstUptoRow : OpenClaim := { program := "ytdgmmffedhikcaa", sum := "f611d217f847ccf77349b47f9d38fbd71dcee5a6e60869cabc6e6625e19e470f", func := "manifold/manifoldlaw20.LaneFirst", spec := "laneFirst", unfollowed := true, recurses := true, apart := false, narrowed := true }
def LaneFirstUptoSaid : Prop := laneFirstUptoRow.holds Try.pinned (OpenSpec.upto laneFirstSpec)

/-- 'manifoldlaw20.LaneWrites', WHERE WHAT IT READS IS OF BULK AT MOST 1048576: true; the input reads as it did. -/
def laneWritesUptoRow : OpenClaim := { program := "ytdgmmffedhikcaa", sum := "f611d217f847ccf77349b47f9d38fbd71dcee5a6e60869cabc6e6625e19e470f", func := "manifold/manifoldlaw20.LaneWrites", spec := "laneWrites", unfollowed := true, recurses := true, apart := false, narrowed := true }
def LaneWritesUptoSaid : Prop := laneWritesUptoRow.holds Try.pinned (OpenSpec.upto laneWritesSpec)

/-- 'manifoldlaw20.LaneSeqs', WHERE WHAT IT READS IS OF BULK AT MOST 1048576: true; the input reads as it did. -/
def laneSeqsUptoRow : OpenClaim := { program := "ytdgmmffedhikcaa", sum := "f611d217f847ccf77349b47f9d38fbd71dcee5a6e60869cabc6e6625e19e470f", func := "manifold/manifoldlaw20.LaneSeqs", spec := "laneSeqs", unfollowed := true, recurses := true, apart := false, narrowed := true }
def LaneSeqsUptoSaid : Prop := laneSeqsUptoRow.holds Try.pinned (OpenSpec.upto laneSeqsSpec)

/-- 'manifoldlaw20.LaneOwn', WHERE WHAT IT READS IS OF BULK AT MOST 1048576: true; the input reads as it did. -/
def laneOwnUptoRow : OpenClaim := { program := "ytdgmmffedhikcaa", sum := "f611d217f847ccf77349b47f9d38fbd71dcee5a6e60869cabc6e6625e19e470f", func := "manifold/manifoldlaw20.LaneOwn", spec := "laneOwn", unfollowed := true, recurses := true, apart := false, narrowed := true }
def LaneOwnUptoSaid : Prop := laneOwnUptoRow.holds Try.pinned (OpenSpec.upto laneOwnSpec)

end Rows
end Go.Proofs.Ytdgmmffedhikcaa
