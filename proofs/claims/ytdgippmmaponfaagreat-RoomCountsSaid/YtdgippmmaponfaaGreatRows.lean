/-
  No cell of these rows narrows 'for every input' (looked for: loops, veiled, ifaces, maps, wideKeys, modest, calm, conditions, laid).
  DERIVED. THE GIVEN ROWS OF THIS SEAT. 3 by the template 'for every input the law returns true; each argument reads behind the call as it read before'; 0 by the template 'total and deterministic' (their statements: YtdgippmmaponfaaGreatTotals.lean).
  GIVEN WITH THE SEED: the statements are not yours to turn. If you find one false, say at which input.
  Laid BY PROGRAM, IN A SANDBOX (cutbox-rows.mjs): the forced cells as the released guide's own fill.sh prints them over the translation 753555086b53f1f0… (all of the seat's roots in one cut). By AI agents, Wed Nov 11 2026. No macro, syntax, notation, axiom, sorry.
-/
import Derived.Test.YtdgippmmaponfaaGreatChecked
import GoSem.Claim
import GoSem.ClaimJoined
import GoSem.ClaimMapViews
import Derived.JoinedTies
import Derived.KernelRfl
namespace Go.Proofs.YtdgippmmaponfaaGreat
/- THE CELL 'sum', in the pinned program and in every row, IS THE sha256 OF THE DUMP (.gsa) THAT YtdgippmmaponfaaGreatProg.lean LOADS. Nothing in Lean hashes anything: it is a label: what it is worth is what the hold of that sum in a sandbox is worth. -/
noncomputable def Tryz.pinned : Pinned := { name := "ytdgippmmaponfaagreat", sum := "753555086b53f1f06f2844dd4451eddde36f710a6a676745eed2950d607cd8da", checked := Tryz.checked }
namespace Rows
def none {H : Type} : Left H := { results := [], args := [] }

/-- 'manifoldlaw22.RoomCounts': WHATEVER THE INPUT: true; the input reads as it did. -/
def roomCountsSpec : ChangeSpec := { name := "roomCounts", fn := fun _ => fun
  | [d1, d2] => { results := [.lit (.bool true)], args := [d1, d2] }
  | _ => none }
def roomCountsRow : OpenClaim := { program := "ytdgippmmaponfaagreat", sum := "753555086b53f1f06f2844dd4451eddde36f710a6a676745eed2950d607cd8da", func := "manifold/manifoldlaw22.RoomCounts", spec := "roomCounts", inPlace := ["slices.overlaps[manifold/jitter.held[int]]"], unfollowed := true, recurses := true, plainKeys := false, apart := false }
def RoomCountsSaid : Prop := roomCountsRow.holds Tryz.pinned (OpenSpec.ofChange roomCountsSpec)

/-- ITS FALSE NEIGHBOUR: 'it returns false'. Refute it at one input. -/
def roomCountsWrong : ChangeSpec := { name := "roomCounts", fn := fun _ => fun
  | [d1, d2] => { results := [.lit (.bool false)], args := [d1, d2] }
  | _ => none }
def RoomCountsWrongFalsely : Prop := roomCountsRow.holds Tryz.pinned (OpenSpec.ofChange roomCountsWrong)

/-- 'manifoldlaw22.RoomMay': WHATEVER THE INPUT: true; the input reads as it did. -/
def roomMaySpec : ChangeSpec := { name := "roomMay", fn := fun _ => fun
  | [d1, d2] => { results := [.lit (.bool true)], args := [d1, d2] }
  | _ => none }
def roomMayRow : OpenClaim := { program := "ytdgippmmaponfaagreat", sum := "753555086b53f1f06f2844dd4451eddde36f710a6a676745eed2950d607cd8da", func := "manifold/manifoldlaw22.RoomMay", spec := "roomMay", inPlace := ["slices.overlaps[manifold/jitter.held[int]]"], unfollowed := true, recurses := true, plainKeys := false, apart := false }
def RoomMaySaid : Prop := roomMayRow.holds Tryz.pinned (OpenSpec.ofChange roomMaySpec)

/-- ITS FALSE NEIGHBOUR: 'it returns false'. Refute it at one input. -/
def roomMayWrong : ChangeSpec := { name := "roomMay", fn := fun _ => fun
  | [d1, d2] => { results := [.lit (.bool false)], args := [d1, d2] }
  | _ => none }
def RoomMayWrongFalsely : Prop := roomMayRow.holds Tryz.pinned (OpenSpec.ofChange roomMayWrong)

/-- 'manifoldlaw22.RoomHolds': WHATEVER THE INPUT: true; the input reads as it did. -/
def roomHoldsSpec : ChangeSpec := { name := "roomHolds", fn := fun _ => fun
  | [d1, d2] => { results := [.lit (.bool true)], args := [d1, d2] }
  | _ => none }
def roomHoldsRow : OpenClaim := { program := "ytdgippmmaponfaagreat", sum := "753555086b53f1f06f2844dd4451eddde36f710a6a676745eed2950d607cd8da", func := "manifold/manifoldlaw22.RoomHolds", spec := "roomHolds", inPlace := ["slices.overlaps[manifold/jitter.held[int]]"], unfollowed := true, recurses := true, plainKeys := false, apart := false }
def RoomHoldsSaid : Prop := roomHoldsRow.holds Tryz.pinned (OpenSpec.ofChange roomHoldsSpec)

/-- ITS FALSE NEIGHBOUR: 'it returns false'. Refute it at one input. -/
def roomHoldsWrong : ChangeSpec := { name := "roomHolds", fn := fun _ => fun
  | [d1, d2] => { results := [.lit (.bool false)], args := [d1, d2] }
  | _ => none }
def RoomHoldsWrongFalsely : Prop := roomHoldsRow.holds Tryz.pinned (OpenSpec.ofChange roomHoldsWrong)

/- THE SECOND FORM. 'bulk': how many values and letters a reading holds, each counted each time it is reached (what is shared counts as often as it is met; a slice's spare places count too). A statement '..UptoSaid' is the law's where the arguments, and the package variables that the reading takes, are together of bulk at most 1048576: NARROWER than '..Said'. Prove '..Said' where nothing that the law and all that it calls make is longer than what came in: it says more and counts as full. Else prove '..UptoSaid'. A law counts once. -/
mutual
def uptoBulk {H : Type} : DataW H → Nat
  | .lit (.string bytes) => bytes.length + 1
  | .lit _ => 1
  | .nil => 1
  | .ptr d => uptoBulk d + 1
  | .slice elems spare => uptoBulkAll elems + uptoBulkAll spare + 1
  | .agg parts => uptoBulkAll parts + 1
  | .iface _ d => uptoBulk d + 1
  | .map entries => uptoBulkEntries entries + 1
  | .held _ => 1
def uptoBulkAll {H : Type} : List (DataW H) → Nat
  | [] => 0
  | d :: r => uptoBulk d + uptoBulkAll r
def uptoBulkEntries {H : Type} : List (Lit × DataW H) → Nat
  | [] => 0
  | x :: r => uptoBulkEntry x + uptoBulkEntries r
def uptoBulkEntry {H : Type} : Lit × DataW H → Nat
  | (.string bytes, d) => bytes.length + uptoBulk d + 1
  | (_, d) => uptoBulk d + 1
 end
def uptoSmall : (H : Type) → List (DataW H) → Bool := fun _ ds => decide (uptoBulkAll ds ≤ 1048576)
def OpenSpec.upto (s : _root_.Go.ChangeSpec) : _root_.Go.OpenSpec := { _root_.Go.OpenSpec.ofChange s with cond := some uptoSmall }

/-- 'manifoldlaw22.RoomCounts', WHERE WHAT IT READS IS OF BULK AT MOST 1048576: true; the input reads as it did. -/
def roomCountsUptoRow : OpenClaim := { program := "ytdgippmmaponfaagreat", sum := "753555086b53f1f06f2844dd4451eddde36f710a6a676745eed2950d607cd8da", func := "manifold/manifoldlaw22.RoomCounts", spec := "roomCounts", inPlace := ["slices.overlaps[manifold/jitter.held[int]]"], unfollowed := true, recurses := true, plainKeys := false, apart := false, narrowed := true }
def RoomCountsUptoSaid : Prop := roomCountsUptoRow.holds Tryz.pinned (OpenSpec.upto roomCountsSpec)

/-- 'manifoldlaw22.RoomMay', WHERE WHAT IT READS IS OF BULK AT MOST 1048576: true; the input reads as it did. -/
def roomMayUptoRow : OpenClaim := { program := "ytdgippmmaponfaagreat", sum := "753555086b53f1f06f2844dd4451eddde36f710a6a676745eed2950d607cd8da", func := "manifold/manifoldlaw22.RoomMay", spec := "roomMay", inPlace := ["slices.overlaps[manifold/jitter.held[int]]"], unfollowed := true, recurses := true, plainKeys := false, apart := false, narrowed := true }
def RoomMayUptoSaid : Prop := roomMayUptoRow.holds Tryz.pinned (OpenSpec.upto roomMaySpec)

/-- 'manifoldlaw22.RoomHolds', WHERE WHAT IT READS IS OF BULK AT MOST 1048576: true; the input reads as it did. -/
def roomHoldsUptoRow : OpenClaim := { program := "ytdgippmmaponfaagreat", sum := "753555086b53f1f06f2844dd4451eddde36f710a6a676745eed2950d607cd8da", func := "manifold/manifoldlaw22.RoomHolds", spec := "roomHolds", inPlace := ["slices.overlaps[manifold/jitter.held[int]]"], unfollowed := true, recurses := true, plainKeys := false, apart := false, narrowed := true }
def RoomHoldsUptoSaid : Prop := roomHoldsUptoRow.holds Tryz.pinned (OpenSpec.upto roomHoldsSpec)

end Rows
end Go.Proofs.YtdgippmmaponfaaGreat
