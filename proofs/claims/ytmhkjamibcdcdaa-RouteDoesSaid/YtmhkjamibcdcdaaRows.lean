/-
  No cell of these rows narrows 'for every input' (looked for: loops, veiled, ifaces, maps, wideKeys, modest, calm, conditions, laid).
  DERIVED. THE GIVEN ROWS OF THIS SEAT. 11 by the template 'for every input the law returns true; each argument reads behind the call as it read before'; 0 by the template 'total and deterministic' (their statements: YtmhkjamibcdcdaaTotals.lean).
  GIVEN WITH THE SEED: the statements are not yours to turn. If you find one false, say at which input.
  Laid BY PROGRAM, IN A SANDBOX (cutbox-rows.mjs): the forced cells as the released guide's own fill.sh prints them over the translation 3d3175d5e95db96d… (all of the seat's roots in one cut). By AI agents, Wed Nov 11 2026. No macro, syntax, notation, axiom, sorry.
-/
import Derived.Test.YtmhkjamibcdcdaaChecked
import GoSem.Claim
import GoSem.ClaimJoined
import GoSem.ClaimMapViews
import Derived.JoinedTies
import Derived.KernelRfl
namespace Go.Proofs.Ytmhkjamibcdcdaa
/- THE CELL 'sum', in the pinned program and in every row, IS THE sha256 OF THE DUMP (.gsa) THAT YtmhkjamibcdcdaaProg.lean LOADS. Nothing in Lean hashes anything: it is a label: what it is worth is what the hold of that sum in a sandbox is worth. -/
noncomputable def Try.pinned : Pinned := { name := "ytmhkjamibcdcdaa", sum := "3d3175d5e95db96d1b4e1db6cdb106d691e5cf1f8d4248c038f4933c408f7578", checked := Try.checked }
namespace Rows
def none {H : Type} : Left H := { results := [], args := [] }

/-- 'manifoldlaw06.ProbeBegins': WHATEVER THE INPUT: true; the input reads as it did. -/
def probeBeginsSpec : ChangeSpec := { name := "probeBegins", fn := fun _ => fun
  | [d1, d2] => { results := [.lit (.bool true)], args := [d1, d2] }
  | _ => none }
def probeBeginsRow : OpenClaim := { program := "ytmhkjamibcdcdaa", sum := "3d3175d5e95db96d1b4e1db6cdb106d691e5cf1f8d4248c038f4933c408f7578", func := "manifold/manifoldlaw06.ProbeBegins", spec := "probeBegins", unfollowed := true, recurses := true, plainKeys := false, apart := false }
def ProbeBeginsSaid : Prop := probeBeginsRow.holds Try.pinned (OpenSpec.ofChange probeBeginsSpec)

/-- ITS FALSE NEIGHBOUR: 'it returns false'. Refute it at one input. -/
def probeBeginsWrong : ChangeSpec := { name := "probeBegins", fn := fun _ => fun
  | [d1, d2] => { results := [.lit (.bool false)], args := [d1, d2] }
  | _ => none }
def ProbeBeginsWrongFalsely : Prop := probeBeginsRow.holds Try.pinned (OpenSpec.ofChange probeBeginsWrong)

/-- 'manifoldlaw06.ProbeLoose': WHATEVER THE INPUT: true; the input reads as it did. -/
def probeLooseSpec : ChangeSpec := { name := "probeLoose", fn := fun _ => fun
  | [d] => { results := [.lit (.bool true)], args := [d] }
  | _ => none }
def probeLooseRow : OpenClaim := { program := "ytmhkjamibcdcdaa", sum := "3d3175d5e95db96d1b4e1db6cdb106d691e5cf1f8d4248c038f4933c408f7578", func := "manifold/manifoldlaw06.ProbeLoose", spec := "probeLoose", unfollowed := true, recurses := true, plainKeys := false, apart := false }
def ProbeLooseSaid : Prop := probeLooseRow.holds Try.pinned (OpenSpec.ofChange probeLooseSpec)

/-- ITS FALSE NEIGHBOUR: 'it returns false'. Refute it at one input. -/
def probeLooseWrong : ChangeSpec := { name := "probeLoose", fn := fun _ => fun
  | [d] => { results := [.lit (.bool false)], args := [d] }
  | _ => none }
def ProbeLooseWrongFalsely : Prop := probeLooseRow.holds Try.pinned (OpenSpec.ofChange probeLooseWrong)

/-- 'manifoldlaw12.JitterRises': WHATEVER THE INPUT: true; the input reads as it did. -/
def jitterRisesSpec : ChangeSpec := { name := "jitterRises", fn := fun _ => fun
  | [d1, d2, d3] => { results := [.lit (.bool true)], args := [d1, d2, d3] }
  | _ => none }
def jitterRisesRow : OpenClaim := { program := "ytmhkjamibcdcdaa", sum := "3d3175d5e95db96d1b4e1db6cdb106d691e5cf1f8d4248c038f4933c408f7578", func := "manifold/manifoldlaw12.JitterRises", spec := "jitterRises", inPlace := ["slices.overlaps[manifold/jitter.held[int]]"], unfollowed := true, recurses := true, plainKeys := false, apart := false }
def JitterRisesSaid : Prop := jitterRisesRow.holds Try.pinned (OpenSpec.ofChange jitterRisesSpec)

/-- ITS FALSE NEIGHBOUR: 'it returns false'. Refute it at one input. -/
def jitterRisesWrong : ChangeSpec := { name := "jitterRises", fn := fun _ => fun
  | [d1, d2, d3] => { results := [.lit (.bool false)], args := [d1, d2, d3] }
  | _ => none }
def JitterRisesWrongFalsely : Prop := jitterRisesRow.holds Try.pinned (OpenSpec.ofChange jitterRisesWrong)

/-- 'manifoldlaw12.JitterWaits': WHATEVER THE INPUT: true; the input reads as it did. -/
def jitterWaitsSpec : ChangeSpec := { name := "jitterWaits", fn := fun _ => fun
  | [d1, d2, d3, d4] => { results := [.lit (.bool true)], args := [d1, d2, d3, d4] }
  | _ => none }
def jitterWaitsRow : OpenClaim := { program := "ytmhkjamibcdcdaa", sum := "3d3175d5e95db96d1b4e1db6cdb106d691e5cf1f8d4248c038f4933c408f7578", func := "manifold/manifoldlaw12.JitterWaits", spec := "jitterWaits", inPlace := ["slices.overlaps[manifold/jitter.held[int]]"], unfollowed := true, recurses := true, plainKeys := false, apart := false }
def JitterWaitsSaid : Prop := jitterWaitsRow.holds Try.pinned (OpenSpec.ofChange jitterWaitsSpec)

/-- ITS FALSE NEIGHBOUR: 'it returns false'. Refute it at one input. -/
def jitterWaitsWrong : ChangeSpec := { name := "jitterWaits", fn := fun _ => fun
  | [d1, d2, d3, d4] => { results := [.lit (.bool false)], args := [d1, d2, d3, d4] }
  | _ => none }
def JitterWaitsWrongFalsely : Prop := jitterWaitsRow.holds Try.pinned (OpenSpec.ofChange jitterWaitsWrong)

/-- 'manifoldlaw12.JitterOrders': WHATEVER THE INPUT: true; the input reads as it did. -/
def jitterOrdersSpec : ChangeSpec := { name := "jitterOrders", fn := fun _ => fun
  | [d1, d2, d3, d4] => { results := [.lit (.bool true)], args := [d1, d2, d3, d4] }
  | _ => none }
def jitterOrdersRow : OpenClaim := { program := "ytmhkjamibcdcdaa", sum := "3d3175d5e95db96d1b4e1db6cdb106d691e5cf1f8d4248c038f4933c408f7578", func := "manifold/manifoldlaw12.JitterOrders", spec := "jitterOrders", inPlace := ["slices.overlaps[manifold/jitter.held[int]]"], unfollowed := true, recurses := true, plainKeys := false, apart := false }
def JitterOrdersSaid : Prop := jitterOrdersRow.holds Try.pinned (OpenSpec.ofChange jitterOrdersSpec)

/-- ITS FALSE NEIGHBOUR: 'it returns false'. Refute it at one input. -/
def jitterOrdersWrong : ChangeSpec := { name := "jitterOrders", fn := fun _ => fun
  | [d1, d2, d3, d4] => { results := [.lit (.bool false)], args := [d1, d2, d3, d4] }
  | _ => none }
def JitterOrdersWrongFalsely : Prop := jitterOrdersRow.holds Try.pinned (OpenSpec.ofChange jitterOrdersWrong)

/-- 'manifoldlaw14.BookOnce': WHATEVER THE INPUT: true; the input reads as it did. -/
def bookOnceSpec : ChangeSpec := { name := "bookOnce", fn := fun _ => fun
  | [d1, d2] => { results := [.lit (.bool true)], args := [d1, d2] }
  | _ => none }
def bookOnceRow : OpenClaim := { program := "ytmhkjamibcdcdaa", sum := "3d3175d5e95db96d1b4e1db6cdb106d691e5cf1f8d4248c038f4933c408f7578", func := "manifold/manifoldlaw14.BookOnce", spec := "bookOnce", recurses := true, plainKeys := false, apart := false }
def BookOnceSaid : Prop := bookOnceRow.holds Try.pinned (OpenSpec.ofChange bookOnceSpec)

/-- ITS FALSE NEIGHBOUR: 'it returns false'. Refute it at one input. -/
def bookOnceWrong : ChangeSpec := { name := "bookOnce", fn := fun _ => fun
  | [d1, d2] => { results := [.lit (.bool false)], args := [d1, d2] }
  | _ => none }
def BookOnceWrongFalsely : Prop := bookOnceRow.holds Try.pinned (OpenSpec.ofChange bookOnceWrong)

/-- 'manifoldlaw14.BookSums': WHATEVER THE INPUT: true; the input reads as it did. -/
def bookSumsSpec : ChangeSpec := { name := "bookSums", fn := fun _ => fun
  | [d1, d2] => { results := [.lit (.bool true)], args := [d1, d2] }
  | _ => none }
def bookSumsRow : OpenClaim := { program := "ytmhkjamibcdcdaa", sum := "3d3175d5e95db96d1b4e1db6cdb106d691e5cf1f8d4248c038f4933c408f7578", func := "manifold/manifoldlaw14.BookSums", spec := "bookSums", recurses := true, plainKeys := false, apart := false }
def BookSumsSaid : Prop := bookSumsRow.holds Try.pinned (OpenSpec.ofChange bookSumsSpec)

/-- ITS FALSE NEIGHBOUR: 'it returns false'. Refute it at one input. -/
def bookSumsWrong : ChangeSpec := { name := "bookSums", fn := fun _ => fun
  | [d1, d2] => { results := [.lit (.bool false)], args := [d1, d2] }
  | _ => none }
def BookSumsWrongFalsely : Prop := bookSumsRow.holds Try.pinned (OpenSpec.ofChange bookSumsWrong)

/-- 'manifoldlaw14.BookEnds': WHATEVER THE INPUT: true; the input reads as it did. -/
def bookEndsSpec : ChangeSpec := { name := "bookEnds", fn := fun _ => fun
  | [d1, d2, d3] => { results := [.lit (.bool true)], args := [d1, d2, d3] }
  | _ => none }
def bookEndsRow : OpenClaim := { program := "ytmhkjamibcdcdaa", sum := "3d3175d5e95db96d1b4e1db6cdb106d691e5cf1f8d4248c038f4933c408f7578", func := "manifold/manifoldlaw14.BookEnds", spec := "bookEnds", recurses := true, plainKeys := false, apart := false }
def BookEndsSaid : Prop := bookEndsRow.holds Try.pinned (OpenSpec.ofChange bookEndsSpec)

/-- ITS FALSE NEIGHBOUR: 'it returns false'. Refute it at one input. -/
def bookEndsWrong : ChangeSpec := { name := "bookEnds", fn := fun _ => fun
  | [d1, d2, d3] => { results := [.lit (.bool false)], args := [d1, d2, d3] }
  | _ => none }
def BookEndsWrongFalsely : Prop := bookEndsRow.holds Try.pinned (OpenSpec.ofChange bookEndsWrong)

/-- 'manifoldlaw19.RouteDoes': WHATEVER THE INPUT: true; the input reads as it did. -/
def routeDoesSpec : ChangeSpec := { name := "routeDoes", fn := fun _ => fun
  | [d1, d2] => { results := [.lit (.bool true)], args := [d1, d2] }
  | _ => none }
def routeDoesRow : OpenClaim := { program := "ytmhkjamibcdcdaa", sum := "3d3175d5e95db96d1b4e1db6cdb106d691e5cf1f8d4248c038f4933c408f7578", func := "manifold/manifoldlaw19.RouteDoes", spec := "routeDoes", unfollowed := true, recurses := true, plainKeys := false, apart := false }
def RouteDoesSaid : Prop := routeDoesRow.holds Try.pinned (OpenSpec.ofChange routeDoesSpec)

/-- ITS FALSE NEIGHBOUR: 'it returns false'. Refute it at one input. -/
def routeDoesWrong : ChangeSpec := { name := "routeDoes", fn := fun _ => fun
  | [d1, d2] => { results := [.lit (.bool false)], args := [d1, d2] }
  | _ => none }
def RouteDoesWrongFalsely : Prop := routeDoesRow.holds Try.pinned (OpenSpec.ofChange routeDoesWrong)

/-- 'manifoldlaw19.RouteOne': WHATEVER THE INPUT: true; the input reads as it did. -/
def routeOneSpec : ChangeSpec := { name := "routeOne", fn := fun _ => fun
  | [d] => { results := [.lit (.bool true)], args := [d] }
  | _ => none }
def routeOneRow : OpenClaim := { program := "ytmhkjamibcdcdaa", sum := "3d3175d5e95db96d1b4e1db6cdb106d691e5cf1f8d4248c038f4933c408f7578", func := "manifold/manifoldlaw19.RouteOne", spec := "routeOne", unfollowed := true, recurses := true, plainKeys := false, apart := false }
def RouteOneSaid : Prop := routeOneRow.holds Try.pinned (OpenSpec.ofChange routeOneSpec)

/-- ITS FALSE NEIGHBOUR: 'it returns false'. Refute it at one input. -/
def routeOneWrong : ChangeSpec := { name := "routeOne", fn := fun _ => fun
  | [d] => { results := [.lit (.bool false)], args := [d] }
  | _ => none }
def RouteOneWrongFalsely : Prop := routeOneRow.holds Try.pinned (OpenSpec.ofChange routeOneWrong)

/-- 'manifoldlaw19.RouteAlone': WHATEVER THE INPUT: true; the input reads as it did. -/
def routeAloneSpec : ChangeSpec := { name := "routeAlone", fn := fun _ => fun
  | [d1, d2] => { results := [.lit (.bool true)], args := [d1, d2] }
  | _ => none }
def routeAloneRow : OpenClaim := { program := "ytmhkjamibcdcdaa", sum := "3d3175d5e95db96d1b4e1db6cdb106d691e5cf1f8d4248c038f4933c408f7578", func := "manifold/manifoldlaw19.RouteAlone", spec := "routeAlone", unfollowed := true, recurses := true, plainKeys := false, apart := false }
def RouteAloneSaid : Prop := routeAloneRow.holds Try.pinned (OpenSpec.ofChange routeAloneSpec)

/-- ITS FALSE NEIGHBOUR: 'it returns false'. Refute it at one input. -/
def routeAloneWrong : ChangeSpec := { name := "routeAlone", fn := fun _ => fun
  | [d1, d2] => { results := [.lit (.bool false)], args := [d1, d2] }
  | _ => none }
def RouteAloneWrongFalsely : Prop := routeAloneRow.holds Try.pinned (OpenSpec.ofChange routeAloneWrong)

/- THE SECOND FORM. 'bulk': how many values and letters a reading holds, each counted each time it is reached (what is shared counts as often as it is met; a slice's spare places count too). A statement '..UptoSaid' is the law's where the arguments, and the package variables that the reading takes, are together of bulk at most 1048576: NARROWER than '..Said'. Prove '..Said' where nothing that the law and all that it calls make is longer than what came in: it says more and counts as full. Else prove '..UptoSaid'. A law counts once. -/
mutual
def uptoBulk {H : Type} : DataW H → Nat
  | .lit (.string bytes) => bytes.length + 1
  | .lit _ => 1
  | .nil => 1
  | .ptr d => uptoBulk d + 1
  | .slice elems spare => uptoBulkAll elems + uptoBulkAll spare + 1
  | .agg parts => uptoBulkAll parts + 1
  | .iface _ d => uptoBulk d + 1
  | .map entries => uptoBulkEntries entries + 1
  | .held _ => 1
def uptoBulkAll {H : Type} : List (DataW H) → Nat
  | [] => 0
  | d :: r => uptoBulk d + uptoBulkAll r
def uptoBulkEntries {H : Type} : List (Lit × DataW H) → Nat
  | [] => 0
  | x :: r => uptoBulkEntry x + uptoBulkEntries r
def uptoBulkEntry {H : Type} : Lit × DataW H → Nat
  | (.string bytes, d) => bytes.length + uptoBulk d + 1
  | (_, d) => uptoBulk d + 1
 end
def uptoSmall : (H : Type) → List (DataW H) → Bool := fun _ ds => decide (uptoBulkAll ds ≤ 1048576)
def OpenSpec.upto (s : _root_.Go.ChangeSpec) : _root_.Go.OpenSpec := { _root_.Go.OpenSpec.ofChange s with cond := some uptoSmall }

/-- 'manifoldlaw06.ProbeBegins', WHERE WHAT IT READS IS OF BULK AT MOST 1048576: true; the input reads as it did. -/
def probeBeginsUptoRow : OpenClaim := { program := "ytmhkjamibcdcdaa", sum := "3d3175d5e95db96d1b4e1db6cdb106d691e5cf1f8d4248c038f4933c408f7578", func := "manifold/manifoldlaw06.ProbeBegins", spec := "probeBegins", unfollowed := true, recurses := true, plainKeys := false, apart := false, narrowed := true }
def ProbeBeginsUptoSaid : Prop := probeBeginsUptoRow.holds Try.pinned (OpenSpec.upto probeBeginsSpec)

/-- 'manifoldlaw06.ProbeLoose', WHERE WHAT IT READS IS OF BULK AT MOST 1048576: true; the input reads as it did. -/
def probeLooseUptoRow : OpenClaim := { program := "ytmhkjamibcdcdaa", sum := "3d3175d5e95db96d1b4e1db6cdb106d691e5cf1f8d4248c038f4933c408f7578", func := "manifold/manifoldlaw06.ProbeLoose", spec := "probeLoose", unfollowed := true, recurses := true, plainKeys := false, apart := false, narrowed := true }
def ProbeLooseUptoSaid : Prop := probeLooseUptoRow.holds Try.pinned (OpenSpec.upto probeLooseSpec)

/-- 'manifoldlaw12.JitterRises', WHERE WHAT IT READS IS OF BULK AT MOST 1048576: true; the input reads as it did. -/
def jitterRisesUptoRow : OpenClaim := { program := "ytmhkjamibcdcdaa", sum := "3d3175d5e95db96d1b4e1db6cdb106d691e5cf1f8d4248c038f4933c408f7578", func := "manifold/manifoldlaw12.JitterRises", spec := "jitterRises", inPlace := ["slices.overlaps[manifold/jitter.held[int]]"], unfollowed := true, recurses := true, plainKeys := false, apart := false, narrowed := true }
def JitterRisesUptoSaid : Prop := jitterRisesUptoRow.holds Try.pinned (OpenSpec.upto jitterRisesSpec)

/-- 'manifoldlaw12.JitterWaits', WHERE WHAT IT READS IS OF BULK AT MOST 1048576: true; the input reads as it did. -/
def jitterWaitsUptoRow : OpenClaim := { program := "ytmhkjamibcdcdaa", sum := "3d3175d5e95db96d1b4e1db6cdb106d691e5cf1f8d4248c038f4933c408f7578", func := "manifold/manifoldlaw12.JitterWaits", spec := "jitterWaits", inPlace := ["slices.overlaps[manifold/jitter.held[int]]"], unfollowed := true, recurses := true, plainKeys := false, apart := false, narrowed := true }
def JitterWaitsUptoSaid : Prop := jitterWaitsUptoRow.holds Try.pinned (OpenSpec.upto jitterWaitsSpec)

/-- 'manifoldlaw12.JitterOrders', WHERE WHAT IT READS IS OF BULK AT MOST 1048576: true; the input reads as it did. -/
def jitterOrdersUptoRow : OpenClaim := { program := "ytmhkjamibcdcdaa", sum := "3d3175d5e95db96d1b4e1db6cdb106d691e5cf1f8d4248c038f4933c408f7578", func := "manifold/manifoldlaw12.JitterOrders", spec := "jitterOrders", inPlace := ["slices.overlaps[manifold/jitter.held[int]]"], unfollowed := true, recurses := true, plainKeys := false, apart := false, narrowed := true }
def JitterOrdersUptoSaid : Prop := jitterOrdersUptoRow.holds Try.pinned (OpenSpec.upto jitterOrdersSpec)

/-- 'manifoldlaw14.BookOnce', WHERE WHAT IT READS IS OF BULK AT MOST 1048576: true; the input reads as it did. -/
def bookOnceUptoRow : OpenClaim := { program := "ytmhkjamibcdcdaa", sum := "3d3175d5e95db96d1b4e1db6cdb106d691e5cf1f8d4248c038f4933c408f7578", func := "manifold/manifoldlaw14.BookOnce", spec := "bookOnce", recurses := true, plainKeys := false, apart := false, narrowed := true }
def BookOnceUptoSaid : Prop := bookOnceUptoRow.holds Try.pinned (OpenSpec.upto bookOnceSpec)

/-- 'manifoldlaw14.BookSums', WHERE WHAT IT READS IS OF BULK AT MOST 1048576: true; the input reads as it did. -/
def bookSumsUptoRow : OpenClaim := { program := "ytmhkjamibcdcdaa", sum := "3d3175d5e95db96d1b4e1db6cdb106d691e5cf1f8d4248c038f4933c408f7578", func := "manifold/manifoldlaw14.BookSums", spec := "bookSums", recurses := true, plainKeys := false, apart := false, narrowed := true }
def BookSumsUptoSaid : Prop := bookSumsUptoRow.holds Try.pinned (OpenSpec.upto bookSumsSpec)

/-- 'manifoldlaw14.BookEnds', WHERE WHAT IT READS IS OF BULK AT MOST 1048576: true; the input reads as it did. -/
def bookEndsUptoRow : OpenClaim := { program := "ytmhkjamibcdcdaa", sum := "3d3175d5e95db96d1b4e1db6cdb106d691e5cf1f8d4248c038f4933c408f7578", func := "manifold/manifoldlaw14.BookEnds", spec := "bookEnds", recurses := true, plainKeys := false, apart := false, narrowed := true }
def BookEndsUptoSaid : Prop := bookEndsUptoRow.holds Try.pinned (OpenSpec.upto bookEndsSpec)

/-- 'manifoldlaw19.RouteDoes', WHERE WHAT IT READS IS OF BULK AT MOST 1048576: true; the input reads as it did. -/
def routeDoesUptoRow : OpenClaim := { program := "ytmhkjamibcdcdaa", sum := "3d3175d5e95db96d1b4e1db6cdb106d691e5cf1f8d4248c038f4933c408f7578", func := "manifold/manifoldlaw19.RouteDoes", spec := "routeDoes", unfollowed := true, recurses := true, plainKeys := false, apart := false, narrowed := true }
def RouteDoesUptoSaid : Prop := routeDoesUptoRow.holds Try.pinned (OpenSpec.upto routeDoesSpec)

/-- 'manifoldlaw19.RouteOne', WHERE WHAT IT READS IS OF BULK AT MOST 1048576: true; the input reads as it did. -/
def routeOneUptoRow : OpenClaim := { program := "ytmhkjamibcdcdaa", sum := "3d3175d5e95db96d1b4e1db6cdb106d691e5cf1f8d4248c038f4933c408f7578", func := "manifold/manifoldlaw19.RouteOne", spec := "routeOne", unfollowed := true, recurses := true, plainKeys := false, apart := false, narrowed := true }
def RouteOneUptoSaid : Prop := routeOneUptoRow.holds Try.pinned (OpenSpec.upto routeOneSpec)

/-- 'manifoldlaw19.RouteAlone', WHERE WHAT IT READS IS OF BULK AT MOST 1048576: true; the input reads as it did. -/
def routeAloneUptoRow : OpenClaim := { program := "ytmhkjamibcdcdaa", sum := "3d3175d5e95db96d1b4e1db6cdb106d691e5cf1f8d4248c038f4933c408f7578", func := "manifold/manifoldlaw19.RouteAlone", spec := "routeAlone", unfollowed := true, recurses := true, plainKeys := false, apart := false, narrowed := true }
def RouteAloneUptoSaid : Prop := routeAloneUptoRow.holds Try.pinned (OpenSpec.upto routeAloneSpec)

end Rows
end Go.Proofs.Ytmhkjamibcdcdaa
