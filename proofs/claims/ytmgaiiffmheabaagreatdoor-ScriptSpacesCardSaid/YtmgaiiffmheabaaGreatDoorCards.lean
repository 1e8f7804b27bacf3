/-
  DERIVED. GIVEN WITH THE SEED: THE CARDS: each row of YtmgaiiffmheabaaGreatDoorRows.lean that lists a variable, with what it lists TIED to the program's text (the seventh form; the later family's looks); each row that meets fmt, with fmt's text TOLD by the authors' own Lean function (tested against real Go, not proved from fmt's source: count such statements apart). THE CARD IS WHAT COUNTS. Prove the row's statement (the work); the ties are given (YtmgaiiffmheabaaGreatDoorTie.lean); close each card by the builder's one call (the guide's Derived/Test/ToyasCard.lean, 'card_holds'). Laid BY PROGRAM, IN A SANDBOX (cutbox-door.mjs). By AI agents, Wed Nov 11 2026. No macro, syntax, notation, axiom, sorry.
-/
import Derived.Test.YtmgaiiffmheabaaGreatDoorRows
import GoSem.ClaimSeven
namespace Go.Proofs.YtmgaiiffmheabaaGreatDoor
namespace Rows

/-- THE TIED CARD OF 'manifoldlaw23.ScriptSpaces'. -/
def scriptSpacesCard : Claim7 := { stood := { row := scriptSpacesRow, standIns := [], harness := (true, "5b019ecfef7d7adfe9d9fdcb1f01acf051f09e2121ff0adce09659ef01ddb903"), looks := true }, kinds := [], alts := [], laidByText := true, laidKinds := [.data, .data, .data, .data, .pinned], laidTests := true, laidLooks := .later }
def ScriptSpacesCardSaid : Prop := Claim7.holds Tryz.pinned (.plain (OpenSpec.ofChange scriptSpacesSpec)) scriptSpacesCard

/-- THE TIED CARD OF 'manifoldlaw23.ScriptAhead'. -/
def scriptAheadCard : Claim7 := { stood := { row := scriptAheadRow, standIns := [], harness := (true, "5b019ecfef7d7adfe9d9fdcb1f01acf051f09e2121ff0adce09659ef01ddb903"), looks := true }, kinds := [], alts := [], laidByText := true, laidKinds := [.data, .data, .data, .data, .pinned], laidTests := true, laidLooks := .later }
def ScriptAheadCardSaid : Prop := Claim7.holds Tryz.pinned (.plain (OpenSpec.ofChange scriptAheadSpec)) scriptAheadCard

/-- THE SECOND FORM's CARD OF 'manifoldlaw23.ScriptSpaces'. -/
def scriptSpacesUptoCard : Claim7 := { stood := { row := scriptSpacesUptoRow, standIns := [], harness := (true, "5b019ecfef7d7adfe9d9fdcb1f01acf051f09e2121ff0adce09659ef01ddb903"), looks := true }, kinds := [], alts := [], laidByText := true, laidKinds := [.data, .data, .data, .data, .pinned], laidTests := true, laidLooks := .later }
def ScriptSpacesUptoCardSaid : Prop := Claim7.holds Tryz.pinned (.plain (OpenSpec.upto scriptSpacesSpec)) scriptSpacesUptoCard

/-- THE SECOND FORM's CARD OF 'manifoldlaw23.ScriptAhead'. -/
def scriptAheadUptoCard : Claim7 := { stood := { row := scriptAheadUptoRow, standIns := [], harness := (true, "5b019ecfef7d7adfe9d9fdcb1f01acf051f09e2121ff0adce09659ef01ddb903"), looks := true }, kinds := [], alts := [], laidByText := true, laidKinds := [.data, .data, .data, .data, .pinned], laidTests := true, laidLooks := .later }
def ScriptAheadUptoCardSaid : Prop := Claim7.holds Tryz.pinned (.plain (OpenSpec.upto scriptAheadSpec)) scriptAheadUptoCard
end Rows
end Go.Proofs.YtmgaiiffmheabaaGreatDoor
