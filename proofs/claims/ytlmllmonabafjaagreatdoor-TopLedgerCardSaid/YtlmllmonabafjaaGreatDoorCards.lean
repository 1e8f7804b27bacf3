/-
  DERIVED. GIVEN WITH THE SEED: THE CARDS: each row of YtlmllmonabafjaaGreatDoorRows.lean that lists a variable, with what it lists TIED to the program's text (the seventh form; the later family's looks); each row that meets fmt, with fmt's text TOLD by the authors' own Lean function (tested against real Go, not proved from fmt's source: count such statements apart). THE CARD IS WHAT COUNTS. Prove the row's statement (the work); the ties are given (YtlmllmonabafjaaGreatDoorTie.lean); close each card by the builder's one call (the guide's Derived/Test/ToyasCard.lean, 'card_holds'). Laid BY PROGRAM, IN A SANDBOX (cutbox-door.mjs). By AI agents, Wed Nov 11 2026. No macro, syntax, notation, axiom, sorry.
-/
import Derived.Test.YtlmllmonabafjaaGreatDoorRows
import GoSem.ClaimSeven
namespace Go.Proofs.YtlmllmonabafjaaGreatDoor
namespace Rows

/-- THE TIED CARD OF 'manifoldtop.TopStream'. -/
def topStreamCard : Claim7 := { stood := { row := topStreamRow, standIns := [], harness := (true, "c2719324d7de8d4e51ec0b7389b9a09fcba36172d0414345a13e395b699a05e6"), looks := true }, kinds := [], alts := [], laidByText := true, laidKinds := [.data, .data, .data, .data, .pinned], laidTests := true, laidLooks := .later }
def TopStreamCardSaid : Prop := Claim7.holds Tryz.pinned (.plain (OpenSpec.ofChange topStreamSpec)) topStreamCard

/-- THE TIED CARD OF 'manifoldtop.TopLedger'. -/
def topLedgerCard : Claim7 := { stood := { row := topLedgerRow, standIns := [], harness := (true, "c2719324d7de8d4e51ec0b7389b9a09fcba36172d0414345a13e395b699a05e6"), looks := true }, kinds := [], alts := [], laidByText := true, laidKinds := [.data, .data, .data, .data, .pinned], laidTests := true, laidLooks := .later }
def TopLedgerCardSaid : Prop := Claim7.holds Tryz.pinned (.plain (OpenSpec.ofChange topLedgerSpec)) topLedgerCard

/-- THE TIED CARD OF 'manifoldtop.TopDrains'. -/
def topDrainsCard : Claim7 := { stood := { row := topDrainsRow, standIns := [], harness := (true, "c2719324d7de8d4e51ec0b7389b9a09fcba36172d0414345a13e395b699a05e6"), looks := true }, kinds := [], alts := [], laidByText := true, laidKinds := [.data, .data, .data, .data, .pinned], laidTests := true, laidLooks := .later }
def TopDrainsCardSaid : Prop := Claim7.holds Tryz.pinned (.plain (OpenSpec.ofChange topDrainsSpec)) topDrainsCard

/-- THE TIED CARD OF 'manifoldtop.TopEnds'. -/
def topEndsCard : Claim7 := { stood := { row := topEndsRow, standIns := [], harness := (true, "c2719324d7de8d4e51ec0b7389b9a09fcba36172d0414345a13e395b699a05e6"), looks := true }, kinds := [], alts := [], laidByText := true, laidKinds := [.data, .data, .data, .data, .pinned], laidTests := true, laidLooks := .later }
def TopEndsCardSaid : Prop := Claim7.holds Tryz.pinned (.plain (OpenSpec.ofChange topEndsSpec)) topEndsCard

/-- THE TIED CARD OF 'manifoldtop.TopSwitch'. -/
def topSwitchCard : Claim7 := { stood := { row := topSwitchRow, standIns := [], harness := (true, "c2719324d7de8d4e51ec0b7389b9a09fcba36172d0414345a13e395b699a05e6"), looks := true }, kinds := [], alts := [], laidByText := true, laidKinds := [.data, .data, .data, .data, .pinned], laidTests := true, laidLooks := .later }
def TopSwitchCardSaid : Prop := Claim7.holds Tryz.pinned (.plain (OpenSpec.ofChange topSwitchSpec)) topSwitchCard

/-- THE SECOND FORM's CARD OF 'manifoldtop.TopStream'. -/
def topStreamUptoCard : Claim7 := { stood := { row := topStreamUptoRow, standIns := [], harness := (true, "c2719324d7de8d4e51ec0b7389b9a09fcba36172d0414345a13e395b699a05e6"), looks := true }, kinds := [], alts := [], laidByText := true, laidKinds := [.data, .data, .data, .data, .pinned], laidTests := true, laidLooks := .later }
def TopStreamUptoCardSaid : Prop := Claim7.holds Tryz.pinned (.plain (OpenSpec.upto topStreamSpec)) topStreamUptoCard

/-- THE SECOND FORM's CARD OF 'manifoldtop.TopLedger'. -/
def topLedgerUptoCard : Claim7 := { stood := { row := topLedgerUptoRow, standIns := [], harness := (true, "c2719324d7de8d4e51ec0b7389b9a09fcba36172d0414345a13e395b699a05e6"), looks := true }, kinds := [], alts := [], laidByText := true, laidKinds := [.data, .data, .data, .data, .pinned], laidTests := true, laidLooks := .later }
def TopLedgerUptoCardSaid : Prop := Claim7.holds Tryz.pinned (.plain (OpenSpec.upto topLedgerSpec)) topLedgerUptoCard

/-- THE SECOND FORM's CARD OF 'manifoldtop.TopDrains'. -/
def topDrainsUptoCard : Claim7 := { stood := { row := topDrainsUptoRow, standIns := [], harness := (true, "c2719324d7de8d4e51ec0b7389b9a09fcba36172d0414345a13e395b699a05e6"), looks := true }, kinds := [], alts := [], laidByText := true, laidKinds := [.data, .data, .data, .data, .pinned], laidTests := true, laidLooks := .later }
def TopDrainsUptoCardSaid : Prop := Claim7.holds Tryz.pinned (.plain (OpenSpec.upto topDrainsSpec)) topDrainsUptoCard

/-- THE SECOND FORM's CARD OF 'manifoldtop.TopEnds'. -/
def topEndsUptoCard : Claim7 := { stood := { row := topEndsUptoRow, standIns := [], harness := (true, "c2719324d7de8d4e51ec0b7389b9a09fcba36172d0414345a13e395b699a05e6"), looks := true }, kinds := [], alts := [], laidByText := true, laidKinds := [.data, .data, .data, .data, .pinned], laidTests := true, laidLooks := .later }
def TopEndsUptoCardSaid : Prop := Claim7.holds Tryz.pinned (.plain (OpenSpec.upto topEndsSpec)) topEndsUptoCard

/-- THE SECOND FORM's CARD OF 'manifoldtop.TopSwitch'. -/
def topSwitchUptoCard : Claim7 := { stood := { row := topSwitchUptoRow, standIns := [], harness := (true, "c2719324d7de8d4e51ec0b7389b9a09fcba36172d0414345a13e395b699a05e6"), looks := true }, kinds := [], alts := [], laidByText := true, laidKinds := [.data, .data, .data, .data, .pinned], laidTests := true, laidLooks := .later }
def TopSwitchUptoCardSaid : Prop := Claim7.holds Tryz.pinned (.plain (OpenSpec.upto topSwitchSpec)) topSwitchUptoCard
end Rows
end Go.Proofs.YtlmllmonabafjaaGreatDoor
