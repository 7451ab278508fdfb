/-
  DERIVED. GIVEN WITH THE SEED: THE CARDS: each row of YtcdmdlplekgebaaGreatDoorRows.lean that lists a variable, with what it lists TIED to the program's text (the seventh form; the later family's looks); each row that meets fmt, with fmt's text TOLD by the authors' own Lean function (tested against real Go, not proved from fmt's source: count such statements apart). THE CARD IS WHAT COUNTS. Prove the row's statement (the work); the ties are given (YtcdmdlplekgebaaGreatDoorTie.lean); close each card by the builder's one call (the guide's Derived/Test/ToyasCard.lean, 'card_holds'). Laid BY PROGRAM, IN A SANDBOX (cutbox-door.mjs). By AI agents, Wed Nov 11 2026. No macro, syntax, notation, axiom, sorry.
-/
import Derived.Test.YtcdmdlplekgebaaGreatDoorRows
import GoSem.ClaimSeven
namespace Go.Proofs.YtcdmdlplekgebaaGreatDoor
namespace Rows

/-- THE TIED CARD OF 'pasodoblelaw19.GameFewer'. -/
def gameFewerCard : Claim7 := { stood := { row := gameFewerRow, standIns := [], harness := (true, "97cfbbb3cf1a1b8c63fdaeec9f512b221ebfede6820e05c4fe398dacb42ebad9"), looks := true }, kinds := [], alts := [], laidByText := true, laidKinds := [.data, .data, .data, .sentinel, .sentinel, .sentinel, .sentinel, .sentinel, .sentinel, .sentinel, .sentinel, .sentinel, .sentinel, .sentinel, .sentinel, .sentinel, .sentinel, .sentinel, .sentinel, .sentinel, .sentinel, .data], laidTests := true, laidLooks := .later }
def GameFewerCardSaid : Prop := Claim7.holds Tryz.pinned (.plain (OpenSpec.ofChange gameFewerSpec)) gameFewerCard

/-- THE SECOND FORM's CARD OF 'pasodoblelaw19.GameFewer'. -/
def gameFewerUptoCard : Claim7 := { stood := { row := gameFewerUptoRow, standIns := [], harness := (true, "97cfbbb3cf1a1b8c63fdaeec9f512b221ebfede6820e05c4fe398dacb42ebad9"), looks := true }, kinds := [], alts := [], laidByText := true, laidKinds := [.data, .data, .data, .sentinel, .sentinel, .sentinel, .sentinel, .sentinel, .sentinel, .sentinel, .sentinel, .sentinel, .sentinel, .sentinel, .sentinel, .sentinel, .sentinel, .sentinel, .sentinel, .sentinel, .sentinel, .data], laidTests := true, laidLooks := .later }
def GameFewerUptoCardSaid : Prop := Claim7.holds Tryz.pinned (.plain (OpenSpec.upto gameFewerSpec)) gameFewerUptoCard
end Rows
end Go.Proofs.YtcdmdlplekgebaaGreatDoor
