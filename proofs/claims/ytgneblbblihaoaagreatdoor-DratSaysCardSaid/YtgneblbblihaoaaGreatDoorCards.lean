/-
  DERIVED. GIVEN WITH THE SEED: THE CARDS: each row of YtgneblbblihaoaaGreatDoorRows.lean that lists a variable, with what it lists TIED to the program's text (the seventh form; the later family's looks); each row that meets fmt, with fmt's text TOLD by the authors' own Lean function (tested against real Go, not proved from fmt's source: count such statements apart). THE CARD IS WHAT COUNTS. Prove the row's statement (the work); the ties are given (YtgneblbblihaoaaGreatDoorTie.lean); close each card by the builder's one call (the guide's Derived/Test/ToyasCard.lean, 'card_holds'). Laid BY PROGRAM, IN A SANDBOX (cutbox-door.mjs). By AI agents, Wed Nov 11 2026. No macro, syntax, notation, axiom, sorry.
-/
import Derived.Test.YtgneblbblihaoaaGreatDoorRows
import GoSem.ClaimSeven
namespace Go.Proofs.YtgneblbblihaoaaGreatDoor
namespace Rows

/-- THE TIED CARD OF 'skolemlaw22.DratSays'. -/
def dratSaysCard : Claim7 := { stood := { row := dratSaysRow, standIns := [], harness := (true, "5662f44d5e6bbce203d348da03b932f4f575be16adf8e469d5edf334119255dd"), looks := true }, kinds := [], alts := [], laidByText := true, laidKinds := [.sentinel, .sentinel, .sentinel, .sentinel, .sentinel, .sentinel, .sentinel], laidTests := true, laidLooks := .later }
def DratSaysCardSaid : Prop := Claim7.holds Tryz.pinned (.plain (OpenSpec.ofChange dratSaysSpec)) dratSaysCard

/-- THE SECOND FORM's CARD OF 'skolemlaw22.DratSays'. -/
def dratSaysUptoCard : Claim7 := { stood := { row := dratSaysUptoRow, standIns := [], harness := (true, "5662f44d5e6bbce203d348da03b932f4f575be16adf8e469d5edf334119255dd"), looks := true }, kinds := [], alts := [], laidByText := true, laidKinds := [.sentinel, .sentinel, .sentinel, .sentinel, .sentinel, .sentinel, .sentinel], laidTests := true, laidLooks := .later }
def DratSaysUptoCardSaid : Prop := Claim7.holds Tryz.pinned (.plain (OpenSpec.upto dratSaysSpec)) dratSaysUptoCard
end Rows
end Go.Proofs.YtgneblbblihaoaaGreatDoor
