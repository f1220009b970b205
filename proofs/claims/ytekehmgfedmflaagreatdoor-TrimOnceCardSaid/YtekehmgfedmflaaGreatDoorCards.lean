/-
  DERIVED. GIVEN WITH THE SEED: THE CARDS: each row of YtekehmgfedmflaaGreatDoorRows.lean that lists a variable, with what it lists TIED to the program's text (the seventh form; the later family's looks); each row that meets fmt, with fmt's text TOLD by the authors' own Lean function (tested against real Go, not proved from fmt's source: count such statements apart). THE CARD IS WHAT COUNTS. Prove the row's statement (the work); the ties are given (YtekehmgfedmflaaGreatDoorTie.lean); close each card by the builder's one call (the guide's Derived/Test/ToyasCard.lean, 'card_holds'). Laid BY PROGRAM, IN A SANDBOX (cutbox-door.mjs). By AI agents, Wed Nov 11 2026. No macro, syntax, notation, axiom, sorry.
-/
import Derived.Test.YtekehmgfedmflaaGreatDoorRows
import GoSem.ClaimSeven
namespace Go.Proofs.YtekehmgfedmflaaGreatDoor
namespace Rows

/-- THE TIED CARD OF 'skolemlaw25.TrimOnce'. -/
def trimOnceCard : Claim7 := { stood := { row := trimOnceRow, standIns := [], harness := (true, "9e05881245c26757346e6036be4e28f4e18b4d75c99af3c8860c52ddb84f9133"), looks := true }, kinds := [], alts := [], laidByText := true, laidKinds := [.sentinel, .sentinel, .sentinel], laidTests := true, laidLooks := .later }
def TrimOnceCardSaid : Prop := Claim7.holds Tryz.pinned (.plain (OpenSpec.ofChange trimOnceSpec)) trimOnceCard

/-- THE TIED CARD OF 'skolemlaw25.TrimBudgets'. -/
def trimBudgetsCard : Claim7 := { stood := { row := trimBudgetsRow, standIns := [], harness := (true, "9e05881245c26757346e6036be4e28f4e18b4d75c99af3c8860c52ddb84f9133"), looks := true }, kinds := [], alts := [], laidByText := true, laidKinds := [.sentinel, .sentinel, .sentinel, .sentinel, .sentinel, .sentinel, .sentinel], laidTests := true, laidLooks := .later }
def TrimBudgetsCardSaid : Prop := Claim7.holds Tryz.pinned (.plain (OpenSpec.ofChange trimBudgetsSpec)) trimBudgetsCard

/-- THE TIED CARD OF 'skolemlaw23.CegarSays'. -/
def cegarSaysCard : Claim7 := { stood := { row := cegarSaysRow, standIns := [], harness := (true, "9e05881245c26757346e6036be4e28f4e18b4d75c99af3c8860c52ddb84f9133"), looks := true }, kinds := [], alts := [], laidByText := true, laidKinds := [.sentinel, .sentinel, .sentinel, .sentinel, .sentinel, .sentinel, .sentinel], laidTests := true, laidLooks := .later }
def CegarSaysCardSaid : Prop := Claim7.holds Tryz.pinned (.plain (OpenSpec.ofChange cegarSaysSpec)) cegarSaysCard

/-- THE SECOND FORM's CARD OF 'skolemlaw25.TrimOnce'. -/
def trimOnceUptoCard : Claim7 := { stood := { row := trimOnceUptoRow, standIns := [], harness := (true, "9e05881245c26757346e6036be4e28f4e18b4d75c99af3c8860c52ddb84f9133"), looks := true }, kinds := [], alts := [], laidByText := true, laidKinds := [.sentinel, .sentinel, .sentinel], laidTests := true, laidLooks := .later }
def TrimOnceUptoCardSaid : Prop := Claim7.holds Tryz.pinned (.plain (OpenSpec.upto trimOnceSpec)) trimOnceUptoCard

/-- THE SECOND FORM's CARD OF 'skolemlaw25.TrimBudgets'. -/
def trimBudgetsUptoCard : Claim7 := { stood := { row := trimBudgetsUptoRow, standIns := [], harness := (true, "9e05881245c26757346e6036be4e28f4e18b4d75c99af3c8860c52ddb84f9133"), looks := true }, kinds := [], alts := [], laidByText := true, laidKinds := [.sentinel, .sentinel, .sentinel, .sentinel, .sentinel, .sentinel, .sentinel], laidTests := true, laidLooks := .later }
def TrimBudgetsUptoCardSaid : Prop := Claim7.holds Tryz.pinned (.plain (OpenSpec.upto trimBudgetsSpec)) trimBudgetsUptoCard

/-- THE SECOND FORM's CARD OF 'skolemlaw23.CegarSays'. -/
def cegarSaysUptoCard : Claim7 := { stood := { row := cegarSaysUptoRow, standIns := [], harness := (true, "9e05881245c26757346e6036be4e28f4e18b4d75c99af3c8860c52ddb84f9133"), looks := true }, kinds := [], alts := [], laidByText := true, laidKinds := [.sentinel, .sentinel, .sentinel, .sentinel, .sentinel, .sentinel, .sentinel], laidTests := true, laidLooks := .later }
def CegarSaysUptoCardSaid : Prop := Claim7.holds Tryz.pinned (.plain (OpenSpec.upto cegarSaysSpec)) cegarSaysUptoCard
end Rows
end Go.Proofs.YtekehmgfedmflaaGreatDoor
