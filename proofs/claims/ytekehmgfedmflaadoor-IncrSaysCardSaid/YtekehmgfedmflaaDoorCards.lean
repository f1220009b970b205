/-
  DERIVED. GIVEN WITH THE SEED: THE CARDS: each row of YtekehmgfedmflaaDoorRows.lean that lists a variable, with what it lists TIED to the program's text (the seventh form; the later family's looks); each row that meets fmt, with fmt's text TOLD by the authors' own Lean function (tested against real Go, not proved from fmt's source: count such statements apart). THE CARD IS WHAT COUNTS. Prove the row's statement (the work); the ties are given (YtekehmgfedmflaaDoorTie.lean); close each card by the builder's one call (the guide's Derived/Test/ToyasCard.lean, 'card_holds'). Laid BY PROGRAM, IN A SANDBOX (cutbox-door.mjs). By AI agents, Wed Nov 11 2026. No macro, syntax, notation, axiom, sorry.
-/
import Derived.Test.YtekehmgfedmflaaDoorRows
import GoSem.ClaimSeven
namespace Go.Proofs.YtekehmgfedmflaaDoor
namespace Rows

/-- THE TIED CARD OF 'skolemlaw19.IncrLimits'. -/
def incrLimitsCard : Claim7 := { stood := { row := incrLimitsRow, standIns := [], harness := (true, "a96df2655ede89aa27b8e4a1b77ae2f42fc06fe3ce0b5d7a1a0d25f584a6c5d6"), looks := true }, kinds := [], alts := [], laidByText := true, laidKinds := [.sentinel, .sentinel, .sentinel, .sentinel, .sentinel, .sentinel, .sentinel], laidTests := true, laidLooks := .later }
def IncrLimitsCardSaid : Prop := Claim7.holds Tryd.pinned (.plain (OpenSpec.ofChange incrLimitsSpec)) incrLimitsCard

/-- THE TIED CARD OF 'skolemlaw19.IncrSays'. -/
def incrSaysCard : Claim7 := { stood := { row := incrSaysRow, standIns := [], harness := (true, "a96df2655ede89aa27b8e4a1b77ae2f42fc06fe3ce0b5d7a1a0d25f584a6c5d6"), looks := true }, kinds := [], alts := [], laidByText := true, laidKinds := [.sentinel, .sentinel, .sentinel, .sentinel, .sentinel, .sentinel, .sentinel], laidTests := true, laidLooks := .later }
def IncrSaysCardSaid : Prop := Claim7.holds Tryd.pinned (.plain (OpenSpec.ofChange incrSaysSpec)) incrSaysCard

/-- THE SECOND FORM's CARD OF 'skolemlaw19.IncrLimits'. -/
def incrLimitsUptoCard : Claim7 := { stood := { row := incrLimitsUptoRow, standIns := [], harness := (true, "a96df2655ede89aa27b8e4a1b77ae2f42fc06fe3ce0b5d7a1a0d25f584a6c5d6"), looks := true }, kinds := [], alts := [], laidByText := true, laidKinds := [.sentinel, .sentinel, .sentinel, .sentinel, .sentinel, .sentinel, .sentinel], laidTests := true, laidLooks := .later }
def IncrLimitsUptoCardSaid : Prop := Claim7.holds Tryd.pinned (.plain (OpenSpec.upto incrLimitsSpec)) incrLimitsUptoCard

/-- THE SECOND FORM's CARD OF 'skolemlaw19.IncrSays'. -/
def incrSaysUptoCard : Claim7 := { stood := { row := incrSaysUptoRow, standIns := [], harness := (true, "a96df2655ede89aa27b8e4a1b77ae2f42fc06fe3ce0b5d7a1a0d25f584a6c5d6"), looks := true }, kinds := [], alts := [], laidByText := true, laidKinds := [.sentinel, .sentinel, .sentinel, .sentinel, .sentinel, .sentinel, .sentinel], laidTests := true, laidLooks := .later }
def IncrSaysUptoCardSaid : Prop := Claim7.holds Tryd.pinned (.plain (OpenSpec.upto incrSaysSpec)) incrSaysUptoCard
end Rows
end Go.Proofs.YtekehmgfedmflaaDoor
