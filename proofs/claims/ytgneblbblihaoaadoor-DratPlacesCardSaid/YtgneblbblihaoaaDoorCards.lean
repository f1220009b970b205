/-
  DERIVED. GIVEN WITH THE SEED: THE CARDS: each row of YtgneblbblihaoaaDoorRows.lean that lists a variable, with what it lists TIED to the program's text (the seventh form; the later family's looks); each row that meets fmt, with fmt's text TOLD by the authors' own Lean function (tested against real Go, not proved from fmt's source: count such statements apart). THE CARD IS WHAT COUNTS. Prove the row's statement (the work); the ties are given (YtgneblbblihaoaaDoorTie.lean); close each card by the builder's one call (the guide's Derived/Test/ToyasCard.lean, 'card_holds'). Laid BY PROGRAM, IN A SANDBOX (cutbox-door.mjs). By AI agents, Wed Nov 11 2026. No macro, syntax, notation, axiom, sorry.
-/
import Derived.Test.YtgneblbblihaoaaDoorRows
import GoSem.ClaimSeven
namespace Go.Proofs.YtgneblbblihaoaaDoor
namespace Rows

/-- THE TIED CARD OF 'skolemlaw6.PrefixSays'. -/
def prefixSaysCard : Claim7 := { stood := { row := prefixSaysRow, standIns := [], harness := (true, "cc832d4475c1df2f249c994398ea3a8dcd04cfe5fab5540c068fe3f33fccaed6"), looks := true }, kinds := [], alts := [], laidByText := true, laidKinds := [.sentinel, .sentinel, .sentinel, .sentinel, .sentinel, .sentinel, .sentinel], laidTests := true, laidLooks := .later }
def PrefixSaysCardSaid : Prop := Claim7.holds Tryd.pinned (.plain (OpenSpec.ofChange prefixSaysSpec)) prefixSaysCard

/-- THE TIED CARD OF 'skolemlaw6.PrefixMerges'. -/
def prefixMergesCard : Claim7 := { stood := { row := prefixMergesRow, standIns := [], harness := (true, "cc832d4475c1df2f249c994398ea3a8dcd04cfe5fab5540c068fe3f33fccaed6"), looks := true }, kinds := [], alts := [], laidByText := true, laidKinds := [.sentinel, .sentinel, .sentinel], laidTests := true, laidLooks := .later }
def PrefixMergesCardSaid : Prop := Claim7.holds Tryd.pinned (.plain (OpenSpec.ofChange prefixMergesSpec)) prefixMergesCard

/-- THE TIED CARD OF 'skolemlaw6.PrefixFree'. -/
def prefixFreeCard : Claim7 := { stood := { row := prefixFreeRow, standIns := [], harness := (true, "cc832d4475c1df2f249c994398ea3a8dcd04cfe5fab5540c068fe3f33fccaed6"), looks := true }, kinds := [], alts := [], laidByText := true, laidKinds := [.sentinel, .sentinel, .sentinel], laidTests := true, laidLooks := .later }
def PrefixFreeCardSaid : Prop := Claim7.holds Tryd.pinned (.plain (OpenSpec.ofChange prefixFreeSpec)) prefixFreeCard

/-- THE TIED CARD OF 'skolemlaw6.PrefixBlocks'. -/
def prefixBlocksCard : Claim7 := { stood := { row := prefixBlocksRow, standIns := [], harness := (true, "cc832d4475c1df2f249c994398ea3a8dcd04cfe5fab5540c068fe3f33fccaed6"), looks := true }, kinds := [], alts := [], laidByText := true, laidKinds := [.sentinel, .sentinel, .sentinel, .sentinel, .sentinel, .sentinel, .sentinel], laidTests := true, laidLooks := .later }
def PrefixBlocksCardSaid : Prop := Claim7.holds Tryd.pinned (.plain (OpenSpec.ofChange prefixBlocksSpec)) prefixBlocksCard

/-- THE TIED CARD OF 'skolemlaw6.PrefixMatrix'. -/
def prefixMatrixCard : Claim7 := { stood := { row := prefixMatrixRow, standIns := [], harness := (true, "cc832d4475c1df2f249c994398ea3a8dcd04cfe5fab5540c068fe3f33fccaed6"), looks := true }, kinds := [], alts := [], laidByText := true, laidKinds := [.sentinel, .sentinel, .sentinel], laidTests := true, laidLooks := .later }
def PrefixMatrixCardSaid : Prop := Claim7.holds Tryd.pinned (.plain (OpenSpec.ofChange prefixMatrixSpec)) prefixMatrixCard

/-- THE TIED CARD OF 'skolemlaw22.DratSound'. -/
def dratSoundCard : Claim7 := { stood := { row := dratSoundRow, standIns := [], harness := (true, "cc832d4475c1df2f249c994398ea3a8dcd04cfe5fab5540c068fe3f33fccaed6"), looks := true }, kinds := [], alts := [], laidByText := true, laidKinds := [.sentinel, .sentinel, .sentinel], laidTests := true, laidLooks := .later }
def DratSoundCardSaid : Prop := Claim7.holds Tryd.pinned (.plain (OpenSpec.ofChange dratSoundSpec)) dratSoundCard

/-- THE TIED CARD OF 'skolemlaw22.DratPlaces'. -/
def dratPlacesCard : Claim7 := { stood := { row := dratPlacesRow, standIns := [], harness := (true, "cc832d4475c1df2f249c994398ea3a8dcd04cfe5fab5540c068fe3f33fccaed6"), looks := true }, kinds := [], alts := [], laidByText := true, laidKinds := [.sentinel, .sentinel, .sentinel, .sentinel, .sentinel, .sentinel, .sentinel], laidTests := true, laidLooks := .later }
def DratPlacesCardSaid : Prop := Claim7.holds Tryd.pinned (.plain (OpenSpec.ofChange dratPlacesSpec)) dratPlacesCard

/-- THE TIED CARD OF 'skolemlaw22.DratGoals'. -/
def dratGoalsCard : Claim7 := { stood := { row := dratGoalsRow, standIns := [], harness := (true, "cc832d4475c1df2f249c994398ea3a8dcd04cfe5fab5540c068fe3f33fccaed6"), looks := true }, kinds := [], alts := [], laidByText := true, laidKinds := [.sentinel, .sentinel, .sentinel, .sentinel, .sentinel, .sentinel, .sentinel], laidTests := true, laidLooks := .later }
def DratGoalsCardSaid : Prop := Claim7.holds Tryd.pinned (.plain (OpenSpec.ofChange dratGoalsSpec)) dratGoalsCard

/-- THE TIED CARD OF 'skolemlaw22.DratDrops'. -/
def dratDropsCard : Claim7 := { stood := { row := dratDropsRow, standIns := [], harness := (true, "cc832d4475c1df2f249c994398ea3a8dcd04cfe5fab5540c068fe3f33fccaed6"), looks := true }, kinds := [], alts := [], laidByText := true, laidKinds := [.sentinel, .sentinel, .sentinel, .sentinel, .sentinel, .sentinel, .sentinel], laidTests := true, laidLooks := .later }
def DratDropsCardSaid : Prop := Claim7.holds Tryd.pinned (.plain (OpenSpec.ofChange dratDropsSpec)) dratDropsCard

/-- THE TIED CARD OF 'skolemlaw19.IncrLimits'. -/
def incrLimitsCard : Claim7 := { stood := { row := incrLimitsRow, standIns := [], harness := (true, "cc832d4475c1df2f249c994398ea3a8dcd04cfe5fab5540c068fe3f33fccaed6"), looks := true }, kinds := [], alts := [], laidByText := true, laidKinds := [.sentinel, .sentinel, .sentinel, .sentinel, .sentinel, .sentinel, .sentinel], laidTests := true, laidLooks := .later }
def IncrLimitsCardSaid : Prop := Claim7.holds Tryd.pinned (.plain (OpenSpec.ofChange incrLimitsSpec)) incrLimitsCard

/-- THE TIED CARD OF 'skolemlaw19.IncrSays'. -/
def incrSaysCard : Claim7 := { stood := { row := incrSaysRow, standIns := [], harness := (true, "cc832d4475c1df2f249c994398ea3a8dcd04cfe5fab5540c068fe3f33fccaed6"), looks := true }, kinds := [], alts := [], laidByText := true, laidKinds := [.sentinel, .sentinel, .sentinel, .sentinel, .sentinel, .sentinel, .sentinel], laidTests := true, laidLooks := .later }
def IncrSaysCardSaid : Prop := Claim7.holds Tryd.pinned (.plain (OpenSpec.ofChange incrSaysSpec)) incrSaysCard

/-- THE SECOND FORM's CARD OF 'skolemlaw6.PrefixSays'. -/
def prefixSaysUptoCard : Claim7 := { stood := { row := prefixSaysUptoRow, standIns := [], harness := (true, "cc832d4475c1df2f249c994398ea3a8dcd04cfe5fab5540c068fe3f33fccaed6"), looks := true }, kinds := [], alts := [], laidByText := true, laidKinds := [.sentinel, .sentinel, .sentinel, .sentinel, .sentinel, .sentinel, .sentinel], laidTests := true, laidLooks := .later }
def PrefixSaysUptoCardSaid : Prop := Claim7.holds Tryd.pinned (.plain (OpenSpec.upto prefixSaysSpec)) prefixSaysUptoCard

/-- THE SECOND FORM's CARD OF 'skolemlaw6.PrefixMerges'. -/
def prefixMergesUptoCard : Claim7 := { stood := { row := prefixMergesUptoRow, standIns := [], harness := (true, "cc832d4475c1df2f249c994398ea3a8dcd04cfe5fab5540c068fe3f33fccaed6"), looks := true }, kinds := [], alts := [], laidByText := true, laidKinds := [.sentinel, .sentinel, .sentinel], laidTests := true, laidLooks := .later }
def PrefixMergesUptoCardSaid : Prop := Claim7.holds Tryd.pinned (.plain (OpenSpec.upto prefixMergesSpec)) prefixMergesUptoCard

/-- THE SECOND FORM's CARD OF 'skolemlaw6.PrefixFree'. -/
def prefixFreeUptoCard : Claim7 := { stood := { row := prefixFreeUptoRow, standIns := [], harness := (true, "cc832d4475c1df2f249c994398ea3a8dcd04cfe5fab5540c068fe3f33fccaed6"), looks := true }, kinds := [], alts := [], laidByText := true, laidKinds := [.sentinel, .sentinel, .sentinel], laidTests := true, laidLooks := .later }
def PrefixFreeUptoCardSaid : Prop := Claim7.holds Tryd.pinned (.plain (OpenSpec.upto prefixFreeSpec)) prefixFreeUptoCard

/-- THE SECOND FORM's CARD OF 'skolemlaw6.PrefixBlocks'. -/
def prefixBlocksUptoCard : Claim7 := { stood := { row := prefixBlocksUptoRow, standIns := [], harness := (true, "cc832d4475c1df2f249c994398ea3a8dcd04cfe5fab5540c068fe3f33fccaed6"), looks := true }, kinds := [], alts := [], laidByText := true, laidKinds := [.sentinel, .sentinel, .sentinel, .sentinel, .sentinel, .sentinel, .sentinel], laidTests := true, laidLooks := .later }
def PrefixBlocksUptoCardSaid : Prop := Claim7.holds Tryd.pinned (.plain (OpenSpec.upto prefixBlocksSpec)) prefixBlocksUptoCard

/-- THE SECOND FORM's CARD OF 'skolemlaw6.PrefixMatrix'. -/
def prefixMatrixUptoCard : Claim7 := { stood := { row := prefixMatrixUptoRow, standIns := [], harness := (true, "cc832d4475c1df2f249c994398ea3a8dcd04cfe5fab5540c068fe3f33fccaed6"), looks := true }, kinds := [], alts := [], laidByText := true, laidKinds := [.sentinel, .sentinel, .sentinel], laidTests := true, laidLooks := .later }
def PrefixMatrixUptoCardSaid : Prop := Claim7.holds Tryd.pinned (.plain (OpenSpec.upto prefixMatrixSpec)) prefixMatrixUptoCard

/-- THE SECOND FORM's CARD OF 'skolemlaw22.DratSound'. -/
def dratSoundUptoCard : Claim7 := { stood := { row := dratSoundUptoRow, standIns := [], harness := (true, "cc832d4475c1df2f249c994398ea3a8dcd04cfe5fab5540c068fe3f33fccaed6"), looks := true }, kinds := [], alts := [], laidByText := true, laidKinds := [.sentinel, .sentinel, .sentinel], laidTests := true, laidLooks := .later }
def DratSoundUptoCardSaid : Prop := Claim7.holds Tryd.pinned (.plain (OpenSpec.upto dratSoundSpec)) dratSoundUptoCard

/-- THE SECOND FORM's CARD OF 'skolemlaw22.DratPlaces'. -/
def dratPlacesUptoCard : Claim7 := { stood := { row := dratPlacesUptoRow, standIns := [], harness := (true, "cc832d4475c1df2f249c994398ea3a8dcd04cfe5fab5540c068fe3f33fccaed6"), looks := true }, kinds := [], alts := [], laidByText := true, laidKinds := [.sentinel, .sentinel, .sentinel, .sentinel, .sentinel, .sentinel, .sentinel], laidTests := true, laidLooks := .later }
def DratPlacesUptoCardSaid : Prop := Claim7.holds Tryd.pinned (.plain (OpenSpec.upto dratPlacesSpec)) dratPlacesUptoCard

/-- THE SECOND FORM's CARD OF 'skolemlaw22.DratGoals'. -/
def dratGoalsUptoCard : Claim7 := { stood := { row := dratGoalsUptoRow, standIns := [], harness := (true, "cc832d4475c1df2f249c994398ea3a8dcd04cfe5fab5540c068fe3f33fccaed6"), looks := true }, kinds := [], alts := [], laidByText := true, laidKinds := [.sentinel, .sentinel, .sentinel, .sentinel, .sentinel, .sentinel, .sentinel], laidTests := true, laidLooks := .later }
def DratGoalsUptoCardSaid : Prop := Claim7.holds Tryd.pinned (.plain (OpenSpec.upto dratGoalsSpec)) dratGoalsUptoCard

/-- THE SECOND FORM's CARD OF 'skolemlaw22.DratDrops'. -/
def dratDropsUptoCard : Claim7 := { stood := { row := dratDropsUptoRow, standIns := [], harness := (true, "cc832d4475c1df2f249c994398ea3a8dcd04cfe5fab5540c068fe3f33fccaed6"), looks := true }, kinds := [], alts := [], laidByText := true, laidKinds := [.sentinel, .sentinel, .sentinel, .sentinel, .sentinel, .sentinel, .sentinel], laidTests := true, laidLooks := .later }
def DratDropsUptoCardSaid : Prop := Claim7.holds Tryd.pinned (.plain (OpenSpec.upto dratDropsSpec)) dratDropsUptoCard

/-- THE SECOND FORM's CARD OF 'skolemlaw19.IncrLimits'. -/
def incrLimitsUptoCard : Claim7 := { stood := { row := incrLimitsUptoRow, standIns := [], harness := (true, "cc832d4475c1df2f249c994398ea3a8dcd04cfe5fab5540c068fe3f33fccaed6"), looks := true }, kinds := [], alts := [], laidByText := true, laidKinds := [.sentinel, .sentinel, .sentinel, .sentinel, .sentinel, .sentinel, .sentinel], laidTests := true, laidLooks := .later }
def IncrLimitsUptoCardSaid : Prop := Claim7.holds Tryd.pinned (.plain (OpenSpec.upto incrLimitsSpec)) incrLimitsUptoCard

/-- THE SECOND FORM's CARD OF 'skolemlaw19.IncrSays'. -/
def incrSaysUptoCard : Claim7 := { stood := { row := incrSaysUptoRow, standIns := [], harness := (true, "cc832d4475c1df2f249c994398ea3a8dcd04cfe5fab5540c068fe3f33fccaed6"), looks := true }, kinds := [], alts := [], laidByText := true, laidKinds := [.sentinel, .sentinel, .sentinel, .sentinel, .sentinel, .sentinel, .sentinel], laidTests := true, laidLooks := .later }
def IncrSaysUptoCardSaid : Prop := Claim7.holds Tryd.pinned (.plain (OpenSpec.upto incrSaysSpec)) incrSaysUptoCard
end Rows
end Go.Proofs.YtgneblbblihaoaaDoor
