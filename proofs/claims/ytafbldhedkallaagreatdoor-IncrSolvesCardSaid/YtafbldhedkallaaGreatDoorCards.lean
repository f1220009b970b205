/-
  DERIVED. GIVEN WITH THE SEED: THE CARDS: each row of YtafbldhedkallaaGreatDoorRows.lean that lists a variable, with what it lists TIED to the program's text (the seventh form; the later family's looks); each row that meets fmt, with fmt's text TOLD by the authors' own Lean function (tested against real Go, not proved from fmt's source: count such statements apart). THE CARD IS WHAT COUNTS. Prove the row's statement (the work); the ties are given (YtafbldhedkallaaGreatDoorTie.lean); close each card by the builder's one call (the guide's Derived/Test/ToyasCard.lean, 'card_holds'). Laid BY PROGRAM, IN A SANDBOX (cutbox-door.mjs). By AI agents, Wed Nov 11 2026. No macro, syntax, notation, axiom, sorry.
-/
import Derived.Test.YtafbldhedkallaaGreatDoorRows
import GoSem.ClaimSeven
namespace Go.Proofs.YtafbldhedkallaaGreatDoor
namespace Rows

/-- THE TIED CARD OF 'skolemlaw18.SatSays'. -/
def satSaysCard : Claim7 := { stood := { row := satSaysRow, standIns := [], harness := (true, "d3f08bc9b840a75add07a115cecd19ca221019613f4d0ffe120d27ae60b99ab4"), looks := true }, kinds := [], alts := [], laidByText := true, laidKinds := [.sentinel, .sentinel, .sentinel, .sentinel, .sentinel, .sentinel, .sentinel], laidTests := true, laidLooks := .later }
def SatSaysCardSaid : Prop := Claim7.holds Tryz.pinned (.plain (OpenSpec.ofChange satSaysSpec)) satSaysCard

/-- THE TIED CARD OF 'skolemlaw18.SatAssumes'. -/
def satAssumesCard : Claim7 := { stood := { row := satAssumesRow, standIns := [], harness := (true, "d3f08bc9b840a75add07a115cecd19ca221019613f4d0ffe120d27ae60b99ab4"), looks := true }, kinds := [], alts := [], laidByText := true, laidKinds := [.sentinel, .sentinel, .sentinel], laidTests := true, laidLooks := .later }
def SatAssumesCardSaid : Prop := Claim7.holds Tryz.pinned (.plain (OpenSpec.ofChange satAssumesSpec)) satAssumesCard

/-- THE TIED CARD OF 'skolemlaw18.SatHoles'. -/
def satHolesCard : Claim7 := { stood := { row := satHolesRow, standIns := [], harness := (true, "d3f08bc9b840a75add07a115cecd19ca221019613f4d0ffe120d27ae60b99ab4"), looks := true }, kinds := [], alts := [], laidByText := true, laidKinds := [.sentinel, .sentinel, .sentinel], laidTests := true, laidLooks := .later }
def SatHolesCardSaid : Prop := Claim7.holds Tryz.pinned (.plain (OpenSpec.ofChange satHolesSpec)) satHolesCard

/-- THE TIED CARD OF 'skolemlaw18.SatMore'. -/
def satMoreCard : Claim7 := { stood := { row := satMoreRow, standIns := [], harness := (true, "d3f08bc9b840a75add07a115cecd19ca221019613f4d0ffe120d27ae60b99ab4"), looks := true }, kinds := [], alts := [], laidByText := true, laidKinds := [.sentinel, .sentinel, .sentinel, .sentinel, .sentinel, .sentinel, .sentinel], laidTests := true, laidLooks := .later }
def SatMoreCardSaid : Prop := Claim7.holds Tryz.pinned (.plain (OpenSpec.ofChange satMoreSpec)) satMoreCard

/-- THE TIED CARD OF 'skolemlaw18.SatUnits'. -/
def satUnitsCard : Claim7 := { stood := { row := satUnitsRow, standIns := [], harness := (true, "d3f08bc9b840a75add07a115cecd19ca221019613f4d0ffe120d27ae60b99ab4"), looks := true }, kinds := [], alts := [], laidByText := true, laidKinds := [.sentinel, .sentinel, .sentinel], laidTests := true, laidLooks := .later }
def SatUnitsCardSaid : Prop := Claim7.holds Tryz.pinned (.plain (OpenSpec.ofChange satUnitsSpec)) satUnitsCard

/-- THE TIED CARD OF 'skolemlaw18.SatGrows'. -/
def satGrowsCard : Claim7 := { stood := { row := satGrowsRow, standIns := [], harness := (true, "d3f08bc9b840a75add07a115cecd19ca221019613f4d0ffe120d27ae60b99ab4"), looks := true }, kinds := [], alts := [], laidByText := true, laidKinds := [.sentinel, .sentinel, .sentinel], laidTests := true, laidLooks := .later }
def SatGrowsCardSaid : Prop := Claim7.holds Tryz.pinned (.plain (OpenSpec.ofChange satGrowsSpec)) satGrowsCard

/-- THE TIED CARD OF 'skolemlaw18.SatLogs'. -/
def satLogsCard : Claim7 := { stood := { row := satLogsRow, standIns := [], harness := (true, "d3f08bc9b840a75add07a115cecd19ca221019613f4d0ffe120d27ae60b99ab4"), looks := true }, kinds := [], alts := [], laidByText := true, laidKinds := [.sentinel, .sentinel, .sentinel], laidTests := true, laidLooks := .later }
def SatLogsCardSaid : Prop := Claim7.holds Tryz.pinned (.plain (OpenSpec.ofChange satLogsSpec)) satLogsCard

/-- THE TIED CARD OF 'skolemlaw19.IncrSwitches'. -/
def incrSwitchesCard : Claim7 := { stood := { row := incrSwitchesRow, standIns := [], harness := (true, "d3f08bc9b840a75add07a115cecd19ca221019613f4d0ffe120d27ae60b99ab4"), looks := true }, kinds := [], alts := [], laidByText := true, laidKinds := [.sentinel, .sentinel, .sentinel], laidTests := true, laidLooks := .later }
def IncrSwitchesCardSaid : Prop := Claim7.holds Tryz.pinned (.plain (OpenSpec.ofChange incrSwitchesSpec)) incrSwitchesCard

/-- THE TIED CARD OF 'skolemlaw19.IncrOwn'. -/
def incrOwnCard : Claim7 := { stood := { row := incrOwnRow, standIns := [], harness := (true, "d3f08bc9b840a75add07a115cecd19ca221019613f4d0ffe120d27ae60b99ab4"), looks := true }, kinds := [], alts := [], laidByText := true, laidKinds := [.sentinel, .sentinel, .sentinel], laidTests := true, laidLooks := .later }
def IncrOwnCardSaid : Prop := Claim7.holds Tryz.pinned (.plain (OpenSpec.ofChange incrOwnSpec)) incrOwnCard

/-- THE TIED CARD OF 'skolemlaw19.IncrSolves'. -/
def incrSolvesCard : Claim7 := { stood := { row := incrSolvesRow, standIns := [], harness := (true, "d3f08bc9b840a75add07a115cecd19ca221019613f4d0ffe120d27ae60b99ab4"), looks := true }, kinds := [], alts := [], laidByText := true, laidKinds := [.sentinel, .sentinel, .sentinel], laidTests := true, laidLooks := .later }
def IncrSolvesCardSaid : Prop := Claim7.holds Tryz.pinned (.plain (OpenSpec.ofChange incrSolvesSpec)) incrSolvesCard

/-- THE TIED CARD OF 'skolemlaw19.IncrCores'. -/
def incrCoresCard : Claim7 := { stood := { row := incrCoresRow, standIns := [], harness := (true, "d3f08bc9b840a75add07a115cecd19ca221019613f4d0ffe120d27ae60b99ab4"), looks := true }, kinds := [], alts := [], laidByText := true, laidKinds := [.sentinel, .sentinel, .sentinel, .sentinel, .sentinel, .sentinel, .sentinel], laidTests := true, laidLooks := .later }
def IncrCoresCardSaid : Prop := Claim7.holds Tryz.pinned (.plain (OpenSpec.ofChange incrCoresSpec)) incrCoresCard

/-- THE TIED CARD OF 'skolemlaw22.DratSolver'. -/
def dratSolverCard : Claim7 := { stood := { row := dratSolverRow, standIns := [], harness := (true, "d3f08bc9b840a75add07a115cecd19ca221019613f4d0ffe120d27ae60b99ab4"), looks := true }, kinds := [], alts := [], laidByText := true, laidKinds := [.sentinel, .sentinel, .sentinel, .sentinel], laidTests := true, laidLooks := .later }
def DratSolverCardSaid : Prop := Claim7.holds Tryz.pinned (.plain (OpenSpec.ofChange dratSolverSpec)) dratSolverCard

/-- THE SECOND FORM's CARD OF 'skolemlaw18.SatSays'. -/
def satSaysUptoCard : Claim7 := { stood := { row := satSaysUptoRow, standIns := [], harness := (true, "d3f08bc9b840a75add07a115cecd19ca221019613f4d0ffe120d27ae60b99ab4"), looks := true }, kinds := [], alts := [], laidByText := true, laidKinds := [.sentinel, .sentinel, .sentinel, .sentinel, .sentinel, .sentinel, .sentinel], laidTests := true, laidLooks := .later }
def SatSaysUptoCardSaid : Prop := Claim7.holds Tryz.pinned (.plain (OpenSpec.upto satSaysSpec)) satSaysUptoCard

/-- THE SECOND FORM's CARD OF 'skolemlaw18.SatAssumes'. -/
def satAssumesUptoCard : Claim7 := { stood := { row := satAssumesUptoRow, standIns := [], harness := (true, "d3f08bc9b840a75add07a115cecd19ca221019613f4d0ffe120d27ae60b99ab4"), looks := true }, kinds := [], alts := [], laidByText := true, laidKinds := [.sentinel, .sentinel, .sentinel], laidTests := true, laidLooks := .later }
def SatAssumesUptoCardSaid : Prop := Claim7.holds Tryz.pinned (.plain (OpenSpec.upto satAssumesSpec)) satAssumesUptoCard

/-- THE SECOND FORM's CARD OF 'skolemlaw18.SatHoles'. -/
def satHolesUptoCard : Claim7 := { stood := { row := satHolesUptoRow, standIns := [], harness := (true, "d3f08bc9b840a75add07a115cecd19ca221019613f4d0ffe120d27ae60b99ab4"), looks := true }, kinds := [], alts := [], laidByText := true, laidKinds := [.sentinel, .sentinel, .sentinel], laidTests := true, laidLooks := .later }
def SatHolesUptoCardSaid : Prop := Claim7.holds Tryz.pinned (.plain (OpenSpec.upto satHolesSpec)) satHolesUptoCard

/-- THE SECOND FORM's CARD OF 'skolemlaw18.SatMore'. -/
def satMoreUptoCard : Claim7 := { stood := { row := satMoreUptoRow, standIns := [], harness := (true, "d3f08bc9b840a75add07a115cecd19ca221019613f4d0ffe120d27ae60b99ab4"), looks := true }, kinds := [], alts := [], laidByText := true, laidKinds := [.sentinel, .sentinel, .sentinel, .sentinel, .sentinel, .sentinel, .sentinel], laidTests := true, laidLooks := .later }
def SatMoreUptoCardSaid : Prop := Claim7.holds Tryz.pinned (.plain (OpenSpec.upto satMoreSpec)) satMoreUptoCard

/-- THE SECOND FORM's CARD OF 'skolemlaw18.SatUnits'. -/
def satUnitsUptoCard : Claim7 := { stood := { row := satUnitsUptoRow, standIns := [], harness := (true, "d3f08bc9b840a75add07a115cecd19ca221019613f4d0ffe120d27ae60b99ab4"), looks := true }, kinds := [], alts := [], laidByText := true, laidKinds := [.sentinel, .sentinel, .sentinel], laidTests := true, laidLooks := .later }
def SatUnitsUptoCardSaid : Prop := Claim7.holds Tryz.pinned (.plain (OpenSpec.upto satUnitsSpec)) satUnitsUptoCard

/-- THE SECOND FORM's CARD OF 'skolemlaw18.SatGrows'. -/
def satGrowsUptoCard : Claim7 := { stood := { row := satGrowsUptoRow, standIns := [], harness := (true, "d3f08bc9b840a75add07a115cecd19ca221019613f4d0ffe120d27ae60b99ab4"), looks := true }, kinds := [], alts := [], laidByText := true, laidKinds := [.sentinel, .sentinel, .sentinel], laidTests := true, laidLooks := .later }
def SatGrowsUptoCardSaid : Prop := Claim7.holds Tryz.pinned (.plain (OpenSpec.upto satGrowsSpec)) satGrowsUptoCard

/-- THE SECOND FORM's CARD OF 'skolemlaw18.SatLogs'. -/
def satLogsUptoCard : Claim7 := { stood := { row := satLogsUptoRow, standIns := [], harness := (true, "d3f08bc9b840a75add07a115cecd19ca221019613f4d0ffe120d27ae60b99ab4"), looks := true }, kinds := [], alts := [], laidByText := true, laidKinds := [.sentinel, .sentinel, .sentinel], laidTests := true, laidLooks := .later }
def SatLogsUptoCardSaid : Prop := Claim7.holds Tryz.pinned (.plain (OpenSpec.upto satLogsSpec)) satLogsUptoCard

/-- THE SECOND FORM's CARD OF 'skolemlaw19.IncrSwitches'. -/
def incrSwitchesUptoCard : Claim7 := { stood := { row := incrSwitchesUptoRow, standIns := [], harness := (true, "d3f08bc9b840a75add07a115cecd19ca221019613f4d0ffe120d27ae60b99ab4"), looks := true }, kinds := [], alts := [], laidByText := true, laidKinds := [.sentinel, .sentinel, .sentinel], laidTests := true, laidLooks := .later }
def IncrSwitchesUptoCardSaid : Prop := Claim7.holds Tryz.pinned (.plain (OpenSpec.upto incrSwitchesSpec)) incrSwitchesUptoCard

/-- THE SECOND FORM's CARD OF 'skolemlaw19.IncrOwn'. -/
def incrOwnUptoCard : Claim7 := { stood := { row := incrOwnUptoRow, standIns := [], harness := (true, "d3f08bc9b840a75add07a115cecd19ca221019613f4d0ffe120d27ae60b99ab4"), looks := true }, kinds := [], alts := [], laidByText := true, laidKinds := [.sentinel, .sentinel, .sentinel], laidTests := true, laidLooks := .later }
def IncrOwnUptoCardSaid : Prop := Claim7.holds Tryz.pinned (.plain (OpenSpec.upto incrOwnSpec)) incrOwnUptoCard

/-- THE SECOND FORM's CARD OF 'skolemlaw19.IncrSolves'. -/
def incrSolvesUptoCard : Claim7 := { stood := { row := incrSolvesUptoRow, standIns := [], harness := (true, "d3f08bc9b840a75add07a115cecd19ca221019613f4d0ffe120d27ae60b99ab4"), looks := true }, kinds := [], alts := [], laidByText := true, laidKinds := [.sentinel, .sentinel, .sentinel], laidTests := true, laidLooks := .later }
def IncrSolvesUptoCardSaid : Prop := Claim7.holds Tryz.pinned (.plain (OpenSpec.upto incrSolvesSpec)) incrSolvesUptoCard

/-- THE SECOND FORM's CARD OF 'skolemlaw19.IncrCores'. -/
def incrCoresUptoCard : Claim7 := { stood := { row := incrCoresUptoRow, standIns := [], harness := (true, "d3f08bc9b840a75add07a115cecd19ca221019613f4d0ffe120d27ae60b99ab4"), looks := true }, kinds := [], alts := [], laidByText := true, laidKinds := [.sentinel, .sentinel, .sentinel, .sentinel, .sentinel, .sentinel, .sentinel], laidTests := true, laidLooks := .later }
def IncrCoresUptoCardSaid : Prop := Claim7.holds Tryz.pinned (.plain (OpenSpec.upto incrCoresSpec)) incrCoresUptoCard

/-- THE SECOND FORM's CARD OF 'skolemlaw22.DratSolver'. -/
def dratSolverUptoCard : Claim7 := { stood := { row := dratSolverUptoRow, standIns := [], harness := (true, "d3f08bc9b840a75add07a115cecd19ca221019613f4d0ffe120d27ae60b99ab4"), looks := true }, kinds := [], alts := [], laidByText := true, laidKinds := [.sentinel, .sentinel, .sentinel, .sentinel], laidTests := true, laidLooks := .later }
def DratSolverUptoCardSaid : Prop := Claim7.holds Tryz.pinned (.plain (OpenSpec.upto dratSolverSpec)) dratSolverUptoCard
end Rows
end Go.Proofs.YtafbldhedkallaaGreatDoor
