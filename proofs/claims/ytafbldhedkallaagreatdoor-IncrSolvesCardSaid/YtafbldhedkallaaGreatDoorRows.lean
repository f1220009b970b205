/-
  NARROWER THAN 'FOR EVERY INPUT', by the rows' own cells (each row's printed sentence says how): SatSays: laid · SatAssumes: laid · SatHoles: laid · SatMore: laid · SatUnits: laid · SatGrows: laid · SatLogs: laid · IncrSwitches: laid · IncrOwn: laid · IncrSolves: laid · IncrCores: laid · DratSolver: laid.
  DERIVED. THE GIVEN ROWS OF THIS SEAT. 12 by the template 'for every input the law returns true; each argument reads behind the call as it read before'; 0 by the template 'total and deterministic' (their statements: YtafbldhedkallaaGreatDoorTotals.lean).
  GIVEN WITH THE SEED: the statements are not yours to turn. If you find one false, say at which input.
  Laid BY PROGRAM, IN A SANDBOX (cutbox-rows.mjs): the forced cells as the released guide's own fill.sh prints them over the translation c56467ee241679d6… (all of the seat's roots in one cut). By AI agents, Wed Nov 11 2026. No macro, syntax, notation, axiom, sorry.
-/
import Derived.Test.YtafbldhedkallaaGreatDoorChecked
import GoSem.Claim
import GoSem.ClaimJoined
import GoSem.ClaimMapViews
import Derived.JoinedTies
import Derived.KernelRfl
namespace Go.Proofs.YtafbldhedkallaaGreatDoor
/- THE CELL 'sum', in the pinned program and in every row, IS THE sha256 OF THE DUMP (.gsa) THAT YtafbldhedkallaaGreatDoorProg.lean LOADS. Nothing in Lean hashes anything: it is a label: what it is worth is what the hold of that sum in a sandbox is worth. -/
noncomputable def Tryz.pinned : Pinned := { name := "ytafbldhedkallaagreatdoor", sum := "c56467ee241679d6bf869738a8529605db83e80196f6b789e7915137924df999", checked := Tryz.checked }
namespace Rows
def none {H : Type} : Left H := { results := [], args := [] }

/- WHAT THE LISTED PACKAGE-LEVEL VARIABLES READ AS WHEN THE CALL BEGINS. Each datum BY PROGRAM (the guide's laid-datum.mjs) off the statement by which the dump's own 'gosem.cut.vars' lays the variable. In a bare row this is a premise. The card (YtafbldhedkallaaGreatDoorCards.lean) ties it to the program's text. -/
def laid_skolem_api_ErrText {H : Type} : DataW H := .iface "*errors.errorString" (.ptr (.agg [.lit (.string [110, 111, 116, 32, 97, 115, 32, 105, 116, 32, 105, 115, 32, 119, 114, 105, 116, 116, 101, 110])]))
def laid_skolem_api_ErrLimit {H : Type} : DataW H := .iface "*errors.errorString" (.ptr (.agg [.lit (.string [109, 111, 114, 101, 32, 116, 104, 97, 110, 32, 109, 97, 121, 32, 98, 101])]))
def laid_skolem_api_ErrBudget {H : Type} : DataW H := .iface "*errors.errorString" (.ptr (.agg [.lit (.string [116, 104, 101, 32, 98, 117, 100, 103, 101, 116, 32, 105, 115, 32, 117, 115, 101, 100, 32, 117, 112])]))
def laid_skolem_api_ErrRange {H : Type} : DataW H := .iface "*errors.errorString" (.ptr (.agg [.lit (.string [97, 32, 110, 117, 109, 98, 101, 114, 32, 111, 117, 116, 32, 111, 102, 32, 105, 116, 115, 32, 114, 97, 110, 103, 101])]))
def laid_skolem_api_ErrBlocks {H : Type} : DataW H := .iface "*errors.errorString" (.ptr (.agg [.lit (.string [109, 111, 114, 101, 32, 116, 104, 97, 110, 32, 116, 119, 111, 32, 98, 108, 111, 99, 107, 115])]))
def laid_skolem_api_ErrProof {H : Type} : DataW H := .iface "*errors.errorString" (.ptr (.agg [.lit (.string [97, 32, 115, 116, 101, 112, 32, 116, 104, 97, 116, 32, 100, 111, 101, 115, 32, 110, 111, 116, 32, 102, 111, 108, 108, 111, 119])]))
def laid_skolem_api_ErrCert {H : Type} : DataW H := .iface "*errors.errorString" (.ptr (.agg [.lit (.string [110, 111, 32, 99, 101, 114, 116, 105, 102, 105, 99, 97, 116, 101, 32, 111, 102, 32, 105, 116])]))

/-- 'skolemlaw18.SatSays': WHATEVER THE INPUT: true; the input reads as it did. -/
def satSaysSpec : ChangeSpec := { name := "satSays", fn := fun _ => fun
  | [d1, d2, d3] => { results := [.lit (.bool true)], args := [d1, d2, d3] }
  | _ => none }
def satSaysRow : OpenClaim := { program := "ytafbldhedkallaagreatdoor", sum := "c56467ee241679d6bf869738a8529605db83e80196f6b789e7915137924df999", func := "skolem/skolemlaw18.SatSays", spec := "satSays", unfollowed := true, recurses := true, named := ["skolem/api.ErrLimit", "skolem/api.ErrRange", "skolem/api.ErrBudget", "skolem/api.ErrText", "skolem/api.ErrBlocks", "skolem/api.ErrProof", "skolem/api.ErrCert"], apart := false, laid := [("skolem/api.ErrText", laid_skolem_api_ErrText), ("skolem/api.ErrLimit", laid_skolem_api_ErrLimit), ("skolem/api.ErrBudget", laid_skolem_api_ErrBudget), ("skolem/api.ErrRange", laid_skolem_api_ErrRange), ("skolem/api.ErrBlocks", laid_skolem_api_ErrBlocks), ("skolem/api.ErrProof", laid_skolem_api_ErrProof), ("skolem/api.ErrCert", laid_skolem_api_ErrCert)] }
def SatSaysSaid : Prop := satSaysRow.holds Tryz.pinned (OpenSpec.ofChange satSaysSpec)

/-- ITS FALSE NEIGHBOUR: 'it returns false'. Refute it at one input. -/
def satSaysWrong : ChangeSpec := { name := "satSays", fn := fun _ => fun
  | [d1, d2, d3] => { results := [.lit (.bool false)], args := [d1, d2, d3] }
  | _ => none }
def SatSaysWrongFalsely : Prop := satSaysRow.holds Tryz.pinned (OpenSpec.ofChange satSaysWrong)

/-- 'skolemlaw18.SatAssumes': WHATEVER THE INPUT: true; the input reads as it did. -/
def satAssumesSpec : ChangeSpec := { name := "satAssumes", fn := fun _ => fun
  | [d1, d2, d3, d4] => { results := [.lit (.bool true)], args := [d1, d2, d3, d4] }
  | _ => none }
def satAssumesRow : OpenClaim := { program := "ytafbldhedkallaagreatdoor", sum := "c56467ee241679d6bf869738a8529605db83e80196f6b789e7915137924df999", func := "skolem/skolemlaw18.SatAssumes", spec := "satAssumes", unfollowed := true, recurses := true, named := ["skolem/api.ErrLimit", "skolem/api.ErrRange", "skolem/api.ErrBudget"], apart := false, laid := [("skolem/api.ErrLimit", laid_skolem_api_ErrLimit), ("skolem/api.ErrBudget", laid_skolem_api_ErrBudget), ("skolem/api.ErrRange", laid_skolem_api_ErrRange)] }
def SatAssumesSaid : Prop := satAssumesRow.holds Tryz.pinned (OpenSpec.ofChange satAssumesSpec)

/-- ITS FALSE NEIGHBOUR: 'it returns false'. Refute it at one input. -/
def satAssumesWrong : ChangeSpec := { name := "satAssumes", fn := fun _ => fun
  | [d1, d2, d3, d4] => { results := [.lit (.bool false)], args := [d1, d2, d3, d4] }
  | _ => none }
def SatAssumesWrongFalsely : Prop := satAssumesRow.holds Tryz.pinned (OpenSpec.ofChange satAssumesWrong)

/-- 'skolemlaw18.SatHoles': WHATEVER THE INPUT: true; the input reads as it did. -/
def satHolesSpec : ChangeSpec := { name := "satHoles", fn := fun _ => fun
  | [d1, d2, d3] => { results := [.lit (.bool true)], args := [d1, d2, d3] }
  | _ => none }
def satHolesRow : OpenClaim := { program := "ytafbldhedkallaagreatdoor", sum := "c56467ee241679d6bf869738a8529605db83e80196f6b789e7915137924df999", func := "skolem/skolemlaw18.SatHoles", spec := "satHoles", unfollowed := true, recurses := true, named := ["skolem/api.ErrLimit", "skolem/api.ErrRange", "skolem/api.ErrBudget"], apart := false, laid := [("skolem/api.ErrLimit", laid_skolem_api_ErrLimit), ("skolem/api.ErrBudget", laid_skolem_api_ErrBudget), ("skolem/api.ErrRange", laid_skolem_api_ErrRange)] }
def SatHolesSaid : Prop := satHolesRow.holds Tryz.pinned (OpenSpec.ofChange satHolesSpec)

/-- ITS FALSE NEIGHBOUR: 'it returns false'. Refute it at one input. -/
def satHolesWrong : ChangeSpec := { name := "satHoles", fn := fun _ => fun
  | [d1, d2, d3] => { results := [.lit (.bool false)], args := [d1, d2, d3] }
  | _ => none }
def SatHolesWrongFalsely : Prop := satHolesRow.holds Tryz.pinned (OpenSpec.ofChange satHolesWrong)

/-- 'skolemlaw18.SatMore': WHATEVER THE INPUT: true; the input reads as it did. -/
def satMoreSpec : ChangeSpec := { name := "satMore", fn := fun _ => fun
  | [d1, d2, d3, d4] => { results := [.lit (.bool true)], args := [d1, d2, d3, d4] }
  | _ => none }
def satMoreRow : OpenClaim := { program := "ytafbldhedkallaagreatdoor", sum := "c56467ee241679d6bf869738a8529605db83e80196f6b789e7915137924df999", func := "skolem/skolemlaw18.SatMore", spec := "satMore", unfollowed := true, recurses := true, named := ["skolem/api.ErrLimit", "skolem/api.ErrRange", "skolem/api.ErrBudget", "skolem/api.ErrText", "skolem/api.ErrBlocks", "skolem/api.ErrProof", "skolem/api.ErrCert"], apart := false, laid := [("skolem/api.ErrText", laid_skolem_api_ErrText), ("skolem/api.ErrLimit", laid_skolem_api_ErrLimit), ("skolem/api.ErrBudget", laid_skolem_api_ErrBudget), ("skolem/api.ErrRange", laid_skolem_api_ErrRange), ("skolem/api.ErrBlocks", laid_skolem_api_ErrBlocks), ("skolem/api.ErrProof", laid_skolem_api_ErrProof), ("skolem/api.ErrCert", laid_skolem_api_ErrCert)] }
def SatMoreSaid : Prop := satMoreRow.holds Tryz.pinned (OpenSpec.ofChange satMoreSpec)

/-- ITS FALSE NEIGHBOUR: 'it returns false'. Refute it at one input. -/
def satMoreWrong : ChangeSpec := { name := "satMore", fn := fun _ => fun
  | [d1, d2, d3, d4] => { results := [.lit (.bool false)], args := [d1, d2, d3, d4] }
  | _ => none }
def SatMoreWrongFalsely : Prop := satMoreRow.holds Tryz.pinned (OpenSpec.ofChange satMoreWrong)

/-- 'skolemlaw18.SatUnits': WHATEVER THE INPUT: true; the input reads as it did. -/
def satUnitsSpec : ChangeSpec := { name := "satUnits", fn := fun _ => fun
  | [d1, d2, d3] => { results := [.lit (.bool true)], args := [d1, d2, d3] }
  | _ => none }
def satUnitsRow : OpenClaim := { program := "ytafbldhedkallaagreatdoor", sum := "c56467ee241679d6bf869738a8529605db83e80196f6b789e7915137924df999", func := "skolem/skolemlaw18.SatUnits", spec := "satUnits", unfollowed := true, recurses := true, named := ["skolem/api.ErrLimit", "skolem/api.ErrRange", "skolem/api.ErrBudget"], apart := false, laid := [("skolem/api.ErrLimit", laid_skolem_api_ErrLimit), ("skolem/api.ErrBudget", laid_skolem_api_ErrBudget), ("skolem/api.ErrRange", laid_skolem_api_ErrRange)] }
def SatUnitsSaid : Prop := satUnitsRow.holds Tryz.pinned (OpenSpec.ofChange satUnitsSpec)

/-- ITS FALSE NEIGHBOUR: 'it returns false'. Refute it at one input. -/
def satUnitsWrong : ChangeSpec := { name := "satUnits", fn := fun _ => fun
  | [d1, d2, d3] => { results := [.lit (.bool false)], args := [d1, d2, d3] }
  | _ => none }
def SatUnitsWrongFalsely : Prop := satUnitsRow.holds Tryz.pinned (OpenSpec.ofChange satUnitsWrong)

/-- 'skolemlaw18.SatGrows': WHATEVER THE INPUT: true; the input reads as it did. -/
def satGrowsSpec : ChangeSpec := { name := "satGrows", fn := fun _ => fun
  | [d1, d2, d3] => { results := [.lit (.bool true)], args := [d1, d2, d3] }
  | _ => none }
def satGrowsRow : OpenClaim := { program := "ytafbldhedkallaagreatdoor", sum := "c56467ee241679d6bf869738a8529605db83e80196f6b789e7915137924df999", func := "skolem/skolemlaw18.SatGrows", spec := "satGrows", unfollowed := true, recurses := true, named := ["skolem/api.ErrLimit", "skolem/api.ErrRange", "skolem/api.ErrBudget"], apart := false, laid := [("skolem/api.ErrLimit", laid_skolem_api_ErrLimit), ("skolem/api.ErrBudget", laid_skolem_api_ErrBudget), ("skolem/api.ErrRange", laid_skolem_api_ErrRange)] }
def SatGrowsSaid : Prop := satGrowsRow.holds Tryz.pinned (OpenSpec.ofChange satGrowsSpec)

/-- ITS FALSE NEIGHBOUR: 'it returns false'. Refute it at one input. -/
def satGrowsWrong : ChangeSpec := { name := "satGrows", fn := fun _ => fun
  | [d1, d2, d3] => { results := [.lit (.bool false)], args := [d1, d2, d3] }
  | _ => none }
def SatGrowsWrongFalsely : Prop := satGrowsRow.holds Tryz.pinned (OpenSpec.ofChange satGrowsWrong)

/-- 'skolemlaw18.SatLogs': WHATEVER THE INPUT: true; the input reads as it did. -/
def satLogsSpec : ChangeSpec := { name := "satLogs", fn := fun _ => fun
  | [d1, d2] => { results := [.lit (.bool true)], args := [d1, d2] }
  | _ => none }
def satLogsRow : OpenClaim := { program := "ytafbldhedkallaagreatdoor", sum := "c56467ee241679d6bf869738a8529605db83e80196f6b789e7915137924df999", func := "skolem/skolemlaw18.SatLogs", spec := "satLogs", unfollowed := true, recurses := true, named := ["skolem/api.ErrLimit", "skolem/api.ErrRange", "skolem/api.ErrBudget"], apart := false, laid := [("skolem/api.ErrLimit", laid_skolem_api_ErrLimit), ("skolem/api.ErrBudget", laid_skolem_api_ErrBudget), ("skolem/api.ErrRange", laid_skolem_api_ErrRange)] }
def SatLogsSaid : Prop := satLogsRow.holds Tryz.pinned (OpenSpec.ofChange satLogsSpec)

/-- ITS FALSE NEIGHBOUR: 'it returns false'. Refute it at one input. -/
def satLogsWrong : ChangeSpec := { name := "satLogs", fn := fun _ => fun
  | [d1, d2] => { results := [.lit (.bool false)], args := [d1, d2] }
  | _ => none }
def SatLogsWrongFalsely : Prop := satLogsRow.holds Tryz.pinned (OpenSpec.ofChange satLogsWrong)

/-- 'skolemlaw19.IncrSwitches': WHATEVER THE INPUT: true; the input reads as it did. -/
def incrSwitchesSpec : ChangeSpec := { name := "incrSwitches", fn := fun _ => fun
  | [d1, d2, d3, d4, d5] => { results := [.lit (.bool true)], args := [d1, d2, d3, d4, d5] }
  | _ => none }
def incrSwitchesRow : OpenClaim := { program := "ytafbldhedkallaagreatdoor", sum := "c56467ee241679d6bf869738a8529605db83e80196f6b789e7915137924df999", func := "skolem/skolemlaw19.IncrSwitches", spec := "incrSwitches", unfollowed := true, recurses := true, named := ["skolem/api.ErrRange", "skolem/api.ErrLimit", "skolem/api.ErrBudget"], apart := false, laid := [("skolem/api.ErrLimit", laid_skolem_api_ErrLimit), ("skolem/api.ErrBudget", laid_skolem_api_ErrBudget), ("skolem/api.ErrRange", laid_skolem_api_ErrRange)] }
def IncrSwitchesSaid : Prop := incrSwitchesRow.holds Tryz.pinned (OpenSpec.ofChange incrSwitchesSpec)

/-- ITS FALSE NEIGHBOUR: 'it returns false'. Refute it at one input. -/
def incrSwitchesWrong : ChangeSpec := { name := "incrSwitches", fn := fun _ => fun
  | [d1, d2, d3, d4, d5] => { results := [.lit (.bool false)], args := [d1, d2, d3, d4, d5] }
  | _ => none }
def IncrSwitchesWrongFalsely : Prop := incrSwitchesRow.holds Tryz.pinned (OpenSpec.ofChange incrSwitchesWrong)

/-- 'skolemlaw19.IncrOwn': WHATEVER THE INPUT: true; the input reads as it did. -/
def incrOwnSpec : ChangeSpec := { name := "incrOwn", fn := fun _ => fun
  | [d1, d2, d3] => { results := [.lit (.bool true)], args := [d1, d2, d3] }
  | _ => none }
def incrOwnRow : OpenClaim := { program := "ytafbldhedkallaagreatdoor", sum := "c56467ee241679d6bf869738a8529605db83e80196f6b789e7915137924df999", func := "skolem/skolemlaw19.IncrOwn", spec := "incrOwn", unfollowed := true, recurses := true, named := ["skolem/api.ErrRange", "skolem/api.ErrLimit", "skolem/api.ErrBudget"], apart := false, laid := [("skolem/api.ErrLimit", laid_skolem_api_ErrLimit), ("skolem/api.ErrBudget", laid_skolem_api_ErrBudget), ("skolem/api.ErrRange", laid_skolem_api_ErrRange)] }
def IncrOwnSaid : Prop := incrOwnRow.holds Tryz.pinned (OpenSpec.ofChange incrOwnSpec)

/-- ITS FALSE NEIGHBOUR: 'it returns false'. Refute it at one input. -/
def incrOwnWrong : ChangeSpec := { name := "incrOwn", fn := fun _ => fun
  | [d1, d2, d3] => { results := [.lit (.bool false)], args := [d1, d2, d3] }
  | _ => none }
def IncrOwnWrongFalsely : Prop := incrOwnRow.holds Tryz.pinned (OpenSpec.ofChange incrOwnWrong)

/-- 'skolemlaw19.IncrSolves': WHATEVER THE INPUT: true; the input reads as it did. -/
def incrSolvesSpec : ChangeSpec := { name := "incrSolves", fn := fun _ => fun
  | [d1, d2, d3, d4] => { results := [.lit (.bool true)], args := [d1, d2, d3, d4] }
  | _ => none }
def incrSolvesRow : OpenClaim := { program := "ytafbldhedkallaagreatdoor", sum := "c56467ee241679d6bf869738a8529605db83e80196f6b789e7915137924df999", func := "skolem/skolemlaw19.IncrSolves", spec := "incrSolves", unfollowed := true, recurses := true, named := ["skolem/api.ErrRange", "skolem/api.ErrLimit", "skolem/api.ErrBudget"], apart := false, laid := [("skolem/api.ErrLimit", laid_skolem_api_ErrLimit), ("skolem/api.ErrBudget", laid_skolem_api_ErrBudget), ("skolem/api.ErrRange", laid_skolem_api_ErrRange)] }
def IncrSolvesSaid : Prop := incrSolvesRow.holds Tryz.pinned (OpenSpec.ofChange incrSolvesSpec)

/-- ITS FALSE NEIGHBOUR: 'it returns false'. Refute it at one input. -/
def incrSolvesWrong : ChangeSpec := { name := "incrSolves", fn := fun _ => fun
  | [d1, d2, d3, d4] => { results := [.lit (.bool false)], args := [d1, d2, d3, d4] }
  | _ => none }
def IncrSolvesWrongFalsely : Prop := incrSolvesRow.holds Tryz.pinned (OpenSpec.ofChange incrSolvesWrong)

/-- 'skolemlaw19.IncrCores': WHATEVER THE INPUT: true; the input reads as it did. -/
def incrCoresSpec : ChangeSpec := { name := "incrCores", fn := fun _ => fun
  | [d1, d2, d3] => { results := [.lit (.bool true)], args := [d1, d2, d3] }
  | _ => none }
def incrCoresRow : OpenClaim := { program := "ytafbldhedkallaagreatdoor", sum := "c56467ee241679d6bf869738a8529605db83e80196f6b789e7915137924df999", func := "skolem/skolemlaw19.IncrCores", spec := "incrCores", unfollowed := true, recurses := true, named := ["skolem/api.ErrRange", "skolem/api.ErrLimit", "skolem/api.ErrBudget", "skolem/api.ErrText", "skolem/api.ErrBlocks", "skolem/api.ErrProof", "skolem/api.ErrCert"], apart := false, laid := [("skolem/api.ErrText", laid_skolem_api_ErrText), ("skolem/api.ErrLimit", laid_skolem_api_ErrLimit), ("skolem/api.ErrBudget", laid_skolem_api_ErrBudget), ("skolem/api.ErrRange", laid_skolem_api_ErrRange), ("skolem/api.ErrBlocks", laid_skolem_api_ErrBlocks), ("skolem/api.ErrProof", laid_skolem_api_ErrProof), ("skolem/api.ErrCert", laid_skolem_api_ErrCert)] }
def IncrCoresSaid : Prop := incrCoresRow.holds Tryz.pinned (OpenSpec.ofChange incrCoresSpec)

/-- ITS FALSE NEIGHBOUR: 'it returns false'. Refute it at one input. -/
def incrCoresWrong : ChangeSpec := { name := "incrCores", fn := fun _ => fun
  | [d1, d2, d3] => { results := [.lit (.bool false)], args := [d1, d2, d3] }
  | _ => none }
def IncrCoresWrongFalsely : Prop := incrCoresRow.holds Tryz.pinned (OpenSpec.ofChange incrCoresWrong)

/-- 'skolemlaw22.DratSolver': WHATEVER THE INPUT: true; the input reads as it did. -/
def dratSolverSpec : ChangeSpec := { name := "dratSolver", fn := fun _ => fun
  | [d1, d2] => { results := [.lit (.bool true)], args := [d1, d2] }
  | _ => none }
def dratSolverRow : OpenClaim := { program := "ytafbldhedkallaagreatdoor", sum := "c56467ee241679d6bf869738a8529605db83e80196f6b789e7915137924df999", func := "skolem/skolemlaw22.DratSolver", spec := "dratSolver", unfollowed := true, recurses := true, named := ["skolem/api.ErrProof", "skolem/api.ErrLimit", "skolem/api.ErrRange", "skolem/api.ErrBudget"], apart := false, laid := [("skolem/api.ErrLimit", laid_skolem_api_ErrLimit), ("skolem/api.ErrBudget", laid_skolem_api_ErrBudget), ("skolem/api.ErrRange", laid_skolem_api_ErrRange), ("skolem/api.ErrProof", laid_skolem_api_ErrProof)] }
def DratSolverSaid : Prop := dratSolverRow.holds Tryz.pinned (OpenSpec.ofChange dratSolverSpec)

/-- ITS FALSE NEIGHBOUR: 'it returns false'. Refute it at one input. -/
def dratSolverWrong : ChangeSpec := { name := "dratSolver", fn := fun _ => fun
  | [d1, d2] => { results := [.lit (.bool false)], args := [d1, d2] }
  | _ => none }
def DratSolverWrongFalsely : Prop := dratSolverRow.holds Tryz.pinned (OpenSpec.ofChange dratSolverWrong)

/- THE SECOND FORM. 'bulk': how many values and letters a reading holds, each counted each time it is reached (what is shared counts as often as it is met; a slice's spare places count too). A statement '..UptoSaid' is the law's where the arguments, and the package variables that the reading takes, are together of bulk at most 1048576: NARROWER than '..Said'. Prove '..Said' where nothing that the law and all that it calls make is longer than what came in: it says more and counts as full. Else prove '..UptoSaid'. A law counts once. -/
mutual
def uptoBulk {H : Type} : DataW H → Nat
  | .lit (.string bytes) => bytes.length + 1
  | .lit _ => 1
  | .nil => 1
  | .ptr d => uptoBulk d + 1
  | .slice elems spare => uptoBulkAll elems + uptoBulkAll spare + 1
  | .agg parts => uptoBulkAll parts + 1
  | .iface _ d => uptoBulk d + 1
  | .map entries => uptoBulkEntries entries + 1
  | .held _ => 1
def uptoBulkAll {H : Type} : List (DataW H) → Nat
  | [] => 0
  | d :: r => uptoBulk d + uptoBulkAll r
def uptoBulkEntries {H : Type} : List (Lit × DataW H) → Nat
  | [] => 0
  | x :: r => uptoBulkEntry x + uptoBulkEntries r
def uptoBulkEntry {H : Type} : Lit × DataW H → Nat
  | (.string bytes, d) => bytes.length + uptoBulk d + 1
  | (_, d) => uptoBulk d + 1
 end
def uptoSmall : (H : Type) → List (DataW H) → Bool := fun _ ds => decide (uptoBulkAll ds ≤ 1048576)
def OpenSpec.upto (s : _root_.Go.ChangeSpec) : _root_.Go.OpenSpec := { _root_.Go.OpenSpec.ofChange s with cond := some uptoSmall }

/-- 'skolemlaw18.SatSays', WHERE WHAT IT READS IS OF BULK AT MOST 1048576: true; the input reads as it did. -/
def satSaysUptoRow : OpenClaim := { program := "ytafbldhedkallaagreatdoor", sum := "c56467ee241679d6bf869738a8529605db83e80196f6b789e7915137924df999", func := "skolem/skolemlaw18.SatSays", spec := "satSays", unfollowed := true, recurses := true, named := ["skolem/api.ErrLimit", "skolem/api.ErrRange", "skolem/api.ErrBudget", "skolem/api.ErrText", "skolem/api.ErrBlocks", "skolem/api.ErrProof", "skolem/api.ErrCert"], apart := false, laid := [("skolem/api.ErrText", laid_skolem_api_ErrText), ("skolem/api.ErrLimit", laid_skolem_api_ErrLimit), ("skolem/api.ErrBudget", laid_skolem_api_ErrBudget), ("skolem/api.ErrRange", laid_skolem_api_ErrRange), ("skolem/api.ErrBlocks", laid_skolem_api_ErrBlocks), ("skolem/api.ErrProof", laid_skolem_api_ErrProof), ("skolem/api.ErrCert", laid_skolem_api_ErrCert)], narrowed := true }
def SatSaysUptoSaid : Prop := satSaysUptoRow.holds Tryz.pinned (OpenSpec.upto satSaysSpec)

/-- 'skolemlaw18.SatAssumes', WHERE WHAT IT READS IS OF BULK AT MOST 1048576: true; the input reads as it did. -/
def satAssumesUptoRow : OpenClaim := { program := "ytafbldhedkallaagreatdoor", sum := "c56467ee241679d6bf869738a8529605db83e80196f6b789e7915137924df999", func := "skolem/skolemlaw18.SatAssumes", spec := "satAssumes", unfollowed := true, recurses := true, named := ["skolem/api.ErrLimit", "skolem/api.ErrRange", "skolem/api.ErrBudget"], apart := false, laid := [("skolem/api.ErrLimit", laid_skolem_api_ErrLimit), ("skolem/api.ErrBudget", laid_skolem_api_ErrBudget), ("skolem/api.ErrRange", laid_skolem_api_ErrRange)], narrowed := true }
def SatAssumesUptoSaid : Prop := satAssumesUptoRow.holds Tryz.pinned (OpenSpec.upto satAssumesSpec)

/-- 'skolemlaw18.SatHoles', WHERE WHAT IT READS IS OF BULK AT MOST 1048576: true; the input reads as it did. -/
def satHolesUptoRow : OpenClaim := { program := "ytafbldhedkallaagreatdoor", sum := "c56467ee241679d6bf869738a8529605db83e80196f6b789e7915137924df999", func := "skolem/skolemlaw18.SatHoles", spec := "satHoles", unfollowed := true, recurses := true, named := ["skolem/api.ErrLimit", "skolem/api.ErrRange", "skolem/api.ErrBudget"], apart := false, laid := [("skolem/api.ErrLimit", laid_skolem_api_ErrLimit), ("skolem/api.ErrBudget", laid_skolem_api_ErrBudget), ("skolem/api.ErrRange", laid_skolem_api_ErrRange)], narrowed := true }
def SatHolesUptoSaid : Prop := satHolesUptoRow.holds Tryz.pinned (OpenSpec.upto satHolesSpec)

/-- 'skolemlaw18.SatMore', WHERE WHAT IT READS IS OF BULK AT MOST 1048576: true; the input reads as it did. -/
def satMoreUptoRow : OpenClaim := { program := "ytafbldhedkallaagreatdoor", sum := "c56467ee241679d6bf869738a8529605db83e80196f6b789e7915137924df999", func := "skolem/skolemlaw18.SatMore", spec := "satMore", unfollowed := true, recurses := true, named := ["skolem/api.ErrLimit", "skolem/api.ErrRange", "skolem/api.ErrBudget", "skolem/api.ErrText", "skolem/api.ErrBlocks", "skolem/api.ErrProof", "skolem/api.ErrCert"], apart := false, laid := [("skolem/api.ErrText", laid_skolem_api_ErrText), ("skolem/api.ErrLimit", laid_skolem_api_ErrLimit), ("skolem/api.ErrBudget", laid_skolem_api_ErrBudget), ("skolem/api.ErrRange", laid_skolem_api_ErrRange), ("skolem/api.ErrBlocks", laid_skolem_api_ErrBlocks), ("skolem/api.ErrProof", laid_skolem_api_ErrProof), ("skolem/api.ErrCert", laid_skolem_api_ErrCert)], narrowed := true }
def SatMoreUptoSaid : Prop := satMoreUptoRow.holds Tryz.pinned (OpenSpec.upto satMoreSpec)

/-- 'skolemlaw18.SatUnits', WHERE WHAT IT READS IS OF BULK AT MOST 1048576: true; the input reads as it did. -/
def satUnitsUptoRow : OpenClaim := { program := "ytafbldhedkallaagreatdoor", sum := "c56467ee241679d6bf869738a8529605db83e80196f6b789e7915137924df999", func := "skolem/skolemlaw18.SatUnits", spec := "satUnits", unfollowed := true, recurses := true, named := ["skolem/api.ErrLimit", "skolem/api.ErrRange", "skolem/api.ErrBudget"], apart := false, laid := [("skolem/api.ErrLimit", laid_skolem_api_ErrLimit), ("skolem/api.ErrBudget", laid_skolem_api_ErrBudget), ("skolem/api.ErrRange", laid_skolem_api_ErrRange)], narrowed := true }
def SatUnitsUptoSaid : Prop := satUnitsUptoRow.holds Tryz.pinned (OpenSpec.upto satUnitsSpec)

/-- 'skolemlaw18.SatGrows', WHERE WHAT IT READS IS OF BULK AT MOST 1048576: true; the input reads as it did. -/
def satGrowsUptoRow : OpenClaim := { program := "ytafbldhedkallaagreatdoor", sum := "c56467ee241679d6bf869738a8529605db83e80196f6b789e7915137924df999", func := "skolem/skolemlaw18.SatGrows", spec := "satGrows", unfollowed := true, recurses := true, named := ["skolem/api.ErrLimit", "skolem/api.ErrRange", "skolem/api.ErrBudget"], apart := false, laid := [("skolem/api.ErrLimit", laid_skolem_api_ErrLimit), ("skolem/api.ErrBudget", laid_skolem_api_ErrBudget), ("skolem/api.ErrRange", laid_skolem_api_ErrRange)], narrowed := true }
def SatGrowsUptoSaid : Prop := satGrowsUptoRow.holds Tryz.pinned (OpenSpec.upto satGrowsSpec)

/-- 'skolemlaw18.SatLogs', WHERE WHAT IT READS IS OF BULK AT MOST 1048576: true; the input reads as it did. -/
def satLogsUptoRow : OpenClaim := { program := "ytafbldhedkallaagreatdoor", sum := "c56467ee241679d6bf869738a8529605db83e80196f6b789e7915137924df999", func := "skolem/skolemlaw18.SatLogs", spec := "satLogs", unfollowed := true, recurses := true, named := ["skolem/api.ErrLimit", "skolem/api.ErrRange", "skolem/api.ErrBudget"], apart := false, laid := [("skolem/api.ErrLimit", laid_skolem_api_ErrLimit), ("skolem/api.ErrBudget", laid_skolem_api_ErrBudget), ("skolem/api.ErrRange", laid_skolem_api_ErrRange)], narrowed := true }
def SatLogsUptoSaid : Prop := satLogsUptoRow.holds Tryz.pinned (OpenSpec.upto satLogsSpec)

/-- 'skolemlaw19.IncrSwitches', WHERE WHAT IT READS IS OF BULK AT MOST 1048576: true; the input reads as it did. -/
def incrSwitchesUptoRow : OpenClaim := { program := "ytafbldhedkallaagreatdoor", sum := "c56467ee241679d6bf869738a8529605db83e80196f6b789e7915137924df999", func := "skolem/skolemlaw19.IncrSwitches", spec := "incrSwitches", unfollowed := true, recurses := true, named := ["skolem/api.ErrRange", "skolem/api.ErrLimit", "skolem/api.ErrBudget"], apart := false, laid := [("skolem/api.ErrLimit", laid_skolem_api_ErrLimit), ("skolem/api.ErrBudget", laid_skolem_api_ErrBudget), ("skolem/api.ErrRange", laid_skolem_api_ErrRange)], narrowed := true }
def IncrSwitchesUptoSaid : Prop := incrSwitchesUptoRow.holds Tryz.pinned (OpenSpec.upto incrSwitchesSpec)

/-- 'skolemlaw19.IncrOwn', WHERE WHAT IT READS IS OF BULK AT MOST 1048576: true; the input reads as it did. -/
def incrOwnUptoRow : OpenClaim := { program := "ytafbldhedkallaagreatdoor", sum := "c56467ee241679d6bf869738a8529605db83e80196f6b789e7915137924df999", func := "skolem/skolemlaw19.IncrOwn", spec := "incrOwn", unfollowed := true, recurses := true, named := ["skolem/api.ErrRange", "skolem/api.ErrLimit", "skolem/api.ErrBudget"], apart := false, laid := [("skolem/api.ErrLimit", laid_skolem_api_ErrLimit), ("skolem/api.ErrBudget", laid_skolem_api_ErrBudget), ("skolem/api.ErrRange", laid_skolem_api_ErrRange)], narrowed := true }
def IncrOwnUptoSaid : Prop := incrOwnUptoRow.holds Tryz.pinned (OpenSpec.upto incrOwnSpec)

/-- 'skolemlaw19.IncrSolves', WHERE WHAT IT READS IS OF BULK AT MOST 1048576: true; the input reads as it did. -/
def incrSolvesUptoRow : OpenClaim := { program := "ytafbldhedkallaagreatdoor", sum := "c56467ee241679d6bf869738a8529605db83e80196f6b789e7915137924df999", func := "skolem/skolemlaw19.IncrSolves", spec := "incrSolves", unfollowed := true, recurses := true, named := ["skolem/api.ErrRange", "skolem/api.ErrLimit", "skolem/api.ErrBudget"], apart := false, laid := [("skolem/api.ErrLimit", laid_skolem_api_ErrLimit), ("skolem/api.ErrBudget", laid_skolem_api_ErrBudget), ("skolem/api.ErrRange", laid_skolem_api_ErrRange)], narrowed := true }
def IncrSolvesUptoSaid : Prop := incrSolvesUptoRow.holds Tryz.pinned (OpenSpec.upto incrSolvesSpec)

/-- 'skolemlaw19.IncrCores', WHERE WHAT IT READS IS OF BULK AT MOST 1048576: true; the input reads as it did. -/
def incrCoresUptoRow : OpenClaim := { program := "ytafbldhedkallaagreatdoor", sum := "c56467ee241679d6bf869738a8529605db83e80196f6b789e7915137924df999", func := "skolem/skolemlaw19.IncrCores", spec := "incrCores", unfollowed := true, recurses := true, named := ["skolem/api.ErrRange", "skolem/api.ErrLimit", "skolem/api.ErrBudget", "skolem/api.ErrText", "skolem/api.ErrBlocks", "skolem/api.ErrProof", "skolem/api.ErrCert"], apart := false, laid := [("skolem/api.ErrText", laid_skolem_api_ErrText), ("skolem/api.ErrLimit", laid_skolem_api_ErrLimit), ("skolem/api.ErrBudget", laid_skolem_api_ErrBudget), ("skolem/api.ErrRange", laid_skolem_api_ErrRange), ("skolem/api.ErrBlocks", laid_skolem_api_ErrBlocks), ("skolem/api.ErrProof", laid_skolem_api_ErrProof), ("skolem/api.ErrCert", laid_skolem_api_ErrCert)], narrowed := true }
def IncrCoresUptoSaid : Prop := incrCoresUptoRow.holds Tryz.pinned (OpenSpec.upto incrCoresSpec)

/-- 'skolemlaw22.DratSolver', WHERE WHAT IT READS IS OF BULK AT MOST 1048576: true; the input reads as it did. -/
def dratSolverUptoRow : OpenClaim := { program := "ytafbldhedkallaagreatdoor", sum := "c56467ee241679d6bf869738a8529605db83e80196f6b789e7915137924df999", func := "skolem/skolemlaw22.DratSolver", spec := "dratSolver", unfollowed := true, recurses := true, named := ["skolem/api.ErrProof", "skolem/api.ErrLimit", "skolem/api.ErrRange", "skolem/api.ErrBudget"], apart := false, laid := [("skolem/api.ErrLimit", laid_skolem_api_ErrLimit), ("skolem/api.ErrBudget", laid_skolem_api_ErrBudget), ("skolem/api.ErrRange", laid_skolem_api_ErrRange), ("skolem/api.ErrProof", laid_skolem_api_ErrProof)], narrowed := true }
def DratSolverUptoSaid : Prop := dratSolverUptoRow.holds Tryz.pinned (OpenSpec.upto dratSolverSpec)

end Rows
end Go.Proofs.YtafbldhedkallaaGreatDoor
