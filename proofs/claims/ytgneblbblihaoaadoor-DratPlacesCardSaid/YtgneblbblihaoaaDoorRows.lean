/-
  NARROWER THAN 'FOR EVERY INPUT', by the rows' own cells (each row's printed sentence says how): PrefixSays: laid · PrefixMerges: laid · PrefixFree: laid · PrefixBlocks: laid · PrefixMatrix: laid · DratSound: laid · DratPlaces: laid · DratGoals: laid · DratDrops: laid · IncrLimits: laid · IncrSays: laid.
  DERIVED. THE GIVEN ROWS OF THIS SEAT. 11 by the template 'for every input the law returns true; each argument reads behind the call as it read before'; 0 by the template 'total and deterministic' (their statements: YtgneblbblihaoaaDoorTotals.lean).
  GIVEN WITH THE SEED: the statements are not yours to turn. If you find one false, say at which input.
  Laid BY PROGRAM, IN A SANDBOX (cutbox-rows.mjs): the forced cells as the released guide's own fill.sh prints them over the translation d39ed07781188a15… (all of the seat's roots in one cut). By AI agents, Wed Nov 11 2026. No macro, syntax, notation, axiom, sorry.
-/
import Derived.Test.YtgneblbblihaoaaDoorChecked
import GoSem.Claim
import GoSem.ClaimJoined
import GoSem.ClaimMapViews
import Derived.JoinedTies
import Derived.KernelRfl
namespace Go.Proofs.YtgneblbblihaoaaDoor
/- THE CELL 'sum', in the pinned program and in every row, IS THE sha256 OF THE DUMP (.gsa) THAT YtgneblbblihaoaaDoorProg.lean LOADS. Nothing in Lean hashes anything: it is a label: what it is worth is what the hold of that sum in a sandbox is worth. -/
noncomputable def Tryd.pinned : Pinned := { name := "ytgneblbblihaoaadoor", sum := "d39ed07781188a1543f25c17de96bc3968e9b211fea24262c0fce742c1a17edb", checked := Tryd.checked }
namespace Rows
def none {H : Type} : Left H := { results := [], args := [] }

/- WHAT THE LISTED PACKAGE-LEVEL VARIABLES READ AS WHEN THE CALL BEGINS. Each datum BY PROGRAM (the guide's laid-datum.mjs) off the statement by which the dump's own 'gosem.cut.vars' lays the variable. In a bare row this is a premise. The card (YtgneblbblihaoaaDoorCards.lean) ties it to the program's text. -/
def laid_skolem_api_ErrText {H : Type} : DataW H := .iface "*errors.errorString" (.ptr (.agg [.lit (.string [110, 111, 116, 32, 97, 115, 32, 105, 116, 32, 105, 115, 32, 119, 114, 105, 116, 116, 101, 110])]))
def laid_skolem_api_ErrLimit {H : Type} : DataW H := .iface "*errors.errorString" (.ptr (.agg [.lit (.string [109, 111, 114, 101, 32, 116, 104, 97, 110, 32, 109, 97, 121, 32, 98, 101])]))
def laid_skolem_api_ErrBudget {H : Type} : DataW H := .iface "*errors.errorString" (.ptr (.agg [.lit (.string [116, 104, 101, 32, 98, 117, 100, 103, 101, 116, 32, 105, 115, 32, 117, 115, 101, 100, 32, 117, 112])]))
def laid_skolem_api_ErrRange {H : Type} : DataW H := .iface "*errors.errorString" (.ptr (.agg [.lit (.string [97, 32, 110, 117, 109, 98, 101, 114, 32, 111, 117, 116, 32, 111, 102, 32, 105, 116, 115, 32, 114, 97, 110, 103, 101])]))
def laid_skolem_api_ErrBlocks {H : Type} : DataW H := .iface "*errors.errorString" (.ptr (.agg [.lit (.string [109, 111, 114, 101, 32, 116, 104, 97, 110, 32, 116, 119, 111, 32, 98, 108, 111, 99, 107, 115])]))
def laid_skolem_api_ErrProof {H : Type} : DataW H := .iface "*errors.errorString" (.ptr (.agg [.lit (.string [97, 32, 115, 116, 101, 112, 32, 116, 104, 97, 116, 32, 100, 111, 101, 115, 32, 110, 111, 116, 32, 102, 111, 108, 108, 111, 119])]))
def laid_skolem_api_ErrCert {H : Type} : DataW H := .iface "*errors.errorString" (.ptr (.agg [.lit (.string [110, 111, 32, 99, 101, 114, 116, 105, 102, 105, 99, 97, 116, 101, 32, 111, 102, 32, 105, 116])]))

/-- 'skolemlaw6.PrefixSays': WHATEVER THE INPUT: true; the input reads as it did. -/
def prefixSaysSpec : ChangeSpec := { name := "prefixSays", fn := fun _ => fun
  | [d] => { results := [.lit (.bool true)], args := [d] }
  | _ => none }
def prefixSaysRow : OpenClaim := { program := "ytgneblbblihaoaadoor", sum := "d39ed07781188a1543f25c17de96bc3968e9b211fea24262c0fce742c1a17edb", func := "skolem/skolemlaw6.PrefixSays", spec := "prefixSays", unfollowed := true, recurses := true, named := ["skolem/api.ErrBlocks", "skolem/api.ErrRange", "skolem/api.ErrLimit", "skolem/api.ErrText", "skolem/api.ErrBudget", "skolem/api.ErrProof", "skolem/api.ErrCert"], apart := false, laid := [("skolem/api.ErrText", laid_skolem_api_ErrText), ("skolem/api.ErrLimit", laid_skolem_api_ErrLimit), ("skolem/api.ErrBudget", laid_skolem_api_ErrBudget), ("skolem/api.ErrRange", laid_skolem_api_ErrRange), ("skolem/api.ErrBlocks", laid_skolem_api_ErrBlocks), ("skolem/api.ErrProof", laid_skolem_api_ErrProof), ("skolem/api.ErrCert", laid_skolem_api_ErrCert)] }
def PrefixSaysSaid : Prop := prefixSaysRow.holds Tryd.pinned (OpenSpec.ofChange prefixSaysSpec)

/-- ITS FALSE NEIGHBOUR: 'it returns false'. Refute it at one input. -/
def prefixSaysWrong : ChangeSpec := { name := "prefixSays", fn := fun _ => fun
  | [d] => { results := [.lit (.bool false)], args := [d] }
  | _ => none }
def PrefixSaysWrongFalsely : Prop := prefixSaysRow.holds Tryd.pinned (OpenSpec.ofChange prefixSaysWrong)

/-- 'skolemlaw6.PrefixMerges': WHATEVER THE INPUT: true; the input reads as it did. -/
def prefixMergesSpec : ChangeSpec := { name := "prefixMerges", fn := fun _ => fun
  | [d] => { results := [.lit (.bool true)], args := [d] }
  | _ => none }
def prefixMergesRow : OpenClaim := { program := "ytgneblbblihaoaadoor", sum := "d39ed07781188a1543f25c17de96bc3968e9b211fea24262c0fce742c1a17edb", func := "skolem/skolemlaw6.PrefixMerges", spec := "prefixMerges", unfollowed := true, recurses := true, named := ["skolem/api.ErrBlocks", "skolem/api.ErrRange", "skolem/api.ErrLimit"], apart := false, laid := [("skolem/api.ErrLimit", laid_skolem_api_ErrLimit), ("skolem/api.ErrRange", laid_skolem_api_ErrRange), ("skolem/api.ErrBlocks", laid_skolem_api_ErrBlocks)] }
def PrefixMergesSaid : Prop := prefixMergesRow.holds Tryd.pinned (OpenSpec.ofChange prefixMergesSpec)

/-- ITS FALSE NEIGHBOUR: 'it returns false'. Refute it at one input. -/
def prefixMergesWrong : ChangeSpec := { name := "prefixMerges", fn := fun _ => fun
  | [d] => { results := [.lit (.bool false)], args := [d] }
  | _ => none }
def PrefixMergesWrongFalsely : Prop := prefixMergesRow.holds Tryd.pinned (OpenSpec.ofChange prefixMergesWrong)

/-- 'skolemlaw6.PrefixFree': WHATEVER THE INPUT: true; the input reads as it did. -/
def prefixFreeSpec : ChangeSpec := { name := "prefixFree", fn := fun _ => fun
  | [d1, d2, d3, d4] => { results := [.lit (.bool true)], args := [d1, d2, d3, d4] }
  | _ => none }
def prefixFreeRow : OpenClaim := { program := "ytgneblbblihaoaadoor", sum := "d39ed07781188a1543f25c17de96bc3968e9b211fea24262c0fce742c1a17edb", func := "skolem/skolemlaw6.PrefixFree", spec := "prefixFree", unfollowed := true, recurses := true, named := ["skolem/api.ErrBlocks", "skolem/api.ErrRange", "skolem/api.ErrLimit"], apart := false, laid := [("skolem/api.ErrLimit", laid_skolem_api_ErrLimit), ("skolem/api.ErrRange", laid_skolem_api_ErrRange), ("skolem/api.ErrBlocks", laid_skolem_api_ErrBlocks)] }
def PrefixFreeSaid : Prop := prefixFreeRow.holds Tryd.pinned (OpenSpec.ofChange prefixFreeSpec)

/-- ITS FALSE NEIGHBOUR: 'it returns false'. Refute it at one input. -/
def prefixFreeWrong : ChangeSpec := { name := "prefixFree", fn := fun _ => fun
  | [d1, d2, d3, d4] => { results := [.lit (.bool false)], args := [d1, d2, d3, d4] }
  | _ => none }
def PrefixFreeWrongFalsely : Prop := prefixFreeRow.holds Tryd.pinned (OpenSpec.ofChange prefixFreeWrong)

/-- 'skolemlaw6.PrefixBlocks': WHATEVER THE INPUT: true; the input reads as it did. -/
def prefixBlocksSpec : ChangeSpec := { name := "prefixBlocks", fn := fun _ => fun
  | [d1, d2, d3, d4] => { results := [.lit (.bool true)], args := [d1, d2, d3, d4] }
  | _ => none }
def prefixBlocksRow : OpenClaim := { program := "ytgneblbblihaoaadoor", sum := "d39ed07781188a1543f25c17de96bc3968e9b211fea24262c0fce742c1a17edb", func := "skolem/skolemlaw6.PrefixBlocks", spec := "prefixBlocks", unfollowed := true, recurses := true, named := ["skolem/api.ErrBlocks", "skolem/api.ErrRange", "skolem/api.ErrLimit", "skolem/api.ErrText", "skolem/api.ErrBudget", "skolem/api.ErrProof", "skolem/api.ErrCert"], apart := false, laid := [("skolem/api.ErrText", laid_skolem_api_ErrText), ("skolem/api.ErrLimit", laid_skolem_api_ErrLimit), ("skolem/api.ErrBudget", laid_skolem_api_ErrBudget), ("skolem/api.ErrRange", laid_skolem_api_ErrRange), ("skolem/api.ErrBlocks", laid_skolem_api_ErrBlocks), ("skolem/api.ErrProof", laid_skolem_api_ErrProof), ("skolem/api.ErrCert", laid_skolem_api_ErrCert)] }
def PrefixBlocksSaid : Prop := prefixBlocksRow.holds Tryd.pinned (OpenSpec.ofChange prefixBlocksSpec)

/-- ITS FALSE NEIGHBOUR: 'it returns false'. Refute it at one input. -/
def prefixBlocksWrong : ChangeSpec := { name := "prefixBlocks", fn := fun _ => fun
  | [d1, d2, d3, d4] => { results := [.lit (.bool false)], args := [d1, d2, d3, d4] }
  | _ => none }
def PrefixBlocksWrongFalsely : Prop := prefixBlocksRow.holds Tryd.pinned (OpenSpec.ofChange prefixBlocksWrong)

/-- 'skolemlaw6.PrefixMatrix': WHATEVER THE INPUT: true; the input reads as it did. -/
def prefixMatrixSpec : ChangeSpec := { name := "prefixMatrix", fn := fun _ => fun
  | [d] => { results := [.lit (.bool true)], args := [d] }
  | _ => none }
def prefixMatrixRow : OpenClaim := { program := "ytgneblbblihaoaadoor", sum := "d39ed07781188a1543f25c17de96bc3968e9b211fea24262c0fce742c1a17edb", func := "skolem/skolemlaw6.PrefixMatrix", spec := "prefixMatrix", unfollowed := true, recurses := true, named := ["skolem/api.ErrBlocks", "skolem/api.ErrRange", "skolem/api.ErrLimit"], apart := false, laid := [("skolem/api.ErrLimit", laid_skolem_api_ErrLimit), ("skolem/api.ErrRange", laid_skolem_api_ErrRange), ("skolem/api.ErrBlocks", laid_skolem_api_ErrBlocks)] }
def PrefixMatrixSaid : Prop := prefixMatrixRow.holds Tryd.pinned (OpenSpec.ofChange prefixMatrixSpec)

/-- ITS FALSE NEIGHBOUR: 'it returns false'. Refute it at one input. -/
def prefixMatrixWrong : ChangeSpec := { name := "prefixMatrix", fn := fun _ => fun
  | [d] => { results := [.lit (.bool false)], args := [d] }
  | _ => none }
def PrefixMatrixWrongFalsely : Prop := prefixMatrixRow.holds Tryd.pinned (OpenSpec.ofChange prefixMatrixWrong)

/-- 'skolemlaw22.DratSound': WHATEVER THE INPUT: true; the input reads as it did. -/
def dratSoundSpec : ChangeSpec := { name := "dratSound", fn := fun _ => fun
  | [d1, d2, d3, d4, d5] => { results := [.lit (.bool true)], args := [d1, d2, d3, d4, d5] }
  | _ => none }
def dratSoundRow : OpenClaim := { program := "ytgneblbblihaoaadoor", sum := "d39ed07781188a1543f25c17de96bc3968e9b211fea24262c0fce742c1a17edb", func := "skolem/skolemlaw22.DratSound", spec := "dratSound", unfollowed := true, recurses := true, named := ["skolem/api.ErrProof", "skolem/api.ErrLimit", "skolem/api.ErrRange"], apart := false, laid := [("skolem/api.ErrLimit", laid_skolem_api_ErrLimit), ("skolem/api.ErrRange", laid_skolem_api_ErrRange), ("skolem/api.ErrProof", laid_skolem_api_ErrProof)] }
def DratSoundSaid : Prop := dratSoundRow.holds Tryd.pinned (OpenSpec.ofChange dratSoundSpec)

/-- ITS FALSE NEIGHBOUR: 'it returns false'. Refute it at one input. -/
def dratSoundWrong : ChangeSpec := { name := "dratSound", fn := fun _ => fun
  | [d1, d2, d3, d4, d5] => { results := [.lit (.bool false)], args := [d1, d2, d3, d4, d5] }
  | _ => none }
def DratSoundWrongFalsely : Prop := dratSoundRow.holds Tryd.pinned (OpenSpec.ofChange dratSoundWrong)

/-- 'skolemlaw22.DratPlaces': WHATEVER THE INPUT: true; the input reads as it did. -/
def dratPlacesSpec : ChangeSpec := { name := "dratPlaces", fn := fun _ => fun
  | [d1, d2, d3] => { results := [.lit (.bool true)], args := [d1, d2, d3] }
  | _ => none }
def dratPlacesRow : OpenClaim := { program := "ytgneblbblihaoaadoor", sum := "d39ed07781188a1543f25c17de96bc3968e9b211fea24262c0fce742c1a17edb", func := "skolem/skolemlaw22.DratPlaces", spec := "dratPlaces", unfollowed := true, recurses := true, named := ["skolem/api.ErrProof", "skolem/api.ErrLimit", "skolem/api.ErrRange", "skolem/api.ErrText", "skolem/api.ErrBudget", "skolem/api.ErrBlocks", "skolem/api.ErrCert"], apart := false, laid := [("skolem/api.ErrText", laid_skolem_api_ErrText), ("skolem/api.ErrLimit", laid_skolem_api_ErrLimit), ("skolem/api.ErrBudget", laid_skolem_api_ErrBudget), ("skolem/api.ErrRange", laid_skolem_api_ErrRange), ("skolem/api.ErrBlocks", laid_skolem_api_ErrBlocks), ("skolem/api.ErrProof", laid_skolem_api_ErrProof), ("skolem/api.ErrCert", laid_skolem_api_ErrCert)] }
def DratPlacesSaid : Prop := dratPlacesRow.holds Tryd.pinned (OpenSpec.ofChange dratPlacesSpec)

/-- ITS FALSE NEIGHBOUR: 'it returns false'. Refute it at one input. -/
def dratPlacesWrong : ChangeSpec := { name := "dratPlaces", fn := fun _ => fun
  | [d1, d2, d3] => { results := [.lit (.bool false)], args := [d1, d2, d3] }
  | _ => none }
def DratPlacesWrongFalsely : Prop := dratPlacesRow.holds Tryd.pinned (OpenSpec.ofChange dratPlacesWrong)

/-- 'skolemlaw22.DratGoals': WHATEVER THE INPUT: true; the input reads as it did. -/
def dratGoalsSpec : ChangeSpec := { name := "dratGoals", fn := fun _ => fun
  | [d1, d2, d3] => { results := [.lit (.bool true)], args := [d1, d2, d3] }
  | _ => none }
def dratGoalsRow : OpenClaim := { program := "ytgneblbblihaoaadoor", sum := "d39ed07781188a1543f25c17de96bc3968e9b211fea24262c0fce742c1a17edb", func := "skolem/skolemlaw22.DratGoals", spec := "dratGoals", unfollowed := true, recurses := true, named := ["skolem/api.ErrProof", "skolem/api.ErrLimit", "skolem/api.ErrRange", "skolem/api.ErrText", "skolem/api.ErrBudget", "skolem/api.ErrBlocks", "skolem/api.ErrCert"], apart := false, laid := [("skolem/api.ErrText", laid_skolem_api_ErrText), ("skolem/api.ErrLimit", laid_skolem_api_ErrLimit), ("skolem/api.ErrBudget", laid_skolem_api_ErrBudget), ("skolem/api.ErrRange", laid_skolem_api_ErrRange), ("skolem/api.ErrBlocks", laid_skolem_api_ErrBlocks), ("skolem/api.ErrProof", laid_skolem_api_ErrProof), ("skolem/api.ErrCert", laid_skolem_api_ErrCert)] }
def DratGoalsSaid : Prop := dratGoalsRow.holds Tryd.pinned (OpenSpec.ofChange dratGoalsSpec)

/-- ITS FALSE NEIGHBOUR: 'it returns false'. Refute it at one input. -/
def dratGoalsWrong : ChangeSpec := { name := "dratGoals", fn := fun _ => fun
  | [d1, d2, d3] => { results := [.lit (.bool false)], args := [d1, d2, d3] }
  | _ => none }
def DratGoalsWrongFalsely : Prop := dratGoalsRow.holds Tryd.pinned (OpenSpec.ofChange dratGoalsWrong)

/-- 'skolemlaw22.DratDrops': WHATEVER THE INPUT: true; the input reads as it did. -/
def dratDropsSpec : ChangeSpec := { name := "dratDrops", fn := fun _ => fun
  | [d1, d2] => { results := [.lit (.bool true)], args := [d1, d2] }
  | _ => none }
def dratDropsRow : OpenClaim := { program := "ytgneblbblihaoaadoor", sum := "d39ed07781188a1543f25c17de96bc3968e9b211fea24262c0fce742c1a17edb", func := "skolem/skolemlaw22.DratDrops", spec := "dratDrops", unfollowed := true, recurses := true, named := ["skolem/api.ErrProof", "skolem/api.ErrLimit", "skolem/api.ErrRange", "skolem/api.ErrText", "skolem/api.ErrBudget", "skolem/api.ErrBlocks", "skolem/api.ErrCert"], apart := false, laid := [("skolem/api.ErrText", laid_skolem_api_ErrText), ("skolem/api.ErrLimit", laid_skolem_api_ErrLimit), ("skolem/api.ErrBudget", laid_skolem_api_ErrBudget), ("skolem/api.ErrRange", laid_skolem_api_ErrRange), ("skolem/api.ErrBlocks", laid_skolem_api_ErrBlocks), ("skolem/api.ErrProof", laid_skolem_api_ErrProof), ("skolem/api.ErrCert", laid_skolem_api_ErrCert)] }
def DratDropsSaid : Prop := dratDropsRow.holds Tryd.pinned (OpenSpec.ofChange dratDropsSpec)

/-- ITS FALSE NEIGHBOUR: 'it returns false'. Refute it at one input. -/
def dratDropsWrong : ChangeSpec := { name := "dratDrops", fn := fun _ => fun
  | [d1, d2] => { results := [.lit (.bool false)], args := [d1, d2] }
  | _ => none }
def DratDropsWrongFalsely : Prop := dratDropsRow.holds Tryd.pinned (OpenSpec.ofChange dratDropsWrong)

/-- 'skolemlaw19.IncrLimits': WHATEVER THE INPUT: true; the input reads as it did. -/
def incrLimitsSpec : ChangeSpec := { name := "incrLimits", fn := fun _ => fun
  | [d1, d2] => { results := [.lit (.bool true)], args := [d1, d2] }
  | _ => none }
def incrLimitsRow : OpenClaim := { program := "ytgneblbblihaoaadoor", sum := "d39ed07781188a1543f25c17de96bc3968e9b211fea24262c0fce742c1a17edb", func := "skolem/skolemlaw19.IncrLimits", spec := "incrLimits", unfollowed := true, recurses := true, named := ["skolem/api.ErrRange", "skolem/api.ErrLimit", "skolem/api.ErrText", "skolem/api.ErrBudget", "skolem/api.ErrBlocks", "skolem/api.ErrProof", "skolem/api.ErrCert"], apart := false, laid := [("skolem/api.ErrText", laid_skolem_api_ErrText), ("skolem/api.ErrLimit", laid_skolem_api_ErrLimit), ("skolem/api.ErrBudget", laid_skolem_api_ErrBudget), ("skolem/api.ErrRange", laid_skolem_api_ErrRange), ("skolem/api.ErrBlocks", laid_skolem_api_ErrBlocks), ("skolem/api.ErrProof", laid_skolem_api_ErrProof), ("skolem/api.ErrCert", laid_skolem_api_ErrCert)] }
def IncrLimitsSaid : Prop := incrLimitsRow.holds Tryd.pinned (OpenSpec.ofChange incrLimitsSpec)

/-- ITS FALSE NEIGHBOUR: 'it returns false'. Refute it at one input. -/
def incrLimitsWrong : ChangeSpec := { name := "incrLimits", fn := fun _ => fun
  | [d1, d2] => { results := [.lit (.bool false)], args := [d1, d2] }
  | _ => none }
def IncrLimitsWrongFalsely : Prop := incrLimitsRow.holds Tryd.pinned (OpenSpec.ofChange incrLimitsWrong)

/-- 'skolemlaw19.IncrSays': WHATEVER THE INPUT: true; the input reads as it did. -/
def incrSaysSpec : ChangeSpec := { name := "incrSays", fn := fun _ => fun
  | [d1, d2, d3, d4, d5, d6] => { results := [.lit (.bool true)], args := [d1, d2, d3, d4, d5, d6] }
  | _ => none }
def incrSaysRow : OpenClaim := { program := "ytgneblbblihaoaadoor", sum := "d39ed07781188a1543f25c17de96bc3968e9b211fea24262c0fce742c1a17edb", func := "skolem/skolemlaw19.IncrSays", spec := "incrSays", unfollowed := true, recurses := true, named := ["skolem/api.ErrRange", "skolem/api.ErrLimit", "skolem/api.ErrText", "skolem/api.ErrBudget", "skolem/api.ErrBlocks", "skolem/api.ErrProof", "skolem/api.ErrCert"], apart := false, laid := [("skolem/api.ErrText", laid_skolem_api_ErrText), ("skolem/api.ErrLimit", laid_skolem_api_ErrLimit), ("skolem/api.ErrBudget", laid_skolem_api_ErrBudget), ("skolem/api.ErrRange", laid_skolem_api_ErrRange), ("skolem/api.ErrBlocks", laid_skolem_api_ErrBlocks), ("skolem/api.ErrProof", laid_skolem_api_ErrProof), ("skolem/api.ErrCert", laid_skolem_api_ErrCert)] }
def IncrSaysSaid : Prop := incrSaysRow.holds Tryd.pinned (OpenSpec.ofChange incrSaysSpec)

/-- ITS FALSE NEIGHBOUR: 'it returns false'. Refute it at one input. -/
def incrSaysWrong : ChangeSpec := { name := "incrSays", fn := fun _ => fun
  | [d1, d2, d3, d4, d5, d6] => { results := [.lit (.bool false)], args := [d1, d2, d3, d4, d5, d6] }
  | _ => none }
def IncrSaysWrongFalsely : Prop := incrSaysRow.holds Tryd.pinned (OpenSpec.ofChange incrSaysWrong)

/- THE SECOND FORM. 'bulk': how many values and letters a reading holds, each counted each time it is reached (what is shared counts as often as it is met; a slice's spare places count too). A statement '..UptoSaid' is the law's where the arguments, and the package variables that the reading takes, are together of bulk at most 1048576: NARROWER than '..Said'. Prove '..Said' where nothing that the law and all that it calls make is longer than what came in: it says more and counts as full. Else prove '..UptoSaid'. A law counts once. -/
mutual
def uptoBulk {H : Type} : DataW H → Nat
  | .lit (.string bytes) => bytes.length + 1
  | .lit _ => 1
  | .nil => 1
  | .ptr d => uptoBulk d + 1
  | .slice elems spare => uptoBulkAll elems + uptoBulkAll spare + 1
  | .agg parts => uptoBulkAll parts + 1
  | .iface _ d => uptoBulk d + 1
  | .map entries => uptoBulkEntries entries + 1
  | .held _ => 1
def uptoBulkAll {H : Type} : List (DataW H) → Nat
  | [] => 0
  | d :: r => uptoBulk d + uptoBulkAll r
def uptoBulkEntries {H : Type} : List (Lit × DataW H) → Nat
  | [] => 0
  | x :: r => uptoBulkEntry x + uptoBulkEntries r
def uptoBulkEntry {H : Type} : Lit × DataW H → Nat
  | (.string bytes, d) => bytes.length + uptoBulk d + 1
  | (_, d) => uptoBulk d + 1
 end
def uptoSmall : (H : Type) → List (DataW H) → Bool := fun _ ds => decide (uptoBulkAll ds ≤ 1048576)
def OpenSpec.upto (s : _root_.Go.ChangeSpec) : _root_.Go.OpenSpec := { _root_.Go.OpenSpec.ofChange s with cond := some uptoSmall }

/-- 'skolemlaw6.PrefixSays', WHERE WHAT IT READS IS OF BULK AT MOST 1048576: true; the input reads as it did. -/
def prefixSaysUptoRow : OpenClaim := { program := "ytgneblbblihaoaadoor", sum := "d39ed07781188a1543f25c17de96bc3968e9b211fea24262c0fce742c1a17edb", func := "skolem/skolemlaw6.PrefixSays", spec := "prefixSays", unfollowed := true, recurses := true, named := ["skolem/api.ErrBlocks", "skolem/api.ErrRange", "skolem/api.ErrLimit", "skolem/api.ErrText", "skolem/api.ErrBudget", "skolem/api.ErrProof", "skolem/api.ErrCert"], apart := false, laid := [("skolem/api.ErrText", laid_skolem_api_ErrText), ("skolem/api.ErrLimit", laid_skolem_api_ErrLimit), ("skolem/api.ErrBudget", laid_skolem_api_ErrBudget), ("skolem/api.ErrRange", laid_skolem_api_ErrRange), ("skolem/api.ErrBlocks", laid_skolem_api_ErrBlocks), ("skolem/api.ErrProof", laid_skolem_api_ErrProof), ("skolem/api.ErrCert", laid_skolem_api_ErrCert)], narrowed := true }
def PrefixSaysUptoSaid : Prop := prefixSaysUptoRow.holds Tryd.pinned (OpenSpec.upto prefixSaysSpec)

/-- 'skolemlaw6.PrefixMerges', WHERE WHAT IT READS IS OF BULK AT MOST 1048576: true; the input reads as it did. -/
def prefixMergesUptoRow : OpenClaim := { program := "ytgneblbblihaoaadoor", sum := "d39ed07781188a1543f25c17de96bc3968e9b211fea24262c0fce742c1a17edb", func := "skolem/skolemlaw6.PrefixMerges", spec := "prefixMerges", unfollowed := true, recurses := true, named := ["skolem/api.ErrBlocks", "skolem/api.ErrRange", "skolem/api.ErrLimit"], apart := false, laid := [("skolem/api.ErrLimit", laid_skolem_api_ErrLimit), ("skolem/api.ErrRange", laid_skolem_api_ErrRange), ("skolem/api.ErrBlocks", laid_skolem_api_ErrBlocks)], narrowed := true }
def PrefixMergesUptoSaid : Prop := prefixMergesUptoRow.holds Tryd.pinned (OpenSpec.upto prefixMergesSpec)

/-- 'skolemlaw6.PrefixFree', WHERE WHAT IT READS IS OF BULK AT MOST 1048576: true; the input reads as it did. -/
def prefixFreeUptoRow : OpenClaim := { program := "ytgneblbblihaoaadoor", sum := "d39ed07781188a1543f25c17de96bc3968e9b211fea24262c0fce742c1a17edb", func := "skolem/skolemlaw6.PrefixFree", spec := "prefixFree", unfollowed := true, recurses := true, named := ["skolem/api.ErrBlocks", "skolem/api.ErrRange", "skolem/api.ErrLimit"], apart := false, laid := [("skolem/api.ErrLimit", laid_skolem_api_ErrLimit), ("skolem/api.ErrRange", laid_skolem_api_ErrRange), ("skolem/api.ErrBlocks", laid_skolem_api_ErrBlocks)], narrowed := true }
def PrefixFreeUptoSaid : Prop := prefixFreeUptoRow.holds Tryd.pinned (OpenSpec.upto prefixFreeSpec)

/-- 'skolemlaw6.PrefixBlocks', WHERE WHAT IT READS IS OF BULK AT MOST 1048576: true; the input reads as it did. -/
def prefixBlocksUptoRow : OpenClaim := { program := "ytgneblbblihaoaadoor", sum := "d39ed07781188a1543f25c17de96bc3968e9b211fea24262c0fce742c1a17edb", func := "skolem/skolemlaw6.PrefixBlocks", spec := "prefixBlocks", unfollowed := true, recurses := true, named := ["skolem/api.ErrBlocks", "skolem/api.ErrRange", "skolem/api.ErrLimit", "skolem/api.ErrText", "skolem/api.ErrBudget", "skolem/api.ErrProof", "skolem/api.ErrCert"], apart := false, laid := [("skolem/api.ErrText", laid_skolem_api_ErrText), ("skolem/api.ErrLimit", laid_skolem_api_ErrLimit), ("skolem/api.ErrBudget", laid_skolem_api_ErrBudget), ("skolem/api.ErrRange", laid_skolem_api_ErrRange), ("skolem/api.ErrBlocks", laid_skolem_api_ErrBlocks), ("skolem/api.ErrProof", laid_skolem_api_ErrProof), ("skolem/api.ErrCert", laid_skolem_api_ErrCert)], narrowed := true }
def PrefixBlocksUptoSaid : Prop := prefixBlocksUptoRow.holds Tryd.pinned (OpenSpec.upto prefixBlocksSpec)

/-- 'skolemlaw6.PrefixMatrix', WHERE WHAT IT READS IS OF BULK AT MOST 1048576: true; the input reads as it did. -/
def prefixMatrixUptoRow : OpenClaim := { program := "ytgneblbblihaoaadoor", sum := "d39ed07781188a1543f25c17de96bc3968e9b211fea24262c0fce742c1a17edb", func := "skolem/skolemlaw6.PrefixMatrix", spec := "prefixMatrix", unfollowed := true, recurses := true, named := ["skolem/api.ErrBlocks", "skolem/api.ErrRange", "skolem/api.ErrLimit"], apart := false, laid := [("skolem/api.ErrLimit", laid_skolem_api_ErrLimit), ("skolem/api.ErrRange", laid_skolem_api_ErrRange), ("skolem/api.ErrBlocks", laid_skolem_api_ErrBlocks)], narrowed := true }
def PrefixMatrixUptoSaid : Prop := prefixMatrixUptoRow.holds Tryd.pinned (OpenSpec.upto prefixMatrixSpec)

/-- 'skolemlaw22.DratSound', WHERE WHAT IT READS IS OF BULK AT MOST 1048576: true; the input reads as it did. -/
def dratSoundUptoRow : OpenClaim := { program := "ytgneblbblihaoaadoor", sum := "d39ed07781188a1543f25c17de96bc3968e9b211fea24262c0fce742c1a17edb", func := "skolem/skolemlaw22.DratSound", spec := "dratSound", unfollowed := true, recurses := true, named := ["skolem/api.ErrProof", "skolem/api.ErrLimit", "skolem/api.ErrRange"], apart := false, laid := [("skolem/api.ErrLimit", laid_skolem_api_ErrLimit), ("skolem/api.ErrRange", laid_skolem_api_ErrRange), ("skolem/api.ErrProof", laid_skolem_api_ErrProof)], narrowed := true }
def DratSoundUptoSaid : Prop := dratSoundUptoRow.holds Tryd.pinned (OpenSpec.upto dratSoundSpec)

/-- 'skolemlaw22.DratPlaces', WHERE WHAT IT READS IS OF BULK AT MOST 1048576: true; the input reads as it did. -/
def dratPlacesUptoRow : OpenClaim := { program := "ytgneblbblihaoaadoor", sum := "d39ed07781188a1543f25c17de96bc3968e9b211fea24262c0fce742c1a17edb", func := "skolem/skolemlaw22.DratPlaces", spec := "dratPlaces", unfollowed := true, recurses := true, named := ["skolem/api.ErrProof", "skolem/api.ErrLimit", "skolem/api.ErrRange", "skolem/api.ErrText", "skolem/api.ErrBudget", "skolem/api.ErrBlocks", "skolem/api.ErrCert"], apart := false, laid := [("skolem/api.ErrText", laid_skolem_api_ErrText), ("skolem/api.ErrLimit", laid_skolem_api_ErrLimit), ("skolem/api.ErrBudget", laid_skolem_api_ErrBudget), ("skolem/api.ErrRange", laid_skolem_api_ErrRange), ("skolem/api.ErrBlocks", laid_skolem_api_ErrBlocks), ("skolem/api.ErrProof", laid_skolem_api_ErrProof), ("skolem/api.ErrCert", laid_skolem_api_ErrCert)], narrowed := true }
def DratPlacesUptoSaid : Prop := dratPlacesUptoRow.holds Tryd.pinned (OpenSpec.upto dratPlacesSpec)

/-- 'skolemlaw22.DratGoals', WHERE WHAT IT READS IS OF BULK AT MOST 1048576: true; the input reads as it did. -/
def dratGoalsUptoRow : OpenClaim := { program := "ytgneblbblihaoaadoor", sum := "d39ed07781188a1543f25c17de96bc3968e9b211fea24262c0fce742c1a17edb", func := "skolem/skolemlaw22.DratGoals", spec := "dratGoals", unfollowed := true, recurses := true, named := ["skolem/api.ErrProof", "skolem/api.ErrLimit", "skolem/api.ErrRange", "skolem/api.ErrText", "skolem/api.ErrBudget", "skolem/api.ErrBlocks", "skolem/api.ErrCert"], apart := false, laid := [("skolem/api.ErrText", laid_skolem_api_ErrText), ("skolem/api.ErrLimit", laid_skolem_api_ErrLimit), ("skolem/api.ErrBudget", laid_skolem_api_ErrBudget), ("skolem/api.ErrRange", laid_skolem_api_ErrRange), ("skolem/api.ErrBlocks", laid_skolem_api_ErrBlocks), ("skolem/api.ErrProof", laid_skolem_api_ErrProof), ("skolem/api.ErrCert", laid_skolem_api_ErrCert)], narrowed := true }
def DratGoalsUptoSaid : Prop := dratGoalsUptoRow.holds Tryd.pinned (OpenSpec.upto dratGoalsSpec)

/-- 'skolemlaw22.DratDrops', WHERE WHAT IT READS IS OF BULK AT MOST 1048576: true; the input reads as it did. -/
def dratDropsUptoRow : OpenClaim := { program := "ytgneblbblihaoaadoor", sum := "d39ed07781188a1543f25c17de96bc3968e9b211fea24262c0fce742c1a17edb", func := "skolem/skolemlaw22.DratDrops", spec := "dratDrops", unfollowed := true, recurses := true, named := ["skolem/api.ErrProof", "skolem/api.ErrLimit", "skolem/api.ErrRange", "skolem/api.ErrText", "skolem/api.ErrBudget", "skolem/api.ErrBlocks", "skolem/api.ErrCert"], apart := false, laid := [("skolem/api.ErrText", laid_skolem_api_ErrText), ("skolem/api.ErrLimit", laid_skolem_api_ErrLimit), ("skolem/api.ErrBudget", laid_skolem_api_ErrBudget), ("skolem/api.ErrRange", laid_skolem_api_ErrRange), ("skolem/api.ErrBlocks", laid_skolem_api_ErrBlocks), ("skolem/api.ErrProof", laid_skolem_api_ErrProof), ("skolem/api.ErrCert", laid_skolem_api_ErrCert)], narrowed := true }
def DratDropsUptoSaid : Prop := dratDropsUptoRow.holds Tryd.pinned (OpenSpec.upto dratDropsSpec)

/-- 'skolemlaw19.IncrLimits', WHERE WHAT IT READS IS OF BULK AT MOST 1048576: true; the input reads as it did. -/
def incrLimitsUptoRow : OpenClaim := { program := "ytgneblbblihaoaadoor", sum := "d39ed07781188a1543f25c17de96bc3968e9b211fea24262c0fce742c1a17edb", func := "skolem/skolemlaw19.IncrLimits", spec := "incrLimits", unfollowed := true, recurses := true, named := ["skolem/api.ErrRange", "skolem/api.ErrLimit", "skolem/api.ErrText", "skolem/api.ErrBudget", "skolem/api.ErrBlocks", "skolem/api.ErrProof", "skolem/api.ErrCert"], apart := false, laid := [("skolem/api.ErrText", laid_skolem_api_ErrText), ("skolem/api.ErrLimit", laid_skolem_api_ErrLimit), ("skolem/api.ErrBudget", laid_skolem_api_ErrBudget), ("skolem/api.ErrRange", laid_skolem_api_ErrRange), ("skolem/api.ErrBlocks", laid_skolem_api_ErrBlocks), ("skolem/api.ErrProof", laid_skolem_api_ErrProof), ("skolem/api.ErrCert", laid_skolem_api_ErrCert)], narrowed := true }
def IncrLimitsUptoSaid : Prop := incrLimitsUptoRow.holds Tryd.pinned (OpenSpec.upto incrLimitsSpec)

/-- 'skolemlaw19.IncrSays', WHERE WHAT IT READS IS OF BULK AT MOST 1048576: true; the input reads as it did. -/
def incrSaysUptoRow : OpenClaim := { program := "ytgneblbblihaoaadoor", sum := "d39ed07781188a1543f25c17de96bc3968e9b211fea24262c0fce742c1a17edb", func := "skolem/skolemlaw19.IncrSays", spec := "incrSays", unfollowed := true, recurses := true, named := ["skolem/api.ErrRange", "skolem/api.ErrLimit", "skolem/api.ErrText", "skolem/api.ErrBudget", "skolem/api.ErrBlocks", "skolem/api.ErrProof", "skolem/api.ErrCert"], apart := false, laid := [("skolem/api.ErrText", laid_skolem_api_ErrText), ("skolem/api.ErrLimit", laid_skolem_api_ErrLimit), ("skolem/api.ErrBudget", laid_skolem_api_ErrBudget), ("skolem/api.ErrRange", laid_skolem_api_ErrRange), ("skolem/api.ErrBlocks", laid_skolem_api_ErrBlocks), ("skolem/api.ErrProof", laid_skolem_api_ErrProof), ("skolem/api.ErrCert", laid_skolem_api_ErrCert)], narrowed := true }
def IncrSaysUptoSaid : Prop := incrSaysUptoRow.holds Tryd.pinned (OpenSpec.upto incrSaysSpec)

end Rows
end Go.Proofs.YtgneblbblihaoaaDoor
