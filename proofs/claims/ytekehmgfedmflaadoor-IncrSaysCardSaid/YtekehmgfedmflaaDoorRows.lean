/-
  NARROWER THAN 'FOR EVERY INPUT', by the rows' own cells (each row's printed sentence says how): IncrLimits: laid · IncrSays: laid.
  DERIVED. THE GIVEN ROWS OF THIS SEAT. 2 by the template 'for every input the law returns true; each argument reads behind the call as it read before'; 0 by the template 'total and deterministic' (their statements: YtekehmgfedmflaaDoorTotals.lean).
  GIVEN WITH THE SEED: the statements are not yours to turn. If you find one false, say at which input.
  Laid BY PROGRAM, IN A SANDBOX (cutbox-rows.mjs): the forced cells as the released guide's own fill.sh prints them over the translation 4083eeae11e4a484… (all of the seat's roots in one cut). By AI agents, Wed Nov 11 2026. No macro, syntax, notation, axiom, sorry.
-/
import Derived.Test.YtekehmgfedmflaaDoorChecked
import GoSem.Claim
import GoSem.ClaimJoined
import GoSem.ClaimMapViews
import Derived.JoinedTies
import Derived.KernelRfl
namespace Go.Proofs.YtekehmgfedmflaaDoor
/- THE CELL 'sum', in the pinned program and in every row, IS THE sha256 OF THE DUMP (.gsa) THAT YtekehmgfedmflaaDoorProg.lean LOADS. Nothing in Lean hashes anything: it is a label: what it is worth is what the hold of that sum in a sandbox is worth. -/
noncomputable def Tryd.pinned : Pinned := { name := "ytekehmgfedmflaadoor", sum := "4083eeae11e4a48481eeb6b175b47cc85c7d7dd44fe26cf67d6cf96d22a397c9", checked := Tryd.checked }
namespace Rows
def none {H : Type} : Left H := { results := [], args := [] }

/- WHAT THE LISTED PACKAGE-LEVEL VARIABLES READ AS WHEN THE CALL BEGINS. Each datum BY PROGRAM (the guide's laid-datum.mjs) off the statement by which the dump's own 'gosem.cut.vars' lays the variable. In a bare row this is a premise. The card (YtekehmgfedmflaaDoorCards.lean) ties it to the program's text. -/
def laid_skolem_api_ErrText {H : Type} : DataW H := .iface "*errors.errorString" (.ptr (.agg [.lit (.string [110, 111, 116, 32, 97, 115, 32, 105, 116, 32, 105, 115, 32, 119, 114, 105, 116, 116, 101, 110])]))
def laid_skolem_api_ErrLimit {H : Type} : DataW H := .iface "*errors.errorString" (.ptr (.agg [.lit (.string [109, 111, 114, 101, 32, 116, 104, 97, 110, 32, 109, 97, 121, 32, 98, 101])]))
def laid_skolem_api_ErrBudget {H : Type} : DataW H := .iface "*errors.errorString" (.ptr (.agg [.lit (.string [116, 104, 101, 32, 98, 117, 100, 103, 101, 116, 32, 105, 115, 32, 117, 115, 101, 100, 32, 117, 112])]))
def laid_skolem_api_ErrRange {H : Type} : DataW H := .iface "*errors.errorString" (.ptr (.agg [.lit (.string [97, 32, 110, 117, 109, 98, 101, 114, 32, 111, 117, 116, 32, 111, 102, 32, 105, 116, 115, 32, 114, 97, 110, 103, 101])]))
def laid_skolem_api_ErrBlocks {H : Type} : DataW H := .iface "*errors.errorString" (.ptr (.agg [.lit (.string [109, 111, 114, 101, 32, 116, 104, 97, 110, 32, 116, 119, 111, 32, 98, 108, 111, 99, 107, 115])]))
def laid_skolem_api_ErrProof {H : Type} : DataW H := .iface "*errors.errorString" (.ptr (.agg [.lit (.string [97, 32, 115, 116, 101, 112, 32, 116, 104, 97, 116, 32, 100, 111, 101, 115, 32, 110, 111, 116, 32, 102, 111, 108, 108, 111, 119])]))
def laid_skolem_api_ErrCert {H : Type} : DataW H := .iface "*errors.errorString" (.ptr (.agg [.lit (.string [110, 111, 32, 99, 101, 114, 116, 105, 102, 105, 99, 97, 116, 101, 32, 111, 102, 32, 105, 116])]))

/-- 'skolemlaw19.IncrLimits': WHATEVER THE INPUT: true; the input reads as it did. -/
def incrLimitsSpec : ChangeSpec := { name := "incrLimits", fn := fun _ => fun
  | [d1, d2] => { results := [.lit (.bool true)], args := [d1, d2] }
  | _ => none }
def incrLimitsRow : OpenClaim := { program := "ytekehmgfedmflaadoor", sum := "4083eeae11e4a48481eeb6b175b47cc85c7d7dd44fe26cf67d6cf96d22a397c9", func := "skolem/skolemlaw19.IncrLimits", spec := "incrLimits", unfollowed := true, recurses := true, named := ["skolem/api.ErrRange", "skolem/api.ErrLimit", "skolem/api.ErrText", "skolem/api.ErrBudget", "skolem/api.ErrBlocks", "skolem/api.ErrProof", "skolem/api.ErrCert"], apart := false, laid := [("skolem/api.ErrText", laid_skolem_api_ErrText), ("skolem/api.ErrLimit", laid_skolem_api_ErrLimit), ("skolem/api.ErrBudget", laid_skolem_api_ErrBudget), ("skolem/api.ErrRange", laid_skolem_api_ErrRange), ("skolem/api.ErrBlocks", laid_skolem_api_ErrBlocks), ("skolem/api.ErrProof", laid_skolem_api_ErrProof), ("skolem/api.ErrCert", laid_skolem_api_ErrCert)] }
def IncrLimitsSaid : Prop := incrLimitsRow.holds Tryd.pinned (OpenSpec.ofChange incrLimitsSpec)

/-- ITS FALSE NEIGHBOUR: 'it returns false'. Refute it at one input. -/
def incrLimitsWrong : ChangeSpec := { name := "incrLimits", fn := fun _ => fun
  | [d1, d2] => { results := [.lit (.bool false)], args := [d1, d2] }
  | _ => none }
def IncrLimitsWrongFalsely : Prop := incrLimitsRow.holds Tryd.pinned (OpenSpec.ofChange incrLimitsWrong)

/-- 'skolemlaw19.IncrSays': WHATEVER THE INPUT: true; the input reads as it did. -/
def incrSaysSpec : ChangeSpec := { name := "incrSays", fn := fun _ => fun
  | [d1, d2, d3, d4, d5, d6] => { results := [.lit (.bool true)], args := [d1, d2, d3, d4, d5, d6] }
  | _ => none }
def incrSaysRow : OpenClaim := { program := "ytekehmgfedmflaadoor", sum := "4083eeae11e4a48481eeb6b175b47cc85c7d7dd44fe26cf67d6cf96d22a397c9", func := "skolem/skolemlaw19.IncrSays", spec := "incrSays", unfollowed := true, recurses := true, named := ["skolem/api.ErrRange", "skolem/api.ErrLimit", "skolem/api.ErrText", "skolem/api.ErrBudget", "skolem/api.ErrBlocks", "skolem/api.ErrProof", "skolem/api.ErrCert"], apart := false, laid := [("skolem/api.ErrText", laid_skolem_api_ErrText), ("skolem/api.ErrLimit", laid_skolem_api_ErrLimit), ("skolem/api.ErrBudget", laid_skolem_api_ErrBudget), ("skolem/api.ErrRange", laid_skolem_api_ErrRange), ("skolem/api.ErrBlocks", laid_skolem_api_ErrBlocks), ("skolem/api.ErrProof", laid_skolem_api_ErrProof), ("skolem/api.ErrCert", laid_skolem_api_ErrCert)] }
def IncrSaysSaid : Prop := incrSaysRow.holds Tryd.pinned (OpenSpec.ofChange incrSaysSpec)

/-- ITS FALSE NEIGHBOUR: 'it returns false'. Refute it at one input. -/
def incrSaysWrong : ChangeSpec := { name := "incrSays", fn := fun _ => fun
  | [d1, d2, d3, d4, d5, d6] => { results := [.lit (.bool false)], args := [d1, d2, d3, d4, d5, d6] }
  | _ => none }
def IncrSaysWrongFalsely : Prop := incrSaysRow.holds Tryd.pinned (OpenSpec.ofChange incrSaysWrong)

/- THE SECOND FORM. 'bulk': how many values and letters a reading holds, each counted each time it is reached (what is shared counts as often as it is met; a slice's spare places count too). A statement '..UptoSaid' is the law's where the arguments, and the package variables that the reading takes, are together of bulk at most 1048576: NARROWER than '..Said'. Prove '..Said' where nothing that the law and all that it calls make is longer than what came in: it says more and counts as full. Else prove '..UptoSaid'. A law counts once. -/
mutual
def uptoBulk {H : Type} : DataW H → Nat
  | .lit (.string bytes) => bytes.length + 1
  | .lit _ => 1
  | .nil => 1
  | .ptr d => uptoBulk d + 1
  | .slice elems spare => uptoBulkAll elems + uptoBulkAll spare + 1
  | .agg parts => uptoBulkAll parts + 1
  | .iface _ d => uptoBulk d + 1
  | .map entries => uptoBulkEntries entries + 1
  | .held _ => 1
def uptoBulkAll {H : Type} : List (DataW H) → Nat
  | [] => 0
  | d :: r => uptoBulk d + uptoBulkAll r
def uptoBulkEntries {H : Type} : List (Lit × DataW H) → Nat
  | [] => 0
  | x :: r => uptoBulkEntry x + uptoBulkEntries r
def uptoBulkEntry {H : Type} : Lit × DataW H → Nat
  | (.string bytes, d) => bytes.length + uptoBulk d + 1
  | (_, d) => uptoBulk d + 1
 end
def uptoSmall : (H : Type) → List (DataW H) → Bool := fun _ ds => decide (uptoBulkAll ds ≤ 1048576)
def OpenSpec.upto (s : _root_.Go.ChangeSpec) : _root_.Go.OpenSpec := { _root_.Go.OpenSpec.ofChange s with cond := some uptoSmall }

/-- 'skolemlaw19.IncrLimits', WHERE WHAT IT READS IS OF BULK AT MOST 1048576: true; the input reads as it did. -/
def incrLimitsUptoRow : OpenClaim := { program := "ytekehmgfedmflaadoor", sum := "4083eeae11e4a48481eeb6b175b47cc85c7d7dd44fe26cf67d6cf96d22a397c9", func := "skolem/skolemlaw19.IncrLimits", spec := "incrLimits", unfollowed := true, recurses := true, named := ["skolem/api.ErrRange", "skolem/api.ErrLimit", "skolem/api.ErrText", "skolem/api.ErrBudget", "skolem/api.ErrBlocks", "skolem/api.ErrProof", "skolem/api.ErrCert"], apart := false, laid := [("skolem/api.ErrText", laid_skolem_api_ErrText), ("skolem/api.ErrLimit", laid_skolem_api_ErrLimit), ("skolem/api.ErrBudget", laid_skolem_api_ErrBudget), ("skolem/api.ErrRange", laid_skolem_api_ErrRange), ("skolem/api.ErrBlocks", laid_skolem_api_ErrBlocks), ("skolem/api.ErrProof", laid_skolem_api_ErrProof), ("skolem/api.ErrCert", laid_skolem_api_ErrCert)], narrowed := true }
def IncrLimitsUptoSaid : Prop := incrLimitsUptoRow.holds Tryd.pinned (OpenSpec.upto incrLimitsSpec)

/-- 'skolemlaw19.IncrSays', WHERE WHAT IT READS IS OF BULK AT MOST 1048576: true; the input reads as it did. -/
def incrSaysUptoRow : OpenClaim := { program := "ytekehmgfedmflaadoor", sum := "4083eeae11e4a48481eeb6b175b47cc85c7d7dd44fe26cf67d6cf96d22a397c9", func := "skolem/skolemlaw19.IncrSays", spec := "incrSays", unfollowed := true, recurses := true, named := ["skolem/api.ErrRange", "skolem/api.ErrLimit", "skolem/api.ErrText", "skolem/api.ErrBudget", "skolem/api.ErrBlocks", "skolem/api.ErrProof", "skolem/api.ErrCert"], apart := false, laid := [("skolem/api.ErrText", laid_skolem_api_ErrText), ("skolem/api.ErrLimit", laid_skolem_api_ErrLimit), ("skolem/api.ErrBudget", laid_skolem_api_ErrBudget), ("skolem/api.ErrRange", laid_skolem_api_ErrRange), ("skolem/api.ErrBlocks", laid_skolem_api_ErrBlocks), ("skolem/api.ErrProof", laid_skolem_api_ErrProof), ("skolem/api.ErrCert", laid_skolem_api_ErrCert)], narrowed := true }
def IncrSaysUptoSaid : Prop := incrSaysUptoRow.holds Tryd.pinned (OpenSpec.upto incrSaysSpec)

end Rows
end Go.Proofs.YtekehmgfedmflaaDoor
