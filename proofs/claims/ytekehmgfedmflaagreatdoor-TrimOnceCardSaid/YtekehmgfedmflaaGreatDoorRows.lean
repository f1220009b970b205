/-
  NARROWER THAN 'FOR EVERY INPUT', by the rows' own cells (each row's printed sentence says how): TrimOnce: laid · TrimBudgets: laid · CegarSays: laid.
  DERIVED. THE GIVEN ROWS OF THIS SEAT. 3 by the template 'for every input the law returns true; each argument reads behind the call as it read before'; 0 by the template 'total and deterministic' (their statements: YtekehmgfedmflaaGreatDoorTotals.lean).
  GIVEN WITH THE SEED: the statements are not yours to turn. If you find one false, say at which input.
  Laid BY PROGRAM, IN A SANDBOX (cutbox-rows.mjs): the forced cells as the released guide's own fill.sh prints them over the translation 021810bb032b7c21… (all of the seat's roots in one cut). By AI agents, Wed Nov 11 2026. No macro, syntax, notation, axiom, sorry.
-/
import Derived.Test.YtekehmgfedmflaaGreatDoorChecked
import GoSem.Claim
import GoSem.ClaimJoined
import GoSem.ClaimMapViews
import Derived.JoinedTies
import Derived.KernelRfl
namespace Go.Proofs.YtekehmgfedmflaaGreatDoor
/- THE CELL 'sum', in the pinned program and in every row, IS THE sha256 OF THE DUMP (.gsa) THAT YtekehmgfedmflaaGreatDoorProg.lean LOADS. Nothing in Lean hashes anything: it is a label: what it is worth is what the hold of that sum in a sandbox is worth. -/
noncomputable def Tryz.pinned : Pinned := { name := "ytekehmgfedmflaagreatdoor", sum := "021810bb032b7c21e9e9ea90e7a08d21e8b2f3ba49f241f79cd191f5bd1a95f7", checked := Tryz.checked }
namespace Rows
def none {H : Type} : Left H := { results := [], args := [] }

/- WHAT THE LISTED PACKAGE-LEVEL VARIABLES READ AS WHEN THE CALL BEGINS. Each datum BY PROGRAM (the guide's laid-datum.mjs) off the statement by which the dump's own 'gosem.cut.vars' lays the variable. In a bare row this is a premise. The card (YtekehmgfedmflaaGreatDoorCards.lean) ties it to the program's text. -/
def laid_skolem_api_ErrLimit {H : Type} : DataW H := .iface "*errors.errorString" (.ptr (.agg [.lit (.string [109, 111, 114, 101, 32, 116, 104, 97, 110, 32, 109, 97, 121, 32, 98, 101])]))
def laid_skolem_api_ErrBudget {H : Type} : DataW H := .iface "*errors.errorString" (.ptr (.agg [.lit (.string [116, 104, 101, 32, 98, 117, 100, 103, 101, 116, 32, 105, 115, 32, 117, 115, 101, 100, 32, 117, 112])]))
def laid_skolem_api_ErrRange {H : Type} : DataW H := .iface "*errors.errorString" (.ptr (.agg [.lit (.string [97, 32, 110, 117, 109, 98, 101, 114, 32, 111, 117, 116, 32, 111, 102, 32, 105, 116, 115, 32, 114, 97, 110, 103, 101])]))
def laid_skolem_api_ErrText {H : Type} : DataW H := .iface "*errors.errorString" (.ptr (.agg [.lit (.string [110, 111, 116, 32, 97, 115, 32, 105, 116, 32, 105, 115, 32, 119, 114, 105, 116, 116, 101, 110])]))
def laid_skolem_api_ErrBlocks {H : Type} : DataW H := .iface "*errors.errorString" (.ptr (.agg [.lit (.string [109, 111, 114, 101, 32, 116, 104, 97, 110, 32, 116, 119, 111, 32, 98, 108, 111, 99, 107, 115])]))
def laid_skolem_api_ErrProof {H : Type} : DataW H := .iface "*errors.errorString" (.ptr (.agg [.lit (.string [97, 32, 115, 116, 101, 112, 32, 116, 104, 97, 116, 32, 100, 111, 101, 115, 32, 110, 111, 116, 32, 102, 111, 108, 108, 111, 119])]))
def laid_skolem_api_ErrCert {H : Type} : DataW H := .iface "*errors.errorString" (.ptr (.agg [.lit (.string [110, 111, 32, 99, 101, 114, 116, 105, 102, 105, 99, 97, 116, 101, 32, 111, 102, 32, 105, 116])]))

/-- 'skolemlaw25.TrimOnce': WHATEVER THE INPUT: true; the input reads as it did. -/
def trimOnceSpec : ChangeSpec := { name := "trimOnce", fn := fun _ => fun
  | [d1, d2] => { results := [.lit (.bool true)], args := [d1, d2] }
  | _ => none }
def trimOnceRow : OpenClaim := { program := "ytekehmgfedmflaagreatdoor", sum := "021810bb032b7c21e9e9ea90e7a08d21e8b2f3ba49f241f79cd191f5bd1a95f7", func := "skolem/skolemlaw25.TrimOnce", spec := "trimOnce", unfollowed := true, recurses := true, named := ["skolem/api.ErrRange", "skolem/api.ErrLimit", "skolem/api.ErrBudget"], plainKeys := false, apart := false, laid := [("skolem/api.ErrLimit", laid_skolem_api_ErrLimit), ("skolem/api.ErrBudget", laid_skolem_api_ErrBudget), ("skolem/api.ErrRange", laid_skolem_api_ErrRange)] }
def TrimOnceSaid : Prop := trimOnceRow.holds Tryz.pinned (OpenSpec.ofChange trimOnceSpec)

/-- ITS FALSE NEIGHBOUR: 'it returns false'. Refute it at one input. -/
def trimOnceWrong : ChangeSpec := { name := "trimOnce", fn := fun _ => fun
  | [d1, d2] => { results := [.lit (.bool false)], args := [d1, d2] }
  | _ => none }
def TrimOnceWrongFalsely : Prop := trimOnceRow.holds Tryz.pinned (OpenSpec.ofChange trimOnceWrong)

/-- 'skolemlaw25.TrimBudgets': WHATEVER THE INPUT: true; the input reads as it did. -/
def trimBudgetsSpec : ChangeSpec := { name := "trimBudgets", fn := fun _ => fun
  | [d1, d2, d3, d4, d5, d6, d7, d8] => { results := [.lit (.bool true)], args := [d1, d2, d3, d4, d5, d6, d7, d8] }
  | _ => none }
def trimBudgetsRow : OpenClaim := { program := "ytekehmgfedmflaagreatdoor", sum := "021810bb032b7c21e9e9ea90e7a08d21e8b2f3ba49f241f79cd191f5bd1a95f7", func := "skolem/skolemlaw25.TrimBudgets", spec := "trimBudgets", unfollowed := true, recurses := true, named := ["skolem/api.ErrRange", "skolem/api.ErrLimit", "skolem/api.ErrBudget", "skolem/api.ErrText", "skolem/api.ErrBlocks", "skolem/api.ErrProof", "skolem/api.ErrCert"], plainKeys := false, apart := false, laid := [("skolem/api.ErrText", laid_skolem_api_ErrText), ("skolem/api.ErrLimit", laid_skolem_api_ErrLimit), ("skolem/api.ErrBudget", laid_skolem_api_ErrBudget), ("skolem/api.ErrRange", laid_skolem_api_ErrRange), ("skolem/api.ErrBlocks", laid_skolem_api_ErrBlocks), ("skolem/api.ErrProof", laid_skolem_api_ErrProof), ("skolem/api.ErrCert", laid_skolem_api_ErrCert)] }
def TrimBudgetsSaid : Prop := trimBudgetsRow.holds Tryz.pinned (OpenSpec.ofChange trimBudgetsSpec)

/-- ITS FALSE NEIGHBOUR: 'it returns false'. Refute it at one input. -/
def trimBudgetsWrong : ChangeSpec := { name := "trimBudgets", fn := fun _ => fun
  | [d1, d2, d3, d4, d5, d6, d7, d8] => { results := [.lit (.bool false)], args := [d1, d2, d3, d4, d5, d6, d7, d8] }
  | _ => none }
def TrimBudgetsWrongFalsely : Prop := trimBudgetsRow.holds Tryz.pinned (OpenSpec.ofChange trimBudgetsWrong)

/-- 'skolemlaw23.CegarSays': WHATEVER THE INPUT: true; the input reads as it did. -/
def cegarSaysSpec : ChangeSpec := { name := "cegarSays", fn := fun _ => fun
  | [d1, d2, d3, d4, d5, d6, d7, d8] => { results := [.lit (.bool true)], args := [d1, d2, d3, d4, d5, d6, d7, d8] }
  | _ => none }
def cegarSaysRow : OpenClaim := { program := "ytekehmgfedmflaagreatdoor", sum := "021810bb032b7c21e9e9ea90e7a08d21e8b2f3ba49f241f79cd191f5bd1a95f7", func := "skolem/skolemlaw23.CegarSays", spec := "cegarSays", unfollowed := true, recurses := true, named := ["skolem/api.ErrBudget", "skolem/api.ErrRange", "skolem/api.ErrLimit", "skolem/api.ErrText", "skolem/api.ErrBlocks", "skolem/api.ErrProof", "skolem/api.ErrCert"], plainKeys := false, apart := false, laid := [("skolem/api.ErrText", laid_skolem_api_ErrText), ("skolem/api.ErrLimit", laid_skolem_api_ErrLimit), ("skolem/api.ErrBudget", laid_skolem_api_ErrBudget), ("skolem/api.ErrRange", laid_skolem_api_ErrRange), ("skolem/api.ErrBlocks", laid_skolem_api_ErrBlocks), ("skolem/api.ErrProof", laid_skolem_api_ErrProof), ("skolem/api.ErrCert", laid_skolem_api_ErrCert)] }
def CegarSaysSaid : Prop := cegarSaysRow.holds Tryz.pinned (OpenSpec.ofChange cegarSaysSpec)

/-- ITS FALSE NEIGHBOUR: 'it returns false'. Refute it at one input. -/
def cegarSaysWrong : ChangeSpec := { name := "cegarSays", fn := fun _ => fun
  | [d1, d2, d3, d4, d5, d6, d7, d8] => { results := [.lit (.bool false)], args := [d1, d2, d3, d4, d5, d6, d7, d8] }
  | _ => none }
def CegarSaysWrongFalsely : Prop := cegarSaysRow.holds Tryz.pinned (OpenSpec.ofChange cegarSaysWrong)

/- THE SECOND FORM. 'bulk': how many values and letters a reading holds, each counted each time it is reached (what is shared counts as often as it is met; a slice's spare places count too). A statement '..UptoSaid' is the law's where the arguments, and the package variables that the reading takes, are together of bulk at most 1048576: NARROWER than '..Said'. Prove '..Said' where nothing that the law and all that it calls make is longer than what came in: it says more and counts as full. Else prove '..UptoSaid'. A law counts once. -/
mutual
def uptoBulk {H : Type} : DataW H → Nat
  | .lit (.string bytes) => bytes.length + 1
  | .lit _ => 1
  | .nil => 1
  | .ptr d => uptoBulk d + 1
  | .slice elems spare => uptoBulkAll elems + uptoBulkAll spare + 1
  | .agg parts => uptoBulkAll parts + 1
  | .iface _ d => uptoBulk d + 1
  | .map entries => uptoBulkEntries entries + 1
  | .held _ => 1
def uptoBulkAll {H : Type} : List (DataW H) → Nat
  | [] => 0
  | d :: r => uptoBulk d + uptoBulkAll r
def uptoBulkEntries {H : Type} : List (Lit × DataW H) → Nat
  | [] => 0
  | x :: r => uptoBulkEntry x + uptoBulkEntries r
def uptoBulkEntry {H : Type} : Lit × DataW H → Nat
  | (.string bytes, d) => bytes.length + uptoBulk d + 1
  | (_, d) => uptoBulk d + 1
 end
def uptoSmall : (H : Type) → List (DataW H) → Bool := fun _ ds => decide (uptoBulkAll ds ≤ 1048576)
def OpenSpec.upto (s : _root_.Go.ChangeSpec) : _root_.Go.OpenSpec := { _root_.Go.OpenSpec.ofChange s with cond := some uptoSmall }

/-- 'skolemlaw25.TrimOnce', WHERE WHAT IT READS IS OF BULK AT MOST 1048576: true; the input reads as it did. -/
def trimOnceUptoRow : OpenClaim := { program := "ytekehmgfedmflaagreatdoor", sum := "021810bb032b7c21e9e9ea90e7a08d21e8b2f3ba49f241f79cd191f5bd1a95f7", func := "skolem/skolemlaw25.TrimOnce", spec := "trimOnce", unfollowed := true, recurses := true, named := ["skolem/api.ErrRange", "skolem/api.ErrLimit", "skolem/api.ErrBudget"], plainKeys := false, apart := false, laid := [("skolem/api.ErrLimit", laid_skolem_api_ErrLimit), ("skolem/api.ErrBudget", laid_skolem_api_ErrBudget), ("skolem/api.ErrRange", laid_skolem_api_ErrRange)], narrowed := true }
def TrimOnceUptoSaid : Prop := trimOnceUptoRow.holds Tryz.pinned (OpenSpec.upto trimOnceSpec)

/-- 'skolemlaw25.TrimBudgets', WHERE WHAT IT READS IS OF BULK AT MOST 1048576: true; the input reads as it did. -/
def trimBudgetsUptoRow : OpenClaim := { program := "ytekehmgfedmflaagreatdoor", sum := "021810bb032b7c21e9e9ea90e7a08d21e8b2f3ba49f241f79cd191f5bd1a95f7", func := "skolem/skolemlaw25.TrimBudgets", spec := "trimBudgets", unfollowed := true, recurses := true, named := ["skolem/api.ErrRange", "skolem/api.ErrLimit", "skolem/api.ErrBudget", "skolem/api.ErrText", "skolem/api.ErrBlocks", "skolem/api.ErrProof", "skolem/api.ErrCert"], plainKeys := false, apart := false, laid := [("skolem/api.ErrText", laid_skolem_api_ErrText), ("skolem/api.ErrLimit", laid_skolem_api_ErrLimit), ("skolem/api.ErrBudget", laid_skolem_api_ErrBudget), ("skolem/api.ErrRange", laid_skolem_api_ErrRange), ("skolem/api.ErrBlocks", laid_skolem_api_ErrBlocks), ("skolem/api.ErrProof", laid_skolem_api_ErrProof), ("skolem/api.ErrCert", laid_skolem_api_ErrCert)], narrowed := true }
def TrimBudgetsUptoSaid : Prop := trimBudgetsUptoRow.holds Tryz.pinned (OpenSpec.upto trimBudgetsSpec)

/-- 'skolemlaw23.CegarSays', WHERE WHAT IT READS IS OF BULK AT MOST 1048576: true; the input reads as it did. -/
def cegarSaysUptoRow : OpenClaim := { program := "ytekehmgfedmflaagreatdoor", sum := "021810bb032b7c21e9e9ea90e7a08d21e8b2f3ba49f241f79cd191f5bd1a95f7", func := "skolem/skolemlaw23.CegarSays", spec := "cegarSays", unfollowed := true, recurses := true, named := ["skolem/api.ErrBudget", "skolem/api.ErrRange", "skolem/api.ErrLimit", "skolem/api.ErrText", "skolem/api.ErrBlocks", "skolem/api.ErrProof", "skolem/api.ErrCert"], plainKeys := false, apart := false, laid := [("skolem/api.ErrText", laid_skolem_api_ErrText), ("skolem/api.ErrLimit", laid_skolem_api_ErrLimit), ("skolem/api.ErrBudget", laid_skolem_api_ErrBudget), ("skolem/api.ErrRange", laid_skolem_api_ErrRange), ("skolem/api.ErrBlocks", laid_skolem_api_ErrBlocks), ("skolem/api.ErrProof", laid_skolem_api_ErrProof), ("skolem/api.ErrCert", laid_skolem_api_ErrCert)], narrowed := true }
def CegarSaysUptoSaid : Prop := cegarSaysUptoRow.holds Tryz.pinned (OpenSpec.upto cegarSaysSpec)

end Rows
end Go.Proofs.YtekehmgfedmflaaGreatDoor
