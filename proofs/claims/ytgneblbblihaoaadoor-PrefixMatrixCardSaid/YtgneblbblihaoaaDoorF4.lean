/- The keys of a map, sorted, as two abstract steps. -/
import Derived.Test.YtgneblbblihaoaaDoorF3
set_option linter.all false
namespace Go.Proofs.YtgneblbblihaoaaDoor.A
open Go

/-- maps.Keys: a function over a box of the map. -/
def keysS (K : FuncId) (v : AVal) (σ : Heap) : Option (AVal × Heap) := match v with
  | .map l => match σ.get l with
    | some _ => some (.fn (.func K) [] [.box σ.next], σ.new (.cells .rw 1 [.map l]))
    | none => none
  | _ => none
def inI64 (n : Int) : Bool := decide (-9223372036854775808 ≤ n) && decide (n ≤ 9223372036854775807)
/-- slices.Sorted of that function. -/
def sortedKeysS (K : FuncId) (v : AVal) (σ : Heap) : Option (AVal × Heap) := match v with
  | .fn (.func k) [] [.box l] => if k = K then (match σ.get l with
    | some (.cells .rw 1 [.map b]) => (match σ.get b with
      | some (.map es) => (match intsL (es.map (·.1)) with
        | some zs => if zs.length ≤ 1099511627776 ∧ zs.all inI64 = true then (match zs with
          | [] => some (.nils, σ)
          | _ => some (.sl σ.next 0 zs.length none, σ.new (.cells .rw 1 ((sorted zs).map (.int .i64))))) else none
        | none => none)
      | _ => none)
    | _ => none) else none
  | _ => none
end Go.Proofs.YtgneblbblihaoaaDoor.A
