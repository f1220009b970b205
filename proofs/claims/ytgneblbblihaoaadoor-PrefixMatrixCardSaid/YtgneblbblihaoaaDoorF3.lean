/- What functions of the library do, as abstract steps. -/
import Derived.Test.YtgneblbblihaoaaDoorF0
set_option linter.all false
namespace Go.Proofs.YtgneblbblihaoaaDoor.A
open Go

def intsL : List AVal → Option (List Int)
  | [] => some []
  | .int .i64 n :: l => (intsL l).map (n :: ·)
  | _ => none
def sorted (zs : List Int) : List Int := zs.mergeSort fun x y => decide (x ≤ y)
/-- Sorts the cells of a slice of ints, one at least. -/
def sortS (v : AVal) (σ : Heap) : Option (Unit × Heap) := match v with
  | .sl l off len _ => match σ.get l with
    | some (.cells .rw 1 cs) => if 0 < len ∧ off + len ≤ cs.length ∧ len < 4611686018427387904 then (match intsL ((cs.drop off).take len) with
      | some zs => some ((), σ.set l (.cells .rw 1 (cs.take off ++ (sorted zs).map (.int .i64) ++ cs.drop (off + len))))
      | none => none) else none
    | _ => none
  | _ => none

theorem intsL_map (zs : List Int) : intsL (zs.map (.int .i64)) = some zs := by
  induction zs with
  | nil => rfl
  | cons n l ih => simp [intsL, ih]
theorem sorted_len (zs : List Int) : (sorted zs).length = zs.length := List.length_mergeSort ..

end Go.Proofs.YtgneblbblihaoaaDoor.A
