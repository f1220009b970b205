/- From a law's abstract run to its call. -/
import Derived.Test.YtgneblbblihaoaaDoorF1
import Derived.ProofKit
set_option linter.all false
namespace Go.Proofs.YtgneblbblihaoaaDoor.A
open Go Go.RowKit

/-- A law that comes to true does so in the model, and what was there is as it was. -/
theorem calls_of_spec {P : Program} {f : FuncId} {g : List AVal → Heap → Option (Tu [.B] × Heap)} (h : SpecOk P 0 f (.eff [.B] g)) {args : List AVal} {cargs : List Value} {σ σ' : Heap} {m : Nat → Option Pl} {W : World}
    (hR : R (fun k => k < W.heap.size) ⟨W, σ.next, m, false⟩ m σ W) (hargs : VRs m args cargs) (hg : g args σ = some (true, σ')) :
    Calls P f cargs.toArray W fun e w' => e = .returned (.bool true) ∧ Below W.heap.size W w' := by
  refine (h.calls _ _ m σ W args cargs (.bool true) σ' (by simp [Spec.run, hg, retV, Kd.val]) hR (fun (h : false = true) => nomatch h) (fun g hg => by omega) hargs).mono ?_
  rintro e w' ⟨m', cv, rfl, _, hR', hv⟩
  simp only [VR] at hv
  subst hv
  exact ⟨rfl, ⟨hR'.below.os, hR'.below.tape, hR'.below.output, hR'.below.size, hR'.below.block⟩⟩

theorem kept_of_below {W w' : World} (h : Below W.heap.size W w') (may : MemPlace → Prop) : W.keptBut w' may := by
  refine ⟨h.os, h.output, fun i hi => ?_⟩
  rw [h.block i hi]
  cases hx : W.heap[i]? with
  | none => trivial
  | some o =>
    cases o with
    | cells c t fr => exact ⟨rfl, rfl, rfl, fun _ _ => rfl⟩
    | map es cl => exact .inr ⟨rfl, rfl⟩
    | _ => rfl

end Go.Proofs.YtgneblbblihaoaaDoor.A
