/- Functions whose abstract run is told. -/
import Derived.Test.YtgneblbblihaoaaDoorC1
import Derived.Test.YtgneblbblihaoaaDoorB2
set_option linter.all false
namespace Go.Proofs.YtgneblbblihaoaaDoor.A
open Go Go.RowKit

theorem specOk_eff {P : Program} {NG : Nat} {calls : FuncId → Option Spec} {f : FuncId} {fn : Func} {an : Ann} {ks pks : List Kd} {G : Tu pks → Heap → Option (Tu ks × Heap)} (n : Nat) (hm : P.follows .mixedOrders = true) (hC : ∀ g s, calls g = some s → SpecOk P NG g s) (hf : P.funcs[f]? = some fn)
    (hb : fn.body = some (fn.body.getD .skip)) (hn : fn.ntmps = n) (hnm : (fn.name == "runtime.NumGoroutine") = false) (hl : pks.length ≤ n)
    (heq : ∀ x σ, G x σ = denF ⟨P, NG, n, calls⟩ fn.results.toList (fn.body.getD .skip) an ks (Tu.vals pks x) σ) : SpecOk P NG f (.eff ks fun args σ => packs args pks fun x => G x σ) :=
  specOk_eff0 n hC (regSound (C := ⟨P, NG, n, calls⟩) hC hm) (regPure (C := ⟨P, NG, n, calls⟩) hC) hf hb hn hnm hl heq

theorem specOk_pur {P : Program} {NG : Nat} {calls : FuncId → Option Spec} {f : FuncId} {fn : Func} {an : Ann} {ks pks : List Kd} {G : Tu pks → Heap → Option (Tu ks)} (n : Nat) (hm : P.follows .mixedOrders = true) (hC : ∀ g s, calls g = some s → SpecOk P NG g s) (hf : P.funcs[f]? = some fn)
    (hb : fn.body = some (fn.body.getD .skip)) (hn : fn.ntmps = n) (hnm : (fn.name == "runtime.NumGoroutine") = false) (hl : pks.length ≤ n)
    (heq : ∀ x σ, G x σ = denP ⟨P, NG, n, calls⟩ fn.results.toList (fn.body.getD .skip) an ks (Tu.vals pks x) σ) : SpecOk P NG f (.pur ks fun args σ => packs args pks fun x => G x σ) :=
  specOk_pur0 n hC (regSound (C := ⟨P, NG, n, calls⟩) hC hm) (regPure (C := ⟨P, NG, n, calls⟩) hC) hf hb hn hnm hl heq

end Go.Proofs.YtgneblbblihaoaaDoor.A
