/- Recursive functions. -/
import Derived.Test.YtgneblbblihaoaaDoorF0
import Derived.Test.YtgneblbblihaoaaDoorC2
set_option linter.all false
namespace Go.Proofs.YtgneblbblihaoaaDoor.A
open Go Go.RowKit

theorem specOk_never {P : Program} {NG : Nat} {f : FuncId} {fn : Func} {ks : List Kd} {g : List AVal → Heap → Option (Tu ks × Heap)} (hf : P.funcs[f]? = some fn) (hb : fn.body = some (fn.body.getD .skip)) (hnm : (fn.name == "runtime.NumGoroutine") = false) (h : ∀ args σ, g args σ = none) : SpecOk P NG f (.eff ks g) :=
  ⟨⟨fn, hf, hnm, by rw [hb]; rfl⟩, fun B w0 m σ w args cargs v σ' hg => by simp [Spec.run, h] at hg, fun args σ v σ' hg => by simp [Spec.run, h] at hg, fun ks g h => by cases h⟩

theorem specOk_neverp {P : Program} {NG : Nat} {f : FuncId} {fn : Func} {ks : List Kd} {g : List AVal → Heap → Option (Tu ks)} (hf : P.funcs[f]? = some fn) (hb : fn.body = some (fn.body.getD .skip)) (hnm : (fn.name == "runtime.NumGoroutine") = false) (h : ∀ args σ, g args σ = none) : SpecOk P NG f (.pur ks g) :=
  ⟨⟨fn, hf, hnm, by rw [hb]; rfl⟩, fun B w0 m σ w args cargs v σ' hg => by simp [Spec.run, h] at hg, fun args σ v σ' hg => by simp [Spec.run, h] at hg, fun ks' g' h' args σ τ x _ hg => by cases h'; simp [h] at hg⟩

theorem packs_none {α : Type} : ∀ (args : List AVal) (pks : List Kd), packs args pks (fun _ => (none : Option α)) = none := fun args pks => by
  cases h : packs args pks (fun _ => (none : Option α)) with
  | none => rfl
  | some r => obtain ⟨x, h1, _⟩ := packs_spec args pks _ h; cases h1

theorem packs_lim {α : Type} {pks : List Kd} {args : List AVal} {F : Nat → Tu pks → Option α} {r : α} (h : packs args pks (fun x => lim fun n => F n x) = some r) : ∃ n, packs args pks (F n) = some r := by
  obtain ⟨x, h1, h2⟩ := packs_spec args pks _ h
  obtain ⟨n, h3⟩ := lim_spec h1
  subst h2
  exact ⟨n, by rw [packs_vals]; exact h3⟩

theorem specOk_lim {P : Program} {NG : Nat} {f : FuncId} {ks pks : List Kd} {G : Nat → Tu pks → Heap → Option (Tu ks × Heap)} (h : ∀ n, SpecOk P NG f (.eff ks fun args σ => packs args pks fun x => G n x σ)) :
    SpecOk P NG f (.eff ks fun args σ => packs args pks fun x => lim fun n => G n x σ) := by
  have key : ∀ args σ v σ', Spec.run (.eff ks fun args σ => packs args pks fun x => lim fun n => G n x σ) args σ = some (v, σ') → ∃ n, Spec.run (.eff ks fun args σ => packs args pks fun x => G n x σ) args σ = some (v, σ') := fun args σ v σ' hg => by
    simp only [Spec.run] at hg ⊢
    cases hp : (packs args pks fun x => lim fun n => G n x σ) with
    | none => rw [hp] at hg; cases hg
    | some z =>
      rw [hp] at hg
      obtain ⟨n, hn⟩ := packs_lim hp
      exact ⟨n, by rw [hn]; exact hg⟩
  refine ⟨(h 0).enters, fun B w0 m σ w args cargs v σ' hg hR hpm hG hargs => ?_, fun args σ v σ' hg => ?_, fun ks g h => by cases h⟩
  · obtain ⟨n, hn⟩ := key args σ v σ' hg
    exact (h n).calls B w0 m σ w args cargs v σ' hn hR hpm hG hargs
  · obtain ⟨n, hn⟩ := key args σ v σ' hg
    exact (h n).next args σ v σ' hn

theorem specOk_limp {P : Program} {NG : Nat} {f : FuncId} {ks pks : List Kd} {G : Nat → Tu pks → Heap → Option (Tu ks)} (h : ∀ n, SpecOk P NG f (.pur ks fun args σ => packs args pks fun x => G n x σ)) :
    SpecOk P NG f (.pur ks fun args σ => packs args pks fun x => lim fun n => G n x σ) := by
  have key : ∀ args σ v σ', Spec.run (.pur ks fun args σ => packs args pks fun x => lim fun n => G n x σ) args σ = some (v, σ') → ∃ n, Spec.run (.pur ks fun args σ => packs args pks fun x => G n x σ) args σ = some (v, σ') := fun args σ v σ' hg => by
    simp only [Spec.run] at hg ⊢
    cases hp : (packs args pks fun x => lim fun n => G n x σ) with
    | none => rw [hp] at hg; cases hg
    | some z =>
      rw [hp] at hg
      obtain ⟨n, hn⟩ := packs_lim hp
      exact ⟨n, by rw [hn]; exact hg⟩
  refine ⟨(h 0).enters, fun B w0 m σ w args cargs v σ' hg hR hpm hG hargs => ?_, fun args σ v σ' hg => ?_, fun ks' g' h' args σ τ x hX hg => ?_⟩
  · obtain ⟨n, hn⟩ := key args σ v σ' hg
    exact (h n).calls B w0 m σ w args cargs v σ' hn hR hpm hG hargs
  · obtain ⟨n, hn⟩ := key args σ v σ' hg
    exact (h n).next args σ v σ' hn
  · cases h'
    obtain ⟨y, h2, h3⟩ := packs_spec args pks _ hg
    subst h3
    obtain ⟨N, hN⟩ := lim_spec' h2
    refine (packs_vals pks y _).trans (lim_of N fun n hn => ?_)
    have h1 := (h n).ext ks _ rfl (Tu.vals pks y) σ τ x hX ((packs_vals pks y _).trans (hN n hn))
    exact (packs_vals pks y _).symm.trans h1

end Go.Proofs.YtgneblbblihaoaaDoor.A
