/- Parts of the proof, one behind another. -/
import Derived.Test.YtekehmgfedmflaaDoorX1
import Derived.Sort.Grow
import Derived.Test.YtekehmgfedmflaaDoorX0
set_option linter.all false
/- Functions whose abstract run is told. -/
namespace Go.Proofs.YtekehmgfedmflaaDoor.A
open Go Go.RowKit
theorem specOk_eff {P : Program} {NG : Nat} {calls : FuncId → Option Spec} {f : FuncId} {fn : Func} {an : Ann} {ks pks : List Kd} {G : Tu pks → Heap → Option (Tu ks × Heap)} (n : Nat) (hm : P.follows .mixedOrders = true) (hC : ∀ g s, calls g = some s → SpecOk P NG g s) (hf : P.funcs[f]? = some fn)
    (hb : fn.body = some (fn.body.getD .skip)) (hn : fn.ntmps = n) (hnm : (fn.name == "runtime.NumGoroutine") = false) (hl : pks.length ≤ n)
    (heq : ∀ x σ, G x σ = denF ⟨P, NG, n, calls⟩ fn.results.toList (fn.body.getD .skip) an ks (Tu.vals pks x) σ) : SpecOk P NG f (.eff ks fun args σ => packs args pks fun x => G x σ) :=
  specOk_eff0 n hC (regSound (C := ⟨P, NG, n, calls⟩) hC hm) (regPure (C := ⟨P, NG, n, calls⟩) hC) hf hb hn hnm hl heq

theorem specOk_pur {P : Program} {NG : Nat} {calls : FuncId → Option Spec} {f : FuncId} {fn : Func} {an : Ann} {ks pks : List Kd} {G : Tu pks → Heap → Option (Tu ks)} (n : Nat) (hm : P.follows .mixedOrders = true) (hC : ∀ g s, calls g = some s → SpecOk P NG g s) (hf : P.funcs[f]? = some fn)
    (hb : fn.body = some (fn.body.getD .skip)) (hn : fn.ntmps = n) (hnm : (fn.name == "runtime.NumGoroutine") = false) (hl : pks.length ≤ n)
    (heq : ∀ x σ, G x σ = denP ⟨P, NG, n, calls⟩ fn.results.toList (fn.body.getD .skip) an ks (Tu.vals pks x) σ) : SpecOk P NG f (.pur ks fun args σ => packs args pks fun x => G x σ) :=
  specOk_pur0 n hC (regSound (C := ⟨P, NG, n, calls⟩) hC hm) (regPure (C := ⟨P, NG, n, calls⟩) hC) hf hb hn hnm hl heq

end Go.Proofs.YtekehmgfedmflaaDoor.A

/- slices.Sort of ints, as0 an abstract step. -/
namespace Go.Proofs.YtekehmgfedmflaaDoor.A
open Go Go.RowKit Go.Sort
theorem intsL_spec : ∀ {l : List AVal} {zs : List Int}, intsL l = some zs → l = zs.map (.int .i64)
  | [], zs, h => by cases h; rfl
  | .int k n :: l, zs, h => by
    cases k <;> try (cases h; done)
    simp only [intsL, Option.map_eq_some_iff] at h
    obtain ⟨z, h1, rfl⟩ := h
    rw [intsL_spec h1]; rfl
  | .bool _ :: _, _, h => by cases h
  | .str _ :: _, _, h => by cases h
  | .ptr _ _ :: _, _, h => by cases h
  | .nilp :: _, _, h => by cases h
  | .sl _ _ _ _ :: _, _, h => by cases h
  | .nils :: _, _, h => by cases h
  | .box _ :: _, _, h => by cases h
  | .map _ :: _, _, h => by cases h
  | .nilm :: _, _, h => by cases h
  | .fn _ _ _ :: _, _, h => by cases h
  | .nilf :: _, _, h => by cases h
  | .ifc _ _ :: _, _, h => by cases h
  | .nili :: _, _, h => by cases h
  | .agg _ :: _, _, h => by cases h
  | .tup _ :: _, _, h => by cases h
end Go.Proofs.YtekehmgfedmflaaDoor.A

/- Loops, as0 equations. -/
namespace Go.Proofs.YtekehmgfedmflaaDoor.A
open Go
theorem loopN_det {X Y : Type} {f : X → Heap → Option ((X ⊕ Y) × Heap)} : ∀ (n k : Nat) (x : X) (σ : Heap) (y z : Y × Heap), loopN f n x σ = some y → loopN f k x σ = some z → y = z
  | 0, k, x, σ, y, z, h, _ => by cases h
  | n + 1, 0, x, σ, y, z, _, h => by cases h
  | n + 1, k + 1, x, σ, y, z, h1, h2 => by
    simp only [loopN] at h1 h2
    cases hf : f x σ with
    | none => rw [hf] at h1; cases h1
    | some u =>
      rw [hf] at h1 h2
      obtain ⟨u, σ1⟩ := u
      cases u with
      | inl x' => exact loopN_det n k x' σ1 y z h1 h2
      | inr y' => cases h1; cases h2; rfl

theorem loopW_of {X Y : Type} {f : X → Heap → Option ((X ⊕ Y) × Heap)} {n : Nat} {x : X} {σ : Heap} {y : Y × Heap} (h : loopN f n x σ = some y) : loopW f x σ = some y := by
  unfold loopW
  have hx : ∃ n r, loopN f n x σ = some r := ⟨n, y, h⟩
  rw [dif_pos hx]
  exact congrArg some (loopN_det _ _ x σ _ _ hx.choose_spec.choose_spec h)

/-- The loop ends here. -/
theorem loopW_stop {X Y : Type} {f : X → Heap → Option ((X ⊕ Y) × Heap)} {x : X} {σ σ' : Heap} {y : Y} (h : f x σ = some (.inr y, σ')) : loopW f x σ = some (y, σ') :=
  loopW_of (n := 1) (by simp only [loopN, h])

/-- The loop goes on. -/
theorem loopW_next {X Y : Type} {f : X → Heap → Option ((X ⊕ Y) × Heap)} {x x' : X} {σ σ' : Heap} {r : Y × Heap} (h : f x σ = some (.inl x', σ')) (h' : loopW f x' σ' = some r) : loopW f x σ = some r := by
  have : ∃ n, loopN f n x' σ' = some r := by
    unfold loopW at h'
    split at h'
    · rename_i hx; cases h'; exact ⟨_, hx.choose_spec.choose_spec⟩
    · cases h'
  obtain ⟨n, hn⟩ := this
  exact loopW_of (n := n + 1) (by simp only [loopN, h]; exact hn)

theorem loopPN_det' {X Y : Type} {f : X → Option (X ⊕ Y)} : ∀ (n k : Nat) (x : X) (y z : Y), loopPN f n x = some y → loopPN f k x = some z → y = z
  | 0, k, x, y, z, h, _ => by cases h
  | n + 1, 0, x, y, z, _, h => by cases h
  | n + 1, k + 1, x, y, z, h1, h2 => by
    simp only [loopPN] at h1 h2
    cases hf : f x with
    | none => rw [hf] at h1; cases h1
    | some u =>
      rw [hf] at h1 h2
      cases u with
      | inl x' => exact loopPN_det' n k x' y z h1 h2
      | inr y' => cases h1; cases h2; rfl

theorem loopP_of' {X Y : Type} {f : X → Option (X ⊕ Y)} {n : Nat} {x : X} {y : Y} (h : loopPN f n x = some y) : loopP f x = some y := by
  unfold loopP
  have hx : ∃ n r, loopPN f n x = some r := ⟨n, y, h⟩
  rw [dif_pos hx]
  exact congrArg some (loopPN_det' _ _ x _ _ hx.choose_spec.choose_spec h)

theorem loopP_stop {X Y : Type} {f : X → Option (X ⊕ Y)} {x : X} {y : Y} (h : f x = some (.inr y)) : loopP f x = some y :=
  loopP_of' (n := 1) (by simp only [loopPN, h])

theorem loopP_next {X Y : Type} {f : X → Option (X ⊕ Y)} {x x' : X} {r : Y} (h : f x = some (.inl x')) (h' : loopP f x' = some r) : loopP f x = some r := by
  have : ∃ n, loopPN f n x' = some r := by
    unfold loopP at h'
    split at h'
    · rename_i hx; cases h'; exact ⟨_, hx.choose_spec.choose_spec⟩
    · cases h'
  obtain ⟨n, hn⟩ := this
  exact loopP_of' (n := n + 1) (by simp only [loopPN, h]; exact hn)

end Go.Proofs.YtekehmgfedmflaaDoor.A
