/- Loops, as equations. -/
import Derived.Test.YtgneblbblihaoaaDoorF0
set_option linter.all false
namespace Go.Proofs.YtgneblbblihaoaaDoor.A
open Go

theorem loopN_det {X Y : Type} {f : X → Heap → Option ((X ⊕ Y) × Heap)} : ∀ (n k : Nat) (x : X) (σ : Heap) (y z : Y × Heap), loopN f n x σ = some y → loopN f k x σ = some z → y = z
  | 0, k, x, σ, y, z, h, _ => by cases h
  | n + 1, 0, x, σ, y, z, _, h => by cases h
  | n + 1, k + 1, x, σ, y, z, h1, h2 => by
    simp only [loopN] at h1 h2
    cases hf : f x σ with
    | none => rw [hf] at h1; cases h1
    | some u =>
      rw [hf] at h1 h2
      obtain ⟨u, σ1⟩ := u
      cases u with
      | inl x' => exact loopN_det n k x' σ1 y z h1 h2
      | inr y' => cases h1; cases h2; rfl

theorem loopW_of {X Y : Type} {f : X → Heap → Option ((X ⊕ Y) × Heap)} {n : Nat} {x : X} {σ : Heap} {y : Y × Heap} (h : loopN f n x σ = some y) : loopW f x σ = some y := by
  unfold loopW
  have hx : ∃ n r, loopN f n x σ = some r := ⟨n, y, h⟩
  rw [dif_pos hx]
  exact congrArg some (loopN_det _ _ x σ _ _ hx.choose_spec.choose_spec h)

/-- The loop ends here. -/
theorem loopW_stop {X Y : Type} {f : X → Heap → Option ((X ⊕ Y) × Heap)} {x : X} {σ σ' : Heap} {y : Y} (h : f x σ = some (.inr y, σ')) : loopW f x σ = some (y, σ') :=
  loopW_of (n := 1) (by simp only [loopN, h])

/-- The loop goes on. -/
theorem loopW_next {X Y : Type} {f : X → Heap → Option ((X ⊕ Y) × Heap)} {x x' : X} {σ σ' : Heap} {r : Y × Heap} (h : f x σ = some (.inl x', σ')) (h' : loopW f x' σ' = some r) : loopW f x σ = some r := by
  have : ∃ n, loopN f n x' σ' = some r := by
    unfold loopW at h'
    split at h'
    · rename_i hx; cases h'; exact ⟨_, hx.choose_spec.choose_spec⟩
    · cases h'
  obtain ⟨n, hn⟩ := this
  exact loopW_of (n := n + 1) (by simp only [loopN, h]; exact hn)

theorem loopPN_det' {X Y : Type} {f : X → Option (X ⊕ Y)} : ∀ (n k : Nat) (x : X) (y z : Y), loopPN f n x = some y → loopPN f k x = some z → y = z
  | 0, k, x, y, z, h, _ => by cases h
  | n + 1, 0, x, y, z, _, h => by cases h
  | n + 1, k + 1, x, y, z, h1, h2 => by
    simp only [loopPN] at h1 h2
    cases hf : f x with
    | none => rw [hf] at h1; cases h1
    | some u =>
      rw [hf] at h1 h2
      cases u with
      | inl x' => exact loopPN_det' n k x' y z h1 h2
      | inr y' => cases h1; cases h2; rfl

theorem loopP_of' {X Y : Type} {f : X → Option (X ⊕ Y)} {n : Nat} {x : X} {y : Y} (h : loopPN f n x = some y) : loopP f x = some y := by
  unfold loopP
  have hx : ∃ n r, loopPN f n x = some r := ⟨n, y, h⟩
  rw [dif_pos hx]
  exact congrArg some (loopPN_det' _ _ x _ _ hx.choose_spec.choose_spec h)

theorem loopP_stop {X Y : Type} {f : X → Option (X ⊕ Y)} {x : X} {y : Y} (h : f x = some (.inr y)) : loopP f x = some y :=
  loopP_of' (n := 1) (by simp only [loopPN, h])

theorem loopP_next {X Y : Type} {f : X → Option (X ⊕ Y)} {x x' : X} {r : Y} (h : f x = some (.inl x')) (h' : loopP f x' = some r) : loopP f x = some r := by
  have : ∃ n, loopPN f n x' = some r := by
    unfold loopP at h'
    split at h'
    · rename_i hx; cases h'; exact ⟨_, hx.choose_spec.choose_spec⟩
    · cases h'
  obtain ⟨n, hn⟩ := this
  exact loopP_of' (n := n + 1) (by simp only [loopPN, h]; exact hn)

end Go.Proofs.YtgneblbblihaoaaDoor.A
