/- Calls of function values; recursion, by fuel. -/
import Derived.Test.YtgneblbblihaoaaDoorA1
set_option linter.all false
namespace Go.Proofs.YtgneblbblihaoaaDoor.A
open Go

/-- Some of an aggregate's cells are others. -/
def putC {Rt : Type} (cs : List AVal) (off n : Nat) (vs : List AVal) (K : List AVal → Option Rt) : Option Rt := if off + n ≤ cs.length then K (cs.take off ++ vs ++ cs.drop (off + n)) else none
/-- A new map. -/
def newM {Rt : Type} (σ : Heap) (K : Nat → Heap → Option Rt) : Option Rt := K σ.next (σ.new (.map []))
/-- A call of a function value. -/
def callV {Rt : Type} (T : FuncId → Option Spec) (v : AVal) (args : List AVal) (σ : Heap) (K : AVal → Heap → Option Rt) : Option Rt := match v with
  | .fn (.func id) fi ca => doCall (T id) (fi ++ args ++ ca) σ K
  | _ => none

open Classical in
/-- What a function comes to with fuel enough: with any fuel from some on. -/
noncomputable def lim {α : Type} (g : Nat → Option α) : Option α := if h : ∃ r N, ∀ n, N ≤ n → g n = some r then some h.choose else none

theorem lim_spec' {α : Type} {g : Nat → Option α} {r : α} (h : lim g = some r) : ∃ N, ∀ n, N ≤ n → g n = some r := by
  unfold lim at h
  split at h
  · rename_i hx; cases h; exact hx.choose_spec
  · cases h
theorem lim_spec {α : Type} {g : Nat → Option α} {r : α} (h : lim g = some r) : ∃ n, g n = some r := by
  obtain ⟨N, hN⟩ := lim_spec' h; exact ⟨N, hN N (Nat.le_refl _)⟩

theorem lim_of {α : Type} {g : Nat → Option α} {r : α} (N : Nat) (h : ∀ n, N ≤ n → g n = some r) : lim g = some r := by
  unfold lim
  have hx : ∃ r N, ∀ n, N ≤ n → g n = some r := ⟨r, N, h⟩
  rw [dif_pos hx]
  obtain ⟨N', hN'⟩ := hx.choose_spec
  have a := hN' (max N N') (Nat.le_max_right ..)
  have b := h (max N N') (Nat.le_max_left ..)
  rw [a] at b; exact b

end Go.Proofs.YtgneblbblihaoaaDoor.A
