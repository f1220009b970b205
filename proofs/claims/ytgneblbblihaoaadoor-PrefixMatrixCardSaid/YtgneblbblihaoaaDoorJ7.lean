/- Appending one element. -/
import Derived.Test.YtgneblbblihaoaaDoorJ0
set_option linter.all false
namespace Go.Proofs.YtgneblbblihaoaaDoor.A
open Go
variable {α β : Type}
theorem Acc.loc {v : Vw α} {n0 : Nat} {σ : Heap} {xs : List α} {x : AVal} (h : Acc v n0 σ xs x) : ∀ l off len c, x = .sl l off len c → n0 ≤ l ∧ l < σ.next := fun l off len c e => by
  rcases h with ⟨rfl, _⟩ | ⟨l', cs, rfl, h1, h2, _⟩
  · cases e
  · cases e; exact ⟨h1, h2⟩
theorem one_src {v : Vw α} {σ : Heap} {x : AVal} {cs : List AVal} {a : α} (hx : ∀ l off len c, x = .sl l off len c → l < σ.next) (hr : v.rel (out σ x) a cs) :
    SlV v (out (σ.new (.cells .rw v.sz cs)) x) [a] (.sl σ.next 0 1 none) := by
  have L := ((Hle.refl σ).new (.cells .rw v.sz cs)).outs x
  refine .inr ⟨σ.next, 0, none, .rw, cs, rfl, by rw [out_next]; exact Nat.lt_succ_self _, ?_, by simp [v.len hr], fun j b hb => ?_⟩
  · cases hy : x with
    | sl l off len c =>
      have := hx _ _ _ _ hy
      show ((σ.new _).kill l).get _ = _
      rw [hkill_get, if_neg (by omega), hnew_get, if_pos rfl]
    | _ => simp only [out, hnew_get, if_true]
  · cases j with
    | zero =>
      simp at hb; subst hb
      have : (cs.drop ((0 + 0) * v.sz)).take v.sz = cs := by rw [Nat.add_zero, Nat.zero_mul, List.drop_zero]; exact List.take_of_length_le (by rw [v.len hr]; exact Nat.le_refl _)
      rw [this]; exact v.mono L hr
    | succ j => simp at hb
theorem Acc.push {v : Vw α} {σ0 σ : Heap} {xs : List α} {x : AVal} {cs : List AVal} {a : α} {bytes : Nat} (h : Acc v σ0.next σ xs x) (L : Hle σ0 σ) (hr : v.rel (out σ x) a cs) (hb : (xs.length + 1) * bytes ≤ 70368744177664) (hb' : xs.length + 1 ≤ 70368744177664) :
    ∃ x' σ', (∀ {Rt : Type} (K : AVal → Heap → Option Rt), appS (σ.new (.cells .rw v.sz cs)) v.sz bytes x (.sl σ.next 0 1 none) K = K x' σ') ∧ Hle σ0 σ' ∧ Acc v σ0.next σ' (xs ++ [a]) x' ∧ Hle (out σ x) (out σ' x') := by
  have L1 := (Hle.refl σ).new (.cells .rw v.sz cs)
  obtain ⟨x', σ', e1, e2, e3, e4⟩ := (h.mono L1).app (bytes := bytes) (L.trans L1) (one_src (fun l off len c e => (h.loc l off len c e).2) hr) (by rw [List.length_singleton]; exact hb) (by rw [List.length_singleton]; exact hb')
  exact ⟨x', σ', e1, e2, e3, (L1.outs x).trans e4⟩
/-- An empty slice with room. -/
theorem mk0 {v : Vw α} {σ : Heap} {n bytes : Nat} {z : List AVal} (hb : n * bytes ≤ 70368744177664) (hb' : n ≤ 70368744177664) : ∃ x τ, (∀ {Rt : Type} (K : AVal → Heap → Option Rt), mkS σ v.sz bytes z 0 (n : Int) K = K x τ) ∧ Hle σ τ ∧ Acc v σ.next τ [] x := by
  refine ⟨.sl σ.next 0 0 none, σ.new (.cells .rw v.sz (rep n z)), fun K => ?_, (Hle.refl σ).new _, .inr ⟨σ.next, rep n z, rfl, Nat.le_refl _, Nat.lt_succ_self _, by rw [hnew_get, if_pos rfl], by simp, fun i a hi => by simp at hi⟩⟩
  have h1 : (n : Int) * (bytes : Int) ≤ 70368744177664 := by
    have : ((n * bytes : Nat) : Int) ≤ 70368744177664 := by omega
    rwa [Int.natCast_mul] at this
  simp only [mkS, newK]
  rw [if_pos ⟨by omega, by omega, h1, by omega⟩, Int.toNat_natCast, Int.toNat_zero]
end Go.Proofs.YtgneblbblihaoaaDoor.A
