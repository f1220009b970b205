/- Arguments, as views. -/
import Derived.Test.YtgneblbblihaoaaDoorG6
import Derived.Test.YtgneblbblihaoaaDoorJ0
set_option linter.all false
namespace Go.Proofs.YtgneblbblihaoaaDoor.A
open Go Go.RowKit

variable {P : Program} {α β : Type}
theorem slV_of {size : Nat} {rel : (Nat → Option AObj) → α → List AVal → Prop} (v : Vw β) (φ : α → β) (hsz : v.sz = size) {σ : Heap} (hn : ∀ l o, σ.get l = some o → l < σ.next)
    (hr : ∀ a us, rel σ.get a us → v.rel σ (φ a) us) {xs : List α} {us : List AVal} (h : sliceRel size rel σ.get xs us) : ∃ x, us = [x] ∧ SlV v σ (xs.map φ) x := by
  subst hsz
  rcases h with ⟨rfl, rfl⟩ | ⟨l, md, ass, rfl, h2, h3, h4, h5, _⟩
  · exact ⟨_, rfl, SlV.nil _ _⟩
  · refine ⟨_, rfl, .inr ⟨l, 0, none, md, ass.flatten, by simp, hn _ _ h2, h2, by rw [flatten_len _ _ h4, List.length_map, h3, Nat.zero_add]; exact Nat.le_refl _, fun i b hb => ?_⟩⟩
    simp only [List.getElem?_map, Option.map_eq_some_iff] at hb
    obtain ⟨a, ha, rfl⟩ := hb
    have hi := (List.getElem?_eq_some_iff.1 ha).1
    obtain ⟨u, hu⟩ : ∃ u, ass[i]? = some u := ⟨_, List.getElem?_eq_getElem (by omega)⟩
    have hul := h4 u (List.mem_of_getElem? hu)
    have : (ass.flatten.drop ((0 + i) * v.sz)).take v.sz = u := by
      apply List.ext_getElem? fun q => ?_
      rw [Nat.zero_add]
      by_cases hq : q < v.sz
      · rw [List.getElem?_take_of_lt hq, List.getElem?_drop, flatten_get v.sz ass i q u h4 hu hq]
      · rw [List.getElem?_eq_none (by simp; omega), List.getElem?_eq_none (by omega)]
    rw [this]
    exact hr a u (h5 i a u ha hu)
/-- What holds of the elements' cells holds of each. -/
theorem sliceRel_mem {size : Nat} {rel : (Nat → Option AObj) → α → List AVal → Prop} {g : Nat → Option AObj} {xs : List α} {us : List AVal} (h : sliceRel size rel g xs us) : ∀ a ∈ xs, ∃ u, rel g a u := by
  rcases h with ⟨_, rfl⟩ | ⟨l, md, ass, _, _, h3, _, h5, _⟩
  · intro a ha; cases ha
  · intro a ha
    obtain ⟨i, hi, e⟩ := List.getElem_of_mem ha
    exact ⟨_, h5 i a _ (by rw [List.getElem?_eq_getElem hi, e]) (List.getElem?_eq_getElem (by omega))⟩
theorem sliceRel_len {size : Nat} {rel : (Nat → Option AObj) → α → List AVal → Prop} {g : Nat → Option AObj} {xs : List α} {us : List AVal} (h : sliceRel size rel g xs us) : xs.length ≤ 140737488351232 := by
  rcases h with ⟨_, rfl⟩ | ⟨l, md, ass, _, _, _, _, _, h6⟩
  · simp
  · exact h6
end Go.Proofs.YtgneblbblihaoaaDoor.A
