/- Each operation, whole, III: parts, building, built-ins, calls; then all. -/
import Derived.Test.YtgneblbblihaoaaDoorA7
set_option linter.all false
namespace Go.Proofs.YtgneblbblihaoaaDoor.A
open Go Go.RowKit

section
variable {Rt : Type} {C : Cx} {B : Nat → Prop} {w0 : Base} {m : Nat → Option Pl} {σ : Heap} {w : World} {r : Rt} {e : Env} {a : Act}

theorem part_sound {t : TypeId} {ti : TI} {i : TypeInfo} {d : TypeDesc} {z : Value} (ht : TiOk C.P t ti i d z) {v : AVal} {cs : Array Value} {off : Nat} {K : AVal → Option Rt} (hv : VR m v (.agg cs)) (h : partK ti v off K = some r) :
    ∃ u cu, (part t cs off).run C.P w = .ok cu w ∧ K u = some r ∧ VR m u cu := by
  unfold partK at h
  cases hb : isAg ti.tk with
  | true =>
    rw [hb] at h; simp only [cond_true, agG] at h
    split at h
    · rename_i as
      split at h
      · rename_i hn
        simp only [VR] at hv
        obtain ⟨vs, e1, h1, h2⟩ := hv
        cases e1
        have hl := h1.length
        refine ⟨_, _, by simp only [part, Sem.run_bind, ht.run_isAgg, hb, Result.andThen_ok, if_true, ht.run_size, Sem.run_pure]; rfl, h, ?_⟩
        simp only [VR]
        refine ⟨(vs.drop off).take ti.size, by simp [List.extract, Nat.add_sub_cancel_left], VRs.of_get (by simp [hl]) fun j x hx => ?_, fun u hu => h2 u (List.mem_of_mem_drop (List.mem_of_mem_take hu))⟩
        rw [List.getElem?_take] at hx ⊢
        split at hx
        · rename_i hj
          rw [List.getElem?_drop] at hx
          rw [if_pos hj, List.getElem?_drop]
          exact h1.get _ _ hx
        · cases hx
      · cases h
    · cases h
  | false =>
    rw [hb] at h; simp only [cond_false, agS] at h
    split at h
    · rename_i as
      split at h
      · rename_i x hx
        obtain ⟨y, h1, h2⟩ := asK_spec h
        rw [h1] at h2
        simp only [VR] at hv
        obtain ⟨vs, e1, h3, h4⟩ := hv
        cases e1
        obtain ⟨u, h5, h6⟩ := h3.get _ _ hx
        refine ⟨x, u, ?_, h2, h6⟩
        simp only [part, Sem.run_bind, ht.run_isAgg, hb, Result.andThen_ok, Bool.false_eq_true, if_false, List.getElem?_toArray, h5, Sem.run_pure]
      · cases h
    · cases h

/-- Placing values in cells. -/
theorem foldl_set (l : List Value) : ∀ (k off : Nat) (cs : Array Value), off + k + l.length ≤ cs.size →
    ((l.zipIdx k).foldl (fun (cs : Array Value) (x : Value × Nat) => cs.setIfInBounds (off + x.2) x.1) cs).toList = cs.toList.take (off + k) ++ l ++ cs.toList.drop (off + k + l.length) := by
  induction l with
  | nil => intro k off cs h; simp
  | cons x l ih =>
    intro k off cs h
    simp only [List.length_cons] at h
    simp only [List.zipIdx_cons, List.foldl_cons]
    rw [ih (k + 1) off _ (by simp; omega)]
    simp only [Array.toList_setIfInBounds, List.length_cons]
    have hlt : off + k < cs.toList.length := by simp; omega
    rw [show off + (k + 1) = off + k + 1 by omega, List.take_set, List.drop_set_of_lt (by omega)]
    rw [List.take_succ_eq_append_getElem hlt, List.set_append_right _ _ (by simp; omega)]
    have e0 : off + k - (cs.toList.take (off + k)).length = 0 := by simp; omega
    rw [e0]
    simp only [List.set_cons_zero, List.append_assoc, List.singleton_append, List.cons_append, List.nil_append]
    rw [show off + k + 1 + l.length = off + k + (l.length + 1) by omega]

theorem fill_sound (hE : EnvR C m e a) (pl : Nat → Option (Nat × Nat)) (place : Nat → Option (Nat × TypeId)) (hpl : ∀ i off t, place i = some (off, t) → ∃ s, (∀ ti i d z, TiOk C.P t ti i d z → s = ti.size) ∧ pl i = some (off, s)) {K : List AVal → Option Rt} :
    ∀ (ps : List (Nat × Operand)) (cs : List AVal) (us : Array Value), VRs m cs us.toList → (∀ u ∈ us.toList, u.oneCell' = true) → fillK C place e cs ps K = some r →
    ∃ cs' us', Instr.fill pl us (ps.map fun x => (x.1, a.eval x.2)) = some us' ∧ K cs' = some r ∧ VRs m cs' us'.toList ∧ (∀ u ∈ us'.toList, u.oneCell' = true)
  | [], cs, us, hv, h1, h => ⟨cs, us, rfl, h, hv, h1⟩
  | (i, x) :: ps, cs, us, hv, h1, h => by
    simp only [fillK] at h
    split at h
    · rename_i off t hp
      obtain ⟨ti, i2, d, z, ht, h⟩ := Cx.ti_spec h
      obtain ⟨v, h, hx⟩ := ev_sound hE h
      obtain ⟨vs, h, c1, c2, c3⟩ := cellsK_sound hx h
      obtain ⟨s, hs, hpi⟩ := hpl i off t hp
      have hs' := hs ti i2 d z ht; subst hs'
      split at h
      · rename_i hfit
        have hsz : (a.eval x).cells.size = ti.size := by have := c1.length; simpa [c3] using this
        have hl := hv.length
        have hul : us.size = cs.length := by simpa using hl
        have hfold := foldl_set (a.eval x).cells.toList 0 off us (by simp [hsz]; omega)
        have hvs : VRs m (cs.take off ++ vs ++ cs.drop (off + ti.size)) (us.toList.take off ++ (a.eval x).cells.toList ++ us.toList.drop (off + ti.size)) := by
          refine VRs.append (VRs.append ?_ c1) ?_
          · refine VRs.of_get (by simp [hul]) fun j y hy => ?_
            rw [List.getElem?_take] at hy ⊢
            split at hy
            · rename_i hj; rw [if_pos hj]; exact hv.get _ _ hy
            · cases hy
          · refine VRs.of_get (by simp [hul]) fun j y hy => ?_
            rw [List.getElem?_drop] at hy ⊢; exact hv.get _ _ hy
        have hcells : (((a.eval x).cells.zipIdx).foldl (fun (cs : Array Value) (x : Value × Nat) => cs.setIfInBounds (off + x.2) x.1) us).toList = us.toList.take off ++ (a.eval x).cells.toList ++ us.toList.drop (off + ti.size) := by
          rw [← Array.foldl_toList, Array.toList_zipIdx, hfold]; simp [hsz]
        obtain ⟨cs', us', q1, q2, q3, q4⟩ := fill_sound hE pl place hpl ps _ (((a.eval x).cells.zipIdx).foldl (fun (cs : Array Value) (x : Value × Nat) => cs.setIfInBounds (off + x.2) x.1) us) (by rw [hcells]; exact hvs)
          (fun u hu => by
            rw [hcells] at hu
            rcases List.mem_append.1 hu with hu | hu
            · rcases List.mem_append.1 hu with hu | hu
              · exact h1 u (List.mem_of_mem_take hu)
              · exact c2 u hu
            · exact h1 u (List.mem_of_mem_drop hu)) h
        refine ⟨cs', us', ?_, q2, q3, q4⟩
        simp only [List.map_cons, Instr.fill, hpi, hsz, ne_eq, not_true, decide_false, Bool.false_or]
        rw [if_neg (by simp; omega)]
        exact q1
      · cases h
    · cases h

end
end Go.Proofs.YtgneblbblihaoaaDoor.A
