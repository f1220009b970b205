/- HeapOrder: for every input the call returns true, and each argument reads afterwards as it read before. Conditions: those that the given statement HeapOrderSaid itself bears; none is added. -/
import Derived.Test.YtcmaphhcbgdigaaTD
import Derived.Test.YtcmaphhcbgdigaaI3
import Derived.Test.YtcmaphhcbgdigaaG4
import Derived.Test.YtcmaphhcbgdigaaRows
set_option linter.all false
namespace Go.Proofs.Ytcmaphhcbgdigaa.A
open Go Go.ChangeShapes Go.WideShapes Go.ChangeAt Go.RowKit Go.Proofs.Ytcmaphhcbgdigaa

theorem Try.own : ownKnob Try.prog.godebug = none := by kernel_rfl
theorem Try.laidOut : laidOutB Try.prog = true := by kernel_rfl

theorem isInts_of {P : Program} {t : TypeId} (ht : P.underlying t = some (.int .i64)) (hc : P.cellsOf t = 1) {σ : Heap} {xs : List Int} {v : AVal} (hn : ∀ l o, σ.get l = some o → l < σ.next)
    (h : sliceRel 1 (Codec.int ht hc).rel σ.get xs [v]) : IsInts σ.next σ v xs := by
  rcases h with ⟨h1, rfl⟩ | ⟨l, md, ass, h1, h2, h3, _, h5, _⟩
  · simp at h1; exact .inl ⟨h1, rfl⟩
  · simp at h1
    refine .inr ⟨l, md, [], hn _ _ h2, h1, ?_⟩
    rw [h2, List.append_nil]
    congr 2
    have : ass = xs.map fun a => [AVal.int .i64 a] := by
      apply List.ext_getElem? fun i => ?_
      by_cases hi : i < xs.length
      · obtain ⟨a, ha⟩ : ∃ a, xs[i]? = some a := ⟨_, List.getElem?_eq_getElem hi⟩
        obtain ⟨b, hb⟩ : ∃ b, ass[i]? = some b := ⟨_, List.getElem?_eq_getElem (by omega)⟩
        have := (h5 i a b ha hb).1
        rw [hb, this, List.getElem?_map, ha]; rfl
      · rw [List.getElem?_eq_none (by omega), List.getElem?_eq_none (by rw [List.length_map]; omega)]
    rw [this]
    clear this h1 h2 h3 h5
    have : ∀ xs : List Int, (xs.map fun a => [AVal.int .i64 a]).flatten = cellsI xs := fun xs => by
      induction xs with
      | nil => rfl
      | cons x xs ih => rw [List.map_cons, List.flatten_cons, ih]; rfl
    exact this xs

def orderArgs : Args Try.prog (List Int × List Int × Unit) :=
  let cI := Codec.int (P := Try.prog) Try.underlying3 (by kernel_rfl)
  let cS := cI.slice (t := 22) Try.underlying22 (by kernel_rfl)
  Args.cons cS (Args.cons cS Args.nil rfl (.inl ⟨_, Try.underlying22⟩)) rfl (.inl ⟨_, Try.underlying22⟩)

set_option maxRecDepth 100000 in
theorem order_lifted (os : Os) (started : os.Started) (H : Type) (enc : TypeId × Value → H) :
    ReturnsInHanded {} Try.checked os 3 .any (Rows.heapOrderSpec.pre6 enc Try.prog Try.f3 Rows.heapOrderRow.domain false) (Rows.heapOrderSpec.post enc Try.prog Try.f3 false true false false) := by
  refine returnsInHanded_of_change (C := Try.checked) Try.own started (by kernel_rfl) Try.func3
    (ChangeSpec.witness6 (enc := enc) (C := Try.checked) false ⟨#[], #[.slice none 0 0, .slice none 0 0], []⟩ 8 (by kernel_rfl) (by kernel_rfl) (by kernel_rfl) (by kernel_rfl)) ?_
  intro W base args ds gs before hval0 hW hcnd _
  have hval : ∀ (j : Nat) t v, Try.f3.params[j]? = some t → args[j]? = some v → Value.okWide Try.prog W .any base t v := hval0
  have hW' := hW
  obtain ⟨p, q, hA0, hV, rfl, hfz, hnd⟩ := hW
  have hA : DataW.TrodAll enc Try.prog W 0 (fun _ => true) true Try.f3.params.toList args.toList ds p := hA0
  obtain ⟨rfl, rfl⟩ := trodVars_none hV
  rw [Try.params3] at hA hval
  clear hA0 hval0
  simp only [List.append_nil] at hW'
  have hA' := hA
  obtain ⟨v0, v1, d0, d1, p0, p1, rfl, rfl, rfl, -, -⟩ := trodAll_two hA
  have hts : orderArgs.ts = [22, 22] := rfl
  refine (law_calls Go.Proofs.Ytcmaphhcbgdigaa.A.W.skolemlaw14_HeapOrder_ok orderArgs (fun a cs σ hn h => ?_) hA' (fun j t v h1 h2 => hval j t v (by rw [hts] at h1; simpa using h1) h2)).mono fun e W' ⟨he, hw⟩ => ?_
  · obtain ⟨v, vs, rfl, h1, w, ws, rfl, h2, h3⟩ := h
    have h4 : ws = [] := h3
    subst h4
    exact order_plain (isInts_of _ _ hn h1) (isInts_of _ _ hn h2) (Nat.le_refl _)
  · subst he
    have hb := trodAll_below Try.laidOut hw (ts := [22, 22]) (fun t ht => by
      simp only [List.mem_cons, List.not_mem_nil, or_false, or_self] at ht; subst ht; exact ⟨by kernel_rfl, of_decide_eq_true (by kernel_rfl)⟩) hA' (fun x hx => by simpa using hW'.lt x hx)
    exact ⟨_, rfl, _, _, _, _, _, _, hW', (trodAll_mk1 (shut_bool Try.underlying4 true) : DataW.TrodAll enc Try.prog W' _ _ _ [4] [.bool true] [.lit (.bool true)] _), hb, hV, hw.frame _, fun h => by cases h⟩

set_option maxRecDepth 100000 in
theorem HeapOrder_holds : Rows.HeapOrderSaid :=
  OpenClaim.holds_of_wide 3 Try.f3 rfl rfl rfl rfl rfl rfl rfl ⟨rfl, rfl, rfl, rfl, rfl⟩ rfl rfl rfl rfl rfl (by kernel_rfl) Try.func3 (by kernel_rfl)
    (of_decide_eq_true (by kernel_rfl)) (by unfold Func.isWrapper; first | (rw [if_pos (by decide +kernel)]; kernel_rfl) | (rw [if_neg (by decide +kernel)]; exact ⟨rfl, rfl⟩))
    (fun os started H enc _ => order_lifted os started H enc)

end Go.Proofs.Ytcmaphhcbgdigaa.A
