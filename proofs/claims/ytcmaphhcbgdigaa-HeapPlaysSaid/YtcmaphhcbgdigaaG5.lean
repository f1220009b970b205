/- HeapPlays: for every input the call returns true, and each argument reads afterwards as it read before. Conditions: those that the given statement HeapPlaysSaid itself bears; none is added. -/
import Derived.Test.YtcmaphhcbgdigaaTD
import Derived.Test.YtcmaphhcbgdigaaI8
import Derived.Test.YtcmaphhcbgdigaaG4
import Derived.Test.YtcmaphhcbgdigaaRows
set_option linter.all false
namespace Go.Proofs.Ytcmaphhcbgdigaa.A
open Go Go.ChangeShapes Go.WideShapes Go.ChangeAt Go.RowKit Go.Proofs.Ytcmaphhcbgdigaa

theorem Try.own : ownKnob Try.prog.godebug = none := by kernel_rfl
theorem Try.laidOut : laidOutB Try.prog = true := by kernel_rfl

def Try.cI : Codec Try.prog Int := Codec.int Try.underlying3 (by kernel_rfl)
def Try.fDo : Fields Try.prog (Int × Int × Int) := Fields.cons Try.cI (Fields.cons Try.cI (Fields.one Try.cI))
def Try.cDo : Codec Try.prog (Int × Int × Int) := Codec.struct (t := 40) Try.fDo Try.underlying40 (by kernel_rfl) (by rfl) (by decide)
def Try.cDos : Codec Try.prog (List (Int × Int × Int)) := Try.cDo.slice (t := 36) Try.underlying36 (by kernel_rfl)

theorem isDos_of {σ : Heap} {xs : List (Int × Int × Int)} {v : AVal} (hn : ∀ l o, σ.get l = some o → l < σ.next) (h : Try.cDos.rel σ.get xs [v]) :
    IsDos σ.next σ v xs ∧ ∀ x ∈ xs, (-9223372036854775808 ≤ x.2.2 ∧ x.2.2 ≤ 9223372036854775807) := by
  have h' : sliceRel 3 Try.fDo.rel σ.get xs [v] := h
  rcases h' with ⟨h1, rfl⟩ | ⟨l, md, ass, h1, h2, h3, h4, h5, _⟩
  · simp at h1; exact ⟨.inl ⟨h1, rfl⟩, fun x hx => by cases hx⟩
  · simp at h1
    have each : ∀ (i : Nat) x, xs[i]? = some x → ∃ cs, ass[i]? = some cs ∧ cs = [.int .i64 x.1, .int .i64 x.2.1, .int .i64 x.2.2] ∧ (-9223372036854775808 ≤ x.2.2 ∧ x.2.2 ≤ 9223372036854775807) := by
      intro i x hx
      have hi := (List.getElem?_eq_some_iff.1 hx).1
      obtain ⟨cs, hb⟩ : ∃ b, ass[i]? = some b := ⟨_, List.getElem?_eq_getElem (by omega)⟩
      obtain ⟨⟨q1, _⟩, ⟨q2, _⟩, ⟨q3, q4⟩⟩ := h5 i x cs hx hb
      refine ⟨cs, hb, ?_, q4⟩
      have e1 : cs.take 1 = [.int .i64 x.1] := q1
      have e2 : (cs.drop 1).take 1 = [.int .i64 x.2.1] := q2
      have e3 : (cs.drop 1).drop 1 = [.int .i64 x.2.2] := q3
      rw [← List.take_append_drop 1 cs, ← List.take_append_drop 1 (cs.drop 1), e1, e2, e3]; rfl
    refine ⟨.inr ⟨l, md, ass.flatten, hn _ _ h2, h1, h2, fun i x hx => ?_⟩, fun x hx => ?_⟩
    · obtain ⟨cs, hb, rfl, _⟩ := each i x hx
      have f := fun j hj => flatten_get 3 ass i j _ h4 hb hj
      exact ⟨by have := f 0 (by omega); simpa using this, by have := f 1 (by omega); simpa using this, by have := f 2 (by omega); simpa using this⟩
    · obtain ⟨i, hi, e⟩ := List.getElem_of_mem hx
      obtain ⟨_, _, _, q⟩ := each i x (by rw [List.getElem?_eq_getElem hi, e])
      exact q

def playsArgs : Args Try.prog (Int × List (Int × Int × Int) × Int × Unit) :=
  Args.cons Try.cI (Args.cons Try.cDos (Args.cons Try.cI Args.nil rfl (.inr (.inl ⟨_, Try.underlying3⟩))) rfl (.inl ⟨_, Try.underlying36⟩)) rfl (.inr (.inl ⟨_, Try.underlying3⟩))

set_option maxRecDepth 100000 in
theorem plays_lifted (os : Os) (started : os.Started) (H : Type) (enc : TypeId × Value → H) :
    ReturnsInHanded {} Try.checked os 5 .any (Rows.heapPlaysSpec.pre6 enc Try.prog Try.f5 Rows.heapPlaysRow.domain false) (Rows.heapPlaysSpec.post enc Try.prog Try.f5 false true false false) := by
  refine returnsInHanded_of_change (C := Try.checked) Try.own started (by kernel_rfl) Try.func5
    (ChangeSpec.witness6 (enc := enc) (C := Try.checked) false ⟨#[], #[.int .i64 0, .slice none 0 0, .int .i64 0], []⟩ 8 (by kernel_rfl) (by kernel_rfl) (by kernel_rfl) (by kernel_rfl)) ?_
  intro W base args ds gs before hval0 hW hcnd _
  have hval : ∀ (j : Nat) t v, Try.f5.params[j]? = some t → args[j]? = some v → Value.okWide Try.prog W .any base t v := hval0
  have hW' := hW
  obtain ⟨p, q, hA0, hV, rfl, hfz, hnd⟩ := hW
  have hA : DataW.TrodAll enc Try.prog W 0 (fun _ => true) true Try.f5.params.toList args.toList ds p := hA0
  obtain ⟨rfl, rfl⟩ := trodVars_none hV
  rw [Try.params5] at hA hval
  clear hA0 hval0
  simp only [List.append_nil] at hW'
  have hA' := hA
  obtain ⟨v0, v1, v2, d0, d1, d2, p0, p1, p2, rfl, rfl, rfl, -, -, -⟩ := trodAll_three hA
  have hts : playsArgs.ts = [3, 36, 3] := rfl
  refine (law_calls Go.Proofs.Ytcmaphhcbgdigaa.A.W.skolemlaw14_HeapPlays_ok playsArgs (fun a cs σ hn h => ?_) hA' (fun j t v h1 h2 => hval j t v (by rw [hts] at h1; simpa using h1) h2)).mono fun e W' ⟨he, hw⟩ => ?_
  · obtain ⟨v, vs, rfl, ⟨h1, _⟩, w, ws, rfl, h2, u, us, rfl, ⟨h3, _⟩, h4⟩ := h
    have h4 : us = [] := h4
    subst h4
    simp only [List.cons.injEq, and_true] at h1 h3
    subst h1 h3
    obtain ⟨q1, q2⟩ := isDos_of hn h2
    exact plays_plain a.1 a.2.2.1 q1 (Nat.le_refl _) q2
  · subst he
    have hb := trodAll_below Try.laidOut hw (ts := [3, 36, 3]) (fun t ht => by
      simp only [List.mem_cons, List.not_mem_nil, or_false] at ht; rcases ht with rfl | rfl | rfl <;> exact ⟨by kernel_rfl, of_decide_eq_true (by kernel_rfl)⟩) hA' (fun x hx => by simpa using hW'.lt x hx)
    exact ⟨_, rfl, _, _, _, _, _, _, hW', (trodAll_mk1 (shut_bool Try.underlying4 true) : DataW.TrodAll enc Try.prog W' _ _ _ [4] [.bool true] [.lit (.bool true)] _), hb, hV, hw.frame _, fun h => by cases h⟩

set_option maxRecDepth 100000 in
theorem HeapPlays_holds : Rows.HeapPlaysSaid :=
  OpenClaim.holds_of_wide 5 Try.f5 rfl rfl rfl rfl rfl rfl rfl ⟨rfl, rfl, rfl, rfl, rfl⟩ rfl rfl rfl rfl rfl (by kernel_rfl) Try.func5 (by kernel_rfl)
    (of_decide_eq_true (by kernel_rfl)) (by unfold Func.isWrapper; first | (rw [if_pos (by decide +kernel)]; kernel_rfl) | (rw [if_neg (by decide +kernel)]; exact ⟨rfl, rfl⟩))
    (fun os started H enc _ => plays_lifted os started H enc)

end Go.Proofs.Ytcmaphhcbgdigaa.A
