/- HeapPushes: for every input the call returns true, and each argument reads afterwards as it read before. Conditions: those that the given statement HeapPushesSaid itself bears; none is added. -/
import Derived.Test.YtcmaphhcbgdigaaTD
import Derived.Test.YtcmaphhcbgdigaaI1
import Derived.Test.YtcmaphhcbgdigaaG0
import Derived.Test.YtcmaphhcbgdigaaRows
set_option linter.all false
namespace Go.Proofs.Ytcmaphhcbgdigaa.A
open Go Go.ChangeShapes Go.WideShapes Go.ChangeAt Go.RowKit Go.Proofs.Ytcmaphhcbgdigaa

theorem Try.own : ownKnob Try.prog.godebug = none := by kernel_rfl
theorem Try.laidOut : laidOutB Try.prog = true := by kernel_rfl


theorem pushes_calls (n b v : Int) (w : World) : Calls Try.prog 4 #[.int .i64 n, .int .i64 b, .int .i64 v] w fun e w' => e = .returned (.bool true) ∧ Below w.heap.size w w' := by
  obtain ⟨σ', h⟩ := pushes_plain n b v
  exact calls_of_spec (m := fun _ => none) W.skolemlaw14_HeapPushes_ok (cargs := [.int .i64 n, .int .i64 b, .int .i64 v]) (args := [.int .i64 n, .int .i64 b, .int .i64 v])
    (R.bare (m := fun _ => none) 0 fun l q h => nomatch h) (by simp [VRs, VR]) (show S.skolemlaw14_HeapPushes n b v ⟨0, fun _ => none⟩ = _ from h)

set_option maxRecDepth 100000 in
theorem pushes_lifted (os : Os) (started : os.Started) (H : Type) (enc : TypeId × Value → H) :
    ReturnsInHanded {} Try.checked os 4 .any (Rows.heapPushesSpec.pre6 enc Try.prog Try.f4 Rows.heapPushesRow.domain false) (Rows.heapPushesSpec.post enc Try.prog Try.f4 false true false false) := by
  refine returnsInHanded_of_change (C := Try.checked) Try.own started (by kernel_rfl) Try.func4
    (ChangeSpec.witness6 (enc := enc) (C := Try.checked) false ⟨#[], #[.int .i64 0, .int .i64 0, .int .i64 0], []⟩ 8 (by kernel_rfl) (by kernel_rfl) (by kernel_rfl) (by kernel_rfl)) ?_
  intro W base args ds gs before hval0 hW hcnd _
  have hval : ∀ (j : Nat) t v, Try.f4.params[j]? = some t → args[j]? = some v → Value.okWide Try.prog W .any base t v := hval0
  have hW' := hW
  obtain ⟨p, q, hA0, hV, rfl, hfz, hnd⟩ := hW
  have hA : DataW.TrodAll enc Try.prog W 0 (fun _ => true) true Try.f4.params.toList args.toList ds p := hA0
  rw [Try.params4] at hA hval
  obtain ⟨v0, v1, v2, d0, d1, d2, p0, p1, p2, rfl, rfl, rfl, h0, h1, h2⟩ := trodAll_three hA
  obtain ⟨rfl, rfl⟩ := trodVars_none hV
  obtain ⟨a, rfl, rfl, rfl, wa⟩ := open_int Try.underlying3 (hval 0 3 v0 rfl rfl) h0
  obtain ⟨b, rfl, rfl, rfl, wb⟩ := open_int Try.underlying3 (hval 1 3 v1 rfl rfl) h1
  obtain ⟨c, rfl, rfl, rfl, wc⟩ := open_int Try.underlying3 (hval 2 3 v2 rfl rfl) h2
  clear hA0 hval0
  simp only [List.append_nil] at hW'
  refine (pushes_calls a b c W).mono fun e W' ⟨he, hw⟩ => ?_
  subst he
  exact ⟨_, rfl, _, _, _, _, _, _, hW', (trodAll_mk1 (shut_bool Try.underlying4 true) : DataW.TrodAll enc Try.prog W' _ _ _ [4] [.bool true] [.lit (.bool true)] _), trodAll_mk3 (shut_int Try.underlying3 wa) (shut_int Try.underlying3 wb) (shut_int Try.underlying3 wc), hV, hw.frame _, fun h => by cases h⟩

set_option maxRecDepth 100000 in
theorem HeapPushes_holds : Rows.HeapPushesSaid :=
  OpenClaim.holds_of_wide 4 Try.f4 rfl rfl rfl rfl rfl rfl rfl ⟨rfl, rfl, rfl, rfl, rfl⟩ rfl rfl rfl rfl rfl (by kernel_rfl) Try.func4 (by kernel_rfl)
    (of_decide_eq_true (by kernel_rfl)) (by unfold Func.isWrapper; first | (rw [if_pos (by decide +kernel)]; kernel_rfl) | (rw [if_neg (by decide +kernel)]; exact ⟨rfl, rfl⟩))
    (fun os started H enc _ => pushes_lifted os started H enc)

end Go.Proofs.Ytcmaphhcbgdigaa.A
