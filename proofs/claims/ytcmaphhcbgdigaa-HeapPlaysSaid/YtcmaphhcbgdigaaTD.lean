/- A part of the proof. -/
import Derived.Test.YtcmaphhcbgdigaaTS
import Derived.Test.YtcmaphhcbgdigaaF1
import Derived.Test.YtcmaphhcbgdigaaProg
import Derived.Test.YtcmaphhcbgdigaaK0
import Derived.Test.YtcmaphhcbgdigaaShelf
set_option linter.all false
set_option maxRecDepth 100000
namespace Go.Proofs.Ytcmaphhcbgdigaa.A
open Go

theorem mixed : Try.prog.follows .mixedOrders = true := by kernel_rfl
theorem W.assign_Cut_ok : SpecOk Try.prog 0 29 W.assign_Cut :=
  specOk_pur (an := .z) (calls := noSpec) 6 mixed noSpec_ok Try.func29 (by kernel_rfl) rfl (by kernel_rfl) (by decide) (fun x σ => by kernel_rfl)
theorem W.heap_Heap_is_ok : SpecOk Try.prog 0 24 W.heap_Heap_is :=
  specOk_pur (an := (.s .z (.s (.j [(.normal, [(4, .B)])] .z) .z))) (calls := noSpec) 16 mixed noSpec_ok Try.func24 (by kernel_rfl) rfl (by kernel_rfl) (by decide) (fun x σ => by kernel_rfl)
theorem W.heap_Heap_ahead_ok : SpecOk Try.prog 0 31 W.heap_Heap_ahead :=
  specOk_pur (an := (.s .z (.s (.j [(.normal, [(6, .B)])] .z) .z))) (calls := noSpec) 44 mixed noSpec_ok Try.func31 (by kernel_rfl) rfl (by kernel_rfl) (by decide) (fun x σ => by kernel_rfl)
theorem W.heap_Heap_put_ok : SpecOk Try.prog 0 32 W.heap_Heap_put :=
  specOk_eff (an := .z) (calls := noSpec) 21 mixed noSpec_ok Try.func32 (by kernel_rfl) rfl (by kernel_rfl) (by decide) (fun x σ => by kernel_rfl)
theorem W.heap_Heap_up_ok : SpecOk Try.prog 0 25 W.heap_Heap_up :=
  specOk_eff (an := (.s .z (.s (.l [(1, .I .i64)] [(.exit 0, [(1, .I .i64)])] (.s (.s (.j [(.normal, [(27, .B)])] .z) .z) .z)) .z))) (calls := (tab 32 W.heap_Heap_put (tab 31 W.heap_Heap_ahead noSpec))) 47 mixed (tab_ok W.heap_Heap_put_ok (tab_ok W.heap_Heap_ahead_ok noSpec_ok)) Try.func25 (by kernel_rfl) rfl (by kernel_rfl) (by decide) (fun x σ => by kernel_rfl)
theorem W.heap_Heap_Push_ok : SpecOk Try.prog 0 14 W.heap_Heap_Push :=
  specOk_eff (an := (.s .z (.s (.s (.j [(.normal, [(18, .B)])] .z) .z) .z))) (calls := (tab 25 W.heap_Heap_up (tab 24 W.heap_Heap_is noSpec))) 37 mixed (tab_ok W.heap_Heap_up_ok (tab_ok W.heap_Heap_is_ok noSpec_ok)) Try.func14 (by kernel_rfl) rfl (by kernel_rfl) (by decide) (fun x σ => by kernel_rfl)
theorem W.heap_Heap_Grow_ok : SpecOk Try.prog 0 15 W.heap_Heap_Grow :=
  specOk_eff (an := (.l [] [(.exit 0, [])] .z)) (calls := (tab 14 W.heap_Heap_Push (tab 29 W.assign_Cut noSpec))) 38 mixed (tab_ok W.heap_Heap_Push_ok (tab_ok W.assign_Cut_ok noSpec_ok)) Try.func15 (by kernel_rfl) rfl (by kernel_rfl) (by decide) (fun x σ => by kernel_rfl)
theorem W.heap_New_ok : SpecOk Try.prog 0 7 W.heap_New :=
  specOk_eff (an := .z) (calls := (tab 15 W.heap_Heap_Grow noSpec)) 12 mixed (tab_ok W.heap_Heap_Grow_ok noSpec_ok) Try.func7 (by kernel_rfl) rfl (by kernel_rfl) (by decide) (fun x σ => by kernel_rfl)
noncomputable def W.heap_Heap_best_1.n (n : Nat) : Spec := .eff [] fun args σ => packs args [.I .i64, .V, .V, .V] fun x => S.heap_Heap_best_1.n n x.1 x.2.1 x.2.2.1 x.2.2.2 σ
theorem W.heap_Heap_best_1.n_ok : ∀ n, SpecOk Try.prog 0 33 (W.heap_Heap_best_1.n n)
  | 0 => specOk_never Try.func33 rfl (by kernel_rfl) (fun args σ => packs_none _ _)
  | n + 1 => specOk_eff (an := (.s (.j [(.normal, [(39, .B)])] .z) .z)) (calls := (tab 33 (W.heap_Heap_best_1.n n) noSpec)) 60 mixed (tab_ok (W.heap_Heap_best_1.n_ok n) noSpec_ok) Try.func33 (by kernel_rfl) rfl (by kernel_rfl) (by decide) (fun x σ => by kernel_rfl)
theorem W.heap_Heap_best_1_ok : SpecOk Try.prog 0 33 W.heap_Heap_best_1 := specOk_lim (ks := []) (pks := [.I .i64, .V, .V, .V]) (G := fun n (x : Tu [.I .i64, .V, .V, .V]) σ => S.heap_Heap_best_1.n n x.1 x.2.1 x.2.2.1 x.2.2.2 σ) W.heap_Heap_best_1.n_ok
theorem W.slices_Sort_int_int_ok : SpecOk Try.prog 0 34 W.slices_Sort_int_int := specOk_sort Try.slices_Sort_int ⟨Try.f34, Try.func34, by kernel_rfl, by kernel_rfl⟩
theorem W.heap_Heap_best_ok : SpecOk Try.prog 0 27 W.heap_Heap_best :=
  specOk_eff (an := .z) (calls := (tab 34 W.slices_Sort_int_int (tab 33 W.heap_Heap_best_1 noSpec))) 11 mixed (tab_ok W.slices_Sort_int_int_ok (tab_ok W.heap_Heap_best_1_ok noSpec_ok)) Try.func27 (by kernel_rfl) rfl (by kernel_rfl) (by decide) (fun x σ => by kernel_rfl)
theorem W.heap_Heap_down_ok : SpecOk Try.prog 0 26 W.heap_Heap_down :=
  specOk_eff (an := (.s .z (.s (.l [(1, .I .i64)] [(.exit 0, [(1, .I .i64)])] (.s .z (.s (.s (.j [(.normal, [(42, .B)])] .z) (.j [(.normal, [(5, .I .i64)])] .z)) (.s (.s (.j [(.normal, [(64, .B)])] .z) .z) .z)))) .z))) (calls := (tab 32 W.heap_Heap_put (tab 31 W.heap_Heap_ahead noSpec))) 80 mixed (tab_ok W.heap_Heap_put_ok (tab_ok W.heap_Heap_ahead_ok noSpec_ok)) Try.func26 (by kernel_rfl) rfl (by kernel_rfl) (by decide) (fun x σ => by kernel_rfl)
theorem W.heap_Heap_take_ok : SpecOk Try.prog 0 28 W.heap_Heap_take :=
  specOk_eff (an := (.s .z (.s .z (.s .z (.s .z (.s .z (.s (.s .z (.j [(.normal, [])] .z)) .z))))))) (calls := (tab 26 W.heap_Heap_down (tab 25 W.heap_Heap_up (tab 32 W.heap_Heap_put noSpec)))) 64 mixed (tab_ok W.heap_Heap_down_ok (tab_ok W.heap_Heap_up_ok (tab_ok W.heap_Heap_put_ok noSpec_ok))) Try.func28 (by kernel_rfl) rfl (by kernel_rfl) (by decide) (fun x σ => by kernel_rfl)
theorem W.heap_Heap_Pop_ok : SpecOk Try.prog 0 10 W.heap_Heap_Pop :=
  specOk_eff (an := (.s .z (.s .z (.s .z (.s (.s .z (.j [(.normal, [(6, .I .i64)])] .z)) .z))))) (calls := (tab 28 W.heap_Heap_take (tab 27 W.heap_Heap_best noSpec))) 47 mixed (tab_ok W.heap_Heap_take_ok (tab_ok W.heap_Heap_best_ok noSpec_ok)) Try.func10 (by kernel_rfl) rfl (by kernel_rfl) (by decide) (fun x σ => by kernel_rfl)
theorem W.skolemlaw14_first_ok : SpecOk Try.prog 0 6 W.skolemlaw14_first :=
  specOk_eff (an := (.s .z (.s .z (.s .z (.s .z (.s (.j [(.normal, [(0, .B)])] .z) .z)))))) (calls := (tab 10 W.heap_Heap_Pop (tab 7 W.heap_New noSpec))) 17 mixed (tab_ok W.heap_Heap_Pop_ok (tab_ok W.heap_New_ok noSpec_ok)) Try.func6 (by kernel_rfl) rfl (by kernel_rfl) (by decide) (fun x σ => by kernel_rfl)
theorem W.skolemworld_Number_ok : SpecOk Try.prog 0 9 W.skolemworld_Number :=
  specOk_pur (an := (.s .z (.s .z (.s (.s .z (.j [(.normal, [(5, .I .i64)])] .z)) .z)))) (calls := noSpec) 15 mixed noSpec_ok Try.func9 (by kernel_rfl) rfl (by kernel_rfl) (by decide) (fun x σ => by kernel_rfl)
theorem W.heap_Heap_Bump_ok : SpecOk Try.prog 0 8 W.heap_Heap_Bump :=
  specOk_eff (an := (.s .z (.s .z (.s .z (.s .z (.s (.s .z (.s .z (.j [(.normal, [])] .z))) .z)))))) (calls := (tab 26 W.heap_Heap_down (tab 25 W.heap_Heap_up (tab 24 W.heap_Heap_is noSpec)))) 62 mixed (tab_ok W.heap_Heap_down_ok (tab_ok W.heap_Heap_up_ok (tab_ok W.heap_Heap_is_ok noSpec_ok))) Try.func8 (by kernel_rfl) rfl (by kernel_rfl) (by decide) (fun x σ => by kernel_rfl)
theorem W.heap_Heap_Has_ok : SpecOk Try.prog 0 11 W.heap_Heap_Has :=
  specOk_pur (an := (.s .z (.s (.j [(.normal, [(4, .B)])] .z) .z))) (calls := (tab 24 W.heap_Heap_is noSpec)) 18 mixed (tab_ok W.heap_Heap_is_ok noSpec_ok) Try.func11 (by kernel_rfl) rfl (by kernel_rfl) (by decide) (fun x σ => by kernel_rfl)
theorem W.heap_Heap_Score_ok : SpecOk Try.prog 0 12 W.heap_Heap_Score :=
  specOk_pur (an := .z) (calls := (tab 24 W.heap_Heap_is noSpec)) 16 mixed (tab_ok W.heap_Heap_is_ok noSpec_ok) Try.func12 (by kernel_rfl) rfl (by kernel_rfl) (by decide) (fun x σ => by kernel_rfl)
theorem W.heap_Heap_Len_ok : SpecOk Try.prog 0 13 W.heap_Heap_Len :=
  specOk_pur (an := .z) (calls := noSpec) 8 mixed noSpec_ok Try.func13 (by kernel_rfl) rfl (by kernel_rfl) (by decide) (fun x σ => by kernel_rfl)
theorem W.skolemlaw14_HeapOrder_ok : SpecOk Try.prog 0 3 W.skolemlaw14_HeapOrder :=
  specOk_eff (an := (.s .z (.s .z (.s .z (.s (.s (.j [(.normal, [(31, .B)])] .z) .z) (.s .z (.s .z (.s (.s .z (.l [(7, .I .i64)] [(.exit 0, []), (.ret, [(4, .B)])] .z)) (.s .z (.s .z (.s (.s .z (.l [(9, .I .i64), (10, .I .i64)] [(.exit 2, []), (.ret, [(4, .B)])] (.s .z (.s (.s .z (.s .z (.s (.s .z (.l [(11, .V), (12, .I .i64), (13, .I .i64)] [(.exit 4, [(11, .V)])] (.s .z (.s (.j [(.normal, [(11, .V), (12, .I .i64)])] (.s .z (.s (.s (.j [(.normal, [(89, .B)])] .z) .z) (.s (.s .z (.j [(.normal, [(11, .V)])] .z)) .z)))) .z)))) (.s .z (.s (.s (.j [(.normal, [(142, .B)])] .z) .z) .z))))) .z)))) (.s .z (.s (.j [(.normal, [(4, .B)])] .z) .z))))))))))))) (calls := (tab 13 W.heap_Heap_Len (tab 12 W.heap_Heap_Score (tab 11 W.heap_Heap_Has (tab 10 W.heap_Heap_Pop (tab 8 W.heap_Heap_Bump (tab 9 W.skolemworld_Number (tab 7 W.heap_New (tab 6 W.skolemlaw14_first noSpec))))))))) 164 mixed (tab_ok W.heap_Heap_Len_ok (tab_ok W.heap_Heap_Score_ok (tab_ok W.heap_Heap_Has_ok (tab_ok W.heap_Heap_Pop_ok (tab_ok W.heap_Heap_Bump_ok (tab_ok W.skolemworld_Number_ok (tab_ok W.heap_New_ok (tab_ok W.skolemlaw14_first_ok noSpec_ok)))))))) Try.func3 (by kernel_rfl) rfl (by kernel_rfl) (by decide) (fun x σ => by kernel_rfl)
theorem W.skolemlaw14_HeapPushes_ok : SpecOk Try.prog 0 4 W.skolemlaw14_HeapPushes :=
  specOk_eff (an := (.s .z (.s .z (.s .z (.s .z (.s .z (.s .z (.s .z (.s (.s (.j [(.normal, [(44, .B)])] .z) .z) (.s .z (.s (.s (.j [(.normal, [(76, .B)])] .z) .z) (.s .z (.s .z (.s .z (.s .z (.s (.j [(.normal, [(6, .B)])] .z) .z)))))))))))))))) (calls := (tab 12 W.heap_Heap_Score (tab 15 W.heap_Heap_Grow (tab 13 W.heap_Heap_Len (tab 11 W.heap_Heap_Has (tab 10 W.heap_Heap_Pop (tab 14 W.heap_Heap_Push (tab 8 W.heap_Heap_Bump (tab 7 W.heap_New (tab 9 W.skolemworld_Number (tab 6 W.skolemlaw14_first noSpec))))))))))) 137 mixed (tab_ok W.heap_Heap_Score_ok (tab_ok W.heap_Heap_Grow_ok (tab_ok W.heap_Heap_Len_ok (tab_ok W.heap_Heap_Has_ok (tab_ok W.heap_Heap_Pop_ok (tab_ok W.heap_Heap_Push_ok (tab_ok W.heap_Heap_Bump_ok (tab_ok W.heap_New_ok (tab_ok W.skolemworld_Number_ok (tab_ok W.skolemlaw14_first_ok noSpec_ok)))))))))) Try.func4 (by kernel_rfl) rfl (by kernel_rfl) (by decide) (fun x σ => by kernel_rfl)
theorem W.skolemref8_Heap_Grow_ok : SpecOk Try.prog 0 22 W.skolemref8_Heap_Grow :=
  specOk_eff (an := (.s .z (.l [] [(.exit 0, [])] .z))) (calls := noSpec) 33 mixed noSpec_ok Try.func22 (by kernel_rfl) rfl (by kernel_rfl) (by decide) (fun x σ => by kernel_rfl)
theorem W.skolemref8_NewHeap_ok : SpecOk Try.prog 0 16 W.skolemref8_NewHeap :=
  specOk_eff (an := .z) (calls := (tab 22 W.skolemref8_Heap_Grow noSpec)) 12 mixed (tab_ok W.skolemref8_Heap_Grow_ok noSpec_ok) Try.func16 (by kernel_rfl) rfl (by kernel_rfl) (by decide) (fun x σ => by kernel_rfl)
theorem W.skolemref8_Heap_is_ok : SpecOk Try.prog 0 30 W.skolemref8_Heap_is :=
  specOk_pur (an := (.s .z (.s (.j [(.normal, [(4, .B)])] .z) .z))) (calls := noSpec) 16 mixed noSpec_ok Try.func30 (by kernel_rfl) rfl (by kernel_rfl) (by decide) (fun x σ => by kernel_rfl)
theorem W.skolemref8_Heap_Push_ok : SpecOk Try.prog 0 17 W.skolemref8_Heap_Push :=
  specOk_eff (an := (.s .z (.s (.s (.j [(.normal, [(17, .B)])] .z) .z) .z))) (calls := (tab 30 W.skolemref8_Heap_is noSpec)) 24 mixed (tab_ok W.skolemref8_Heap_is_ok noSpec_ok) Try.func17 (by kernel_rfl) rfl (by kernel_rfl) (by decide) (fun x σ => by kernel_rfl)
theorem W.skolemref8_Heap_Pop_ok : SpecOk Try.prog 0 18 W.skolemref8_Heap_Pop :=
  specOk_eff (an := (.s .z (.s .z (.s .z (.s (.s .z (.l [(6, .I .i64), (7, .V), (8, .I .i64)] [(.exit 0, [(7, .V)])] (.s .z (.s (.j [(.normal, [(6, .I .i64), (7, .V)])] (.s (.s (.j [(.normal, [(37, .B)])] .z) .z) (.s (.s .z (.j [(.normal, [(6, .I .i64), (7, .V)])] .z)) .z))) .z)))) .z))))) (calls := noSpec) 81 mixed noSpec_ok Try.func18 (by kernel_rfl) rfl (by kernel_rfl) (by decide) (fun x σ => by kernel_rfl)
theorem W.skolemref8_Heap_Bump_ok : SpecOk Try.prog 0 19 W.skolemref8_Heap_Bump :=
  specOk_eff (an := (.s .z (.s .z (.s (.s .z (.j [(.normal, [])] .z)) .z)))) (calls := (tab 30 W.skolemref8_Heap_is noSpec)) 50 mixed (tab_ok W.skolemref8_Heap_is_ok noSpec_ok) Try.func19 (by kernel_rfl) rfl (by kernel_rfl) (by decide) (fun x σ => by kernel_rfl)
theorem W.heap_Heap_Halve_ok : SpecOk Try.prog 0 20 W.heap_Heap_Halve :=
  specOk_eff (an := (.s (.s .z (.l [(9, .I .i64)] [(.exit 0, [])] .z)) (.s .z (.l [(3, .I .i64)] [(.exit 2, [])] .z)))) (calls := (tab 26 W.heap_Heap_down noSpec)) 35 mixed (tab_ok W.heap_Heap_down_ok noSpec_ok) Try.func20 (by kernel_rfl) rfl (by kernel_rfl) (by decide) (fun x σ => by kernel_rfl)
theorem W.skolemref8_Heap_Halve_ok : SpecOk Try.prog 0 21 W.skolemref8_Heap_Halve :=
  specOk_eff (an := (.s .z (.l [(2, .I .i64)] [(.exit 0, [])] .z))) (calls := noSpec) 26 mixed noSpec_ok Try.func21 (by kernel_rfl) rfl (by kernel_rfl) (by decide) (fun x σ => by kernel_rfl)
theorem W.skolemref8_Heap_Len_ok : SpecOk Try.prog 0 23 W.skolemref8_Heap_Len :=
  specOk_pur (an := (.s .z (.s .z (.s (.s .z (.l [(3, .I .i64), (4, .I .i64)] [(.exit 0, [(3, .I .i64)])] (.s .z (.s (.j [(.normal, [(3, .I .i64)])] .z) .z)))) .z)))) (calls := noSpec) 24 mixed noSpec_ok Try.func23 (by kernel_rfl) rfl (by kernel_rfl) (by decide) (fun x σ => by kernel_rfl)
theorem W.skolemlaw14_HeapPlays_ok : SpecOk Try.prog 0 5 W.skolemlaw14_HeapPlays :=
  specOk_eff (an := (.s .z (.s .z (.s .z (.s (.s (.j [(.normal, [(29, .B)])] .z) .z) (.s .z (.s .z (.s .z (.s (.s .z (.l [(10, .I .i64)] [(.exit 0, []), (.ret, [(6, .B)])] (.s .z (.s (.j [(.normal, []), (.ret, [(6, .B)])] (.s .z (.s .z (.s (.s .z (.j [(.normal, [(12, .B)])] (.s .z (.s .z (.s .z (.s (.s .z (.s .z (.j [(.normal, [(12, .B)])] .z))) .z)))))) (.s (.j [(.normal, [(18, .B)])] .z) (.s .z (.s (.s (.j [(.normal, [(159, .B)])] .z) (.j [(.normal, [(19, .I .i64)])] .z)) (.s (.j [(.normal, [(189, .B)])] .z) .z)))))))) .z)))) .z))))))))) (calls := (tab 12 W.heap_Heap_Score (tab 11 W.heap_Heap_Has (tab 23 W.skolemref8_Heap_Len (tab 13 W.heap_Heap_Len (tab 22 W.skolemref8_Heap_Grow (tab 15 W.heap_Heap_Grow (tab 9 W.skolemworld_Number (tab 21 W.skolemref8_Heap_Halve (tab 20 W.heap_Heap_Halve (tab 19 W.skolemref8_Heap_Bump (tab 8 W.heap_Heap_Bump (tab 18 W.skolemref8_Heap_Pop (tab 10 W.heap_Heap_Pop (tab 17 W.skolemref8_Heap_Push (tab 14 W.heap_Heap_Push (tab 16 W.skolemref8_NewHeap (tab 7 W.heap_New (tab 6 W.skolemlaw14_first noSpec))))))))))))))))))) 191 mixed (tab_ok W.heap_Heap_Score_ok (tab_ok W.heap_Heap_Has_ok (tab_ok W.skolemref8_Heap_Len_ok (tab_ok W.heap_Heap_Len_ok (tab_ok W.skolemref8_Heap_Grow_ok (tab_ok W.heap_Heap_Grow_ok (tab_ok W.skolemworld_Number_ok (tab_ok W.skolemref8_Heap_Halve_ok (tab_ok W.heap_Heap_Halve_ok (tab_ok W.skolemref8_Heap_Bump_ok (tab_ok W.heap_Heap_Bump_ok (tab_ok W.skolemref8_Heap_Pop_ok (tab_ok W.heap_Heap_Pop_ok (tab_ok W.skolemref8_Heap_Push_ok (tab_ok W.heap_Heap_Push_ok (tab_ok W.skolemref8_NewHeap_ok (tab_ok W.heap_New_ok (tab_ok W.skolemlaw14_first_ok noSpec_ok)))))))))))))))))) Try.func5 (by kernel_rfl) rfl (by kernel_rfl) (by decide) (fun x σ => by kernel_rfl)
end Go.Proofs.Ytcmaphhcbgdigaa.A
