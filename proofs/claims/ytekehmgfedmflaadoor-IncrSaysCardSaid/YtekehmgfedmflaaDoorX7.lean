/- Parts of the proof, one behind another. -/
import Derived.Test.YtekehmgfedmflaaDoorProg
import Derived.Defers
import Derived.Test.YtekehmgfedmflaaDoorX6
import Derived.Test.YtekehmgfedmflaaDoorX0
import Derived.Test.YtekehmgfedmflaaDoorX2
import Derived.Test.YtekehmgfedmflaaDoorX4
import Derived.Test.YtekehmgfedmflaaDoorX5
set_option linter.all false
set_option maxRecDepth 100000
namespace Go.Proofs.YtekehmgfedmflaaDoor.A
open Go
theorem mixed : Tryd.prog.follows .mixedOrders = true := by kernel_rfl
theorem W.slices_Clone_int_int_ok : SpecOk Tryd.prog 7 35 W.slices_Clone_int_int :=
  specOk_eff (an := .z) (calls := noSpec) 8 mixed noSpec_ok Tryd.func35 (by kernel_rfl) rfl (by kernel_rfl) (by decide) (fun x σ => by kernel_rfl)
theorem W.pace_New_1_ok : SpecOk Tryd.prog 7 34 W.pace_New_1 :=
  specOk_eff (an := .z) (calls := (tab 35 W.slices_Clone_int_int noSpec)) 6 mixed (tab_ok W.slices_Clone_int_int_ok noSpec_ok) Tryd.func34 (by kernel_rfl) rfl (by kernel_rfl) (by decide) (fun x σ => by kernel_rfl)
theorem W.pace_New_ok : SpecOk Tryd.prog 7 22 W.pace_New :=
  specOk_eff (an := .z) (calls := (tab 34 W.pace_New_1 noSpec)) 24 mixed (tab_ok W.pace_New_1_ok noSpec_ok) Tryd.func22 (by kernel_rfl) rfl (by kernel_rfl) (by decide) (fun x σ => by kernel_rfl)
theorem W.assign_Cut_ok : SpecOk Tryd.prog 7 49 W.assign_Cut :=
  specOk_pur (an := .z) (calls := noSpec) 6 mixed noSpec_ok Tryd.func49 (by kernel_rfl) rfl (by kernel_rfl) (by decide) (fun x σ => by kernel_rfl)
theorem W.assign_New_ok : SpecOk Tryd.prog 7 59 W.assign_New :=
  specOk_eff (an := .z) (calls := (tab 49 W.assign_Cut noSpec)) 9 mixed (tab_ok W.assign_Cut_ok noSpec_ok) Tryd.func59 (by kernel_rfl) rfl (by kernel_rfl) (by decide) (fun x σ => by kernel_rfl)
theorem W.assign_Assign_Grow_ok : SpecOk Tryd.prog 7 47 W.assign_Assign_Grow :=
  specOk_eff (an := (.l [] [(.exit 0, [])] .z)) (calls := (tab 49 W.assign_Cut noSpec)) 21 mixed (tab_ok W.assign_Cut_ok noSpec_ok) Tryd.func47 (by kernel_rfl) rfl (by kernel_rfl) (by decide) (fun x σ => by kernel_rfl)
theorem W.assign_Assign_Vars_ok : SpecOk Tryd.prog 7 48 W.assign_Assign_Vars :=
  specOk_pur (an := .z) (calls := noSpec) 9 mixed noSpec_ok Tryd.func48 (by kernel_rfl) rfl (by kernel_rfl) (by decide) (fun x σ => by kernel_rfl)
theorem W.prop_Prop_Grow_ok : SpecOk Tryd.prog 7 36 W.prop_Prop_Grow :=
  specOk_eff (an := (.s .z (.l [] [(.exit 0, [])] .z))) (calls := (tab 48 W.assign_Assign_Vars (tab 47 W.assign_Assign_Grow noSpec))) 48 mixed (tab_ok W.assign_Assign_Vars_ok (tab_ok W.assign_Assign_Grow_ok noSpec_ok)) Tryd.func36 (by kernel_rfl) rfl (by kernel_rfl) (by decide) (fun x σ => by kernel_rfl)
theorem W.prop_New_ok : SpecOk Tryd.prog 7 45 W.prop_New :=
  specOk_eff (an := .z) (calls := (tab 36 W.prop_Prop_Grow (tab 59 W.assign_New noSpec))) 14 mixed (tab_ok W.prop_Prop_Grow_ok (tab_ok W.assign_New_ok noSpec_ok)) Tryd.func45 (by kernel_rfl) rfl (by kernel_rfl) (by decide) (fun x σ => by kernel_rfl)
theorem W.heap_Heap_is_ok : SpecOk Tryd.prog 7 60 W.heap_Heap_is :=
  specOk_pur (an := (.s .z (.s (.j [(.normal, [(4, .B)])] .z) .z))) (calls := noSpec) 16 mixed noSpec_ok Tryd.func60 (by kernel_rfl) rfl (by kernel_rfl) (by decide) (fun x σ => by kernel_rfl)
theorem W.heap_Heap_ahead_ok : SpecOk Tryd.prog 7 69 W.heap_Heap_ahead :=
  specOk_pur (an := (.s .z (.s (.j [(.normal, [(6, .B)])] .z) .z))) (calls := noSpec) 44 mixed noSpec_ok Tryd.func69 (by kernel_rfl) rfl (by kernel_rfl) (by decide) (fun x σ => by kernel_rfl)
theorem W.heap_Heap_put_ok : SpecOk Tryd.prog 7 70 W.heap_Heap_put :=
  specOk_eff (an := .z) (calls := noSpec) 21 mixed noSpec_ok Tryd.func70 (by kernel_rfl) rfl (by kernel_rfl) (by decide) (fun x σ => by kernel_rfl)
theorem W.heap_Heap_up_ok : SpecOk Tryd.prog 7 61 W.heap_Heap_up :=
  specOk_eff (an := (.s .z (.s (.l [(1, .I .i64)] [(.exit 0, [(1, .I .i64)])] (.s (.s (.j [(.normal, [(27, .B)])] .z) .z) .z)) .z))) (calls := (tab 70 W.heap_Heap_put (tab 69 W.heap_Heap_ahead noSpec))) 47 mixed (tab_ok W.heap_Heap_put_ok (tab_ok W.heap_Heap_ahead_ok noSpec_ok)) Tryd.func61 (by kernel_rfl) rfl (by kernel_rfl) (by decide) (fun x σ => by kernel_rfl)
theorem W.heap_Heap_Push_ok : SpecOk Tryd.prog 7 50 W.heap_Heap_Push :=
  specOk_eff (an := (.s .z (.s (.s (.j [(.normal, [(18, .B)])] .z) .z) .z))) (calls := (tab 61 W.heap_Heap_up (tab 60 W.heap_Heap_is noSpec))) 37 mixed (tab_ok W.heap_Heap_up_ok (tab_ok W.heap_Heap_is_ok noSpec_ok)) Tryd.func50 (by kernel_rfl) rfl (by kernel_rfl) (by decide) (fun x σ => by kernel_rfl)
theorem W.heap_Heap_Grow_ok : SpecOk Tryd.prog 7 37 W.heap_Heap_Grow :=
  specOk_eff (an := (.l [] [(.exit 0, [])] .z)) (calls := (tab 50 W.heap_Heap_Push (tab 49 W.assign_Cut noSpec))) 38 mixed (tab_ok W.heap_Heap_Push_ok (tab_ok W.assign_Cut_ok noSpec_ok)) Tryd.func37 (by kernel_rfl) rfl (by kernel_rfl) (by decide) (fun x σ => by kernel_rfl)
theorem W.heap_New_ok : SpecOk Tryd.prog 7 46 W.heap_New :=
  specOk_eff (an := .z) (calls := (tab 37 W.heap_Heap_Grow noSpec)) 12 mixed (tab_ok W.heap_Heap_Grow_ok noSpec_ok) Tryd.func46 (by kernel_rfl) rfl (by kernel_rfl) (by decide) (fun x σ => by kernel_rfl)
theorem W.prop_Prop_Vars_ok : SpecOk Tryd.prog 7 38 W.prop_Prop_Vars :=
  specOk_pur (an := .z) (calls := (tab 48 W.assign_Assign_Vars noSpec)) 8 mixed (tab_ok W.assign_Assign_Vars_ok noSpec_ok) Tryd.func38 (by kernel_rfl) rfl (by kernel_rfl) (by decide) (fun x σ => by kernel_rfl)
theorem W.sat_Engine_Grow_ok : SpecOk Tryd.prog 7 23 W.sat_Engine_Grow :=
  specOk_eff (an := (.s .z (.s .z (.l [] [(.exit 0, [])] .z)))) (calls := (tab 38 W.prop_Prop_Vars (tab 37 W.heap_Heap_Grow (tab 36 W.prop_Prop_Grow noSpec)))) 36 mixed (tab_ok W.prop_Prop_Vars_ok (tab_ok W.heap_Heap_Grow_ok (tab_ok W.prop_Prop_Grow_ok noSpec_ok))) Tryd.func23 (by kernel_rfl) rfl (by kernel_rfl) (by decide) (fun x σ => by kernel_rfl)
theorem W.sat_Paced_ok : SpecOk Tryd.prog 7 33 W.sat_Paced :=
  specOk_eff (an := .z) (calls := (tab 23 W.sat_Engine_Grow (tab 46 W.heap_New (tab 45 W.prop_New noSpec)))) 15 mixed (tab_ok W.sat_Engine_Grow_ok (tab_ok W.heap_New_ok (tab_ok W.prop_New_ok noSpec_ok))) Tryd.func33 (by kernel_rfl) rfl (by kernel_rfl) (by decide) (fun x σ => by kernel_rfl)
theorem W.incr_Paced_ok : SpecOk Tryd.prog 7 21 W.incr_Paced :=
  specOk_eff (an := .z) (calls := (tab 33 W.sat_Paced noSpec)) 7 mixed (tab_ok W.sat_Paced_ok noSpec_ok) Tryd.func21 (by kernel_rfl) rfl (by kernel_rfl) (by decide) (fun x σ => by kernel_rfl)
theorem W.incr_New_ok : SpecOk Tryd.prog 7 7 W.incr_New :=
  specOk_eff (an := .z) (calls := (tab 21 W.incr_Paced (tab 22 W.pace_New noSpec))) 6 mixed (tab_ok W.incr_Paced_ok (tab_ok W.pace_New_ok noSpec_ok)) Tryd.func7 (by kernel_rfl) rfl (by kernel_rfl) (by decide) (fun x σ => by kernel_rfl)
theorem W.incr_Solver_Fresh_ok : SpecOk Tryd.prog 7 8 W.incr_Solver_Fresh :=
  specOk_eff (an := (.s .z (.s (.s (.j [(.normal, [(17, .B)])] .z) .z) .z))) (calls := (tab 23 W.sat_Engine_Grow noSpec)) 45 mixed (tab_ok W.sat_Engine_Grow_ok noSpec_ok) Tryd.func8 (by kernel_rfl) rfl (by kernel_rfl) (by decide) (fun x σ => by kernel_rfl)
theorem W.incr_Solver_Vars_ok : SpecOk Tryd.prog 7 10 W.incr_Solver_Vars :=
  specOk_pur (an := .z) (calls := noSpec) 8 mixed noSpec_ok Tryd.func10 (by kernel_rfl) rfl (by kernel_rfl) (by decide) (fun x σ => by kernel_rfl)
theorem W.skolemlaw19_first_ok : SpecOk Tryd.prog 7 5 W.skolemlaw19_first :=
  specOk_eff (an := (.s .z (.s .z (.s (.j [(.normal, [(0, .B)])] .z) .z)))) (calls := (tab 10 W.incr_Solver_Vars (tab 8 W.incr_Solver_Fresh (tab 7 W.incr_New noSpec)))) 21 mixed (tab_ok W.incr_Solver_Vars_ok (tab_ok W.incr_Solver_Fresh_ok (tab_ok W.incr_New_ok noSpec_ok))) Tryd.func5 (by kernel_rfl) rfl (by kernel_rfl) (by decide) (fun x σ => by kernel_rfl)
theorem W.skolemworld_Number_ok : SpecOk Tryd.prog 7 6 W.skolemworld_Number :=
  specOk_pur (an := (.s .z (.s .z (.s (.s .z (.j [(.normal, [(5, .I .i64)])] .z)) .z)))) (calls := noSpec) 15 mixed noSpec_ok Tryd.func6 (by kernel_rfl) rfl (by kernel_rfl) (by decide) (fun x σ => by kernel_rfl)
theorem W.lits_Is_ok : SpecOk Tryd.prog 7 53 W.lits_Is :=
  specOk_pur (an := (.s .z (.s (.j [(.normal, [(4, .B)])] .z) .z))) (calls := noSpec) 18 mixed noSpec_ok Tryd.func53 (by kernel_rfl) rfl (by kernel_rfl) (by decide) (fun x σ => by kernel_rfl)
theorem W.incr_Solver_may_1_ok : SpecOk Tryd.prog 7 52 W.incr_Solver_may_1 :=
  specOk_pur (an := .z) (calls := (tab 53 W.lits_Is noSpec)) 12 mixed (tab_ok W.lits_Is_ok noSpec_ok) Tryd.func52 (by kernel_rfl) rfl (by kernel_rfl) (by decide) (fun x σ => by kernel_rfl)
theorem W.lits_Var_ok : SpecOk Tryd.prog 7 44 W.lits_Var :=
  specOk_pur (an := .z) (calls := noSpec) 7 mixed noSpec_ok Tryd.func44 (by kernel_rfl) rfl (by kernel_rfl) (by decide) (fun x σ => by kernel_rfl)
theorem W.cmp_isNaN_int_ok : SpecOk Tryd.prog 7 89 W.cmp_isNaN_int :=
  specOk_pur (an := .z) (calls := noSpec) 6 mixed noSpec_ok Tryd.func89 (by kernel_rfl) rfl (by kernel_rfl) (by decide) (fun x σ => by kernel_rfl)
theorem W.cmp_Compare_int_ok : SpecOk Tryd.prog 7 78 W.cmp_Compare_int :=
  specOk_pur (an := .z) (calls := (tab 89 W.cmp_isNaN_int noSpec)) 20 mixed (tab_ok W.cmp_isNaN_int_ok noSpec_ok) Tryd.func78 (by kernel_rfl) rfl (by kernel_rfl) (by decide) (fun x σ => by kernel_rfl)
theorem W.cmp_Or_int_ok : SpecOk Tryd.prog 7 77 W.cmp_Or_int :=
  specOk_pur (an := (.s .z (.s .z (.s (.s .z (.l [(8, .I .i64)] [(.exit 0, []), (.ret, [(2, .I .i64)])] .z)) .z)))) (calls := noSpec) 18 mixed noSpec_ok Tryd.func77 (by kernel_rfl) rfl (by kernel_rfl) (by decide) (fun x σ => by kernel_rfl)
theorem W.lits_order_ok : SpecOk Tryd.prog 7 72 W.lits_order :=
  specOk_eff (an := .z) (calls := (tab 77 W.cmp_Or_int (tab 78 W.cmp_Compare_int (tab 44 W.lits_Var noSpec)))) 15 mixed (tab_ok W.cmp_Or_int_ok (tab_ok W.cmp_Compare_int_ok (tab_ok W.lits_Var_ok noSpec_ok))) Tryd.func72 (by kernel_rfl) rfl (by kernel_rfl) (by decide) (fun x σ => by kernel_rfl)
theorem W.prop_Prop_Add_1_ok : SpecOk Tryd.prog 7 64 W.prop_Prop_Add_1 :=
  specOk_pur (an := .z) (calls := (tab 53 W.lits_Is (tab 48 W.assign_Assign_Vars noSpec))) 12 mixed (tab_ok W.lits_Is_ok (tab_ok W.assign_Assign_Vars_ok noSpec_ok)) Tryd.func64 (by kernel_rfl) rfl (by kernel_rfl) (by decide) (fun x σ => by kernel_rfl)
theorem W.sat_Engine_Add_1_ok : SpecOk Tryd.prog 7 54 W.sat_Engine_Add_1 :=
  specOk_pur (an := .z) (calls := (tab 53 W.lits_Is (tab 38 W.prop_Prop_Vars noSpec))) 12 mixed (tab_ok W.lits_Is_ok (tab_ok W.prop_Prop_Vars_ok noSpec_ok)) Tryd.func54 (by kernel_rfl) rfl (by kernel_rfl) (by decide) (fun x σ => by kernel_rfl)
theorem W.slices_IndexFunc_int_int_ok : SpecOk Tryd.prog 7 62 W.slices_IndexFunc_int_int :=
  specOk_eff (an := (.s .z (.s (.s .z (.l [(8, .I .i64)] [(.exit 0, []), (.ret, [(4, .I .i64)])] .z)) .z))) (calls := (tab 54 W.sat_Engine_Add_1 (tab 64 W.prop_Prop_Add_1 (tab 72 W.lits_order (tab 52 W.incr_Solver_may_1 noSpec))))) 19 mixed (tab_ok W.sat_Engine_Add_1_ok (tab_ok W.prop_Prop_Add_1_ok (tab_ok W.lits_order_ok (tab_ok W.incr_Solver_may_1_ok noSpec_ok)))) Tryd.func62 (by kernel_rfl) rfl (by kernel_rfl) (by decide) (fun x σ => by kernel_rfl)
theorem W.slices_ContainsFunc_int_int_ok : SpecOk Tryd.prog 7 51 W.slices_ContainsFunc_int_int :=
  specOk_eff (an := .z) (calls := (tab 62 W.slices_IndexFunc_int_int noSpec)) 9 mixed (tab_ok W.slices_IndexFunc_int_int_ok noSpec_ok) Tryd.func51 (by kernel_rfl) rfl (by kernel_rfl) (by decide) (fun x σ => by kernel_rfl)
theorem W.incr_Solver_may_ok : SpecOk Tryd.prog 7 39 W.incr_Solver_may :=
  specOk_eff (an := (.s .z (.s .z (.s (.s .z (.l [(5, .I .i64), (14, .I .i64)] [(.exit 0, [(5, .I .i64)]), (.ret, [(4, .V)])] .z)) (.s (.s (.j [(.normal, [(40, .B)])] .z) .z) .z))))) (calls := (tab 51 W.slices_ContainsFunc_int_int noSpec)) 42 mixed (tab_ok W.slices_ContainsFunc_int_int_ok noSpec_ok) Tryd.func39 (by kernel_rfl) rfl (by kernel_rfl) (by decide) (fun x σ => by kernel_rfl)
theorem W.slices_SortFunc_int_int_ok : SpecOk Tryd.prog 7 71 W.slices_SortFunc_int_int := specOk_sortF Tryd.sortsOrd Tryd.sortsNone ⟨Tryd.f71, Tryd.func71, by kernel_rfl, by kernel_rfl⟩
theorem W.slices_Compact_int_int_ok : SpecOk Tryd.prog 7 74 W.slices_Compact_int_int :=
  specOk_eff (an := (.s .z (.s .z (.s (.s .z (.l [(3, .I .i64)] [(.exit 0, []), (.ret, [(2, .V)])] (.s .z (.s (.s .z (.s (.s .z (.s (.s .z (.l [(3, .I .i64), (5, .I .i64)] [(.exit 2, [(3, .I .i64)])] (.s .z (.s (.j [(.normal, [(3, .I .i64)])] .z) .z)))) .z)) .z)) .z)))) .z)))) (calls := noSpec) 61 mixed noSpec_ok Tryd.func74 (by kernel_rfl) rfl (by kernel_rfl) (by decide) (fun x σ => by kernel_rfl)
theorem W.slices_Clip_int_int_ok : SpecOk Tryd.prog 7 73 W.slices_Clip_int_int :=
  specOk_pur (an := .z) (calls := noSpec) 9 mixed noSpec_ok Tryd.func73 (by kernel_rfl) rfl (by kernel_rfl) (by decide) (fun x σ => by kernel_rfl)
theorem W.lits_Norm_ok : SpecOk Tryd.prog 7 63 W.lits_Norm :=
  specOk_eff (an := (.s .z (.s .z (.s .z (.s .z (.s (.s .z (.l [(5, .I .i64)] [(.exit 0, []), (.ret, [(2, .V), (3, .B)])] .z)) .z)))))) (calls := (tab 44 W.lits_Var (tab 73 W.slices_Clip_int_int (tab 74 W.slices_Compact_int_int (tab 71 W.slices_SortFunc_int_int (tab 35 W.slices_Clone_int_int noSpec)))))) 33 mixed (tab_ok W.lits_Var_ok (tab_ok W.slices_Clip_int_int_ok (tab_ok W.slices_Compact_int_int_ok (tab_ok W.slices_SortFunc_int_int_ok (tab_ok W.slices_Clone_int_int_ok noSpec_ok))))) Tryd.func63 (by kernel_rfl) rfl (by kernel_rfl) (by decide) (fun x σ => by kernel_rfl)
theorem W.prop_at_ok : SpecOk Tryd.prog 7 65 W.prop_at :=
  specOk_pur (an := .z) (calls := noSpec) 10 mixed noSpec_ok Tryd.func65 (by kernel_rfl) rfl (by kernel_rfl) (by decide) (fun x σ => by kernel_rfl)
theorem W.prop_Prop_look_ok : SpecOk Tryd.prog 7 66 W.prop_Prop_look :=
  specOk_eff (an := .z) (calls := noSpec) 30 mixed noSpec_ok Tryd.func66 (by kernel_rfl) rfl (by kernel_rfl) (by decide) (fun x σ => by kernel_rfl)
theorem W.prop_Prop_Add_ok : SpecOk Tryd.prog 7 55 W.prop_Prop_Add :=
  specOk_eff (an := (.s .z (.s .z (.s (.s (.j [(.normal, [(22, .B)])] .z) .z) (.s .z (.s .z (.s (.s .z (.j [(.normal, [])] (.s (.s .z (.l [(45, .I .i64)] [(.exit 0, [])] .z)) .z))) .z))))))) (calls := (tab 66 W.prop_Prop_look (tab 65 W.prop_at (tab 51 W.slices_ContainsFunc_int_int (tab 63 W.lits_Norm noSpec))))) 72 mixed (tab_ok W.prop_Prop_look_ok (tab_ok W.prop_at_ok (tab_ok W.slices_ContainsFunc_int_int_ok (tab_ok W.lits_Norm_ok noSpec_ok)))) Tryd.func55 (by kernel_rfl) rfl (by kernel_rfl) (by decide) (fun x σ => by kernel_rfl)
theorem W.sat_Engine_Add_ok : SpecOk Tryd.prog 7 40 W.sat_Engine_Add :=
  specOk_eff (an := .z) (calls := (tab 55 W.prop_Prop_Add (tab 51 W.slices_ContainsFunc_int_int noSpec))) 14 mixed (tab_ok W.prop_Prop_Add_ok (tab_ok W.slices_ContainsFunc_int_int_ok noSpec_ok)) Tryd.func40 (by kernel_rfl) rfl (by kernel_rfl) (by decide) (fun x σ => by kernel_rfl)
theorem W.incr_Solver_adds_ok : SpecOk Tryd.prog 7 24 W.incr_Solver_adds :=
  specOk_eff (an := (.s .z (.s .z (.s (.s .z (.l [(16, .I .i64)] [(.exit 0, [])] .z)) .z)))) (calls := (tab 35 W.slices_Clone_int_int (tab 40 W.sat_Engine_Add (tab 39 W.incr_Solver_may noSpec)))) 49 mixed (tab_ok W.slices_Clone_int_int_ok (tab_ok W.sat_Engine_Add_ok (tab_ok W.incr_Solver_may_ok noSpec_ok))) Tryd.func24 (by kernel_rfl) rfl (by kernel_rfl) (by decide) (fun x σ => by kernel_rfl)
theorem W.incr_Solver_Add_ok : SpecOk Tryd.prog 7 9 W.incr_Solver_Add :=
  specOk_eff (an := .z) (calls := (tab 24 W.incr_Solver_adds noSpec)) 9 mixed (tab_ok W.incr_Solver_adds_ok noSpec_ok) Tryd.func9 (by kernel_rfl) rfl (by kernel_rfl) (by decide) (fun x σ => by kernel_rfl)
theorem W.skolemref_Bare_ok : SpecOk Tryd.prog 7 26 W.skolemref_Bare :=
  specOk_eff (an := .z) (calls := noSpec) 5 mixed noSpec_ok Tryd.func26 (by kernel_rfl) rfl (by kernel_rfl) (by decide) (fun x σ => by kernel_rfl)
theorem W.skolemref_None_ok : SpecOk Tryd.prog 7 56 W.skolemref_None :=
  specOk_eff (an := .z) (calls := noSpec) 2 mixed noSpec_ok Tryd.func56 (by kernel_rfl) rfl (by kernel_rfl) (by decide) (fun x σ => by kernel_rfl)
theorem W.skolemsee_sentinels_ok : SpecOk Tryd.prog 7 67 W.skolemsee_sentinels :=
  specOk_eff (an := .z) (calls := noSpec) 9 mixed noSpec_ok Tryd.func67 (by kernel_rfl) rfl (by kernel_rfl) (by decide) (fun x σ => by kernel_rfl)
theorem W.skolemsee_Alike_ok : SpecOk Tryd.prog 7 68 W.skolemsee_Alike :=
  specOk_pur (an := (.s .z (.s (.s (.j [(.normal, [(10, .B)])] .z) (.s (.s (.j [(.normal, [(4, .B)])] .z) .z) .z)) .z))) (calls := noSpec) 20 mixed noSpec_ok Tryd.func68 (by kernel_rfl) rfl (by kernel_rfl) (by decide) (fun x σ => by kernel_rfl)
theorem W.skolemsee_sentinel_ok : SpecOk Tryd.prog 7 57 W.skolemsee_sentinel :=
  specOk_eff (an := (.s .z (.s .z (.s (.s .z (.l [(4, .I .i64)] [(.exit 0, []), (.ret, [(2, .I .i64)])] .z)) .z)))) (calls := (tab 68 W.skolemsee_Alike (tab 67 W.skolemsee_sentinels noSpec))) 20 mixed (tab_ok W.skolemsee_Alike_ok (tab_ok W.skolemsee_sentinels_ok noSpec_ok)) Tryd.func57 (by kernel_rfl) rfl (by kernel_rfl) (by decide) (fun x σ => by kernel_rfl)
theorem W.skolemref_Placed_ok : SpecOk Tryd.prog 7 58 W.skolemref_Placed :=
  specOk_eff (an := .z) (calls := (tab 56 W.skolemref_None noSpec)) 11 mixed (tab_ok W.skolemref_None_ok noSpec_ok) Tryd.func58 (by kernel_rfl) rfl (by kernel_rfl) (by decide) (fun x σ => by kernel_rfl)
theorem W.skolemsee_Fault_ok : SpecOk Tryd.prog 7 42 W.skolemsee_Fault :=
  specOk_eff (an := (.s .z (.s .z (.s .z (.s .z (.s (.s (.j [(.normal, [(26, .B)])] .z) .z) .z)))))) (calls := (tab 58 W.skolemref_Placed (tab 26 W.skolemref_Bare (tab 57 W.skolemsee_sentinel (tab 56 W.skolemref_None noSpec))))) 38 mixed (tab_ok W.skolemref_Placed_ok (tab_ok W.skolemref_Bare_ok (tab_ok W.skolemsee_sentinel_ok (tab_ok W.skolemref_None_ok noSpec_ok)))) Tryd.func42 (by kernel_rfl) rfl (by kernel_rfl) (by decide) (fun x σ => by kernel_rfl)
theorem W.skolemref_SameFault_ok : SpecOk Tryd.prog 7 41 W.skolemref_SameFault :=
  specOk_eff (an := (.s .z (.s (.j [(.normal, [(4, .B)])] .z) .z))) (calls := noSpec) 24 mixed noSpec_ok Tryd.func41 (by kernel_rfl) rfl (by kernel_rfl) (by decide) (fun x σ => by kernel_rfl)
theorem W.skolemsee_Same_ok : SpecOk Tryd.prog 7 25 W.skolemsee_Same :=
  specOk_eff (an := .z) (calls := (tab 41 W.skolemref_SameFault (tab 42 W.skolemsee_Fault noSpec))) 9 mixed (tab_ok W.skolemref_SameFault_ok (tab_ok W.skolemsee_Fault_ok noSpec_ok)) Tryd.func25 (by kernel_rfl) rfl (by kernel_rfl) (by decide) (fun x σ => by kernel_rfl)
theorem W.skolemsee_Is_ok : SpecOk Tryd.prog 7 11 W.skolemsee_Is :=
  specOk_eff (an := .z) (calls := (tab 25 W.skolemsee_Same (tab 26 W.skolemref_Bare noSpec))) 9 mixed (tab_ok W.skolemsee_Same_ok (tab_ok W.skolemref_Bare_ok noSpec_ok)) Tryd.func11 (by kernel_rfl) rfl (by kernel_rfl) (by decide) (fun x σ => by kernel_rfl)
theorem W.lits_Clone_ok : SpecOk Tryd.prog 7 27 W.lits_Clone :=
  specOk_eff (an := (.s .z (.s .z (.s (.s .z (.l [(3, .V), (11, .I .i64)] [(.exit 0, [(3, .V)])] .z)) .z)))) (calls := (tab 35 W.slices_Clone_int_int noSpec)) 22 mixed (tab_ok W.slices_Clone_int_int_ok noSpec_ok) Tryd.func27 (by kernel_rfl) rfl (by kernel_rfl) (by decide) (fun x σ => by kernel_rfl)
theorem W.incr_Solver_All_ok : SpecOk Tryd.prog 7 12 W.incr_Solver_All :=
  specOk_eff (an := .z) (calls := (tab 27 W.lits_Clone noSpec)) 15 mixed (tab_ok W.lits_Clone_ok noSpec_ok) Tryd.func12 (by kernel_rfl) rfl (by kernel_rfl) (by decide) (fun x σ => by kernel_rfl)
theorem W.skolemmake_Small_ok : SpecOk Tryd.prog 7 13 W.skolemmake_Small :=
  specOk_eff (an := (.s .z (.s (.j [(.normal, [(2, .B)])] .z) .z))) (calls := noSpec) 25 mixed noSpec_ok Tryd.func13 (by kernel_rfl) rfl (by kernel_rfl) (by decide) (fun x σ => by kernel_rfl)
theorem W.skolemmake_Near_ok : SpecOk Tryd.prog 7 14 W.skolemmake_Near :=
  specOk_pur (an := (.s .z (.s (.s .z (.l [(3, .I .i64)] [(.exit 0, []), (.ret, [(2, .B)])] .z)) .z))) (calls := noSpec) 15 mixed noSpec_ok Tryd.func14 (by kernel_rfl) rfl (by kernel_rfl) (by decide) (fun x σ => by kernel_rfl)
theorem W.skolemmake_Free_ok : SpecOk Tryd.prog 7 28 W.skolemmake_Free :=
  specOk_eff (an := .z) (calls := noSpec) 6 mixed noSpec_ok Tryd.func28 (by kernel_rfl) rfl (by kernel_rfl) (by decide) (fun x σ => by kernel_rfl)
theorem W.skolemmake_Lit_ok : SpecOk Tryd.prog 7 43 W.skolemmake_Lit :=
  specOk_pur (an := .z) (calls := (tab 6 W.skolemworld_Number noSpec)) 19 mixed (tab_ok W.skolemworld_Number_ok noSpec_ok) Tryd.func43 (by kernel_rfl) rfl (by kernel_rfl) (by decide) (fun x σ => by kernel_rfl)
theorem W.skolemmake_Clauses_ok : SpecOk Tryd.prog 7 29 W.skolemmake_Clauses :=
  specOk_eff (an := (.s .z (.s .z (.s .z (.s .z (.s (.s .z (.l [(5, .V), (6, .V), (7, .I .i64)] [(.exit 0, [(5, .V), (6, .V)])] (.s .z (.s (.j [(.normal, [(5, .V), (6, .V)])] (.s (.s (.j [(.normal, [(31, .B)])] .z) (.j [(.normal, [(5, .V), (6, .V)])] .z)) .z)) .z)))) (.s (.s .z (.j [(.normal, [(5, .V)])] .z)) .z))))))) (calls := (tab 43 W.skolemmake_Lit (tab 6 W.skolemworld_Number noSpec))) 55 mixed (tab_ok W.skolemmake_Lit_ok (tab_ok W.skolemworld_Number_ok noSpec_ok)) Tryd.func29 (by kernel_rfl) rfl (by kernel_rfl) (by decide) (fun x σ => by kernel_rfl)
theorem W.skolemlaw19_made_ok : SpecOk Tryd.prog 7 15 W.skolemlaw19_made :=
  specOk_eff (an := (.s .z (.s .z (.s (.s (.j [(.normal, [(18, .B)])] .z) .z) (.s .z (.s (.s .z (.l [(8, .I .i64)] [(.exit 0, []), (.ret, [(4, .V), (5, .V)])] .z)) .z)))))) (calls := (tab 9 W.incr_Solver_Add (tab 29 W.skolemmake_Clauses (tab 8 W.incr_Solver_Fresh (tab 7 W.incr_New (tab 28 W.skolemmake_Free noSpec)))))) 36 mixed (tab_ok W.incr_Solver_Add_ok (tab_ok W.skolemmake_Clauses_ok (tab_ok W.incr_Solver_Fresh_ok (tab_ok W.incr_New_ok (tab_ok W.skolemmake_Free_ok noSpec_ok))))) Tryd.func15 (by kernel_rfl) rfl (by kernel_rfl) (by decide) (fun x σ => by kernel_rfl)
theorem W.skolemmake_CNF_ok : SpecOk Tryd.prog 7 16 W.skolemmake_CNF :=
  specOk_eff (an := .z) (calls := (tab 29 W.skolemmake_Clauses noSpec)) 10 mixed (tab_ok W.skolemmake_Clauses_ok noSpec_ok) Tryd.func16 (by kernel_rfl) rfl (by kernel_rfl) (by decide) (fun x σ => by kernel_rfl)
theorem W.lits_Rename_ok : SpecOk Tryd.prog 7 30 W.lits_Rename :=
  specOk_eff (an := (.s .z (.s .z (.s (.s .z (.l [(6, .V), (15, .I .i64)] [(.exit 0, [(6, .V)]), (.ret, [(4, .V), (5, .B)])] (.s .z (.s .z (.s (.j [(.normal, [(6, .V)]), (.ret, [(4, .V), (5, .B)])] (.s .z (.s .z (.s (.s (.j [(.normal, [(35, .B)])] .z) .z) .z)))) .z))))) .z)))) (calls := (tab 44 W.lits_Var noSpec)) 55 mixed (tab_ok W.lits_Var_ok noSpec_ok) Tryd.func30 (by kernel_rfl) rfl (by kernel_rfl) (by decide) (fun x σ => by kernel_rfl)
theorem W.incr_Solver_Put_ok : SpecOk Tryd.prog 7 17 W.incr_Solver_Put :=
  specOk_eff (an := (.s .z (.s .z (.s (.s .z (.l [(7, .V), (19, .I .i64)] [(.exit 0, [(7, .V)]), (.ret, [(6, .V)])] .z)) .z)))) (calls := (tab 24 W.incr_Solver_adds (tab 30 W.lits_Rename noSpec))) 40 mixed (tab_ok W.incr_Solver_adds_ok (tab_ok W.lits_Rename_ok noSpec_ok)) Tryd.func17 (by kernel_rfl) rfl (by kernel_rfl) (by decide) (fun x σ => by kernel_rfl)
theorem W.skolemref_Abs_ok : SpecOk Tryd.prog 7 31 W.skolemref_Abs :=
  specOk_pur (an := .z) (calls := noSpec) 8 mixed noSpec_ok Tryd.func31 (by kernel_rfl) rfl (by kernel_rfl) (by decide) (fun x σ => by kernel_rfl)
theorem W.skolemref1_Rename_ok : SpecOk Tryd.prog 7 18 W.skolemref1_Rename :=
  specOk_eff (an := (.s .z (.s .z (.s (.s .z (.l [(6, .V), (7, .I .i64)] [(.exit 0, [(6, .V)]), (.ret, [(4, .V), (5, .B)])] (.s .z (.s (.j [(.normal, [(6, .V)]), (.ret, [(4, .V), (5, .B)])] (.s .z (.s (.s (.j [(.normal, [(36, .B)])] .z) .z) (.s .z (.s .z (.s (.s .z (.j [(.normal, [(9, .I .i64)])] .z)) .z)))))) .z)))) .z)))) (calls := (tab 31 W.skolemref_Abs noSpec)) 53 mixed (tab_ok W.skolemref_Abs_ok noSpec_ok) Tryd.func18 (by kernel_rfl) rfl (by kernel_rfl) (by decide) (fun x σ => by kernel_rfl)
theorem W.skolemmake_Right_ok : SpecOk Tryd.prog 7 19 W.skolemmake_Right :=
  specOk_pur (an := (.s .z (.s (.s .z (.l [(5, .I .i64)] [(.exit 0, []), (.ret, [(4, .B)])] (.s .z (.s (.s (.j [(.normal, [(33, .B)])] .z) .z) .z)))) .z))) (calls := noSpec) 34 mixed noSpec_ok Tryd.func19 (by kernel_rfl) rfl (by kernel_rfl) (by decide) (fun x σ => by kernel_rfl)
theorem W.skolemref_SameInts_ok : SpecOk Tryd.prog 7 32 W.skolemref_SameInts :=
  specOk_pur (an := (.s .z (.s .z (.s (.s .z (.l [(5, .I .i64)] [(.exit 0, []), (.ret, [(4, .B)])] .z)) .z)))) (calls := noSpec) 29 mixed noSpec_ok Tryd.func32 (by kernel_rfl) rfl (by kernel_rfl) (by decide) (fun x σ => by kernel_rfl)
theorem W.skolemref_SameClauses_ok : SpecOk Tryd.prog 7 20 W.skolemref_SameClauses :=
  specOk_pur (an := (.s .z (.s .z (.s (.s .z (.l [(5, .I .i64)] [(.exit 0, []), (.ret, [(4, .B)])] .z)) .z)))) (calls := (tab 32 W.skolemref_SameInts noSpec)) 29 mixed (tab_ok W.skolemref_SameInts_ok noSpec_ok) Tryd.func20 (by kernel_rfl) rfl (by kernel_rfl) (by decide) (fun x σ => by kernel_rfl)
theorem W.skolemlaw19_IncrSays_ok : SpecOk Tryd.prog 7 4 W.skolemlaw19_IncrSays :=
  specOk_eff (an := (.s .z (.s .z (.s .z (.s (.s (.j [(.normal, [(60, .B)])] .z) .z) (.s .z (.s .z (.s .z (.s (.s (.j [(.normal, [(100, .B)])] .z) .z) (.s .z (.s .z (.s .z (.s .z (.s (.s .z (.l [(18, .V), (19, .B), (20, .I .i64)] [(.exit 0, [(18, .V), (19, .B)])] (.s .z (.s (.s .z (.s (.j [(.normal, [(19, .B)])] .z) .z)) .z)))) (.s (.s (.j [(.normal, [(150, .B)])] .z) .z) (.s (.s .z (.j [(.normal, [(15, .V)])] .z)) (.s .z (.s (.s .z (.j [(.normal, [(15, .V)]), (.ret, [(12, .B)])] .z)) (.s .z (.s (.j [(.normal, [(12, .B)])] .z) .z)))))))))))))))))))) (calls := (tab 20 W.skolemref_SameClauses (tab 12 W.incr_Solver_All (tab 9 W.incr_Solver_Add (tab 11 W.skolemsee_Is (tab 19 W.skolemmake_Right (tab 18 W.skolemref1_Rename (tab 17 W.incr_Solver_Put (tab 16 W.skolemmake_CNF (tab 10 W.incr_Solver_Vars (tab 8 W.incr_Solver_Fresh (tab 6 W.skolemworld_Number (tab 15 W.skolemlaw19_made (tab 14 W.skolemmake_Near (tab 13 W.skolemmake_Small (tab 5 W.skolemlaw19_first noSpec)))))))))))))))) 185 mixed (tab_ok W.skolemref_SameClauses_ok (tab_ok W.incr_Solver_All_ok (tab_ok W.incr_Solver_Add_ok (tab_ok W.skolemsee_Is_ok (tab_ok W.skolemmake_Right_ok (tab_ok W.skolemref1_Rename_ok (tab_ok W.incr_Solver_Put_ok (tab_ok W.skolemmake_CNF_ok (tab_ok W.incr_Solver_Vars_ok (tab_ok W.incr_Solver_Fresh_ok (tab_ok W.skolemworld_Number_ok (tab_ok W.skolemlaw19_made_ok (tab_ok W.skolemmake_Near_ok (tab_ok W.skolemmake_Small_ok (tab_ok W.skolemlaw19_first_ok noSpec_ok))))))))))))))) Tryd.func4 (by kernel_rfl) rfl (by kernel_rfl) (by decide) (fun x σ => by kernel_rfl)
end Go.Proofs.YtekehmgfedmflaaDoor.A
