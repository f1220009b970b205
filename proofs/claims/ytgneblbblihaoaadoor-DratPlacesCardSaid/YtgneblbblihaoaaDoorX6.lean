/- Parts of the proof, one behind another. -/
import Derived.Test.YtgneblbblihaoaaDoorProg
import Derived.Lib.SlKeysI
import Derived.Shelf.SlIterI.Nil
import Derived.Shelf.SortM.Plain
import Derived.Shelf.SortM.SortNone
import Derived.Test.YtgneblbblihaoaaDoorX5
import Derived.Test.YtgneblbblihaoaaDoorX0
import Derived.Test.YtgneblbblihaoaaDoorX1
import Derived.Test.YtgneblbblihaoaaDoorX3
import Derived.Test.YtgneblbblihaoaaDoorX4
set_option linter.all false
set_option maxRecDepth 100000
namespace Go.Proofs.YtgneblbblihaoaaDoor.A
open Go
theorem mixed : Tryd.prog.follows .mixedOrders = true := by kernel_rfl
theorem W.lits_Is_ok : SpecOk Tryd.prog 7 81 W.lits_Is :=
  specOk_pur (an := (.s .z (.s (.j [(.normal, [(4, .B)])] .z) .z))) (calls := noSpec) 18 mixed noSpec_ok Tryd.func81 (by kernel_rfl) rfl (by kernel_rfl) (by decide) (fun x σ => by kernel_rfl)
theorem W.lits_Check_1_ok : SpecOk Tryd.prog 7 111 W.lits_Check_1 :=
  specOk_pur (an := .z) (calls := (tab 81 W.lits_Is noSpec)) 9 mixed (tab_ok W.lits_Is_ok noSpec_ok) Tryd.func111 (by kernel_rfl) rfl (by kernel_rfl) (by decide) (fun x σ => by kernel_rfl)
theorem W.rup_Base_right_1_ok : SpecOk Tryd.prog 7 123 W.rup_Base_right_1 :=
  specOk_pur (an := .z) (calls := (tab 81 W.lits_Is noSpec)) 11 mixed (tab_ok W.lits_Is_ok noSpec_ok) Tryd.func123 (by kernel_rfl) rfl (by kernel_rfl) (by decide) (fun x σ => by kernel_rfl)
theorem W.lits_Var_ok : SpecOk Tryd.prog 7 67 W.lits_Var :=
  specOk_pur (an := .z) (calls := noSpec) 7 mixed noSpec_ok Tryd.func67 (by kernel_rfl) rfl (by kernel_rfl) (by decide) (fun x σ => by kernel_rfl)
theorem W.cmp_isNaN_int_ok : SpecOk Tryd.prog 7 168 W.cmp_isNaN_int :=
  specOk_pur (an := .z) (calls := noSpec) 6 mixed noSpec_ok Tryd.func168 (by kernel_rfl) rfl (by kernel_rfl) (by decide) (fun x σ => by kernel_rfl)
theorem W.cmp_Compare_int_ok : SpecOk Tryd.prog 7 171 W.cmp_Compare_int :=
  specOk_pur (an := .z) (calls := (tab 168 W.cmp_isNaN_int noSpec)) 20 mixed (tab_ok W.cmp_isNaN_int_ok noSpec_ok) Tryd.func171 (by kernel_rfl) rfl (by kernel_rfl) (by decide) (fun x σ => by kernel_rfl)
theorem W.cmp_Or_int_ok : SpecOk Tryd.prog 7 170 W.cmp_Or_int :=
  specOk_pur (an := (.s .z (.s .z (.s (.s .z (.l [(8, .I .i64)] [(.exit 0, []), (.ret, [(2, .I .i64)])] .z)) .z)))) (calls := noSpec) 18 mixed noSpec_ok Tryd.func170 (by kernel_rfl) rfl (by kernel_rfl) (by decide) (fun x σ => by kernel_rfl)
theorem W.lits_order_ok : SpecOk Tryd.prog 7 155 W.lits_order :=
  specOk_eff (an := .z) (calls := (tab 170 W.cmp_Or_int (tab 171 W.cmp_Compare_int (tab 67 W.lits_Var noSpec)))) 15 mixed (tab_ok W.cmp_Or_int_ok (tab_ok W.cmp_Compare_int_ok (tab_ok W.lits_Var_ok noSpec_ok))) Tryd.func155 (by kernel_rfl) rfl (by kernel_rfl) (by decide) (fun x σ => by kernel_rfl)
theorem W.assign_Assign_Value_ok : SpecOk Tryd.prog 7 128 W.assign_Assign_Value :=
  specOk_pur (an := (.s .z (.s .z (.s .z (.s (.s (.j [(.normal, [(29, .B)])] .z) (.j [(.normal, [(5, .I .i64)])] .z)) .z))))) (calls := (tab 67 W.lits_Var (tab 81 W.lits_Is noSpec))) 33 mixed (tab_ok W.lits_Var_ok (tab_ok W.lits_Is_ok noSpec_ok)) Tryd.func128 (by kernel_rfl) rfl (by kernel_rfl) (by decide) (fun x σ => by kernel_rfl)
theorem W.assign_Assign_Set_ok : SpecOk Tryd.prog 7 129 W.assign_Assign_Set :=
  specOk_eff (an := (.s .z (.s (.s (.j [(.normal, [(19, .B)])] .z) .z) (.s (.s .z (.j [(.normal, [])] .z)) .z)))) (calls := (tab 128 W.assign_Assign_Value (tab 81 W.lits_Is noSpec))) 35 mixed (tab_ok W.assign_Assign_Value_ok (tab_ok W.lits_Is_ok noSpec_ok)) Tryd.func129 (by kernel_rfl) rfl (by kernel_rfl) (by decide) (fun x σ => by kernel_rfl)
theorem W.rup_Base_closure_1_ok : SpecOk Tryd.prog 7 127 W.rup_Base_closure_1 :=
  specOk_eff (an := .z) (calls := (tab 129 W.assign_Assign_Set (tab 128 W.assign_Assign_Value noSpec))) 16 mixed (tab_ok W.assign_Assign_Set_ok (tab_ok W.assign_Assign_Value_ok noSpec_ok)) Tryd.func127 (by kernel_rfl) rfl (by kernel_rfl) (by decide) (fun x σ => by kernel_rfl)
theorem W.assign_Assign_Clause_ok : SpecOk Tryd.prog 7 131 W.assign_Assign_Clause :=
  specOk_pur (an := (.s .z (.s .z (.s (.s .z (.l [(6, .I .i64), (7, .I .i64), (8, .I .i64), (14, .I .i64)] [(.exit 0, [(6, .I .i64), (7, .I .i64), (8, .I .i64)])] (.s .z (.s .z (.s (.j [(.normal, [(6, .I .i64), (7, .I .i64), (8, .I .i64)])] (.s .z (.s .z (.s .z (.s (.s .z (.j [(.normal, [(8, .I .i64)])] .z)) (.s (.j [(.normal, [(33, .B)])] .z) .z)))))) .z))))) (.s (.s (.j [(.normal, [(43, .B)])] .z) (.j [(.normal, [(6, .I .i64)])] .z)) .z))))) (calls := (tab 128 W.assign_Assign_Value noSpec)) 46 mixed (tab_ok W.assign_Assign_Value_ok noSpec_ok) Tryd.func131 (by kernel_rfl) rfl (by kernel_rfl) (by decide) (fun x σ => by kernel_rfl)
theorem W.rup_Base_closure_2_ok : SpecOk Tryd.prog 7 130 W.rup_Base_closure_2 :=
  specOk_eff (an := (.s .z (.s .z (.s (.j [(.normal, [(5, .B)])] .z) .z)))) (calls := (tab 127 W.rup_Base_closure_1 (tab 131 W.assign_Assign_Clause noSpec))) 31 mixed (tab_ok W.rup_Base_closure_1_ok (tab_ok W.assign_Assign_Clause_ok noSpec_ok)) Tryd.func130 (by kernel_rfl) rfl (by kernel_rfl) (by decide) (fun x σ => by kernel_rfl)
theorem W.rup_without_1_ok : SpecOk Tryd.prog 7 125 W.rup_without_1 :=
  specOk_pur (an := .z) (calls := noSpec) 7 mixed noSpec_ok Tryd.func125 (by kernel_rfl) rfl (by kernel_rfl) (by decide) (fun x σ => by kernel_rfl)
theorem W.rup_gone_1_ok : SpecOk Tryd.prog 7 153 W.rup_gone_1 :=
  specOk_pur (an := .z) (calls := noSpec) 7 mixed noSpec_ok Tryd.func153 (by kernel_rfl) rfl (by kernel_rfl) (by decide) (fun x σ => by kernel_rfl)
theorem W.incr_Solver_may_1_ok : SpecOk Tryd.prog 7 137 W.incr_Solver_may_1 :=
  specOk_pur (an := .z) (calls := (tab 81 W.lits_Is noSpec)) 12 mixed (tab_ok W.lits_Is_ok noSpec_ok) Tryd.func137 (by kernel_rfl) rfl (by kernel_rfl) (by decide) (fun x σ => by kernel_rfl)
theorem W.assign_Assign_Vars_ok : SpecOk Tryd.prog 7 135 W.assign_Assign_Vars :=
  specOk_pur (an := .z) (calls := noSpec) 9 mixed noSpec_ok Tryd.func135 (by kernel_rfl) rfl (by kernel_rfl) (by decide) (fun x σ => by kernel_rfl)
theorem W.prop_Prop_Add_1_ok : SpecOk Tryd.prog 7 160 W.prop_Prop_Add_1 :=
  specOk_pur (an := .z) (calls := (tab 81 W.lits_Is (tab 135 W.assign_Assign_Vars noSpec))) 12 mixed (tab_ok W.lits_Is_ok (tab_ok W.assign_Assign_Vars_ok noSpec_ok)) Tryd.func160 (by kernel_rfl) rfl (by kernel_rfl) (by decide) (fun x σ => by kernel_rfl)
theorem W.prop_Prop_Vars_ok : SpecOk Tryd.prog 7 107 W.prop_Prop_Vars :=
  specOk_pur (an := .z) (calls := (tab 135 W.assign_Assign_Vars noSpec)) 8 mixed (tab_ok W.assign_Assign_Vars_ok noSpec_ok) Tryd.func107 (by kernel_rfl) rfl (by kernel_rfl) (by decide) (fun x σ => by kernel_rfl)
theorem W.sat_Engine_Add_1_ok : SpecOk Tryd.prog 7 138 W.sat_Engine_Add_1 :=
  specOk_pur (an := .z) (calls := (tab 81 W.lits_Is (tab 107 W.prop_Prop_Vars noSpec))) 12 mixed (tab_ok W.lits_Is_ok (tab_ok W.prop_Prop_Vars_ok noSpec_ok)) Tryd.func138 (by kernel_rfl) rfl (by kernel_rfl) (by decide) (fun x σ => by kernel_rfl)
theorem W.slices_IndexFunc_int_int_ok : SpecOk Tryd.prog 7 140 W.slices_IndexFunc_int_int :=
  specOk_eff (an := (.s .z (.s (.s .z (.l [(8, .I .i64)] [(.exit 0, []), (.ret, [(4, .I .i64)])] .z)) .z))) (calls := (tab 138 W.sat_Engine_Add_1 (tab 160 W.prop_Prop_Add_1 (tab 137 W.incr_Solver_may_1 (tab 153 W.rup_gone_1 (tab 125 W.rup_without_1 (tab 130 W.rup_Base_closure_2 (tab 127 W.rup_Base_closure_1 (tab 155 W.lits_order (tab 123 W.rup_Base_right_1 (tab 111 W.lits_Check_1 noSpec))))))))))) 19 mixed (tab_ok W.sat_Engine_Add_1_ok (tab_ok W.prop_Prop_Add_1_ok (tab_ok W.incr_Solver_may_1_ok (tab_ok W.rup_gone_1_ok (tab_ok W.rup_without_1_ok (tab_ok W.rup_Base_closure_2_ok (tab_ok W.rup_Base_closure_1_ok (tab_ok W.lits_order_ok (tab_ok W.rup_Base_right_1_ok (tab_ok W.lits_Check_1_ok noSpec_ok)))))))))) Tryd.func140 (by kernel_rfl) rfl (by kernel_rfl) (by decide) (fun x σ => by kernel_rfl)
theorem W.slices_ContainsFunc_int_int_ok : SpecOk Tryd.prog 7 110 W.slices_ContainsFunc_int_int :=
  specOk_eff (an := .z) (calls := (tab 140 W.slices_IndexFunc_int_int noSpec)) 9 mixed (tab_ok W.slices_IndexFunc_int_int_ok noSpec_ok) Tryd.func110 (by kernel_rfl) rfl (by kernel_rfl) (by decide) (fun x σ => by kernel_rfl)
theorem W.lits_Check_ok : SpecOk Tryd.prog 7 89 W.lits_Check :=
  specOk_eff (an := (.s .z (.s .z (.s (.s .z (.l [(3, .I .i64), (11, .I .i64)] [(.exit 0, [(3, .I .i64)])] .z)) (.s (.s (.j [(.normal, [(37, .B)])] .z) .z) (.s (.s .z (.l [(42, .I .i64)] [(.exit 2, []), (.ret, [(2, .V)])] .z)) .z)))))) (calls := (tab 110 W.slices_ContainsFunc_int_int noSpec)) 56 mixed (tab_ok W.slices_ContainsFunc_int_int_ok noSpec_ok) Tryd.func89 (by kernel_rfl) rfl (by kernel_rfl) (by decide) (fun x σ => by kernel_rfl)
theorem W.slices_Grow_int_int_ok : SpecOk Tryd.prog 7 95 W.slices_Grow_int_int :=
  specOk_eff (an := (.s .z (.s (.s .z (.j [(.normal, [])] .z)) (.s (.s .z (.s .z (.j [(.normal, [(0, .V)])] .z))) .z)))) (calls := noSpec) 27 mixed noSpec_ok Tryd.func95 (by kernel_rfl) rfl (by kernel_rfl) (by decide) (fun x σ => by kernel_rfl)
theorem W.slices_Concat_int_int_ok : SpecOk Tryd.prog 7 72 W.slices_Concat_int_int :=
  specOk_eff (an := (.s .z (.s .z (.s (.s .z (.l [(3, .I .i64), (11, .I .i64)] [(.exit 0, [(3, .I .i64)])] (.s .z (.s .z (.s (.j [(.normal, [(3, .I .i64)])] .z) .z))))) (.s .z (.s (.s .z (.l [(6, .V), (27, .I .i64)] [(.exit 2, [(6, .V)])] .z)) .z)))))) (calls := (tab 95 W.slices_Grow_int_int noSpec)) 36 mixed (tab_ok W.slices_Grow_int_int_ok noSpec_ok) Tryd.func72 (by kernel_rfl) rfl (by kernel_rfl) (by decide) (fun x σ => by kernel_rfl)
theorem W.slices_Clone_int_int_ok : SpecOk Tryd.prog 7 73 W.slices_Clone_int_int :=
  specOk_eff (an := .z) (calls := noSpec) 8 mixed noSpec_ok Tryd.func73 (by kernel_rfl) rfl (by kernel_rfl) (by decide) (fun x σ => by kernel_rfl)
theorem W.skolemref_Bare_ok : SpecOk Tryd.prog 7 29 W.skolemref_Bare :=
  specOk_eff (an := .z) (calls := noSpec) 5 mixed noSpec_ok Tryd.func29 (by kernel_rfl) rfl (by kernel_rfl) (by decide) (fun x σ => by kernel_rfl)
theorem W.skolemref_None_ok : SpecOk Tryd.prog 7 82 W.skolemref_None :=
  specOk_eff (an := .z) (calls := noSpec) 2 mixed noSpec_ok Tryd.func82 (by kernel_rfl) rfl (by kernel_rfl) (by decide) (fun x σ => by kernel_rfl)
theorem W.skolemref_Placed_ok : SpecOk Tryd.prog 7 47 W.skolemref_Placed :=
  specOk_eff (an := .z) (calls := (tab 82 W.skolemref_None noSpec)) 11 mixed (tab_ok W.skolemref_None_ok noSpec_ok) Tryd.func47 (by kernel_rfl) rfl (by kernel_rfl) (by decide) (fun x σ => by kernel_rfl)
theorem W.skolemsee_sentinels_ok : SpecOk Tryd.prog 7 113 W.skolemsee_sentinels :=
  specOk_eff (an := .z) (calls := noSpec) 9 mixed noSpec_ok Tryd.func113 (by kernel_rfl) rfl (by kernel_rfl) (by decide) (fun x σ => by kernel_rfl)
theorem W.skolemsee_Alike_ok : SpecOk Tryd.prog 7 114 W.skolemsee_Alike :=
  specOk_pur (an := (.s .z (.s (.s (.j [(.normal, [(10, .B)])] .z) (.s (.s (.j [(.normal, [(4, .B)])] .z) .z) .z)) .z))) (calls := noSpec) 20 mixed noSpec_ok Tryd.func114 (by kernel_rfl) rfl (by kernel_rfl) (by decide) (fun x σ => by kernel_rfl)
theorem W.skolemsee_sentinel_ok : SpecOk Tryd.prog 7 91 W.skolemsee_sentinel :=
  specOk_eff (an := (.s .z (.s .z (.s (.s .z (.l [(4, .I .i64)] [(.exit 0, []), (.ret, [(2, .I .i64)])] .z)) .z)))) (calls := (tab 114 W.skolemsee_Alike (tab 113 W.skolemsee_sentinels noSpec))) 20 mixed (tab_ok W.skolemsee_Alike_ok (tab_ok W.skolemsee_sentinels_ok noSpec_ok)) Tryd.func91 (by kernel_rfl) rfl (by kernel_rfl) (by decide) (fun x σ => by kernel_rfl)
theorem W.skolemsee_Fault_ok : SpecOk Tryd.prog 7 66 W.skolemsee_Fault :=
  specOk_eff (an := (.s .z (.s .z (.s .z (.s .z (.s (.s (.j [(.normal, [(26, .B)])] .z) .z) .z)))))) (calls := (tab 47 W.skolemref_Placed (tab 29 W.skolemref_Bare (tab 91 W.skolemsee_sentinel (tab 82 W.skolemref_None noSpec))))) 38 mixed (tab_ok W.skolemref_Placed_ok (tab_ok W.skolemref_Bare_ok (tab_ok W.skolemsee_sentinel_ok (tab_ok W.skolemref_None_ok noSpec_ok)))) Tryd.func66 (by kernel_rfl) rfl (by kernel_rfl) (by decide) (fun x σ => by kernel_rfl)
theorem W.skolemref_SameFault_ok : SpecOk Tryd.prog 7 65 W.skolemref_SameFault :=
  specOk_eff (an := (.s .z (.s (.j [(.normal, [(4, .B)])] .z) .z))) (calls := noSpec) 24 mixed noSpec_ok Tryd.func65 (by kernel_rfl) rfl (by kernel_rfl) (by decide) (fun x σ => by kernel_rfl)
theorem W.skolemsee_Same_ok : SpecOk Tryd.prog 7 19 W.skolemsee_Same :=
  specOk_eff (an := .z) (calls := (tab 65 W.skolemref_SameFault (tab 66 W.skolemsee_Fault noSpec))) 9 mixed (tab_ok W.skolemref_SameFault_ok (tab_ok W.skolemsee_Fault_ok noSpec_ok)) Tryd.func19 (by kernel_rfl) rfl (by kernel_rfl) (by decide) (fun x σ => by kernel_rfl)
theorem W.skolemworld_Number_ok : SpecOk Tryd.prog 7 28 W.skolemworld_Number :=
  specOk_pur (an := (.s .z (.s .z (.s (.s .z (.j [(.normal, [(5, .I .i64)])] .z)) .z)))) (calls := noSpec) 15 mixed noSpec_ok Tryd.func28 (by kernel_rfl) rfl (by kernel_rfl) (by decide) (fun x σ => by kernel_rfl)
theorem W.proof_at_ok : SpecOk Tryd.prog 7 118 W.proof_at :=
  specOk_eff (an := .z) (calls := noSpec) 10 mixed noSpec_ok Tryd.func118 (by kernel_rfl) rfl (by kernel_rfl) (by decide) (fun x σ => by kernel_rfl)
theorem W.proof_Check_ok : SpecOk Tryd.prog 7 96 W.proof_Check :=
  specOk_eff (an := (.s .z (.s .z (.s (.s .z (.l [(3, .I .i64), (12, .I .i64)] [(.exit 0, [(3, .I .i64)])] .z)) (.s .z (.s (.s .z (.l [(27, .I .i64)] [(.exit 2, []), (.ret, [(2, .V)])] (.s .z (.s .z (.s (.s .z (.s .z (.l [(35, .I .i64)] [(.exit 4, []), (.ret, [(2, .V)])] .z))) .z))))) .z)))))) (calls := (tab 118 W.proof_at (tab 81 W.lits_Is noSpec))) 47 mixed (tab_ok W.proof_at_ok (tab_ok W.lits_Is_ok noSpec_ok)) Tryd.func96 (by kernel_rfl) rfl (by kernel_rfl) (by decide) (fun x σ => by kernel_rfl)
theorem W.assign_Cut_ok : SpecOk Tryd.prog 7 119 W.assign_Cut :=
  specOk_pur (an := .z) (calls := noSpec) 6 mixed noSpec_ok Tryd.func119 (by kernel_rfl) rfl (by kernel_rfl) (by decide) (fun x σ => by kernel_rfl)
theorem W.rup_Base_right_ok : SpecOk Tryd.prog 7 100 W.rup_Base_right :=
  specOk_eff (an := .z) (calls := (tab 110 W.slices_ContainsFunc_int_int noSpec)) 9 mixed (tab_ok W.slices_ContainsFunc_int_int_ok noSpec_ok) Tryd.func100 (by kernel_rfl) rfl (by kernel_rfl) (by decide) (fun x σ => by kernel_rfl)
theorem W.slices_SortFunc_int_int_ok : SpecOk Tryd.prog 7 154 W.slices_SortFunc_int_int := specOk_sortF Tryd.sortsOrd Tryd.sortsNone ⟨Tryd.f154, Tryd.func154, by kernel_rfl, by kernel_rfl⟩
theorem W.slices_Compact_int_int_ok : SpecOk Tryd.prog 7 157 W.slices_Compact_int_int :=
  specOk_eff (an := (.s .z (.s .z (.s (.s .z (.l [(3, .I .i64)] [(.exit 0, []), (.ret, [(2, .V)])] (.s .z (.s (.s .z (.s (.s .z (.s (.s .z (.l [(3, .I .i64), (5, .I .i64)] [(.exit 2, [(3, .I .i64)])] (.s .z (.s (.j [(.normal, [(3, .I .i64)])] .z) .z)))) .z)) .z)) .z)))) .z)))) (calls := noSpec) 61 mixed noSpec_ok Tryd.func157 (by kernel_rfl) rfl (by kernel_rfl) (by decide) (fun x σ => by kernel_rfl)
theorem W.slices_Clip_int_int_ok : SpecOk Tryd.prog 7 156 W.slices_Clip_int_int :=
  specOk_pur (an := .z) (calls := noSpec) 9 mixed noSpec_ok Tryd.func156 (by kernel_rfl) rfl (by kernel_rfl) (by decide) (fun x σ => by kernel_rfl)
theorem W.lits_Norm_ok : SpecOk Tryd.prog 7 122 W.lits_Norm :=
  specOk_eff (an := (.s .z (.s .z (.s .z (.s .z (.s (.s .z (.l [(5, .I .i64)] [(.exit 0, []), (.ret, [(2, .V), (3, .B)])] .z)) .z)))))) (calls := (tab 67 W.lits_Var (tab 156 W.slices_Clip_int_int (tab 157 W.slices_Compact_int_int (tab 154 W.slices_SortFunc_int_int (tab 73 W.slices_Clone_int_int noSpec)))))) 33 mixed (tab_ok W.lits_Var_ok (tab_ok W.slices_Clip_int_int_ok (tab_ok W.slices_Compact_int_int_ok (tab_ok W.slices_SortFunc_int_int_ok (tab_ok W.slices_Clone_int_int_ok noSpec_ok))))) Tryd.func122 (by kernel_rfl) rfl (by kernel_rfl) (by decide) (fun x σ => by kernel_rfl)
theorem W.rup_Base_Add_ok : SpecOk Tryd.prog 7 99 W.rup_Base_Add :=
  specOk_eff (an := (.s .z (.s .z (.s .z (.s .z (.s .z (.s (.s .z (.l [(45, .I .i64)] [(.exit 0, [])] .z)) (.s (.s .z (.j [(.normal, [])] .z)) .z)))))))) (calls := (tab 122 W.lits_Norm (tab 100 W.rup_Base_right noSpec))) 84 mixed (tab_ok W.lits_Norm_ok (tab_ok W.rup_Base_right_ok noSpec_ok)) Tryd.func99 (by kernel_rfl) rfl (by kernel_rfl) (by decide) (fun x σ => by kernel_rfl)
theorem W.rup_New_ok : SpecOk Tryd.prog 7 97 W.rup_New :=
  specOk_eff (an := (.s .z (.s .z (.s (.s .z (.l [(16, .I .i64)] [(.exit 0, []), (.ret, [(4, .V), (5, .V)])] .z)) .z)))) (calls := (tab 99 W.rup_Base_Add (tab 119 W.assign_Cut noSpec))) 27 mixed (tab_ok W.rup_Base_Add_ok (tab_ok W.assign_Cut_ok noSpec_ok)) Tryd.func97 (by kernel_rfl) rfl (by kernel_rfl) (by decide) (fun x σ => by kernel_rfl)
theorem W.drat_begin_ok : SpecOk Tryd.prog 7 77 W.drat_begin :=
  specOk_eff (an := (.s .z (.s .z (.s .z (.s .z (.s (.s .z (.l [(9, .I .i64), (30, .I .i64)] [(.exit 0, [(9, .I .i64)])] (.s .z (.s .z (.s (.s .z (.s .z (.l [(9, .I .i64), (37, .I .i64)] [(.exit 2, [(9, .I .i64)])] .z))) .z))))) .z)))))) (calls := (tab 97 W.rup_New (tab 67 W.lits_Var (tab 96 W.proof_Check (tab 89 W.lits_Check noSpec))))) 57 mixed (tab_ok W.rup_New_ok (tab_ok W.lits_Var_ok (tab_ok W.proof_Check_ok (tab_ok W.lits_Check_ok noSpec_ok)))) Tryd.func77 (by kernel_rfl) rfl (by kernel_rfl) (by decide) (fun x σ => by kernel_rfl)
theorem W.assign_New_ok : SpecOk Tryd.prog 7 126 W.assign_New :=
  specOk_eff (an := .z) (calls := (tab 119 W.assign_Cut noSpec)) 9 mixed (tab_ok W.assign_Cut_ok noSpec_ok) Tryd.func126 (by kernel_rfl) rfl (by kernel_rfl) (by decide) (fun x σ => by kernel_rfl)
theorem W.rup_Base_closure_ok : SpecOk Tryd.prog 7 102 W.rup_Base_closure :=
  specOk_eff (an := (.s .z (.s .z (.s .z (.s .z (.s .z (.s (.s .z (.l [(26, .I .i64)] [(.exit 0, []), (.ret, [(4, .V), (5, .B)])] .z)) (.s (.s .z (.l [(40, .I .i64)] [(.exit 2, []), (.ret, [(4, .V), (5, .B)])] .z)) (.s (.l [] [(.exit 4, []), (.ret, [(4, .V), (5, .B)])] (.s .z (.s .z (.s .z (.s .z (.l [(65, .I .i64)] [(.exit 6, []), (.ret, [(4, .V), (5, .B)])] .z)))))) .z))))))))) (calls := (tab 130 W.rup_Base_closure_2 (tab 127 W.rup_Base_closure_1 (tab 126 W.assign_New noSpec)))) 75 mixed (tab_ok W.rup_Base_closure_2_ok (tab_ok W.rup_Base_closure_1_ok (tab_ok W.assign_New_ok noSpec_ok))) Tryd.func102 (by kernel_rfl) rfl (by kernel_rfl) (by decide) (fun x σ => by kernel_rfl)
theorem W.rup_Base_Implied_ok : SpecOk Tryd.prog 7 80 W.rup_Base_Implied :=
  specOk_eff (an := (.s .z (.s .z (.s .z (.s (.s .z (.l [(5, .V), (19, .I .i64)] [(.exit 0, [(5, .V)])] .z)) .z))))) (calls := (tab 102 W.rup_Base_closure (tab 100 W.rup_Base_right noSpec))) 37 mixed (tab_ok W.rup_Base_closure_ok (tab_ok W.rup_Base_right_ok noSpec_ok)) Tryd.func80 (by kernel_rfl) rfl (by kernel_rfl) (by decide) (fun x σ => by kernel_rfl)
theorem W.slices_DeleteFunc_int_int_ok : SpecOk Tryd.prog 7 124 W.slices_DeleteFunc_int_int :=
  specOk_eff (an := (.s .z (.s .z (.s .z (.s (.s .z (.l [(5, .I .i64), (6, .I .i64)] [(.exit 0, [(5, .I .i64)])] (.s .z (.s (.j [(.normal, [(5, .I .i64)])] .z) .z)))) .z))))) (calls := (tab 138 W.sat_Engine_Add_1 (tab 160 W.prop_Prop_Add_1 (tab 137 W.incr_Solver_may_1 (tab 153 W.rup_gone_1 (tab 125 W.rup_without_1 (tab 130 W.rup_Base_closure_2 (tab 127 W.rup_Base_closure_1 (tab 155 W.lits_order (tab 123 W.rup_Base_right_1 (tab 111 W.lits_Check_1 (tab 140 W.slices_IndexFunc_int_int noSpec)))))))))))) 42 mixed (tab_ok W.sat_Engine_Add_1_ok (tab_ok W.prop_Prop_Add_1_ok (tab_ok W.incr_Solver_may_1_ok (tab_ok W.rup_gone_1_ok (tab_ok W.rup_without_1_ok (tab_ok W.rup_Base_closure_2_ok (tab_ok W.rup_Base_closure_1_ok (tab_ok W.lits_order_ok (tab_ok W.rup_Base_right_1_ok (tab_ok W.lits_Check_1_ok (tab_ok W.slices_IndexFunc_int_int_ok noSpec_ok))))))))))) Tryd.func124 (by kernel_rfl) rfl (by kernel_rfl) (by decide) (fun x σ => by kernel_rfl)
theorem W.rup_without_ok : SpecOk Tryd.prog 7 101 W.rup_without :=
  specOk_eff (an := .z) (calls := (tab 124 W.slices_DeleteFunc_int_int (tab 73 W.slices_Clone_int_int noSpec))) 9 mixed (tab_ok W.slices_DeleteFunc_int_int_ok (tab_ok W.slices_Clone_int_int_ok noSpec_ok)) Tryd.func101 (by kernel_rfl) rfl (by kernel_rfl) (by decide) (fun x σ => by kernel_rfl)
theorem W.rup_Base_Blocked_ok : SpecOk Tryd.prog 7 79 W.rup_Base_Blocked :=
  specOk_eff (an := (.s .z (.s .z (.s (.s (.j [(.normal, [(18, .B)])] .z) .z) (.s (.s .z (.l [(29, .I .i64)] [(.exit 0, []), (.ret, [(4, .B)])] .z)) .z))))) (calls := (tab 72 W.slices_Concat_int_int (tab 101 W.rup_without (tab 100 W.rup_Base_right (tab 80 W.rup_Base_Implied noSpec))))) 52 mixed (tab_ok W.slices_Concat_int_int_ok (tab_ok W.rup_without_ok (tab_ok W.rup_Base_right_ok (tab_ok W.rup_Base_Implied_ok noSpec_ok)))) Tryd.func79 (by kernel_rfl) rfl (by kernel_rfl) (by decide) (fun x σ => by kernel_rfl)
theorem W.slices_Equal_int_int_ok : SpecOk Tryd.prog 7 152 W.slices_Equal_int_int :=
  specOk_pur (an := (.s .z (.s .z (.s (.s .z (.l [(13, .I .i64)] [(.exit 0, []), (.ret, [(4, .B)])] .z)) .z)))) (calls := noSpec) 26 mixed noSpec_ok Tryd.func152 (by kernel_rfl) rfl (by kernel_rfl) (by decide) (fun x σ => by kernel_rfl)
theorem W.rup_Base_find_ok : SpecOk Tryd.prog 7 120 W.rup_Base_find :=
  specOk_eff (an := (.s .z (.s .z (.s .z (.s (.s .z (.j [(.normal, [(7, .V)])] .z)) (.s (.s .z (.l [(32, .I .i64)] [(.exit 0, []), (.ret, [(4, .I .i64)])] (.s .z (.s .z (.s (.s .z (.s (.j [(.normal, [(53, .B)])] .z) .z)) .z))))) .z)))))) (calls := (tab 152 W.slices_Equal_int_int (tab 122 W.lits_Norm noSpec))) 56 mixed (tab_ok W.slices_Equal_int_int_ok (tab_ok W.lits_Norm_ok noSpec_ok)) Tryd.func120 (by kernel_rfl) rfl (by kernel_rfl) (by decide) (fun x σ => by kernel_rfl)
theorem W.rup_gone_ok : SpecOk Tryd.prog 7 121 W.rup_gone :=
  specOk_eff (an := .z) (calls := (tab 124 W.slices_DeleteFunc_int_int noSpec)) 8 mixed (tab_ok W.slices_DeleteFunc_int_int_ok noSpec_ok) Tryd.func121 (by kernel_rfl) rfl (by kernel_rfl) (by decide) (fun x σ => by kernel_rfl)
theorem W.rup_Base_Drop_ok : SpecOk Tryd.prog 7 98 W.rup_Base_Drop :=
  specOk_eff (an := (.s .z (.s .z (.s .z (.s (.s .z (.l [(21, .I .i64)] [(.exit 0, [])] .z)) .z))))) (calls := (tab 121 W.rup_gone (tab 120 W.rup_Base_find noSpec))) 67 mixed (tab_ok W.rup_gone_ok (tab_ok W.rup_Base_find_ok noSpec_ok)) Tryd.func98 (by kernel_rfl) rfl (by kernel_rfl) (by decide) (fun x σ => by kernel_rfl)
theorem W.pace_New_1_ok : SpecOk Tryd.prog 7 104 W.pace_New_1 :=
  specOk_eff (an := .z) (calls := (tab 73 W.slices_Clone_int_int noSpec)) 6 mixed (tab_ok W.slices_Clone_int_int_ok noSpec_ok) Tryd.func104 (by kernel_rfl) rfl (by kernel_rfl) (by decide) (fun x σ => by kernel_rfl)
theorem W.drat_steps_ok : SpecOk Tryd.prog 7 78 W.drat_steps :=
  specOk_eff (an := (.s .z (.s (.s .z (.l [(11, .I .i64)] [(.exit 0, []), (.ret, [(6, .V)])] (.s .z (.s .z (.s (.j [(.normal, []), (.ret, [(6, .V)])] (.s .z (.s (.s (.j [(.normal, [(23, .B)])] .z) .z) (.s (.j [(.normal, [(39, .B)])] .z) .z)))) .z))))) .z))) (calls := (tab 99 W.rup_Base_Add (tab 104 W.pace_New_1 (tab 80 W.rup_Base_Implied (tab 79 W.rup_Base_Blocked (tab 98 W.rup_Base_Drop noSpec)))))) 46 mixed (tab_ok W.rup_Base_Add_ok (tab_ok W.pace_New_1_ok (tab_ok W.rup_Base_Implied_ok (tab_ok W.rup_Base_Blocked_ok (tab_ok W.rup_Base_Drop_ok noSpec_ok))))) Tryd.func78 (by kernel_rfl) rfl (by kernel_rfl) (by decide) (fun x σ => by kernel_rfl)
theorem W.drat_Refute_ok : SpecOk Tryd.prog 7 41 W.drat_Refute :=
  specOk_eff (an := .z) (calls := (tab 80 W.rup_Base_Implied (tab 78 W.drat_steps (tab 77 W.drat_begin noSpec)))) 31 mixed (tab_ok W.rup_Base_Implied_ok (tab_ok W.drat_steps_ok (tab_ok W.drat_begin_ok noSpec_ok))) Tryd.func41 (by kernel_rfl) rfl (by kernel_rfl) (by decide) (fun x σ => by kernel_rfl)
theorem W.skolemlaw22_first_ok : SpecOk Tryd.prog 7 36 W.skolemlaw22_first :=
  specOk_eff (an := (.s .z (.s .z (.s (.j [(.normal, [(0, .B)])] .z) .z)))) (calls := (tab 41 W.drat_Refute noSpec)) 14 mixed (tab_ok W.drat_Refute_ok noSpec_ok) Tryd.func36 (by kernel_rfl) rfl (by kernel_rfl) (by decide) (fun x σ => by kernel_rfl)
theorem W.drat_Derive_ok : SpecOk Tryd.prog 7 44 W.drat_Derive :=
  specOk_eff (an := (.s .z (.s .z (.s .z (.s .z (.s (.s .z (.l [(33, .I .i64)] [(.exit 0, []), (.ret, [(6, .V)])] .z)) .z)))))) (calls := (tab 80 W.rup_Base_Implied (tab 81 W.lits_Is (tab 78 W.drat_steps (tab 77 W.drat_begin noSpec))))) 48 mixed (tab_ok W.rup_Base_Implied_ok (tab_ok W.lits_Is_ok (tab_ok W.drat_steps_ok (tab_ok W.drat_begin_ok noSpec_ok)))) Tryd.func44 (by kernel_rfl) rfl (by kernel_rfl) (by decide) (fun x σ => by kernel_rfl)
theorem W.skolemref_Steps_ok : SpecOk Tryd.prog 7 46 W.skolemref_Steps :=
  specOk_eff (an := (.s .z (.s .z (.s (.s .z (.l [(3, .V), (4, .I .i64)] [(.exit 0, [(3, .V)])] .z)) .z)))) (calls := noSpec) 22 mixed noSpec_ok Tryd.func46 (by kernel_rfl) rfl (by kernel_rfl) (by decide) (fun x σ => by kernel_rfl)
theorem W.skolemlaw22_DratPlaces_ok : SpecOk Tryd.prog 7 9 W.skolemlaw22_DratPlaces :=
  specOk_eff (an := (.s .z (.s .z (.s .z (.s .z (.s .z (.s .z (.s (.s .z (.l [(9, .I .i64)] [(.exit 0, [])] .z)) (.s .z (.s (.s .z (.l [(10, .V), (11, .I .i64)] [(.exit 2, [(10, .V)])] .z)) (.s .z (.s (.s .z (.j [(.normal, [])] .z)) (.s .z (.s .z (.s .z (.s .z (.s .z (.s .z (.s (.j [(.normal, [(6, .B)])] .z) .z))))))))))))))))))) (calls := (tab 44 W.drat_Derive (tab 29 W.skolemref_Bare (tab 19 W.skolemsee_Same (tab 47 W.skolemref_Placed (tab 41 W.drat_Refute (tab 46 W.skolemref_Steps (tab 28 W.skolemworld_Number (tab 36 W.skolemlaw22_first noSpec))))))))) 139 mixed (tab_ok W.drat_Derive_ok (tab_ok W.skolemref_Bare_ok (tab_ok W.skolemsee_Same_ok (tab_ok W.skolemref_Placed_ok (tab_ok W.drat_Refute_ok (tab_ok W.skolemref_Steps_ok (tab_ok W.skolemworld_Number_ok (tab_ok W.skolemlaw22_first_ok noSpec_ok)))))))) Tryd.func9 (by kernel_rfl) rfl (by kernel_rfl) (by decide) (fun x σ => by kernel_rfl)
end Go.Proofs.YtgneblbblihaoaaDoor.A
