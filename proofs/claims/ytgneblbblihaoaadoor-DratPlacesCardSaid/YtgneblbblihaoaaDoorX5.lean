/- Parts of the proof, one behind another. -/
import Derived.Test.YtgneblbblihaoaaDoorProg
import Derived.Test.YtgneblbblihaoaaDoorX0
set_option linter.all false
set_option linter.unusedVariables false
namespace Go.Proofs.YtgneblbblihaoaaDoor.A
open Go
noncomputable def S.lits_Is (l_ : Int) (vars_ : Int) (σ : Heap) : Option Bool :=
  (cond (l_ != 0) (
  cond (decide (l_ ≥ (IntKind.i64.wrap (0 - vars_)))) (
  some (decide (l_ ≤ vars_)))
  (some false))
  (some false)).bind fun r1 =>
  some r1
noncomputable def W.lits_Is : Spec := .pur [.B] fun args σ => packs args [.I .i64, .I .i64] fun x => S.lits_Is x.1 x.2 σ


noncomputable def S.lits_Check_1 (l_ : Int) (p1 : AVal) (σ : Heap) : Option Bool :=
  fld p1 0 fun a1 =>
  ld σ a1 (.I .i64) fun n2 =>
  (S.lits_Is l_ n2 σ).bind fun r3 =>
  some (!r3)
noncomputable def W.lits_Check_1 : Spec := .pur [.B] fun args σ => packs args [.I .i64, .V] fun x => S.lits_Check_1 x.1 x.2 σ


noncomputable def S.rup_Base_right_1 (l_ : Int) (p1 : AVal) (σ : Heap) : Option Bool :=
  ld σ p1 (.V) fun v1 =>
  nilck v1 (
  fld v1 0 fun a2 =>
  ld σ a2 (.I .i64) fun n3 =>
  (S.lits_Is l_ n3 σ).bind fun r4 =>
  some (!r4))
noncomputable def W.rup_Base_right_1 : Spec := .pur [.B] fun args σ => packs args [.I .i64, .V] fun x => S.rup_Base_right_1 x.1 x.2 σ


noncomputable def S.lits_Var (l_ : Int) (σ : Heap) : Option Int :=
  some (if (IntKind.i64.wrap (0 - l_)) > l_ then (IntKind.i64.wrap (0 - l_)) else l_)
noncomputable def W.lits_Var : Spec := .pur [.I .i64] fun args σ => packs args [.I .i64] fun x => S.lits_Var x σ


noncomputable def S.cmp_isNaN_int (x_ : Int) (σ : Heap) : Option Bool :=
  some (x_ != x_)
noncomputable def W.cmp_isNaN_int : Spec := .pur [.B] fun args σ => packs args [.I .i64] fun x => S.cmp_isNaN_int x σ


noncomputable def S.cmp_Compare_int (x_ : Int) (y_ : Int) (σ : Heap) : Option Int :=
  (S.cmp_isNaN_int x_ σ).bind fun r1 =>
  (S.cmp_isNaN_int y_ σ).bind fun r2 =>
  cond r1 (
  cond r2 (
  some 0)
  (some (-1)))
  (cond r2 (
  some 1)
  (cond (decide (x_ < y_)) (
  some (-1))
  (cond (decide (x_ > y_)) (
  some 1)
  (some 0))))
noncomputable def W.cmp_Compare_int : Spec := .pur [.I .i64] fun args σ => packs args [.I .i64, .I .i64] fun x => S.cmp_Compare_int x.1 x.2 σ


noncomputable def S.cmp_Or_int.b0 (p2 : AVal) (p3 : Int) (σ0 : Heap) : Int → Option (Int ⊕ (Unit ⊕ Int)) := fun x4 =>
  cond (decide (x4 < p3)) (
  ixA σ0 p2 1 x4 fun a6 =>
  ld σ0 a6 (.I .i64) fun n7 =>
  cond (n7 != 0) (
  some (.inr (.inr n7)))
  (some (.inl (IntKind.i64.wrap (x4 + 1)))))
  (some (.inr (.inl ())))
noncomputable def S.cmp_Or_int (vals_ : AVal) (σ : Heap) : Option Int :=
  lenV vals_ fun n1 =>
  (loopP (S.cmp_Or_int.b0 vals_ n1 σ) 0).bind fun r8 =>
  (match r8 with
 | .inl y9 => some 0
 | .inr y10 => some y10)
noncomputable def W.cmp_Or_int : Spec := .pur [.I .i64] fun args σ => packs args [.V] fun x => S.cmp_Or_int x σ


noncomputable def S.lits_order (a_ : Int) (b_ : Int) (σ : Heap) : Option (Int × Heap) :=
  (S.lits_Var a_ σ).bind fun r1 =>
  (S.lits_Var b_ σ).bind fun r2 =>
  (S.cmp_Compare_int r1 r2 σ).bind fun r3 =>
  (S.cmp_Compare_int a_ b_ σ).bind fun r4 =>
  newK σ 1 [(.int .i64 r3), (.int .i64 r4)] fun l5 σ6 =>
  (S.cmp_Or_int (.sl l5 0 2 none) σ6).bind fun r7 =>
  some (r7, σ6)
noncomputable def W.lits_order : Spec := .eff [.I .i64] fun args σ => packs args [.I .i64, .I .i64] fun x => S.lits_order x.1 x.2 σ


noncomputable def S.assign_Assign_Value (a_ : AVal) (l_ : Int) (σ : Heap) : Option Int :=
  nilck a_ (
  fld a_ 0 fun a1 =>
  ld σ a1 (.V) fun v2 =>
  lenV v2 fun n3 =>
  (S.lits_Is l_ (IntKind.i64.wrap (n3 - 1)) σ).bind fun r4 =>
  cond (!r4) (
  some 0)
  (nilck a_ (
  fld a_ 0 fun a5 =>
  ld σ a5 (.V) fun v6 =>
  (S.lits_Var l_ σ).bind fun r7 =>
  ixA σ v6 1 r7 fun a8 =>
  ld σ a8 (.I .i8) fun n9 =>
  (cond (decide (l_ < 0)) (
  some ((IntKind.i64.wrap n9) != 0))
  (some false)).bind fun r10 =>
  (cond r10 (
  some (IntKind.i64.wrap (3 - (IntKind.i64.wrap n9))))
  (some (IntKind.i64.wrap n9))).bind fun r11 =>
  some r11)))
noncomputable def W.assign_Assign_Value : Spec := .pur [.I .i64] fun args σ => packs args [.V, .I .i64] fun x => S.assign_Assign_Value x.1 x.2 σ


noncomputable def S.assign_Assign_Set (a_ : AVal) (l_ : Int) (σ : Heap) : Option (Bool × Heap) :=
  (nilck a_ (
  fld a_ 0 fun a1 =>
  ld σ a1 (.V) fun v2 =>
  lenV v2 fun n3 =>
  (S.lits_Is l_ (IntKind.i64.wrap (n3 - 1)) σ).bind fun r4 =>
  cond (!r4) (
  some true)
  ((S.assign_Assign_Value a_ l_ σ).bind fun r5 =>
  some (r5 == 2)))).bind fun r6 =>
  cond r6 (
  some (false, σ))
  ((cond (decide (l_ > 0)) (
  nilck a_ (
  fld a_ 0 fun a7 =>
  ld σ a7 (.V) fun v8 =>
  ixA σ v8 1 l_ fun a9 =>
  stC σ a9 [(.int .i8 1)] fun σ10 =>
  some ((), σ10)))
  (nilck a_ (
  fld a_ 0 fun a11 =>
  ld σ a11 (.V) fun v12 =>
  ixA σ v12 1 (IntKind.i64.wrap (0 - l_)) fun a13 =>
  stC σ a13 [(.int .i8 2)] fun σ14 =>
  some ((), σ14)))).bind fun r15 =>
  some (true, r15.2))
noncomputable def W.assign_Assign_Set : Spec := .eff [.B] fun args σ => packs args [.V, .I .i64] fun x => S.assign_Assign_Set x.1 x.2 σ


noncomputable def S.rup_Base_closure_1 (l_ : Int) (p1 : AVal) (p2 : AVal) (σ : Heap) : Option (Bool × Heap) :=
  ld σ p1 (.V) fun v1 =>
  (S.assign_Assign_Value v1 l_ σ).bind fun r2 =>
  cond (r2 == 1) (
  some (true, σ))
  (ld σ p2 (.V) fun v3 =>
  newK σ 1 [(.int .i64 l_)] fun l4 σ5 =>
  appS σ5 1 8 v3 (.sl l4 0 1 none) fun v6 σ7 =>
  scal v6 (
  stC σ7 p2 [v6] fun σ8 =>
  ld σ8 p1 (.V) fun v9 =>
  (S.assign_Assign_Set v9 l_ σ8).bind fun r10 =>
  some (r10.1, r10.2)))
noncomputable def W.rup_Base_closure_1 : Spec := .eff [.B] fun args σ => packs args [.I .i64, .V, .V] fun x => S.rup_Base_closure_1 x.1 x.2.1 x.2.2 σ


noncomputable def S.assign_Assign_Clause.b0 (p2 : AVal) (p3 : AVal) (p4 : Int) (σ0 : Heap) : (Int × Int × Int × Int) → Option ((Int × Int × Int × Int) ⊕ ((Int × Int × Int))) := fun x5 =>
  cond (decide (x5.2.2.2 < p4)) (
  (ixA σ0 p3 1 x5.2.2.2 fun a7 =>
  ld σ0 a7 (.I .i64) fun n8 =>
  (S.assign_Assign_Value p2 n8 σ0).bind fun r9 =>
  cond (r9 == 2) (
  some (x5.1, x5.2.1, x5.2.2.1))
  ((cond (r9 == 1) (
  some 1)
  (cond (x5.2.2.1 == 2) (
  some 0)
  (some x5.2.2.1))).bind fun r10 =>
  (cond (x5.2.1 == 0) (
  some true)
  (some (n8 != x5.1))).bind fun r11 =>
  cond r11 (
  some (n8, (IntKind.i64.wrap (x5.2.1 + 1)), r10))
  (some (x5.1, x5.2.1, r10)))).bind fun r12 =>
  some (.inl (r12.1, r12.2.1, r12.2.2, (IntKind.i64.wrap (x5.2.2.2 + 1)))))
  (some (.inr (x5.1, x5.2.1, x5.2.2.1)))
noncomputable def S.assign_Assign_Clause (a_ : AVal) (c_ : AVal) (σ : Heap) : Option (Int × Int) :=
  lenV c_ fun n1 =>
  (loopP (S.assign_Assign_Clause.b0 a_ c_ n1 σ) (0, 0, 2, 0)).bind fun r13 =>
  (cond (r13.2.1 != 1) (
  some true)
  (some (r13.2.2 != 0))).bind fun r14 =>
  (cond r14 (
  some 0)
  (some r13.1)).bind fun r15 =>
  some (r13.2.2, r15)
noncomputable def W.assign_Assign_Clause : Spec := .pur [.I .i64, .I .i64] fun args σ => packs args [.V, .V] fun x => S.assign_Assign_Clause x.1 x.2 σ


noncomputable def S.rup_Base_closure_2.T : FuncId → Option Spec := (tab 127 W.rup_Base_closure_1 (tab 131 W.assign_Assign_Clause noSpec))
noncomputable def S.rup_Base_closure_2 (id_ : Int) (p1 : AVal) (p2 : AVal) (p3 : AVal) (σ : Heap) : Option (Bool × Heap) :=
  ld σ p1 (.V) fun v1 =>
  ld σ p2 (.V) fun v2 =>
  nilck v2 (
  fld v2 1 fun a3 =>
  ld σ a3 (.V) fun v4 =>
  ixA σ v4 1 id_ fun a5 =>
  ld σ a5 (.V) fun v6 =>
  (S.assign_Assign_Clause v1 v6 σ).bind fun r7 =>
  (cond (r7.1 != 2) (
  cond (r7.2 == 0) (
  some (true, σ))
  (ld σ p3 (.V) fun v8 =>
  callV S.rup_Base_closure_2.T v8 [(.int .i64 r7.2)] σ fun r9 σ10 =>
  asK (.B) r9 fun b11 =>
  some (b11, σ10)))
  (some (false, σ))).bind fun r12 =>
  some (r12.1, r12.2))
noncomputable def W.rup_Base_closure_2 : Spec := .eff [.B] fun args σ => packs args [.I .i64, .V, .V, .V] fun x => S.rup_Base_closure_2 x.1 x.2.1 x.2.2.1 x.2.2.2 σ


noncomputable def S.rup_without_1 (x_ : Int) (p1 : AVal) (σ : Heap) : Option Bool :=
  ld σ p1 (.I .i64) fun n1 =>
  some (x_ == n1)
noncomputable def W.rup_without_1 : Spec := .pur [.B] fun args σ => packs args [.I .i64, .V] fun x => S.rup_without_1 x.1 x.2 σ


noncomputable def S.rup_gone_1 (x_ : Int) (p1 : AVal) (σ : Heap) : Option Bool :=
  ld σ p1 (.I .i64) fun n1 =>
  some (x_ == n1)
noncomputable def W.rup_gone_1 : Spec := .pur [.B] fun args σ => packs args [.I .i64, .V] fun x => S.rup_gone_1 x.1 x.2 σ


noncomputable def S.incr_Solver_may_1 (x_ : Int) (p1 : AVal) (σ : Heap) : Option Bool :=
  ld σ p1 (.V) fun v1 =>
  nilck v1 (
  fld v1 1 fun a2 =>
  fld a2 0 fun a3 =>
  ld σ a3 (.I .i64) fun n4 =>
  (S.lits_Is x_ n4 σ).bind fun r5 =>
  some (!r5))
noncomputable def W.incr_Solver_may_1 : Spec := .pur [.B] fun args σ => packs args [.I .i64, .V] fun x => S.incr_Solver_may_1 x.1 x.2 σ


noncomputable def S.assign_Assign_Vars (a_ : AVal) (σ : Heap) : Option Int :=
  nilck a_ (
  fld a_ 0 fun a1 =>
  ld σ a1 (.V) fun v2 =>
  lenV v2 fun n3 =>
  some (IntKind.i64.wrap (n3 - 1)))
noncomputable def W.assign_Assign_Vars : Spec := .pur [.I .i64] fun args σ => packs args [.V] fun x => S.assign_Assign_Vars x σ


noncomputable def S.prop_Prop_Add_1 (x_ : Int) (p1 : AVal) (σ : Heap) : Option Bool :=
  ld σ p1 (.V) fun v1 =>
  nilck v1 (
  fld v1 0 fun a2 =>
  ld σ a2 (.V) fun v3 =>
  (S.assign_Assign_Vars v3 σ).bind fun r4 =>
  (S.lits_Is x_ r4 σ).bind fun r5 =>
  some (!r5))
noncomputable def W.prop_Prop_Add_1 : Spec := .pur [.B] fun args σ => packs args [.I .i64, .V] fun x => S.prop_Prop_Add_1 x.1 x.2 σ


noncomputable def S.prop_Prop_Vars (p_ : AVal) (σ : Heap) : Option Int :=
  nilck p_ (
  fld p_ 0 fun a1 =>
  ld σ a1 (.V) fun v2 =>
  (S.assign_Assign_Vars v2 σ).bind fun r3 =>
  some r3)
noncomputable def W.prop_Prop_Vars : Spec := .pur [.I .i64] fun args σ => packs args [.V] fun x => S.prop_Prop_Vars x σ


noncomputable def S.sat_Engine_Add_1 (l_ : Int) (p1 : AVal) (σ : Heap) : Option Bool :=
  ld σ p1 (.V) fun v1 =>
  nilck v1 (
  fld v1 0 fun a2 =>
  ld σ a2 (.V) fun v3 =>
  (S.prop_Prop_Vars v3 σ).bind fun r4 =>
  (S.lits_Is l_ r4 σ).bind fun r5 =>
  some (!r5))
noncomputable def W.sat_Engine_Add_1 : Spec := .pur [.B] fun args σ => packs args [.I .i64, .V] fun x => S.sat_Engine_Add_1 x.1 x.2 σ


noncomputable def S.slices_IndexFunc_int_int.T : FuncId → Option Spec := (tab 138 W.sat_Engine_Add_1 (tab 160 W.prop_Prop_Add_1 (tab 137 W.incr_Solver_may_1 (tab 153 W.rup_gone_1 (tab 125 W.rup_without_1 (tab 130 W.rup_Base_closure_2 (tab 127 W.rup_Base_closure_1 (tab 155 W.lits_order (tab 123 W.rup_Base_right_1 (tab 111 W.lits_Check_1 noSpec))))))))))
noncomputable def S.slices_IndexFunc_int_int.b0 (p2 : AVal) (p3 : AVal) (p4 : Int) : Int → Heap → Option ((Int ⊕ (Unit ⊕ Int)) × Heap) := fun x5 σ6 =>
  cond (decide (x5 < p4)) (
  ixA σ6 p2 1 x5 fun a7 =>
  ld σ6 a7 (.I .i64) fun n8 =>
  callV S.slices_IndexFunc_int_int.T p3 [(.int .i64 n8)] σ6 fun r9 σ10 =>
  asK (.B) r9 fun b11 =>
  cond b11 (
  some (.inr (.inr x5), σ10))
  (some (.inl (IntKind.i64.wrap (x5 + 1)), σ10)))
  (some (.inr (.inl ()), σ6))
noncomputable def S.slices_IndexFunc_int_int (s_ : AVal) (f_ : AVal) (σ : Heap) : Option (Int × Heap) :=
  lenV s_ fun n1 =>
  (loopW (S.slices_IndexFunc_int_int.b0 s_ f_ n1) 0 σ).bind fun r12 =>
  (match r12.1 with
 | .inl y13 => some ((-1), r12.2)
 | .inr y14 => some (y14, r12.2))
noncomputable def W.slices_IndexFunc_int_int : Spec := .eff [.I .i64] fun args σ => packs args [.V, .V] fun x => S.slices_IndexFunc_int_int x.1 x.2 σ


noncomputable def S.slices_ContainsFunc_int_int (s_ : AVal) (f_ : AVal) (σ : Heap) : Option (Bool × Heap) :=
  (S.slices_IndexFunc_int_int s_ f_ σ).bind fun r1 =>
  some ((decide (r1.1 ≥ 0)), r1.2)
noncomputable def W.slices_ContainsFunc_int_int : Spec := .eff [.B] fun args σ => packs args [.V, .V] fun x => S.slices_ContainsFunc_int_int x.1 x.2 σ


noncomputable def S.lits_Check.b0 (p6 : AVal) (p7 : AVal) (p8 : Int) (σ0 : Heap) : (Int × Int) → Option ((Int × Int) ⊕ Int) := fun x9 =>
  cond (decide (x9.2 < p8)) (
  ixA σ0 p7 1 x9.2 fun a11 =>
  ld σ0 a11 (.V) fun v12 =>
  lenV v12 fun n13 =>
  some (.inl ((IntKind.i64.wrap (x9.1 + n13)), (IntKind.i64.wrap (x9.2 + 1)))))
  (some (.inr x9.1))
noncomputable def S.lits_Check.b1 (p23 : AVal) (p24 : AVal) (p25 : Int) : Int → Heap → Option ((Int ⊕ (Unit ⊕ AVal)) × Heap) := fun x26 σ27 =>
  cond (decide (x26 < p25)) (
  ixA σ27 p24 1 x26 fun a28 =>
  ld σ27 a28 (.V) fun v29 =>
  (S.slices_ContainsFunc_int_int v29 (.fn (.func 111) [] [p23]) σ27).bind fun r30 =>
  cond r30.1 (
  ld r30.2 (.ptr 2 0) (.V) fun v31 =>
  scal v31 (
  newK r30.2 2 [(.int .i64 x26), v31] fun l32 σ33 =>
  some (.inr (.inr (.ifc 135 (.ptr l32 0))), σ33)))
  (some (.inl (IntKind.i64.wrap (x26 + 1)), r30.2)))
  (some (.inr (.inl ()), σ27))
noncomputable def S.lits_Check (c_ : AVal) (σ : Heap) : Option (AVal × Heap) :=
  aggK c_ 2 fun cs1 =>
  newK σ 2 cs1 fun l2 σ3 =>
  ld σ3 (.ptr l2 1) (.V) fun v4 =>
  lenV v4 fun n5 =>
  (loopP (S.lits_Check.b0 (.ptr l2 0) v4 n5 σ3) (0, 0)).bind fun r14 =>
  (ld σ3 (.ptr l2 0) (.I .i64) fun n15 =>
  cond (decide (n15 < 0)) (
  some true)
  (ld σ3 (.ptr l2 0) (.I .i64) fun n16 =>
  cond (decide (n16 > 4000)) (
  some true)
  (ld σ3 (.ptr l2 1) (.V) fun v17 =>
  lenV v17 fun n18 =>
  cond (decide (n18 > 20000)) (
  some true)
  (some (decide (r14 > 80000)))))).bind fun r19 =>
  cond r19 (
  ld σ3 (.ptr 3 0) (.V) fun v20 =>
  some (v20, σ3))
  (ld σ3 (.ptr l2 1) (.V) fun v21 =>
  lenV v21 fun n22 =>
  (loopW (S.lits_Check.b1 (.ptr l2 0) v21 n22) 0 σ3).bind fun r34 =>
  (match r34.1 with
 | .inl y35 => some (.nili, r34.2)
 | .inr y36 => some (y36, r34.2)))
noncomputable def W.lits_Check : Spec := .eff [.V] fun args σ => packs args [.V] fun x => S.lits_Check x σ


noncomputable def S.slices_Grow_int_int (s_ : AVal) (n_ : Int) (σ : Heap) : Option (AVal × Heap) :=
  (cond (decide (n_ < 0)) (
  none)
  (some ((), σ))).bind fun r1 =>
  capV s_ fun n2 =>
  lenV s_ fun n3 =>
  (cond (decide ((IntKind.i64.wrap (n_ - (IntKind.i64.wrap (n2 - n3)))) > 0)) (
  capV s_ fun n4 =>
  slS r1.2 1 s_ 0 (some n4) none fun v5 =>
  appZ r1.2 1 8 [(.int .i64 0)] v5 (IntKind.i64.wrap (n_ - (IntKind.i64.wrap (n2 - n3)))) fun v6 σ7 =>
  lenV s_ fun n8 =>
  slS σ7 1 v6 0 (some n8) none fun v9 =>
  some (v9, σ7))
  (some (s_, r1.2))).bind fun r10 =>
  some (r10.1, r10.2)
noncomputable def W.slices_Grow_int_int : Spec := .eff [.V] fun args σ => packs args [.V, .I .i64] fun x => S.slices_Grow_int_int x.1 x.2 σ


noncomputable def S.slices_Concat_int_int.b0 (p2 : AVal) (p3 : Int) : (Int × Int) → Heap → Option (((Int × Int) ⊕ Int) × Heap) := fun x4 σ5 =>
  cond (decide (x4.2 < p3)) (
  (ixA σ5 p2 1 x4.2 fun a6 =>
  ld σ5 a6 (.V) fun v7 =>
  lenV v7 fun n8 =>
  cond (decide ((IntKind.i64.wrap (x4.1 + n8)) < 0)) (
  none)
  (some ((IntKind.i64.wrap (x4.1 + n8)), σ5))).bind fun r9 =>
  some (.inl (r9.1, (IntKind.i64.wrap (x4.2 + 1))), r9.2))
  (some (.inr x4.1, σ5))
noncomputable def S.slices_Concat_int_int.b1 (p13 : AVal) (p14 : Int) : (AVal × Int) → Heap → Option (((AVal × Int) ⊕ AVal) × Heap) := fun x15 σ16 =>
  cond (decide (x15.2 < p14)) (
  ixA σ16 p13 1 x15.2 fun a17 =>
  ld σ16 a17 (.V) fun v18 =>
  appS σ16 1 8 x15.1 v18 fun v19 σ20 =>
  some (.inl (v19, (IntKind.i64.wrap (x15.2 + 1))), σ20))
  (some (.inr x15.1, σ16))
noncomputable def S.slices_Concat_int_int (slices_ : AVal) (σ : Heap) : Option (AVal × Heap) :=
  lenV slices_ fun n1 =>
  (loopW (S.slices_Concat_int_int.b0 slices_ n1) (0, 0) σ).bind fun r10 =>
  (S.slices_Grow_int_int .nils r10.1 r10.2).bind fun r11 =>
  lenV slices_ fun n12 =>
  (loopW (S.slices_Concat_int_int.b1 slices_ n12) (r11.1, 0) r11.2).bind fun r21 =>
  some (r21.1, r21.2)
noncomputable def W.slices_Concat_int_int : Spec := .eff [.V] fun args σ => packs args [.V] fun x => S.slices_Concat_int_int x σ


noncomputable def S.slices_Clone_int_int (s_ : AVal) (σ : Heap) : Option (AVal × Heap) :=
  eqS s_ .nils fun b1 =>
  cond b1 (
  some (.nils, σ))
  (newK σ 1 [] fun l2 σ3 =>
  appS σ3 1 8 (.sl l2 0 0 none) s_ fun v4 σ5 =>
  some (v4, σ5))
noncomputable def W.slices_Clone_int_int : Spec := .eff [.V] fun args σ => packs args [.V] fun x => S.slices_Clone_int_int x σ


noncomputable def S.skolemref_Bare (code_ : Int) (σ : Heap) : Option (AVal × Heap) :=
  newK σ 3 [(.int .i64 0), (.bool false), (.int .i64 0)] fun l1 σ2 =>
  stC σ2 (.ptr l1 0) [(.int .i64 code_), (.bool false), (.int .i64 0)] fun σ3 =>
  ldG σ3 (.ptr l1 0) 3 fun g4 =>
  some (g4, σ3)
noncomputable def W.skolemref_Bare : Spec := .eff [.V] fun args σ => packs args [.I .i64] fun x => S.skolemref_Bare x σ


noncomputable def S.skolemref_None (σ : Heap) : Option (AVal × Heap) :=
  newK σ 3 [(.int .i64 0), (.bool false), (.int .i64 0)] fun l1 σ2 =>
  stC σ2 (.ptr l1 0) [(.int .i64 0), (.bool false), (.int .i64 0)] fun σ3 =>
  ldG σ3 (.ptr l1 0) 3 fun g4 =>
  some (g4, σ3)
noncomputable def W.skolemref_None : Spec := .eff [.V] fun args σ => packs args [] fun x => S.skolemref_None σ


noncomputable def S.skolemref_Placed (code_ : Int) (pos_ : Int) (σ : Heap) : Option (AVal × Heap) :=
  newK σ 3 [(.int .i64 0), (.bool false), (.int .i64 0)] fun l1 σ2 =>
  cond (code_ == 0) (
  (S.skolemref_None σ2).bind fun r3 =>
  aggK r3.1 3 fun cs4 =>
  stC r3.2 (.ptr l1 0) cs4 fun σ5 =>
  ldG σ5 (.ptr l1 0) 3 fun g6 =>
  some (g6, σ5))
  (stC σ2 (.ptr l1 0) [(.int .i64 code_), (.bool true), (.int .i64 pos_)] fun σ7 =>
  ldG σ7 (.ptr l1 0) 3 fun g8 =>
  some (g8, σ7))
noncomputable def W.skolemref_Placed : Spec := .eff [.V] fun args σ => packs args [.I .i64, .I .i64] fun x => S.skolemref_Placed x.1 x.2 σ


noncomputable def S.skolemsee_sentinels (σ : Heap) : Option (AVal × Heap) :=
  ld σ (.ptr 4 0) (.V) fun v1 =>
  ld σ (.ptr 3 0) (.V) fun v2 =>
  ld σ (.ptr 5 0) (.V) fun v3 =>
  ld σ (.ptr 2 0) (.V) fun v4 =>
  ld σ (.ptr 0 0) (.V) fun v5 =>
  ld σ (.ptr 1 0) (.V) fun v6 =>
  ld σ (.ptr 6 0) (.V) fun v7 =>
  scal v1 (
  scal v2 (
  scal v3 (
  scal v4 (
  scal v5 (
  scal v6 (
  scal v7 (
  newK σ 1 [v1, v2, v3, v4, v5, v6, v7] fun l8 σ9 =>
  some ((.sl l8 0 7 none), σ9))))))))
noncomputable def W.skolemsee_sentinels : Spec := .eff [.V] fun args σ => packs args [] fun x => S.skolemsee_sentinels σ


noncomputable def S.skolemsee_Alike (a_ : AVal) (b_ : AVal) (σ : Heap) : Option Bool :=
  (eqI (tiOf Tryd.prog) σ true a_ .nili fun b1 =>
  cond b1 (
  some true)
  (eqI (tiOf Tryd.prog) σ true b_ .nili fun b2 =>
  some b2)).bind fun r3 =>
  cond r3 (
  (eqI (tiOf Tryd.prog) σ true a_ .nili fun b4 =>
  cond b4 (
  eqI (tiOf Tryd.prog) σ true b_ .nili fun b5 =>
  some b5)
  (some false)).bind fun r6 =>
  some r6)
  (eqI (tiOf Tryd.prog) σ false a_ b_ fun b7 =>
  some b7)
noncomputable def W.skolemsee_Alike : Spec := .pur [.B] fun args σ => packs args [.V, .V] fun x => S.skolemsee_Alike x.1 x.2 σ


noncomputable def S.skolemsee_sentinel.b0 (p2 : AVal) (p3 : AVal) (σ0 : Heap) : Int → Option (Int ⊕ (Unit ⊕ Int)) := fun x4 =>
  lenV p3 fun n6 =>
  cond (decide (x4 < n6)) (
  ixA σ0 p3 1 x4 fun a7 =>
  ld σ0 a7 (.V) fun v8 =>
  (S.skolemsee_Alike p2 v8 σ0).bind fun r9 =>
  cond r9 (
  some (.inr (.inr (IntKind.i64.wrap (101 + x4)))))
  (some (.inl (IntKind.i64.wrap (x4 + 1)))))
  (some (.inr (.inl ())))
noncomputable def S.skolemsee_sentinel (e_ : AVal) (σ : Heap) : Option (Int × Heap) :=
  (S.skolemsee_sentinels σ).bind fun r1 =>
  (loopP (S.skolemsee_sentinel.b0 e_ r1.1 r1.2) 0).bind fun r10 =>
  (match r10 with
 | .inl y11 => some ((-1), r1.2)
 | .inr y12 => some (y12, r1.2))
noncomputable def W.skolemsee_sentinel : Spec := .eff [.I .i64] fun args σ => packs args [.V] fun x => S.skolemsee_sentinel x σ


noncomputable def S.skolemsee_Fault (e_ : AVal) (σ : Heap) : Option (AVal × Heap) :=
  newK σ 3 [(.int .i64 0), (.bool false), (.int .i64 0)] fun l1 σ2 =>
  eqI (tiOf Tryd.prog) σ2 true e_ .nili fun b3 =>
  cond b3 (
  (S.skolemref_None σ2).bind fun r4 =>
  aggK r4.1 3 fun cs5 =>
  stC r4.2 (.ptr l1 0) cs5 fun σ6 =>
  ldG σ6 (.ptr l1 0) 3 fun g7 =>
  some (g7, σ6))
  (assertZ 135 e_ .nilp fun x8 b10 =>
  cond (!b10) (
  (S.skolemsee_sentinel e_ σ2).bind fun r11 =>
  (S.skolemref_Bare r11.1 r11.2).bind fun r12 =>
  aggK r12.1 3 fun cs13 =>
  stC r12.2 (.ptr l1 0) cs13 fun σ14 =>
  ldG σ14 (.ptr l1 0) 3 fun g15 =>
  some (g15, σ14))
  ((eqP x8 .nilp fun b16 =>
  cond b16 (
  some true)
  (nilck x8 (
  fld x8 1 fun a17 =>
  ld σ2 a17 (.V) fun v18 =>
  eqI (tiOf Tryd.prog) σ2 true v18 .nili fun b19 =>
  some b19))).bind fun r20 =>
  cond r20 (
  (S.skolemref_Bare (-1) σ2).bind fun r21 =>
  aggK r21.1 3 fun cs22 =>
  stC r21.2 (.ptr l1 0) cs22 fun σ23 =>
  ldG σ23 (.ptr l1 0) 3 fun g24 =>
  some (g24, σ23))
  (nilck x8 (
  fld x8 1 fun a25 =>
  ld σ2 a25 (.V) fun v26 =>
  (S.skolemsee_sentinel v26 σ2).bind fun r27 =>
  nilck x8 (
  fld x8 0 fun a28 =>
  ld r27.2 a28 (.I .i64) fun n29 =>
  ld σ2 a28 (.I .i64) fun n30 =>
  chk (((.int .i64 n30) : AVal) = (.int .i64 n29)) (
  (S.skolemref_Placed r27.1 n29 r27.2).bind fun r31 =>
  aggK r31.1 3 fun cs32 =>
  stC r31.2 (.ptr l1 0) cs32 fun σ33 =>
  ldG σ33 (.ptr l1 0) 3 fun g34 =>
  some (g34, σ33)))))))
noncomputable def W.skolemsee_Fault : Spec := .eff [.V] fun args σ => packs args [.V] fun x => S.skolemsee_Fault x σ


noncomputable def S.skolemref_SameFault (a_ : AVal) (b_ : AVal) (σ : Heap) : Option (Bool × Heap) :=
  aggK a_ 3 fun cs1 =>
  newK σ 3 cs1 fun l2 σ3 =>
  aggK b_ 3 fun cs4 =>
  newK σ3 3 cs4 fun l5 σ6 =>
  (ld σ6 (.ptr l2 0) (.I .i64) fun n7 =>
  ld σ6 (.ptr l5 0) (.I .i64) fun n8 =>
  cond (n7 == n8) (
  ld σ6 (.ptr l2 1) (.B) fun b9 =>
  ld σ6 (.ptr l5 1) (.B) fun b10 =>
  cond (b9 == b10) (
  ld σ6 (.ptr l2 2) (.I .i64) fun n11 =>
  ld σ6 (.ptr l5 2) (.I .i64) fun n12 =>
  some (n11 == n12))
  (some false))
  (some false)).bind fun r13 =>
  some (r13, σ6)
noncomputable def W.skolemref_SameFault : Spec := .eff [.B] fun args σ => packs args [.V, .V] fun x => S.skolemref_SameFault x.1 x.2 σ


noncomputable def S.skolemsee_Same (e_ : AVal) (f_ : AVal) (σ : Heap) : Option (Bool × Heap) :=
  aggK f_ 3 fun cs1 =>
  newK σ 3 cs1 fun l2 σ3 =>
  (S.skolemsee_Fault e_ σ3).bind fun r4 =>
  ldG r4.2 (.ptr l2 0) 3 fun g5 =>
  ldG σ3 (.ptr l2 0) 3 fun g6 =>
  chk ((g6 : AVal) = g5) (
  (S.skolemref_SameFault r4.1 g5 r4.2).bind fun r7 =>
  some (r7.1, r7.2))
noncomputable def W.skolemsee_Same : Spec := .eff [.B] fun args σ => packs args [.V, .V] fun x => S.skolemsee_Same x.1 x.2 σ


noncomputable def S.skolemworld_Number (n_ : Int) (below_ : Int) (σ : Heap) : Option Int :=
  if below_ = 0 then none else
  (cond (decide ((Int.tmod n_ below_) < 0)) (
  some (IntKind.i64.wrap ((Int.tmod n_ below_) + below_)))
  (some (Int.tmod n_ below_))).bind fun r1 =>
  some r1
noncomputable def W.skolemworld_Number : Spec := .pur [.I .i64] fun args σ => packs args [.I .i64, .I .i64] fun x => S.skolemworld_Number x.1 x.2 σ


noncomputable def S.proof_at (pos_ : Int) (err_ : AVal) (σ : Heap) : Option (AVal × Heap) :=
  scal err_ (
  newK σ 2 [(.int .i64 pos_), err_] fun l1 σ2 =>
  some ((.ifc 135 (.ptr l1 0)), σ2))
noncomputable def W.proof_at : Spec := .eff [.V] fun args σ => packs args [.I .i64, .V] fun x => S.proof_at x.1 x.2 σ


noncomputable def S.proof_Check.b0 (p2 : AVal) (p3 : Int) : (Int × Int) → Heap → Option (((Int × Int) ⊕ Int) × Heap) := fun x4 σ5 =>
  cond (decide (x4.2 < p3)) (
  ixA σ5 p2 2 x4.2 fun a6 =>
  ldG σ5 a6 2 fun g7 =>
  newK σ5 2 [(.bool false), .nils] fun l8 σ9 =>
  aggK g7 2 fun cs10 =>
  stC σ9 (.ptr l8 0) cs10 fun σ11 =>
  ld σ11 (.ptr l8 1) (.V) fun v12 =>
  lenV v12 fun n13 =>
  some (.inl ((IntKind.i64.wrap (x4.1 + n13)), (IntKind.i64.wrap (x4.2 + 1))), σ11))
  (some (.inr x4.1, σ5))
noncomputable def S.proof_Check.b1 (p29 : Int) (p30 : AVal) (p31 : Int) (p32 : AVal) (p33 : Int) : Int → Heap → Option ((Int ⊕ (Unit ⊕ AVal)) × Heap) := fun x34 σ35 =>
  cond (decide (x34 < p33)) (
  ixA σ35 p32 1 x34 fun a36 =>
  ld σ35 a36 (.I .i64) fun n37 =>
  (S.lits_Is n37 4000 σ35).bind fun r38 =>
  cond (!r38) (
  ld σ35 (.ptr 2 0) (.V) fun v39 =>
  (S.proof_at p29 v39 σ35).bind fun r40 =>
  some (.inr (.inr r40.1), r40.2))
  (some (.inl (IntKind.i64.wrap (x34 + 1)), σ35)))
  (some (.inr (.inl ()), σ35))
noncomputable def S.proof_Check.b2 (p17 : AVal) (p18 : Int) : Int → Heap → Option ((Int ⊕ (Unit ⊕ AVal)) × Heap) := fun x19 σ20 =>
  cond (decide (x19 < p18)) (
  ixA σ20 p17 2 x19 fun a21 =>
  ldG σ20 a21 2 fun g22 =>
  newK σ20 2 [(.bool false), .nils] fun l23 σ24 =>
  aggK g22 2 fun cs25 =>
  stC σ24 (.ptr l23 0) cs25 fun σ26 =>
  ld σ26 (.ptr l23 1) (.V) fun v27 =>
  lenV v27 fun n28 =>
  (loopW (S.proof_Check.b1 x19 p17 p18 v27 n28) 0 σ26).bind fun r41 =>
  (match r41.1 with
 | .inl y42 => some (.inl (IntKind.i64.wrap (x19 + 1)), r41.2)
 | .inr y43 => some (.inr (.inr y43), r41.2)))
  (some (.inr (.inl ()), σ20))
noncomputable def S.proof_Check (l_ : AVal) (σ : Heap) : Option (AVal × Heap) :=
  lenV l_ fun n1 =>
  (loopW (S.proof_Check.b0 l_ n1) (0, 0) σ).bind fun r14 =>
  cond (decide (r14.1 > 320000)) (
  ld r14.2 (.ptr 3 0) (.V) fun v15 =>
  some (v15, r14.2))
  (lenV l_ fun n16 =>
  (loopW (S.proof_Check.b2 l_ n16) 0 r14.2).bind fun r44 =>
  (match r44.1 with
 | .inl y45 => some (.nili, r44.2)
 | .inr y46 => some (y46, r44.2)))
noncomputable def W.proof_Check : Spec := .eff [.V] fun args σ => packs args [.V] fun x => S.proof_Check x σ


noncomputable def S.assign_Cut (vars_ : Int) (σ : Heap) : Option Int :=
  some (if 4000 < (if 0 > vars_ then 0 else vars_) then 4000 else (if 0 > vars_ then 0 else vars_))
noncomputable def W.assign_Cut : Spec := .pur [.I .i64] fun args σ => packs args [.I .i64] fun x => S.assign_Cut x σ


noncomputable def S.rup_Base_right (b_ : AVal) (c_ : AVal) (σ : Heap) : Option (Bool × Heap) :=
  scal b_ (
  newK σ 1 [b_] fun l1 σ2 =>
  (S.slices_ContainsFunc_int_int c_ (.fn (.func 123) [] [(.ptr l1 0)]) σ2).bind fun r3 =>
  some ((!r3.1), r3.2))
noncomputable def W.rup_Base_right : Spec := .eff [.B] fun args σ => packs args [.V, .V] fun x => S.rup_Base_right x.1 x.2 σ


noncomputable def S.slices_SortFunc_int_int (p0 : AVal) (p1 : AVal) (σ : Heap) := sortFS 155 p0 p1 σ
noncomputable def W.slices_SortFunc_int_int : Spec := .eff [] fun args σ => packs args [.V, .V] fun x => sortFS 155 x.1 x.2 σ


noncomputable def S.slices_Compact_int_int.b0 (p11 : AVal) (p12 : AVal) : (Int × Int) → Heap → Option (((Int × Int) ⊕ Int) × Heap) := fun x13 σ14 =>
  lenV p12 fun n15 =>
  cond (decide (x13.2 < n15)) (
  (ixA σ14 p12 1 x13.2 fun a16 =>
  ld σ14 a16 (.I .i64) fun n17 =>
  ixA σ14 p12 1 (IntKind.i64.wrap (x13.2 - 1)) fun a18 =>
  ld σ14 a18 (.I .i64) fun n19 =>
  cond (n17 != n19) (
  ixA σ14 p12 1 x13.2 fun a20 =>
  ld σ14 a20 (.I .i64) fun n21 =>
  ixA σ14 p11 1 x13.1 fun a22 =>
  stC σ14 a22 [(.int .i64 n21)] fun σ23 =>
  some ((IntKind.i64.wrap (x13.1 + 1)), σ23))
  (some (x13.1, σ14))).bind fun r24 =>
  some (.inl (r24.1, (IntKind.i64.wrap (x13.2 + 1))), r24.2))
  (some (.inr x13.1, σ14))
noncomputable def S.slices_Compact_int_int.b1 (p2 : AVal) : Int → Heap → Option ((Int ⊕ (Unit ⊕ AVal)) × Heap) := fun x3 σ4 =>
  lenV p2 fun n5 =>
  cond (decide (x3 < n5)) (
  ixA σ4 p2 1 x3 fun a6 =>
  ld σ4 a6 (.I .i64) fun n7 =>
  ixA σ4 p2 1 (IntKind.i64.wrap (x3 - 1)) fun a8 =>
  ld σ4 a8 (.I .i64) fun n9 =>
  cond (n7 == n9) (
  slS σ4 1 p2 x3 none none fun v10 =>
  (loopW (S.slices_Compact_int_int.b0 p2 v10) (x3, 1) σ4).bind fun r25 =>
  slS r25.2 1 p2 r25.1 none none fun v26 =>
  clearK r25.2 1 [(.int .i64 0)] v26 fun σ27 =>
  slS σ27 1 p2 0 (some r25.1) none fun v28 =>
  some (.inr (.inr v28), σ27))
  (some (.inl (IntKind.i64.wrap (x3 + 1)), σ4)))
  (some (.inr (.inl ()), σ4))
noncomputable def S.slices_Compact_int_int (s_ : AVal) (σ : Heap) : Option (AVal × Heap) :=
  lenV s_ fun n1 =>
  cond (decide (n1 < 2)) (
  some (s_, σ))
  ((loopW (S.slices_Compact_int_int.b1 s_) 1 σ).bind fun r29 =>
  (match r29.1 with
 | .inl y30 => some (s_, r29.2)
 | .inr y31 => some (y31, r29.2)))
noncomputable def W.slices_Compact_int_int : Spec := .eff [.V] fun args σ => packs args [.V] fun x => S.slices_Compact_int_int x σ


noncomputable def S.slices_Clip_int_int (s_ : AVal) (σ : Heap) : Option AVal :=
  lenV s_ fun n1 =>
  lenV s_ fun n2 =>
  slS σ 1 s_ 0 (some n1) (some n2) fun v3 =>
  some v3
noncomputable def W.slices_Clip_int_int : Spec := .pur [.V] fun args σ => packs args [.V] fun x => S.slices_Clip_int_int x σ


noncomputable def S.lits_Norm.b0 (p5 : AVal) (σ0 : Heap) : Int → Option (Int ⊕ (Unit ⊕ (AVal × Bool))) := fun x6 =>
  lenV p5 fun n8 =>
  cond (decide (x6 < n8)) (
  ixA σ0 p5 1 x6 fun a9 =>
  ld σ0 a9 (.I .i64) fun n10 =>
  (S.lits_Var n10 σ0).bind fun r11 =>
  ixA σ0 p5 1 (IntKind.i64.wrap (x6 - 1)) fun a12 =>
  ld σ0 a12 (.I .i64) fun n13 =>
  (S.lits_Var n13 σ0).bind fun r14 =>
  cond (r11 == r14) (
  some (.inr (.inr (p5, false))))
  (some (.inl (IntKind.i64.wrap (x6 + 1)))))
  (some (.inr (.inl ())))
noncomputable def S.lits_Norm (c_ : AVal) (σ : Heap) : Option ((AVal × Bool) × Heap) :=
  (S.slices_Clone_int_int c_ σ).bind fun r1 =>
  (S.slices_SortFunc_int_int r1.1 (.fn (.func 155) [] []) r1.2).bind fun r2 =>
  (S.slices_Compact_int_int r1.1 r2.2).bind fun r3 =>
  (S.slices_Clip_int_int r3.1 r3.2).bind fun r4 =>
  (loopP (S.lits_Norm.b0 r4 r3.2) 1).bind fun r15 =>
  (match r15 with
 | .inl y16 => some ((r4, true), r3.2)
 | .inr y17 => some ((y17.1, y17.2), r3.2))
noncomputable def W.lits_Norm : Spec := .eff [.V, .B] fun args σ => packs args [.V] fun x => S.lits_Norm x σ


noncomputable def S.rup_Base_Add.b0 (p24 : AVal) (p25 : AVal) (p26 : Int) (p27 : Int) : Int → Heap → Option ((Int ⊕ Unit) × Heap) := fun x28 σ29 =>
  cond (decide (x28 < p27)) (
  ixA σ29 p25 1 x28 fun a30 =>
  ld σ29 a30 (.I .i64) fun n31 =>
  nilck p24 (
  fld p24 3 fun a32 =>
  ld σ29 a32 (.V) fun v33 =>
  nilck p24 (
  fld p24 3 fun a34 =>
  ld σ29 a34 (.V) fun v35 =>
  mgetZ σ29 v35 .i64 n31 .nils fun x36 b37 =>
  ld σ29 a32 (.V) fun v38 =>
  chk ((v38 : AVal) = v33) (
  newK σ29 1 [(.int .i64 p26)] fun l39 σ40 =>
  appS σ40 1 8 x36 (.sl l39 0 1 none) fun v41 σ42 =>
  ld σ42 a32 (.V) fun v43 =>
  chk ((v43 : AVal) = v33) (
  mputK σ42 v33 .i64 n31 v41 fun σ44 =>
  some (.inl (IntKind.i64.wrap (x28 + 1)), σ44))))))
  (some (.inr (), σ29))
noncomputable def S.rup_Base_Add (p0 : AVal) (p1 : AVal) (σ : Heap) : Option (Bool × Heap) :=
  (S.rup_Base_right p0 p1 σ).bind fun r1 =>
  cond (!r1.1) (
  some (false, r1.2))
  ((S.lits_Norm p1 r1.2).bind fun r2 =>
  nilck p0 (
  fld p0 1 fun a3 =>
  ld r2.2 a3 (.V) fun v4 =>
  lenV v4 fun n5 =>
  nilck p0 (
  fld p0 1 fun a6 =>
  ld r2.2 a6 (.V) fun v7 =>
  scal r2.1.1 (
  newK r2.2 1 [r2.1.1] fun l8 σ9 =>
  appS σ9 1 24 v7 (.sl l8 0 1 none) fun v10 σ11 =>
  nilck p0 (
  fld p0 2 fun a12 =>
  ld σ11 a12 (.V) fun v13 =>
  ld r2.2 a12 (.V) fun v14 =>
  chk ((v14 : AVal) = v13) (
  newK σ11 1 [(.bool true)] fun l15 σ16 =>
  appS σ16 1 1 v13 (.sl l15 0 1 none) fun v17 σ18 =>
  nilck p0 (
  fld p0 1 fun a19 =>
  scal v10 (
  stC σ18 a19 [v10] fun σ20 =>
  nilck p0 (
  fld p0 2 fun a21 =>
  scal v17 (
  stC σ20 a21 [v17] fun σ22 =>
  lenV r2.1.1 fun n23 =>
  (loopW (S.rup_Base_Add.b0 p0 r2.1.1 n5 n23) 0 σ22).bind fun r45 =>
  lenV r2.1.1 fun n46 =>
  (cond (decide (n46 < 2)) (
  nilck p0 (
  fld p0 4 fun a47 =>
  ld r45.2 a47 (.V) fun v48 =>
  newK r45.2 1 [(.int .i64 n5)] fun l49 σ50 =>
  appS σ50 1 8 v48 (.sl l49 0 1 none) fun v51 σ52 =>
  nilck p0 (
  fld p0 4 fun a53 =>
  scal v51 (
  stC σ52 a53 [v51] fun σ54 =>
  some ((), σ54)))))
  (some ((), r45.2))).bind fun r55 =>
  nilck p0 (
  fld p0 5 fun a56 =>
  ld r55.2 a56 (.I .i64) fun n57 =>
  nilck p0 (
  fld p0 5 fun a58 =>
  stC r55.2 a58 [(.int .i64 (IntKind.i64.wrap (n57 + 1)))] fun σ59 =>
  some (true, σ59)))))))))))))
noncomputable def W.rup_Base_Add : Spec := .eff [.B] fun args σ => packs args [.V, .V] fun x => S.rup_Base_Add x.1 x.2 σ


noncomputable def S.rup_New.b0 (p7 : AVal) (p8 : AVal) (p9 : Int) : Int → Heap → Option ((Int ⊕ (Unit ⊕ (AVal × AVal))) × Heap) := fun x10 σ11 =>
  cond (decide (x10 < p9)) (
  ixA σ11 p8 1 x10 fun a12 =>
  ld σ11 a12 (.V) fun v13 =>
  (S.rup_Base_Add p7 v13 σ11).bind fun r14 =>
  cond (!r14.1) (
  ld r14.2 (.ptr 2 0) (.V) fun v15 =>
  some (.inr (.inr (.nilp, v15)), r14.2))
  (some (.inl (IntKind.i64.wrap (x10 + 1)), r14.2)))
  (some (.inr (.inl ()), σ11))
noncomputable def S.rup_New (vars_ : Int) (c_ : AVal) (σ : Heap) : Option ((AVal × AVal) × Heap) :=
  (S.assign_Cut vars_ σ).bind fun r1 =>
  newM σ fun l2 σ3 =>
  newK σ3 6 [(.int .i64 r1), .nils, .nils, (.map l2), .nils, (.int .i64 0)] fun l4 σ5 =>
  lenV c_ fun n6 =>
  (loopW (S.rup_New.b0 (.ptr l4 0) c_ n6) 0 σ5).bind fun r16 =>
  (match r16.1 with
 | .inl y17 => some (((.ptr l4 0), .nili), r16.2)
 | .inr y18 => some ((y18.1, y18.2), r16.2))
noncomputable def W.rup_New : Spec := .eff [.V, .V] fun args σ => packs args [.I .i64, .V] fun x => S.rup_New x.1 x.2 σ


noncomputable def S.drat_begin.b0 (p24 : AVal) (p25 : AVal) (p26 : Int) (p27 : Int) (p28 : AVal) (p29 : Int) (σ0 : Heap) : (Int × Int) → Option ((Int × Int) ⊕ Int) := fun x30 =>
  cond (decide (x30.2 < p29)) (
  ixA σ0 p28 1 x30.2 fun a32 =>
  ld σ0 a32 (.I .i64) fun n33 =>
  (S.lits_Var n33 σ0).bind fun r34 =>
  some (.inl ((if r34 > x30.1 then r34 else x30.1), (IntKind.i64.wrap (x30.2 + 1)))))
  (some (.inr x30.1))
noncomputable def S.drat_begin.b1 (p11 : AVal) (p12 : AVal) (p13 : Int) : (Int × Int) → Heap → Option (((Int × Int) ⊕ Int) × Heap) := fun x14 σ15 =>
  cond (decide (x14.2 < p13)) (
  ixA σ15 p12 2 x14.2 fun a16 =>
  ldG σ15 a16 2 fun g17 =>
  newK σ15 2 [(.bool false), .nils] fun l18 σ19 =>
  aggK g17 2 fun cs20 =>
  stC σ19 (.ptr l18 0) cs20 fun σ21 =>
  ld σ21 (.ptr l18 1) (.V) fun v22 =>
  lenV v22 fun n23 =>
  (loopP (S.drat_begin.b0 p11 p12 p13 x14.2 v22 n23 σ21) (x14.1, 0)).bind fun r35 =>
  some (.inl (r35, (IntKind.i64.wrap (x14.2 + 1))), σ21))
  (some (.inr x14.1, σ15))
noncomputable def S.drat_begin (c_ : AVal) (l_ : AVal) (σ : Heap) : Option ((AVal × Int × AVal) × Heap) :=
  aggK c_ 2 fun cs1 =>
  newK σ 2 cs1 fun l2 σ3 =>
  ldG σ3 (.ptr l2 0) 2 fun g4 =>
  (S.lits_Check g4 σ3).bind fun r5 =>
  eqI (tiOf Tryd.prog) r5.2 true r5.1 .nili fun b6 =>
  cond (!b6) (
  some ((.nilp, 0, r5.1), r5.2))
  ((S.proof_Check l_ r5.2).bind fun r7 =>
  eqI (tiOf Tryd.prog) r7.2 true r7.1 .nili fun b8 =>
  cond (!b8) (
  some ((.nilp, 0, r7.1), r7.2))
  (ld r7.2 (.ptr l2 0) (.I .i64) fun n9 =>
  lenV l_ fun n10 =>
  (loopW (S.drat_begin.b1 (.ptr l2 0) l_ n10) (n9, 0) r7.2).bind fun r36 =>
  ld r36.2 (.ptr l2 1) (.V) fun v37 =>
  (S.rup_New r36.1 v37 r36.2).bind fun r38 =>
  some ((r38.1.1, r36.1, r38.1.2), r38.2)))
noncomputable def W.drat_begin : Spec := .eff [.V, .I .i64, .V] fun args σ => packs args [.V, .V] fun x => S.drat_begin x.1 x.2 σ


noncomputable def S.assign_New (vars_ : Int) (σ : Heap) : Option (AVal × Heap) :=
  (S.assign_Cut vars_ σ).bind fun r1 =>
  mkS σ 1 1 [(.int .i8 0)] (IntKind.i64.wrap (r1 + 1)) (IntKind.i64.wrap (r1 + 1)) fun v2 σ3 =>
  scal v2 (
  newK σ3 1 [v2] fun l4 σ5 =>
  some ((.ptr l4 0), σ5))
noncomputable def W.assign_New : Spec := .eff [.V] fun args σ => packs args [.I .i64] fun x => S.assign_New x σ


noncomputable def S.rup_Base_closure.T : FuncId → Option Spec := (tab 130 W.rup_Base_closure_2 (tab 127 W.rup_Base_closure_1 (tab 126 W.assign_New noSpec)))
noncomputable def S.rup_Base_closure.b0 (p16 : AVal) (p17 : AVal) (p18 : AVal) (p19 : AVal) (p20 : AVal) (p21 : Int) : Int → Heap → Option ((Int ⊕ (Unit ⊕ (AVal × Bool))) × Heap) := fun x22 σ23 =>
  cond (decide (x22 < p21)) (
  ixA σ23 p20 1 x22 fun a24 =>
  ld σ23 a24 (.I .i64) fun n25 =>
  ld σ23 p19 (.V) fun v26 =>
  callV S.rup_Base_closure.T v26 [(.int .i64 n25)] σ23 fun r27 σ28 =>
  asK (.B) r27 fun b29 =>
  cond (!b29) (
  some (.inr (.inr (.nilp, false)), σ28))
  (some (.inl (IntKind.i64.wrap (x22 + 1)), σ28)))
  (some (.inr (.inl ()), σ23))
noncomputable def S.rup_Base_closure.b1 (p37 : AVal) (p38 : AVal) (p39 : AVal) (p40 : AVal) (p41 : AVal) (p42 : Int) : Int → Heap → Option ((Int ⊕ (Unit ⊕ (AVal × Bool))) × Heap) := fun x43 σ44 =>
  cond (decide (x43 < p42)) (
  ixA σ44 p41 1 x43 fun a45 =>
  ld σ44 a45 (.I .i64) fun n46 =>
  (S.rup_Base_closure_2 n46 p38 p37 p40 σ44).bind fun r47 =>
  cond (!r47.1) (
  some (.inr (.inr (.nilp, false)), r47.2))
  (some (.inl (IntKind.i64.wrap (x43 + 1)), r47.2)))
  (some (.inr (.inl ()), σ44))
noncomputable def S.rup_Base_closure.b2 (p71 : AVal) (p72 : AVal) (p73 : AVal) (p74 : AVal) (p75 : AVal) (p76 : Int) : Int → Heap → Option ((Int ⊕ (Unit ⊕ (AVal × Bool))) × Heap) := fun x77 σ78 =>
  cond (decide (x77 < p76)) (
  ixA σ78 p75 1 x77 fun a79 =>
  ld σ78 a79 (.I .i64) fun n80 =>
  (S.rup_Base_closure_2 n80 p72 p71 p74 σ78).bind fun r81 =>
  cond (!r81.1) (
  some (.inr (.inr (.nilp, false)), r81.2))
  (some (.inl (IntKind.i64.wrap (x77 + 1)), r81.2)))
  (some (.inr (.inl ()), σ78))
noncomputable def S.rup_Base_closure.b3 (p51 : AVal) (p52 : AVal) (p53 : AVal) (p54 : AVal) : Unit → Heap → Option ((Unit ⊕ (Unit ⊕ (AVal × Bool))) × Heap) := fun x55 σ56 =>
  ld σ56 p53 (.V) fun v57 =>
  lenV v57 fun n58 =>
  cond (decide (n58 > 0)) (
  ld σ56 p53 (.V) fun v59 =>
  ixA σ56 v59 1 0 fun a60 =>
  ld σ56 a60 (.I .i64) fun n61 =>
  ld σ56 p53 (.V) fun v62 =>
  slS σ56 1 v62 1 none none fun v63 =>
  scal v63 (
  stC σ56 p53 [v63] fun σ64 =>
  ld σ64 p51 (.V) fun v65 =>
  nilck v65 (
  fld v65 3 fun a66 =>
  ld σ64 a66 (.V) fun v67 =>
  mgetZ σ64 v67 .i64 (IntKind.i64.wrap (0 - n61)) .nils fun x68 b69 =>
  lenV x68 fun n70 =>
  (loopW (S.rup_Base_closure.b2 p51 p52 p53 p54 x68 n70) 0 σ64).bind fun r82 =>
  (match r82.1 with
 | .inl y83 => some (.inl (), r82.2)
 | .inr y84 => some (.inr (.inr (y84.1, y84.2)), r82.2)))))
  (some (.inr (.inl ()), σ56))
noncomputable def S.rup_Base_closure (p0 : AVal) (p1 : AVal) (σ : Heap) : Option ((AVal × Bool) × Heap) :=
  scal p0 (
  newK σ 1 [p0] fun l1 σ2 =>
  ld σ2 (.ptr l1 0) (.V) fun v3 =>
  nilck v3 (
  fld v3 0 fun a4 =>
  ld σ2 a4 (.I .i64) fun n5 =>
  (S.assign_New n5 σ2).bind fun r6 =>
  newK r6.2 1 [.nilp] fun l7 σ8 =>
  scal r6.1 (
  stC σ8 (.ptr l7 0) [r6.1] fun σ9 =>
  newK σ9 1 [.nils] fun l10 σ11 =>
  newK σ11 1 [.nilf] fun l12 σ13 =>
  stC σ13 (.ptr l12 0) [(.fn (.func 127) [] [(.ptr l7 0), (.ptr l10 0)])] fun σ14 =>
  lenV p1 fun n15 =>
  (loopW (S.rup_Base_closure.b0 (.ptr l1 0) (.ptr l7 0) (.ptr l10 0) (.ptr l12 0) p1 n15) 0 σ14).bind fun r30 =>
  (match r30.1 with
 | .inl y31 => ld r30.2 (.ptr l1 0) (.V) fun v33 =>
  nilck v33 (
  fld v33 4 fun a34 =>
  ld r30.2 a34 (.V) fun v35 =>
  lenV v35 fun n36 =>
  (loopW (S.rup_Base_closure.b1 (.ptr l1 0) (.ptr l7 0) (.ptr l10 0) (.ptr l12 0) v35 n36) 0 r30.2).bind fun r48 =>
  (match r48.1 with
 | .inl y49 => (loopW (S.rup_Base_closure.b3 (.ptr l1 0) (.ptr l7 0) (.ptr l10 0) (.ptr l12 0)) () r48.2).bind fun r85 =>
  (match r85.1 with
 | .inl y86 => ld r85.2 (.ptr l7 0) (.V) fun v88 =>
  some ((v88, true), r85.2)
 | .inr y87 => some ((y87.1, y87.2), r85.2))
 | .inr y50 => some ((y50.1, y50.2), r48.2)))
 | .inr y32 => some ((y32.1, y32.2), r30.2)))))
noncomputable def W.rup_Base_closure : Spec := .eff [.V, .B] fun args σ => packs args [.V, .V] fun x => S.rup_Base_closure x.1 x.2 σ


noncomputable def S.rup_Base_Implied.b0 (p6 : AVal) (p7 : AVal) (p8 : Int) : (AVal × Int) → Heap → Option (((AVal × Int) ⊕ AVal) × Heap) := fun x9 σ10 =>
  cond (decide (x9.2 < p8)) (
  ixA σ10 p7 1 x9.2 fun a11 =>
  ld σ10 a11 (.I .i64) fun n12 =>
  newK σ10 1 [(.int .i64 (IntKind.i64.wrap (0 - n12)))] fun l13 σ14 =>
  appS σ14 1 8 x9.1 (.sl l13 0 1 none) fun v15 σ16 =>
  some (.inl (v15, (IntKind.i64.wrap (x9.2 + 1))), σ16))
  (some (.inr x9.1, σ10))
noncomputable def S.rup_Base_Implied (b_ : AVal) (c_ : AVal) (σ : Heap) : Option (Bool × Heap) :=
  (S.rup_Base_right b_ c_ σ).bind fun r1 =>
  cond (!r1.1) (
  some (false, r1.2))
  (lenV c_ fun n2 =>
  mkS r1.2 1 8 [(.int .i64 0)] 0 n2 fun v3 σ4 =>
  lenV c_ fun n5 =>
  (loopW (S.rup_Base_Implied.b0 b_ c_ n5) (v3, 0) σ4).bind fun r17 =>
  (S.rup_Base_closure b_ r17.1 r17.2).bind fun r18 =>
  some ((!r18.1.2), r18.2))
noncomputable def W.rup_Base_Implied : Spec := .eff [.B] fun args σ => packs args [.V, .V] fun x => S.rup_Base_Implied x.1 x.2 σ


noncomputable def S.slices_DeleteFunc_int_int.T : FuncId → Option Spec := (tab 138 W.sat_Engine_Add_1 (tab 160 W.prop_Prop_Add_1 (tab 137 W.incr_Solver_may_1 (tab 153 W.rup_gone_1 (tab 125 W.rup_without_1 (tab 130 W.rup_Base_closure_2 (tab 127 W.rup_Base_closure_1 (tab 155 W.lits_order (tab 123 W.rup_Base_right_1 (tab 111 W.lits_Check_1 (tab 140 W.slices_IndexFunc_int_int noSpec)))))))))))
noncomputable def S.slices_DeleteFunc_int_int.b0 (p2 : AVal) (p3 : AVal) : (Int × Int) → Heap → Option (((Int × Int) ⊕ Int) × Heap) := fun x4 σ5 =>
  lenV p2 fun n6 =>
  cond (decide (x4.2 < n6)) (
  (ixA σ5 p2 1 x4.2 fun a7 =>
  ld σ5 a7 (.I .i64) fun n8 =>
  callV S.slices_DeleteFunc_int_int.T p3 [(.int .i64 n8)] σ5 fun r9 σ10 =>
  asK (.B) r9 fun b11 =>
  cond (!b11) (
  ixA σ10 p2 1 x4.1 fun a12 =>
  stC σ10 a12 [(.int .i64 n8)] fun σ13 =>
  some ((IntKind.i64.wrap (x4.1 + 1)), σ13))
  (some (x4.1, σ10))).bind fun r14 =>
  some (.inl (r14.1, (IntKind.i64.wrap (x4.2 + 1))), r14.2))
  (some (.inr x4.1, σ5))
noncomputable def S.slices_DeleteFunc_int_int (s_ : AVal) (del_ : AVal) (σ : Heap) : Option (AVal × Heap) :=
  (S.slices_IndexFunc_int_int s_ del_ σ).bind fun r1 =>
  cond (r1.1 == (-1)) (
  some (s_, r1.2))
  ((loopW (S.slices_DeleteFunc_int_int.b0 s_ del_) (r1.1, (IntKind.i64.wrap (r1.1 + 1))) r1.2).bind fun r15 =>
  slS r15.2 1 s_ r15.1 none none fun v16 =>
  clearK r15.2 1 [(.int .i64 0)] v16 fun σ17 =>
  slS σ17 1 s_ 0 (some r15.1) none fun v18 =>
  some (v18, σ17))
noncomputable def W.slices_DeleteFunc_int_int : Spec := .eff [.V] fun args σ => packs args [.V, .V] fun x => S.slices_DeleteFunc_int_int x.1 x.2 σ


noncomputable def S.rup_without (c_ : AVal) (l_ : Int) (σ : Heap) : Option (AVal × Heap) :=
  newK σ 1 [(.int .i64 l_)] fun l1 σ2 =>
  (S.slices_Clone_int_int c_ σ2).bind fun r3 =>
  (S.slices_DeleteFunc_int_int r3.1 (.fn (.func 125) [] [(.ptr l1 0)]) r3.2).bind fun r4 =>
  some (r4.1, r4.2)
noncomputable def W.rup_without : Spec := .eff [.V] fun args σ => packs args [.V, .I .i64] fun x => S.rup_without x.1 x.2 σ


noncomputable def S.rup_Base_Blocked.b0 (p12 : AVal) (p13 : AVal) (p14 : AVal) (p15 : Int) : Int → Heap → Option ((Int ⊕ (Unit ⊕ Bool)) × Heap) := fun x16 σ17 =>
  cond (decide (x16 < p15)) (
  ixA σ17 p14 1 x16 fun a18 =>
  ld σ17 a18 (.I .i64) fun n19 =>
  nilck p12 (
  fld p12 1 fun a20 =>
  ld σ17 a20 (.V) fun v21 =>
  ixA σ17 v21 1 n19 fun a22 =>
  ld σ17 a22 (.V) fun v23 =>
  ixA σ17 p13 1 0 fun a24 =>
  ld σ17 a24 (.I .i64) fun n25 =>
  (S.rup_without v23 (IntKind.i64.wrap (0 - n25)) σ17).bind fun r26 =>
  scal p13 (
  scal r26.1 (
  newK r26.2 1 [p13, r26.1] fun l27 σ28 =>
  (S.slices_Concat_int_int (.sl l27 0 2 none) σ28).bind fun r29 =>
  (S.rup_Base_Implied p12 r29.1 r29.2).bind fun r30 =>
  cond (!r30.1) (
  some (.inr (.inr false), r30.2))
  (some (.inl (IntKind.i64.wrap (x16 + 1)), r30.2))))))
  (some (.inr (.inl ()), σ17))
noncomputable def S.rup_Base_Blocked (b_ : AVal) (c_ : AVal) (σ : Heap) : Option (Bool × Heap) :=
  (S.rup_Base_Implied b_ c_ σ).bind fun r1 =>
  cond r1.1 (
  some (true, r1.2))
  ((lenV c_ fun n2 =>
  cond (n2 == 0) (
  some (true, r1.2))
  ((S.rup_Base_right b_ c_ r1.2).bind fun r3 =>
  some ((!r3.1), r3.2))).bind fun r4 =>
  cond r4.1 (
  some (false, r4.2))
  (nilck b_ (
  fld b_ 3 fun a5 =>
  ld r4.2 a5 (.V) fun v6 =>
  ixA r4.2 c_ 1 0 fun a7 =>
  ld r4.2 a7 (.I .i64) fun n8 =>
  mgetZ r4.2 v6 .i64 (IntKind.i64.wrap (0 - n8)) .nils fun x9 b10 =>
  lenV x9 fun n11 =>
  (loopW (S.rup_Base_Blocked.b0 b_ c_ x9 n11) 0 r4.2).bind fun r31 =>
  (match r31.1 with
 | .inl y32 => some (true, r31.2)
 | .inr y33 => some (y33, r31.2)))))
noncomputable def W.rup_Base_Blocked : Spec := .eff [.B] fun args σ => packs args [.V, .V] fun x => S.rup_Base_Blocked x.1 x.2 σ


noncomputable def S.slices_Equal_int_int.b0 (p4 : AVal) (p5 : AVal) (p6 : Int) (σ0 : Heap) : Int → Option (Int ⊕ (Unit ⊕ Bool)) := fun x7 =>
  cond (decide (x7 < p6)) (
  ixA σ0 p4 1 x7 fun a9 =>
  ld σ0 a9 (.I .i64) fun n10 =>
  ixA σ0 p5 1 x7 fun a11 =>
  ld σ0 a11 (.I .i64) fun n12 =>
  cond (n10 != n12) (
  some (.inr (.inr false)))
  (some (.inl (IntKind.i64.wrap (x7 + 1)))))
  (some (.inr (.inl ())))
noncomputable def S.slices_Equal_int_int (s1_ : AVal) (s2_ : AVal) (σ : Heap) : Option Bool :=
  lenV s1_ fun n1 =>
  lenV s2_ fun n2 =>
  cond (n1 != n2) (
  some false)
  (lenV s1_ fun n3 =>
  (loopP (S.slices_Equal_int_int.b0 s1_ s2_ n3 σ) 0).bind fun r13 =>
  (match r13 with
 | .inl y14 => some true
 | .inr y15 => some y15))
noncomputable def W.slices_Equal_int_int : Spec := .pur [.B] fun args σ => packs args [.V, .V] fun x => S.slices_Equal_int_int x.1 x.2 σ


noncomputable def S.rup_Base_find.b0 (p13 : AVal) (p14 : AVal) (p15 : AVal) (p16 : Int) (σ0 : Heap) : Int → Option (Int ⊕ (Unit ⊕ Int)) := fun x17 =>
  cond (decide (x17 < p16)) (
  ixA σ0 p15 1 x17 fun a19 =>
  ld σ0 a19 (.I .i64) fun n20 =>
  (nilck p13 (
  fld p13 2 fun a21 =>
  ld σ0 a21 (.V) fun v22 =>
  ixA σ0 v22 1 n20 fun a23 =>
  ld σ0 a23 (.B) fun b24 =>
  cond b24 (
  nilck p13 (
  fld p13 1 fun a25 =>
  ld σ0 a25 (.V) fun v26 =>
  ixA σ0 v26 1 n20 fun a27 =>
  ld σ0 a27 (.V) fun v28 =>
  (S.slices_Equal_int_int v28 p14 σ0).bind fun r29 =>
  some r29))
  (some false))).bind fun r30 =>
  cond r30 (
  some (.inr (.inr n20)))
  (some (.inl (IntKind.i64.wrap (x17 + 1)))))
  (some (.inr (.inl ())))
noncomputable def S.rup_Base_find (b_ : AVal) (c_ : AVal) (σ : Heap) : Option (Int × Heap) :=
  (S.lits_Norm c_ σ).bind fun r1 =>
  nilck b_ (
  fld b_ 4 fun a2 =>
  ld r1.2 a2 (.V) fun v3 =>
  lenV r1.1.1 fun n4 =>
  (cond (decide (n4 > 0)) (
  nilck b_ (
  fld b_ 3 fun a5 =>
  ld r1.2 a5 (.V) fun v6 =>
  ixA r1.2 r1.1.1 1 0 fun a7 =>
  ld r1.2 a7 (.I .i64) fun n8 =>
  mgetZ r1.2 v6 .i64 n8 .nils fun x9 b10 =>
  some (x9, r1.2)))
  (some (v3, r1.2))).bind fun r11 =>
  lenV r11.1 fun n12 =>
  (loopP (S.rup_Base_find.b0 b_ r1.1.1 r11.1 n12 r11.2) 0).bind fun r31 =>
  (match r31 with
 | .inl y32 => some ((-1), r11.2)
 | .inr y33 => some (y33, r11.2)))
noncomputable def W.rup_Base_find : Spec := .eff [.I .i64] fun args σ => packs args [.V, .V] fun x => S.rup_Base_find x.1 x.2 σ


noncomputable def S.rup_gone (l_ : AVal) (id_ : Int) (σ : Heap) : Option (AVal × Heap) :=
  newK σ 1 [(.int .i64 id_)] fun l1 σ2 =>
  (S.slices_DeleteFunc_int_int l_ (.fn (.func 153) [] [(.ptr l1 0)]) σ2).bind fun r3 =>
  some (r3.1, r3.2)
noncomputable def W.rup_gone : Spec := .eff [.V] fun args σ => packs args [.V, .I .i64] fun x => S.rup_gone x.1 x.2 σ


noncomputable def S.rup_Base_Drop.b0 (p7 : AVal) (p8 : Int) (p9 : AVal) (p10 : Int) : Int → Heap → Option ((Int ⊕ Unit) × Heap) := fun x11 σ12 =>
  cond (decide (x11 < p10)) (
  ixA σ12 p9 1 x11 fun a13 =>
  ld σ12 a13 (.I .i64) fun n14 =>
  nilck p7 (
  fld p7 3 fun a15 =>
  ld σ12 a15 (.V) fun v16 =>
  nilck p7 (
  fld p7 3 fun a17 =>
  ld σ12 a17 (.V) fun v18 =>
  mgetZ σ12 v18 .i64 n14 .nils fun x19 b20 =>
  ld σ12 a15 (.V) fun v21 =>
  chk ((v21 : AVal) = v16) (
  (S.rup_gone x19 p8 σ12).bind fun r22 =>
  ld r22.2 a15 (.V) fun v23 =>
  chk ((v23 : AVal) = v16) (
  mputK r22.2 v16 .i64 n14 r22.1 fun σ24 =>
  some (.inl (IntKind.i64.wrap (x11 + 1)), σ24))))))
  (some (.inr (), σ12))
noncomputable def S.rup_Base_Drop (p0 : AVal) (p1 : AVal) (σ : Heap) : Option (Bool × Heap) :=
  (S.rup_Base_find p0 p1 σ).bind fun r1 =>
  cond (decide (r1.1 < 0)) (
  some (false, r1.2))
  (nilck p0 (
  fld p0 1 fun a2 =>
  ld r1.2 a2 (.V) fun v3 =>
  ixA r1.2 v3 1 r1.1 fun a4 =>
  ld r1.2 a4 (.V) fun v5 =>
  lenV v5 fun n6 =>
  (loopW (S.rup_Base_Drop.b0 p0 r1.1 v5 n6) 0 r1.2).bind fun r25 =>
  nilck p0 (
  fld p0 4 fun a26 =>
  ld r25.2 a26 (.V) fun v27 =>
  (S.rup_gone v27 r1.1 r25.2).bind fun r28 =>
  nilck p0 (
  fld p0 4 fun a29 =>
  scal r28.1 (
  stC r28.2 a29 [r28.1] fun σ30 =>
  nilck p0 (
  fld p0 1 fun a31 =>
  ld σ30 a31 (.V) fun v32 =>
  nilck p0 (
  fld p0 2 fun a33 =>
  ld σ30 a33 (.V) fun v34 =>
  ixA σ30 v32 1 r1.1 fun a35 =>
  stC σ30 a35 [.nils] fun σ36 =>
  ixA σ36 v34 1 r1.1 fun a37 =>
  stC σ36 a37 [(.bool false)] fun σ38 =>
  nilck p0 (
  fld p0 5 fun a39 =>
  ld σ38 a39 (.I .i64) fun n40 =>
  nilck p0 (
  fld p0 5 fun a41 =>
  stC σ38 a41 [(.int .i64 (IntKind.i64.wrap (n40 - 1)))] fun σ42 =>
  some (true, σ42))))))))))
noncomputable def W.rup_Base_Drop : Spec := .eff [.B] fun args σ => packs args [.V, .V] fun x => S.rup_Base_Drop x.1 x.2 σ


noncomputable def S.pace_New_1 (l_ : AVal) (σ : Heap) : Option (AVal × Heap) :=
  newK σ 2 [.nils, (.int .i64 0)] fun l1 σ2 =>
  (S.slices_Clone_int_int l_ σ2).bind fun r3 =>
  scal r3.1 (
  stC r3.2 (.ptr l1 0) [r3.1, (.int .i64 0)] fun σ4 =>
  ldG σ4 (.ptr l1 0) 2 fun g5 =>
  some (g5, σ4))
noncomputable def W.pace_New_1 : Spec := .eff [.V] fun args σ => packs args [.V] fun x => S.pace_New_1 x σ


noncomputable def S.drat_steps.T : FuncId → Option Spec := (tab 99 W.rup_Base_Add (tab 104 W.pace_New_1 (tab 80 W.rup_Base_Implied (tab 79 W.rup_Base_Blocked (tab 98 W.rup_Base_Drop noSpec)))))
noncomputable def S.drat_steps.b0 (p2 : AVal) (p3 : AVal) (p4 : AVal) (p5 : Int) : Int → Heap → Option ((Int ⊕ (Unit ⊕ AVal)) × Heap) := fun x6 σ7 =>
  cond (decide (x6 < p5)) (
  (ixA σ7 p4 2 x6 fun a8 =>
  ldG σ7 a8 2 fun g9 =>
  newK σ7 2 [(.bool false), .nils] fun l10 σ11 =>
  aggK g9 2 fun cs12 =>
  stC σ11 (.ptr l10 0) cs12 fun σ13 =>
  (ld σ13 (.ptr l10 0) (.B) fun b14 =>
  cond b14 (
  ld σ13 (.ptr l10 1) (.V) fun v15 =>
  (S.rup_Base_Drop p2 v15 σ13).bind fun r16 =>
  some (r16.1, r16.2))
  (some (false, σ13))).bind fun r17 =>
  cond r17.1 (
  some (.inl (), r17.2))
  ((ld r17.2 (.ptr l10 0) (.B) fun b18 =>
  cond b18 (
  some (true, r17.2))
  (ld r17.2 (.ptr l10 1) (.V) fun v19 =>
  callV S.drat_steps.T p3 [v19] r17.2 fun r20 σ21 =>
  asK (.B) r20 fun b22 =>
  cond (!b22) (
  some (true, σ21))
  (ld σ21 (.ptr l10 1) (.V) fun v23 =>
  (S.rup_Base_Add p2 v23 σ21).bind fun r24 =>
  some ((!r24.1), r24.2)))).bind fun r25 =>
  cond r25.1 (
  ld r25.2 (.ptr 1 0) (.V) fun v26 =>
  scal v26 (
  newK r25.2 2 [(.int .i64 x6), v26] fun l27 σ28 =>
  some (.inr (.ifc 135 (.ptr l27 0)), σ28)))
  (some (.inl (), r25.2))) : Option ((Unit ⊕ AVal) × Heap)).bind fun r29 =>
  (match r29.1 with
 | .inl y30 => some (.inl (IntKind.i64.wrap (x6 + 1)), r29.2)
 | .inr y31 => some (.inr (.inr y31), r29.2)))
  (some (.inr (.inl ()), σ7))
noncomputable def S.drat_steps (b_ : AVal) (l_ : AVal) (may_ : AVal) (σ : Heap) : Option (AVal × Heap) :=
  lenV l_ fun n1 =>
  (loopW (S.drat_steps.b0 b_ may_ l_ n1) 0 σ).bind fun r32 =>
  (match r32.1 with
 | .inl y33 => some (.nili, r32.2)
 | .inr y34 => some (y34, r32.2))
noncomputable def W.drat_steps : Spec := .eff [.V] fun args σ => packs args [.V, .V, .V] fun x => S.drat_steps x.1 x.2.1 x.2.2 σ


noncomputable def S.drat_Refute (c_ : AVal) (l_ : AVal) (σ : Heap) : Option (AVal × Heap) :=
  aggK c_ 2 fun cs1 =>
  newK σ 2 cs1 fun l2 σ3 =>
  ldG σ3 (.ptr l2 0) 2 fun g4 =>
  (S.drat_begin g4 l_ σ3).bind fun r5 =>
  eqI (tiOf Tryd.prog) r5.2 true r5.1.2.2 .nili fun b6 =>
  cond (!b6) (
  some (r5.1.2.2, r5.2))
  ((S.drat_steps r5.1.1 l_ (.fn (.func 79) [r5.1.1] []) r5.2).bind fun r7 =>
  eqI (tiOf Tryd.prog) r7.2 true r7.1 .nili fun b8 =>
  cond (!b8) (
  some (r7.1, r7.2))
  ((S.rup_Base_Implied r5.1.1 .nils r7.2).bind fun r9 =>
  cond (!r9.1) (
  ld r9.2 (.ptr 1 0) (.V) fun v10 =>
  some (v10, r9.2))
  (some (.nili, r9.2))))
noncomputable def W.drat_Refute : Spec := .eff [.V] fun args σ => packs args [.V, .V] fun x => S.drat_Refute x.1 x.2 σ


noncomputable def S.skolemlaw22_first (σ : Heap) : Option (Bool × Heap) :=
  newK σ 1 [(.int .i64 1)] fun l1 σ2 =>
  newK σ2 1 [(.int .i64 (-1))] fun l3 σ4 =>
  newK σ4 1 [(.sl l1 0 1 none), (.sl l3 0 1 none)] fun l5 σ6 =>
  newK σ6 2 [(.int .i64 0), .nils] fun l7 σ8 =>
  stC σ8 (.ptr l7 0) [(.int .i64 1), (.sl l5 0 2 none)] fun σ9 =>
  (ldG σ9 (.ptr l7 0) 2 fun g10 =>
  (S.drat_Refute g10 .nils σ9).bind fun r11 =>
  eqI (tiOf Tryd.prog) r11.2 true r11.1 .nili fun b12 =>
  cond b12 (
  (S.drat_Refute (.agg [(.int .i64 1), .nils]) .nils r11.2).bind fun r13 =>
  eqI (tiOf Tryd.prog) r13.2 true r13.1 .nili fun b14 =>
  some ((!b14), r13.2))
  (some (false, r11.2))).bind fun r15 =>
  some (r15.1, r15.2)
noncomputable def W.skolemlaw22_first : Spec := .eff [.B] fun args σ => packs args [] fun x => S.skolemlaw22_first σ


noncomputable def S.drat_Derive.b0 (p10 : AVal) (p11 : AVal) (p12 : Int) (p13 : Int) (σ0 : Heap) : Int → Option (Int ⊕ (Unit ⊕ AVal)) := fun x14 =>
  cond (decide (x14 < p13)) (
  ixA σ0 p10 1 x14 fun a16 =>
  ld σ0 a16 (.I .i64) fun n17 =>
  (S.lits_Is n17 p12 σ0).bind fun r18 =>
  cond (!r18) (
  ld σ0 (.ptr 2 0) (.V) fun v19 =>
  some (.inr (.inr v19)))
  (some (.inl (IntKind.i64.wrap (x14 + 1)))))
  (some (.inr (.inl ())))
noncomputable def S.drat_Derive (c_ : AVal) (l_ : AVal) (goal_ : AVal) (σ : Heap) : Option (AVal × Heap) :=
  aggK c_ 2 fun cs1 =>
  newK σ 2 cs1 fun l2 σ3 =>
  ldG σ3 (.ptr l2 0) 2 fun g4 =>
  (S.drat_begin g4 l_ σ3).bind fun r5 =>
  eqI (tiOf Tryd.prog) r5.2 true r5.1.2.2 .nili fun b6 =>
  cond (!b6) (
  some (r5.1.2.2, r5.2))
  ((S.drat_steps r5.1.1 l_ (.fn (.func 80) [r5.1.1] []) r5.2).bind fun r7 =>
  eqI (tiOf Tryd.prog) r7.2 true r7.1 .nili fun b8 =>
  cond (!b8) (
  some (r7.1, r7.2))
  (lenV goal_ fun n9 =>
  (loopP (S.drat_Derive.b0 goal_ r5.1.1 r5.1.2.1 n9 r7.2) 0).bind fun r20 =>
  (match r20 with
 | .inl y21 => (S.rup_Base_Implied r5.1.1 goal_ r7.2).bind fun r23 =>
  cond (!r23.1) (
  ld r23.2 (.ptr 1 0) (.V) fun v24 =>
  some (v24, r23.2))
  (some (.nili, r23.2))
 | .inr y22 => some (y22, r7.2))))
noncomputable def W.drat_Derive : Spec := .eff [.V] fun args σ => packs args [.V, .V, .V] fun x => S.drat_Derive x.1 x.2.1 x.2.2 σ


noncomputable def S.skolemref_Steps.b0 (p4 : AVal) : (AVal × Int) → Heap → Option (((AVal × Int) ⊕ AVal) × Heap) := fun x5 σ6 =>
  lenV p4 fun n7 =>
  cond (decide (x5.2 < n7)) (
  ixA σ6 p4 2 x5.2 fun a8 =>
  ldG σ6 a8 2 fun g9 =>
  aggK g9 2 fun cs10 =>
  putC [(.bool false), .nils] 0 2 cs10 fun cs11 =>
  newK σ6 2 cs11 fun l12 σ13 =>
  appS σ13 2 32 x5.1 (.sl l12 0 1 none) fun v14 σ15 =>
  some (.inl (v14, (IntKind.i64.wrap (x5.2 + 1))), σ15))
  (some (.inr x5.1, σ6))
noncomputable def S.skolemref_Steps (l_ : AVal) (σ : Heap) : Option (AVal × Heap) :=
  lenV l_ fun n1 =>
  mkS σ 2 32 [(.bool false), .nils] 0 n1 fun v2 σ3 =>
  (loopW (S.skolemref_Steps.b0 l_) (v2, 0) σ3).bind fun r16 =>
  some (r16.1, r16.2)
noncomputable def W.skolemref_Steps : Spec := .eff [.V] fun args σ => packs args [.V] fun x => S.skolemref_Steps x σ


noncomputable def S.skolemlaw22_DratPlaces.b0 (p7 : Int) (p8 : Int) (p9 : Bool) (p10 : Bool) (p11 : AVal) : Int → Heap → Option ((Int ⊕ Unit) × Heap) := fun x12 σ13 =>
  cond (decide (x12 < p7)) (
  fld p11 1 fun a14 =>
  ld σ13 a14 (.V) fun v15 =>
  newK σ13 1 [(.int .i64 (IntKind.i64.wrap (0 - x12))), (.int .i64 (IntKind.i64.wrap (x12 + 1)))] fun l16 σ17 =>
  newK σ17 1 [(.sl l16 0 2 none)] fun l18 σ19 =>
  appS σ19 1 24 v15 (.sl l18 0 1 none) fun v20 σ21 =>
  fld p11 1 fun a22 =>
  scal v20 (
  stC σ21 a22 [v20] fun σ23 =>
  some (.inl (IntKind.i64.wrap (x12 + 1)), σ23)))
  (some (.inr (), σ13))
noncomputable def S.skolemlaw22_DratPlaces.b1 (p25 : Int) (p26 : Int) (p27 : Bool) (p28 : Bool) (p29 : AVal) : (AVal × Int) → Heap → Option (((AVal × Int) ⊕ AVal) × Heap) := fun x30 σ31 =>
  cond (decide (x30.2 ≤ p25)) (
  newK σ31 1 [(.int .i64 (-1)), (.int .i64 x30.2)] fun l32 σ33 =>
  newK σ33 2 [(.bool false), (.sl l32 0 2 none)] fun l34 σ35 =>
  appS σ35 2 32 x30.1 (.sl l34 0 1 none) fun v36 σ37 =>
  some (.inl (v36, (IntKind.i64.wrap (x30.2 + 1))), σ37))
  (some (.inr x30.1, σ31))
noncomputable def S.skolemlaw22_DratPlaces (p0 : Int) (p1 : Int) (p2 : Bool) (σ : Heap) : Option (Bool × Heap) :=
  (S.skolemlaw22_first σ).bind fun r1 =>
  cond (!r1.1) (
  some (false, r1.2))
  ((S.skolemworld_Number p0 12 r1.2).bind fun r2 =>
  (S.skolemworld_Number p1 (IntKind.i64.wrap (r2 + 2)) r1.2).bind fun r3 =>
  newK r1.2 2 [(.int .i64 0), .nils] fun l4 σ5 =>
  stC σ5 (.ptr l4 0) [(.int .i64 (IntKind.i64.wrap ((IntKind.i64.wrap (r2 + 2)) + 3))), .nils] fun σ6 =>
  (loopW (S.skolemlaw22_DratPlaces.b0 (IntKind.i64.wrap (r2 + 2)) r3 p2 r1.1 (.ptr l4 0)) 1 σ6).bind fun r24 =>
  (loopW (S.skolemlaw22_DratPlaces.b1 (IntKind.i64.wrap (r2 + 2)) r3 p2 r1.1 (.ptr l4 0)) (.nils, 2) r24.2).bind fun r38 =>
  newK r38.2 1 [(.int .i64 (IntKind.i64.wrap ((IntKind.i64.wrap (r2 + 2)) + 1)))] fun l39 σ40 =>
  newK σ40 2 [(.bool false), .nils] fun l41 σ42 =>
  stC σ42 (.ptr l41 0) [(.bool p2), (.sl l39 0 1 none)] fun σ43 =>
  (cond (!p2) (
  ld σ43 (.ptr l4 1) (.V) fun v44 =>
  newK σ43 1 [(.int .i64 (IntKind.i64.wrap ((IntKind.i64.wrap (0 - (IntKind.i64.wrap (r2 + 2)))) - 1))), (.int .i64 (IntKind.i64.wrap ((IntKind.i64.wrap (r2 + 2)) + 2)))] fun l45 σ46 =>
  newK σ46 1 [(.int .i64 (IntKind.i64.wrap ((IntKind.i64.wrap (0 - (IntKind.i64.wrap (r2 + 2)))) - 1))), (.int .i64 (IntKind.i64.wrap ((IntKind.i64.wrap (0 - (IntKind.i64.wrap (r2 + 2)))) - 2)))] fun l47 σ48 =>
  newK σ48 1 [(.sl l45 0 2 none), (.sl l47 0 2 none)] fun l49 σ50 =>
  appS σ50 1 24 v44 (.sl l49 0 2 none) fun v51 σ52 =>
  scal v51 (
  stC σ52 (.ptr l4 1) [v51] fun σ53 =>
  some ((), σ53)))
  (some ((), σ43))).bind fun r54 =>
  lenV r38.1 fun n55 =>
  slS r54.2 2 r38.1 0 (some (if n55 < r3 then n55 else r3)) none fun v56 =>
  (S.skolemref_Steps v56 r54.2).bind fun r57 =>
  ldG r57.2 (.ptr l41 0) 2 fun g58 =>
  ldG r54.2 (.ptr l41 0) 2 fun g59 =>
  chk ((g59 : AVal) = g58) (
  aggK g58 2 fun cs60 =>
  putC [(.bool false), .nils] 0 2 cs60 fun cs61 =>
  newK r57.2 2 cs61 fun l62 σ63 =>
  appS σ63 2 32 r57.1 (.sl l62 0 1 none) fun v64 σ65 =>
  newK σ65 1 [(.int .i64 (IntKind.i64.wrap ((IntKind.i64.wrap (r2 + 2)) + 3)))] fun l66 σ67 =>
  newK σ67 2 [(.bool true), (.sl l66 0 1 none)] fun l68 σ69 =>
  appS σ69 2 32 v64 (.sl l68 0 1 none) fun v70 σ71 =>
  slS σ71 2 r38.1 (if n55 < r3 then n55 else r3) none none fun v72 =>
  appS σ71 2 32 v70 v72 fun v73 σ74 =>
  ldG σ74 (.ptr l4 0) 2 fun g75 =>
  (S.drat_Refute g75 v73 σ74).bind fun r76 =>
  ldG r76.2 (.ptr l4 0) 2 fun g77 =>
  (S.drat_Refute g77 r38.1 r76.2).bind fun r78 =>
  (cond r1.1 (
  (S.skolemref_Placed 106 (if n55 < r3 then n55 else r3) r78.2).bind fun r79 =>
  (S.skolemsee_Same r76.1 r79.1 r79.2).bind fun r80 =>
  cond r80.1 (
  (S.skolemref_Bare 106 r80.2).bind fun r81 =>
  (S.skolemsee_Same r78.1 r81.1 r81.2).bind fun r82 =>
  cond r82.1 (
  ldG r82.2 (.ptr l4 0) 2 fun g83 =>
  newK r82.2 1 [(.int .i64 (-1)), (.int .i64 (IntKind.i64.wrap (r2 + 2)))] fun l84 σ85 =>
  (S.drat_Derive g83 r38.1 (.sl l84 0 2 none) σ85).bind fun r86 =>
  eqI (tiOf Tryd.prog) r86.2 true r86.1 .nili fun b87 =>
  cond b87 (
  ldG r86.2 (.ptr l4 0) 2 fun g88 =>
  newK r86.2 1 [(.int .i64 (-1)), (.int .i64 (IntKind.i64.wrap (r2 + 2)))] fun l89 σ90 =>
  (S.drat_Derive g88 v73 (.sl l89 0 2 none) σ90).bind fun r91 =>
  (S.skolemref_Placed 106 (if n55 < r3 then n55 else r3) r91.2).bind fun r92 =>
  (S.skolemsee_Same r91.1 r92.1 r92.2).bind fun r93 =>
  some (r93.1, r93.2))
  (some (false, r86.2)))
  (some (false, r82.2)))
  (some (false, r80.2)))
  (some (false, r78.2))).bind fun r94 =>
  some (r94.1, r94.2)))
noncomputable def W.skolemlaw22_DratPlaces : Spec := .eff [.B] fun args σ => packs args [.I .i64, .I .i64, .B] fun x => S.skolemlaw22_DratPlaces x.1 x.2.1 x.2.2 σ


end Go.Proofs.YtgneblbblihaoaaDoor.A
