/- Parts of the proof, one behind another. -/
import Derived.Test.YtgneblbblihaoaaDoorProg
import Derived.Test.YtgneblbblihaoaaDoorX0
set_option linter.all false
set_option linter.unusedVariables false
namespace Go.Proofs.YtgneblbblihaoaaDoor.A
open Go


noncomputable def S.lits_Is (l_ : Int) (vars_ : Int) (σ : Heap) : Option Bool :=
  (cond (l_ != 0) (
  cond (decide (l_ ≥ (IntKind.i64.wrap (0 - vars_)))) (
  some (decide (l_ ≤ vars_)))
  (some false))
  (some false)).bind fun r1 =>
  some r1
noncomputable def W.lits_Is : Spec := .pur [.B] fun args σ => packs args [.I .i64, .I .i64] fun x => S.lits_Is x.1 x.2 σ


noncomputable def S.lits_Check_1 (l_ : Int) (p1 : AVal) (σ : Heap) : Option Bool :=
  fld p1 0 fun a1 =>
  ld σ a1 (.I .i64) fun n2 =>
  (S.lits_Is l_ n2 σ).bind fun r3 =>
  some (!r3)
noncomputable def W.lits_Check_1 : Spec := .pur [.B] fun args σ => packs args [.I .i64, .V] fun x => S.lits_Check_1 x.1 x.2 σ


noncomputable def S.rup_Base_right_1 (l_ : Int) (p1 : AVal) (σ : Heap) : Option Bool :=
  ld σ p1 (.V) fun v1 =>
  nilck v1 (
  fld v1 0 fun a2 =>
  ld σ a2 (.I .i64) fun n3 =>
  (S.lits_Is l_ n3 σ).bind fun r4 =>
  some (!r4))
noncomputable def W.rup_Base_right_1 : Spec := .pur [.B] fun args σ => packs args [.I .i64, .V] fun x => S.rup_Base_right_1 x.1 x.2 σ


noncomputable def S.lits_Var (l_ : Int) (σ : Heap) : Option Int :=
  some (if (IntKind.i64.wrap (0 - l_)) > l_ then (IntKind.i64.wrap (0 - l_)) else l_)
noncomputable def W.lits_Var : Spec := .pur [.I .i64] fun args σ => packs args [.I .i64] fun x => S.lits_Var x σ


noncomputable def S.cmp_isNaN_int (x_ : Int) (σ : Heap) : Option Bool :=
  some (x_ != x_)
noncomputable def W.cmp_isNaN_int : Spec := .pur [.B] fun args σ => packs args [.I .i64] fun x => S.cmp_isNaN_int x σ


noncomputable def S.cmp_Compare_int (x_ : Int) (y_ : Int) (σ : Heap) : Option Int :=
  (S.cmp_isNaN_int x_ σ).bind fun r1 =>
  (S.cmp_isNaN_int y_ σ).bind fun r2 =>
  cond r1 (
  cond r2 (
  some 0)
  (some (-1)))
  (cond r2 (
  some 1)
  (cond (decide (x_ < y_)) (
  some (-1))
  (cond (decide (x_ > y_)) (
  some 1)
  (some 0))))
noncomputable def W.cmp_Compare_int : Spec := .pur [.I .i64] fun args σ => packs args [.I .i64, .I .i64] fun x => S.cmp_Compare_int x.1 x.2 σ


noncomputable def S.cmp_Or_int.b0 (p2 : AVal) (p3 : Int) (σ0 : Heap) : Int → Option (Int ⊕ (Unit ⊕ Int)) := fun x4 =>
  cond (decide (x4 < p3)) (
  ixA σ0 p2 1 x4 fun a6 =>
  ld σ0 a6 (.I .i64) fun n7 =>
  cond (n7 != 0) (
  some (.inr (.inr n7)))
  (some (.inl (IntKind.i64.wrap (x4 + 1)))))
  (some (.inr (.inl ())))
noncomputable def S.cmp_Or_int (vals_ : AVal) (σ : Heap) : Option Int :=
  lenV vals_ fun n1 =>
  (loopP (S.cmp_Or_int.b0 vals_ n1 σ) 0).bind fun r8 =>
  (match r8 with
 | .inl y9 => some 0
 | .inr y10 => some y10)
noncomputable def W.cmp_Or_int : Spec := .pur [.I .i64] fun args σ => packs args [.V] fun x => S.cmp_Or_int x σ


noncomputable def S.lits_order (a_ : Int) (b_ : Int) (σ : Heap) : Option (Int × Heap) :=
  (S.lits_Var a_ σ).bind fun r1 =>
  (S.lits_Var b_ σ).bind fun r2 =>
  (S.cmp_Compare_int r1 r2 σ).bind fun r3 =>
  (S.cmp_Compare_int a_ b_ σ).bind fun r4 =>
  newK σ 1 [(.int .i64 r3), (.int .i64 r4)] fun l5 σ6 =>
  (S.cmp_Or_int (.sl l5 0 2 none) σ6).bind fun r7 =>
  some (r7, σ6)
noncomputable def W.lits_order : Spec := .eff [.I .i64] fun args σ => packs args [.I .i64, .I .i64] fun x => S.lits_order x.1 x.2 σ


noncomputable def S.assign_Assign_Value (a_ : AVal) (l_ : Int) (σ : Heap) : Option Int :=
  nilck a_ (
  fld a_ 0 fun a1 =>
  ld σ a1 (.V) fun v2 =>
  lenV v2 fun n3 =>
  (S.lits_Is l_ (IntKind.i64.wrap (n3 - 1)) σ).bind fun r4 =>
  cond (!r4) (
  some 0)
  (nilck a_ (
  fld a_ 0 fun a5 =>
  ld σ a5 (.V) fun v6 =>
  (S.lits_Var l_ σ).bind fun r7 =>
  ixA σ v6 1 r7 fun a8 =>
  ld σ a8 (.I .i8) fun n9 =>
  (cond (decide (l_ < 0)) (
  some ((IntKind.i64.wrap n9) != 0))
  (some false)).bind fun r10 =>
  (cond r10 (
  some (IntKind.i64.wrap (3 - (IntKind.i64.wrap n9))))
  (some (IntKind.i64.wrap n9))).bind fun r11 =>
  some r11)))
noncomputable def W.assign_Assign_Value : Spec := .pur [.I .i64] fun args σ => packs args [.V, .I .i64] fun x => S.assign_Assign_Value x.1 x.2 σ


noncomputable def S.assign_Assign_Set (a_ : AVal) (l_ : Int) (σ : Heap) : Option (Bool × Heap) :=
  (nilck a_ (
  fld a_ 0 fun a1 =>
  ld σ a1 (.V) fun v2 =>
  lenV v2 fun n3 =>
  (S.lits_Is l_ (IntKind.i64.wrap (n3 - 1)) σ).bind fun r4 =>
  cond (!r4) (
  some true)
  ((S.assign_Assign_Value a_ l_ σ).bind fun r5 =>
  some (r5 == 2)))).bind fun r6 =>
  cond r6 (
  some (false, σ))
  ((cond (decide (l_ > 0)) (
  nilck a_ (
  fld a_ 0 fun a7 =>
  ld σ a7 (.V) fun v8 =>
  ixA σ v8 1 l_ fun a9 =>
  stC σ a9 [(.int .i8 1)] fun σ10 =>
  some ((), σ10)))
  (nilck a_ (
  fld a_ 0 fun a11 =>
  ld σ a11 (.V) fun v12 =>
  ixA σ v12 1 (IntKind.i64.wrap (0 - l_)) fun a13 =>
  stC σ a13 [(.int .i8 2)] fun σ14 =>
  some ((), σ14)))).bind fun r15 =>
  some (true, r15.2))
noncomputable def W.assign_Assign_Set : Spec := .eff [.B] fun args σ => packs args [.V, .I .i64] fun x => S.assign_Assign_Set x.1 x.2 σ


noncomputable def S.rup_Base_closure_1 (l_ : Int) (p1 : AVal) (p2 : AVal) (σ : Heap) : Option (Bool × Heap) :=
  ld σ p1 (.V) fun v1 =>
  (S.assign_Assign_Value v1 l_ σ).bind fun r2 =>
  cond (r2 == 1) (
  some (true, σ))
  (ld σ p2 (.V) fun v3 =>
  newK σ 1 [(.int .i64 l_)] fun l4 σ5 =>
  appS σ5 1 8 v3 (.sl l4 0 1 none) fun v6 σ7 =>
  scal v6 (
  stC σ7 p2 [v6] fun σ8 =>
  ld σ8 p1 (.V) fun v9 =>
  (S.assign_Assign_Set v9 l_ σ8).bind fun r10 =>
  some (r10.1, r10.2)))
noncomputable def W.rup_Base_closure_1 : Spec := .eff [.B] fun args σ => packs args [.I .i64, .V, .V] fun x => S.rup_Base_closure_1 x.1 x.2.1 x.2.2 σ


noncomputable def S.assign_Assign_Clause.b0 (p2 : AVal) (p3 : AVal) (p4 : Int) (σ0 : Heap) : (Int × Int × Int × Int) → Option ((Int × Int × Int × Int) ⊕ ((Int × Int × Int))) := fun x5 =>
  cond (decide (x5.2.2.2 < p4)) (
  (ixA σ0 p3 1 x5.2.2.2 fun a7 =>
  ld σ0 a7 (.I .i64) fun n8 =>
  (S.assign_Assign_Value p2 n8 σ0).bind fun r9 =>
  cond (r9 == 2) (
  some (x5.1, x5.2.1, x5.2.2.1))
  ((cond (r9 == 1) (
  some 1)
  (cond (x5.2.2.1 == 2) (
  some 0)
  (some x5.2.2.1))).bind fun r10 =>
  (cond (x5.2.1 == 0) (
  some true)
  (some (n8 != x5.1))).bind fun r11 =>
  cond r11 (
  some (n8, (IntKind.i64.wrap (x5.2.1 + 1)), r10))
  (some (x5.1, x5.2.1, r10)))).bind fun r12 =>
  some (.inl (r12.1, r12.2.1, r12.2.2, (IntKind.i64.wrap (x5.2.2.2 + 1)))))
  (some (.inr (x5.1, x5.2.1, x5.2.2.1)))
noncomputable def S.assign_Assign_Clause (a_ : AVal) (c_ : AVal) (σ : Heap) : Option (Int × Int) :=
  lenV c_ fun n1 =>
  (loopP (S.assign_Assign_Clause.b0 a_ c_ n1 σ) (0, 0, 2, 0)).bind fun r13 =>
  (cond (r13.2.1 != 1) (
  some true)
  (some (r13.2.2 != 0))).bind fun r14 =>
  (cond r14 (
  some 0)
  (some r13.1)).bind fun r15 =>
  some (r13.2.2, r15)
noncomputable def W.assign_Assign_Clause : Spec := .pur [.I .i64, .I .i64] fun args σ => packs args [.V, .V] fun x => S.assign_Assign_Clause x.1 x.2 σ


noncomputable def S.rup_Base_closure_2.T : FuncId → Option Spec := (tab 127 W.rup_Base_closure_1 (tab 131 W.assign_Assign_Clause noSpec))
noncomputable def S.rup_Base_closure_2 (id_ : Int) (p1 : AVal) (p2 : AVal) (p3 : AVal) (σ : Heap) : Option (Bool × Heap) :=
  ld σ p1 (.V) fun v1 =>
  ld σ p2 (.V) fun v2 =>
  nilck v2 (
  fld v2 1 fun a3 =>
  ld σ a3 (.V) fun v4 =>
  ixA σ v4 1 id_ fun a5 =>
  ld σ a5 (.V) fun v6 =>
  (S.assign_Assign_Clause v1 v6 σ).bind fun r7 =>
  (cond (r7.1 != 2) (
  cond (r7.2 == 0) (
  some (true, σ))
  (ld σ p3 (.V) fun v8 =>
  callV S.rup_Base_closure_2.T v8 [(.int .i64 r7.2)] σ fun r9 σ10 =>
  asK (.B) r9 fun b11 =>
  some (b11, σ10)))
  (some (false, σ))).bind fun r12 =>
  some (r12.1, r12.2))
noncomputable def W.rup_Base_closure_2 : Spec := .eff [.B] fun args σ => packs args [.I .i64, .V, .V, .V] fun x => S.rup_Base_closure_2 x.1 x.2.1 x.2.2.1 x.2.2.2 σ


noncomputable def S.rup_without_1 (x_ : Int) (p1 : AVal) (σ : Heap) : Option Bool :=
  ld σ p1 (.I .i64) fun n1 =>
  some (x_ == n1)
noncomputable def W.rup_without_1 : Spec := .pur [.B] fun args σ => packs args [.I .i64, .V] fun x => S.rup_without_1 x.1 x.2 σ


noncomputable def S.rup_gone_1 (x_ : Int) (p1 : AVal) (σ : Heap) : Option Bool :=
  ld σ p1 (.I .i64) fun n1 =>
  some (x_ == n1)
noncomputable def W.rup_gone_1 : Spec := .pur [.B] fun args σ => packs args [.I .i64, .V] fun x => S.rup_gone_1 x.1 x.2 σ


noncomputable def S.incr_Solver_may_1 (x_ : Int) (p1 : AVal) (σ : Heap) : Option Bool :=
  ld σ p1 (.V) fun v1 =>
  nilck v1 (
  fld v1 1 fun a2 =>
  fld a2 0 fun a3 =>
  ld σ a3 (.I .i64) fun n4 =>
  (S.lits_Is x_ n4 σ).bind fun r5 =>
  some (!r5))
noncomputable def W.incr_Solver_may_1 : Spec := .pur [.B] fun args σ => packs args [.I .i64, .V] fun x => S.incr_Solver_may_1 x.1 x.2 σ


noncomputable def S.assign_Assign_Vars (a_ : AVal) (σ : Heap) : Option Int :=
  nilck a_ (
  fld a_ 0 fun a1 =>
  ld σ a1 (.V) fun v2 =>
  lenV v2 fun n3 =>
  some (IntKind.i64.wrap (n3 - 1)))
noncomputable def W.assign_Assign_Vars : Spec := .pur [.I .i64] fun args σ => packs args [.V] fun x => S.assign_Assign_Vars x σ


noncomputable def S.prop_Prop_Add_1 (x_ : Int) (p1 : AVal) (σ : Heap) : Option Bool :=
  ld σ p1 (.V) fun v1 =>
  nilck v1 (
  fld v1 0 fun a2 =>
  ld σ a2 (.V) fun v3 =>
  (S.assign_Assign_Vars v3 σ).bind fun r4 =>
  (S.lits_Is x_ r4 σ).bind fun r5 =>
  some (!r5))
noncomputable def W.prop_Prop_Add_1 : Spec := .pur [.B] fun args σ => packs args [.I .i64, .V] fun x => S.prop_Prop_Add_1 x.1 x.2 σ


noncomputable def S.prop_Prop_Vars (p_ : AVal) (σ : Heap) : Option Int :=
  nilck p_ (
  fld p_ 0 fun a1 =>
  ld σ a1 (.V) fun v2 =>
  (S.assign_Assign_Vars v2 σ).bind fun r3 =>
  some r3)
noncomputable def W.prop_Prop_Vars : Spec := .pur [.I .i64] fun args σ => packs args [.V] fun x => S.prop_Prop_Vars x σ


noncomputable def S.sat_Engine_Add_1 (l_ : Int) (p1 : AVal) (σ : Heap) : Option Bool :=
  ld σ p1 (.V) fun v1 =>
  nilck v1 (
  fld v1 0 fun a2 =>
  ld σ a2 (.V) fun v3 =>
  (S.prop_Prop_Vars v3 σ).bind fun r4 =>
  (S.lits_Is l_ r4 σ).bind fun r5 =>
  some (!r5))
noncomputable def W.sat_Engine_Add_1 : Spec := .pur [.B] fun args σ => packs args [.I .i64, .V] fun x => S.sat_Engine_Add_1 x.1 x.2 σ


noncomputable def S.slices_IndexFunc_int_int.T : FuncId → Option Spec := (tab 138 W.sat_Engine_Add_1 (tab 160 W.prop_Prop_Add_1 (tab 137 W.incr_Solver_may_1 (tab 153 W.rup_gone_1 (tab 125 W.rup_without_1 (tab 130 W.rup_Base_closure_2 (tab 127 W.rup_Base_closure_1 (tab 155 W.lits_order (tab 123 W.rup_Base_right_1 (tab 111 W.lits_Check_1 noSpec))))))))))
noncomputable def S.slices_IndexFunc_int_int.b0 (p2 : AVal) (p3 : AVal) (p4 : Int) : Int → Heap → Option ((Int ⊕ (Unit ⊕ Int)) × Heap) := fun x5 σ6 =>
  cond (decide (x5 < p4)) (
  ixA σ6 p2 1 x5 fun a7 =>
  ld σ6 a7 (.I .i64) fun n8 =>
  callV S.slices_IndexFunc_int_int.T p3 [(.int .i64 n8)] σ6 fun r9 σ10 =>
  asK (.B) r9 fun b11 =>
  cond b11 (
  some (.inr (.inr x5), σ10))
  (some (.inl (IntKind.i64.wrap (x5 + 1)), σ10)))
  (some (.inr (.inl ()), σ6))
noncomputable def S.slices_IndexFunc_int_int (s_ : AVal) (f_ : AVal) (σ : Heap) : Option (Int × Heap) :=
  lenV s_ fun n1 =>
  (loopW (S.slices_IndexFunc_int_int.b0 s_ f_ n1) 0 σ).bind fun r12 =>
  (match r12.1 with
 | .inl y13 => some ((-1), r12.2)
 | .inr y14 => some (y14, r12.2))
noncomputable def W.slices_IndexFunc_int_int : Spec := .eff [.I .i64] fun args σ => packs args [.V, .V] fun x => S.slices_IndexFunc_int_int x.1 x.2 σ


noncomputable def S.slices_ContainsFunc_int_int (s_ : AVal) (f_ : AVal) (σ : Heap) : Option (Bool × Heap) :=
  (S.slices_IndexFunc_int_int s_ f_ σ).bind fun r1 =>
  some ((decide (r1.1 ≥ 0)), r1.2)
noncomputable def W.slices_ContainsFunc_int_int : Spec := .eff [.B] fun args σ => packs args [.V, .V] fun x => S.slices_ContainsFunc_int_int x.1 x.2 σ


noncomputable def S.lits_Check.b0 (p6 : AVal) (p7 : AVal) (p8 : Int) (σ0 : Heap) : (Int × Int) → Option ((Int × Int) ⊕ Int) := fun x9 =>
  cond (decide (x9.2 < p8)) (
  ixA σ0 p7 1 x9.2 fun a11 =>
  ld σ0 a11 (.V) fun v12 =>
  lenV v12 fun n13 =>
  some (.inl ((IntKind.i64.wrap (x9.1 + n13)), (IntKind.i64.wrap (x9.2 + 1)))))
  (some (.inr x9.1))
noncomputable def S.lits_Check.b1 (p23 : AVal) (p24 : AVal) (p25 : Int) : Int → Heap → Option ((Int ⊕ (Unit ⊕ AVal)) × Heap) := fun x26 σ27 =>
  cond (decide (x26 < p25)) (
  ixA σ27 p24 1 x26 fun a28 =>
  ld σ27 a28 (.V) fun v29 =>
  (S.slices_ContainsFunc_int_int v29 (.fn (.func 111) [] [p23]) σ27).bind fun r30 =>
  cond r30.1 (
  ld r30.2 (.ptr 2 0) (.V) fun v31 =>
  scal v31 (
  newK r30.2 2 [(.int .i64 x26), v31] fun l32 σ33 =>
  some (.inr (.inr (.ifc 135 (.ptr l32 0))), σ33)))
  (some (.inl (IntKind.i64.wrap (x26 + 1)), r30.2)))
  (some (.inr (.inl ()), σ27))
noncomputable def S.lits_Check (c_ : AVal) (σ : Heap) : Option (AVal × Heap) :=
  aggK c_ 2 fun cs1 =>
  newK σ 2 cs1 fun l2 σ3 =>
  ld σ3 (.ptr l2 1) (.V) fun v4 =>
  lenV v4 fun n5 =>
  (loopP (S.lits_Check.b0 (.ptr l2 0) v4 n5 σ3) (0, 0)).bind fun r14 =>
  (ld σ3 (.ptr l2 0) (.I .i64) fun n15 =>
  cond (decide (n15 < 0)) (
  some true)
  (ld σ3 (.ptr l2 0) (.I .i64) fun n16 =>
  cond (decide (n16 > 4000)) (
  some true)
  (ld σ3 (.ptr l2 1) (.V) fun v17 =>
  lenV v17 fun n18 =>
  cond (decide (n18 > 20000)) (
  some true)
  (some (decide (r14 > 80000)))))).bind fun r19 =>
  cond r19 (
  ld σ3 (.ptr 3 0) (.V) fun v20 =>
  some (v20, σ3))
  (ld σ3 (.ptr l2 1) (.V) fun v21 =>
  lenV v21 fun n22 =>
  (loopW (S.lits_Check.b1 (.ptr l2 0) v21 n22) 0 σ3).bind fun r34 =>
  (match r34.1 with
 | .inl y35 => some (.nili, r34.2)
 | .inr y36 => some (y36, r34.2)))
noncomputable def W.lits_Check : Spec := .eff [.V] fun args σ => packs args [.V] fun x => S.lits_Check x σ


noncomputable def S.qdimacs_Check.b0 (p25 : AVal) (p26 : AVal) (p27 : Int) (p28 : AVal) (p29 : Int) (p30 : AVal) (p31 : Int) : Int → Heap → Option ((Int ⊕ (Unit ⊕ AVal)) × Heap) := fun x32 σ33 =>
  cond (decide (x32 < p31)) (
  ixA σ33 p30 1 x32 fun a34 =>
  ld σ33 a34 (.I .i64) fun n35 =>
  (cond (decide (n35 < 1)) (
  some (true, σ33))
  (fld p25 1 fun a36 =>
  fld a36 0 fun a37 =>
  ld σ33 a37 (.I .i64) fun n38 =>
  cond (decide (n35 > n38)) (
  some (true, σ33))
  (mgetZ σ33 p26 .i64 n35 (.bool false) fun x39 b40 =>
  asK (.B) x39 fun b41 =>
  some (b41, σ33)))).bind fun r42 =>
  cond r42.1 (
  ld r42.2 (.ptr 2 0) (.V) fun v43 =>
  scal v43 (
  newK r42.2 2 [(.int .i64 p27), v43] fun l44 σ45 =>
  some (.inr (.inr (.ifc 135 (.ptr l44 0))), σ45)))
  (mputK r42.2 p26 .i64 n35 (.bool true) fun σ46 =>
  some (.inl (IntKind.i64.wrap (x32 + 1)), σ46)))
  (some (.inr (.inl ()), σ33))
noncomputable def S.qdimacs_Check.b1 (p11 : AVal) (p12 : AVal) (p13 : AVal) (p14 : Int) : Int → Heap → Option ((Int ⊕ (Unit ⊕ AVal)) × Heap) := fun x15 σ16 =>
  cond (decide (x15 < p14)) (
  ixA σ16 p13 2 x15 fun a17 =>
  ldG σ16 a17 2 fun g18 =>
  newK σ16 2 [(.bool false), .nils] fun l19 σ20 =>
  aggK g18 2 fun cs21 =>
  stC σ20 (.ptr l19 0) cs21 fun σ22 =>
  ld σ22 (.ptr l19 1) (.V) fun v23 =>
  lenV v23 fun n24 =>
  (loopW (S.qdimacs_Check.b0 p11 p12 x15 p13 p14 v23 n24) 0 σ22).bind fun r47 =>
  (match r47.1 with
 | .inl y48 => some (.inl (IntKind.i64.wrap (x15 + 1)), r47.2)
 | .inr y49 => some (.inr (.inr y49), r47.2)))
  (some (.inr (.inl ()), σ16))
noncomputable def S.qdimacs_Check (f_ : AVal) (σ : Heap) : Option (AVal × Heap) :=
  aggK f_ 3 fun cs1 =>
  newK σ 3 cs1 fun l2 σ3 =>
  ldG σ3 (.ptr l2 1) 2 fun g4 =>
  (S.lits_Check g4 σ3).bind fun r5 =>
  eqI (tiOf Tryd.prog) r5.2 true r5.1 .nili fun b6 =>
  cond (!b6) (
  some (r5.1, r5.2))
  (newM r5.2 fun l7 σ8 =>
  ld σ8 (.ptr l2 0) (.V) fun v9 =>
  lenV v9 fun n10 =>
  (loopW (S.qdimacs_Check.b1 (.ptr l2 0) (.map l7) v9 n10) 0 σ8).bind fun r50 =>
  (match r50.1 with
 | .inl y51 => some (.nili, r50.2)
 | .inr y52 => some (y52, r50.2)))
noncomputable def W.qdimacs_Check : Spec := .eff [.V] fun args σ => packs args [.V] fun x => S.qdimacs_Check x σ


noncomputable def S.maps_Keys_map_int_bool_int_bool (p0 : AVal) (σ : Heap) := keysS 94 p0 σ
noncomputable def W.maps_Keys_map_int_bool_int_bool : Spec := .eff [.V] fun args σ => packs args [.V] fun x => keysS 94 x σ


noncomputable def S.slices_Sorted_int (p0 : AVal) (σ : Heap) := sortedKeysS 94 p0 σ
noncomputable def W.slices_Sorted_int : Spec := .eff [.V] fun args σ => packs args [.V] fun x => sortedKeysS 94 x σ


noncomputable def S.prefix_Free.b0 (p17 : AVal) (p18 : AVal) (p19 : AVal) (p20 : Int) (p21 : Int) (p22 : AVal) (p23 : Int) : Int → Heap → Option ((Int ⊕ Unit) × Heap) := fun x24 σ25 =>
  cond (decide (x24 < p23)) (
  ixA σ25 p22 1 x24 fun a26 =>
  ld σ25 a26 (.I .i64) fun n27 =>
  (S.lits_Var n27 σ25).bind fun r28 =>
  mputK σ25 p18 .i64 r28 (.bool true) fun σ29 =>
  some (.inl (IntKind.i64.wrap (x24 + 1)), σ29))
  (some (.inr (), σ25))
noncomputable def S.prefix_Free.b1 (p8 : AVal) (p9 : AVal) (p10 : AVal) (p11 : Int) : Int → Heap → Option ((Int ⊕ Unit) × Heap) := fun x12 σ13 =>
  cond (decide (x12 < p11)) (
  ixA σ13 p10 1 x12 fun a14 =>
  ld σ13 a14 (.V) fun v15 =>
  lenV v15 fun n16 =>
  (loopW (S.prefix_Free.b0 p8 p9 p10 p11 x12 v15 n16) 0 σ13).bind fun r30 =>
  some (.inl (IntKind.i64.wrap (x12 + 1)), r30.2))
  (some (.inr (), σ13))
noncomputable def S.prefix_Free.b2 (p47 : AVal) (p48 : AVal) (p49 : Int) (p50 : Int) (p51 : AVal) (p52 : Int) : Int → Heap → Option ((Int ⊕ Unit) × Heap) := fun x53 σ54 =>
  cond (decide (x53 < p52)) (
  ixA σ54 p51 1 x53 fun a55 =>
  ld σ54 a55 (.I .i64) fun n56 =>
  mdelK σ54 p47 .i64 n56 fun σ57 =>
  some (.inl (IntKind.i64.wrap (x53 + 1)), σ57))
  (some (.inr (), σ54))
noncomputable def S.prefix_Free.b3 (p34 : AVal) (p35 : AVal) (p36 : Int) : Int → Heap → Option ((Int ⊕ Unit) × Heap) := fun x37 σ38 =>
  cond (decide (x37 < p36)) (
  ixA σ38 p35 2 x37 fun a39 =>
  ldG σ38 a39 2 fun g40 =>
  newK σ38 2 [(.bool false), .nils] fun l41 σ42 =>
  aggK g40 2 fun cs43 =>
  stC σ42 (.ptr l41 0) cs43 fun σ44 =>
  ld σ44 (.ptr l41 1) (.V) fun v45 =>
  lenV v45 fun n46 =>
  (loopW (S.prefix_Free.b2 p34 p35 p36 x37 v45 n46) 0 σ44).bind fun r58 =>
  some (.inl (IntKind.i64.wrap (x37 + 1)), r58.2))
  (some (.inr (), σ38))
noncomputable def S.prefix_Free (f_ : AVal) (σ : Heap) : Option (AVal × Heap) :=
  aggK f_ 3 fun cs1 =>
  newK σ 3 cs1 fun l2 σ3 =>
  newM σ3 fun l4 σ5 =>
  ld σ5 (.ptr l2 2) (.V) fun v6 =>
  lenV v6 fun n7 =>
  (loopW (S.prefix_Free.b1 (.ptr l2 0) (.map l4) v6 n7) 0 σ5).bind fun r31 =>
  ld r31.2 (.ptr l2 0) (.V) fun v32 =>
  lenV v32 fun n33 =>
  (loopW (S.prefix_Free.b3 (.map l4) v32 n33) 0 r31.2).bind fun r59 =>
  (S.maps_Keys_map_int_bool_int_bool (.map l4) r59.2).bind fun r60 =>
  (S.slices_Sorted_int r60.1 r60.2).bind fun r61 =>
  some (r61.1, r61.2)
noncomputable def W.prefix_Free : Spec := .eff [.V] fun args σ => packs args [.V] fun x => S.prefix_Free x σ


noncomputable def S.slices_Grow_int_int (s_ : AVal) (n_ : Int) (σ : Heap) : Option (AVal × Heap) :=
  (cond (decide (n_ < 0)) (
  none)
  (some ((), σ))).bind fun r1 =>
  capV s_ fun n2 =>
  lenV s_ fun n3 =>
  (cond (decide ((IntKind.i64.wrap (n_ - (IntKind.i64.wrap (n2 - n3)))) > 0)) (
  capV s_ fun n4 =>
  slS r1.2 1 s_ 0 (some n4) none fun v5 =>
  appZ r1.2 1 8 [(.int .i64 0)] v5 (IntKind.i64.wrap (n_ - (IntKind.i64.wrap (n2 - n3)))) fun v6 σ7 =>
  lenV s_ fun n8 =>
  slS σ7 1 v6 0 (some n8) none fun v9 =>
  some (v9, σ7))
  (some (s_, r1.2))).bind fun r10 =>
  some (r10.1, r10.2)
noncomputable def W.slices_Grow_int_int : Spec := .eff [.V] fun args σ => packs args [.V, .I .i64] fun x => S.slices_Grow_int_int x.1 x.2 σ


noncomputable def S.slices_Concat_int_int.b0 (p2 : AVal) (p3 : Int) : (Int × Int) → Heap → Option (((Int × Int) ⊕ Int) × Heap) := fun x4 σ5 =>
  cond (decide (x4.2 < p3)) (
  (ixA σ5 p2 1 x4.2 fun a6 =>
  ld σ5 a6 (.V) fun v7 =>
  lenV v7 fun n8 =>
  cond (decide ((IntKind.i64.wrap (x4.1 + n8)) < 0)) (
  none)
  (some ((IntKind.i64.wrap (x4.1 + n8)), σ5))).bind fun r9 =>
  some (.inl (r9.1, (IntKind.i64.wrap (x4.2 + 1))), r9.2))
  (some (.inr x4.1, σ5))
noncomputable def S.slices_Concat_int_int.b1 (p13 : AVal) (p14 : Int) : (AVal × Int) → Heap → Option (((AVal × Int) ⊕ AVal) × Heap) := fun x15 σ16 =>
  cond (decide (x15.2 < p14)) (
  ixA σ16 p13 1 x15.2 fun a17 =>
  ld σ16 a17 (.V) fun v18 =>
  appS σ16 1 8 x15.1 v18 fun v19 σ20 =>
  some (.inl (v19, (IntKind.i64.wrap (x15.2 + 1))), σ20))
  (some (.inr x15.1, σ16))
noncomputable def S.slices_Concat_int_int (slices_ : AVal) (σ : Heap) : Option (AVal × Heap) :=
  lenV slices_ fun n1 =>
  (loopW (S.slices_Concat_int_int.b0 slices_ n1) (0, 0) σ).bind fun r10 =>
  (S.slices_Grow_int_int .nils r10.1 r10.2).bind fun r11 =>
  lenV slices_ fun n12 =>
  (loopW (S.slices_Concat_int_int.b1 slices_ n12) (r11.1, 0) r11.2).bind fun r21 =>
  some (r21.1, r21.2)
noncomputable def W.slices_Concat_int_int : Spec := .eff [.V] fun args σ => packs args [.V] fun x => S.slices_Concat_int_int x σ


noncomputable def S.slices_Clone_int_int (s_ : AVal) (σ : Heap) : Option (AVal × Heap) :=
  eqS s_ .nils fun b1 =>
  cond b1 (
  some (.nils, σ))
  (newK σ 1 [] fun l2 σ3 =>
  appS σ3 1 8 (.sl l2 0 0 none) s_ fun v4 σ5 =>
  some (v4, σ5))
noncomputable def W.slices_Clone_int_int : Spec := .eff [.V] fun args σ => packs args [.V] fun x => S.slices_Clone_int_int x σ


noncomputable def S.prefix_Merge.b0 (p2 : AVal) (p3 : Int) : (AVal × Int) → Heap → Option (((AVal × Int) ⊕ AVal) × Heap) := fun x4 σ5 =>
  cond (decide (x4.2 < p3)) (
  (ixA σ5 p2 2 x4.2 fun a6 =>
  ldG σ5 a6 2 fun g7 =>
  newK σ5 2 [(.bool false), .nils] fun l8 σ9 =>
  aggK g7 2 fun cs10 =>
  stC σ9 (.ptr l8 0) cs10 fun σ11 =>
  lenV x4.1 fun n12 =>
  ld σ11 (.ptr l8 1) (.V) fun v13 =>
  lenV v13 fun n14 =>
  cond (n14 == 0) (
  some (x4.1, σ11))
  ((cond (decide ((IntKind.i64.wrap (n12 - 1)) ≥ 0)) (
  ixA σ11 x4.1 2 (IntKind.i64.wrap (n12 - 1)) fun a15 =>
  fld a15 0 fun a16 =>
  ld σ11 a16 (.B) fun b17 =>
  ld σ11 (.ptr l8 0) (.B) fun b18 =>
  some (b17 == b18))
  (some false)).bind fun r19 =>
  cond r19 (
  ixA σ11 x4.1 2 (IntKind.i64.wrap (n12 - 1)) fun a20 =>
  fld a20 1 fun a21 =>
  ld σ11 a21 (.V) fun v22 =>
  ld σ11 (.ptr l8 1) (.V) fun v23 =>
  scal v22 (
  scal v23 (
  newK σ11 1 [v22, v23] fun l24 σ25 =>
  (S.slices_Concat_int_int (.sl l24 0 2 none) σ25).bind fun r26 =>
  ixA r26.2 x4.1 2 (IntKind.i64.wrap (n12 - 1)) fun a27 =>
  fld a27 1 fun a28 =>
  scal r26.1 (
  stC r26.2 a28 [r26.1] fun σ29 =>
  some (x4.1, σ29)))))
  (ld σ11 (.ptr l8 0) (.B) fun b30 =>
  ld σ11 (.ptr l8 1) (.V) fun v31 =>
  (S.slices_Clone_int_int v31 σ11).bind fun r32 =>
  ld r32.2 (.ptr l8 0) (.B) fun b33 =>
  chk (((.bool b33) : AVal) = (.bool b30)) (
  scal r32.1 (
  newK r32.2 2 [(.bool b30), r32.1] fun l34 σ35 =>
  appS σ35 2 32 x4.1 (.sl l34 0 1 none) fun v36 σ37 =>
  some (v36, σ37)))))).bind fun r38 =>
  some (.inl (r38.1, (IntKind.i64.wrap (x4.2 + 1))), r38.2))
  (some (.inr x4.1, σ5))
noncomputable def S.prefix_Merge (l_ : AVal) (σ : Heap) : Option (AVal × Heap) :=
  lenV l_ fun n1 =>
  (loopW (S.prefix_Merge.b0 l_ n1) (.nils, 0) σ).bind fun r39 =>
  some (r39.1, r39.2)
noncomputable def W.prefix_Merge : Spec := .eff [.V] fun args σ => packs args [.V] fun x => S.prefix_Merge x σ


noncomputable def S.lits_Clone.b0 (p5 : AVal) (p6 : Int) : (AVal × Int) → Heap → Option (((AVal × Int) ⊕ AVal) × Heap) := fun x7 σ8 =>
  cond (decide (x7.2 < p6)) (
  ixA σ8 p5 1 x7.2 fun a9 =>
  ld σ8 a9 (.V) fun v10 =>
  (S.slices_Clone_int_int v10 σ8).bind fun r11 =>
  scal r11.1 (
  newK r11.2 1 [r11.1] fun l12 σ13 =>
  appS σ13 1 24 x7.1 (.sl l12 0 1 none) fun v14 σ15 =>
  some (.inl (v14, (IntKind.i64.wrap (x7.2 + 1))), σ15)))
  (some (.inr x7.1, σ8))
noncomputable def S.lits_Clone (l_ : AVal) (σ : Heap) : Option (AVal × Heap) :=
  lenV l_ fun n1 =>
  mkS σ 1 24 [.nils] 0 n1 fun v2 σ3 =>
  lenV l_ fun n4 =>
  (loopW (S.lits_Clone.b0 l_ n4) (v2, 0) σ3).bind fun r16 =>
  some (r16.1, r16.2)
noncomputable def W.lits_Clone : Spec := .eff [.V] fun args σ => packs args [.V] fun x => S.lits_Clone x σ


noncomputable def S.prefix_Norm (p0 : AVal) (σ : Heap) : Option ((AVal × AVal) × Heap) :=
  aggK p0 3 fun cs1 =>
  newK σ 3 cs1 fun l2 σ3 =>
  newK σ3 4 [(.bool false), .nils, .nils, .nils] fun l4 σ5 =>
  ldG σ5 (.ptr l2 0) 3 fun g6 =>
  (S.qdimacs_Check g6 σ5).bind fun r7 =>
  eqI (tiOf Tryd.prog) r7.2 true r7.1 .nili fun b8 =>
  cond (!b8) (
  stC r7.2 (.ptr l4 0) [(.bool false), .nils, .nils, .nils] fun σ9 =>
  ldG σ9 (.ptr l4 0) 4 fun g10 =>
  some ((g10, r7.1), σ9))
  (ldG r7.2 (.ptr l2 0) 3 fun g11 =>
  (S.prefix_Free g11 r7.2).bind fun r12 =>
  scal r12.1 (
  newK r12.2 2 [(.bool true), r12.1] fun l13 σ14 =>
  ld r12.2 (.ptr l2 0) (.V) fun v15 =>
  ld r7.2 (.ptr l2 0) (.V) fun v16 =>
  chk ((v16 : AVal) = v15) (
  appS σ14 2 32 (.sl l13 0 1 none) v15 fun v17 σ18 =>
  (S.prefix_Merge v17 σ18).bind fun r19 =>
  ld r19.2 (.ptr l2 2) (.V) fun v20 =>
  (S.lits_Clone v20 r19.2).bind fun r21 =>
  scal r21.1 (
  newK r21.2 4 [(.bool false), .nils, .nils, .nils] fun l22 σ23 =>
  stC σ23 (.ptr l22 0) [(.bool true), .nils, .nils, r21.1] fun σ24 =>
  lenV r19.1 fun n25 =>
  cond (n25 == 0) (
  ldG σ24 (.ptr l22 0) 4 fun g26 =>
  aggK g26 4 fun cs27 =>
  stC σ24 (.ptr l4 0) cs27 fun σ28 =>
  ldG σ28 (.ptr l4 0) 4 fun g29 =>
  some ((g29, .nili), σ28))
  (cond (n25 == 1) (
  ixA σ24 r19.1 2 0 fun a30 =>
  fld a30 0 fun a31 =>
  ld σ24 a31 (.B) fun b32 =>
  ixA σ24 r19.1 2 0 fun a33 =>
  fld a33 1 fun a34 =>
  ld σ24 a34 (.V) fun v35 =>
  stC σ24 (.ptr l22 0) [(.bool b32)] fun σ36 =>
  ld σ36 a34 (.V) fun v37 =>
  chk ((v37 : AVal) = v35) (
  ixA σ36 r19.1 2 0 fun a38 =>
  chk ((a38 : AVal) = a33) (
  scal v35 (
  stC σ36 (.ptr l22 1) [v35] fun σ39 =>
  ldG σ39 (.ptr l22 0) 4 fun g40 =>
  aggK g40 4 fun cs41 =>
  stC σ39 (.ptr l4 0) cs41 fun σ42 =>
  ldG σ42 (.ptr l4 0) 4 fun g43 =>
  some ((g43, .nili), σ42)))))
  (cond (n25 == 2) (
  ixA σ24 r19.1 2 0 fun a44 =>
  fld a44 0 fun a45 =>
  ld σ24 a45 (.B) fun b46 =>
  ixA σ24 r19.1 2 0 fun a47 =>
  fld a47 1 fun a48 =>
  ld σ24 a48 (.V) fun v49 =>
  ixA σ24 r19.1 2 1 fun a50 =>
  fld a50 1 fun a51 =>
  ld σ24 a51 (.V) fun v52 =>
  stC σ24 (.ptr l22 0) [(.bool b46)] fun σ53 =>
  ld σ53 a51 (.V) fun v54 =>
  chk ((v54 : AVal) = v52) (
  ixA σ53 r19.1 2 1 fun a55 =>
  chk ((a55 : AVal) = a50) (
  ld σ53 a48 (.V) fun v56 =>
  chk ((v56 : AVal) = v49) (
  ixA σ53 r19.1 2 0 fun a57 =>
  chk ((a57 : AVal) = a47) (
  scal v49 (
  stC σ53 (.ptr l22 1) [v49] fun σ58 =>
  ld σ58 a51 (.V) fun v59 =>
  chk ((v59 : AVal) = v52) (
  ixA σ58 r19.1 2 1 fun a60 =>
  chk ((a60 : AVal) = a50) (
  scal v52 (
  stC σ58 (.ptr l22 2) [v52] fun σ61 =>
  ldG σ61 (.ptr l22 0) 4 fun g62 =>
  aggK g62 4 fun cs63 =>
  stC σ61 (.ptr l4 0) cs63 fun σ64 =>
  ldG σ64 (.ptr l4 0) 4 fun g65 =>
  some ((g65, .nili), σ64))))))))))
  (ld σ24 (.ptr 0 0) (.V) fun v66 =>
  stC σ24 (.ptr l4 0) [(.bool false), .nils, .nils, .nils] fun σ67 =>
  ld σ67 (.ptr 0 0) (.V) fun v68 =>
  chk ((v68 : AVal) = v66) (
  ldG σ67 (.ptr l4 0) 4 fun g69 =>
  some ((g69, v66), σ67)))))))))
noncomputable def W.prefix_Norm : Spec := .eff [.V, .V] fun args σ => packs args [.V] fun x => S.prefix_Norm x σ


noncomputable def S.skolemlaw6_first (σ : Heap) : Option (Bool × Heap) :=
  (S.prefix_Norm (.agg [.nils, (.int .i64 0), .nils]) σ).bind fun r1 =>
  newK r1.2 4 [(.bool false), .nils, .nils, .nils] fun l2 σ3 =>
  aggK r1.1.1 4 fun cs4 =>
  stC σ3 (.ptr l2 0) cs4 fun σ5 =>
  (eqI (tiOf Tryd.prog) σ5 true r1.1.2 .nili fun b6 =>
  cond b6 (
  ld σ5 (.ptr l2 0) (.B) fun b7 =>
  some b7)
  (some false)).bind fun r8 =>
  some (r8, σ5)
noncomputable def W.skolemlaw6_first : Spec := .eff [.B] fun args σ => packs args [] fun x => S.skolemlaw6_first σ


noncomputable def S.skolemmake_Near.b0 (p1 : AVal) (σ0 : Heap) : Int → Option (Int ⊕ (Unit ⊕ Bool)) := fun x2 =>
  lenV p1 fun n4 =>
  cond (decide (x2 < n4)) (
  ixA σ0 p1 1 x2 fun a5 =>
  ld σ0 a5 (.I .i64) fun n6 =>
  cond (decide (n6 < (-1152921504606846976))) (
  some (.inr (.inr false)))
  (some (.inl (IntKind.i64.wrap (x2 + 1)))))
  (some (.inr (.inl ())))
noncomputable def S.skolemmake_Near (c_ : AVal) (σ : Heap) : Option Bool :=
  (loopP (S.skolemmake_Near.b0 c_ σ) 0).bind fun r7 =>
  (match r7 with
 | .inl y8 => some true
 | .inr y9 => some y9)
noncomputable def W.skolemmake_Near : Spec := .pur [.B] fun args σ => packs args [.V] fun x => S.skolemmake_Near x σ


noncomputable def S.skolemmake_NearAll.b0 (p1 : AVal) (σ0 : Heap) : Int → Option (Int ⊕ (Unit ⊕ Bool)) := fun x2 =>
  lenV p1 fun n4 =>
  cond (decide (x2 < n4)) (
  ixA σ0 p1 1 x2 fun a5 =>
  ld σ0 a5 (.V) fun v6 =>
  (S.skolemmake_Near v6 σ0).bind fun r7 =>
  cond (!r7) (
  some (.inr (.inr false)))
  (some (.inl (IntKind.i64.wrap (x2 + 1)))))
  (some (.inr (.inl ())))
noncomputable def S.skolemmake_NearAll (c_ : AVal) (σ : Heap) : Option Bool :=
  (loopP (S.skolemmake_NearAll.b0 c_ σ) 0).bind fun r8 =>
  (match r8 with
 | .inl y9 => some true
 | .inr y10 => some y10)
noncomputable def W.skolemmake_NearAll : Spec := .pur [.B] fun args σ => packs args [.V] fun x => S.skolemmake_NearAll x σ


noncomputable def S.skolemmake_Count.b0 (p1 : AVal) (σ0 : Heap) : (Int × Int) → Option ((Int × Int) ⊕ Int) := fun x2 =>
  lenV p1 fun n4 =>
  cond (decide (x2.2 < n4)) (
  ixA σ0 p1 1 x2.2 fun a5 =>
  ld σ0 a5 (.V) fun v6 =>
  lenV v6 fun n7 =>
  some (.inl ((IntKind.i64.wrap (x2.1 + n7)), (IntKind.i64.wrap (x2.2 + 1)))))
  (some (.inr x2.1))
noncomputable def S.skolemmake_Count (c_ : AVal) (σ : Heap) : Option Int :=
  (loopP (S.skolemmake_Count.b0 c_ σ) (0, 0)).bind fun r8 =>
  some r8
noncomputable def W.skolemmake_Count : Spec := .pur [.I .i64] fun args σ => packs args [.V] fun x => S.skolemmake_Count x σ


noncomputable def S.skolemlaw6_light.b0 (p13 : AVal) (σ0 : Heap) : Int → Option (Int ⊕ (Unit ⊕ Bool)) := fun x14 =>
  fld p13 0 fun a16 =>
  ld σ0 a16 (.V) fun v17 =>
  lenV v17 fun n18 =>
  cond (decide (x14 < n18)) (
  (fld p13 0 fun a19 =>
  ld σ0 a19 (.V) fun v20 =>
  ixA σ0 v20 2 x14 fun a21 =>
  fld a21 1 fun a22 =>
  ld σ0 a22 (.V) fun v23 =>
  lenV v23 fun n24 =>
  cond (decide (n24 > 30)) (
  some true)
  (fld p13 0 fun a25 =>
  ld σ0 a25 (.V) fun v26 =>
  ixA σ0 v26 2 x14 fun a27 =>
  fld a27 1 fun a28 =>
  ld σ0 a28 (.V) fun v29 =>
  (S.skolemmake_Near v29 σ0).bind fun r30 =>
  some (!r30))).bind fun r31 =>
  cond r31 (
  some (.inr (.inr false)))
  (some (.inl (IntKind.i64.wrap (x14 + 1)))))
  (some (.inr (.inl ())))
noncomputable def S.skolemlaw6_light (f_ : AVal) (σ : Heap) : Option (Bool × Heap) :=
  aggK f_ 3 fun cs1 =>
  newK σ 3 cs1 fun l2 σ3 =>
  (ld σ3 (.ptr l2 0) (.V) fun v4 =>
  lenV v4 fun n5 =>
  cond (decide (n5 > 8)) (
  some true)
  (ld σ3 (.ptr l2 2) (.V) fun v6 =>
  lenV v6 fun n7 =>
  cond (decide (n7 > 60)) (
  some true)
  (ld σ3 (.ptr l2 2) (.V) fun v8 =>
  (S.skolemmake_NearAll v8 σ3).bind fun r9 =>
  cond (!r9) (
  some true)
  (ld σ3 (.ptr l2 2) (.V) fun v10 =>
  (S.skolemmake_Count v10 σ3).bind fun r11 =>
  some (decide (r11 > 300)))))).bind fun r12 =>
  cond r12 (
  some (false, σ3))
  ((loopP (S.skolemlaw6_light.b0 (.ptr l2 0) σ3) 0).bind fun r32 =>
  (match r32 with
 | .inl y33 => some (true, σ3)
 | .inr y34 => some (y34, σ3)))
noncomputable def W.skolemlaw6_light : Spec := .eff [.B] fun args σ => packs args [.V] fun x => S.skolemlaw6_light x σ


noncomputable def S.skolemref_Bare (code_ : Int) (σ : Heap) : Option (AVal × Heap) :=
  newK σ 3 [(.int .i64 0), (.bool false), (.int .i64 0)] fun l1 σ2 =>
  stC σ2 (.ptr l1 0) [(.int .i64 code_), (.bool false), (.int .i64 0)] fun σ3 =>
  ldG σ3 (.ptr l1 0) 3 fun g4 =>
  some (g4, σ3)
noncomputable def W.skolemref_Bare : Spec := .eff [.V] fun args σ => packs args [.I .i64] fun x => S.skolemref_Bare x σ


noncomputable def S.skolemref1_Is (l_ : Int) (vars_ : Int) (σ : Heap) : Option Bool :=
  (cond (l_ != 0) (
  cond (decide (l_ ≤ vars_)) (
  some (decide (l_ ≥ (IntKind.i64.wrap (0 - vars_)))))
  (some false))
  (some false)).bind fun r1 =>
  some r1
noncomputable def W.skolemref1_Is : Spec := .pur [.B] fun args σ => packs args [.I .i64, .I .i64] fun x => S.skolemref1_Is x.1 x.2 σ


noncomputable def S.skolemref_None (σ : Heap) : Option (AVal × Heap) :=
  newK σ 3 [(.int .i64 0), (.bool false), (.int .i64 0)] fun l1 σ2 =>
  stC σ2 (.ptr l1 0) [(.int .i64 0), (.bool false), (.int .i64 0)] fun σ3 =>
  ldG σ3 (.ptr l1 0) 3 fun g4 =>
  some (g4, σ3)
noncomputable def W.skolemref_None : Spec := .eff [.V] fun args σ => packs args [] fun x => S.skolemref_None σ


noncomputable def S.skolemref_Placed (code_ : Int) (pos_ : Int) (σ : Heap) : Option (AVal × Heap) :=
  newK σ 3 [(.int .i64 0), (.bool false), (.int .i64 0)] fun l1 σ2 =>
  cond (code_ == 0) (
  (S.skolemref_None σ2).bind fun r3 =>
  aggK r3.1 3 fun cs4 =>
  stC r3.2 (.ptr l1 0) cs4 fun σ5 =>
  ldG σ5 (.ptr l1 0) 3 fun g6 =>
  some (g6, σ5))
  (stC σ2 (.ptr l1 0) [(.int .i64 code_), (.bool true), (.int .i64 pos_)] fun σ7 =>
  ldG σ7 (.ptr l1 0) 3 fun g8 =>
  some (g8, σ7))
noncomputable def W.skolemref_Placed : Spec := .eff [.V] fun args σ => packs args [.I .i64, .I .i64] fun x => S.skolemref_Placed x.1 x.2 σ


noncomputable def S.skolemref1_CheckCNF.b0 (p6 : AVal) (p7 : AVal) (σ0 : Heap) : (Int × Int) → Option ((Int × Int) ⊕ Int) := fun x8 =>
  fld p6 1 fun a10 =>
  ld σ0 a10 (.V) fun v11 =>
  lenV v11 fun n12 =>
  cond (decide (x8.2 < n12)) (
  fld p6 1 fun a13 =>
  ld σ0 a13 (.V) fun v14 =>
  ixA σ0 v14 1 x8.2 fun a15 =>
  ld σ0 a15 (.V) fun v16 =>
  lenV v16 fun n17 =>
  some (.inl ((IntKind.i64.wrap (x8.1 + n17)), (IntKind.i64.wrap (x8.2 + 1)))))
  (some (.inr x8.1))
noncomputable def S.skolemref1_CheckCNF.b1 (p35 : AVal) (p36 : AVal) (p37 : Int) : Int → Heap → Option ((Int ⊕ (Unit ⊕ Unit)) × Heap) := fun x38 σ39 =>
  fld p35 1 fun a40 =>
  ld σ39 a40 (.V) fun v41 =>
  ixA σ39 v41 1 p37 fun a42 =>
  ld σ39 a42 (.V) fun v43 =>
  lenV v43 fun n44 =>
  cond (decide (x38 < n44)) (
  fld p35 1 fun a45 =>
  ld σ39 a45 (.V) fun v46 =>
  ixA σ39 v46 1 p37 fun a47 =>
  ld σ39 a47 (.V) fun v48 =>
  ixA σ39 v48 1 x38 fun a49 =>
  ld σ39 a49 (.I .i64) fun n50 =>
  fld p35 0 fun a51 =>
  ld σ39 a51 (.I .i64) fun n52 =>
  (S.skolemref1_Is n50 n52 σ39).bind fun r53 =>
  cond (!r53) (
  (S.skolemref_Placed 104 p37 σ39).bind fun r54 =>
  aggK r54.1 3 fun cs55 =>
  stC r54.2 p36 cs55 fun σ56 =>
  some (.inr (.inr ()), σ56))
  (some (.inl (IntKind.i64.wrap (x38 + 1)), σ39)))
  (some (.inr (.inl ()), σ39))
noncomputable def S.skolemref1_CheckCNF.b2 (p28 : AVal) (p29 : AVal) : Int → Heap → Option ((Int ⊕ (Unit ⊕ Unit)) × Heap) := fun x30 σ31 =>
  fld p28 1 fun a32 =>
  ld σ31 a32 (.V) fun v33 =>
  lenV v33 fun n34 =>
  cond (decide (x30 < n34)) (
  (loopW (S.skolemref1_CheckCNF.b1 p28 p29 x30) 0 σ31).bind fun r57 =>
  (match r57.1 with
 | .inl y58 => some (.inl (IntKind.i64.wrap (x30 + 1)), r57.2)
 | .inr y59 => some (.inr (.inr ()), r57.2)))
  (some (.inr (.inl ()), σ31))
noncomputable def S.skolemref1_CheckCNF (p0 : AVal) (σ : Heap) : Option (AVal × Heap) :=
  aggK p0 2 fun cs1 =>
  newK σ 2 cs1 fun l2 σ3 =>
  newK σ3 3 [(.int .i64 0), (.bool false), (.int .i64 0)] fun l4 σ5 =>
  (loopP (S.skolemref1_CheckCNF.b0 (.ptr l2 0) (.ptr l4 0) σ5) (0, 0)).bind fun r18 =>
  (ld σ5 (.ptr l2 0) (.I .i64) fun n19 =>
  cond (decide (n19 < 0)) (
  some true)
  (ld σ5 (.ptr l2 0) (.I .i64) fun n20 =>
  cond (decide (n20 > 4000)) (
  some true)
  (ld σ5 (.ptr l2 1) (.V) fun v21 =>
  lenV v21 fun n22 =>
  cond (decide (n22 > 20000)) (
  some true)
  (some (decide (r18 > 80000)))))).bind fun r23 =>
  cond r23 (
  (S.skolemref_Bare 102 σ5).bind fun r24 =>
  aggK r24.1 3 fun cs25 =>
  stC r24.2 (.ptr l4 0) cs25 fun σ26 =>
  ldG σ26 (.ptr l4 0) 3 fun g27 =>
  some (g27, σ26))
  ((loopW (S.skolemref1_CheckCNF.b2 (.ptr l2 0) (.ptr l4 0)) 0 σ5).bind fun r60 =>
  (match r60.1 with
 | .inl y61 => (S.skolemref_None r60.2).bind fun r63 =>
  aggK r63.1 3 fun cs64 =>
  stC r63.2 (.ptr l4 0) cs64 fun σ65 =>
  ldG σ65 (.ptr l4 0) 3 fun g66 =>
  some (g66, σ65)
 | .inr y62 => ldG r60.2 (.ptr l4 0) 3 fun g67 =>
  some (g67, r60.2)))
noncomputable def W.skolemref1_CheckCNF : Spec := .eff [.V] fun args σ => packs args [.V] fun x => S.skolemref1_CheckCNF x σ


noncomputable def S.skolemref_Has.b0 (p1 : AVal) (p2 : Int) (σ0 : Heap) : Int → Option (Int ⊕ (Unit ⊕ Bool)) := fun x3 =>
  lenV p1 fun n5 =>
  cond (decide (x3 < n5)) (
  ixA σ0 p1 1 x3 fun a6 =>
  ld σ0 a6 (.I .i64) fun n7 =>
  cond (n7 == p2) (
  some (.inr (.inr true)))
  (some (.inl (IntKind.i64.wrap (x3 + 1)))))
  (some (.inr (.inl ())))
noncomputable def S.skolemref_Has (l_ : AVal) (n_ : Int) (σ : Heap) : Option Bool :=
  (loopP (S.skolemref_Has.b0 l_ n_ σ) 0).bind fun r8 =>
  (match r8 with
 | .inl y9 => some false
 | .inr y10 => some y10)
noncomputable def W.skolemref_Has : Spec := .pur [.B] fun args σ => packs args [.V, .I .i64] fun x => S.skolemref_Has x.1 x.2 σ


noncomputable def S.skolemref1_CheckFormula.b0 (p24 : AVal) (p25 : AVal) (p26 : Int) : (AVal × Int) → Heap → Option (((AVal × Int) ⊕ (AVal ⊕ Unit)) × Heap) := fun x27 σ28 =>
  fld p24 0 fun a29 =>
  ld σ28 a29 (.V) fun v30 =>
  ixA σ28 v30 2 p26 fun a31 =>
  fld a31 1 fun a32 =>
  ld σ28 a32 (.V) fun v33 =>
  lenV v33 fun n34 =>
  cond (decide (x27.2 < n34)) (
  fld p24 0 fun a35 =>
  ld σ28 a35 (.V) fun v36 =>
  ixA σ28 v36 2 p26 fun a37 =>
  fld a37 1 fun a38 =>
  ld σ28 a38 (.V) fun v39 =>
  ixA σ28 v39 1 x27.2 fun a40 =>
  ld σ28 a40 (.I .i64) fun n41 =>
  (cond (decide (n41 < 1)) (
  some true)
  (fld p24 1 fun a42 =>
  fld a42 0 fun a43 =>
  ld σ28 a43 (.I .i64) fun n44 =>
  cond (decide (n41 > n44)) (
  some true)
  ((S.skolemref_Has x27.1 n41 σ28).bind fun r45 =>
  some r45))).bind fun r46 =>
  cond r46 (
  (S.skolemref_Placed 104 p26 σ28).bind fun r47 =>
  aggK r47.1 3 fun cs48 =>
  stC r47.2 p25 cs48 fun σ49 =>
  some (.inr (.inr ()), σ49))
  (newK σ28 1 [(.int .i64 n41)] fun l50 σ51 =>
  appS σ51 1 8 x27.1 (.sl l50 0 1 none) fun v52 σ53 =>
  some (.inl (v52, (IntKind.i64.wrap (x27.2 + 1))), σ53)))
  (some (.inr (.inl x27.1), σ28))
noncomputable def S.skolemref1_CheckFormula.b1 (p17 : AVal) (p18 : AVal) : (AVal × Int) → Heap → Option (((AVal × Int) ⊕ (Unit ⊕ Unit)) × Heap) := fun x19 σ20 =>
  fld p17 0 fun a21 =>
  ld σ20 a21 (.V) fun v22 =>
  lenV v22 fun n23 =>
  cond (decide (x19.2 < n23)) (
  (loopW (S.skolemref1_CheckFormula.b0 p17 p18 x19.2) (x19.1, 0) σ20).bind fun r54 =>
  (match r54.1 with
 | .inl y55 => some (.inl (y55, (IntKind.i64.wrap (x19.2 + 1))), r54.2)
 | .inr y56 => some (.inr (.inr ()), r54.2)))
  (some (.inr (.inl ()), σ20))
noncomputable def S.skolemref1_CheckFormula (q_ : AVal) (σ : Heap) : Option (AVal × Heap) :=
  aggK q_ 3 fun cs1 =>
  newK σ 3 cs1 fun l2 σ3 =>
  newK σ3 3 [(.int .i64 0), (.bool false), (.int .i64 0)] fun l4 σ5 =>
  ldG σ5 (.ptr l2 1) 2 fun g6 =>
  (S.skolemref1_CheckCNF g6 σ5).bind fun r7 =>
  newK r7.2 3 [(.int .i64 0), (.bool false), (.int .i64 0)] fun l8 σ9 =>
  aggK r7.1 3 fun cs10 =>
  stC σ9 (.ptr l8 0) cs10 fun σ11 =>
  ld σ11 (.ptr l8 0) (.I .i64) fun n12 =>
  cond (n12 != 0) (
  ldG σ11 (.ptr l8 0) 3 fun g13 =>
  aggK g13 3 fun cs14 =>
  stC σ11 (.ptr l4 0) cs14 fun σ15 =>
  ldG σ15 (.ptr l4 0) 3 fun g16 =>
  some (g16, σ15))
  ((loopW (S.skolemref1_CheckFormula.b1 (.ptr l2 0) (.ptr l4 0)) (.nils, 0) σ11).bind fun r57 =>
  (match r57.1 with
 | .inl y58 => (S.skolemref_None r57.2).bind fun r60 =>
  aggK r60.1 3 fun cs61 =>
  stC r60.2 (.ptr l4 0) cs61 fun σ62 =>
  ldG σ62 (.ptr l4 0) 3 fun g63 =>
  some (g63, σ62)
 | .inr y59 => ldG r57.2 (.ptr l4 0) 3 fun g64 =>
  some (g64, r57.2)))
noncomputable def W.skolemref1_CheckFormula : Spec := .eff [.V] fun args σ => packs args [.V] fun x => S.skolemref1_CheckFormula x σ


noncomputable def S.skolemref_Abs (l_ : Int) (σ : Heap) : Option Int :=
  cond (decide (l_ < 0)) (
  some (IntKind.i64.wrap (0 - l_)))
  (some l_)
noncomputable def W.skolemref_Abs : Spec := .pur [.I .i64] fun args σ => packs args [.I .i64] fun x => S.skolemref_Abs x σ


noncomputable def S.skolemref_Ints.b0 (p4 : AVal) : (AVal × Int) → Heap → Option (((AVal × Int) ⊕ AVal) × Heap) := fun x5 σ6 =>
  lenV p4 fun n7 =>
  cond (decide (x5.2 < n7)) (
  ixA σ6 p4 1 x5.2 fun a8 =>
  ld σ6 a8 (.I .i64) fun n9 =>
  newK σ6 1 [(.int .i64 n9)] fun l10 σ11 =>
  appS σ11 1 8 x5.1 (.sl l10 0 1 none) fun v12 σ13 =>
  some (.inl (v12, (IntKind.i64.wrap (x5.2 + 1))), σ13))
  (some (.inr x5.1, σ6))
noncomputable def S.skolemref_Ints (l_ : AVal) (σ : Heap) : Option (AVal × Heap) :=
  lenV l_ fun n1 =>
  mkS σ 1 8 [(.int .i64 0)] 0 n1 fun v2 σ3 =>
  (loopW (S.skolemref_Ints.b0 l_) (v2, 0) σ3).bind fun r14 =>
  some (r14.1, r14.2)
noncomputable def W.skolemref_Ints : Spec := .eff [.V] fun args σ => packs args [.V] fun x => S.skolemref_Ints x σ


noncomputable def S.skolemref1_Free.b0 (p4 : AVal) : (AVal × Int) → Heap → Option (((AVal × Int) ⊕ AVal) × Heap) := fun x5 σ6 =>
  fld p4 0 fun a7 =>
  ld σ6 a7 (.V) fun v8 =>
  lenV v8 fun n9 =>
  cond (decide (x5.2 < n9)) (
  fld p4 0 fun a10 =>
  ld σ6 a10 (.V) fun v11 =>
  ixA σ6 v11 2 x5.2 fun a12 =>
  fld a12 1 fun a13 =>
  ld σ6 a13 (.V) fun v14 =>
  appS σ6 1 8 x5.1 v14 fun v15 σ16 =>
  some (.inl (v15, (IntKind.i64.wrap (x5.2 + 1))), σ16))
  (some (.inr x5.1, σ6))
noncomputable def S.skolemref1_Free.b1 (p48 : AVal) (p49 : AVal) (p50 : AVal) (p51 : Int) (p52 : Int) (p53 : Int) (σ0 : Heap) : Int → Option (Int ⊕ Int) := fun x54 =>
  (lenV p50 fun n56 =>
  cond (decide (x54 < n56)) (
  ixA σ0 p50 1 x54 fun a57 =>
  ld σ0 a57 (.I .i64) fun n58 =>
  some (decide (n58 < p53)))
  (some false)).bind fun r59 =>
  cond r59 (
  some (.inl (IntKind.i64.wrap (x54 + 1))))
  (some (.inr x54))
noncomputable def S.skolemref1_Free.b2 (p25 : AVal) (p26 : Int) : (AVal × AVal × Int) → Heap → Option (((AVal × AVal × Int) ⊕ ((AVal × AVal))) × Heap) := fun x27 σ28 =>
  fld p25 1 fun a29 =>
  fld a29 1 fun a30 =>
  ld σ28 a30 (.V) fun v31 =>
  ixA σ28 v31 1 p26 fun a32 =>
  ld σ28 a32 (.V) fun v33 =>
  lenV v33 fun n34 =>
  cond (decide (x27.2.2 < n34)) (
  (fld p25 1 fun a35 =>
  fld a35 1 fun a36 =>
  ld σ28 a36 (.V) fun v37 =>
  ixA σ28 v37 1 p26 fun a38 =>
  ld σ28 a38 (.V) fun v39 =>
  ixA σ28 v39 1 x27.2.2 fun a40 =>
  ld σ28 a40 (.I .i64) fun n41 =>
  (S.skolemref_Abs n41 σ28).bind fun r42 =>
  (S.skolemref_Has x27.1 r42 σ28).bind fun r43 =>
  cond r43 (
  some ((x27.1, x27.2.1), σ28))
  (newK σ28 1 [(.int .i64 r42)] fun l44 σ45 =>
  appS σ45 1 8 x27.1 (.sl l44 0 1 none) fun v46 σ47 =>
  (loopP (S.skolemref1_Free.b1 p25 v46 x27.2.1 p26 x27.2.2 r42 σ47) 0).bind fun r60 =>
  slS σ47 1 x27.2.1 0 (some r60) none fun v61 =>
  (S.skolemref_Ints v61 σ47).bind fun r62 =>
  newK r62.2 1 [(.int .i64 r42)] fun l63 σ64 =>
  appS σ64 1 8 r62.1 (.sl l63 0 1 none) fun v65 σ66 =>
  slS σ66 1 x27.2.1 r60 none none fun v67 =>
  appS σ66 1 8 v65 v67 fun v68 σ69 =>
  some ((v46, v68), σ69))).bind fun r70 =>
  some (.inl (r70.1.1, r70.1.2, (IntKind.i64.wrap (x27.2.2 + 1))), r70.2))
  (some (.inr (x27.1, x27.2.1), σ28))
noncomputable def S.skolemref1_Free.b3 (p18 : AVal) : (AVal × AVal × Int) → Heap → Option (((AVal × AVal × Int) ⊕ AVal) × Heap) := fun x19 σ20 =>
  fld p18 1 fun a21 =>
  fld a21 1 fun a22 =>
  ld σ20 a22 (.V) fun v23 =>
  lenV v23 fun n24 =>
  cond (decide (x19.2.2 < n24)) (
  (loopW (S.skolemref1_Free.b2 p18 x19.2.2) (x19.1, x19.2.1, 0) σ20).bind fun r71 =>
  some (.inl (r71.1.1, r71.1.2, (IntKind.i64.wrap (x19.2.2 + 1))), r71.2))
  (some (.inr x19.2.1, σ20))
noncomputable def S.skolemref1_Free (p0 : AVal) (σ : Heap) : Option (AVal × Heap) :=
  aggK p0 3 fun cs1 =>
  newK σ 3 cs1 fun l2 σ3 =>
  (loopW (S.skolemref1_Free.b0 (.ptr l2 0)) (.nils, 0) σ3).bind fun r17 =>
  (loopW (S.skolemref1_Free.b3 (.ptr l2 0)) (r17.1, .nils, 0) r17.2).bind fun r72 =>
  some (r72.1, r72.2)
noncomputable def W.skolemref1_Free : Spec := .eff [.V] fun args σ => packs args [.V] fun x => S.skolemref1_Free x σ


noncomputable def S.skolemref1_Merge.b0 (p1 : AVal) : (AVal × Int) → Heap → Option (((AVal × Int) ⊕ AVal) × Heap) := fun x2 σ3 =>
  lenV p1 fun n4 =>
  cond (decide (x2.2 < n4)) (
  (lenV x2.1 fun n5 =>
  ixA σ3 p1 2 x2.2 fun a6 =>
  fld a6 1 fun a7 =>
  ld σ3 a7 (.V) fun v8 =>
  lenV v8 fun n9 =>
  cond (n9 == 0) (
  some (x2.1, σ3))
  ((cond (decide (n5 > 0)) (
  ixA σ3 x2.1 2 (IntKind.i64.wrap (n5 - 1)) fun a10 =>
  fld a10 0 fun a11 =>
  ld σ3 a11 (.B) fun b12 =>
  ixA σ3 p1 2 x2.2 fun a13 =>
  fld a13 0 fun a14 =>
  ld σ3 a14 (.B) fun b15 =>
  some (b12 == b15))
  (some false)).bind fun r16 =>
  cond r16 (
  ixA σ3 x2.1 2 (IntKind.i64.wrap (n5 - 1)) fun a17 =>
  fld a17 1 fun a18 =>
  ld σ3 a18 (.V) fun v19 =>
  (S.skolemref_Ints v19 σ3).bind fun r20 =>
  ixA r20.2 p1 2 x2.2 fun a21 =>
  ixA σ3 p1 2 x2.2 fun a22 =>
  chk ((a22 : AVal) = a21) (
  fld a21 1 fun a23 =>
  ld r20.2 a23 (.V) fun v24 =>
  ld σ3 a23 (.V) fun v25 =>
  chk ((v25 : AVal) = v24) (
  appS r20.2 1 8 r20.1 v24 fun v26 σ27 =>
  ixA σ27 x2.1 2 (IntKind.i64.wrap (n5 - 1)) fun a28 =>
  fld a28 1 fun a29 =>
  scal v26 (
  stC σ27 a29 [v26] fun σ30 =>
  some (x2.1, σ30)))))
  (ixA σ3 p1 2 x2.2 fun a31 =>
  fld a31 0 fun a32 =>
  ld σ3 a32 (.B) fun b33 =>
  ixA σ3 p1 2 x2.2 fun a34 =>
  fld a34 1 fun a35 =>
  ld σ3 a35 (.V) fun v36 =>
  (S.skolemref_Ints v36 σ3).bind fun r37 =>
  ld r37.2 a32 (.B) fun b38 =>
  chk (((.bool b38) : AVal) = (.bool b33)) (
  ixA r37.2 p1 2 x2.2 fun a39 =>
  chk ((a39 : AVal) = a31) (
  scal r37.1 (
  newK r37.2 2 [(.bool b33), r37.1] fun l40 σ41 =>
  appS σ41 2 32 x2.1 (.sl l40 0 1 none) fun v42 σ43 =>
  some (v42, σ43))))))).bind fun r44 =>
  some (.inl (r44.1, (IntKind.i64.wrap (x2.2 + 1))), r44.2))
  (some (.inr x2.1, σ3))
noncomputable def S.skolemref1_Merge (p0 : AVal) (σ : Heap) : Option (AVal × Heap) :=
  (loopW (S.skolemref1_Merge.b0 p0) (.nils, 0) σ).bind fun r45 =>
  some (r45.1, r45.2)
noncomputable def W.skolemref1_Merge : Spec := .eff [.V] fun args σ => packs args [.V] fun x => S.skolemref1_Merge x σ


noncomputable def S.skolemref1_Norm2 (q_ : AVal) (σ : Heap) : Option ((AVal × AVal) × Heap) :=
  aggK q_ 3 fun cs1 =>
  newK σ 3 cs1 fun l2 σ3 =>
  newK σ3 4 [(.bool false), .nils, .nils, .nils] fun l4 σ5 =>
  newK σ5 3 [(.int .i64 0), (.bool false), (.int .i64 0)] fun l6 σ7 =>
  ldG σ7 (.ptr l2 0) 3 fun g8 =>
  (S.skolemref1_CheckFormula g8 σ7).bind fun r9 =>
  newK r9.2 3 [(.int .i64 0), (.bool false), (.int .i64 0)] fun l10 σ11 =>
  aggK r9.1 3 fun cs12 =>
  stC σ11 (.ptr l10 0) cs12 fun σ13 =>
  ld σ13 (.ptr l10 0) (.I .i64) fun n14 =>
  cond (n14 != 0) (
  ldG σ13 (.ptr l10 0) 3 fun g15 =>
  stC σ13 (.ptr l4 0) [(.bool false), .nils, .nils, .nils] fun σ16 =>
  ldG σ16 (.ptr l10 0) 3 fun g17 =>
  chk ((g17 : AVal) = g15) (
  aggK g15 3 fun cs18 =>
  stC σ16 (.ptr l6 0) cs18 fun σ19 =>
  ldG σ19 (.ptr l4 0) 4 fun g20 =>
  ldG σ19 (.ptr l6 0) 3 fun g21 =>
  some ((g20, g21), σ19)))
  (ldG σ13 (.ptr l2 0) 3 fun g22 =>
  (S.skolemref1_Free g22 σ13).bind fun r23 =>
  scal r23.1 (
  newK r23.2 2 [(.bool true), r23.1] fun l24 σ25 =>
  ld r23.2 (.ptr l2 0) (.V) fun v26 =>
  ld σ13 (.ptr l2 0) (.V) fun v27 =>
  chk ((v27 : AVal) = v26) (
  appS σ25 2 32 (.sl l24 0 1 none) v26 fun v28 σ29 =>
  (S.skolemref1_Merge v28 σ29).bind fun r30 =>
  ld r30.2 (.ptr l2 2) (.V) fun v31 =>
  scal v31 (
  newK r30.2 4 [(.bool false), .nils, .nils, .nils] fun l32 σ33 =>
  stC σ33 (.ptr l32 0) [(.bool true), .nils, .nils, v31] fun σ34 =>
  lenV r30.1 fun n35 =>
  (cond (n35 == 0) (
  some (.inl (), σ34))
  ((cond (n35 == 1) (
  some (n35 == 1))
  (some (n35 == 2))).bind fun r36 =>
  cond r36 (
  ixA σ34 r30.1 2 0 fun a37 =>
  fld a37 0 fun a38 =>
  ld σ34 a38 (.B) fun b39 =>
  stC σ34 (.ptr l32 0) [(.bool b39)] fun σ40 =>
  ixA σ40 r30.1 2 0 fun a41 =>
  fld a41 1 fun a42 =>
  ld σ40 a42 (.V) fun v43 =>
  scal v43 (
  stC σ40 (.ptr l32 1) [v43] fun σ44 =>
  lenV r30.1 fun n45 =>
  cond (n45 == 2) (
  ixA σ44 r30.1 2 1 fun a46 =>
  fld a46 1 fun a47 =>
  ld σ44 a47 (.V) fun v48 =>
  scal v48 (
  stC σ44 (.ptr l32 2) [v48] fun σ49 =>
  some (.inl (), σ49)))
  (some (.inl (), σ44))))
  ((S.skolemref_Bare 105 σ34).bind fun r50 =>
  stC r50.2 (.ptr l4 0) [(.bool false), .nils, .nils, .nils] fun σ51 =>
  aggK r50.1 3 fun cs52 =>
  stC σ51 (.ptr l6 0) cs52 fun σ53 =>
  some (.inr (), σ53))) : Option ((Unit ⊕ Unit) × Heap)).bind fun r54 =>
  (match r54.1 with
 | .inl y55 => ldG r54.2 (.ptr l32 0) 4 fun g57 =>
  ldG r54.2 (.ptr l10 0) 3 fun g58 =>
  aggK g57 4 fun cs59 =>
  stC r54.2 (.ptr l4 0) cs59 fun σ60 =>
  ldG σ60 (.ptr l10 0) 3 fun g61 =>
  chk ((g61 : AVal) = g58) (
  aggK g58 3 fun cs62 =>
  stC σ60 (.ptr l6 0) cs62 fun σ63 =>
  ldG σ63 (.ptr l4 0) 4 fun g64 =>
  ldG σ63 (.ptr l6 0) 3 fun g65 =>
  some ((g64, g65), σ63))
 | .inr y56 => ldG r54.2 (.ptr l4 0) 4 fun g66 =>
  ldG r54.2 (.ptr l6 0) 3 fun g67 =>
  some ((g66, g67), r54.2))))))
noncomputable def W.skolemref1_Norm2 : Spec := .eff [.V, .V] fun args σ => packs args [.V] fun x => S.skolemref1_Norm2 x σ


noncomputable def S.skolemref_SameInts.b0 (p3 : AVal) (p4 : AVal) (σ0 : Heap) : Int → Option (Int ⊕ (Unit ⊕ Bool)) := fun x5 =>
  lenV p3 fun n7 =>
  cond (decide (x5 < n7)) (
  ixA σ0 p3 1 x5 fun a8 =>
  ld σ0 a8 (.I .i64) fun n9 =>
  ixA σ0 p4 1 x5 fun a10 =>
  ld σ0 a10 (.I .i64) fun n11 =>
  cond (!(n9 == n11)) (
  some (.inr (.inr false)))
  (some (.inl (IntKind.i64.wrap (x5 + 1)))))
  (some (.inr (.inl ())))
noncomputable def S.skolemref_SameInts (a_ : AVal) (b_ : AVal) (σ : Heap) : Option Bool :=
  lenV a_ fun n1 =>
  lenV b_ fun n2 =>
  cond (n1 != n2) (
  some false)
  ((loopP (S.skolemref_SameInts.b0 a_ b_ σ) 0).bind fun r12 =>
  (match r12 with
 | .inl y13 => some true
 | .inr y14 => some y14))
noncomputable def W.skolemref_SameInts : Spec := .pur [.B] fun args σ => packs args [.V, .V] fun x => S.skolemref_SameInts x.1 x.2 σ


noncomputable def S.skolemref_SameClauses.b0 (p3 : AVal) (p4 : AVal) (σ0 : Heap) : Int → Option (Int ⊕ (Unit ⊕ Bool)) := fun x5 =>
  lenV p3 fun n7 =>
  cond (decide (x5 < n7)) (
  ixA σ0 p3 1 x5 fun a8 =>
  ld σ0 a8 (.V) fun v9 =>
  ixA σ0 p4 1 x5 fun a10 =>
  ld σ0 a10 (.V) fun v11 =>
  (S.skolemref_SameInts v9 v11 σ0).bind fun r12 =>
  cond (!r12) (
  some (.inr (.inr false)))
  (some (.inl (IntKind.i64.wrap (x5 + 1)))))
  (some (.inr (.inl ())))
noncomputable def S.skolemref_SameClauses (a_ : AVal) (b_ : AVal) (σ : Heap) : Option Bool :=
  lenV a_ fun n1 =>
  lenV b_ fun n2 =>
  cond (n1 != n2) (
  some false)
  ((loopP (S.skolemref_SameClauses.b0 a_ b_ σ) 0).bind fun r13 =>
  (match r13 with
 | .inl y14 => some true
 | .inr y15 => some y15))
noncomputable def W.skolemref_SameClauses : Spec := .pur [.B] fun args σ => packs args [.V, .V] fun x => S.skolemref_SameClauses x.1 x.2 σ


noncomputable def S.skolemref_SameGame (a_ : AVal) (b_ : AVal) (σ : Heap) : Option (Bool × Heap) :=
  aggK a_ 4 fun cs1 =>
  newK σ 4 cs1 fun l2 σ3 =>
  aggK b_ 4 fun cs4 =>
  newK σ3 4 cs4 fun l5 σ6 =>
  (ld σ6 (.ptr l2 0) (.B) fun b7 =>
  ld σ6 (.ptr l5 0) (.B) fun b8 =>
  cond (b7 == b8) (
  ld σ6 (.ptr l2 1) (.V) fun v9 =>
  ld σ6 (.ptr l5 1) (.V) fun v10 =>
  (S.skolemref_SameInts v9 v10 σ6).bind fun r11 =>
  cond r11 (
  ld σ6 (.ptr l2 2) (.V) fun v12 =>
  ld σ6 (.ptr l5 2) (.V) fun v13 =>
  (S.skolemref_SameInts v12 v13 σ6).bind fun r14 =>
  cond r14 (
  ld σ6 (.ptr l2 3) (.V) fun v15 =>
  ld σ6 (.ptr l5 3) (.V) fun v16 =>
  (S.skolemref_SameClauses v15 v16 σ6).bind fun r17 =>
  some r17)
  (some false))
  (some false))
  (some false)).bind fun r18 =>
  some (r18, σ6)
noncomputable def W.skolemref_SameGame : Spec := .eff [.B] fun args σ => packs args [.V, .V] fun x => S.skolemref_SameGame x.1 x.2 σ


noncomputable def S.skolemsee_sentinels (σ : Heap) : Option (AVal × Heap) :=
  ld σ (.ptr 4 0) (.V) fun v1 =>
  ld σ (.ptr 3 0) (.V) fun v2 =>
  ld σ (.ptr 5 0) (.V) fun v3 =>
  ld σ (.ptr 2 0) (.V) fun v4 =>
  ld σ (.ptr 0 0) (.V) fun v5 =>
  ld σ (.ptr 1 0) (.V) fun v6 =>
  ld σ (.ptr 6 0) (.V) fun v7 =>
  scal v1 (
  scal v2 (
  scal v3 (
  scal v4 (
  scal v5 (
  scal v6 (
  scal v7 (
  newK σ 1 [v1, v2, v3, v4, v5, v6, v7] fun l8 σ9 =>
  some ((.sl l8 0 7 none), σ9))))))))
noncomputable def W.skolemsee_sentinels : Spec := .eff [.V] fun args σ => packs args [] fun x => S.skolemsee_sentinels σ


noncomputable def S.skolemsee_Alike (a_ : AVal) (b_ : AVal) (σ : Heap) : Option Bool :=
  (eqI (tiOf Tryd.prog) σ true a_ .nili fun b1 =>
  cond b1 (
  some true)
  (eqI (tiOf Tryd.prog) σ true b_ .nili fun b2 =>
  some b2)).bind fun r3 =>
  cond r3 (
  (eqI (tiOf Tryd.prog) σ true a_ .nili fun b4 =>
  cond b4 (
  eqI (tiOf Tryd.prog) σ true b_ .nili fun b5 =>
  some b5)
  (some false)).bind fun r6 =>
  some r6)
  (eqI (tiOf Tryd.prog) σ false a_ b_ fun b7 =>
  some b7)
noncomputable def W.skolemsee_Alike : Spec := .pur [.B] fun args σ => packs args [.V, .V] fun x => S.skolemsee_Alike x.1 x.2 σ


noncomputable def S.skolemsee_sentinel.b0 (p2 : AVal) (p3 : AVal) (σ0 : Heap) : Int → Option (Int ⊕ (Unit ⊕ Int)) := fun x4 =>
  lenV p3 fun n6 =>
  cond (decide (x4 < n6)) (
  ixA σ0 p3 1 x4 fun a7 =>
  ld σ0 a7 (.V) fun v8 =>
  (S.skolemsee_Alike p2 v8 σ0).bind fun r9 =>
  cond r9 (
  some (.inr (.inr (IntKind.i64.wrap (101 + x4)))))
  (some (.inl (IntKind.i64.wrap (x4 + 1)))))
  (some (.inr (.inl ())))
noncomputable def S.skolemsee_sentinel (e_ : AVal) (σ : Heap) : Option (Int × Heap) :=
  (S.skolemsee_sentinels σ).bind fun r1 =>
  (loopP (S.skolemsee_sentinel.b0 e_ r1.1 r1.2) 0).bind fun r10 =>
  (match r10 with
 | .inl y11 => some ((-1), r1.2)
 | .inr y12 => some (y12, r1.2))
noncomputable def W.skolemsee_sentinel : Spec := .eff [.I .i64] fun args σ => packs args [.V] fun x => S.skolemsee_sentinel x σ


noncomputable def S.skolemsee_Fault (e_ : AVal) (σ : Heap) : Option (AVal × Heap) :=
  newK σ 3 [(.int .i64 0), (.bool false), (.int .i64 0)] fun l1 σ2 =>
  eqI (tiOf Tryd.prog) σ2 true e_ .nili fun b3 =>
  cond b3 (
  (S.skolemref_None σ2).bind fun r4 =>
  aggK r4.1 3 fun cs5 =>
  stC r4.2 (.ptr l1 0) cs5 fun σ6 =>
  ldG σ6 (.ptr l1 0) 3 fun g7 =>
  some (g7, σ6))
  (assertZ 135 e_ .nilp fun x8 b10 =>
  cond (!b10) (
  (S.skolemsee_sentinel e_ σ2).bind fun r11 =>
  (S.skolemref_Bare r11.1 r11.2).bind fun r12 =>
  aggK r12.1 3 fun cs13 =>
  stC r12.2 (.ptr l1 0) cs13 fun σ14 =>
  ldG σ14 (.ptr l1 0) 3 fun g15 =>
  some (g15, σ14))
  ((eqP x8 .nilp fun b16 =>
  cond b16 (
  some true)
  (nilck x8 (
  fld x8 1 fun a17 =>
  ld σ2 a17 (.V) fun v18 =>
  eqI (tiOf Tryd.prog) σ2 true v18 .nili fun b19 =>
  some b19))).bind fun r20 =>
  cond r20 (
  (S.skolemref_Bare (-1) σ2).bind fun r21 =>
  aggK r21.1 3 fun cs22 =>
  stC r21.2 (.ptr l1 0) cs22 fun σ23 =>
  ldG σ23 (.ptr l1 0) 3 fun g24 =>
  some (g24, σ23))
  (nilck x8 (
  fld x8 1 fun a25 =>
  ld σ2 a25 (.V) fun v26 =>
  (S.skolemsee_sentinel v26 σ2).bind fun r27 =>
  nilck x8 (
  fld x8 0 fun a28 =>
  ld r27.2 a28 (.I .i64) fun n29 =>
  ld σ2 a28 (.I .i64) fun n30 =>
  chk (((.int .i64 n30) : AVal) = (.int .i64 n29)) (
  (S.skolemref_Placed r27.1 n29 r27.2).bind fun r31 =>
  aggK r31.1 3 fun cs32 =>
  stC r31.2 (.ptr l1 0) cs32 fun σ33 =>
  ldG σ33 (.ptr l1 0) 3 fun g34 =>
  some (g34, σ33)))))))
noncomputable def W.skolemsee_Fault : Spec := .eff [.V] fun args σ => packs args [.V] fun x => S.skolemsee_Fault x σ


noncomputable def S.skolemref_SameFault (a_ : AVal) (b_ : AVal) (σ : Heap) : Option (Bool × Heap) :=
  aggK a_ 3 fun cs1 =>
  newK σ 3 cs1 fun l2 σ3 =>
  aggK b_ 3 fun cs4 =>
  newK σ3 3 cs4 fun l5 σ6 =>
  (ld σ6 (.ptr l2 0) (.I .i64) fun n7 =>
  ld σ6 (.ptr l5 0) (.I .i64) fun n8 =>
  cond (n7 == n8) (
  ld σ6 (.ptr l2 1) (.B) fun b9 =>
  ld σ6 (.ptr l5 1) (.B) fun b10 =>
  cond (b9 == b10) (
  ld σ6 (.ptr l2 2) (.I .i64) fun n11 =>
  ld σ6 (.ptr l5 2) (.I .i64) fun n12 =>
  some (n11 == n12))
  (some false))
  (some false)).bind fun r13 =>
  some (r13, σ6)
noncomputable def W.skolemref_SameFault : Spec := .eff [.B] fun args σ => packs args [.V, .V] fun x => S.skolemref_SameFault x.1 x.2 σ


noncomputable def S.skolemsee_Same (e_ : AVal) (f_ : AVal) (σ : Heap) : Option (Bool × Heap) :=
  aggK f_ 3 fun cs1 =>
  newK σ 3 cs1 fun l2 σ3 =>
  (S.skolemsee_Fault e_ σ3).bind fun r4 =>
  ldG r4.2 (.ptr l2 0) 3 fun g5 =>
  ldG σ3 (.ptr l2 0) 3 fun g6 =>
  chk ((g6 : AVal) = g5) (
  (S.skolemref_SameFault r4.1 g5 r4.2).bind fun r7 =>
  some (r7.1, r7.2))
noncomputable def W.skolemsee_Same : Spec := .eff [.B] fun args σ => packs args [.V, .V] fun x => S.skolemsee_Same x.1 x.2 σ


noncomputable def S.skolemref_SameBlock (a_ : AVal) (b_ : AVal) (σ : Heap) : Option (Bool × Heap) :=
  aggK a_ 2 fun cs1 =>
  newK σ 2 cs1 fun l2 σ3 =>
  aggK b_ 2 fun cs4 =>
  newK σ3 2 cs4 fun l5 σ6 =>
  (ld σ6 (.ptr l2 0) (.B) fun b7 =>
  ld σ6 (.ptr l5 0) (.B) fun b8 =>
  cond (b7 == b8) (
  ld σ6 (.ptr l2 1) (.V) fun v9 =>
  ld σ6 (.ptr l5 1) (.V) fun v10 =>
  (S.skolemref_SameInts v9 v10 σ6).bind fun r11 =>
  some r11)
  (some false)).bind fun r12 =>
  some (r12, σ6)
noncomputable def W.skolemref_SameBlock : Spec := .eff [.B] fun args σ => packs args [.V, .V] fun x => S.skolemref_SameBlock x.1 x.2 σ


noncomputable def S.skolemref_SameBlocks.b0 (p3 : AVal) (p4 : AVal) : Int → Heap → Option ((Int ⊕ (Unit ⊕ Bool)) × Heap) := fun x5 σ6 =>
  lenV p3 fun n7 =>
  cond (decide (x5 < n7)) (
  ixA σ6 p3 2 x5 fun a8 =>
  ldG σ6 a8 2 fun g9 =>
  ixA σ6 p4 2 x5 fun a10 =>
  ldG σ6 a10 2 fun g11 =>
  (S.skolemref_SameBlock g9 g11 σ6).bind fun r12 =>
  cond (!r12.1) (
  some (.inr (.inr false), r12.2))
  (some (.inl (IntKind.i64.wrap (x5 + 1)), r12.2)))
  (some (.inr (.inl ()), σ6))
noncomputable def S.skolemref_SameBlocks (a_ : AVal) (b_ : AVal) (σ : Heap) : Option (Bool × Heap) :=
  lenV a_ fun n1 =>
  lenV b_ fun n2 =>
  cond (n1 != n2) (
  some (false, σ))
  ((loopW (S.skolemref_SameBlocks.b0 a_ b_) 0 σ).bind fun r13 =>
  (match r13.1 with
 | .inl y14 => some (true, r13.2)
 | .inr y15 => some (y15, r13.2)))
noncomputable def W.skolemref_SameBlocks : Spec := .eff [.B] fun args σ => packs args [.V, .V] fun x => S.skolemref_SameBlocks x.1 x.2 σ


noncomputable def S.skolemlaw6_PrefixSays (f_ : AVal) (σ : Heap) : Option (Bool × Heap) :=
  aggK f_ 3 fun cs1 =>
  newK σ 3 cs1 fun l2 σ3 =>
  (S.skolemlaw6_first σ3).bind fun r4 =>
  cond (!r4.1) (
  some (false, r4.2))
  (ldG r4.2 (.ptr l2 0) 3 fun g5 =>
  (S.skolemlaw6_light g5 r4.2).bind fun r6 =>
  cond (!r6.1) (
  some (r4.1, r6.2))
  (ldG r6.2 (.ptr l2 0) 3 fun g7 =>
  (S.prefix_Norm g7 r6.2).bind fun r8 =>
  newK r8.2 4 [(.bool false), .nils, .nils, .nils] fun l9 σ10 =>
  aggK r8.1.1 4 fun cs11 =>
  stC σ10 (.ptr l9 0) cs11 fun σ12 =>
  ldG σ12 (.ptr l2 0) 3 fun g13 =>
  (S.skolemref1_Norm2 g13 σ12).bind fun r14 =>
  newK r14.2 4 [(.bool false), .nils, .nils, .nils] fun l15 σ16 =>
  newK σ16 3 [(.int .i64 0), (.bool false), (.int .i64 0)] fun l17 σ18 =>
  aggK r14.1.1 4 fun cs19 =>
  stC σ18 (.ptr l15 0) cs19 fun σ20 =>
  aggK r14.1.2 3 fun cs21 =>
  stC σ20 (.ptr l17 0) cs21 fun σ22 =>
  (cond r4.1 (
  ldG σ22 (.ptr l9 0) 4 fun g23 =>
  ldG σ22 (.ptr l15 0) 4 fun g24 =>
  (S.skolemref_SameGame g23 g24 σ22).bind fun r25 =>
  cond r25.1 (
  ldG r25.2 (.ptr l17 0) 3 fun g26 =>
  (S.skolemsee_Same r8.1.2 g26 r25.2).bind fun r27 =>
  cond r27.1 (
  ldG r27.2 (.ptr l2 0) 3 fun g28 =>
  (S.prefix_Free g28 r27.2).bind fun r29 =>
  ldG r29.2 (.ptr l2 0) 3 fun g30 =>
  ldG r27.2 (.ptr l2 0) 3 fun g31 =>
  chk ((g31 : AVal) = g30) (
  (S.skolemref1_Free g30 r29.2).bind fun r32 =>
  (S.skolemref_SameInts r29.1 r32.1 r32.2).bind fun r33 =>
  cond r33 (
  ld r32.2 (.ptr l2 0) (.V) fun v34 =>
  (S.prefix_Merge v34 r32.2).bind fun r35 =>
  ld r35.2 (.ptr l2 0) (.V) fun v36 =>
  ld r32.2 (.ptr l2 0) (.V) fun v37 =>
  chk ((v37 : AVal) = v36) (
  (S.skolemref1_Merge v36 r35.2).bind fun r38 =>
  (S.skolemref_SameBlocks r35.1 r38.1 r38.2).bind fun r39 =>
  some (r39.1, r39.2)))
  (some (false, r32.2))))
  (some (false, r27.2)))
  (some (false, r25.2)))
  (some (false, σ22))).bind fun r40 =>
  some (r40.1, r40.2)))
noncomputable def W.skolemlaw6_PrefixSays : Spec := .eff [.B] fun args σ => packs args [.V] fun x => S.skolemlaw6_PrefixSays x σ


noncomputable def S.skolemlaw6_PrefixMerges.b0 (p3 : AVal) (p4 : Bool) : (AVal × Int) → Heap → Option (((AVal × Int) ⊕ (AVal ⊕ Bool)) × Heap) := fun x5 σ6 =>
  lenV p3 fun n7 =>
  cond (decide (x5.2 < n7)) (
  ixA σ6 p3 2 x5.2 fun a8 =>
  fld a8 1 fun a9 =>
  ld σ6 a9 (.V) fun v10 =>
  lenV v10 fun n11 =>
  cond (decide (n11 > 30)) (
  some (.inr (.inr p4), σ6))
  (ixA σ6 p3 2 x5.2 fun a12 =>
  fld a12 1 fun a13 =>
  ld σ6 a13 (.V) fun v14 =>
  appS σ6 1 8 x5.1 v14 fun v15 σ16 =>
  some (.inl (v15, (IntKind.i64.wrap (x5.2 + 1))), σ16)))
  (some (.inr (.inl x5.1), σ6))
noncomputable def S.skolemlaw6_PrefixMerges.b1 (p21 : Bool) (p22 : AVal) (p23 : AVal) : (AVal × Int) → Heap → Option (((AVal × Int) ⊕ (AVal ⊕ Bool)) × Heap) := fun x24 σ25 =>
  lenV p23 fun n26 =>
  cond (decide (x24.2 < n26)) (
  (ixA σ25 p23 2 x24.2 fun a27 =>
  fld a27 1 fun a28 =>
  ld σ25 a28 (.V) fun v29 =>
  lenV v29 fun n30 =>
  cond (n30 == 0) (
  some true)
  (cond (decide (x24.2 > 0)) (
  ixA σ25 p23 2 x24.2 fun a31 =>
  fld a31 0 fun a32 =>
  ld σ25 a32 (.B) fun b33 =>
  ixA σ25 p23 2 (IntKind.i64.wrap (x24.2 - 1)) fun a34 =>
  fld a34 0 fun a35 =>
  ld σ25 a35 (.B) fun b36 =>
  some (b33 == b36))
  (some false))).bind fun r37 =>
  cond r37 (
  some (.inr (.inr false), σ25))
  (ixA σ25 p23 2 x24.2 fun a38 =>
  fld a38 1 fun a39 =>
  ld σ25 a39 (.V) fun v40 =>
  appS σ25 1 8 x24.1 v40 fun v41 σ42 =>
  some (.inl (v41, (IntKind.i64.wrap (x24.2 + 1))), σ42)))
  (some (.inr (.inl x24.1), σ25))
noncomputable def S.skolemlaw6_PrefixMerges (p0 : AVal) (σ : Heap) : Option (Bool × Heap) :=
  (S.skolemlaw6_first σ).bind fun r1 =>
  cond (!r1.1) (
  some (false, r1.2))
  (lenV p0 fun n2 =>
  cond (decide (n2 > 8)) (
  some (r1.1, r1.2))
  ((loopW (S.skolemlaw6_PrefixMerges.b0 p0 r1.1) (.nils, 0) r1.2).bind fun r17 =>
  (match r17.1 with
 | .inl y18 => (S.prefix_Merge p0 r17.2).bind fun r20 =>
  (loopW (S.skolemlaw6_PrefixMerges.b1 r1.1 y18 r20.1) (.nils, 0) r20.2).bind fun r43 =>
  (match r43.1 with
 | .inl y44 => (cond r1.1 (
  (S.skolemref_SameInts y44 y18 r43.2).bind fun r46 =>
  cond r46 (
  (S.prefix_Merge r20.1 r43.2).bind fun r47 =>
  (S.skolemref_SameBlocks r47.1 r20.1 r47.2).bind fun r48 =>
  some (r48.1, r48.2))
  (some (false, r43.2)))
  (some (false, r43.2))).bind fun r49 =>
  some (r49.1, r49.2)
 | .inr y45 => some (y45, r43.2))
 | .inr y19 => some (y19, r17.2))))
noncomputable def W.skolemlaw6_PrefixMerges : Spec := .eff [.B] fun args σ => packs args [.V] fun x => S.skolemlaw6_PrefixMerges x σ


noncomputable def S.skolemworld_Number (n_ : Int) (below_ : Int) (σ : Heap) : Option Int :=
  if below_ = 0 then none else
  (cond (decide ((Int.tmod n_ below_) < 0)) (
  some (IntKind.i64.wrap ((Int.tmod n_ below_) + below_)))
  (some (Int.tmod n_ below_))).bind fun r1 =>
  some r1
noncomputable def W.skolemworld_Number : Spec := .pur [.I .i64] fun args σ => packs args [.I .i64, .I .i64] fun x => S.skolemworld_Number x.1 x.2 σ


noncomputable def S.skolemmake_Lit (n_ : Int) (vars_ : Int) (σ : Heap) : Option Int :=
  (S.skolemworld_Number n_ (IntKind.i64.wrap (2 * vars_)) σ).bind fun r1 =>
  cond (decide (r1 < vars_)) (
  some (IntKind.i64.wrap (r1 + 1)))
  (some (IntKind.i64.wrap ((IntKind.i64.wrap (vars_ - r1)) - 1)))
noncomputable def W.skolemmake_Lit : Spec := .pur [.I .i64] fun args σ => packs args [.I .i64, .I .i64] fun x => S.skolemmake_Lit x.1 x.2 σ


noncomputable def S.skolemmake_Clauses.b0 (p1 : AVal) (p2 : Int) : (AVal × AVal × Int) → Heap → Option (((AVal × AVal × Int) ⊕ ((AVal × AVal))) × Heap) := fun x3 σ4 =>
  lenV p1 fun n5 =>
  cond (decide (x3.2.2 < n5)) (
  ((ixA σ4 p1 1 x3.2.2 fun a6 =>
  ld σ4 a6 (.I .i64) fun n7 =>
  (S.skolemworld_Number n7 7 σ4).bind fun r8 =>
  cond (r8 == 0) (
  lenV x3.2.1 fun n9 =>
  cond (decide (n9 > 0)) (
  some true)
  (lenV x3.2.1 fun n10 =>
  some (decide (n10 ≥ 5))))
  (lenV x3.2.1 fun n11 =>
  some (decide (n11 ≥ 5)))).bind fun r12 =>
  (cond r12 (
  scal x3.2.1 (
  newK σ4 1 [x3.2.1] fun l13 σ14 =>
  appS σ14 1 24 x3.1 (.sl l13 0 1 none) fun v15 σ16 =>
  some ((v15, .nils), σ16)))
  (some ((x3.1, x3.2.1), σ4))).bind fun r17 =>
  ixA r17.2 p1 1 x3.2.2 fun a18 =>
  ld r17.2 a18 (.I .i64) fun n19 =>
  (S.skolemworld_Number n19 1099511627776 r17.2).bind fun r20 =>
  (S.skolemmake_Lit (IntKind.i64.wrap (Int.tdiv r20 7)) p2 r17.2).bind fun r21 =>
  newK r17.2 1 [(.int .i64 r21)] fun l22 σ23 =>
  appS σ23 1 8 r17.1.2 (.sl l22 0 1 none) fun v24 σ25 =>
  some ((r17.1.1, v24), σ25)).bind fun r26 =>
  some (.inl (r26.1.1, r26.1.2, (IntKind.i64.wrap (x3.2.2 + 1))), r26.2))
  (some (.inr (x3.1, x3.2.1), σ4))
noncomputable def S.skolemmake_Clauses (l_ : AVal) (vars_ : Int) (σ : Heap) : Option (AVal × Heap) :=
  cond (decide (vars_ < 1)) (
  some (.nils, σ))
  ((loopW (S.skolemmake_Clauses.b0 l_ vars_) (.nils, .nils, 0) σ).bind fun r27 =>
  lenV r27.1.2 fun n28 =>
  (cond (decide (n28 > 0)) (
  scal r27.1.2 (
  newK r27.2 1 [r27.1.2] fun l29 σ30 =>
  appS σ30 1 24 r27.1.1 (.sl l29 0 1 none) fun v31 σ32 =>
  some (v31, σ32)))
  (some (r27.1.1, r27.2))).bind fun r33 =>
  some (r33.1, r33.2))
noncomputable def W.skolemmake_Clauses : Spec := .eff [.V] fun args σ => packs args [.V, .I .i64] fun x => S.skolemmake_Clauses x.1 x.2 σ


noncomputable def S.skolemmake_CNF (l_ : AVal) (vars_ : Int) (σ : Heap) : Option (AVal × Heap) :=
  newK σ 2 [(.int .i64 0), .nils] fun l1 σ2 =>
  (S.skolemmake_Clauses l_ vars_ σ2).bind fun r3 =>
  scal r3.1 (
  stC r3.2 (.ptr l1 0) [(.int .i64 vars_), r3.1] fun σ4 =>
  ldG σ4 (.ptr l1 0) 2 fun g5 =>
  some (g5, σ4))
noncomputable def W.skolemmake_CNF : Spec := .eff [.V] fun args σ => packs args [.V, .I .i64] fun x => S.skolemmake_CNF x.1 x.2 σ


noncomputable def S.skolemmake_Formula.b0 (p16 : Int) (p17 : Int) (p18 : Bool) (p19 : Int) (p20 : AVal) (p21 : AVal) (p22 : AVal) (p23 : AVal) : Int → Heap → Option ((Int ⊕ Unit) × Heap) := fun x24 σ25 =>
  cond (decide (x24 ≤ p16)) (
  ((cond p18 (
  some (decide (x24 ≤ p19)))
  (some false)).bind fun r26 =>
  cond r26 (
  some ((), σ25))
  (cond (decide (x24 ≤ p17)) (
  fld p22 1 fun a27 =>
  ld σ25 a27 (.V) fun v28 =>
  newK σ25 1 [(.int .i64 x24)] fun l29 σ30 =>
  appS σ30 1 8 v28 (.sl l29 0 1 none) fun v31 σ32 =>
  fld p22 1 fun a33 =>
  scal v31 (
  stC σ32 a33 [v31] fun σ34 =>
  some ((), σ34)))
  (fld p23 1 fun a35 =>
  ld σ25 a35 (.V) fun v36 =>
  newK σ25 1 [(.int .i64 x24)] fun l37 σ38 =>
  appS σ38 1 8 v36 (.sl l37 0 1 none) fun v39 σ40 =>
  fld p23 1 fun a41 =>
  scal v39 (
  stC σ40 a41 [v39] fun σ42 =>
  some ((), σ42))))).bind fun r43 =>
  some (.inl (IntKind.i64.wrap (x24 + 1)), r43.2))
  (some (.inr (), σ25))
noncomputable def S.skolemmake_Formula (l_ : AVal) (vars_ : Int) (first_ : Int) (exists_ : Bool) (free_ : Int) (σ : Heap) : Option (AVal × Heap) :=
  newK σ 3 [.nils, (.int .i64 0), .nils] fun l1 σ2 =>
  (S.skolemmake_CNF l_ vars_ σ2).bind fun r3 =>
  aggK r3.1 2 fun cs4 =>
  putC [.nils, (.int .i64 0), .nils] 1 2 cs4 fun cs5 =>
  newK r3.2 3 [.nils, (.int .i64 0), .nils] fun l6 σ7 =>
  aggK (.agg cs5) 3 fun cs8 =>
  stC σ7 (.ptr l6 0) cs8 fun σ9 =>
  newK σ9 2 [(.bool false), .nils] fun l10 σ11 =>
  stC σ11 (.ptr l10 0) [(.bool exists_), .nils] fun σ12 =>
  newK σ12 2 [(.bool false), .nils] fun l13 σ14 =>
  stC σ14 (.ptr l13 0) [(.bool (!exists_)), .nils] fun σ15 =>
  (loopW (S.skolemmake_Formula.b0 vars_ first_ exists_ free_ (.ptr l1 0) (.ptr l6 0) (.ptr l10 0) (.ptr l13 0)) 1 σ15).bind fun r44 =>
  ldG r44.2 (.ptr l10 0) 2 fun g45 =>
  ldG r44.2 (.ptr l13 0) 2 fun g46 =>
  aggK g45 2 fun cs47 =>
  putC [(.bool false), .nils, (.bool false), .nils] 0 2 cs47 fun cs48 =>
  aggK g46 2 fun cs49 =>
  putC cs48 2 2 cs49 fun cs50 =>
  newK r44.2 2 cs50 fun l51 σ52 =>
  stC σ52 (.ptr l6 0) [(.sl l51 0 2 none)] fun σ53 =>
  ldG σ53 (.ptr l6 0) 3 fun g54 =>
  aggK g54 3 fun cs55 =>
  stC σ53 (.ptr l1 0) cs55 fun σ56 =>
  ldG σ56 (.ptr l1 0) 3 fun g57 =>
  some (g57, σ56)
noncomputable def W.skolemmake_Formula : Spec := .eff [.V] fun args σ => packs args [.V, .I .i64, .I .i64, .B, .I .i64] fun x => S.skolemmake_Formula x.1 x.2.1 x.2.2.1 x.2.2.2.1 x.2.2.2.2 σ


noncomputable def S.skolemlaw6_PrefixFree.b0 (p31 : Bool) (p32 : AVal) (p33 : AVal) (p34 : AVal) (p35 : AVal) (p36 : Int) (σ0 : Heap) : Int → Option (Int ⊕ (Unit ⊕ Bool)) := fun x37 =>
  fld p32 0 fun a39 =>
  ld σ0 a39 (.V) fun v40 =>
  lenV v40 fun n41 =>
  cond (decide (x37 < n41)) (
  fld p32 0 fun a42 =>
  ld σ0 a42 (.V) fun v43 =>
  ixA σ0 v43 2 x37 fun a44 =>
  fld a44 1 fun a45 =>
  ld σ0 a45 (.V) fun v46 =>
  ixA σ0 p33 1 p36 fun a47 =>
  ld σ0 a47 (.I .i64) fun n48 =>
  (S.skolemref_Has v46 n48 σ0).bind fun r49 =>
  cond r49 (
  some (.inr (.inr false)))
  (some (.inl (IntKind.i64.wrap (x37 + 1)))))
  (some (.inr (.inl ())))
noncomputable def S.skolemlaw6_PrefixFree.b1 (p18 : Bool) (p19 : AVal) (p20 : AVal) (p21 : AVal) (p22 : AVal) (σ0 : Heap) : Int → Option (Int ⊕ (Unit ⊕ Bool)) := fun x23 =>
  lenV p20 fun n25 =>
  cond (decide (x23 < n25)) (
  (cond (decide (x23 > 0)) (
  ixA σ0 p20 1 x23 fun a26 =>
  ld σ0 a26 (.I .i64) fun n27 =>
  ixA σ0 p20 1 (IntKind.i64.wrap (x23 - 1)) fun a28 =>
  ld σ0 a28 (.I .i64) fun n29 =>
  some (decide (n27 ≤ n29)))
  (some false)).bind fun r30 =>
  cond r30 (
  some (.inr (.inr false)))
  ((loopP (S.skolemlaw6_PrefixFree.b0 p18 p19 p20 p21 p22 x23 σ0) 0).bind fun r50 =>
  (match r50 with
 | .inl y51 => (eqI (tiOf Tryd.prog) σ0 true p22 .nili fun b53 =>
  cond b53 (
  fld p21 0 fun a54 =>
  ld σ0 a54 (.B) fun b55 =>
  cond (!b55) (
  some true)
  (fld p21 1 fun a56 =>
  ld σ0 a56 (.V) fun v57 =>
  ixA σ0 p20 1 x23 fun a58 =>
  ld σ0 a58 (.I .i64) fun n59 =>
  (S.skolemref_Has v57 n59 σ0).bind fun r60 =>
  some (!r60)))
  (some false)).bind fun r61 =>
  cond r61 (
  some (.inr (.inr false)))
  (some (.inl (IntKind.i64.wrap (x23 + 1))))
 | .inr y52 => some (.inr (.inr y52)))))
  (some (.inr (.inl ())))
noncomputable def S.skolemlaw6_PrefixFree (p0 : AVal) (p1 : Int) (p2 : Bool) (p3 : Int) (σ : Heap) : Option (Bool × Heap) :=
  (S.skolemlaw6_first σ).bind fun r1 =>
  cond (!r1.1) (
  some (false, r1.2))
  (lenV p0 fun n2 =>
  cond (decide (n2 > 60)) (
  some (r1.1, r1.2))
  ((cond (decide (p1 < 0)) (
  some (IntKind.i64.wrap (0 - (IntKind.i64.wrap (p1 + 1)))))
  (some p1)).bind fun r3 =>
  (cond (decide (p3 < 0)) (
  some (IntKind.i64.wrap (0 - (IntKind.i64.wrap (p3 + 1)))))
  (some p3)).bind fun r4 =>
  (S.skolemmake_Formula p0 9 (Int.tmod r3 10) p2 (Int.tmod r4 4) r1.2).bind fun r5 =>
  newK r5.2 3 [.nils, (.int .i64 0), .nils] fun l6 σ7 =>
  aggK r5.1 3 fun cs8 =>
  stC σ7 (.ptr l6 0) cs8 fun σ9 =>
  ldG σ9 (.ptr l6 0) 3 fun g10 =>
  (S.prefix_Free g10 σ9).bind fun r11 =>
  ldG r11.2 (.ptr l6 0) 3 fun g12 =>
  (S.prefix_Norm g12 r11.2).bind fun r13 =>
  newK r13.2 4 [(.bool false), .nils, .nils, .nils] fun l14 σ15 =>
  aggK r13.1.1 4 fun cs16 =>
  stC σ15 (.ptr l14 0) cs16 fun σ17 =>
  (loopP (S.skolemlaw6_PrefixFree.b1 r1.1 (.ptr l6 0) r11.1 (.ptr l14 0) r13.1.2 σ17) 0).bind fun r62 =>
  (match r62 with
 | .inl y63 => (cond r1.1 (
  eqI (tiOf Tryd.prog) σ17 true r13.1.2 .nili fun b65 =>
  some b65)
  (some false)).bind fun r66 =>
  some (r66, σ17)
 | .inr y64 => some (y64, σ17))))
noncomputable def W.skolemlaw6_PrefixFree : Spec := .eff [.B] fun args σ => packs args [.V, .I .i64, .B, .I .i64] fun x => S.skolemlaw6_PrefixFree x.1 x.2.1 x.2.2.1 x.2.2.2 σ


noncomputable def S.skolemlaw6_PrefixBlocks.b0 (p19 : Bool) (p20 : Bool) (p21 : AVal) (p22 : AVal) (p23 : Bool) (p24 : Int) (p25 : AVal) : (Int × Int) → Heap → Option (((Int × Int) ⊕ Int) × Heap) := fun x26 σ27 =>
  ixA σ27 p21 1 p24 fun a28 =>
  ld σ27 a28 (.I .i64) fun n29 =>
  cond (decide (x26.2 < n29)) (
  fld p25 1 fun a30 =>
  ld σ27 a30 (.V) fun v31 =>
  newK σ27 1 [(.int .i64 x26.1)] fun l32 σ33 =>
  appS σ33 1 8 v31 (.sl l32 0 1 none) fun v34 σ35 =>
  fld p25 1 fun a36 =>
  scal v34 (
  stC σ35 a36 [v34] fun σ37 =>
  some (.inl ((IntKind.i64.wrap (x26.1 + 1)), (IntKind.i64.wrap (x26.2 + 1))), σ37)))
  (some (.inr x26.1, σ27))
noncomputable def S.skolemlaw6_PrefixBlocks.b1 (p10 : Bool) (p11 : Bool) (p12 : AVal) (p13 : AVal) : (Int × Bool × Int) → Heap → Option (((Int × Bool × Int) ⊕ Unit) × Heap) := fun x14 σ15 =>
  cond (decide (x14.2.2 < 3)) (
  newK σ15 2 [(.bool false), .nils] fun l16 σ17 =>
  stC σ17 (.ptr l16 0) [(.bool x14.2.1), .nils] fun σ18 =>
  (loopW (S.skolemlaw6_PrefixBlocks.b0 p10 p11 p12 p13 x14.2.1 x14.2.2 (.ptr l16 0)) (x14.1, 0) σ18).bind fun r38 =>
  fld p13 0 fun a39 =>
  ld r38.2 a39 (.V) fun v40 =>
  ldG r38.2 (.ptr l16 0) 2 fun g41 =>
  aggK g41 2 fun cs42 =>
  putC [(.bool false), .nils] 0 2 cs42 fun cs43 =>
  newK r38.2 2 cs43 fun l44 σ45 =>
  appS σ45 2 32 v40 (.sl l44 0 1 none) fun v46 σ47 =>
  fld p13 0 fun a48 =>
  scal v46 (
  stC σ47 a48 [v46] fun σ49 =>
  some (.inl (r38.1, (!x14.2.1), (IntKind.i64.wrap (x14.2.2 + 1))), σ49)))
  (some (.inr (), σ15))
noncomputable def S.skolemlaw6_PrefixBlocks (p0 : Int) (p1 : Int) (p2 : Int) (p3 : Bool) (σ : Heap) : Option (Bool × Heap) :=
  (S.skolemlaw6_first σ).bind fun r1 =>
  cond (!r1.1) (
  some (false, r1.2))
  ((S.skolemworld_Number p0 4 r1.2).bind fun r2 =>
  (S.skolemworld_Number p1 4 r1.2).bind fun r3 =>
  (S.skolemworld_Number p2 4 r1.2).bind fun r4 =>
  newK r1.2 1 [(.int .i64 r2), (.int .i64 r3), (.int .i64 r4)] fun l5 σ6 =>
  newK σ6 3 [.nils, (.int .i64 0), .nils] fun l7 σ8 =>
  stC σ8 (.ptr l7 0) [.nils, (.int .i64 12), .nils] fun σ9 =>
  (loopW (S.skolemlaw6_PrefixBlocks.b1 p3 r1.1 (.sl l5 0 3 none) (.ptr l7 0)) (1, p3, 0) σ9).bind fun r50 =>
  ldG r50.2 (.ptr l7 0) 3 fun g51 =>
  (S.prefix_Norm g51 r50.2).bind fun r52 =>
  newK r52.2 4 [(.bool false), .nils, .nils, .nils] fun l53 σ54 =>
  aggK r52.1.1 4 fun cs55 =>
  stC σ54 (.ptr l53 0) cs55 fun σ56 =>
  (ixA σ56 (.sl l5 0 3 none) 1 0 fun a57 =>
  ld σ56 a57 (.I .i64) fun n58 =>
  cond (decide (n58 > 0)) (
  ixA σ56 (.sl l5 0 3 none) 1 1 fun a59 =>
  ld σ56 a59 (.I .i64) fun n60 =>
  cond (decide (n60 > 0)) (
  ixA σ56 (.sl l5 0 3 none) 1 2 fun a61 =>
  ld σ56 a61 (.I .i64) fun n62 =>
  some (decide (n62 > 0)))
  (some false))
  (some false)).bind fun r63 =>
  cond r63 (
  (cond r1.1 (
  (S.skolemref_Bare 105 σ56).bind fun r64 =>
  (S.skolemsee_Same r52.1.2 r64.1 r64.2).bind fun r65 =>
  some (r65.1, r65.2))
  (some (false, σ56))).bind fun r66 =>
  some (r66.1, r66.2))
  ((eqI (tiOf Tryd.prog) σ56 true r52.1.2 .nili fun b67 =>
  cond (!b67) (
  some true)
  (ld σ56 (.ptr l53 1) (.V) fun v68 =>
  lenV v68 fun n69 =>
  ld σ56 (.ptr l53 2) (.V) fun v70 =>
  lenV v70 fun n71 =>
  ixA σ56 (.sl l5 0 3 none) 1 0 fun a72 =>
  ld σ56 a72 (.I .i64) fun n73 =>
  ixA σ56 (.sl l5 0 3 none) 1 1 fun a74 =>
  ld σ56 a74 (.I .i64) fun n75 =>
  ixA σ56 (.sl l5 0 3 none) 1 2 fun a76 =>
  ld σ56 a76 (.I .i64) fun n77 =>
  some ((IntKind.i64.wrap (n69 + n71)) != (IntKind.i64.wrap ((IntKind.i64.wrap (n73 + n75)) + n77))))).bind fun r78 =>
  cond r78 (
  some (false, σ56))
  (ixA σ56 (.sl l5 0 3 none) 1 1 fun a79 =>
  ld σ56 a79 (.I .i64) fun n80 =>
  cond (n80 == 0) (
  (cond r1.1 (
  ld σ56 (.ptr l53 2) (.V) fun v81 =>
  lenV v81 fun n82 =>
  cond (n82 == 0) (
  ld σ56 (.ptr l53 0) (.B) fun b83 =>
  cond p3 (
  some (b83 == true))
  (ixA σ56 (.sl l5 0 3 none) 1 0 fun a84 =>
  ld σ56 a84 (.I .i64) fun n85 =>
  ixA σ56 (.sl l5 0 3 none) 1 2 fun a86 =>
  ld σ56 a86 (.I .i64) fun n87 =>
  some (b83 == ((IntKind.i64.wrap (n85 + n87)) == 0))))
  (some false))
  (some false)).bind fun r88 =>
  some (r88, σ56))
  (ixA σ56 (.sl l5 0 3 none) 1 0 fun a89 =>
  ld σ56 a89 (.I .i64) fun n90 =>
  cond (n90 == 0) (
  (cond r1.1 (
  ld σ56 (.ptr l53 0) (.B) fun b91 =>
  cond (b91 == (!p3)) (
  ld σ56 (.ptr l53 1) (.V) fun v92 =>
  lenV v92 fun n93 =>
  ixA σ56 (.sl l5 0 3 none) 1 1 fun a94 =>
  ld σ56 a94 (.I .i64) fun n95 =>
  cond (n93 == n95) (
  ld σ56 (.ptr l53 2) (.V) fun v96 =>
  lenV v96 fun n97 =>
  ixA σ56 (.sl l5 0 3 none) 1 2 fun a98 =>
  ld σ56 a98 (.I .i64) fun n99 =>
  some (n97 == n99))
  (some false))
  (some false))
  (some false)).bind fun r100 =>
  some (r100, σ56))
  ((cond r1.1 (
  ld σ56 (.ptr l53 0) (.B) fun b101 =>
  cond (b101 == p3) (
  ld σ56 (.ptr l53 1) (.V) fun v102 =>
  lenV v102 fun n103 =>
  ixA σ56 (.sl l5 0 3 none) 1 0 fun a104 =>
  ld σ56 a104 (.I .i64) fun n105 =>
  cond (n103 == n105) (
  ld σ56 (.ptr l53 2) (.V) fun v106 =>
  lenV v106 fun n107 =>
  ixA σ56 (.sl l5 0 3 none) 1 1 fun a108 =>
  ld σ56 a108 (.I .i64) fun n109 =>
  some (n107 == n109))
  (some false))
  (some false))
  (some false)).bind fun r110 =>
  some (r110, σ56))))))
noncomputable def W.skolemlaw6_PrefixBlocks : Spec := .eff [.B] fun args σ => packs args [.I .i64, .I .i64, .I .i64, .B] fun x => S.skolemlaw6_PrefixBlocks x.1 x.2.1 x.2.2.1 x.2.2.2 σ


noncomputable def S.prefix_Matrix.b0 (p12 : AVal) (p13 : AVal) (p14 : AVal) (p15 : Int) : Int → Heap → Option ((Int ⊕ Unit) × Heap) := fun x16 σ17 =>
  cond (decide (x16 < p15)) (
  (ixA σ17 p14 1 x16 fun a18 =>
  ld σ17 a18 (.I .i64) fun n19 =>
  mgetZ σ17 p13 .i64 n19 (.int .i64 0) fun x20 b21 =>
  asK (.I .i64) x20 fun n22 =>
  cond (n22 == 0) (
  mputK σ17 p13 .i64 n19 (.int .i64 (IntKind.i64.wrap (x16 + 1))) fun σ23 =>
  some ((), σ23))
  (some ((), σ17))).bind fun r24 =>
  some (.inl (IntKind.i64.wrap (x16 + 1)), r24.2))
  (some (.inr (), σ17))
noncomputable def S.prefix_Matrix.b1 (p43 : AVal) (p44 : AVal) (p45 : AVal) (p46 : Int) (p47 : Int) (p48 : AVal) (p49 : Int) : (AVal × Int) → Heap → Option (((AVal × Int) ⊕ (AVal ⊕ (AVal × Bool))) × Heap) := fun x50 σ51 =>
  cond (decide (x50.2 < p49)) (
  (ixA σ51 p48 1 x50.2 fun a52 =>
  ld σ51 a52 (.I .i64) fun n53 =>
  (S.lits_Var n53 σ51).bind fun r54 =>
  mgetZ σ51 p43 .i64 r54 (.int .i64 0) fun x55 b56 =>
  asK (.I .i64) x55 fun n57 =>
  (cond (n57 == 0) (
  some true)
  (some (n53 == 0))).bind fun r58 =>
  cond r58 (
  some (.inr (.nils, false), σ51))
  ((cond (decide (n53 < 0)) (
  some (IntKind.i64.wrap (0 - n57)))
  (some n57)).bind fun r59 =>
  newK σ51 1 [(.int .i64 r59)] fun l60 σ61 =>
  appS σ61 1 8 x50.1 (.sl l60 0 1 none) fun v62 σ63 =>
  some (.inl v62, σ63)) : Option ((AVal ⊕ (AVal × Bool)) × Heap)).bind fun r64 =>
  (match r64.1 with
 | .inl y65 => some (.inl (y65, (IntKind.i64.wrap (x50.2 + 1))), r64.2)
 | .inr y66 => some (.inr (.inr (y66.1, y66.2)), r64.2)))
  (some (.inr (.inl x50.1), σ51))
noncomputable def S.prefix_Matrix.b2 (p32 : AVal) (p33 : AVal) (p34 : Int) : (AVal × Int) → Heap → Option (((AVal × Int) ⊕ (AVal ⊕ (AVal × Bool))) × Heap) := fun x35 σ36 =>
  cond (decide (x35.2 < p34)) (
  ixA σ36 p33 1 x35.2 fun a37 =>
  ld σ36 a37 (.V) fun v38 =>
  lenV v38 fun n39 =>
  mkS σ36 1 8 [(.int .i64 0)] 0 n39 fun v40 σ41 =>
  lenV v38 fun n42 =>
  (loopW (S.prefix_Matrix.b1 p32 x35.1 p33 p34 x35.2 v38 n42) (v40, 0) σ41).bind fun r67 =>
  (match r67.1 with
 | .inl y68 => scal y68 (
  newK r67.2 1 [y68] fun l70 σ71 =>
  appS σ71 1 24 x35.1 (.sl l70 0 1 none) fun v72 σ73 =>
  some (.inl (v72, (IntKind.i64.wrap (x35.2 + 1))), σ73))
 | .inr y69 => some (.inr (.inr (y69.1, y69.2)), r67.2)))
  (some (.inr (.inl x35.1), σ36))
noncomputable def S.prefix_Matrix (p0 : AVal) (σ : Heap) : Option ((AVal × Bool) × Heap) :=
  aggK p0 4 fun cs1 =>
  newK σ 4 cs1 fun l2 σ3 =>
  newM σ3 fun l4 σ5 =>
  ld σ5 (.ptr l2 1) (.V) fun v6 =>
  ld σ5 (.ptr l2 2) (.V) fun v7 =>
  scal v6 (
  scal v7 (
  newK σ5 1 [v6, v7] fun l8 σ9 =>
  (S.slices_Concat_int_int (.sl l8 0 2 none) σ9).bind fun r10 =>
  lenV r10.1 fun n11 =>
  (loopW (S.prefix_Matrix.b0 (.ptr l2 0) (.map l4) r10.1 n11) 0 r10.2).bind fun r25 =>
  ld r25.2 (.ptr l2 3) (.V) fun v26 =>
  lenV v26 fun n27 =>
  mkS r25.2 1 24 [.nils] 0 n27 fun v28 σ29 =>
  ld σ29 (.ptr l2 3) (.V) fun v30 =>
  lenV v30 fun n31 =>
  (loopW (S.prefix_Matrix.b2 (.map l4) v30 n31) (v28, 0) σ29).bind fun r74 =>
  (match r74.1 with
 | .inl y75 => some ((y75, true), r74.2)
 | .inr y76 => some ((y76.1, y76.2), r74.2))))
noncomputable def W.prefix_Matrix : Spec := .eff [.V, .B] fun args σ => packs args [.V] fun x => S.prefix_Matrix x σ


noncomputable def S.skolemref1_place.b0 (p4 : Int) (p5 : AVal) (σ0 : Heap) : Int → Option (Int ⊕ (Unit ⊕ Int)) := fun x6 =>
  fld p5 1 fun a8 =>
  ld σ0 a8 (.V) fun v9 =>
  lenV v9 fun n10 =>
  cond (decide (x6 < n10)) (
  fld p5 1 fun a11 =>
  ld σ0 a11 (.V) fun v12 =>
  ixA σ0 v12 1 x6 fun a13 =>
  ld σ0 a13 (.I .i64) fun n14 =>
  cond (n14 == p4) (
  some (.inr (.inr (IntKind.i64.wrap (x6 + 1)))))
  (some (.inl (IntKind.i64.wrap (x6 + 1)))))
  (some (.inr (.inl ())))
noncomputable def S.skolemref1_place.b1 (p18 : Int) (p19 : AVal) (σ0 : Heap) : Int → Option (Int ⊕ (Unit ⊕ Int)) := fun x20 =>
  fld p19 2 fun a22 =>
  ld σ0 a22 (.V) fun v23 =>
  lenV v23 fun n24 =>
  cond (decide (x20 < n24)) (
  fld p19 2 fun a25 =>
  ld σ0 a25 (.V) fun v26 =>
  ixA σ0 v26 1 x20 fun a27 =>
  ld σ0 a27 (.I .i64) fun n28 =>
  cond (n28 == p18) (
  fld p19 1 fun a29 =>
  ld σ0 a29 (.V) fun v30 =>
  lenV v30 fun n31 =>
  some (.inr (.inr (IntKind.i64.wrap ((IntKind.i64.wrap (n31 + x20)) + 1)))))
  (some (.inl (IntKind.i64.wrap (x20 + 1)))))
  (some (.inr (.inl ())))
noncomputable def S.skolemref1_place (g_ : AVal) (v_ : Int) (σ : Heap) : Option (Int × Heap) :=
  aggK g_ 4 fun cs1 =>
  newK σ 4 cs1 fun l2 σ3 =>
  (loopP (S.skolemref1_place.b0 v_ (.ptr l2 0) σ3) 0).bind fun r15 =>
  (match r15 with
 | .inl y16 => (loopP (S.skolemref1_place.b1 v_ (.ptr l2 0) σ3) 0).bind fun r32 =>
  (match r32 with
 | .inl y33 => some (0, σ3)
 | .inr y34 => some (y34, σ3))
 | .inr y17 => some (y17, σ3))
noncomputable def W.skolemref1_place : Spec := .eff [.I .i64] fun args σ => packs args [.V, .I .i64] fun x => S.skolemref1_place x.1 x.2 σ


noncomputable def S.skolemref1_Matrix.b0 (p10 : AVal) (p11 : AVal) (p12 : Int) : (AVal × Int) → Heap → Option (((AVal × Int) ⊕ (AVal ⊕ (AVal × Bool))) × Heap) := fun x13 σ14 =>
  fld p10 3 fun a15 =>
  ld σ14 a15 (.V) fun v16 =>
  ixA σ14 v16 1 p12 fun a17 =>
  ld σ14 a17 (.V) fun v18 =>
  lenV v18 fun n19 =>
  cond (decide (x13.2 < n19)) (
  (fld p10 3 fun a20 =>
  ld σ14 a20 (.V) fun v21 =>
  ixA σ14 v21 1 p12 fun a22 =>
  ld σ14 a22 (.V) fun v23 =>
  ixA σ14 v23 1 x13.2 fun a24 =>
  ld σ14 a24 (.I .i64) fun n25 =>
  cond (n25 == (IntKind.i64.wrap (0 - n25))) (
  some (.inr (.nils, false), σ14))
  (ldG σ14 p10 4 fun g26 =>
  (S.skolemref_Abs n25 σ14).bind fun r27 =>
  (S.skolemref1_place g26 r27 σ14).bind fun r28 =>
  cond (r28.1 == 0) (
  some (.inr (.nils, false), r28.2))
  ((cond (decide (n25 < 0)) (
  some (IntKind.i64.wrap (0 - r28.1)))
  (some r28.1)).bind fun r29 =>
  newK r28.2 1 [(.int .i64 r29)] fun l30 σ31 =>
  appS σ31 1 8 x13.1 (.sl l30 0 1 none) fun v32 σ33 =>
  some (.inl v32, σ33))) : Option ((AVal ⊕ (AVal × Bool)) × Heap)).bind fun r34 =>
  (match r34.1 with
 | .inl y35 => some (.inl (y35, (IntKind.i64.wrap (x13.2 + 1))), r34.2)
 | .inr y36 => some (.inr (.inr (y36.1, y36.2)), r34.2)))
  (some (.inr (.inl x13.1), σ14))
noncomputable def S.skolemref1_Matrix.b1 (p4 : AVal) : (AVal × Int) → Heap → Option (((AVal × Int) ⊕ (AVal ⊕ (AVal × Bool))) × Heap) := fun x5 σ6 =>
  fld p4 3 fun a7 =>
  ld σ6 a7 (.V) fun v8 =>
  lenV v8 fun n9 =>
  cond (decide (x5.2 < n9)) (
  (loopW (S.skolemref1_Matrix.b0 p4 x5.1 x5.2) (.nils, 0) σ6).bind fun r37 =>
  (match r37.1 with
 | .inl y38 => scal y38 (
  newK r37.2 1 [y38] fun l40 σ41 =>
  appS σ41 1 24 x5.1 (.sl l40 0 1 none) fun v42 σ43 =>
  some (.inl (v42, (IntKind.i64.wrap (x5.2 + 1))), σ43))
 | .inr y39 => some (.inr (.inr (y39.1, y39.2)), r37.2)))
  (some (.inr (.inl x5.1), σ6))
noncomputable def S.skolemref1_Matrix (g_ : AVal) (σ : Heap) : Option ((AVal × Bool) × Heap) :=
  aggK g_ 4 fun cs1 =>
  newK σ 4 cs1 fun l2 σ3 =>
  (loopW (S.skolemref1_Matrix.b1 (.ptr l2 0)) (.nils, 0) σ3).bind fun r44 =>
  (match r44.1 with
 | .inl y45 => some ((y45, true), r44.2)
 | .inr y46 => some ((y46.1, y46.2), r44.2))
noncomputable def W.skolemref1_Matrix : Spec := .eff [.V, .B] fun args σ => packs args [.V] fun x => S.skolemref1_Matrix x σ


noncomputable def S.skolemlaw6_PrefixMatrix (p0 : AVal) (σ : Heap) : Option (Bool × Heap) :=
  aggK p0 4 fun cs1 =>
  newK σ 4 cs1 fun l2 σ3 =>
  (S.skolemlaw6_first σ3).bind fun r4 =>
  cond (!r4.1) (
  some (false, r4.2))
  ((ld r4.2 (.ptr l2 1) (.V) fun v5 =>
  lenV v5 fun n6 =>
  cond (decide (n6 > 30)) (
  some true)
  (ld r4.2 (.ptr l2 2) (.V) fun v7 =>
  lenV v7 fun n8 =>
  cond (decide (n8 > 30)) (
  some true)
  (ld r4.2 (.ptr l2 3) (.V) fun v9 =>
  lenV v9 fun n10 =>
  cond (decide (n10 > 60)) (
  some true)
  (ld r4.2 (.ptr l2 3) (.V) fun v11 =>
  (S.skolemmake_NearAll v11 r4.2).bind fun r12 =>
  cond (!r12) (
  some true)
  (ld r4.2 (.ptr l2 1) (.V) fun v13 =>
  (S.skolemmake_Near v13 r4.2).bind fun r14 =>
  cond (!r14) (
  some true)
  (ld r4.2 (.ptr l2 2) (.V) fun v15 =>
  (S.skolemmake_Near v15 r4.2).bind fun r16 =>
  cond (!r16) (
  some true)
  (ld r4.2 (.ptr l2 3) (.V) fun v17 =>
  (S.skolemmake_Count v17 r4.2).bind fun r18 =>
  some (decide (r18 > 300))))))))).bind fun r19 =>
  cond r19 (
  some (r4.1, r4.2))
  (ldG r4.2 (.ptr l2 0) 4 fun g20 =>
  (S.prefix_Matrix g20 r4.2).bind fun r21 =>
  ldG r21.2 (.ptr l2 0) 4 fun g22 =>
  (S.skolemref1_Matrix g22 r21.2).bind fun r23 =>
  (cond r4.1 (
  (S.skolemref_SameClauses r21.1.1 r23.1.1 r23.2).bind fun r24 =>
  cond r24 (
  some (r21.1.2 == r23.1.2))
  (some false))
  (some false)).bind fun r25 =>
  some (r25, r23.2)))
noncomputable def W.skolemlaw6_PrefixMatrix : Spec := .eff [.B] fun args σ => packs args [.V] fun x => S.skolemlaw6_PrefixMatrix x σ


noncomputable def S.proof_at (pos_ : Int) (err_ : AVal) (σ : Heap) : Option (AVal × Heap) :=
  scal err_ (
  newK σ 2 [(.int .i64 pos_), err_] fun l1 σ2 =>
  some ((.ifc 135 (.ptr l1 0)), σ2))
noncomputable def W.proof_at : Spec := .eff [.V] fun args σ => packs args [.I .i64, .V] fun x => S.proof_at x.1 x.2 σ


noncomputable def S.proof_Check.b0 (p2 : AVal) (p3 : Int) : (Int × Int) → Heap → Option (((Int × Int) ⊕ Int) × Heap) := fun x4 σ5 =>
  cond (decide (x4.2 < p3)) (
  ixA σ5 p2 2 x4.2 fun a6 =>
  ldG σ5 a6 2 fun g7 =>
  newK σ5 2 [(.bool false), .nils] fun l8 σ9 =>
  aggK g7 2 fun cs10 =>
  stC σ9 (.ptr l8 0) cs10 fun σ11 =>
  ld σ11 (.ptr l8 1) (.V) fun v12 =>
  lenV v12 fun n13 =>
  some (.inl ((IntKind.i64.wrap (x4.1 + n13)), (IntKind.i64.wrap (x4.2 + 1))), σ11))
  (some (.inr x4.1, σ5))
noncomputable def S.proof_Check.b1 (p29 : Int) (p30 : AVal) (p31 : Int) (p32 : AVal) (p33 : Int) : Int → Heap → Option ((Int ⊕ (Unit ⊕ AVal)) × Heap) := fun x34 σ35 =>
  cond (decide (x34 < p33)) (
  ixA σ35 p32 1 x34 fun a36 =>
  ld σ35 a36 (.I .i64) fun n37 =>
  (S.lits_Is n37 4000 σ35).bind fun r38 =>
  cond (!r38) (
  ld σ35 (.ptr 2 0) (.V) fun v39 =>
  (S.proof_at p29 v39 σ35).bind fun r40 =>
  some (.inr (.inr r40.1), r40.2))
  (some (.inl (IntKind.i64.wrap (x34 + 1)), σ35)))
  (some (.inr (.inl ()), σ35))
noncomputable def S.proof_Check.b2 (p17 : AVal) (p18 : Int) : Int → Heap → Option ((Int ⊕ (Unit ⊕ AVal)) × Heap) := fun x19 σ20 =>
  cond (decide (x19 < p18)) (
  ixA σ20 p17 2 x19 fun a21 =>
  ldG σ20 a21 2 fun g22 =>
  newK σ20 2 [(.bool false), .nils] fun l23 σ24 =>
  aggK g22 2 fun cs25 =>
  stC σ24 (.ptr l23 0) cs25 fun σ26 =>
  ld σ26 (.ptr l23 1) (.V) fun v27 =>
  lenV v27 fun n28 =>
  (loopW (S.proof_Check.b1 x19 p17 p18 v27 n28) 0 σ26).bind fun r41 =>
  (match r41.1 with
 | .inl y42 => some (.inl (IntKind.i64.wrap (x19 + 1)), r41.2)
 | .inr y43 => some (.inr (.inr y43), r41.2)))
  (some (.inr (.inl ()), σ20))
noncomputable def S.proof_Check (l_ : AVal) (σ : Heap) : Option (AVal × Heap) :=
  lenV l_ fun n1 =>
  (loopW (S.proof_Check.b0 l_ n1) (0, 0) σ).bind fun r14 =>
  cond (decide (r14.1 > 320000)) (
  ld r14.2 (.ptr 3 0) (.V) fun v15 =>
  some (v15, r14.2))
  (lenV l_ fun n16 =>
  (loopW (S.proof_Check.b2 l_ n16) 0 r14.2).bind fun r44 =>
  (match r44.1 with
 | .inl y45 => some (.nili, r44.2)
 | .inr y46 => some (y46, r44.2)))
noncomputable def W.proof_Check : Spec := .eff [.V] fun args σ => packs args [.V] fun x => S.proof_Check x σ


noncomputable def S.assign_Cut (vars_ : Int) (σ : Heap) : Option Int :=
  some (if 4000 < (if 0 > vars_ then 0 else vars_) then 4000 else (if 0 > vars_ then 0 else vars_))
noncomputable def W.assign_Cut : Spec := .pur [.I .i64] fun args σ => packs args [.I .i64] fun x => S.assign_Cut x σ


noncomputable def S.rup_Base_right (b_ : AVal) (c_ : AVal) (σ : Heap) : Option (Bool × Heap) :=
  scal b_ (
  newK σ 1 [b_] fun l1 σ2 =>
  (S.slices_ContainsFunc_int_int c_ (.fn (.func 123) [] [(.ptr l1 0)]) σ2).bind fun r3 =>
  some ((!r3.1), r3.2))
noncomputable def W.rup_Base_right : Spec := .eff [.B] fun args σ => packs args [.V, .V] fun x => S.rup_Base_right x.1 x.2 σ


noncomputable def S.bits_Len32 (x_ : Int) (σ : Heap) : Option Int :=
  (cond (decide (x_ ≥ 65536)) (
  some ((Int.fdiv x_ (2 ^ (min (Int.toNat 16) IntKind.u32.bits))), 16))
  (some (x_, 0))).bind fun r1 =>
  (cond (decide (r1.1 ≥ 256)) (
  some ((Int.fdiv r1.1 (2 ^ (min (Int.toNat 8) IntKind.u32.bits))), (IntKind.i64.wrap (r1.2 + 8))))
  (some (r1.1, r1.2))).bind fun r2 =>
  ixB (ByteArray.mk #[0, 1, 2, 2, 3, 3, 3, 3, 4, 4, 4, 4, 4, 4, 4, 4, 5, 5, 5, 5, 5, 5, 5, 5, 5, 5, 5, 5, 5, 5, 5, 5, 6, 6, 6, 6, 6, 6, 6, 6, 6, 6, 6, 6, 6, 6, 6, 6, 6, 6, 6, 6, 6, 6, 6, 6, 6, 6, 6, 6, 6, 6, 6, 6, 7, 7, 7, 7, 7, 7, 7, 7, 7, 7, 7, 7, 7, 7, 7, 7, 7, 7, 7, 7, 7, 7, 7, 7, 7, 7, 7, 7, 7, 7, 7, 7, 7, 7, 7, 7, 7, 7, 7, 7, 7, 7, 7, 7, 7, 7, 7, 7, 7, 7, 7, 7, 7, 7, 7, 7, 7, 7, 7, 7, 7, 7, 7, 7, 8, 8, 8, 8, 8, 8, 8, 8, 8, 8, 8, 8, 8, 8, 8, 8, 8, 8, 8, 8, 8, 8, 8, 8, 8, 8, 8, 8, 8, 8, 8, 8, 8, 8, 8, 8, 8, 8, 8, 8, 8, 8, 8, 8, 8, 8, 8, 8, 8, 8, 8, 8, 8, 8, 8, 8, 8, 8, 8, 8, 8, 8, 8, 8, 8, 8, 8, 8, 8, 8, 8, 8, 8, 8, 8, 8, 8, 8, 8, 8, 8, 8, 8, 8, 8, 8, 8, 8, 8, 8, 8, 8, 8, 8, 8, 8, 8, 8, 8, 8, 8, 8, 8, 8, 8, 8, 8, 8, 8, 8, 8, 8, 8, 8, 8, 8, 8, 8, 8, 8, 8, 8, 8, 8, 8, 8, 8, 8]) (IntKind.u8.wrap r2.1) fun n3 =>
  some (IntKind.i64.wrap (r2.2 + (IntKind.i64.wrap n3)))
noncomputable def W.bits_Len32 : Spec := .pur [.I .i64] fun args σ => packs args [.I .u32] fun x => S.bits_Len32 x σ


noncomputable def S.bits_Len64 (x_ : Int) (σ : Heap) : Option Int :=
  (cond (decide (x_ ≥ 4294967296)) (
  some ((Int.fdiv x_ (2 ^ (min (Int.toNat 32) IntKind.u64.bits))), 32))
  (some (x_, 0))).bind fun r1 =>
  (cond (decide (r1.1 ≥ 65536)) (
  some ((Int.fdiv r1.1 (2 ^ (min (Int.toNat 16) IntKind.u64.bits))), (IntKind.i64.wrap (r1.2 + 16))))
  (some (r1.1, r1.2))).bind fun r2 =>
  (cond (decide (r2.1 ≥ 256)) (
  some ((Int.fdiv r2.1 (2 ^ (min (Int.toNat 8) IntKind.u64.bits))), (IntKind.i64.wrap (r2.2 + 8))))
  (some (r2.1, r2.2))).bind fun r3 =>
  ixB (ByteArray.mk #[0, 1, 2, 2, 3, 3, 3, 3, 4, 4, 4, 4, 4, 4, 4, 4, 5, 5, 5, 5, 5, 5, 5, 5, 5, 5, 5, 5, 5, 5, 5, 5, 6, 6, 6, 6, 6, 6, 6, 6, 6, 6, 6, 6, 6, 6, 6, 6, 6, 6, 6, 6, 6, 6, 6, 6, 6, 6, 6, 6, 6, 6, 6, 6, 7, 7, 7, 7, 7, 7, 7, 7, 7, 7, 7, 7, 7, 7, 7, 7, 7, 7, 7, 7, 7, 7, 7, 7, 7, 7, 7, 7, 7, 7, 7, 7, 7, 7, 7, 7, 7, 7, 7, 7, 7, 7, 7, 7, 7, 7, 7, 7, 7, 7, 7, 7, 7, 7, 7, 7, 7, 7, 7, 7, 7, 7, 7, 7, 8, 8, 8, 8, 8, 8, 8, 8, 8, 8, 8, 8, 8, 8, 8, 8, 8, 8, 8, 8, 8, 8, 8, 8, 8, 8, 8, 8, 8, 8, 8, 8, 8, 8, 8, 8, 8, 8, 8, 8, 8, 8, 8, 8, 8, 8, 8, 8, 8, 8, 8, 8, 8, 8, 8, 8, 8, 8, 8, 8, 8, 8, 8, 8, 8, 8, 8, 8, 8, 8, 8, 8, 8, 8, 8, 8, 8, 8, 8, 8, 8, 8, 8, 8, 8, 8, 8, 8, 8, 8, 8, 8, 8, 8, 8, 8, 8, 8, 8, 8, 8, 8, 8, 8, 8, 8, 8, 8, 8, 8, 8, 8, 8, 8, 8, 8, 8, 8, 8, 8, 8, 8, 8, 8, 8, 8, 8, 8]) (IntKind.u8.wrap r3.1) fun n4 =>
  some (IntKind.i64.wrap (r3.2 + (IntKind.i64.wrap n4)))
noncomputable def W.bits_Len64 : Spec := .pur [.I .i64] fun args σ => packs args [.I .u64] fun x => S.bits_Len64 x σ


noncomputable def S.bits_Len (x_ : Int) (σ : Heap) : Option Int :=
  (S.bits_Len64 x_ σ).bind fun r1 =>
  some r1
noncomputable def W.bits_Len : Spec := .pur [.I .i64] fun args σ => packs args [.I .u64] fun x => S.bits_Len x σ


noncomputable def S.slices_insertionSortCmpFunc_int.T : FuncId → Option Spec := (tab 155 W.lits_order noSpec)
noncomputable def S.slices_insertionSortCmpFunc_int.b0 (p7 : AVal) (p8 : Int) (p9 : Int) (p10 : AVal) (p11 : Int) : Int → Heap → Option ((Int ⊕ Unit) × Heap) := fun x12 σ13 =>
  (cond (decide (x12 > p8)) (
  ixA σ13 p7 1 x12 fun a14 =>
  ld σ13 a14 (.I .i64) fun n15 =>
  ixA σ13 p7 1 (IntKind.i64.wrap (x12 - 1)) fun a16 =>
  ld σ13 a16 (.I .i64) fun n17 =>
  callV S.slices_insertionSortCmpFunc_int.T p10 [(.int .i64 n15), (.int .i64 n17)] σ13 fun r18 σ19 =>
  asK (.I .i64) r18 fun n20 =>
  some ((decide (n20 < 0)), σ19))
  (some (false, σ13))).bind fun r21 =>
  cond r21.1 (
  ixA r21.2 p7 1 (IntKind.i64.wrap (x12 - 1)) fun a22 =>
  ld r21.2 a22 (.I .i64) fun n23 =>
  ixA r21.2 p7 1 x12 fun a24 =>
  ld r21.2 a24 (.I .i64) fun n25 =>
  ixA r21.2 p7 1 x12 fun a26 =>
  stC r21.2 a26 [(.int .i64 n23)] fun σ27 =>
  ixA σ27 p7 1 (IntKind.i64.wrap (x12 - 1)) fun a28 =>
  stC σ27 a28 [(.int .i64 n25)] fun σ29 =>
  some (.inl (IntKind.i64.wrap (x12 - 1)), σ29))
  (some (.inr (), r21.2))
noncomputable def S.slices_insertionSortCmpFunc_int.b1 (p1 : AVal) (p2 : Int) (p3 : Int) (p4 : AVal) : Int → Heap → Option ((Int ⊕ Unit) × Heap) := fun x5 σ6 =>
  cond (decide (x5 < p3)) (
  (loopW (S.slices_insertionSortCmpFunc_int.b0 p1 p2 p3 p4 x5) x5 σ6).bind fun r30 =>
  some (.inl (IntKind.i64.wrap (x5 + 1)), r30.2))
  (some (.inr (), σ6))
noncomputable def S.slices_insertionSortCmpFunc_int (data_ : AVal) (a_ : Int) (b_ : Int) (cmp_ : AVal) (σ : Heap) : Option (Unit × Heap) :=
  (loopW (S.slices_insertionSortCmpFunc_int.b1 data_ a_ b_ cmp_) (IntKind.i64.wrap (a_ + 1)) σ).bind fun r31 =>
  some ((), r31.2)
noncomputable def W.slices_insertionSortCmpFunc_int : Spec := .eff [] fun args σ => packs args [.V, .I .i64, .I .i64, .V] fun x => S.slices_insertionSortCmpFunc_int x.1 x.2.1 x.2.2.1 x.2.2.2 σ


noncomputable def S.slices_siftDownCmpFunc_int.T : FuncId → Option Spec := (tab 155 W.lits_order noSpec)
noncomputable def S.slices_siftDownCmpFunc_int.b0 (p1 : AVal) (p2 : Int) (p3 : Int) (p4 : AVal) : Int → Heap → Option ((Int ⊕ (Unit ⊕ Unit)) × Heap) := fun x5 σ6 =>
  cond (decide ((IntKind.i64.wrap ((IntKind.i64.wrap (2 * x5)) + 1)) ≥ p2)) (
  some (.inr (.inl ()), σ6))
  ((cond (decide ((IntKind.i64.wrap ((IntKind.i64.wrap ((IntKind.i64.wrap (2 * x5)) + 1)) + 1)) < p2)) (
  ixA σ6 p1 1 (IntKind.i64.wrap (p3 + (IntKind.i64.wrap ((IntKind.i64.wrap (2 * x5)) + 1)))) fun a7 =>
  ld σ6 a7 (.I .i64) fun n8 =>
  ixA σ6 p1 1 (IntKind.i64.wrap ((IntKind.i64.wrap (p3 + (IntKind.i64.wrap ((IntKind.i64.wrap (2 * x5)) + 1)))) + 1)) fun a9 =>
  ld σ6 a9 (.I .i64) fun n10 =>
  callV S.slices_siftDownCmpFunc_int.T p4 [(.int .i64 n8), (.int .i64 n10)] σ6 fun r11 σ12 =>
  asK (.I .i64) r11 fun n13 =>
  some ((decide (n13 < 0)), σ12))
  (some (false, σ6))).bind fun r14 =>
  (cond r14.1 (
  some (IntKind.i64.wrap ((IntKind.i64.wrap ((IntKind.i64.wrap (2 * x5)) + 1)) + 1)))
  (some (IntKind.i64.wrap ((IntKind.i64.wrap (2 * x5)) + 1)))).bind fun r15 =>
  ixA r14.2 p1 1 (IntKind.i64.wrap (p3 + x5)) fun a16 =>
  ld r14.2 a16 (.I .i64) fun n17 =>
  ixA r14.2 p1 1 (IntKind.i64.wrap (p3 + r15)) fun a18 =>
  ld r14.2 a18 (.I .i64) fun n19 =>
  callV S.slices_siftDownCmpFunc_int.T p4 [(.int .i64 n17), (.int .i64 n19)] r14.2 fun r20 σ21 =>
  asK (.I .i64) r20 fun n22 =>
  cond (!(decide (n22 < 0))) (
  some (.inr (.inr ()), σ21))
  (ixA σ21 p1 1 (IntKind.i64.wrap (p3 + r15)) fun a23 =>
  ld σ21 a23 (.I .i64) fun n24 =>
  ixA σ21 p1 1 (IntKind.i64.wrap (p3 + x5)) fun a25 =>
  ld σ21 a25 (.I .i64) fun n26 =>
  ixA σ21 p1 1 (IntKind.i64.wrap (p3 + x5)) fun a27 =>
  stC σ21 a27 [(.int .i64 n24)] fun σ28 =>
  ixA σ28 p1 1 (IntKind.i64.wrap (p3 + r15)) fun a29 =>
  stC σ28 a29 [(.int .i64 n26)] fun σ30 =>
  some (.inl r15, σ30)))
noncomputable def S.slices_siftDownCmpFunc_int (p0 : AVal) (p1 : Int) (p2 : Int) (p3 : Int) (p4 : AVal) (σ : Heap) : Option (Unit × Heap) :=
  (loopW (S.slices_siftDownCmpFunc_int.b0 p0 p2 p3 p4) p1 σ).bind fun r31 =>
  (match r31.1 with
 | .inl y32 => some ((), r31.2)
 | .inr y33 => some ((), r31.2))
noncomputable def W.slices_siftDownCmpFunc_int : Spec := .eff [] fun args σ => packs args [.V, .I .i64, .I .i64, .I .i64, .V] fun x => S.slices_siftDownCmpFunc_int x.1 x.2.1 x.2.2.1 x.2.2.2.1 x.2.2.2.2 σ


noncomputable def S.slices_heapSortCmpFunc_int.b0 (p1 : AVal) (p2 : AVal) (p3 : Int) (p4 : Int) : Int → Heap → Option ((Int ⊕ Unit) × Heap) := fun x5 σ6 =>
  cond (decide (x5 ≥ 0)) (
  (S.slices_siftDownCmpFunc_int p1 x5 p4 p3 p2 σ6).bind fun r7 =>
  some (.inl (IntKind.i64.wrap (x5 - 1)), r7.2))
  (some (.inr (), σ6))
noncomputable def S.slices_heapSortCmpFunc_int.b1 (p9 : AVal) (p10 : AVal) (p11 : Int) : Int → Heap → Option ((Int ⊕ Unit) × Heap) := fun x12 σ13 =>
  cond (decide (x12 ≥ 0)) (
  ixA σ13 p9 1 (IntKind.i64.wrap (p11 + x12)) fun a14 =>
  ld σ13 a14 (.I .i64) fun n15 =>
  ixA σ13 p9 1 p11 fun a16 =>
  ld σ13 a16 (.I .i64) fun n17 =>
  ixA σ13 p9 1 p11 fun a18 =>
  stC σ13 a18 [(.int .i64 n15)] fun σ19 =>
  ixA σ19 p9 1 (IntKind.i64.wrap (p11 + x12)) fun a20 =>
  stC σ19 a20 [(.int .i64 n17)] fun σ21 =>
  (S.slices_siftDownCmpFunc_int p9 0 x12 p11 p10 σ21).bind fun r22 =>
  some (.inl (IntKind.i64.wrap (x12 - 1)), r22.2))
  (some (.inr (), σ13))
noncomputable def S.slices_heapSortCmpFunc_int (data_ : AVal) (a_ : Int) (b_ : Int) (cmp_ : AVal) (σ : Heap) : Option (Unit × Heap) :=
  (loopW (S.slices_heapSortCmpFunc_int.b0 data_ cmp_ a_ (IntKind.i64.wrap (b_ - a_))) (IntKind.i64.wrap (Int.tdiv (IntKind.i64.wrap ((IntKind.i64.wrap (b_ - a_)) - 1)) 2)) σ).bind fun r8 =>
  (loopW (S.slices_heapSortCmpFunc_int.b1 data_ cmp_ a_) (IntKind.i64.wrap ((IntKind.i64.wrap (b_ - a_)) - 1)) r8.2).bind fun r23 =>
  some ((), r23.2)
noncomputable def W.slices_heapSortCmpFunc_int : Spec := .eff [] fun args σ => packs args [.V, .I .i64, .I .i64, .V] fun x => S.slices_heapSortCmpFunc_int x.1 x.2.1 x.2.2.1 x.2.2.2 σ


noncomputable def S.slices_nextPowerOfTwo (length_ : Int) (σ : Heap) : Option Int :=
  (S.bits_Len (IntKind.u64.wrap length_) σ).bind fun r1 =>
  if r1 < 0 then none else
  some (IntKind.u64.wrap (1 * 2 ^ (min (Int.toNat r1) IntKind.u64.bits)))
noncomputable def W.slices_nextPowerOfTwo : Spec := .pur [.I .u64] fun args σ => packs args [.I .i64] fun x => S.slices_nextPowerOfTwo x σ


noncomputable def S.slices_xorshift_Next (r_ : AVal) (σ : Heap) : Option (Int × Heap) :=
  nilck r_ (
  ld σ r_ (.I .u64) fun n1 =>
  nilck r_ (
  ld σ r_ (.I .u64) fun n2 =>
  nilck r_ (
  stC σ r_ [(.int .u64 (IntKind.u64.wrap (BitVec.toNat (BitVec.ofInt IntKind.u64.bits n1 ^^^ BitVec.ofInt IntKind.u64.bits (IntKind.u64.wrap (n2 * 2 ^ (min (Int.toNat 13) IntKind.u64.bits)))))))] fun σ3 =>
  nilck r_ (
  ld σ3 r_ (.I .u64) fun n4 =>
  nilck r_ (
  ld σ3 r_ (.I .u64) fun n5 =>
  nilck r_ (
  stC σ3 r_ [(.int .u64 (IntKind.u64.wrap (BitVec.toNat (BitVec.ofInt IntKind.u64.bits n4 ^^^ BitVec.ofInt IntKind.u64.bits (Int.fdiv n5 (2 ^ (min (Int.toNat 7) IntKind.u64.bits)))))))] fun σ6 =>
  nilck r_ (
  ld σ6 r_ (.I .u64) fun n7 =>
  nilck r_ (
  ld σ6 r_ (.I .u64) fun n8 =>
  nilck r_ (
  stC σ6 r_ [(.int .u64 (IntKind.u64.wrap (BitVec.toNat (BitVec.ofInt IntKind.u64.bits n7 ^^^ BitVec.ofInt IntKind.u64.bits (IntKind.u64.wrap (n8 * 2 ^ (min (Int.toNat 17) IntKind.u64.bits)))))))] fun σ9 =>
  nilck r_ (
  ld σ9 r_ (.I .u64) fun n10 =>
  some (n10, σ9)))))))))))
noncomputable def W.slices_xorshift_Next : Spec := .eff [.I .u64] fun args σ => packs args [.V] fun x => S.slices_xorshift_Next x σ


noncomputable def S.slices_breakPatternsCmpFunc_int.b0 (p5 : AVal) (p6 : Int) (p7 : Int) (p8 : AVal) (p9 : Int) : Int → Heap → Option ((Int ⊕ Unit) × Heap) := fun x10 σ11 =>
  cond (decide (x10 ≤ (IntKind.i64.wrap ((IntKind.i64.wrap (p6 + (IntKind.i64.wrap ((IntKind.i64.wrap (Int.tdiv p7 4)) * 2)))) + 1)))) (
  ((S.slices_xorshift_Next p8 σ11).bind fun r12 =>
  (cond (decide ((IntKind.i64.wrap (IntKind.u64.wrap (BitVec.toNat (BitVec.ofInt IntKind.u64.bits r12.1 &&& BitVec.ofInt IntKind.u64.bits (IntKind.u64.wrap (p9 - 1)))))) ≥ p7)) (
  some (IntKind.i64.wrap ((IntKind.i64.wrap (IntKind.u64.wrap (BitVec.toNat (BitVec.ofInt IntKind.u64.bits r12.1 &&& BitVec.ofInt IntKind.u64.bits (IntKind.u64.wrap (p9 - 1)))))) - p7)))
  (some (IntKind.i64.wrap (IntKind.u64.wrap (BitVec.toNat (BitVec.ofInt IntKind.u64.bits r12.1 &&& BitVec.ofInt IntKind.u64.bits (IntKind.u64.wrap (p9 - 1)))))))).bind fun r13 =>
  ixA r12.2 p5 1 (IntKind.i64.wrap (p6 + r13)) fun a14 =>
  ld r12.2 a14 (.I .i64) fun n15 =>
  ixA r12.2 p5 1 x10 fun a16 =>
  ld r12.2 a16 (.I .i64) fun n17 =>
  ixA r12.2 p5 1 x10 fun a18 =>
  stC r12.2 a18 [(.int .i64 n15)] fun σ19 =>
  ixA σ19 p5 1 (IntKind.i64.wrap (p6 + r13)) fun a20 =>
  stC σ19 a20 [(.int .i64 n17)] fun σ21 =>
  some ((), σ21)).bind fun r22 =>
  some (.inl (IntKind.i64.wrap (x10 + 1)), r22.2))
  (some (.inr (), σ11))
noncomputable def S.slices_breakPatternsCmpFunc_int (p0 : AVal) (p1 : Int) (p2 : Int) (p3 : AVal) (σ : Heap) : Option (Unit × Heap) :=
  cond (decide ((IntKind.i64.wrap (p2 - p1)) ≥ 8)) (
  newK σ 1 [(.int .u64 0)] fun l1 σ2 =>
  stC σ2 (.ptr l1 0) [(.int .u64 (IntKind.u64.wrap (IntKind.i64.wrap (p2 - p1))))] fun σ3 =>
  (S.slices_nextPowerOfTwo (IntKind.i64.wrap (p2 - p1)) σ3).bind fun r4 =>
  (loopW (S.slices_breakPatternsCmpFunc_int.b0 p0 p1 (IntKind.i64.wrap (p2 - p1)) (.ptr l1 0) r4) (IntKind.i64.wrap ((IntKind.i64.wrap (p1 + (IntKind.i64.wrap ((IntKind.i64.wrap (Int.tdiv (IntKind.i64.wrap (p2 - p1)) 4)) * 2)))) - 1)) σ3).bind fun r23 =>
  some ((), r23.2))
  (some ((), σ))
noncomputable def W.slices_breakPatternsCmpFunc_int : Spec := .eff [] fun args σ => packs args [.V, .I .i64, .I .i64, .V] fun x => S.slices_breakPatternsCmpFunc_int x.1 x.2.1 x.2.2.1 x.2.2.2 σ


noncomputable def S.slices_order2CmpFunc_int.T : FuncId → Option Spec := (tab 155 W.lits_order noSpec)
noncomputable def S.slices_order2CmpFunc_int (data_ : AVal) (a_ : Int) (b_ : Int) (swaps_ : AVal) (cmp_ : AVal) (σ : Heap) : Option ((Int × Int) × Heap) :=
  ixA σ data_ 1 b_ fun a1 =>
  ld σ a1 (.I .i64) fun n2 =>
  ixA σ data_ 1 a_ fun a3 =>
  ld σ a3 (.I .i64) fun n4 =>
  callV S.slices_order2CmpFunc_int.T cmp_ [(.int .i64 n2), (.int .i64 n4)] σ fun r5 σ6 =>
  asK (.I .i64) r5 fun n7 =>
  cond (decide (n7 < 0)) (
  nilck swaps_ (
  ld σ6 swaps_ (.I .i64) fun n8 =>
  nilck swaps_ (
  stC σ6 swaps_ [(.int .i64 (IntKind.i64.wrap (n8 + 1)))] fun σ9 =>
  some ((b_, a_), σ9))))
  (some ((a_, b_), σ6))
noncomputable def W.slices_order2CmpFunc_int : Spec := .eff [.I .i64, .I .i64] fun args σ => packs args [.V, .I .i64, .I .i64, .V, .V] fun x => S.slices_order2CmpFunc_int x.1 x.2.1 x.2.2.1 x.2.2.2.1 x.2.2.2.2 σ


noncomputable def S.slices_medianCmpFunc_int (data_ : AVal) (a_ : Int) (b_ : Int) (c_ : Int) (swaps_ : AVal) (cmp_ : AVal) (σ : Heap) : Option (Int × Heap) :=
  (S.slices_order2CmpFunc_int data_ a_ b_ swaps_ cmp_ σ).bind fun r1 =>
  (S.slices_order2CmpFunc_int data_ r1.1.2 c_ swaps_ cmp_ r1.2).bind fun r2 =>
  (S.slices_order2CmpFunc_int data_ r1.1.1 r2.1.1 swaps_ cmp_ r2.2).bind fun r3 =>
  some (r3.1.2, r3.2)
noncomputable def W.slices_medianCmpFunc_int : Spec := .eff [.I .i64] fun args σ => packs args [.V, .I .i64, .I .i64, .I .i64, .V, .V] fun x => S.slices_medianCmpFunc_int x.1 x.2.1 x.2.2.1 x.2.2.2.1 x.2.2.2.2.1 x.2.2.2.2.2 σ


noncomputable def S.slices_medianAdjacentCmpFunc_int (data_ : AVal) (a_ : Int) (swaps_ : AVal) (cmp_ : AVal) (σ : Heap) : Option (Int × Heap) :=
  (S.slices_medianCmpFunc_int data_ (IntKind.i64.wrap (a_ - 1)) a_ (IntKind.i64.wrap (a_ + 1)) swaps_ cmp_ σ).bind fun r1 =>
  some (r1.1, r1.2)
noncomputable def W.slices_medianAdjacentCmpFunc_int : Spec := .eff [.I .i64] fun args σ => packs args [.V, .I .i64, .V, .V] fun x => S.slices_medianAdjacentCmpFunc_int x.1 x.2.1 x.2.2.1 x.2.2.2 σ


noncomputable def S.slices_choosePivotCmpFunc_int (data_ : AVal) (a_ : Int) (b_ : Int) (cmp_ : AVal) (σ : Heap) : Option ((Int × Int) × Heap) :=
  newK σ 1 [(.int .i64 0)] fun l1 σ2 =>
  (cond (decide ((IntKind.i64.wrap (b_ - a_)) ≥ 8)) (
  (cond (decide ((IntKind.i64.wrap (b_ - a_)) ≥ 50)) (
  (S.slices_medianAdjacentCmpFunc_int data_ (IntKind.i64.wrap (a_ + (IntKind.i64.wrap ((IntKind.i64.wrap (Int.tdiv (IntKind.i64.wrap (b_ - a_)) 4)) * 1)))) (.ptr l1 0) cmp_ σ2).bind fun r3 =>
  (S.slices_medianAdjacentCmpFunc_int data_ (IntKind.i64.wrap (a_ + (IntKind.i64.wrap ((IntKind.i64.wrap (Int.tdiv (IntKind.i64.wrap (b_ - a_)) 4)) * 2)))) (.ptr l1 0) cmp_ r3.2).bind fun r4 =>
  (S.slices_medianAdjacentCmpFunc_int data_ (IntKind.i64.wrap (a_ + (IntKind.i64.wrap ((IntKind.i64.wrap (Int.tdiv (IntKind.i64.wrap (b_ - a_)) 4)) * 3)))) (.ptr l1 0) cmp_ r4.2).bind fun r5 =>
  some ((r3.1, r4.1, r5.1), r5.2))
  (some (((IntKind.i64.wrap (a_ + (IntKind.i64.wrap ((IntKind.i64.wrap (Int.tdiv (IntKind.i64.wrap (b_ - a_)) 4)) * 1)))), (IntKind.i64.wrap (a_ + (IntKind.i64.wrap ((IntKind.i64.wrap (Int.tdiv (IntKind.i64.wrap (b_ - a_)) 4)) * 2)))), (IntKind.i64.wrap (a_ + (IntKind.i64.wrap ((IntKind.i64.wrap (Int.tdiv (IntKind.i64.wrap (b_ - a_)) 4)) * 3))))), σ2))).bind fun r6 =>
  (S.slices_medianCmpFunc_int data_ r6.1.1 r6.1.2.1 r6.1.2.2 (.ptr l1 0) cmp_ r6.2).bind fun r7 =>
  some (r7.1, r7.2))
  (some ((IntKind.i64.wrap (a_ + (IntKind.i64.wrap ((IntKind.i64.wrap (Int.tdiv (IntKind.i64.wrap (b_ - a_)) 4)) * 2)))), σ2))).bind fun r8 =>
  ld r8.2 (.ptr l1 0) (.I .i64) fun n9 =>
  cond (n9 == 0) (
  some ((r8.1, 1), r8.2))
  (cond (n9 == 12) (
  some ((r8.1, 2), r8.2))
  (some ((r8.1, 0), r8.2)))
noncomputable def W.slices_choosePivotCmpFunc_int : Spec := .eff [.I .i64, .I .i64] fun args σ => packs args [.V, .I .i64, .I .i64, .V] fun x => S.slices_choosePivotCmpFunc_int x.1 x.2.1 x.2.2.1 x.2.2.2 σ


noncomputable def S.slices_reverseRangeCmpFunc_int.b0 (p1 : AVal) : (Int × Int) → Heap → Option (((Int × Int) ⊕ Unit) × Heap) := fun x2 σ3 =>
  cond (decide (x2.1 < x2.2)) (
  ixA σ3 p1 1 x2.2 fun a4 =>
  ld σ3 a4 (.I .i64) fun n5 =>
  ixA σ3 p1 1 x2.1 fun a6 =>
  ld σ3 a6 (.I .i64) fun n7 =>
  ixA σ3 p1 1 x2.1 fun a8 =>
  stC σ3 a8 [(.int .i64 n5)] fun σ9 =>
  ixA σ9 p1 1 x2.2 fun a10 =>
  stC σ9 a10 [(.int .i64 n7)] fun σ11 =>
  some (.inl ((IntKind.i64.wrap (x2.1 + 1)), (IntKind.i64.wrap (x2.2 - 1))), σ11))
  (some (.inr (), σ3))
noncomputable def S.slices_reverseRangeCmpFunc_int (data_ : AVal) (a_ : Int) (b_ : Int) (cmp_ : AVal) (σ : Heap) : Option (Unit × Heap) :=
  (loopW (S.slices_reverseRangeCmpFunc_int.b0 data_) (a_, (IntKind.i64.wrap (b_ - 1))) σ).bind fun r12 =>
  some ((), r12.2)
noncomputable def W.slices_reverseRangeCmpFunc_int : Spec := .eff [] fun args σ => packs args [.V, .I .i64, .I .i64, .V] fun x => S.slices_reverseRangeCmpFunc_int x.1 x.2.1 x.2.2.1 x.2.2.2 σ


noncomputable def S.slices_partialInsertionSortCmpFunc_int.T : FuncId → Option Spec := (tab 155 W.lits_order noSpec)
noncomputable def S.slices_partialInsertionSortCmpFunc_int.b0 (p7 : AVal) (p8 : Int) (p9 : Int) (p10 : AVal) (p11 : Int) : Int → Heap → Option ((Int ⊕ Int) × Heap) := fun x12 σ13 =>
  (cond (decide (x12 < p9)) (
  ixA σ13 p7 1 x12 fun a14 =>
  ld σ13 a14 (.I .i64) fun n15 =>
  ixA σ13 p7 1 (IntKind.i64.wrap (x12 - 1)) fun a16 =>
  ld σ13 a16 (.I .i64) fun n17 =>
  callV S.slices_partialInsertionSortCmpFunc_int.T p10 [(.int .i64 n15), (.int .i64 n17)] σ13 fun r18 σ19 =>
  asK (.I .i64) r18 fun n20 =>
  some ((!(decide (n20 < 0))), σ19))
  (some (false, σ13))).bind fun r21 =>
  cond r21.1 (
  some (.inl (IntKind.i64.wrap (x12 + 1)), r21.2))
  (some (.inr x12, r21.2))
noncomputable def S.slices_partialInsertionSortCmpFunc_int.b1 (p31 : AVal) (p32 : Int) (p33 : Int) (p34 : AVal) (p35 : Int) (p36 : Int) : Int → Heap → Option ((Int ⊕ Unit) × Heap) := fun x37 σ38 =>
  cond (decide (x37 ≥ 1)) (
  ixA σ38 p31 1 x37 fun a39 =>
  ld σ38 a39 (.I .i64) fun n40 =>
  ixA σ38 p31 1 (IntKind.i64.wrap (x37 - 1)) fun a41 =>
  ld σ38 a41 (.I .i64) fun n42 =>
  callV S.slices_partialInsertionSortCmpFunc_int.T p34 [(.int .i64 n40), (.int .i64 n42)] σ38 fun r43 σ44 =>
  asK (.I .i64) r43 fun n45 =>
  cond (!(decide (n45 < 0))) (
  some (.inr (), σ44))
  (ixA σ44 p31 1 (IntKind.i64.wrap (x37 - 1)) fun a46 =>
  ld σ44 a46 (.I .i64) fun n47 =>
  ixA σ44 p31 1 x37 fun a48 =>
  ld σ44 a48 (.I .i64) fun n49 =>
  ixA σ44 p31 1 x37 fun a50 =>
  stC σ44 a50 [(.int .i64 n47)] fun σ51 =>
  ixA σ51 p31 1 (IntKind.i64.wrap (x37 - 1)) fun a52 =>
  stC σ51 a52 [(.int .i64 n49)] fun σ53 =>
  some (.inl (IntKind.i64.wrap (x37 - 1)), σ53)))
  (some (.inr (), σ38))
noncomputable def S.slices_partialInsertionSortCmpFunc_int.b2 (p56 : AVal) (p57 : Int) (p58 : Int) (p59 : AVal) (p60 : Int) (p61 : Int) : Int → Heap → Option ((Int ⊕ Unit) × Heap) := fun x62 σ63 =>
  cond (decide (x62 < p58)) (
  ixA σ63 p56 1 x62 fun a64 =>
  ld σ63 a64 (.I .i64) fun n65 =>
  ixA σ63 p56 1 (IntKind.i64.wrap (x62 - 1)) fun a66 =>
  ld σ63 a66 (.I .i64) fun n67 =>
  callV S.slices_partialInsertionSortCmpFunc_int.T p59 [(.int .i64 n65), (.int .i64 n67)] σ63 fun r68 σ69 =>
  asK (.I .i64) r68 fun n70 =>
  cond (!(decide (n70 < 0))) (
  some (.inr (), σ69))
  (ixA σ69 p56 1 (IntKind.i64.wrap (x62 - 1)) fun a71 =>
  ld σ69 a71 (.I .i64) fun n72 =>
  ixA σ69 p56 1 x62 fun a73 =>
  ld σ69 a73 (.I .i64) fun n74 =>
  ixA σ69 p56 1 x62 fun a75 =>
  stC σ69 a75 [(.int .i64 n72)] fun σ76 =>
  ixA σ76 p56 1 (IntKind.i64.wrap (x62 - 1)) fun a77 =>
  stC σ76 a77 [(.int .i64 n74)] fun σ78 =>
  some (.inl (IntKind.i64.wrap (x62 + 1)), σ78)))
  (some (.inr (), σ63))
noncomputable def S.slices_partialInsertionSortCmpFunc_int.b3 (p1 : AVal) (p2 : Int) (p3 : Int) (p4 : AVal) : (Int × Int) → Heap → Option (((Int × Int) ⊕ (Unit ⊕ Bool)) × Heap) := fun x5 σ6 =>
  cond (decide (x5.2 < 5)) (
  ((loopW (S.slices_partialInsertionSortCmpFunc_int.b0 p1 p2 p3 p4 x5.2) x5.1 σ6).bind fun r22 =>
  cond (r22.1 == p3) (
  some (.inr true, r22.2))
  (cond (decide ((IntKind.i64.wrap (p3 - p2)) < 50)) (
  some (.inr false, r22.2))
  (ixA r22.2 p1 1 (IntKind.i64.wrap (r22.1 - 1)) fun a23 =>
  ld r22.2 a23 (.I .i64) fun n24 =>
  ixA r22.2 p1 1 r22.1 fun a25 =>
  ld r22.2 a25 (.I .i64) fun n26 =>
  ixA r22.2 p1 1 r22.1 fun a27 =>
  stC r22.2 a27 [(.int .i64 n24)] fun σ28 =>
  ixA σ28 p1 1 (IntKind.i64.wrap (r22.1 - 1)) fun a29 =>
  stC σ28 a29 [(.int .i64 n26)] fun σ30 =>
  (cond (decide ((IntKind.i64.wrap (r22.1 - p2)) ≥ 2)) (
  (loopW (S.slices_partialInsertionSortCmpFunc_int.b1 p1 p2 p3 p4 r22.1 x5.2) (IntKind.i64.wrap (r22.1 - 1)) σ30).bind fun r54 =>
  some ((), r54.2))
  (some ((), σ30))).bind fun r55 =>
  cond (decide ((IntKind.i64.wrap (p3 - r22.1)) ≥ 2)) (
  (loopW (S.slices_partialInsertionSortCmpFunc_int.b2 p1 p2 p3 p4 r22.1 x5.2) (IntKind.i64.wrap (r22.1 + 1)) r55.2).bind fun r79 =>
  some (.inl r22.1, r79.2))
  (some (.inl r22.1, r55.2)))) : Option ((Int ⊕ Bool) × Heap)).bind fun r80 =>
  (match r80.1 with
 | .inl y81 => some (.inl (y81, (IntKind.i64.wrap (x5.2 + 1))), r80.2)
 | .inr y82 => some (.inr (.inr y82), r80.2)))
  (some (.inr (.inl ()), σ6))
noncomputable def S.slices_partialInsertionSortCmpFunc_int (p0 : AVal) (p1 : Int) (p2 : Int) (p3 : AVal) (σ : Heap) : Option (Bool × Heap) :=
  (loopW (S.slices_partialInsertionSortCmpFunc_int.b3 p0 p1 p2 p3) ((IntKind.i64.wrap (p1 + 1)), 0) σ).bind fun r83 =>
  (match r83.1 with
 | .inl y84 => some (false, r83.2)
 | .inr y85 => some (y85, r83.2))
noncomputable def W.slices_partialInsertionSortCmpFunc_int : Spec := .eff [.B] fun args σ => packs args [.V, .I .i64, .I .i64, .V] fun x => S.slices_partialInsertionSortCmpFunc_int x.1 x.2.1 x.2.2.1 x.2.2.2 σ


noncomputable def S.slices_partitionEqualCmpFunc_int.T : FuncId → Option Spec := (tab 155 W.lits_order noSpec)
noncomputable def S.slices_partitionEqualCmpFunc_int.b0 (p14 : AVal) (p15 : Int) (p16 : AVal) (p17 : Int) : Int → Heap → Option ((Int ⊕ Int) × Heap) := fun x18 σ19 =>
  (cond (decide (x18 ≤ p17)) (
  ixA σ19 p14 1 p15 fun a20 =>
  ld σ19 a20 (.I .i64) fun n21 =>
  ixA σ19 p14 1 x18 fun a22 =>
  ld σ19 a22 (.I .i64) fun n23 =>
  callV S.slices_partitionEqualCmpFunc_int.T p16 [(.int .i64 n21), (.int .i64 n23)] σ19 fun r24 σ25 =>
  asK (.I .i64) r24 fun n26 =>
  some ((!(decide (n26 < 0))), σ25))
  (some (false, σ19))).bind fun r27 =>
  cond r27.1 (
  some (.inl (IntKind.i64.wrap (x18 + 1)), r27.2))
  (some (.inr x18, r27.2))
noncomputable def S.slices_partitionEqualCmpFunc_int.b1 (p29 : AVal) (p30 : Int) (p31 : AVal) (p32 : Int) : Int → Heap → Option ((Int ⊕ Int) × Heap) := fun x33 σ34 =>
  (cond (decide (p32 ≤ x33)) (
  ixA σ34 p29 1 p30 fun a35 =>
  ld σ34 a35 (.I .i64) fun n36 =>
  ixA σ34 p29 1 x33 fun a37 =>
  ld σ34 a37 (.I .i64) fun n38 =>
  callV S.slices_partitionEqualCmpFunc_int.T p31 [(.int .i64 n36), (.int .i64 n38)] σ34 fun r39 σ40 =>
  asK (.I .i64) r39 fun n41 =>
  some ((decide (n41 < 0)), σ40))
  (some (false, σ34))).bind fun r42 =>
  cond r42.1 (
  some (.inl (IntKind.i64.wrap (x33 - 1)), r42.2))
  (some (.inr x33, r42.2))
noncomputable def S.slices_partitionEqualCmpFunc_int.b2 (p9 : AVal) (p10 : Int) (p11 : AVal) : (Int × Int) → Heap → Option (((Int × Int) ⊕ Int) × Heap) := fun x12 σ13 =>
  (loopW (S.slices_partitionEqualCmpFunc_int.b0 p9 p10 p11 x12.2) x12.1 σ13).bind fun r28 =>
  (loopW (S.slices_partitionEqualCmpFunc_int.b1 p9 p10 p11 r28.1) x12.2 r28.2).bind fun r43 =>
  cond (decide (r28.1 > r43.1)) (
  some (.inr r28.1, r43.2))
  (ixA r43.2 p9 1 r43.1 fun a44 =>
  ld r43.2 a44 (.I .i64) fun n45 =>
  ixA r43.2 p9 1 r28.1 fun a46 =>
  ld r43.2 a46 (.I .i64) fun n47 =>
  ixA r43.2 p9 1 r28.1 fun a48 =>
  stC r43.2 a48 [(.int .i64 n45)] fun σ49 =>
  ixA σ49 p9 1 r43.1 fun a50 =>
  stC σ49 a50 [(.int .i64 n47)] fun σ51 =>
  some (.inl ((IntKind.i64.wrap (r28.1 + 1)), (IntKind.i64.wrap (r43.1 - 1))), σ51))
noncomputable def S.slices_partitionEqualCmpFunc_int (p0 : AVal) (p1 : Int) (p2 : Int) (p3 : Int) (p4 : AVal) (σ : Heap) : Option (Int × Heap) :=
  ixA σ p0 1 p3 fun a1 =>
  ld σ a1 (.I .i64) fun n2 =>
  ixA σ p0 1 p1 fun a3 =>
  ld σ a3 (.I .i64) fun n4 =>
  ixA σ p0 1 p1 fun a5 =>
  stC σ a5 [(.int .i64 n2)] fun σ6 =>
  ixA σ6 p0 1 p3 fun a7 =>
  stC σ6 a7 [(.int .i64 n4)] fun σ8 =>
  (loopW (S.slices_partitionEqualCmpFunc_int.b2 p0 p1 p4) ((IntKind.i64.wrap (p1 + 1)), (IntKind.i64.wrap (p2 - 1))) σ8).bind fun r52 =>
  some (r52.1, r52.2)
noncomputable def W.slices_partitionEqualCmpFunc_int : Spec := .eff [.I .i64] fun args σ => packs args [.V, .I .i64, .I .i64, .I .i64, .V] fun x => S.slices_partitionEqualCmpFunc_int x.1 x.2.1 x.2.2.1 x.2.2.2.1 x.2.2.2.2 σ


noncomputable def S.slices_partitionCmpFunc_int.T : FuncId → Option Spec := (tab 155 W.lits_order noSpec)
noncomputable def S.slices_partitionCmpFunc_int.b0 (p9 : AVal) (p10 : Int) (p11 : AVal) (p12 : Int) : Int → Heap → Option ((Int ⊕ Int) × Heap) := fun x13 σ14 =>
  (cond (decide (x13 ≤ p12)) (
  ixA σ14 p9 1 x13 fun a15 =>
  ld σ14 a15 (.I .i64) fun n16 =>
  ixA σ14 p9 1 p10 fun a17 =>
  ld σ14 a17 (.I .i64) fun n18 =>
  callV S.slices_partitionCmpFunc_int.T p11 [(.int .i64 n16), (.int .i64 n18)] σ14 fun r19 σ20 =>
  asK (.I .i64) r19 fun n21 =>
  some ((decide (n21 < 0)), σ20))
  (some (false, σ14))).bind fun r22 =>
  cond r22.1 (
  some (.inl (IntKind.i64.wrap (x13 + 1)), r22.2))
  (some (.inr x13, r22.2))
noncomputable def S.slices_partitionCmpFunc_int.b1 (p24 : AVal) (p25 : Int) (p26 : AVal) (p27 : Int) : Int → Heap → Option ((Int ⊕ Int) × Heap) := fun x28 σ29 =>
  (cond (decide (p27 ≤ x28)) (
  ixA σ29 p24 1 x28 fun a30 =>
  ld σ29 a30 (.I .i64) fun n31 =>
  ixA σ29 p24 1 p25 fun a32 =>
  ld σ29 a32 (.I .i64) fun n33 =>
  callV S.slices_partitionCmpFunc_int.T p26 [(.int .i64 n31), (.int .i64 n33)] σ29 fun r34 σ35 =>
  asK (.I .i64) r34 fun n36 =>
  some ((!(decide (n36 < 0))), σ35))
  (some (false, σ29))).bind fun r37 =>
  cond r37.1 (
  some (.inl (IntKind.i64.wrap (x28 - 1)), r37.2))
  (some (.inr x28, r37.2))
noncomputable def S.slices_partitionCmpFunc_int.b2 (p60 : AVal) (p61 : Int) (p62 : AVal) (p63 : Int) : Int → Heap → Option ((Int ⊕ Int) × Heap) := fun x64 σ65 =>
  (cond (decide (x64 ≤ p63)) (
  ixA σ65 p60 1 x64 fun a66 =>
  ld σ65 a66 (.I .i64) fun n67 =>
  ixA σ65 p60 1 p61 fun a68 =>
  ld σ65 a68 (.I .i64) fun n69 =>
  callV S.slices_partitionCmpFunc_int.T p62 [(.int .i64 n67), (.int .i64 n69)] σ65 fun r70 σ71 =>
  asK (.I .i64) r70 fun n72 =>
  some ((decide (n72 < 0)), σ71))
  (some (false, σ65))).bind fun r73 =>
  cond r73.1 (
  some (.inl (IntKind.i64.wrap (x64 + 1)), r73.2))
  (some (.inr x64, r73.2))
noncomputable def S.slices_partitionCmpFunc_int.b3 (p75 : AVal) (p76 : Int) (p77 : AVal) (p78 : Int) : Int → Heap → Option ((Int ⊕ Int) × Heap) := fun x79 σ80 =>
  (cond (decide (p78 ≤ x79)) (
  ixA σ80 p75 1 x79 fun a81 =>
  ld σ80 a81 (.I .i64) fun n82 =>
  ixA σ80 p75 1 p76 fun a83 =>
  ld σ80 a83 (.I .i64) fun n84 =>
  callV S.slices_partitionCmpFunc_int.T p77 [(.int .i64 n82), (.int .i64 n84)] σ80 fun r85 σ86 =>
  asK (.I .i64) r85 fun n87 =>
  some ((!(decide (n87 < 0))), σ86))
  (some (false, σ80))).bind fun r88 =>
  cond r88.1 (
  some (.inl (IntKind.i64.wrap (x79 - 1)), r88.2))
  (some (.inr x79, r88.2))
noncomputable def S.slices_partitionCmpFunc_int.b4 (p55 : AVal) (p56 : Int) (p57 : AVal) : (Int × Int) → Heap → Option (((Int × Int) ⊕ Int) × Heap) := fun x58 σ59 =>
  (loopW (S.slices_partitionCmpFunc_int.b2 p55 p56 p57 x58.2) x58.1 σ59).bind fun r74 =>
  (loopW (S.slices_partitionCmpFunc_int.b3 p55 p56 p57 r74.1) x58.2 r74.2).bind fun r89 =>
  cond (decide (r74.1 > r89.1)) (
  some (.inr r89.1, r89.2))
  (ixA r89.2 p55 1 r89.1 fun a90 =>
  ld r89.2 a90 (.I .i64) fun n91 =>
  ixA r89.2 p55 1 r74.1 fun a92 =>
  ld r89.2 a92 (.I .i64) fun n93 =>
  ixA r89.2 p55 1 r74.1 fun a94 =>
  stC r89.2 a94 [(.int .i64 n91)] fun σ95 =>
  ixA σ95 p55 1 r89.1 fun a96 =>
  stC σ95 a96 [(.int .i64 n93)] fun σ97 =>
  some (.inl ((IntKind.i64.wrap (r74.1 + 1)), (IntKind.i64.wrap (r89.1 - 1))), σ97))
noncomputable def S.slices_partitionCmpFunc_int (p0 : AVal) (p1 : Int) (p2 : Int) (p3 : Int) (p4 : AVal) (σ : Heap) : Option ((Int × Bool) × Heap) :=
  ixA σ p0 1 p3 fun a1 =>
  ld σ a1 (.I .i64) fun n2 =>
  ixA σ p0 1 p1 fun a3 =>
  ld σ a3 (.I .i64) fun n4 =>
  ixA σ p0 1 p1 fun a5 =>
  stC σ a5 [(.int .i64 n2)] fun σ6 =>
  ixA σ6 p0 1 p3 fun a7 =>
  stC σ6 a7 [(.int .i64 n4)] fun σ8 =>
  (loopW (S.slices_partitionCmpFunc_int.b0 p0 p1 p4 (IntKind.i64.wrap (p2 - 1))) (IntKind.i64.wrap (p1 + 1)) σ8).bind fun r23 =>
  (loopW (S.slices_partitionCmpFunc_int.b1 p0 p1 p4 r23.1) (IntKind.i64.wrap (p2 - 1)) r23.2).bind fun r38 =>
  cond (decide (r23.1 > r38.1)) (
  ixA r38.2 p0 1 p1 fun a39 =>
  ld r38.2 a39 (.I .i64) fun n40 =>
  ixA r38.2 p0 1 r38.1 fun a41 =>
  ld r38.2 a41 (.I .i64) fun n42 =>
  ixA r38.2 p0 1 r38.1 fun a43 =>
  stC r38.2 a43 [(.int .i64 n40)] fun σ44 =>
  ixA σ44 p0 1 p1 fun a45 =>
  stC σ44 a45 [(.int .i64 n42)] fun σ46 =>
  some ((r38.1, true), σ46))
  (ixA r38.2 p0 1 r38.1 fun a47 =>
  ld r38.2 a47 (.I .i64) fun n48 =>
  ixA r38.2 p0 1 r23.1 fun a49 =>
  ld r38.2 a49 (.I .i64) fun n50 =>
  ixA r38.2 p0 1 r23.1 fun a51 =>
  stC r38.2 a51 [(.int .i64 n48)] fun σ52 =>
  ixA σ52 p0 1 r38.1 fun a53 =>
  stC σ52 a53 [(.int .i64 n50)] fun σ54 =>
  (loopW (S.slices_partitionCmpFunc_int.b4 p0 p1 p4) ((IntKind.i64.wrap (r23.1 + 1)), (IntKind.i64.wrap (r38.1 - 1))) σ54).bind fun r98 =>
  ixA r98.2 p0 1 p1 fun a99 =>
  ld r98.2 a99 (.I .i64) fun n100 =>
  ixA r98.2 p0 1 r98.1 fun a101 =>
  ld r98.2 a101 (.I .i64) fun n102 =>
  ixA r98.2 p0 1 r98.1 fun a103 =>
  stC r98.2 a103 [(.int .i64 n100)] fun σ104 =>
  ixA σ104 p0 1 p1 fun a105 =>
  stC σ104 a105 [(.int .i64 n102)] fun σ106 =>
  some ((r98.1, false), σ106))
noncomputable def W.slices_partitionCmpFunc_int : Spec := .eff [.I .i64, .B] fun args σ => packs args [.V, .I .i64, .I .i64, .I .i64, .V] fun x => S.slices_partitionCmpFunc_int x.1 x.2.1 x.2.2.1 x.2.2.2.1 x.2.2.2.2 σ


noncomputable def S.slices_pdqsortCmpFunc_int.T (self : AVal → Int → Int → Int → AVal → Heap → Option (Unit × Heap)) : FuncId → Option Spec := (tab 169 (.eff [] fun args σ => packs args [.V, .I .i64, .I .i64, .I .i64, .V] fun x => self x.1 x.2.1 x.2.2.1 x.2.2.2.1 x.2.2.2.2 σ) (tab 182 W.slices_partitionCmpFunc_int (tab 181 W.slices_partitionEqualCmpFunc_int (tab 155 W.lits_order (tab 180 W.slices_partialInsertionSortCmpFunc_int (tab 179 W.slices_reverseRangeCmpFunc_int (tab 178 W.slices_choosePivotCmpFunc_int (tab 177 W.slices_breakPatternsCmpFunc_int (tab 176 W.slices_heapSortCmpFunc_int (tab 175 W.slices_insertionSortCmpFunc_int noSpec))))))))))
noncomputable def S.slices_pdqsortCmpFunc_int.b0 (self : AVal → Int → Int → Int → AVal → Heap → Option (Unit × Heap)) (p1 : AVal) (p2 : AVal) : (Int × Int × Int × Bool × Bool) → Heap → Option (((Int × Int × Int × Bool × Bool) ⊕ Unit) × Heap) := fun x3 σ4 =>
  cond (decide ((IntKind.i64.wrap (x3.2.1 - x3.1)) ≤ 12)) (
  (S.slices_insertionSortCmpFunc_int p1 x3.1 x3.2.1 p2 σ4).bind fun r5 =>
  some (.inr (), r5.2))
  (cond (x3.2.2.1 == 0) (
  (S.slices_heapSortCmpFunc_int p1 x3.1 x3.2.1 p2 σ4).bind fun r6 =>
  some (.inr (), r6.2))
  ((cond (!x3.2.2.2.1) (
  (S.slices_breakPatternsCmpFunc_int p1 x3.1 x3.2.1 p2 σ4).bind fun r7 =>
  some ((IntKind.i64.wrap (x3.2.2.1 - 1)), r7.2))
  (some (x3.2.2.1, σ4))).bind fun r8 =>
  (S.slices_choosePivotCmpFunc_int p1 x3.1 x3.2.1 p2 r8.2).bind fun r9 =>
  (cond (r9.1.2 == 2) (
  (S.slices_reverseRangeCmpFunc_int p1 x3.1 x3.2.1 p2 r9.2).bind fun r10 =>
  some (((IntKind.i64.wrap ((IntKind.i64.wrap (x3.2.1 - 1)) - (IntKind.i64.wrap (r9.1.1 - x3.1)))), 1), r10.2))
  (some ((r9.1.1, r9.1.2), r9.2))).bind fun r11 =>
  (cond x3.2.2.2.1 (
  cond x3.2.2.2.2 (
  some (r11.1.2 == 1))
  (some false))
  (some false)).bind fun r12 =>
  (cond r12 (
  (S.slices_partialInsertionSortCmpFunc_int p1 x3.1 x3.2.1 p2 r11.2).bind fun r13 =>
  cond r13.1 (
  some (.inr (), r13.2))
  (some (.inl (), r13.2)))
  (some (.inl (), r11.2)) : Option ((Unit ⊕ Unit) × Heap)).bind fun r14 =>
  (match r14.1 with
 | .inl y15 => (cond (decide (x3.1 > 0)) (
  ixA r14.2 p1 1 (IntKind.i64.wrap (x3.1 - 1)) fun a17 =>
  ld r14.2 a17 (.I .i64) fun n18 =>
  ixA r14.2 p1 1 r11.1.1 fun a19 =>
  ld r14.2 a19 (.I .i64) fun n20 =>
  callV (S.slices_pdqsortCmpFunc_int.T self) p2 [(.int .i64 n18), (.int .i64 n20)] r14.2 fun r21 σ22 =>
  asK (.I .i64) r21 fun n23 =>
  some ((!(decide (n23 < 0))), σ22))
  (some (false, r14.2))).bind fun r24 =>
  cond r24.1 (
  (S.slices_partitionEqualCmpFunc_int p1 x3.1 x3.2.1 r11.1.1 p2 r24.2).bind fun r25 =>
  some (.inl (r25.1, x3.2.1, r8.1, x3.2.2.2.1, x3.2.2.2.2), r25.2))
  ((S.slices_partitionCmpFunc_int p1 x3.1 x3.2.1 r11.1.1 p2 r24.2).bind fun r26 =>
  cond (decide ((IntKind.i64.wrap (r26.1.1 - x3.1)) < (IntKind.i64.wrap (x3.2.1 - r26.1.1)))) (
  (self p1 x3.1 r26.1.1 r8.1 p2 r26.2).bind fun r27 =>
  some (.inl ((IntKind.i64.wrap (r26.1.1 + 1)), x3.2.1, r8.1, (decide ((IntKind.i64.wrap (r26.1.1 - x3.1)) ≥ (IntKind.i64.wrap (Int.tdiv (IntKind.i64.wrap (x3.2.1 - x3.1)) 8)))), r26.1.2), r27.2))
  ((self p1 (IntKind.i64.wrap (r26.1.1 + 1)) x3.2.1 r8.1 p2 r26.2).bind fun r28 =>
  some (.inl (x3.1, r26.1.1, r8.1, (decide ((IntKind.i64.wrap (x3.2.1 - r26.1.1)) ≥ (IntKind.i64.wrap (Int.tdiv (IntKind.i64.wrap (x3.2.1 - x3.1)) 8)))), r26.1.2), r28.2)))
 | .inr y16 => some (.inr (), r14.2))))
noncomputable def S.slices_pdqsortCmpFunc_int.r (self : AVal → Int → Int → Int → AVal → Heap → Option (Unit × Heap)) (p0 : AVal) (p1 : Int) (p2 : Int) (p3 : Int) (p4 : AVal) (σ : Heap) : Option (Unit × Heap) :=
  (loopW (S.slices_pdqsortCmpFunc_int.b0 self p0 p4) (p1, p2, p3, true, true) σ).bind fun r29 =>
  some ((), r29.2)
noncomputable def S.slices_pdqsortCmpFunc_int.n : Nat → AVal → Int → Int → Int → AVal → Heap → Option (Unit × Heap)
    | 0 => fun _ _ _ _ _ _ => none
    | n + 1 => S.slices_pdqsortCmpFunc_int.r (S.slices_pdqsortCmpFunc_int.n n)
noncomputable def S.slices_pdqsortCmpFunc_int (p0 : AVal) (p1 : Int) (p2 : Int) (p3 : Int) (p4 : AVal) (σ : Heap) : Option (Unit × Heap) := lim fun n => S.slices_pdqsortCmpFunc_int.n n p0 p1 p2 p3 p4 σ
noncomputable def W.slices_pdqsortCmpFunc_int : Spec := .eff [] fun args σ => packs args [.V, .I .i64, .I .i64, .I .i64, .V] fun x => S.slices_pdqsortCmpFunc_int x.1 x.2.1 x.2.2.1 x.2.2.2.1 x.2.2.2.2 σ


noncomputable def S.slices_SortFunc_int_int (x_ : AVal) (cmp_ : AVal) (σ : Heap) : Option (Unit × Heap) :=
  lenV x_ fun n1 =>
  (S.bits_Len (IntKind.u64.wrap n1) σ).bind fun r2 =>
  (S.slices_pdqsortCmpFunc_int x_ 0 n1 r2 cmp_ σ).bind fun r3 =>
  some ((), r3.2)
noncomputable def W.slices_SortFunc_int_int : Spec := .eff [] fun args σ => packs args [.V, .V] fun x => S.slices_SortFunc_int_int x.1 x.2 σ


noncomputable def S.slices_Compact_int_int.b0 (p11 : AVal) (p12 : AVal) : (Int × Int) → Heap → Option (((Int × Int) ⊕ Int) × Heap) := fun x13 σ14 =>
  lenV p12 fun n15 =>
  cond (decide (x13.2 < n15)) (
  (ixA σ14 p12 1 x13.2 fun a16 =>
  ld σ14 a16 (.I .i64) fun n17 =>
  ixA σ14 p12 1 (IntKind.i64.wrap (x13.2 - 1)) fun a18 =>
  ld σ14 a18 (.I .i64) fun n19 =>
  cond (n17 != n19) (
  ixA σ14 p12 1 x13.2 fun a20 =>
  ld σ14 a20 (.I .i64) fun n21 =>
  ixA σ14 p11 1 x13.1 fun a22 =>
  stC σ14 a22 [(.int .i64 n21)] fun σ23 =>
  some ((IntKind.i64.wrap (x13.1 + 1)), σ23))
  (some (x13.1, σ14))).bind fun r24 =>
  some (.inl (r24.1, (IntKind.i64.wrap (x13.2 + 1))), r24.2))
  (some (.inr x13.1, σ14))
noncomputable def S.slices_Compact_int_int.b1 (p2 : AVal) : Int → Heap → Option ((Int ⊕ (Unit ⊕ AVal)) × Heap) := fun x3 σ4 =>
  lenV p2 fun n5 =>
  cond (decide (x3 < n5)) (
  ixA σ4 p2 1 x3 fun a6 =>
  ld σ4 a6 (.I .i64) fun n7 =>
  ixA σ4 p2 1 (IntKind.i64.wrap (x3 - 1)) fun a8 =>
  ld σ4 a8 (.I .i64) fun n9 =>
  cond (n7 == n9) (
  slS σ4 1 p2 x3 none none fun v10 =>
  (loopW (S.slices_Compact_int_int.b0 p2 v10) (x3, 1) σ4).bind fun r25 =>
  slS r25.2 1 p2 r25.1 none none fun v26 =>
  clearK r25.2 1 [(.int .i64 0)] v26 fun σ27 =>
  slS σ27 1 p2 0 (some r25.1) none fun v28 =>
  some (.inr (.inr v28), σ27))
  (some (.inl (IntKind.i64.wrap (x3 + 1)), σ4)))
  (some (.inr (.inl ()), σ4))
noncomputable def S.slices_Compact_int_int (s_ : AVal) (σ : Heap) : Option (AVal × Heap) :=
  lenV s_ fun n1 =>
  cond (decide (n1 < 2)) (
  some (s_, σ))
  ((loopW (S.slices_Compact_int_int.b1 s_) 1 σ).bind fun r29 =>
  (match r29.1 with
 | .inl y30 => some (s_, r29.2)
 | .inr y31 => some (y31, r29.2)))
noncomputable def W.slices_Compact_int_int : Spec := .eff [.V] fun args σ => packs args [.V] fun x => S.slices_Compact_int_int x σ


noncomputable def S.slices_Clip_int_int (s_ : AVal) (σ : Heap) : Option AVal :=
  lenV s_ fun n1 =>
  lenV s_ fun n2 =>
  slS σ 1 s_ 0 (some n1) (some n2) fun v3 =>
  some v3
noncomputable def W.slices_Clip_int_int : Spec := .pur [.V] fun args σ => packs args [.V] fun x => S.slices_Clip_int_int x σ


noncomputable def S.lits_Norm.b0 (p5 : AVal) (σ0 : Heap) : Int → Option (Int ⊕ (Unit ⊕ (AVal × Bool))) := fun x6 =>
  lenV p5 fun n8 =>
  cond (decide (x6 < n8)) (
  ixA σ0 p5 1 x6 fun a9 =>
  ld σ0 a9 (.I .i64) fun n10 =>
  (S.lits_Var n10 σ0).bind fun r11 =>
  ixA σ0 p5 1 (IntKind.i64.wrap (x6 - 1)) fun a12 =>
  ld σ0 a12 (.I .i64) fun n13 =>
  (S.lits_Var n13 σ0).bind fun r14 =>
  cond (r11 == r14) (
  some (.inr (.inr (p5, false))))
  (some (.inl (IntKind.i64.wrap (x6 + 1)))))
  (some (.inr (.inl ())))
noncomputable def S.lits_Norm (c_ : AVal) (σ : Heap) : Option ((AVal × Bool) × Heap) :=
  (S.slices_Clone_int_int c_ σ).bind fun r1 =>
  (S.slices_SortFunc_int_int r1.1 (.fn (.func 155) [] []) r1.2).bind fun r2 =>
  (S.slices_Compact_int_int r1.1 r2.2).bind fun r3 =>
  (S.slices_Clip_int_int r3.1 r3.2).bind fun r4 =>
  (loopP (S.lits_Norm.b0 r4 r3.2) 1).bind fun r15 =>
  (match r15 with
 | .inl y16 => some ((r4, true), r3.2)
 | .inr y17 => some ((y17.1, y17.2), r3.2))
noncomputable def W.lits_Norm : Spec := .eff [.V, .B] fun args σ => packs args [.V] fun x => S.lits_Norm x σ


noncomputable def S.rup_Base_Add.b0 (p24 : AVal) (p25 : AVal) (p26 : Int) (p27 : Int) : Int → Heap → Option ((Int ⊕ Unit) × Heap) := fun x28 σ29 =>
  cond (decide (x28 < p27)) (
  ixA σ29 p25 1 x28 fun a30 =>
  ld σ29 a30 (.I .i64) fun n31 =>
  nilck p24 (
  fld p24 3 fun a32 =>
  ld σ29 a32 (.V) fun v33 =>
  nilck p24 (
  fld p24 3 fun a34 =>
  ld σ29 a34 (.V) fun v35 =>
  mgetZ σ29 v35 .i64 n31 .nils fun x36 b37 =>
  ld σ29 a32 (.V) fun v38 =>
  chk ((v38 : AVal) = v33) (
  newK σ29 1 [(.int .i64 p26)] fun l39 σ40 =>
  appS σ40 1 8 x36 (.sl l39 0 1 none) fun v41 σ42 =>
  ld σ42 a32 (.V) fun v43 =>
  chk ((v43 : AVal) = v33) (
  mputK σ42 v33 .i64 n31 v41 fun σ44 =>
  some (.inl (IntKind.i64.wrap (x28 + 1)), σ44))))))
  (some (.inr (), σ29))
noncomputable def S.rup_Base_Add (p0 : AVal) (p1 : AVal) (σ : Heap) : Option (Bool × Heap) :=
  (S.rup_Base_right p0 p1 σ).bind fun r1 =>
  cond (!r1.1) (
  some (false, r1.2))
  ((S.lits_Norm p1 r1.2).bind fun r2 =>
  nilck p0 (
  fld p0 1 fun a3 =>
  ld r2.2 a3 (.V) fun v4 =>
  lenV v4 fun n5 =>
  nilck p0 (
  fld p0 1 fun a6 =>
  ld r2.2 a6 (.V) fun v7 =>
  scal r2.1.1 (
  newK r2.2 1 [r2.1.1] fun l8 σ9 =>
  appS σ9 1 24 v7 (.sl l8 0 1 none) fun v10 σ11 =>
  nilck p0 (
  fld p0 2 fun a12 =>
  ld σ11 a12 (.V) fun v13 =>
  ld r2.2 a12 (.V) fun v14 =>
  chk ((v14 : AVal) = v13) (
  newK σ11 1 [(.bool true)] fun l15 σ16 =>
  appS σ16 1 1 v13 (.sl l15 0 1 none) fun v17 σ18 =>
  nilck p0 (
  fld p0 1 fun a19 =>
  scal v10 (
  stC σ18 a19 [v10] fun σ20 =>
  nilck p0 (
  fld p0 2 fun a21 =>
  scal v17 (
  stC σ20 a21 [v17] fun σ22 =>
  lenV r2.1.1 fun n23 =>
  (loopW (S.rup_Base_Add.b0 p0 r2.1.1 n5 n23) 0 σ22).bind fun r45 =>
  lenV r2.1.1 fun n46 =>
  (cond (decide (n46 < 2)) (
  nilck p0 (
  fld p0 4 fun a47 =>
  ld r45.2 a47 (.V) fun v48 =>
  newK r45.2 1 [(.int .i64 n5)] fun l49 σ50 =>
  appS σ50 1 8 v48 (.sl l49 0 1 none) fun v51 σ52 =>
  nilck p0 (
  fld p0 4 fun a53 =>
  scal v51 (
  stC σ52 a53 [v51] fun σ54 =>
  some ((), σ54)))))
  (some ((), r45.2))).bind fun r55 =>
  nilck p0 (
  fld p0 5 fun a56 =>
  ld r55.2 a56 (.I .i64) fun n57 =>
  nilck p0 (
  fld p0 5 fun a58 =>
  stC r55.2 a58 [(.int .i64 (IntKind.i64.wrap (n57 + 1)))] fun σ59 =>
  some (true, σ59)))))))))))))
noncomputable def W.rup_Base_Add : Spec := .eff [.B] fun args σ => packs args [.V, .V] fun x => S.rup_Base_Add x.1 x.2 σ


noncomputable def S.rup_New.b0 (p7 : AVal) (p8 : AVal) (p9 : Int) : Int → Heap → Option ((Int ⊕ (Unit ⊕ (AVal × AVal))) × Heap) := fun x10 σ11 =>
  cond (decide (x10 < p9)) (
  ixA σ11 p8 1 x10 fun a12 =>
  ld σ11 a12 (.V) fun v13 =>
  (S.rup_Base_Add p7 v13 σ11).bind fun r14 =>
  cond (!r14.1) (
  ld r14.2 (.ptr 2 0) (.V) fun v15 =>
  some (.inr (.inr (.nilp, v15)), r14.2))
  (some (.inl (IntKind.i64.wrap (x10 + 1)), r14.2)))
  (some (.inr (.inl ()), σ11))
noncomputable def S.rup_New (vars_ : Int) (c_ : AVal) (σ : Heap) : Option ((AVal × AVal) × Heap) :=
  (S.assign_Cut vars_ σ).bind fun r1 =>
  newM σ fun l2 σ3 =>
  newK σ3 6 [(.int .i64 r1), .nils, .nils, (.map l2), .nils, (.int .i64 0)] fun l4 σ5 =>
  lenV c_ fun n6 =>
  (loopW (S.rup_New.b0 (.ptr l4 0) c_ n6) 0 σ5).bind fun r16 =>
  (match r16.1 with
 | .inl y17 => some (((.ptr l4 0), .nili), r16.2)
 | .inr y18 => some ((y18.1, y18.2), r16.2))
noncomputable def W.rup_New : Spec := .eff [.V, .V] fun args σ => packs args [.I .i64, .V] fun x => S.rup_New x.1 x.2 σ


noncomputable def S.drat_begin.b0 (p24 : AVal) (p25 : AVal) (p26 : Int) (p27 : Int) (p28 : AVal) (p29 : Int) (σ0 : Heap) : (Int × Int) → Option ((Int × Int) ⊕ Int) := fun x30 =>
  cond (decide (x30.2 < p29)) (
  ixA σ0 p28 1 x30.2 fun a32 =>
  ld σ0 a32 (.I .i64) fun n33 =>
  (S.lits_Var n33 σ0).bind fun r34 =>
  some (.inl ((if r34 > x30.1 then r34 else x30.1), (IntKind.i64.wrap (x30.2 + 1)))))
  (some (.inr x30.1))
noncomputable def S.drat_begin.b1 (p11 : AVal) (p12 : AVal) (p13 : Int) : (Int × Int) → Heap → Option (((Int × Int) ⊕ Int) × Heap) := fun x14 σ15 =>
  cond (decide (x14.2 < p13)) (
  ixA σ15 p12 2 x14.2 fun a16 =>
  ldG σ15 a16 2 fun g17 =>
  newK σ15 2 [(.bool false), .nils] fun l18 σ19 =>
  aggK g17 2 fun cs20 =>
  stC σ19 (.ptr l18 0) cs20 fun σ21 =>
  ld σ21 (.ptr l18 1) (.V) fun v22 =>
  lenV v22 fun n23 =>
  (loopP (S.drat_begin.b0 p11 p12 p13 x14.2 v22 n23 σ21) (x14.1, 0)).bind fun r35 =>
  some (.inl (r35, (IntKind.i64.wrap (x14.2 + 1))), σ21))
  (some (.inr x14.1, σ15))
noncomputable def S.drat_begin (c_ : AVal) (l_ : AVal) (σ : Heap) : Option ((AVal × Int × AVal) × Heap) :=
  aggK c_ 2 fun cs1 =>
  newK σ 2 cs1 fun l2 σ3 =>
  ldG σ3 (.ptr l2 0) 2 fun g4 =>
  (S.lits_Check g4 σ3).bind fun r5 =>
  eqI (tiOf Tryd.prog) r5.2 true r5.1 .nili fun b6 =>
  cond (!b6) (
  some ((.nilp, 0, r5.1), r5.2))
  ((S.proof_Check l_ r5.2).bind fun r7 =>
  eqI (tiOf Tryd.prog) r7.2 true r7.1 .nili fun b8 =>
  cond (!b8) (
  some ((.nilp, 0, r7.1), r7.2))
  (ld r7.2 (.ptr l2 0) (.I .i64) fun n9 =>
  lenV l_ fun n10 =>
  (loopW (S.drat_begin.b1 (.ptr l2 0) l_ n10) (n9, 0) r7.2).bind fun r36 =>
  ld r36.2 (.ptr l2 1) (.V) fun v37 =>
  (S.rup_New r36.1 v37 r36.2).bind fun r38 =>
  some ((r38.1.1, r36.1, r38.1.2), r38.2)))
noncomputable def W.drat_begin : Spec := .eff [.V, .I .i64, .V] fun args σ => packs args [.V, .V] fun x => S.drat_begin x.1 x.2 σ


noncomputable def S.assign_New (vars_ : Int) (σ : Heap) : Option (AVal × Heap) :=
  (S.assign_Cut vars_ σ).bind fun r1 =>
  mkS σ 1 1 [(.int .i8 0)] (IntKind.i64.wrap (r1 + 1)) (IntKind.i64.wrap (r1 + 1)) fun v2 σ3 =>
  scal v2 (
  newK σ3 1 [v2] fun l4 σ5 =>
  some ((.ptr l4 0), σ5))
noncomputable def W.assign_New : Spec := .eff [.V] fun args σ => packs args [.I .i64] fun x => S.assign_New x σ


noncomputable def S.rup_Base_closure.T : FuncId → Option Spec := (tab 130 W.rup_Base_closure_2 (tab 127 W.rup_Base_closure_1 (tab 126 W.assign_New noSpec)))
noncomputable def S.rup_Base_closure.b0 (p16 : AVal) (p17 : AVal) (p18 : AVal) (p19 : AVal) (p20 : AVal) (p21 : Int) : Int → Heap → Option ((Int ⊕ (Unit ⊕ (AVal × Bool))) × Heap) := fun x22 σ23 =>
  cond (decide (x22 < p21)) (
  ixA σ23 p20 1 x22 fun a24 =>
  ld σ23 a24 (.I .i64) fun n25 =>
  ld σ23 p19 (.V) fun v26 =>
  callV S.rup_Base_closure.T v26 [(.int .i64 n25)] σ23 fun r27 σ28 =>
  asK (.B) r27 fun b29 =>
  cond (!b29) (
  some (.inr (.inr (.nilp, false)), σ28))
  (some (.inl (IntKind.i64.wrap (x22 + 1)), σ28)))
  (some (.inr (.inl ()), σ23))
noncomputable def S.rup_Base_closure.b1 (p37 : AVal) (p38 : AVal) (p39 : AVal) (p40 : AVal) (p41 : AVal) (p42 : Int) : Int → Heap → Option ((Int ⊕ (Unit ⊕ (AVal × Bool))) × Heap) := fun x43 σ44 =>
  cond (decide (x43 < p42)) (
  ixA σ44 p41 1 x43 fun a45 =>
  ld σ44 a45 (.I .i64) fun n46 =>
  (S.rup_Base_closure_2 n46 p38 p37 p40 σ44).bind fun r47 =>
  cond (!r47.1) (
  some (.inr (.inr (.nilp, false)), r47.2))
  (some (.inl (IntKind.i64.wrap (x43 + 1)), r47.2)))
  (some (.inr (.inl ()), σ44))
noncomputable def S.rup_Base_closure.b2 (p71 : AVal) (p72 : AVal) (p73 : AVal) (p74 : AVal) (p75 : AVal) (p76 : Int) : Int → Heap → Option ((Int ⊕ (Unit ⊕ (AVal × Bool))) × Heap) := fun x77 σ78 =>
  cond (decide (x77 < p76)) (
  ixA σ78 p75 1 x77 fun a79 =>
  ld σ78 a79 (.I .i64) fun n80 =>
  (S.rup_Base_closure_2 n80 p72 p71 p74 σ78).bind fun r81 =>
  cond (!r81.1) (
  some (.inr (.inr (.nilp, false)), r81.2))
  (some (.inl (IntKind.i64.wrap (x77 + 1)), r81.2)))
  (some (.inr (.inl ()), σ78))
noncomputable def S.rup_Base_closure.b3 (p51 : AVal) (p52 : AVal) (p53 : AVal) (p54 : AVal) : Unit → Heap → Option ((Unit ⊕ (Unit ⊕ (AVal × Bool))) × Heap) := fun x55 σ56 =>
  ld σ56 p53 (.V) fun v57 =>
  lenV v57 fun n58 =>
  cond (decide (n58 > 0)) (
  ld σ56 p53 (.V) fun v59 =>
  ixA σ56 v59 1 0 fun a60 =>
  ld σ56 a60 (.I .i64) fun n61 =>
  ld σ56 p53 (.V) fun v62 =>
  slS σ56 1 v62 1 none none fun v63 =>
  scal v63 (
  stC σ56 p53 [v63] fun σ64 =>
  ld σ64 p51 (.V) fun v65 =>
  nilck v65 (
  fld v65 3 fun a66 =>
  ld σ64 a66 (.V) fun v67 =>
  mgetZ σ64 v67 .i64 (IntKind.i64.wrap (0 - n61)) .nils fun x68 b69 =>
  lenV x68 fun n70 =>
  (loopW (S.rup_Base_closure.b2 p51 p52 p53 p54 x68 n70) 0 σ64).bind fun r82 =>
  (match r82.1 with
 | .inl y83 => some (.inl (), r82.2)
 | .inr y84 => some (.inr (.inr (y84.1, y84.2)), r82.2)))))
  (some (.inr (.inl ()), σ56))
noncomputable def S.rup_Base_closure (p0 : AVal) (p1 : AVal) (σ : Heap) : Option ((AVal × Bool) × Heap) :=
  scal p0 (
  newK σ 1 [p0] fun l1 σ2 =>
  ld σ2 (.ptr l1 0) (.V) fun v3 =>
  nilck v3 (
  fld v3 0 fun a4 =>
  ld σ2 a4 (.I .i64) fun n5 =>
  (S.assign_New n5 σ2).bind fun r6 =>
  newK r6.2 1 [.nilp] fun l7 σ8 =>
  scal r6.1 (
  stC σ8 (.ptr l7 0) [r6.1] fun σ9 =>
  newK σ9 1 [.nils] fun l10 σ11 =>
  newK σ11 1 [.nilf] fun l12 σ13 =>
  stC σ13 (.ptr l12 0) [(.fn (.func 127) [] [(.ptr l7 0), (.ptr l10 0)])] fun σ14 =>
  lenV p1 fun n15 =>
  (loopW (S.rup_Base_closure.b0 (.ptr l1 0) (.ptr l7 0) (.ptr l10 0) (.ptr l12 0) p1 n15) 0 σ14).bind fun r30 =>
  (match r30.1 with
 | .inl y31 => ld r30.2 (.ptr l1 0) (.V) fun v33 =>
  nilck v33 (
  fld v33 4 fun a34 =>
  ld r30.2 a34 (.V) fun v35 =>
  lenV v35 fun n36 =>
  (loopW (S.rup_Base_closure.b1 (.ptr l1 0) (.ptr l7 0) (.ptr l10 0) (.ptr l12 0) v35 n36) 0 r30.2).bind fun r48 =>
  (match r48.1 with
 | .inl y49 => (loopW (S.rup_Base_closure.b3 (.ptr l1 0) (.ptr l7 0) (.ptr l10 0) (.ptr l12 0)) () r48.2).bind fun r85 =>
  (match r85.1 with
 | .inl y86 => ld r85.2 (.ptr l7 0) (.V) fun v88 =>
  some ((v88, true), r85.2)
 | .inr y87 => some ((y87.1, y87.2), r85.2))
 | .inr y50 => some ((y50.1, y50.2), r48.2)))
 | .inr y32 => some ((y32.1, y32.2), r30.2)))))
noncomputable def W.rup_Base_closure : Spec := .eff [.V, .B] fun args σ => packs args [.V, .V] fun x => S.rup_Base_closure x.1 x.2 σ


noncomputable def S.rup_Base_Implied.b0 (p6 : AVal) (p7 : AVal) (p8 : Int) : (AVal × Int) → Heap → Option (((AVal × Int) ⊕ AVal) × Heap) := fun x9 σ10 =>
  cond (decide (x9.2 < p8)) (
  ixA σ10 p7 1 x9.2 fun a11 =>
  ld σ10 a11 (.I .i64) fun n12 =>
  newK σ10 1 [(.int .i64 (IntKind.i64.wrap (0 - n12)))] fun l13 σ14 =>
  appS σ14 1 8 x9.1 (.sl l13 0 1 none) fun v15 σ16 =>
  some (.inl (v15, (IntKind.i64.wrap (x9.2 + 1))), σ16))
  (some (.inr x9.1, σ10))
noncomputable def S.rup_Base_Implied (b_ : AVal) (c_ : AVal) (σ : Heap) : Option (Bool × Heap) :=
  (S.rup_Base_right b_ c_ σ).bind fun r1 =>
  cond (!r1.1) (
  some (false, r1.2))
  (lenV c_ fun n2 =>
  mkS r1.2 1 8 [(.int .i64 0)] 0 n2 fun v3 σ4 =>
  lenV c_ fun n5 =>
  (loopW (S.rup_Base_Implied.b0 b_ c_ n5) (v3, 0) σ4).bind fun r17 =>
  (S.rup_Base_closure b_ r17.1 r17.2).bind fun r18 =>
  some ((!r18.1.2), r18.2))
noncomputable def W.rup_Base_Implied : Spec := .eff [.B] fun args σ => packs args [.V, .V] fun x => S.rup_Base_Implied x.1 x.2 σ


noncomputable def S.slices_DeleteFunc_int_int.T : FuncId → Option Spec := (tab 138 W.sat_Engine_Add_1 (tab 160 W.prop_Prop_Add_1 (tab 137 W.incr_Solver_may_1 (tab 153 W.rup_gone_1 (tab 125 W.rup_without_1 (tab 130 W.rup_Base_closure_2 (tab 127 W.rup_Base_closure_1 (tab 155 W.lits_order (tab 123 W.rup_Base_right_1 (tab 111 W.lits_Check_1 (tab 140 W.slices_IndexFunc_int_int noSpec)))))))))))
noncomputable def S.slices_DeleteFunc_int_int.b0 (p2 : AVal) (p3 : AVal) : (Int × Int) → Heap → Option (((Int × Int) ⊕ Int) × Heap) := fun x4 σ5 =>
  lenV p2 fun n6 =>
  cond (decide (x4.2 < n6)) (
  (ixA σ5 p2 1 x4.2 fun a7 =>
  ld σ5 a7 (.I .i64) fun n8 =>
  callV S.slices_DeleteFunc_int_int.T p3 [(.int .i64 n8)] σ5 fun r9 σ10 =>
  asK (.B) r9 fun b11 =>
  cond (!b11) (
  ixA σ10 p2 1 x4.1 fun a12 =>
  stC σ10 a12 [(.int .i64 n8)] fun σ13 =>
  some ((IntKind.i64.wrap (x4.1 + 1)), σ13))
  (some (x4.1, σ10))).bind fun r14 =>
  some (.inl (r14.1, (IntKind.i64.wrap (x4.2 + 1))), r14.2))
  (some (.inr x4.1, σ5))
noncomputable def S.slices_DeleteFunc_int_int (s_ : AVal) (del_ : AVal) (σ : Heap) : Option (AVal × Heap) :=
  (S.slices_IndexFunc_int_int s_ del_ σ).bind fun r1 =>
  cond (r1.1 == (-1)) (
  some (s_, r1.2))
  ((loopW (S.slices_DeleteFunc_int_int.b0 s_ del_) (r1.1, (IntKind.i64.wrap (r1.1 + 1))) r1.2).bind fun r15 =>
  slS r15.2 1 s_ r15.1 none none fun v16 =>
  clearK r15.2 1 [(.int .i64 0)] v16 fun σ17 =>
  slS σ17 1 s_ 0 (some r15.1) none fun v18 =>
  some (v18, σ17))
noncomputable def W.slices_DeleteFunc_int_int : Spec := .eff [.V] fun args σ => packs args [.V, .V] fun x => S.slices_DeleteFunc_int_int x.1 x.2 σ


noncomputable def S.rup_without (c_ : AVal) (l_ : Int) (σ : Heap) : Option (AVal × Heap) :=
  newK σ 1 [(.int .i64 l_)] fun l1 σ2 =>
  (S.slices_Clone_int_int c_ σ2).bind fun r3 =>
  (S.slices_DeleteFunc_int_int r3.1 (.fn (.func 125) [] [(.ptr l1 0)]) r3.2).bind fun r4 =>
  some (r4.1, r4.2)
noncomputable def W.rup_without : Spec := .eff [.V] fun args σ => packs args [.V, .I .i64] fun x => S.rup_without x.1 x.2 σ


noncomputable def S.rup_Base_Blocked.b0 (p12 : AVal) (p13 : AVal) (p14 : AVal) (p15 : Int) : Int → Heap → Option ((Int ⊕ (Unit ⊕ Bool)) × Heap) := fun x16 σ17 =>
  cond (decide (x16 < p15)) (
  ixA σ17 p14 1 x16 fun a18 =>
  ld σ17 a18 (.I .i64) fun n19 =>
  nilck p12 (
  fld p12 1 fun a20 =>
  ld σ17 a20 (.V) fun v21 =>
  ixA σ17 v21 1 n19 fun a22 =>
  ld σ17 a22 (.V) fun v23 =>
  ixA σ17 p13 1 0 fun a24 =>
  ld σ17 a24 (.I .i64) fun n25 =>
  (S.rup_without v23 (IntKind.i64.wrap (0 - n25)) σ17).bind fun r26 =>
  scal p13 (
  scal r26.1 (
  newK r26.2 1 [p13, r26.1] fun l27 σ28 =>
  (S.slices_Concat_int_int (.sl l27 0 2 none) σ28).bind fun r29 =>
  (S.rup_Base_Implied p12 r29.1 r29.2).bind fun r30 =>
  cond (!r30.1) (
  some (.inr (.inr false), r30.2))
  (some (.inl (IntKind.i64.wrap (x16 + 1)), r30.2))))))
  (some (.inr (.inl ()), σ17))
noncomputable def S.rup_Base_Blocked (b_ : AVal) (c_ : AVal) (σ : Heap) : Option (Bool × Heap) :=
  (S.rup_Base_Implied b_ c_ σ).bind fun r1 =>
  cond r1.1 (
  some (true, r1.2))
  ((lenV c_ fun n2 =>
  cond (n2 == 0) (
  some (true, r1.2))
  ((S.rup_Base_right b_ c_ r1.2).bind fun r3 =>
  some ((!r3.1), r3.2))).bind fun r4 =>
  cond r4.1 (
  some (false, r4.2))
  (nilck b_ (
  fld b_ 3 fun a5 =>
  ld r4.2 a5 (.V) fun v6 =>
  ixA r4.2 c_ 1 0 fun a7 =>
  ld r4.2 a7 (.I .i64) fun n8 =>
  mgetZ r4.2 v6 .i64 (IntKind.i64.wrap (0 - n8)) .nils fun x9 b10 =>
  lenV x9 fun n11 =>
  (loopW (S.rup_Base_Blocked.b0 b_ c_ x9 n11) 0 r4.2).bind fun r31 =>
  (match r31.1 with
 | .inl y32 => some (true, r31.2)
 | .inr y33 => some (y33, r31.2)))))
noncomputable def W.rup_Base_Blocked : Spec := .eff [.B] fun args σ => packs args [.V, .V] fun x => S.rup_Base_Blocked x.1 x.2 σ


noncomputable def S.slices_Equal_int_int.b0 (p4 : AVal) (p5 : AVal) (p6 : Int) (σ0 : Heap) : Int → Option (Int ⊕ (Unit ⊕ Bool)) := fun x7 =>
  cond (decide (x7 < p6)) (
  ixA σ0 p4 1 x7 fun a9 =>
  ld σ0 a9 (.I .i64) fun n10 =>
  ixA σ0 p5 1 x7 fun a11 =>
  ld σ0 a11 (.I .i64) fun n12 =>
  cond (n10 != n12) (
  some (.inr (.inr false)))
  (some (.inl (IntKind.i64.wrap (x7 + 1)))))
  (some (.inr (.inl ())))
noncomputable def S.slices_Equal_int_int (s1_ : AVal) (s2_ : AVal) (σ : Heap) : Option Bool :=
  lenV s1_ fun n1 =>
  lenV s2_ fun n2 =>
  cond (n1 != n2) (
  some false)
  (lenV s1_ fun n3 =>
  (loopP (S.slices_Equal_int_int.b0 s1_ s2_ n3 σ) 0).bind fun r13 =>
  (match r13 with
 | .inl y14 => some true
 | .inr y15 => some y15))
noncomputable def W.slices_Equal_int_int : Spec := .pur [.B] fun args σ => packs args [.V, .V] fun x => S.slices_Equal_int_int x.1 x.2 σ


noncomputable def S.rup_Base_find.b0 (p13 : AVal) (p14 : AVal) (p15 : AVal) (p16 : Int) (σ0 : Heap) : Int → Option (Int ⊕ (Unit ⊕ Int)) := fun x17 =>
  cond (decide (x17 < p16)) (
  ixA σ0 p15 1 x17 fun a19 =>
  ld σ0 a19 (.I .i64) fun n20 =>
  (nilck p13 (
  fld p13 2 fun a21 =>
  ld σ0 a21 (.V) fun v22 =>
  ixA σ0 v22 1 n20 fun a23 =>
  ld σ0 a23 (.B) fun b24 =>
  cond b24 (
  nilck p13 (
  fld p13 1 fun a25 =>
  ld σ0 a25 (.V) fun v26 =>
  ixA σ0 v26 1 n20 fun a27 =>
  ld σ0 a27 (.V) fun v28 =>
  (S.slices_Equal_int_int v28 p14 σ0).bind fun r29 =>
  some r29))
  (some false))).bind fun r30 =>
  cond r30 (
  some (.inr (.inr n20)))
  (some (.inl (IntKind.i64.wrap (x17 + 1)))))
  (some (.inr (.inl ())))
noncomputable def S.rup_Base_find (b_ : AVal) (c_ : AVal) (σ : Heap) : Option (Int × Heap) :=
  (S.lits_Norm c_ σ).bind fun r1 =>
  nilck b_ (
  fld b_ 4 fun a2 =>
  ld r1.2 a2 (.V) fun v3 =>
  lenV r1.1.1 fun n4 =>
  (cond (decide (n4 > 0)) (
  nilck b_ (
  fld b_ 3 fun a5 =>
  ld r1.2 a5 (.V) fun v6 =>
  ixA r1.2 r1.1.1 1 0 fun a7 =>
  ld r1.2 a7 (.I .i64) fun n8 =>
  mgetZ r1.2 v6 .i64 n8 .nils fun x9 b10 =>
  some (x9, r1.2)))
  (some (v3, r1.2))).bind fun r11 =>
  lenV r11.1 fun n12 =>
  (loopP (S.rup_Base_find.b0 b_ r1.1.1 r11.1 n12 r11.2) 0).bind fun r31 =>
  (match r31 with
 | .inl y32 => some ((-1), r11.2)
 | .inr y33 => some (y33, r11.2)))
noncomputable def W.rup_Base_find : Spec := .eff [.I .i64] fun args σ => packs args [.V, .V] fun x => S.rup_Base_find x.1 x.2 σ


noncomputable def S.rup_gone (l_ : AVal) (id_ : Int) (σ : Heap) : Option (AVal × Heap) :=
  newK σ 1 [(.int .i64 id_)] fun l1 σ2 =>
  (S.slices_DeleteFunc_int_int l_ (.fn (.func 153) [] [(.ptr l1 0)]) σ2).bind fun r3 =>
  some (r3.1, r3.2)
noncomputable def W.rup_gone : Spec := .eff [.V] fun args σ => packs args [.V, .I .i64] fun x => S.rup_gone x.1 x.2 σ


noncomputable def S.rup_Base_Drop.b0 (p7 : AVal) (p8 : Int) (p9 : AVal) (p10 : Int) : Int → Heap → Option ((Int ⊕ Unit) × Heap) := fun x11 σ12 =>
  cond (decide (x11 < p10)) (
  ixA σ12 p9 1 x11 fun a13 =>
  ld σ12 a13 (.I .i64) fun n14 =>
  nilck p7 (
  fld p7 3 fun a15 =>
  ld σ12 a15 (.V) fun v16 =>
  nilck p7 (
  fld p7 3 fun a17 =>
  ld σ12 a17 (.V) fun v18 =>
  mgetZ σ12 v18 .i64 n14 .nils fun x19 b20 =>
  ld σ12 a15 (.V) fun v21 =>
  chk ((v21 : AVal) = v16) (
  (S.rup_gone x19 p8 σ12).bind fun r22 =>
  ld r22.2 a15 (.V) fun v23 =>
  chk ((v23 : AVal) = v16) (
  mputK r22.2 v16 .i64 n14 r22.1 fun σ24 =>
  some (.inl (IntKind.i64.wrap (x11 + 1)), σ24))))))
  (some (.inr (), σ12))
noncomputable def S.rup_Base_Drop (p0 : AVal) (p1 : AVal) (σ : Heap) : Option (Bool × Heap) :=
  (S.rup_Base_find p0 p1 σ).bind fun r1 =>
  cond (decide (r1.1 < 0)) (
  some (false, r1.2))
  (nilck p0 (
  fld p0 1 fun a2 =>
  ld r1.2 a2 (.V) fun v3 =>
  ixA r1.2 v3 1 r1.1 fun a4 =>
  ld r1.2 a4 (.V) fun v5 =>
  lenV v5 fun n6 =>
  (loopW (S.rup_Base_Drop.b0 p0 r1.1 v5 n6) 0 r1.2).bind fun r25 =>
  nilck p0 (
  fld p0 4 fun a26 =>
  ld r25.2 a26 (.V) fun v27 =>
  (S.rup_gone v27 r1.1 r25.2).bind fun r28 =>
  nilck p0 (
  fld p0 4 fun a29 =>
  scal r28.1 (
  stC r28.2 a29 [r28.1] fun σ30 =>
  nilck p0 (
  fld p0 1 fun a31 =>
  ld σ30 a31 (.V) fun v32 =>
  nilck p0 (
  fld p0 2 fun a33 =>
  ld σ30 a33 (.V) fun v34 =>
  ixA σ30 v32 1 r1.1 fun a35 =>
  stC σ30 a35 [.nils] fun σ36 =>
  ixA σ36 v34 1 r1.1 fun a37 =>
  stC σ36 a37 [(.bool false)] fun σ38 =>
  nilck p0 (
  fld p0 5 fun a39 =>
  ld σ38 a39 (.I .i64) fun n40 =>
  nilck p0 (
  fld p0 5 fun a41 =>
  stC σ38 a41 [(.int .i64 (IntKind.i64.wrap (n40 - 1)))] fun σ42 =>
  some (true, σ42))))))))))
noncomputable def W.rup_Base_Drop : Spec := .eff [.B] fun args σ => packs args [.V, .V] fun x => S.rup_Base_Drop x.1 x.2 σ


noncomputable def S.pace_New_1 (l_ : AVal) (σ : Heap) : Option (AVal × Heap) :=
  newK σ 2 [.nils, (.int .i64 0)] fun l1 σ2 =>
  (S.slices_Clone_int_int l_ σ2).bind fun r3 =>
  scal r3.1 (
  stC r3.2 (.ptr l1 0) [r3.1, (.int .i64 0)] fun σ4 =>
  ldG σ4 (.ptr l1 0) 2 fun g5 =>
  some (g5, σ4))
noncomputable def W.pace_New_1 : Spec := .eff [.V] fun args σ => packs args [.V] fun x => S.pace_New_1 x σ


noncomputable def S.drat_steps.T : FuncId → Option Spec := (tab 99 W.rup_Base_Add (tab 104 W.pace_New_1 (tab 80 W.rup_Base_Implied (tab 79 W.rup_Base_Blocked (tab 98 W.rup_Base_Drop noSpec)))))
noncomputable def S.drat_steps.b0 (p2 : AVal) (p3 : AVal) (p4 : AVal) (p5 : Int) : Int → Heap → Option ((Int ⊕ (Unit ⊕ AVal)) × Heap) := fun x6 σ7 =>
  cond (decide (x6 < p5)) (
  (ixA σ7 p4 2 x6 fun a8 =>
  ldG σ7 a8 2 fun g9 =>
  newK σ7 2 [(.bool false), .nils] fun l10 σ11 =>
  aggK g9 2 fun cs12 =>
  stC σ11 (.ptr l10 0) cs12 fun σ13 =>
  (ld σ13 (.ptr l10 0) (.B) fun b14 =>
  cond b14 (
  ld σ13 (.ptr l10 1) (.V) fun v15 =>
  (S.rup_Base_Drop p2 v15 σ13).bind fun r16 =>
  some (r16.1, r16.2))
  (some (false, σ13))).bind fun r17 =>
  cond r17.1 (
  some (.inl (), r17.2))
  ((ld r17.2 (.ptr l10 0) (.B) fun b18 =>
  cond b18 (
  some (true, r17.2))
  (ld r17.2 (.ptr l10 1) (.V) fun v19 =>
  callV S.drat_steps.T p3 [v19] r17.2 fun r20 σ21 =>
  asK (.B) r20 fun b22 =>
  cond (!b22) (
  some (true, σ21))
  (ld σ21 (.ptr l10 1) (.V) fun v23 =>
  (S.rup_Base_Add p2 v23 σ21).bind fun r24 =>
  some ((!r24.1), r24.2)))).bind fun r25 =>
  cond r25.1 (
  ld r25.2 (.ptr 1 0) (.V) fun v26 =>
  scal v26 (
  newK r25.2 2 [(.int .i64 x6), v26] fun l27 σ28 =>
  some (.inr (.ifc 135 (.ptr l27 0)), σ28)))
  (some (.inl (), r25.2))) : Option ((Unit ⊕ AVal) × Heap)).bind fun r29 =>
  (match r29.1 with
 | .inl y30 => some (.inl (IntKind.i64.wrap (x6 + 1)), r29.2)
 | .inr y31 => some (.inr (.inr y31), r29.2)))
  (some (.inr (.inl ()), σ7))
noncomputable def S.drat_steps (b_ : AVal) (l_ : AVal) (may_ : AVal) (σ : Heap) : Option (AVal × Heap) :=
  lenV l_ fun n1 =>
  (loopW (S.drat_steps.b0 b_ may_ l_ n1) 0 σ).bind fun r32 =>
  (match r32.1 with
 | .inl y33 => some (.nili, r32.2)
 | .inr y34 => some (y34, r32.2))
noncomputable def W.drat_steps : Spec := .eff [.V] fun args σ => packs args [.V, .V, .V] fun x => S.drat_steps x.1 x.2.1 x.2.2 σ


noncomputable def S.drat_Refute (c_ : AVal) (l_ : AVal) (σ : Heap) : Option (AVal × Heap) :=
  aggK c_ 2 fun cs1 =>
  newK σ 2 cs1 fun l2 σ3 =>
  ldG σ3 (.ptr l2 0) 2 fun g4 =>
  (S.drat_begin g4 l_ σ3).bind fun r5 =>
  eqI (tiOf Tryd.prog) r5.2 true r5.1.2.2 .nili fun b6 =>
  cond (!b6) (
  some (r5.1.2.2, r5.2))
  ((S.drat_steps r5.1.1 l_ (.fn (.func 79) [r5.1.1] []) r5.2).bind fun r7 =>
  eqI (tiOf Tryd.prog) r7.2 true r7.1 .nili fun b8 =>
  cond (!b8) (
  some (r7.1, r7.2))
  ((S.rup_Base_Implied r5.1.1 .nils r7.2).bind fun r9 =>
  cond (!r9.1) (
  ld r9.2 (.ptr 1 0) (.V) fun v10 =>
  some (v10, r9.2))
  (some (.nili, r9.2))))
noncomputable def W.drat_Refute : Spec := .eff [.V] fun args σ => packs args [.V, .V] fun x => S.drat_Refute x.1 x.2 σ


noncomputable def S.skolemlaw22_first (σ : Heap) : Option (Bool × Heap) :=
  newK σ 1 [(.int .i64 1)] fun l1 σ2 =>
  newK σ2 1 [(.int .i64 (-1))] fun l3 σ4 =>
  newK σ4 1 [(.sl l1 0 1 none), (.sl l3 0 1 none)] fun l5 σ6 =>
  newK σ6 2 [(.int .i64 0), .nils] fun l7 σ8 =>
  stC σ8 (.ptr l7 0) [(.int .i64 1), (.sl l5 0 2 none)] fun σ9 =>
  (ldG σ9 (.ptr l7 0) 2 fun g10 =>
  (S.drat_Refute g10 .nils σ9).bind fun r11 =>
  eqI (tiOf Tryd.prog) r11.2 true r11.1 .nili fun b12 =>
  cond b12 (
  (S.drat_Refute (.agg [(.int .i64 1), .nils]) .nils r11.2).bind fun r13 =>
  eqI (tiOf Tryd.prog) r13.2 true r13.1 .nili fun b14 =>
  some ((!b14), r13.2))
  (some (false, r11.2))).bind fun r15 =>
  some (r15.1, r15.2)
noncomputable def W.skolemlaw22_first : Spec := .eff [.B] fun args σ => packs args [] fun x => S.skolemlaw22_first σ


noncomputable def S.skolemlaw22_light.b0 (p2 : AVal) (σ0 : Heap) : Int → Option (Int ⊕ (Unit ⊕ Bool)) := fun x3 =>
  lenV p2 fun n5 =>
  cond (decide (x3 < n5)) (
  (ixA σ0 p2 2 x3 fun a6 =>
  fld a6 1 fun a7 =>
  ld σ0 a7 (.V) fun v8 =>
  lenV v8 fun n9 =>
  cond (decide (n9 > 12)) (
  some true)
  (ixA σ0 p2 2 x3 fun a10 =>
  fld a10 1 fun a11 =>
  ld σ0 a11 (.V) fun v12 =>
  (S.skolemmake_Near v12 σ0).bind fun r13 =>
  some (!r13))).bind fun r14 =>
  cond r14 (
  some (.inr (.inr false)))
  (some (.inl (IntKind.i64.wrap (x3 + 1)))))
  (some (.inr (.inl ())))
noncomputable def S.skolemlaw22_light (l_ : AVal) (σ : Heap) : Option Bool :=
  lenV l_ fun n1 =>
  cond (decide (n1 > 30)) (
  some false)
  ((loopP (S.skolemlaw22_light.b0 l_ σ) 0).bind fun r15 =>
  (match r15 with
 | .inl y16 => some true
 | .inr y17 => some y17))
noncomputable def W.skolemlaw22_light : Spec := .pur [.B] fun args σ => packs args [.V] fun x => S.skolemlaw22_light x σ


noncomputable def S.skolemref1_model.b0 (p5 : Int) (p6 : Int) : (AVal × Int) → Heap → Option (((AVal × Int) ⊕ AVal) × Heap) := fun x7 σ8 =>
  cond (decide (x7.2 < p6)) (
  if (IntKind.u64.wrap x7.2) < 0 then none else
  newK σ8 1 [(.bool ((IntKind.i64.wrap (BitVec.toNat (BitVec.ofInt IntKind.i64.bits (Int.fdiv p5 (2 ^ (min (Int.toNat (IntKind.u64.wrap x7.2)) IntKind.i64.bits))) &&& BitVec.ofInt IntKind.i64.bits 1))) == 1))] fun l9 σ10 =>
  appS σ10 1 1 x7.1 (.sl l9 0 1 none) fun v11 σ12 =>
  some (.inl (v11, (IntKind.i64.wrap (x7.2 + 1))), σ12))
  (some (.inr x7.1, σ8))
noncomputable def S.skolemref1_model (first_ : AVal) (n_ : Int) (many_ : Int) (σ : Heap) : Option (AVal × Heap) :=
  newK σ 1 [(.bool false)] fun l1 σ2 =>
  appS σ2 1 1 (.sl l1 0 1 none) first_ fun v3 σ4 =>
  (loopW (S.skolemref1_model.b0 n_ many_) (v3, 0) σ4).bind fun r13 =>
  some (r13.1, r13.2)
noncomputable def W.skolemref1_model : Spec := .eff [.V] fun args σ => packs args [.V, .I .i64, .I .i64] fun x => S.skolemref1_model x.1 x.2.1 x.2.2 σ


noncomputable def S.skolemref1_Of.b0 (p6 : AVal) (p7 : AVal) (p8 : Int) (σ0 : Heap) : (Bool × Int) → Option ((Bool × Int) ⊕ Bool) := fun x9 =>
  ixA σ0 p6 1 p8 fun a11 =>
  ld σ0 a11 (.V) fun v12 =>
  lenV v12 fun n13 =>
  cond (decide (x9.2 < n13)) (
  (ixA σ0 p6 1 p8 fun a14 =>
  ld σ0 a14 (.V) fun v15 =>
  ixA σ0 v15 1 x9.2 fun a16 =>
  ld σ0 a16 (.I .i64) fun n17 =>
  (cond (decide (n17 > 0)) (
  lenV p7 fun n18 =>
  cond (decide (n17 < n18)) (
  ixA σ0 p7 1 n17 fun a19 =>
  ld σ0 a19 (.B) fun b20 =>
  cond b20 (
  some true)
  (cond (decide (n17 < 0)) (
  cond (decide ((IntKind.i64.wrap (0 - n17)) > 0)) (
  lenV p7 fun n21 =>
  cond (decide ((IntKind.i64.wrap (0 - n17)) < n21)) (
  ixA σ0 p7 1 (IntKind.i64.wrap (0 - n17)) fun a22 =>
  ld σ0 a22 (.B) fun b23 =>
  some (!b23))
  (some false))
  (some false))
  (some false)))
  (cond (decide (n17 < 0)) (
  cond (decide ((IntKind.i64.wrap (0 - n17)) > 0)) (
  lenV p7 fun n24 =>
  cond (decide ((IntKind.i64.wrap (0 - n17)) < n24)) (
  ixA σ0 p7 1 (IntKind.i64.wrap (0 - n17)) fun a25 =>
  ld σ0 a25 (.B) fun b26 =>
  some (!b26))
  (some false))
  (some false))
  (some false)))
  (cond (decide (n17 < 0)) (
  cond (decide ((IntKind.i64.wrap (0 - n17)) > 0)) (
  lenV p7 fun n27 =>
  cond (decide ((IntKind.i64.wrap (0 - n17)) < n27)) (
  ixA σ0 p7 1 (IntKind.i64.wrap (0 - n17)) fun a28 =>
  ld σ0 a28 (.B) fun b29 =>
  some (!b29))
  (some false))
  (some false))
  (some false))).bind fun r30 =>
  cond r30 (
  some true)
  (some x9.1)).bind fun r31 =>
  some (.inl (r31, (IntKind.i64.wrap (x9.2 + 1)))))
  (some (.inr x9.1))
noncomputable def S.skolemref1_Of.b1 (p1 : AVal) (p2 : AVal) (σ0 : Heap) : Int → Option (Int ⊕ (Unit ⊕ Bool)) := fun x3 =>
  lenV p1 fun n5 =>
  cond (decide (x3 < n5)) (
  (loopP (S.skolemref1_Of.b0 p1 p2 x3 σ0) (false, 0)).bind fun r32 =>
  cond (!r32) (
  some (.inr (.inr false)))
  (some (.inl (IntKind.i64.wrap (x3 + 1)))))
  (some (.inr (.inl ())))
noncomputable def S.skolemref1_Of (p0 : AVal) (p1 : AVal) (σ : Heap) : Option Bool :=
  (loopP (S.skolemref1_Of.b1 p0 p1 σ) 0).bind fun r33 =>
  (match r33 with
 | .inl y34 => some true
 | .inr y35 => some y35)
noncomputable def W.skolemref1_Of : Spec := .pur [.B] fun args σ => packs args [.V, .V] fun x => S.skolemref1_Of x.1 x.2 σ


noncomputable def S.skolemref1_Sat.b0 (p4 : AVal) : Int → Heap → Option ((Int ⊕ (Unit ⊕ (AVal × Bool))) × Heap) := fun x5 σ6 =>
  fld p4 0 fun a7 =>
  ld σ6 a7 (.I .i64) fun n8 =>
  if (IntKind.u64.wrap n8) < 0 then none else
  cond (decide (x5 < (IntKind.i64.wrap (1 * 2 ^ (min (Int.toNat (IntKind.u64.wrap n8)) IntKind.i64.bits))))) (
  fld p4 0 fun a9 =>
  ld σ6 a9 (.I .i64) fun n10 =>
  (S.skolemref1_model .nils x5 n10 σ6).bind fun r11 =>
  fld p4 1 fun a12 =>
  ld r11.2 a12 (.V) fun v13 =>
  (S.skolemref1_Of v13 r11.1 r11.2).bind fun r14 =>
  cond r14 (
  some (.inr (.inr (r11.1, true)), r11.2))
  (some (.inl (IntKind.i64.wrap (x5 + 1)), r11.2)))
  (some (.inr (.inl ()), σ6))
noncomputable def S.skolemref1_Sat (c_ : AVal) (σ : Heap) : Option ((AVal × Bool) × Heap) :=
  aggK c_ 2 fun cs1 =>
  newK σ 2 cs1 fun l2 σ3 =>
  (loopW (S.skolemref1_Sat.b0 (.ptr l2 0)) 0 σ3).bind fun r15 =>
  (match r15.1 with
 | .inl y16 => some ((.nils, false), r15.2)
 | .inr y17 => some ((y17.1, y17.2), r15.2))
noncomputable def W.skolemref1_Sat : Spec := .eff [.V, .B] fun args σ => packs args [.V] fun x => S.skolemref1_Sat x σ


noncomputable def S.skolemlaw22_steps.b0 (p2 : AVal) (p3 : AVal) : (AVal × Int) → Heap → Option (((AVal × Int) ⊕ AVal) × Heap) := fun x4 σ5 =>
  lenV p3 fun n6 =>
  cond (decide (x4.2 < n6)) (
  lenV p2 fun n7 =>
  if n7 = 0 then none else
  ixA σ5 p2 1 (Int.tmod x4.2 n7) fun a8 =>
  ld σ5 a8 (.I .i64) fun n9 =>
  (S.skolemworld_Number n9 5 σ5).bind fun r10 =>
  ixA σ5 p3 1 x4.2 fun a11 =>
  ld σ5 a11 (.V) fun v12 =>
  scal v12 (
  newK σ5 2 [(.bool (r10 == 0)), v12] fun l13 σ14 =>
  appS σ14 2 32 x4.1 (.sl l13 0 1 none) fun v15 σ16 =>
  some (.inl (v15, (IntKind.i64.wrap (x4.2 + 1))), σ16)))
  (some (.inr x4.1, σ5))
noncomputable def S.skolemlaw22_steps (l_ : AVal) (σ : Heap) : Option (AVal × Heap) :=
  (S.skolemmake_Clauses l_ 9 σ).bind fun r1 =>
  (loopW (S.skolemlaw22_steps.b0 l_ r1.1) (.nils, 0) r1.2).bind fun r17 =>
  some (r17.1, r17.2)
noncomputable def W.skolemlaw22_steps : Spec := .eff [.V] fun args σ => packs args [.V] fun x => S.skolemlaw22_steps x σ


noncomputable def S.skolemmake_Values.b0 (p1 : Int) (p2 : Int) : (AVal × Int) → Heap → Option (((AVal × Int) ⊕ AVal) × Heap) := fun x3 σ4 =>
  cond (decide (x3.2 < p2)) (
  if (IntKind.u64.wrap (Int.tmod x3.2 60)) < 0 then none else
  newK σ4 1 [(.bool ((IntKind.i64.wrap (BitVec.toNat (BitVec.ofInt IntKind.i64.bits (Int.fdiv p1 (2 ^ (min (Int.toNat (IntKind.u64.wrap (Int.tmod x3.2 60))) IntKind.i64.bits))) &&& BitVec.ofInt IntKind.i64.bits 1))) == 1))] fun l5 σ6 =>
  appS σ6 1 1 x3.1 (.sl l5 0 1 none) fun v7 σ8 =>
  some (.inl (v7, (IntKind.i64.wrap (x3.2 + 1))), σ8))
  (some (.inr x3.1, σ4))
noncomputable def S.skolemmake_Values (n_ : Int) (many_ : Int) (σ : Heap) : Option (AVal × Heap) :=
  (loopW (S.skolemmake_Values.b0 n_ many_) (.nils, 0) σ).bind fun r9 =>
  some (r9.1, r9.2)
noncomputable def W.skolemmake_Values : Spec := .eff [.V] fun args σ => packs args [.I .i64, .I .i64] fun x => S.skolemmake_Values x.1 x.2 σ


noncomputable def S.drat_Derive.b0 (p10 : AVal) (p11 : AVal) (p12 : Int) (p13 : Int) (σ0 : Heap) : Int → Option (Int ⊕ (Unit ⊕ AVal)) := fun x14 =>
  cond (decide (x14 < p13)) (
  ixA σ0 p10 1 x14 fun a16 =>
  ld σ0 a16 (.I .i64) fun n17 =>
  (S.lits_Is n17 p12 σ0).bind fun r18 =>
  cond (!r18) (
  ld σ0 (.ptr 2 0) (.V) fun v19 =>
  some (.inr (.inr v19)))
  (some (.inl (IntKind.i64.wrap (x14 + 1)))))
  (some (.inr (.inl ())))
noncomputable def S.drat_Derive (c_ : AVal) (l_ : AVal) (goal_ : AVal) (σ : Heap) : Option (AVal × Heap) :=
  aggK c_ 2 fun cs1 =>
  newK σ 2 cs1 fun l2 σ3 =>
  ldG σ3 (.ptr l2 0) 2 fun g4 =>
  (S.drat_begin g4 l_ σ3).bind fun r5 =>
  eqI (tiOf Tryd.prog) r5.2 true r5.1.2.2 .nili fun b6 =>
  cond (!b6) (
  some (r5.1.2.2, r5.2))
  ((S.drat_steps r5.1.1 l_ (.fn (.func 80) [r5.1.1] []) r5.2).bind fun r7 =>
  eqI (tiOf Tryd.prog) r7.2 true r7.1 .nili fun b8 =>
  cond (!b8) (
  some (r7.1, r7.2))
  (lenV goal_ fun n9 =>
  (loopP (S.drat_Derive.b0 goal_ r5.1.1 r5.1.2.1 n9 r7.2) 0).bind fun r20 =>
  (match r20 with
 | .inl y21 => (S.rup_Base_Implied r5.1.1 goal_ r7.2).bind fun r23 =>
  cond (!r23.1) (
  ld r23.2 (.ptr 1 0) (.V) fun v24 =>
  some (v24, r23.2))
  (some (.nili, r23.2))
 | .inr y22 => some (y22, r7.2))))
noncomputable def W.drat_Derive : Spec := .eff [.V] fun args σ => packs args [.V, .V, .V] fun x => S.drat_Derive x.1 x.2.1 x.2.2 σ


noncomputable def S.skolemlaw22_DratSound.b0 (p22 : AVal) (p23 : Int) (p24 : Bool) (p25 : AVal) (p26 : AVal) : (AVal × Int) → Heap → Option (((AVal × Int) ⊕ AVal) × Heap) := fun x27 σ28 =>
  lenV p22 fun n29 =>
  cond (decide (x27.2 < n29)) (
  ixA σ28 p22 1 x27.2 fun a30 =>
  ld σ28 a30 (.I .i64) fun n31 =>
  (S.skolemmake_Lit n31 8 σ28).bind fun r32 =>
  newK σ28 1 [(.int .i64 r32)] fun l33 σ34 =>
  appS σ34 1 8 x27.1 (.sl l33 0 1 none) fun v35 σ36 =>
  some (.inl (v35, (IntKind.i64.wrap (x27.2 + 1))), σ36))
  (some (.inr x27.1, σ28))
noncomputable def S.skolemlaw22_DratSound (p0 : AVal) (p1 : AVal) (p2 : AVal) (p3 : AVal) (p4 : Int) (σ : Heap) : Option (Bool × Heap) :=
  (S.skolemlaw22_first σ).bind fun r1 =>
  cond (!r1.1) (
  some (false, r1.2))
  ((lenV p0 fun n2 =>
  cond (decide (n2 > 100)) (
  some true)
  (lenV p1 fun n3 =>
  cond (decide (n3 > 60)) (
  some true)
  ((S.skolemlaw22_light p2 r1.2).bind fun r4 =>
  cond (!r4) (
  some true)
  (lenV p3 fun n5 =>
  some (decide (n5 > 6)))))).bind fun r6 =>
  cond r6 (
  some (r1.1, r1.2))
  ((S.skolemmake_CNF p0 8 r1.2).bind fun r7 =>
  newK r7.2 2 [(.int .i64 0), .nils] fun l8 σ9 =>
  aggK r7.1 2 fun cs10 =>
  stC σ9 (.ptr l8 0) cs10 fun σ11 =>
  ldG σ11 (.ptr l8 0) 2 fun g12 =>
  (S.skolemref1_Sat g12 σ11).bind fun r13 =>
  (S.skolemlaw22_steps p1 r13.2).bind fun r14 =>
  (cond r13.1.2 (
  ldG r14.2 (.ptr l8 0) 2 fun g15 =>
  (S.drat_Refute g15 r14.1 r14.2).bind fun r16 =>
  eqI (tiOf Tryd.prog) r16.2 true r16.1 .nili fun b17 =>
  cond b17 (
  some (true, r16.2))
  (ldG r16.2 (.ptr l8 0) 2 fun g18 =>
  (S.drat_Refute g18 p2 r16.2).bind fun r19 =>
  eqI (tiOf Tryd.prog) r19.2 true r19.1 .nili fun b20 =>
  some (b20, r19.2)))
  (some (false, r14.2))).bind fun r21 =>
  cond r21.1 (
  some (false, r21.2))
  ((loopW (S.skolemlaw22_DratSound.b0 p3 p4 r1.1 (.ptr l8 0) r14.1) (.nils, 0) r21.2).bind fun r37 =>
  newK r37.2 1 [(.bool false)] fun l38 σ39 =>
  (S.skolemmake_Values p4 8 σ39).bind fun r40 =>
  appS r40.2 1 1 (.sl l38 0 1 none) r40.1 fun v41 σ42 =>
  (cond r1.1 (
  ldG σ42 (.ptr l8 0) 2 fun g43 =>
  (S.drat_Derive g43 r14.1 r37.1 σ42).bind fun r44 =>
  eqI (tiOf Tryd.prog) r44.2 true r44.1 .nili fun b45 =>
  cond (!b45) (
  some (true, r44.2))
  (ld r44.2 (.ptr l8 1) (.V) fun v46 =>
  (S.skolemref1_Of v46 v41 r44.2).bind fun r47 =>
  cond (!r47) (
  some (true, r44.2))
  (scal r37.1 (
  newK r44.2 1 [r37.1] fun l48 σ49 =>
  (S.skolemref1_Of (.sl l48 0 1 none) v41 σ49).bind fun r50 =>
  some (r50, σ49)))))
  (some (false, σ42))).bind fun r51 =>
  some (r51.1, r51.2))))
noncomputable def W.skolemlaw22_DratSound : Spec := .eff [.B] fun args σ => packs args [.V, .V, .V, .V, .I .i64] fun x => S.skolemlaw22_DratSound x.1 x.2.1 x.2.2.1 x.2.2.2.1 x.2.2.2.2 σ


noncomputable def S.skolemref_Steps.b0 (p4 : AVal) : (AVal × Int) → Heap → Option (((AVal × Int) ⊕ AVal) × Heap) := fun x5 σ6 =>
  lenV p4 fun n7 =>
  cond (decide (x5.2 < n7)) (
  ixA σ6 p4 2 x5.2 fun a8 =>
  ldG σ6 a8 2 fun g9 =>
  aggK g9 2 fun cs10 =>
  putC [(.bool false), .nils] 0 2 cs10 fun cs11 =>
  newK σ6 2 cs11 fun l12 σ13 =>
  appS σ13 2 32 x5.1 (.sl l12 0 1 none) fun v14 σ15 =>
  some (.inl (v14, (IntKind.i64.wrap (x5.2 + 1))), σ15))
  (some (.inr x5.1, σ6))
noncomputable def S.skolemref_Steps (l_ : AVal) (σ : Heap) : Option (AVal × Heap) :=
  lenV l_ fun n1 =>
  mkS σ 2 32 [(.bool false), .nils] 0 n1 fun v2 σ3 =>
  (loopW (S.skolemref_Steps.b0 l_) (v2, 0) σ3).bind fun r16 =>
  some (r16.1, r16.2)
noncomputable def W.skolemref_Steps : Spec := .eff [.V] fun args σ => packs args [.V] fun x => S.skolemref_Steps x σ


noncomputable def S.skolemlaw22_DratPlaces.b0 (p7 : Int) (p8 : Int) (p9 : Bool) (p10 : Bool) (p11 : AVal) : Int → Heap → Option ((Int ⊕ Unit) × Heap) := fun x12 σ13 =>
  cond (decide (x12 < p7)) (
  fld p11 1 fun a14 =>
  ld σ13 a14 (.V) fun v15 =>
  newK σ13 1 [(.int .i64 (IntKind.i64.wrap (0 - x12))), (.int .i64 (IntKind.i64.wrap (x12 + 1)))] fun l16 σ17 =>
  newK σ17 1 [(.sl l16 0 2 none)] fun l18 σ19 =>
  appS σ19 1 24 v15 (.sl l18 0 1 none) fun v20 σ21 =>
  fld p11 1 fun a22 =>
  scal v20 (
  stC σ21 a22 [v20] fun σ23 =>
  some (.inl (IntKind.i64.wrap (x12 + 1)), σ23)))
  (some (.inr (), σ13))
noncomputable def S.skolemlaw22_DratPlaces.b1 (p25 : Int) (p26 : Int) (p27 : Bool) (p28 : Bool) (p29 : AVal) : (AVal × Int) → Heap → Option (((AVal × Int) ⊕ AVal) × Heap) := fun x30 σ31 =>
  cond (decide (x30.2 ≤ p25)) (
  newK σ31 1 [(.int .i64 (-1)), (.int .i64 x30.2)] fun l32 σ33 =>
  newK σ33 2 [(.bool false), (.sl l32 0 2 none)] fun l34 σ35 =>
  appS σ35 2 32 x30.1 (.sl l34 0 1 none) fun v36 σ37 =>
  some (.inl (v36, (IntKind.i64.wrap (x30.2 + 1))), σ37))
  (some (.inr x30.1, σ31))
noncomputable def S.skolemlaw22_DratPlaces (p0 : Int) (p1 : Int) (p2 : Bool) (σ : Heap) : Option (Bool × Heap) :=
  (S.skolemlaw22_first σ).bind fun r1 =>
  cond (!r1.1) (
  some (false, r1.2))
  ((S.skolemworld_Number p0 12 r1.2).bind fun r2 =>
  (S.skolemworld_Number p1 (IntKind.i64.wrap (r2 + 2)) r1.2).bind fun r3 =>
  newK r1.2 2 [(.int .i64 0), .nils] fun l4 σ5 =>
  stC σ5 (.ptr l4 0) [(.int .i64 (IntKind.i64.wrap ((IntKind.i64.wrap (r2 + 2)) + 3))), .nils] fun σ6 =>
  (loopW (S.skolemlaw22_DratPlaces.b0 (IntKind.i64.wrap (r2 + 2)) r3 p2 r1.1 (.ptr l4 0)) 1 σ6).bind fun r24 =>
  (loopW (S.skolemlaw22_DratPlaces.b1 (IntKind.i64.wrap (r2 + 2)) r3 p2 r1.1 (.ptr l4 0)) (.nils, 2) r24.2).bind fun r38 =>
  newK r38.2 1 [(.int .i64 (IntKind.i64.wrap ((IntKind.i64.wrap (r2 + 2)) + 1)))] fun l39 σ40 =>
  newK σ40 2 [(.bool false), .nils] fun l41 σ42 =>
  stC σ42 (.ptr l41 0) [(.bool p2), (.sl l39 0 1 none)] fun σ43 =>
  (cond (!p2) (
  ld σ43 (.ptr l4 1) (.V) fun v44 =>
  newK σ43 1 [(.int .i64 (IntKind.i64.wrap ((IntKind.i64.wrap (0 - (IntKind.i64.wrap (r2 + 2)))) - 1))), (.int .i64 (IntKind.i64.wrap ((IntKind.i64.wrap (r2 + 2)) + 2)))] fun l45 σ46 =>
  newK σ46 1 [(.int .i64 (IntKind.i64.wrap ((IntKind.i64.wrap (0 - (IntKind.i64.wrap (r2 + 2)))) - 1))), (.int .i64 (IntKind.i64.wrap ((IntKind.i64.wrap (0 - (IntKind.i64.wrap (r2 + 2)))) - 2)))] fun l47 σ48 =>
  newK σ48 1 [(.sl l45 0 2 none), (.sl l47 0 2 none)] fun l49 σ50 =>
  appS σ50 1 24 v44 (.sl l49 0 2 none) fun v51 σ52 =>
  scal v51 (
  stC σ52 (.ptr l4 1) [v51] fun σ53 =>
  some ((), σ53)))
  (some ((), σ43))).bind fun r54 =>
  lenV r38.1 fun n55 =>
  slS r54.2 2 r38.1 0 (some (if n55 < r3 then n55 else r3)) none fun v56 =>
  (S.skolemref_Steps v56 r54.2).bind fun r57 =>
  ldG r57.2 (.ptr l41 0) 2 fun g58 =>
  ldG r54.2 (.ptr l41 0) 2 fun g59 =>
  chk ((g59 : AVal) = g58) (
  aggK g58 2 fun cs60 =>
  putC [(.bool false), .nils] 0 2 cs60 fun cs61 =>
  newK r57.2 2 cs61 fun l62 σ63 =>
  appS σ63 2 32 r57.1 (.sl l62 0 1 none) fun v64 σ65 =>
  newK σ65 1 [(.int .i64 (IntKind.i64.wrap ((IntKind.i64.wrap (r2 + 2)) + 3)))] fun l66 σ67 =>
  newK σ67 2 [(.bool true), (.sl l66 0 1 none)] fun l68 σ69 =>
  appS σ69 2 32 v64 (.sl l68 0 1 none) fun v70 σ71 =>
  slS σ71 2 r38.1 (if n55 < r3 then n55 else r3) none none fun v72 =>
  appS σ71 2 32 v70 v72 fun v73 σ74 =>
  ldG σ74 (.ptr l4 0) 2 fun g75 =>
  (S.drat_Refute g75 v73 σ74).bind fun r76 =>
  ldG r76.2 (.ptr l4 0) 2 fun g77 =>
  (S.drat_Refute g77 r38.1 r76.2).bind fun r78 =>
  (cond r1.1 (
  (S.skolemref_Placed 106 (if n55 < r3 then n55 else r3) r78.2).bind fun r79 =>
  (S.skolemsee_Same r76.1 r79.1 r79.2).bind fun r80 =>
  cond r80.1 (
  (S.skolemref_Bare 106 r80.2).bind fun r81 =>
  (S.skolemsee_Same r78.1 r81.1 r81.2).bind fun r82 =>
  cond r82.1 (
  ldG r82.2 (.ptr l4 0) 2 fun g83 =>
  newK r82.2 1 [(.int .i64 (-1)), (.int .i64 (IntKind.i64.wrap (r2 + 2)))] fun l84 σ85 =>
  (S.drat_Derive g83 r38.1 (.sl l84 0 2 none) σ85).bind fun r86 =>
  eqI (tiOf Tryd.prog) r86.2 true r86.1 .nili fun b87 =>
  cond b87 (
  ldG r86.2 (.ptr l4 0) 2 fun g88 =>
  newK r86.2 1 [(.int .i64 (-1)), (.int .i64 (IntKind.i64.wrap (r2 + 2)))] fun l89 σ90 =>
  (S.drat_Derive g88 v73 (.sl l89 0 2 none) σ90).bind fun r91 =>
  (S.skolemref_Placed 106 (if n55 < r3 then n55 else r3) r91.2).bind fun r92 =>
  (S.skolemsee_Same r91.1 r92.1 r92.2).bind fun r93 =>
  some (r93.1, r93.2))
  (some (false, r86.2)))
  (some (false, r82.2)))
  (some (false, r80.2)))
  (some (false, r78.2))).bind fun r94 =>
  some (r94.1, r94.2)))
noncomputable def W.skolemlaw22_DratPlaces : Spec := .eff [.B] fun args σ => packs args [.I .i64, .I .i64, .B] fun x => S.skolemlaw22_DratPlaces x.1 x.2.1 x.2.2 σ


noncomputable def S.skolemsee_Is (e_ : AVal) (code_ : Int) (σ : Heap) : Option (Bool × Heap) :=
  (S.skolemref_Bare code_ σ).bind fun r1 =>
  (S.skolemsee_Same e_ r1.1 r1.2).bind fun r2 =>
  some (r2.1, r2.2)
noncomputable def W.skolemsee_Is : Spec := .eff [.B] fun args σ => packs args [.V, .I .i64] fun x => S.skolemsee_Is x.1 x.2 σ


noncomputable def S.skolemlaw22_DratGoals.b0 (p9 : Int) (p10 : Int) (p11 : Bool) (p12 : AVal) : Int → Heap → Option ((Int ⊕ (Unit ⊕ Bool)) × Heap) := fun x13 σ14 =>
  fld p12 1 fun a15 =>
  ld σ14 a15 (.V) fun v16 =>
  lenV v16 fun n17 =>
  cond (decide (x13 < n17)) (
  ldG σ14 p12 2 fun g18 =>
  fld p12 1 fun a19 =>
  ld σ14 a19 (.V) fun v20 =>
  ixA σ14 v20 1 x13 fun a21 =>
  ld σ14 a21 (.V) fun v22 =>
  (S.skolemref_Ints v22 σ14).bind fun r23 =>
  ldG r23.2 p12 2 fun g24 =>
  chk ((g24 : AVal) = g18) (
  newK r23.2 1 [(.int .i64 p10)] fun l25 σ26 =>
  appS σ26 1 8 r23.1 (.sl l25 0 1 none) fun v27 σ28 =>
  ldG σ28 p12 2 fun g29 =>
  chk ((g29 : AVal) = g18) (
  (S.drat_Derive g18 .nils v27 σ28).bind fun r30 =>
  eqI (tiOf Tryd.prog) r30.2 true r30.1 .nili fun b31 =>
  cond (!b31) (
  some (.inr (.inr false), r30.2))
  (some (.inl (IntKind.i64.wrap (x13 + 1)), r30.2)))))
  (some (.inr (.inl ()), σ14))
noncomputable def S.skolemlaw22_DratGoals (p0 : AVal) (p1 : Int) (p2 : Int) (σ : Heap) : Option (Bool × Heap) :=
  (S.skolemlaw22_first σ).bind fun r1 =>
  cond (!r1.1) (
  some (false, r1.2))
  (lenV p0 fun n2 =>
  cond (decide (n2 > 60)) (
  some (r1.1, r1.2))
  ((S.skolemmake_CNF p0 8 r1.2).bind fun r3 =>
  newK r3.2 2 [(.int .i64 0), .nils] fun l4 σ5 =>
  aggK r3.1 2 fun cs6 =>
  stC σ5 (.ptr l4 0) cs6 fun σ7 =>
  (S.skolemmake_Lit p2 8 σ7).bind fun r8 =>
  (loopW (S.skolemlaw22_DratGoals.b0 p1 r8 r1.1 (.ptr l4 0)) 0 σ7).bind fun r32 =>
  (match r32.1 with
 | .inl y33 => ldG r32.2 (.ptr l4 0) 2 fun g35 =>
  (S.skolemref1_Sat g35 r32.2).bind fun r36 =>
  ldG r36.2 (.ptr l4 0) 2 fun g37 =>
  newK r36.2 1 [(.int .i64 r8)] fun l38 σ39 =>
  (S.drat_Derive g37 .nils (.sl l38 0 1 none) σ39).bind fun r40 =>
  ldG r40.2 (.ptr l4 0) 2 fun g41 =>
  newK r40.2 1 [(.int .i64 9)] fun l42 σ43 =>
  (S.drat_Derive g41 .nils (.sl l42 0 1 none) σ43).bind fun r44 =>
  (cond r1.1 (
  (S.skolemsee_Is r44.1 104 r44.2).bind fun r45 =>
  cond r45.1 (
  cond (!r36.1.2) (
  (S.skolemworld_Number p1 1 r45.2).bind fun r46 =>
  some ((r46 == 0), r45.2))
  (newK r45.2 1 [(.int .i64 r8)] fun l47 σ48 =>
  newK σ48 1 [(.sl l47 0 1 none)] fun l49 σ50 =>
  (S.skolemref1_Of (.sl l49 0 1 none) r36.1.1 σ50).bind fun r51 =>
  cond r51 (
  (S.skolemworld_Number p1 1 σ50).bind fun r52 =>
  some ((r52 == 0), σ50))
  (eqI (tiOf Tryd.prog) σ50 true r40.1 .nili fun b53 =>
  cond (!b53) (
  (S.skolemworld_Number p1 1 σ50).bind fun r54 =>
  some ((r54 == 0), σ50))
  (some (false, σ50)))))
  (some (false, r45.2)))
  (some (false, r44.2))).bind fun r55 =>
  some (r55.1, r55.2)
 | .inr y34 => some (y34, r32.2))))
noncomputable def W.skolemlaw22_DratGoals : Spec := .eff [.B] fun args σ => packs args [.V, .I .i64, .I .i64] fun x => S.skolemlaw22_DratGoals x.1 x.2.1 x.2.2 σ


noncomputable def S.drat_Used.b0 (p11 : AVal) (p12 : AVal) (p13 : Int) : Int → Heap → Option ((Int ⊕ (Unit ⊕ (Int × AVal))) × Heap) := fun x14 σ15 =>
  cond (decide (x14 < p13)) (
  (S.rup_Base_Implied p12 .nils σ15).bind fun r16 =>
  cond r16.1 (
  some (.inr (.inr (x14, .nili)), r16.2))
  (slS r16.2 2 p11 x14 (some (IntKind.i64.wrap (x14 + 1))) none fun v17 =>
  (S.drat_steps p12 v17 (.fn (.func 79) [p12] []) r16.2).bind fun r18 =>
  eqI (tiOf Tryd.prog) r18.2 true r18.1 .nili fun b19 =>
  cond (!b19) (
  some (.inr (.inr (0, r18.1)), r18.2))
  (some (.inl (IntKind.i64.wrap (x14 + 1)), r18.2))))
  (some (.inr (.inl ()), σ15))
noncomputable def S.drat_Used (c_ : AVal) (l_ : AVal) (σ : Heap) : Option ((Int × AVal) × Heap) :=
  aggK c_ 2 fun cs1 =>
  newK σ 2 cs1 fun l2 σ3 =>
  ldG σ3 (.ptr l2 0) 2 fun g4 =>
  (S.drat_Refute g4 l_ σ3).bind fun r5 =>
  eqI (tiOf Tryd.prog) r5.2 true r5.1 .nili fun b6 =>
  cond (!b6) (
  some ((0, r5.1), r5.2))
  (ldG r5.2 (.ptr l2 0) 2 fun g7 =>
  (S.drat_begin g7 l_ r5.2).bind fun r8 =>
  eqI (tiOf Tryd.prog) r8.2 true r8.1.2.2 .nili fun b9 =>
  cond (!b9) (
  some ((0, r8.1.2.2), r8.2))
  (lenV l_ fun n10 =>
  (loopW (S.drat_Used.b0 l_ r8.1.1 n10) 0 r8.2).bind fun r20 =>
  (match r20.1 with
 | .inl y21 => lenV l_ fun n23 =>
  some ((n23, .nili), r20.2)
 | .inr y22 => some ((y22.1, y22.2), r20.2))))
noncomputable def W.drat_Used : Spec := .eff [.I .i64, .V] fun args σ => packs args [.V, .V] fun x => S.drat_Used x.1 x.2 σ


noncomputable def S.skolemlaw22_DratDrops.b0 (p13 : Int) (p14 : Int) (p15 : Bool) (p16 : AVal) : Int → Heap → Option ((Int ⊕ Unit) × Heap) := fun x17 σ18 =>
  cond (decide (x17 < p13)) (
  fld p16 1 fun a19 =>
  ld σ18 a19 (.V) fun v20 =>
  newK σ18 1 [(.int .i64 (IntKind.i64.wrap (0 - x17))), (.int .i64 (IntKind.i64.wrap (x17 + 1)))] fun l21 σ22 =>
  newK σ22 1 [(.sl l21 0 2 none)] fun l23 σ24 =>
  appS σ24 1 24 v20 (.sl l23 0 1 none) fun v25 σ26 =>
  fld p16 1 fun a27 =>
  scal v25 (
  stC σ26 a27 [v25] fun σ28 =>
  some (.inl (IntKind.i64.wrap (x17 + 1)), σ28)))
  (some (.inr (), σ18))
noncomputable def S.skolemlaw22_DratDrops (p0 : Int) (p1 : Int) (σ : Heap) : Option (Bool × Heap) :=
  (S.skolemlaw22_first σ).bind fun r1 =>
  cond (!r1.1) (
  some (false, r1.2))
  ((S.skolemworld_Number p0 12 r1.2).bind fun r2 =>
  (S.skolemworld_Number p1 (IntKind.i64.wrap ((IntKind.i64.wrap (r2 + 2)) - 1)) r1.2).bind fun r3 =>
  newK r1.2 1 [(.int .i64 1)] fun l4 σ5 =>
  newK σ5 1 [(.int .i64 (IntKind.i64.wrap (0 - (IntKind.i64.wrap (r2 + 2)))))] fun l6 σ7 =>
  newK σ7 1 [(.sl l4 0 1 none), (.sl l6 0 1 none)] fun l8 σ9 =>
  newK σ9 2 [(.int .i64 0), .nils] fun l10 σ11 =>
  stC σ11 (.ptr l10 0) [(.int .i64 (IntKind.i64.wrap ((IntKind.i64.wrap (r2 + 2)) + 1))), (.sl l8 0 2 none)] fun σ12 =>
  (loopW (S.skolemlaw22_DratDrops.b0 (IntKind.i64.wrap (r2 + 2)) (IntKind.i64.wrap (r3 + 1)) r1.1 (.ptr l10 0)) 1 σ12).bind fun r29 =>
  ld r29.2 (.ptr l10 1) (.V) fun v30 =>
  newK r29.2 1 [(.int .i64 (IntKind.i64.wrap ((IntKind.i64.wrap (r2 + 2)) + 1))), (.int .i64 1)] fun l31 σ32 =>
  newK σ32 1 [(.sl l31 0 2 none)] fun l33 σ34 =>
  appS σ34 1 24 v30 (.sl l33 0 1 none) fun v35 σ36 =>
  scal v35 (
  stC σ36 (.ptr l10 1) [v35] fun σ37 =>
  ldG σ37 (.ptr l10 0) 2 fun g38 =>
  newK σ37 1 [(.int .i64 1), (.int .i64 (IntKind.i64.wrap ((IntKind.i64.wrap (r2 + 2)) + 1)))] fun l39 σ40 =>
  newK σ40 2 [(.bool true), (.sl l39 0 2 none)] fun l41 σ42 =>
  (S.drat_Refute g38 (.sl l41 0 1 none) σ42).bind fun r43 =>
  ldG r43.2 (.ptr l10 0) 2 fun g44 =>
  newK r43.2 1 [(.int .i64 (IntKind.i64.wrap ((IntKind.i64.wrap (r3 + 1)) + 1))), (.int .i64 (IntKind.i64.wrap (0 - (IntKind.i64.wrap (r3 + 1)))))] fun l45 σ46 =>
  newK σ46 2 [(.bool true), (.sl l45 0 2 none)] fun l47 σ48 =>
  (S.drat_Refute g44 (.sl l47 0 1 none) σ48).bind fun r49 =>
  ldG r49.2 (.ptr l10 0) 2 fun g50 =>
  newK r49.2 1 [(.int .i64 (IntKind.i64.wrap ((IntKind.i64.wrap (r3 + 1)) + 1)))] fun l51 σ52 =>
  newK σ52 1 [(.int .i64 (IntKind.i64.wrap ((IntKind.i64.wrap (r3 + 1)) + 1))), (.int .i64 (IntKind.i64.wrap (0 - (IntKind.i64.wrap (r3 + 1)))))] fun l53 σ54 =>
  newK σ54 2 [(.bool false), (.sl l51 0 1 none), (.bool true), (.sl l53 0 2 none)] fun l55 σ56 =>
  (S.drat_Refute g50 (.sl l55 0 2 none) σ56).bind fun r57 =>
  ldG r57.2 (.ptr l10 0) 2 fun g58 =>
  newK r57.2 1 [(.int .i64 2)] fun l59 σ60 =>
  newK σ60 2 [(.bool false), (.sl l59 0 1 none)] fun l61 σ62 =>
  (S.drat_Used g58 (.sl l61 0 1 none) σ62).bind fun r63 =>
  (cond r1.1 (
  eqI (tiOf Tryd.prog) r63.2 true r43.1 .nili fun b64 =>
  cond b64 (
  (S.skolemref_Bare 106 r63.2).bind fun r65 =>
  (S.skolemsee_Same r49.1 r65.1 r65.2).bind fun r66 =>
  cond r66.1 (
  eqI (tiOf Tryd.prog) r66.2 true r57.1 .nili fun b67 =>
  cond b67 (
  cond (r63.1.1 == 0) (
  eqI (tiOf Tryd.prog) r66.2 true r63.1.2 .nili fun b68 =>
  some (b68, r66.2))
  (some (false, r66.2)))
  (some (false, r66.2)))
  (some (false, r66.2)))
  (some (false, r63.2)))
  (some (false, r63.2))).bind fun r69 =>
  some (r69.1, r69.2)))
noncomputable def W.skolemlaw22_DratDrops : Spec := .eff [.B] fun args σ => packs args [.I .i64, .I .i64] fun x => S.skolemlaw22_DratDrops x.1 x.2 σ


noncomputable def S.pace_New (s_ : AVal) (σ : Heap) : Option (AVal × Heap) :=
  aggK s_ 6 fun cs1 =>
  newK σ 6 cs1 fun l2 σ3 =>
  ld σ3 (.ptr l2 0) (.V) fun v4 =>
  (S.pace_New_1 v4 σ3).bind fun r5 =>
  ld r5.2 (.ptr l2 1) (.V) fun v6 =>
  ld σ3 (.ptr l2 1) (.V) fun v7 =>
  chk ((v7 : AVal) = v6) (
  (S.pace_New_1 v6 r5.2).bind fun r8 =>
  ld r8.2 (.ptr l2 2) (.V) fun v9 =>
  ld r5.2 (.ptr l2 2) (.V) fun v10 =>
  chk ((v10 : AVal) = v9) (
  ld σ3 (.ptr l2 2) (.V) fun v11 =>
  chk ((v11 : AVal) = v9) (
  (S.pace_New_1 v9 r8.2).bind fun r12 =>
  ld r12.2 (.ptr l2 3) (.V) fun v13 =>
  ld r8.2 (.ptr l2 3) (.V) fun v14 =>
  chk ((v14 : AVal) = v13) (
  ld r5.2 (.ptr l2 3) (.V) fun v15 =>
  chk ((v15 : AVal) = v13) (
  ld σ3 (.ptr l2 3) (.V) fun v16 =>
  chk ((v16 : AVal) = v13) (
  (S.pace_New_1 v13 r12.2).bind fun r17 =>
  ld r17.2 (.ptr l2 4) (.I .i64) fun n18 =>
  ld r12.2 (.ptr l2 4) (.I .i64) fun n19 =>
  chk (((.int .i64 n19) : AVal) = (.int .i64 n18)) (
  ld r8.2 (.ptr l2 4) (.I .i64) fun n20 =>
  chk (((.int .i64 n20) : AVal) = (.int .i64 n18)) (
  ld r5.2 (.ptr l2 4) (.I .i64) fun n21 =>
  chk (((.int .i64 n21) : AVal) = (.int .i64 n18)) (
  ld σ3 (.ptr l2 4) (.I .i64) fun n22 =>
  chk (((.int .i64 n22) : AVal) = (.int .i64 n18)) (
  aggK r5.1 2 fun cs23 =>
  putC [.nils, (.int .i64 0), .nils, (.int .i64 0), .nils, (.int .i64 0), .nils, (.int .i64 0), (.int .i64 0), (.int .i64 0), (.int .i64 0), (.int .i64 0)] 0 2 cs23 fun cs24 =>
  aggK r8.1 2 fun cs25 =>
  putC cs24 2 2 cs25 fun cs26 =>
  aggK r12.1 2 fun cs27 =>
  putC cs26 4 2 cs27 fun cs28 =>
  aggK r17.1 2 fun cs29 =>
  putC cs28 6 2 cs29 fun cs30 =>
  putC cs30 8 1 [(.int .i64 n18)] fun cs31 =>
  putC cs31 11 1 [(.int .i64 16)] fun cs32 =>
  aggK (.agg cs32) 12 fun cs33 =>
  newK r17.2 12 cs33 fun l34 σ35 =>
  some ((.ptr l34 0), σ35)))))))))))
noncomputable def W.pace_New : Spec := .eff [.V] fun args σ => packs args [.V] fun x => S.pace_New x σ


noncomputable def S.assign_Assign_Grow.b0 (p1 : AVal) (p2 : Int) : Unit → Heap → Option ((Unit ⊕ Unit) × Heap) := fun x3 σ4 =>
  nilck p1 (
  fld p1 0 fun a5 =>
  ld σ4 a5 (.V) fun v6 =>
  lenV v6 fun n7 =>
  (S.assign_Cut p2 σ4).bind fun r8 =>
  cond (decide (n7 ≤ r8)) (
  nilck p1 (
  fld p1 0 fun a9 =>
  ld σ4 a9 (.V) fun v10 =>
  newK σ4 1 [(.int .i8 0)] fun l11 σ12 =>
  appS σ12 1 1 v10 (.sl l11 0 1 none) fun v13 σ14 =>
  nilck p1 (
  fld p1 0 fun a15 =>
  scal v13 (
  stC σ14 a15 [v13] fun σ16 =>
  some (.inl (), σ16)))))
  (some (.inr (), σ4)))
noncomputable def S.assign_Assign_Grow (a_ : AVal) (vars_ : Int) (σ : Heap) : Option (Unit × Heap) :=
  (loopW (S.assign_Assign_Grow.b0 a_ vars_) () σ).bind fun r17 =>
  some ((), r17.2)
noncomputable def W.assign_Assign_Grow : Spec := .eff [] fun args σ => packs args [.V, .I .i64] fun x => S.assign_Assign_Grow x.1 x.2 σ


noncomputable def S.prop_Prop_Grow.b0 (p4 : AVal) : Unit → Heap → Option ((Unit ⊕ Unit) × Heap) := fun x5 σ6 =>
  nilck p4 (
  fld p4 1 fun a7 =>
  ld σ6 a7 (.V) fun v8 =>
  lenV v8 fun n9 =>
  nilck p4 (
  fld p4 0 fun a10 =>
  ld σ6 a10 (.V) fun v11 =>
  (S.assign_Assign_Vars v11 σ6).bind fun r12 =>
  cond (decide (n9 ≤ r12)) (
  nilck p4 (
  fld p4 1 fun a13 =>
  ld σ6 a13 (.V) fun v14 =>
  newK σ6 1 [(.int .i64 (-1))] fun l15 σ16 =>
  appS σ16 1 8 v14 (.sl l15 0 1 none) fun v17 σ18 =>
  nilck p4 (
  fld p4 2 fun a19 =>
  ld σ18 a19 (.V) fun v20 =>
  ld σ6 a19 (.V) fun v21 =>
  chk ((v21 : AVal) = v20) (
  newK σ18 1 [(.int .i64 (-1))] fun l22 σ23 =>
  appS σ23 1 8 v20 (.sl l22 0 1 none) fun v24 σ25 =>
  nilck p4 (
  fld p4 1 fun a26 =>
  scal v17 (
  stC σ25 a26 [v17] fun σ27 =>
  nilck p4 (
  fld p4 2 fun a28 =>
  scal v24 (
  stC σ27 a28 [v24] fun σ29 =>
  nilck p4 (
  fld p4 7 fun a30 =>
  ld σ29 a30 (.V) fun v31 =>
  newK σ29 1 [.nils, .nils] fun l32 σ33 =>
  appS σ33 1 24 v31 (.sl l32 0 2 none) fun v34 σ35 =>
  nilck p4 (
  fld p4 7 fun a36 =>
  scal v34 (
  stC σ35 a36 [v34] fun σ37 =>
  some (.inl (), σ37))))))))))))
  (some (.inr (), σ6))))
noncomputable def S.prop_Prop_Grow (p_ : AVal) (vars_ : Int) (σ : Heap) : Option (Unit × Heap) :=
  nilck p_ (
  fld p_ 0 fun a1 =>
  ld σ a1 (.V) fun v2 =>
  (S.assign_Assign_Grow v2 vars_ σ).bind fun r3 =>
  (loopW (S.prop_Prop_Grow.b0 p_) () r3.2).bind fun r38 =>
  some ((), r38.2))
noncomputable def W.prop_Prop_Grow : Spec := .eff [] fun args σ => packs args [.V, .I .i64] fun x => S.prop_Prop_Grow x.1 x.2 σ


noncomputable def S.prop_New (vars_ : Int) (σ : Heap) : Option (AVal × Heap) :=
  (S.assign_New 0 σ).bind fun r1 =>
  newK r1.2 1 [(.int .i64 (-1))] fun l2 σ3 =>
  newK σ3 1 [(.int .i64 (-1))] fun l4 σ5 =>
  mkS σ5 1 24 [.nils] 2 2 fun v6 σ7 =>
  scal r1.1 (
  scal v6 (
  newK σ7 9 [r1.1, (.sl l2 0 1 none), (.sl l4 0 1 none), .nils, .nils, (.int .i64 0), .nils, v6, .nils] fun l8 σ9 =>
  (S.prop_Prop_Grow (.ptr l8 0) vars_ σ9).bind fun r10 =>
  some ((.ptr l8 0), r10.2)))
noncomputable def W.prop_New : Spec := .eff [.V] fun args σ => packs args [.I .i64] fun x => S.prop_New x σ


noncomputable def S.heap_Heap_is (h_ : AVal) (v_ : Int) (σ : Heap) : Option Bool :=
  (cond (decide (v_ > 0)) (
  nilck h_ (
  fld h_ 0 fun a1 =>
  ld σ a1 (.V) fun v2 =>
  lenV v2 fun n3 =>
  some (decide (v_ < n3))))
  (some false)).bind fun r4 =>
  some r4
noncomputable def W.heap_Heap_is : Spec := .pur [.B] fun args σ => packs args [.V, .I .i64] fun x => S.heap_Heap_is x.1 x.2 σ


noncomputable def S.heap_Heap_ahead (h_ : AVal) (a_ : Int) (b_ : Int) (σ : Heap) : Option Bool :=
  (nilck h_ (
  fld h_ 0 fun a1 =>
  ld σ a1 (.V) fun v2 =>
  ixA σ v2 1 a_ fun a3 =>
  ld σ a3 (.I .i64) fun n4 =>
  nilck h_ (
  fld h_ 0 fun a5 =>
  ld σ a5 (.V) fun v6 =>
  ixA σ v6 1 b_ fun a7 =>
  ld σ a7 (.I .i64) fun n8 =>
  cond (decide (n4 > n8)) (
  some true)
  (nilck h_ (
  fld h_ 0 fun a9 =>
  ld σ a9 (.V) fun v10 =>
  ixA σ v10 1 a_ fun a11 =>
  ld σ a11 (.I .i64) fun n12 =>
  nilck h_ (
  fld h_ 0 fun a13 =>
  ld σ a13 (.V) fun v14 =>
  ixA σ v14 1 b_ fun a15 =>
  ld σ a15 (.I .i64) fun n16 =>
  cond (n12 == n16) (
  some (decide (a_ < b_)))
  (some false))))))).bind fun r17 =>
  some r17
noncomputable def W.heap_Heap_ahead : Spec := .pur [.B] fun args σ => packs args [.V, .I .i64, .I .i64] fun x => S.heap_Heap_ahead x.1 x.2.1 x.2.2 σ


noncomputable def S.heap_Heap_put (h_ : AVal) (k_ : Int) (v_ : Int) (σ : Heap) : Option (Unit × Heap) :=
  nilck h_ (
  fld h_ 2 fun a1 =>
  ld σ a1 (.V) fun v2 =>
  ixA σ v2 1 k_ fun a3 =>
  stC σ a3 [(.int .i64 v_)] fun σ4 =>
  nilck h_ (
  fld h_ 1 fun a5 =>
  ld σ4 a5 (.V) fun v6 =>
  ixA σ4 v6 1 v_ fun a7 =>
  stC σ4 a7 [(.int .i64 (IntKind.i64.wrap (k_ + 1)))] fun σ8 =>
  some ((), σ8)))
noncomputable def W.heap_Heap_put : Spec := .eff [] fun args σ => packs args [.V, .I .i64, .I .i64] fun x => S.heap_Heap_put x.1 x.2.1 x.2.2 σ


noncomputable def S.heap_Heap_up.b0 (p5 : AVal) (p6 : Int) : Int → Heap → Option ((Int ⊕ Int) × Heap) := fun x7 σ8 =>
  (cond (decide (x7 > 0)) (
  nilck p5 (
  fld p5 2 fun a9 =>
  ld σ8 a9 (.V) fun v10 =>
  ixA σ8 v10 1 (IntKind.i64.wrap (Int.tdiv (IntKind.i64.wrap (x7 - 1)) 2)) fun a11 =>
  ld σ8 a11 (.I .i64) fun n12 =>
  (S.heap_Heap_ahead p5 p6 n12 σ8).bind fun r13 =>
  some r13))
  (some false)).bind fun r14 =>
  cond r14 (
  nilck p5 (
  fld p5 2 fun a15 =>
  ld σ8 a15 (.V) fun v16 =>
  ixA σ8 v16 1 (IntKind.i64.wrap (Int.tdiv (IntKind.i64.wrap (x7 - 1)) 2)) fun a17 =>
  ld σ8 a17 (.I .i64) fun n18 =>
  (S.heap_Heap_put p5 x7 n18 σ8).bind fun r19 =>
  some (.inl (IntKind.i64.wrap (Int.tdiv (IntKind.i64.wrap (x7 - 1)) 2)), r19.2)))
  (some (.inr x7, σ8))
noncomputable def S.heap_Heap_up (h_ : AVal) (k_ : Int) (σ : Heap) : Option (Unit × Heap) :=
  nilck h_ (
  fld h_ 2 fun a1 =>
  ld σ a1 (.V) fun v2 =>
  ixA σ v2 1 k_ fun a3 =>
  ld σ a3 (.I .i64) fun n4 =>
  (loopW (S.heap_Heap_up.b0 h_ n4) k_ σ).bind fun r20 =>
  (S.heap_Heap_put h_ r20.1 n4 r20.2).bind fun r21 =>
  some ((), r21.2))
noncomputable def W.heap_Heap_up : Spec := .eff [] fun args σ => packs args [.V, .I .i64] fun x => S.heap_Heap_up x.1 x.2 σ


noncomputable def S.heap_Heap_Push (h_ : AVal) (v_ : Int) (σ : Heap) : Option (Bool × Heap) :=
  ((S.heap_Heap_is h_ v_ σ).bind fun r1 =>
  cond (!r1) (
  some true)
  (nilck h_ (
  fld h_ 1 fun a2 =>
  ld σ a2 (.V) fun v3 =>
  ixA σ v3 1 v_ fun a4 =>
  ld σ a4 (.I .i64) fun n5 =>
  some (decide (n5 > 0))))).bind fun r6 =>
  cond r6 (
  some (false, σ))
  (nilck h_ (
  fld h_ 2 fun a7 =>
  ld σ a7 (.V) fun v8 =>
  newK σ 1 [(.int .i64 v_)] fun l9 σ10 =>
  appS σ10 1 8 v8 (.sl l9 0 1 none) fun v11 σ12 =>
  nilck h_ (
  fld h_ 2 fun a13 =>
  scal v11 (
  stC σ12 a13 [v11] fun σ14 =>
  nilck h_ (
  fld h_ 2 fun a15 =>
  ld σ14 a15 (.V) fun v16 =>
  lenV v16 fun n17 =>
  (S.heap_Heap_up h_ (IntKind.i64.wrap (n17 - 1)) σ14).bind fun r18 =>
  some (true, r18.2))))))
noncomputable def W.heap_Heap_Push : Spec := .eff [.B] fun args σ => packs args [.V, .I .i64] fun x => S.heap_Heap_Push x.1 x.2 σ


noncomputable def S.heap_Heap_Grow.b0 (p1 : AVal) (p2 : Int) : Unit → Heap → Option ((Unit ⊕ Unit) × Heap) := fun x3 σ4 =>
  nilck p1 (
  fld p1 0 fun a5 =>
  ld σ4 a5 (.V) fun v6 =>
  lenV v6 fun n7 =>
  (S.assign_Cut p2 σ4).bind fun r8 =>
  cond (decide (n7 ≤ r8)) (
  nilck p1 (
  fld p1 0 fun a9 =>
  ld σ4 a9 (.V) fun v10 =>
  newK σ4 1 [(.int .i64 0)] fun l11 σ12 =>
  appS σ12 1 8 v10 (.sl l11 0 1 none) fun v13 σ14 =>
  nilck p1 (
  fld p1 1 fun a15 =>
  ld σ14 a15 (.V) fun v16 =>
  ld σ4 a15 (.V) fun v17 =>
  chk ((v17 : AVal) = v16) (
  newK σ14 1 [(.int .i64 0)] fun l18 σ19 =>
  appS σ19 1 8 v16 (.sl l18 0 1 none) fun v20 σ21 =>
  nilck p1 (
  fld p1 0 fun a22 =>
  scal v13 (
  stC σ21 a22 [v13] fun σ23 =>
  nilck p1 (
  fld p1 1 fun a24 =>
  scal v20 (
  stC σ23 a24 [v20] fun σ25 =>
  nilck p1 (
  fld p1 0 fun a26 =>
  ld σ25 a26 (.V) fun v27 =>
  lenV v27 fun n28 =>
  (S.heap_Heap_Push p1 (IntKind.i64.wrap (n28 - 1)) σ25).bind fun r29 =>
  some (.inl (), r29.2))))))))))
  (some (.inr (), σ4)))
noncomputable def S.heap_Heap_Grow (h_ : AVal) (vars_ : Int) (σ : Heap) : Option (Unit × Heap) :=
  (loopW (S.heap_Heap_Grow.b0 h_ vars_) () σ).bind fun r30 =>
  some ((), r30.2)
noncomputable def W.heap_Heap_Grow : Spec := .eff [] fun args σ => packs args [.V, .I .i64] fun x => S.heap_Heap_Grow x.1 x.2 σ


noncomputable def S.heap_New (vars_ : Int) (σ : Heap) : Option (AVal × Heap) :=
  mkS σ 1 8 [(.int .i64 0)] 1 1 fun v1 σ2 =>
  mkS σ2 1 8 [(.int .i64 0)] 1 1 fun v3 σ4 =>
  scal v1 (
  scal v3 (
  newK σ4 3 [v1, v3, .nils] fun l5 σ6 =>
  (S.heap_Heap_Grow (.ptr l5 0) vars_ σ6).bind fun r7 =>
  some ((.ptr l5 0), r7.2)))
noncomputable def W.heap_New : Spec := .eff [.V] fun args σ => packs args [.I .i64] fun x => S.heap_New x σ


noncomputable def S.sat_Engine_Grow.b0 (p7 : AVal) : Unit → Heap → Option ((Unit ⊕ Unit) × Heap) := fun x8 σ9 =>
  nilck p7 (
  fld p7 3 fun a10 =>
  ld σ9 a10 (.V) fun v11 =>
  lenV v11 fun n12 =>
  nilck p7 (
  fld p7 0 fun a13 =>
  ld σ9 a13 (.V) fun v14 =>
  (S.prop_Prop_Vars v14 σ9).bind fun r15 =>
  cond (decide (n12 ≤ r15)) (
  nilck p7 (
  fld p7 3 fun a16 =>
  ld σ9 a16 (.V) fun v17 =>
  newK σ9 1 [(.int .i64 0)] fun l18 σ19 =>
  appS σ19 1 8 v17 (.sl l18 0 1 none) fun v20 σ21 =>
  nilck p7 (
  fld p7 3 fun a22 =>
  scal v20 (
  stC σ21 a22 [v20] fun σ23 =>
  some (.inl (), σ23)))))
  (some (.inr (), σ9))))
noncomputable def S.sat_Engine_Grow (e_ : AVal) (vars_ : Int) (σ : Heap) : Option (Unit × Heap) :=
  nilck e_ (
  fld e_ 0 fun a1 =>
  ld σ a1 (.V) fun v2 =>
  (S.prop_Prop_Grow v2 vars_ σ).bind fun r3 =>
  nilck e_ (
  fld e_ 1 fun a4 =>
  ld r3.2 a4 (.V) fun v5 =>
  (S.heap_Heap_Grow v5 vars_ r3.2).bind fun r6 =>
  (loopW (S.sat_Engine_Grow.b0 e_) () r6.2).bind fun r24 =>
  some ((), r24.2)))
noncomputable def W.sat_Engine_Grow : Spec := .eff [] fun args σ => packs args [.V, .I .i64] fun x => S.sat_Engine_Grow x.1 x.2 σ


noncomputable def S.sat_Paced (vars_ : Int) (p_ : AVal) (σ : Heap) : Option (AVal × Heap) :=
  (S.prop_New 0 σ).bind fun r1 =>
  (S.heap_New 0 r1.2).bind fun r2 =>
  scal r1.1 (
  scal r2.1 (
  scal p_ (
  newK r2.2 8 [r1.1, r2.1, p_, .nils, .nils, .nils, (.int .i64 0), (.int .i64 16)] fun l3 σ4 =>
  (S.sat_Engine_Grow (.ptr l3 0) vars_ σ4).bind fun r5 =>
  some ((.ptr l3 0), r5.2))))
noncomputable def W.sat_Paced : Spec := .eff [.V] fun args σ => packs args [.I .i64, .V] fun x => S.sat_Paced x.1 x.2 σ


noncomputable def S.incr_Paced (p_ : AVal) (σ : Heap) : Option (AVal × Heap) :=
  (S.sat_Paced 0 p_ σ).bind fun r1 =>
  scal r1.1 (
  newK r1.2 4 [r1.1, (.int .i64 0), .nils, (.int .i64 0)] fun l2 σ3 =>
  some ((.ptr l2 0), σ3))
noncomputable def W.incr_Paced : Spec := .eff [.V] fun args σ => packs args [.V] fun x => S.incr_Paced x σ


noncomputable def S.incr_New (s_ : AVal) (σ : Heap) : Option (AVal × Heap) :=
  aggK s_ 6 fun cs1 =>
  newK σ 6 cs1 fun l2 σ3 =>
  ldG σ3 (.ptr l2 0) 6 fun g4 =>
  (S.pace_New g4 σ3).bind fun r5 =>
  (S.incr_Paced r5.1 r5.2).bind fun r6 =>
  some (r6.1, r6.2)
noncomputable def W.incr_New : Spec := .eff [.V] fun args σ => packs args [.V] fun x => S.incr_New x σ


noncomputable def S.incr_Solver_Fresh (s_ : AVal) (n_ : Int) (σ : Heap) : Option (Int × Heap) :=
  (cond (decide (n_ < 1)) (
  some true)
  (nilck s_ (
  fld s_ 1 fun a1 =>
  fld a1 0 fun a2 =>
  ld σ a2 (.I .i64) fun n3 =>
  some (decide (n_ > (IntKind.i64.wrap (4000 - n3))))))).bind fun r4 =>
  cond r4 (
  some (0, σ))
  (nilck s_ (
  fld s_ 1 fun a5 =>
  fld a5 0 fun a6 =>
  ld σ a6 (.I .i64) fun n7 =>
  nilck s_ (
  fld s_ 1 fun a8 =>
  fld a8 0 fun a9 =>
  ld σ a9 (.I .i64) fun n10 =>
  nilck s_ (
  fld s_ 1 fun a11 =>
  fld a11 0 fun a12 =>
  stC σ a12 [(.int .i64 (IntKind.i64.wrap (n10 + n_)))] fun σ13 =>
  nilck s_ (
  fld s_ 0 fun a14 =>
  ld σ13 a14 (.V) fun v15 =>
  nilck s_ (
  fld s_ 1 fun a16 =>
  fld a16 0 fun a17 =>
  ld σ13 a17 (.I .i64) fun n18 =>
  (S.sat_Engine_Grow v15 n18 σ13).bind fun r19 =>
  some ((IntKind.i64.wrap (n7 + 1)), r19.2)))))))
noncomputable def W.incr_Solver_Fresh : Spec := .eff [.I .i64] fun args σ => packs args [.V, .I .i64] fun x => S.incr_Solver_Fresh x.1 x.2 σ


noncomputable def S.incr_Solver_Vars (s_ : AVal) (σ : Heap) : Option Int :=
  nilck s_ (
  fld s_ 1 fun a1 =>
  fld a1 0 fun a2 =>
  ld σ a2 (.I .i64) fun n3 =>
  some n3)
noncomputable def W.incr_Solver_Vars : Spec := .pur [.I .i64] fun args σ => packs args [.V] fun x => S.incr_Solver_Vars x σ


noncomputable def S.skolemlaw19_first (σ : Heap) : Option (Bool × Heap) :=
  (S.incr_New (.agg [.nils, .nils, .nils, .nils, (.int .i64 0), (.int .i64 0)]) σ).bind fun r1 =>
  (eqP r1.1 .nilp fun b2 =>
  cond (!b2) (
  (S.incr_Solver_Fresh r1.1 2 r1.2).bind fun r3 =>
  cond (r3.1 == 1) (
  (S.incr_Solver_Vars r1.1 r3.2).bind fun r4 =>
  cond (r4 == 2) (
  (S.incr_Solver_Fresh r1.1 0 r3.2).bind fun r5 =>
  some ((r5.1 == 0), r5.2))
  (some (false, r3.2)))
  (some (false, r3.2)))
  (some (false, r1.2))).bind fun r6 =>
  some (r6.1, r6.2)
noncomputable def W.skolemlaw19_first : Spec := .eff [.B] fun args σ => packs args [] fun x => S.skolemlaw19_first σ


noncomputable def S.incr_Solver_may.b0 (p7 : AVal) (p8 : AVal) (p9 : Int) : (Int × Int) → Heap → Option (((Int × Int) ⊕ (Int ⊕ AVal)) × Heap) := fun x10 σ11 =>
  cond (decide (x10.2 < p9)) (
  ixA σ11 p7 1 x10.2 fun a12 =>
  ld σ11 a12 (.V) fun v13 =>
  (S.slices_ContainsFunc_int_int v13 (.fn (.func 137) [] [p8]) σ11).bind fun r14 =>
  cond r14.1 (
  ld r14.2 (.ptr 2 0) (.V) fun v15 =>
  some (.inr (.inr v15), r14.2))
  (lenV v13 fun n16 =>
  some (.inl ((IntKind.i64.wrap (x10.1 + n16)), (IntKind.i64.wrap (x10.2 + 1))), r14.2)))
  (some (.inr (.inl x10.1), σ11))
noncomputable def S.incr_Solver_may (s_ : AVal) (l_ : AVal) (σ : Heap) : Option (AVal × Heap) :=
  scal s_ (
  newK σ 1 [s_] fun l1 σ2 =>
  ld σ2 (.ptr l1 0) (.V) fun v3 =>
  nilck v3 (
  fld v3 3 fun a4 =>
  ld σ2 a4 (.I .i64) fun n5 =>
  lenV l_ fun n6 =>
  (loopW (S.incr_Solver_may.b0 l_ (.ptr l1 0) n6) (n5, 0) σ2).bind fun r17 =>
  (match r17.1 with
 | .inl y18 => (ld r17.2 (.ptr l1 0) (.V) fun v20 =>
  nilck v20 (
  fld v20 1 fun a21 =>
  fld a21 1 fun a22 =>
  ld r17.2 a22 (.V) fun v23 =>
  lenV v23 fun n24 =>
  lenV l_ fun n25 =>
  cond (decide ((IntKind.i64.wrap (n24 + n25)) > 20000)) (
  some true)
  (some (decide (y18 > 80000))))).bind fun r26 =>
  cond r26 (
  ld r17.2 (.ptr 3 0) (.V) fun v27 =>
  some (v27, r17.2))
  (some (.nili, r17.2))
 | .inr y19 => some (y19, r17.2))))
noncomputable def W.incr_Solver_may : Spec := .eff [.V] fun args σ => packs args [.V, .V] fun x => S.incr_Solver_may x.1 x.2 σ


noncomputable def S.prop_at (l_ : Int) (σ : Heap) : Option Int :=
  cond (decide (l_ < 0)) (
  some (IntKind.i64.wrap ((IntKind.i64.wrap ((-2) * l_)) + 1)))
  (some (IntKind.i64.wrap (2 * l_)))
noncomputable def W.prop_at : Spec := .pur [.I .i64] fun args σ => packs args [.I .i64] fun x => S.prop_at x σ


noncomputable def S.prop_Prop_look (p_ : AVal) (id_ : Int) (σ : Heap) : Option (Unit × Heap) :=
  nilck p_ (
  fld p_ 6 fun a1 =>
  ld σ a1 (.V) fun v2 =>
  ixA σ v2 3 id_ fun a3 =>
  fld a3 2 fun a4 =>
  ld σ a4 (.B) fun b5 =>
  cond (!b5) (
  nilck p_ (
  fld p_ 6 fun a6 =>
  ld σ a6 (.V) fun v7 =>
  ixA σ v7 3 id_ fun a8 =>
  fld a8 2 fun a9 =>
  stC σ a9 [(.bool true)] fun σ10 =>
  nilck p_ (
  fld p_ 8 fun a11 =>
  ld σ10 a11 (.V) fun v12 =>
  newK σ10 1 [(.int .i64 id_)] fun l13 σ14 =>
  appS σ14 1 8 v12 (.sl l13 0 1 none) fun v15 σ16 =>
  nilck p_ (
  fld p_ 8 fun a17 =>
  scal v15 (
  stC σ16 a17 [v15] fun σ18 =>
  some ((), σ18))))))
  (some ((), σ)))
noncomputable def W.prop_Prop_look : Spec := .eff [] fun args σ => packs args [.V, .I .i64] fun x => S.prop_Prop_look x.1 x.2 σ


noncomputable def S.prop_Prop_Add.b0 (p24 : AVal) (p25 : Int) (p26 : AVal) (p27 : Int) : Int → Heap → Option ((Int ⊕ Unit) × Heap) := fun x28 σ29 =>
  cond (decide (x28 < p27)) (
  ixA σ29 p26 1 x28 fun a30 =>
  ld σ29 a30 (.I .i64) fun n31 =>
  ld σ29 p24 (.V) fun v32 =>
  nilck v32 (
  fld v32 7 fun a33 =>
  ld σ29 a33 (.V) fun v34 =>
  (S.prop_at n31 σ29).bind fun r35 =>
  ld σ29 p24 (.V) fun v36 =>
  nilck v36 (
  fld v36 7 fun a37 =>
  ld σ29 a37 (.V) fun v38 =>
  (S.prop_at n31 σ29).bind fun r39 =>
  ixA σ29 v38 1 r39 fun a40 =>
  ld σ29 a40 (.V) fun v41 =>
  newK σ29 1 [(.int .i64 p25)] fun l42 σ43 =>
  appS σ43 1 8 v41 (.sl l42 0 1 none) fun v44 σ45 =>
  ld σ45 a33 (.V) fun v46 =>
  chk ((v46 : AVal) = v34) (
  ld σ45 p24 (.V) fun v47 =>
  chk ((v47 : AVal) = v32) (
  ixA σ45 v34 1 r35 fun a48 =>
  scal v44 (
  stC σ45 a48 [v44] fun σ49 =>
  some (.inl (IntKind.i64.wrap (x28 + 1)), σ49)))))))
  (some (.inr (), σ29))
noncomputable def S.prop_Prop_Add (p0 : AVal) (p1 : AVal) (σ : Heap) : Option ((Int × Bool) × Heap) :=
  scal p0 (
  newK σ 1 [p0] fun l1 σ2 =>
  (S.lits_Norm p1 σ2).bind fun r3 =>
  (cond (!r3.1.2) (
  some (true, r3.2))
  ((S.slices_ContainsFunc_int_int r3.1.1 (.fn (.func 160) [] [(.ptr l1 0)]) r3.2).bind fun r4 =>
  some (r4.1, r4.2))).bind fun r5 =>
  cond r5.1 (
  some ((0, false), r5.2))
  (ld r5.2 (.ptr l1 0) (.V) fun v6 =>
  nilck v6 (
  fld v6 6 fun a7 =>
  ld r5.2 a7 (.V) fun v8 =>
  lenV v8 fun n9 =>
  ld r5.2 (.ptr l1 0) (.V) fun v10 =>
  ld r5.2 (.ptr l1 0) (.V) fun v11 =>
  nilck v11 (
  fld v11 6 fun a12 =>
  ld r5.2 a12 (.V) fun v13 =>
  scal r3.1.1 (
  newK r5.2 3 [r3.1.1, (.bool true), (.bool false)] fun l14 σ15 =>
  appS σ15 3 32 v13 (.sl l14 0 1 none) fun v16 σ17 =>
  ld σ17 (.ptr l1 0) (.V) fun v18 =>
  chk ((v18 : AVal) = v10) (
  nilck v10 (
  fld v10 6 fun a19 =>
  scal v16 (
  stC σ17 a19 [v16] fun σ20 =>
  lenV r3.1.1 fun n21 =>
  (cond (decide (n21 > 1)) (
  slS σ20 1 r3.1.1 0 (some 2) none fun v22 =>
  lenV v22 fun n23 =>
  (loopW (S.prop_Prop_Add.b0 (.ptr l1 0) n9 v22 n23) 0 σ20).bind fun r50 =>
  some ((), r50.2))
  (some ((), σ20))).bind fun r51 =>
  ld r51.2 (.ptr l1 0) (.V) fun v52 =>
  (S.prop_Prop_look v52 n9 r51.2).bind fun r53 =>
  some ((n9, true), r53.2)))))))))
noncomputable def W.prop_Prop_Add : Spec := .eff [.I .i64, .B] fun args σ => packs args [.V, .V] fun x => S.prop_Prop_Add x.1 x.2 σ


noncomputable def S.sat_Engine_Add (e_ : AVal) (c_ : AVal) (σ : Heap) : Option (Bool × Heap) :=
  scal e_ (
  newK σ 1 [e_] fun l1 σ2 =>
  (S.slices_ContainsFunc_int_int c_ (.fn (.func 138) [] [(.ptr l1 0)]) σ2).bind fun r3 =>
  cond r3.1 (
  some (false, r3.2))
  (ld r3.2 (.ptr l1 0) (.V) fun v4 =>
  nilck v4 (
  fld v4 0 fun a5 =>
  ld r3.2 a5 (.V) fun v6 =>
  (S.prop_Prop_Add v6 c_ r3.2).bind fun r7 =>
  some (true, r7.2))))
noncomputable def W.sat_Engine_Add : Spec := .eff [.B] fun args σ => packs args [.V, .V] fun x => S.sat_Engine_Add x.1 x.2 σ


noncomputable def S.incr_Solver_adds.b0 (p4 : AVal) (p5 : AVal) (p6 : Int) : Int → Heap → Option ((Int ⊕ Unit) × Heap) := fun x7 σ8 =>
  cond (decide (x7 < p6)) (
  ixA σ8 p5 1 x7 fun a9 =>
  ld σ8 a9 (.V) fun v10 =>
  nilck p4 (
  fld p4 0 fun a11 =>
  ld σ8 a11 (.V) fun v12 =>
  (S.sat_Engine_Add v12 v10 σ8).bind fun r13 =>
  nilck p4 (
  fld p4 1 fun a14 =>
  fld a14 1 fun a15 =>
  ld r13.2 a15 (.V) fun v16 =>
  (S.slices_Clone_int_int v10 r13.2).bind fun r17 =>
  ld r17.2 a15 (.V) fun v18 =>
  chk ((v18 : AVal) = v16) (
  scal r17.1 (
  newK r17.2 1 [r17.1] fun l19 σ20 =>
  appS σ20 1 24 v16 (.sl l19 0 1 none) fun v21 σ22 =>
  nilck p4 (
  fld p4 1 fun a23 =>
  fld a23 1 fun a24 =>
  scal v21 (
  stC σ22 a24 [v21] fun σ25 =>
  nilck p4 (
  fld p4 3 fun a26 =>
  ld σ25 a26 (.I .i64) fun n27 =>
  lenV v10 fun n28 =>
  nilck p4 (
  fld p4 3 fun a29 =>
  stC σ25 a29 [(.int .i64 (IntKind.i64.wrap (n27 + n28)))] fun σ30 =>
  some (.inl (IntKind.i64.wrap (x7 + 1)), σ30))))))))))
  (some (.inr (), σ8))
noncomputable def S.incr_Solver_adds (s_ : AVal) (l_ : AVal) (σ : Heap) : Option (AVal × Heap) :=
  (S.incr_Solver_may s_ l_ σ).bind fun r1 =>
  eqI (tiOf Tryd.prog) r1.2 true r1.1 .nili fun b2 =>
  cond (!b2) (
  some (r1.1, r1.2))
  (lenV l_ fun n3 =>
  (loopW (S.incr_Solver_adds.b0 s_ l_ n3) 0 r1.2).bind fun r31 =>
  some (.nili, r31.2))
noncomputable def W.incr_Solver_adds : Spec := .eff [.V] fun args σ => packs args [.V, .V] fun x => S.incr_Solver_adds x.1 x.2 σ


noncomputable def S.incr_Solver_Add (s_ : AVal) (c_ : AVal) (σ : Heap) : Option (AVal × Heap) :=
  scal c_ (
  newK σ 1 [c_] fun l1 σ2 =>
  (S.incr_Solver_adds s_ (.sl l1 0 1 none) σ2).bind fun r3 =>
  some (r3.1, r3.2))
noncomputable def W.incr_Solver_Add : Spec := .eff [.V] fun args σ => packs args [.V, .V] fun x => S.incr_Solver_Add x.1 x.2 σ


noncomputable def S.incr_Solver_All (s_ : AVal) (σ : Heap) : Option (AVal × Heap) :=
  newK σ 2 [(.int .i64 0), .nils] fun l1 σ2 =>
  nilck s_ (
  fld s_ 1 fun a3 =>
  fld a3 0 fun a4 =>
  ld σ2 a4 (.I .i64) fun n5 =>
  nilck s_ (
  fld s_ 1 fun a6 =>
  fld a6 1 fun a7 =>
  ld σ2 a7 (.V) fun v8 =>
  (S.lits_Clone v8 σ2).bind fun r9 =>
  ld r9.2 a4 (.I .i64) fun n10 =>
  chk (((.int .i64 n10) : AVal) = (.int .i64 n5)) (
  scal r9.1 (
  stC r9.2 (.ptr l1 0) [(.int .i64 n5), r9.1] fun σ11 =>
  ldG σ11 (.ptr l1 0) 2 fun g12 =>
  some (g12, σ11)))))
noncomputable def W.incr_Solver_All : Spec := .eff [.V] fun args σ => packs args [.V] fun x => S.incr_Solver_All x σ


noncomputable def S.skolemlaw19_IncrLimits (p0 : Int) (p1 : Int) (σ : Heap) : Option (Bool × Heap) :=
  (S.skolemlaw19_first σ).bind fun r1 =>
  cond (!r1.1) (
  some (false, r1.2))
  ((S.skolemworld_Number p0 5000 r1.2).bind fun r2 =>
  (S.skolemworld_Number p1 5000 r1.2).bind fun r3 =>
  (S.incr_New (.agg [.nils, .nils, .nils, .nils, (.int .i64 0), (.int .i64 0)]) r1.2).bind fun r4 =>
  eqP r4.1 .nilp fun b5 =>
  cond b5 (
  some (false, r4.2))
  ((S.incr_Solver_Fresh r4.1 (IntKind.i64.wrap (r2 + 1)) r4.2).bind fun r6 =>
  (S.incr_Solver_Fresh r4.1 (IntKind.i64.wrap (r3 + 1)) r6.2).bind fun r7 =>
  (cond (decide ((IntKind.i64.wrap (r2 + 1)) ≤ 4000)) (
  some 1)
  (some 0)).bind fun r8 =>
  (cond (decide ((IntKind.i64.wrap ((IntKind.i64.wrap ((IntKind.i64.wrap (r2 + 1)) * r8)) + (IntKind.i64.wrap (r3 + 1)))) ≤ 4000)) (
  some ((IntKind.i64.wrap ((IntKind.i64.wrap ((IntKind.i64.wrap (r2 + 1)) * r8)) + (IntKind.i64.wrap (r3 + 1)))), (IntKind.i64.wrap ((IntKind.i64.wrap ((IntKind.i64.wrap (r2 + 1)) * r8)) + 1))))
  (some ((IntKind.i64.wrap ((IntKind.i64.wrap (r2 + 1)) * r8)), 0))).bind fun r9 =>
  newK r7.2 1 [(.int .i64 (IntKind.i64.wrap (r9.1 + 1)))] fun l10 σ11 =>
  (S.incr_Solver_Add r4.1 (.sl l10 0 1 none) σ11).bind fun r12 =>
  (cond r1.1 (
  cond (r6.1 == r8) (
  cond (r7.1 == r9.2) (
  (S.incr_Solver_Vars r4.1 r12.2).bind fun r13 =>
  cond (r13 == r9.1) (
  (S.skolemsee_Is r12.1 104 r12.2).bind fun r14 =>
  cond r14.1 (
  (S.incr_Solver_All r4.1 r14.2).bind fun r15 =>
  agS r15.1 1 (.V) fun v16 =>
  lenV v16 fun n17 =>
  some ((n17 == 0), r15.2))
  (some (false, r14.2)))
  (some (false, r12.2)))
  (some (false, r12.2)))
  (some (false, r12.2)))
  (some (false, r12.2))).bind fun r18 =>
  some (r18.1, r18.2)))
noncomputable def W.skolemlaw19_IncrLimits : Spec := .eff [.B] fun args σ => packs args [.I .i64, .I .i64] fun x => S.skolemlaw19_IncrLimits x.1 x.2 σ


noncomputable def S.skolemmake_Small (s_ : AVal) (σ : Heap) : Option (Bool × Heap) :=
  aggK s_ 6 fun cs1 =>
  newK σ 6 cs1 fun l2 σ3 =>
  (ld σ3 (.ptr l2 0) (.V) fun v4 =>
  lenV v4 fun n5 =>
  cond (decide (n5 ≤ 50)) (
  ld σ3 (.ptr l2 1) (.V) fun v6 =>
  lenV v6 fun n7 =>
  cond (decide (n7 ≤ 50)) (
  ld σ3 (.ptr l2 2) (.V) fun v8 =>
  lenV v8 fun n9 =>
  cond (decide (n9 ≤ 50)) (
  ld σ3 (.ptr l2 3) (.V) fun v10 =>
  lenV v10 fun n11 =>
  some (decide (n11 ≤ 50)))
  (some false))
  (some false))
  (some false)).bind fun r12 =>
  some (r12, σ3)
noncomputable def W.skolemmake_Small : Spec := .eff [.B] fun args σ => packs args [.V] fun x => S.skolemmake_Small x σ


noncomputable def S.skolemmake_Free (s_ : AVal) (σ : Heap) : Option (AVal × Heap) :=
  aggK s_ 6 fun cs1 =>
  newK σ 6 cs1 fun l2 σ3 =>
  newK σ3 6 [.nils, .nils, .nils, .nils, (.int .i64 0), (.int .i64 0)] fun l4 σ5 =>
  stC σ5 (.ptr l2 4) [(.int .i64 0)] fun σ6 =>
  stC σ6 (.ptr l2 5) [(.int .i64 0)] fun σ7 =>
  ldG σ7 (.ptr l2 0) 6 fun g8 =>
  aggK g8 6 fun cs9 =>
  stC σ7 (.ptr l4 0) cs9 fun σ10 =>
  ldG σ10 (.ptr l4 0) 6 fun g11 =>
  some (g11, σ10)
noncomputable def W.skolemmake_Free : Spec := .eff [.V] fun args σ => packs args [.V] fun x => S.skolemmake_Free x σ


noncomputable def S.skolemlaw19_made.b0 (p11 : AVal) (p12 : AVal) : Int → Heap → Option ((Int ⊕ (Unit ⊕ (AVal × AVal))) × Heap) := fun x13 σ14 =>
  lenV p12 fun n15 =>
  cond (decide (x13 < n15)) (
  ixA σ14 p12 1 x13 fun a16 =>
  ld σ14 a16 (.V) fun v17 =>
  (S.incr_Solver_Add p11 v17 σ14).bind fun r18 =>
  eqI (tiOf Tryd.prog) r18.2 true r18.1 .nili fun b19 =>
  cond (!b19) (
  some (.inr (.inr (.nilp, .nils)), r18.2))
  (some (.inl (IntKind.i64.wrap (x13 + 1)), r18.2)))
  (some (.inr (.inl ()), σ14))
noncomputable def S.skolemlaw19_made (l_ : AVal) (s_ : AVal) (σ : Heap) : Option ((AVal × AVal) × Heap) :=
  aggK s_ 6 fun cs1 =>
  newK σ 6 cs1 fun l2 σ3 =>
  ldG σ3 (.ptr l2 0) 6 fun g4 =>
  (S.skolemmake_Free g4 σ3).bind fun r5 =>
  (S.incr_New r5.1 r5.2).bind fun r6 =>
  (eqP r6.1 .nilp fun b7 =>
  cond b7 (
  some (true, r6.2))
  ((S.incr_Solver_Fresh r6.1 8 r6.2).bind fun r8 =>
  some ((r8.1 != 1), r8.2))).bind fun r9 =>
  cond r9.1 (
  some ((.nilp, .nils), r9.2))
  ((S.skolemmake_Clauses l_ 8 r9.2).bind fun r10 =>
  (loopW (S.skolemlaw19_made.b0 r6.1 r10.1) 0 r10.2).bind fun r20 =>
  (match r20.1 with
 | .inl y21 => some ((r6.1, r10.1), r20.2)
 | .inr y22 => some ((y22.1, y22.2), r20.2)))
noncomputable def W.skolemlaw19_made : Spec := .eff [.V, .V] fun args σ => packs args [.V, .V] fun x => S.skolemlaw19_made x.1 x.2 σ


noncomputable def S.lits_Rename.b0 (p5 : AVal) (p6 : AVal) (p7 : Int) : (AVal × Int) → Heap → Option (((AVal × Int) ⊕ (AVal ⊕ (AVal × Bool))) × Heap) := fun x8 σ9 =>
  cond (decide (x8.2 < p7)) (
  (ixA σ9 p6 1 x8.2 fun a10 =>
  ld σ9 a10 (.I .i64) fun n11 =>
  (S.lits_Var n11 σ9).bind fun r12 =>
  (cond (decide (r12 < 1)) (
  some true)
  (lenV p5 fun n13 =>
  cond (decide (r12 ≥ n13)) (
  some true)
  (ixA σ9 p5 1 r12 fun a14 =>
  ld σ9 a14 (.I .i64) fun n15 =>
  some (n15 == 0)))).bind fun r16 =>
  cond r16 (
  some (.inr (.nils, false), σ9))
  (cond (decide (n11 < 0)) (
  ixA σ9 p5 1 r12 fun a17 =>
  ld σ9 a17 (.I .i64) fun n18 =>
  newK σ9 1 [(.int .i64 (IntKind.i64.wrap (0 - n18)))] fun l19 σ20 =>
  appS σ20 1 8 x8.1 (.sl l19 0 1 none) fun v21 σ22 =>
  some (.inl v21, σ22))
  (ixA σ9 p5 1 r12 fun a23 =>
  ld σ9 a23 (.I .i64) fun n24 =>
  newK σ9 1 [(.int .i64 n24)] fun l25 σ26 =>
  appS σ26 1 8 x8.1 (.sl l25 0 1 none) fun v27 σ28 =>
  some (.inl v27, σ28))) : Option ((AVal ⊕ (AVal × Bool)) × Heap)).bind fun r29 =>
  (match r29.1 with
 | .inl y30 => some (.inl (y30, (IntKind.i64.wrap (x8.2 + 1))), r29.2)
 | .inr y31 => some (.inr (.inr (y31.1, y31.2)), r29.2)))
  (some (.inr (.inl x8.1), σ9))
noncomputable def S.lits_Rename (c_ : AVal) (p1 : AVal) (σ : Heap) : Option ((AVal × Bool) × Heap) :=
  lenV c_ fun n1 =>
  mkS σ 1 8 [(.int .i64 0)] 0 n1 fun v2 σ3 =>
  lenV c_ fun n4 =>
  (loopW (S.lits_Rename.b0 p1 c_ n4) (v2, 0) σ3).bind fun r32 =>
  (match r32.1 with
 | .inl y33 => some ((y33, true), r32.2)
 | .inr y34 => some ((y34.1, y34.2), r32.2))
noncomputable def W.lits_Rename : Spec := .eff [.V, .B] fun args σ => packs args [.V, .V] fun x => S.lits_Rename x.1 x.2 σ


noncomputable def S.incr_Solver_Put.b0 (p10 : AVal) (p11 : AVal) (p12 : AVal) (p13 : Int) : (AVal × Int) → Heap → Option (((AVal × Int) ⊕ (AVal ⊕ AVal)) × Heap) := fun x14 σ15 =>
  cond (decide (x14.2 < p13)) (
  ixA σ15 p12 1 x14.2 fun a16 =>
  ld σ15 a16 (.V) fun v17 =>
  (S.lits_Rename v17 p11 σ15).bind fun r18 =>
  cond (!r18.1.2) (
  ld r18.2 (.ptr 2 0) (.V) fun v19 =>
  some (.inr (.inr v19), r18.2))
  (scal r18.1.1 (
  newK r18.2 1 [r18.1.1] fun l20 σ21 =>
  appS σ21 1 24 x14.1 (.sl l20 0 1 none) fun v22 σ23 =>
  some (.inl (v22, (IntKind.i64.wrap (x14.2 + 1))), σ23))))
  (some (.inr (.inl x14.1), σ15))
noncomputable def S.incr_Solver_Put (s_ : AVal) (c_ : AVal) (p2 : AVal) (σ : Heap) : Option (AVal × Heap) :=
  aggK c_ 2 fun cs1 =>
  newK σ 2 cs1 fun l2 σ3 =>
  ld σ3 (.ptr l2 1) (.V) fun v4 =>
  lenV v4 fun n5 =>
  mkS σ3 1 24 [.nils] 0 n5 fun v6 σ7 =>
  ld σ7 (.ptr l2 1) (.V) fun v8 =>
  lenV v8 fun n9 =>
  (loopW (S.incr_Solver_Put.b0 s_ p2 v8 n9) (v6, 0) σ7).bind fun r24 =>
  (match r24.1 with
 | .inl y25 => (S.incr_Solver_adds s_ y25 r24.2).bind fun r27 =>
  some (r27.1, r27.2)
 | .inr y26 => some (y26, r24.2))
noncomputable def W.incr_Solver_Put : Spec := .eff [.V] fun args σ => packs args [.V, .V, .V] fun x => S.incr_Solver_Put x.1 x.2.1 x.2.2 σ


noncomputable def S.skolemref1_Rename.b0 (p1 : AVal) (p2 : AVal) : (AVal × Int) → Heap → Option (((AVal × Int) ⊕ (AVal ⊕ (AVal × Bool))) × Heap) := fun x3 σ4 =>
  lenV p1 fun n5 =>
  cond (decide (x3.2 < n5)) (
  (ixA σ4 p1 1 x3.2 fun a6 =>
  ld σ4 a6 (.I .i64) fun n7 =>
  (lenV p2 fun n8 =>
  cond (decide (n7 ≥ n8)) (
  some true)
  (lenV p2 fun n9 =>
  cond (decide ((IntKind.i64.wrap (0 - n7)) ≥ n9)) (
  some true)
  (some (n7 == (IntKind.i64.wrap (0 - n7)))))).bind fun r10 =>
  cond r10 (
  some (.inr (.nils, false), σ4))
  ((S.skolemref_Abs n7 σ4).bind fun r11 =>
  ixA σ4 p2 1 r11 fun a12 =>
  ld σ4 a12 (.I .i64) fun n13 =>
  cond (n13 == 0) (
  some (.inr (.nils, false), σ4))
  ((cond (decide (n7 < 0)) (
  some (IntKind.i64.wrap (0 - n13)))
  (some n13)).bind fun r14 =>
  newK σ4 1 [(.int .i64 r14)] fun l15 σ16 =>
  appS σ16 1 8 x3.1 (.sl l15 0 1 none) fun v17 σ18 =>
  some (.inl v17, σ18))) : Option ((AVal ⊕ (AVal × Bool)) × Heap)).bind fun r19 =>
  (match r19.1 with
 | .inl y20 => some (.inl (y20, (IntKind.i64.wrap (x3.2 + 1))), r19.2)
 | .inr y21 => some (.inr (.inr (y21.1, y21.2)), r19.2)))
  (some (.inr (.inl x3.1), σ4))
noncomputable def S.skolemref1_Rename (c_ : AVal) (p1 : AVal) (σ : Heap) : Option ((AVal × Bool) × Heap) :=
  (loopW (S.skolemref1_Rename.b0 c_ p1) (.nils, 0) σ).bind fun r22 =>
  (match r22.1 with
 | .inl y23 => some ((y23, true), r22.2)
 | .inr y24 => some ((y24.1, y24.2), r22.2))
noncomputable def W.skolemref1_Rename : Spec := .eff [.V, .B] fun args σ => packs args [.V, .V] fun x => S.skolemref1_Rename x.1 x.2 σ


noncomputable def S.skolemmake_Right.b0 (p1 : AVal) (p2 : Int) (σ0 : Heap) : Int → Option (Int ⊕ (Unit ⊕ Bool)) := fun x3 =>
  lenV p1 fun n5 =>
  cond (decide (x3 < n5)) (
  (ixA σ0 p1 1 x3 fun a6 =>
  ld σ0 a6 (.I .i64) fun n7 =>
  cond (n7 == 0) (
  some true)
  (ixA σ0 p1 1 x3 fun a8 =>
  ld σ0 a8 (.I .i64) fun n9 =>
  cond (decide (n9 > p2)) (
  some true)
  (ixA σ0 p1 1 x3 fun a10 =>
  ld σ0 a10 (.I .i64) fun n11 =>
  some (decide (n11 < (IntKind.i64.wrap (0 - p2))))))).bind fun r12 =>
  cond r12 (
  some (.inr (.inr false)))
  (some (.inl (IntKind.i64.wrap (x3 + 1)))))
  (some (.inr (.inl ())))
noncomputable def S.skolemmake_Right (c_ : AVal) (vars_ : Int) (σ : Heap) : Option Bool :=
  (loopP (S.skolemmake_Right.b0 c_ vars_ σ) 0).bind fun r13 =>
  (match r13 with
 | .inl y14 => some true
 | .inr y15 => some y15)
noncomputable def W.skolemmake_Right : Spec := .pur [.B] fun args σ => packs args [.V, .I .i64] fun x => S.skolemmake_Right x.1 x.2 σ


noncomputable def S.skolemlaw19_IncrSays.b0 (p31 : AVal) (p32 : Int) (p33 : AVal) (p34 : Bool) (p35 : AVal) (p36 : AVal) (p37 : AVal) (p38 : AVal) : (AVal × Bool × Int) → Heap → Option (((AVal × Bool × Int) ⊕ ((AVal × Bool))) × Heap) := fun x39 σ40 =>
  fld p37 1 fun a41 =>
  ld σ40 a41 (.V) fun v42 =>
  lenV v42 fun n43 =>
  cond (decide (x39.2.2 < n43)) (
  fld p37 1 fun a44 =>
  ld σ40 a44 (.V) fun v45 =>
  ixA σ40 v45 1 x39.2.2 fun a46 =>
  ld σ40 a46 (.V) fun v47 =>
  (S.skolemref1_Rename v47 p31 σ40).bind fun r48 =>
  (cond x39.2.1 (
  cond r48.1.2 (
  (S.skolemmake_Right r48.1.1 (IntKind.i64.wrap (8 + p32)) r48.2).bind fun r49 =>
  some r49)
  (some false))
  (some false)).bind fun r50 =>
  scal r48.1.1 (
  newK r48.2 1 [r48.1.1] fun l51 σ52 =>
  appS σ52 1 24 x39.1 (.sl l51 0 1 none) fun v53 σ54 =>
  some (.inl (v53, r50, (IntKind.i64.wrap (x39.2.2 + 1))), σ54)))
  (some (.inr (x39.1, x39.2.1), σ40))
noncomputable def S.skolemlaw19_IncrSays (p0 : AVal) (p1 : AVal) (p2 : AVal) (p3 : AVal) (p4 : Int) (p5 : AVal) (σ : Heap) : Option (Bool × Heap) :=
  aggK p1 6 fun cs1 =>
  newK σ 6 cs1 fun l2 σ3 =>
  (S.skolemlaw19_first σ3).bind fun r4 =>
  cond (!r4.1) (
  some (false, r4.2))
  ((lenV p0 fun n5 =>
  cond (decide (n5 > 100)) (
  some (true, r4.2))
  (lenV p2 fun n6 =>
  cond (decide (n6 > 60)) (
  some (true, r4.2))
  (lenV p3 fun n7 =>
  cond (decide (n7 > 12)) (
  some (true, r4.2))
  (lenV p5 fun n8 =>
  cond (decide (n8 > 20)) (
  some (true, r4.2))
  (ldG r4.2 (.ptr l2 0) 6 fun g9 =>
  (S.skolemmake_Small g9 r4.2).bind fun r10 =>
  cond (!r10.1) (
  some (true, r10.2))
  ((S.skolemmake_Near p3 r10.2).bind fun r11 =>
  cond (!r11) (
  some (true, r10.2))
  ((S.skolemmake_Near p5 r10.2).bind fun r12 =>
  some ((!r12), r10.2)))))))).bind fun r13 =>
  cond r13.1 (
  some (r4.1, r13.2))
  (ldG r13.2 (.ptr l2 0) 6 fun g14 =>
  (S.skolemlaw19_made p0 g14 r13.2).bind fun r15 =>
  eqP r15.1.1 .nilp fun b16 =>
  cond b16 (
  some (false, r15.2))
  ((S.skolemworld_Number p4 20 r15.2).bind fun r17 =>
  ((S.incr_Solver_Fresh r15.1.1 (IntKind.i64.wrap (r17 + 1)) r15.2).bind fun r18 =>
  cond (r18.1 != 9) (
  some (true, r18.2))
  ((S.incr_Solver_Vars r15.1.1 r18.2).bind fun r19 =>
  cond (r19 != (IntKind.i64.wrap (8 + (IntKind.i64.wrap (r17 + 1))))) (
  some (true, r18.2))
  ((S.incr_Solver_Fresh r15.1.1 4000 r18.2).bind fun r20 =>
  cond (r20.1 != 0) (
  some (true, r20.2))
  ((S.incr_Solver_Fresh r15.1.1 (-1) r20.2).bind fun r21 =>
  cond (r21.1 != 0) (
  some (true, r21.2))
  ((S.incr_Solver_Vars r15.1.1 r21.2).bind fun r22 =>
  some ((r22 != (IntKind.i64.wrap (8 + (IntKind.i64.wrap (r17 + 1))))), r21.2)))))).bind fun r23 =>
  cond r23.1 (
  some (false, r23.2))
  ((S.skolemmake_CNF p2 6 r23.2).bind fun r24 =>
  newK r24.2 2 [(.int .i64 0), .nils] fun l25 σ26 =>
  aggK r24.1 2 fun cs27 =>
  stC σ26 (.ptr l25 0) cs27 fun σ28 =>
  ldG σ28 (.ptr l25 0) 2 fun g29 =>
  (S.incr_Solver_Put r15.1.1 g29 p3 σ28).bind fun r30 =>
  (loopW (S.skolemlaw19_IncrSays.b0 p3 (IntKind.i64.wrap (r17 + 1)) p5 r4.1 r15.1.1 r15.1.2 (.ptr l25 0) r30.1) (.nils, true, 0) r30.2).bind fun r55 =>
  (eqI (tiOf Tryd.prog) r55.2 true r30.1 .nili fun b56 =>
  cond (!(b56 == r55.1.2)) (
  some (true, r55.2))
  (cond (!r55.1.2) (
  (S.skolemsee_Is r30.1 104 r55.2).bind fun r57 =>
  some ((!r57.1), r57.2))
  (some (false, r55.2)))).bind fun r58 =>
  cond r58.1 (
  some (false, r58.2))
  ((cond r55.1.2 (
  appS r58.2 1 24 r15.1.2 r55.1.1 fun v59 σ60 =>
  some (v59, σ60))
  (some (r15.1.2, r58.2))).bind fun r61 =>
  (S.incr_Solver_Add r15.1.1 p5 r61.2).bind fun r62 =>
  (S.skolemmake_Right p5 (IntKind.i64.wrap (8 + (IntKind.i64.wrap (r17 + 1)))) r62.2).bind fun r63 =>
  (cond r63 (
  scal p5 (
  newK r62.2 1 [p5] fun l64 σ65 =>
  appS σ65 1 24 r61.1 (.sl l64 0 1 none) fun v66 σ67 =>
  some (.inl v66, σ67)))
  ((S.skolemsee_Is r62.1 104 r62.2).bind fun r68 =>
  cond (!r68.1) (
  some (.inr false, r68.2))
  (some (.inl r61.1, r68.2))) : Option ((AVal ⊕ Bool) × Heap)).bind fun r69 =>
  (match r69.1 with
 | .inl y70 => (S.incr_Solver_All r15.1.1 r69.2).bind fun r72 =>
  newK r72.2 2 [(.int .i64 0), .nils] fun l73 σ74 =>
  aggK r72.1 2 fun cs75 =>
  stC σ74 (.ptr l73 0) cs75 fun σ76 =>
  (cond r4.1 (
  ld σ76 (.ptr l73 0) (.I .i64) fun n77 =>
  cond (n77 == (IntKind.i64.wrap (8 + (IntKind.i64.wrap (r17 + 1))))) (
  ld σ76 (.ptr l73 1) (.V) fun v78 =>
  (S.skolemref_SameClauses v78 y70 σ76).bind fun r79 =>
  some r79)
  (some false))
  (some false)).bind fun r80 =>
  some (r80, σ76)
 | .inr y71 => some (y71, r69.2)))))))
noncomputable def W.skolemlaw19_IncrSays : Spec := .eff [.B] fun args σ => packs args [.V, .V, .V, .V, .I .i64, .V] fun x => S.skolemlaw19_IncrSays x.1 x.2.1 x.2.2.1 x.2.2.2.1 x.2.2.2.2.1 x.2.2.2.2.2 σ

end Go.Proofs.YtgneblbblihaoaaDoor.A
