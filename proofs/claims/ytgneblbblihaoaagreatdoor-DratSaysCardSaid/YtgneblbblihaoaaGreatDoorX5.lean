/- Parts of the proof, one behind another. -/
import Derived.Test.YtgneblbblihaoaaGreatDoorProg
import Derived.Test.YtgneblbblihaoaaGreatDoorX0
set_option linter.all false
set_option linter.unusedVariables false
namespace Go.Proofs.YtgneblbblihaoaaGreatDoor.A
open Go
noncomputable def S.lits_Is (l_ : Int) (vars_ : Int) (σ : Heap) : Option Bool :=
  (cond (l_ != 0) (
  cond (decide (l_ ≥ (IntKind.i64.wrap (0 - vars_)))) (
  some (decide (l_ ≤ vars_)))
  (some false))
  (some false)).bind fun r1 =>
  some r1
noncomputable def W.lits_Is : Spec := .pur [.B] fun args σ => packs args [.I .i64, .I .i64] fun x => S.lits_Is x.1 x.2 σ


noncomputable def S.lits_Check_1 (l_ : Int) (p1 : AVal) (σ : Heap) : Option Bool :=
  fld p1 0 fun a1 =>
  ld σ a1 (.I .i64) fun n2 =>
  (S.lits_Is l_ n2 σ).bind fun r3 =>
  some (!r3)
noncomputable def W.lits_Check_1 : Spec := .pur [.B] fun args σ => packs args [.I .i64, .V] fun x => S.lits_Check_1 x.1 x.2 σ


noncomputable def S.rup_Base_right_1 (l_ : Int) (p1 : AVal) (σ : Heap) : Option Bool :=
  ld σ p1 (.V) fun v1 =>
  nilck v1 (
  fld v1 0 fun a2 =>
  ld σ a2 (.I .i64) fun n3 =>
  (S.lits_Is l_ n3 σ).bind fun r4 =>
  some (!r4))
noncomputable def W.rup_Base_right_1 : Spec := .pur [.B] fun args σ => packs args [.I .i64, .V] fun x => S.rup_Base_right_1 x.1 x.2 σ


noncomputable def S.lits_Var (l_ : Int) (σ : Heap) : Option Int :=
  some (if (IntKind.i64.wrap (0 - l_)) > l_ then (IntKind.i64.wrap (0 - l_)) else l_)
noncomputable def W.lits_Var : Spec := .pur [.I .i64] fun args σ => packs args [.I .i64] fun x => S.lits_Var x σ


noncomputable def S.cmp_isNaN_int (x_ : Int) (σ : Heap) : Option Bool :=
  some (x_ != x_)
noncomputable def W.cmp_isNaN_int : Spec := .pur [.B] fun args σ => packs args [.I .i64] fun x => S.cmp_isNaN_int x σ


noncomputable def S.cmp_Compare_int (x_ : Int) (y_ : Int) (σ : Heap) : Option Int :=
  (S.cmp_isNaN_int x_ σ).bind fun r1 =>
  (S.cmp_isNaN_int y_ σ).bind fun r2 =>
  cond r1 (
  cond r2 (
  some 0)
  (some (-1)))
  (cond r2 (
  some 1)
  (cond (decide (x_ < y_)) (
  some (-1))
  (cond (decide (x_ > y_)) (
  some 1)
  (some 0))))
noncomputable def W.cmp_Compare_int : Spec := .pur [.I .i64] fun args σ => packs args [.I .i64, .I .i64] fun x => S.cmp_Compare_int x.1 x.2 σ


noncomputable def S.cmp_Or_int.b0 (p2 : AVal) (p3 : Int) (σ0 : Heap) : Int → Option (Int ⊕ (Unit ⊕ Int)) := fun x4 =>
  cond (decide (x4 < p3)) (
  ixA σ0 p2 1 x4 fun a6 =>
  ld σ0 a6 (.I .i64) fun n7 =>
  cond (n7 != 0) (
  some (.inr (.inr n7)))
  (some (.inl (IntKind.i64.wrap (x4 + 1)))))
  (some (.inr (.inl ())))
noncomputable def S.cmp_Or_int (vals_ : AVal) (σ : Heap) : Option Int :=
  lenV vals_ fun n1 =>
  (loopP (S.cmp_Or_int.b0 vals_ n1 σ) 0).bind fun r8 =>
  (match r8 with
 | .inl y9 => some 0
 | .inr y10 => some y10)
noncomputable def W.cmp_Or_int : Spec := .pur [.I .i64] fun args σ => packs args [.V] fun x => S.cmp_Or_int x σ


noncomputable def S.lits_order (a_ : Int) (b_ : Int) (σ : Heap) : Option (Int × Heap) :=
  (S.lits_Var a_ σ).bind fun r1 =>
  (S.lits_Var b_ σ).bind fun r2 =>
  (S.cmp_Compare_int r1 r2 σ).bind fun r3 =>
  (S.cmp_Compare_int a_ b_ σ).bind fun r4 =>
  newK σ 1 [(.int .i64 r3), (.int .i64 r4)] fun l5 σ6 =>
  (S.cmp_Or_int (.sl l5 0 2 none) σ6).bind fun r7 =>
  some (r7, σ6)
noncomputable def W.lits_order : Spec := .eff [.I .i64] fun args σ => packs args [.I .i64, .I .i64] fun x => S.lits_order x.1 x.2 σ


noncomputable def S.assign_Assign_Value (a_ : AVal) (l_ : Int) (σ : Heap) : Option Int :=
  nilck a_ (
  fld a_ 0 fun a1 =>
  ld σ a1 (.V) fun v2 =>
  lenV v2 fun n3 =>
  (S.lits_Is l_ (IntKind.i64.wrap (n3 - 1)) σ).bind fun r4 =>
  cond (!r4) (
  some 0)
  (nilck a_ (
  fld a_ 0 fun a5 =>
  ld σ a5 (.V) fun v6 =>
  (S.lits_Var l_ σ).bind fun r7 =>
  ixA σ v6 1 r7 fun a8 =>
  ld σ a8 (.I .i8) fun n9 =>
  (cond (decide (l_ < 0)) (
  some ((IntKind.i64.wrap n9) != 0))
  (some false)).bind fun r10 =>
  (cond r10 (
  some (IntKind.i64.wrap (3 - (IntKind.i64.wrap n9))))
  (some (IntKind.i64.wrap n9))).bind fun r11 =>
  some r11)))
noncomputable def W.assign_Assign_Value : Spec := .pur [.I .i64] fun args σ => packs args [.V, .I .i64] fun x => S.assign_Assign_Value x.1 x.2 σ


noncomputable def S.assign_Assign_Set (a_ : AVal) (l_ : Int) (σ : Heap) : Option (Bool × Heap) :=
  (nilck a_ (
  fld a_ 0 fun a1 =>
  ld σ a1 (.V) fun v2 =>
  lenV v2 fun n3 =>
  (S.lits_Is l_ (IntKind.i64.wrap (n3 - 1)) σ).bind fun r4 =>
  cond (!r4) (
  some true)
  ((S.assign_Assign_Value a_ l_ σ).bind fun r5 =>
  some (r5 == 2)))).bind fun r6 =>
  cond r6 (
  some (false, σ))
  ((cond (decide (l_ > 0)) (
  nilck a_ (
  fld a_ 0 fun a7 =>
  ld σ a7 (.V) fun v8 =>
  ixA σ v8 1 l_ fun a9 =>
  stC σ a9 [(.int .i8 1)] fun σ10 =>
  some ((), σ10)))
  (nilck a_ (
  fld a_ 0 fun a11 =>
  ld σ a11 (.V) fun v12 =>
  ixA σ v12 1 (IntKind.i64.wrap (0 - l_)) fun a13 =>
  stC σ a13 [(.int .i8 2)] fun σ14 =>
  some ((), σ14)))).bind fun r15 =>
  some (true, r15.2))
noncomputable def W.assign_Assign_Set : Spec := .eff [.B] fun args σ => packs args [.V, .I .i64] fun x => S.assign_Assign_Set x.1 x.2 σ


noncomputable def S.rup_Base_closure_1 (l_ : Int) (p1 : AVal) (p2 : AVal) (σ : Heap) : Option (Bool × Heap) :=
  ld σ p1 (.V) fun v1 =>
  (S.assign_Assign_Value v1 l_ σ).bind fun r2 =>
  cond (r2 == 1) (
  some (true, σ))
  (ld σ p2 (.V) fun v3 =>
  newK σ 1 [(.int .i64 l_)] fun l4 σ5 =>
  appS σ5 1 8 v3 (.sl l4 0 1 none) fun v6 σ7 =>
  scal v6 (
  stC σ7 p2 [v6] fun σ8 =>
  ld σ8 p1 (.V) fun v9 =>
  (S.assign_Assign_Set v9 l_ σ8).bind fun r10 =>
  some (r10.1, r10.2)))
noncomputable def W.rup_Base_closure_1 : Spec := .eff [.B] fun args σ => packs args [.I .i64, .V, .V] fun x => S.rup_Base_closure_1 x.1 x.2.1 x.2.2 σ


noncomputable def S.assign_Assign_Clause.b0 (p2 : AVal) (p3 : AVal) (p4 : Int) (σ0 : Heap) : (Int × Int × Int × Int) → Option ((Int × Int × Int × Int) ⊕ ((Int × Int × Int))) := fun x5 =>
  cond (decide (x5.2.2.2 < p4)) (
  (ixA σ0 p3 1 x5.2.2.2 fun a7 =>
  ld σ0 a7 (.I .i64) fun n8 =>
  (S.assign_Assign_Value p2 n8 σ0).bind fun r9 =>
  cond (r9 == 2) (
  some (x5.1, x5.2.1, x5.2.2.1))
  ((cond (r9 == 1) (
  some 1)
  (cond (x5.2.2.1 == 2) (
  some 0)
  (some x5.2.2.1))).bind fun r10 =>
  (cond (x5.2.1 == 0) (
  some true)
  (some (n8 != x5.1))).bind fun r11 =>
  cond r11 (
  some (n8, (IntKind.i64.wrap (x5.2.1 + 1)), r10))
  (some (x5.1, x5.2.1, r10)))).bind fun r12 =>
  some (.inl (r12.1, r12.2.1, r12.2.2, (IntKind.i64.wrap (x5.2.2.2 + 1)))))
  (some (.inr (x5.1, x5.2.1, x5.2.2.1)))
noncomputable def S.assign_Assign_Clause (a_ : AVal) (c_ : AVal) (σ : Heap) : Option (Int × Int) :=
  lenV c_ fun n1 =>
  (loopP (S.assign_Assign_Clause.b0 a_ c_ n1 σ) (0, 0, 2, 0)).bind fun r13 =>
  (cond (r13.2.1 != 1) (
  some true)
  (some (r13.2.2 != 0))).bind fun r14 =>
  (cond r14 (
  some 0)
  (some r13.1)).bind fun r15 =>
  some (r13.2.2, r15)
noncomputable def W.assign_Assign_Clause : Spec := .pur [.I .i64, .I .i64] fun args σ => packs args [.V, .V] fun x => S.assign_Assign_Clause x.1 x.2 σ


noncomputable def S.rup_Base_closure_2.T : FuncId → Option Spec := (tab 60 W.rup_Base_closure_1 (tab 64 W.assign_Assign_Clause noSpec))
noncomputable def S.rup_Base_closure_2 (id_ : Int) (p1 : AVal) (p2 : AVal) (p3 : AVal) (σ : Heap) : Option (Bool × Heap) :=
  ld σ p1 (.V) fun v1 =>
  ld σ p2 (.V) fun v2 =>
  nilck v2 (
  fld v2 1 fun a3 =>
  ld σ a3 (.V) fun v4 =>
  ixA σ v4 1 id_ fun a5 =>
  ld σ a5 (.V) fun v6 =>
  (S.assign_Assign_Clause v1 v6 σ).bind fun r7 =>
  (cond (r7.1 != 2) (
  cond (r7.2 == 0) (
  some (true, σ))
  (ld σ p3 (.V) fun v8 =>
  callV S.rup_Base_closure_2.T v8 [(.int .i64 r7.2)] σ fun r9 σ10 =>
  asK (.B) r9 fun b11 =>
  some (b11, σ10)))
  (some (false, σ))).bind fun r12 =>
  some (r12.1, r12.2))
noncomputable def W.rup_Base_closure_2 : Spec := .eff [.B] fun args σ => packs args [.I .i64, .V, .V, .V] fun x => S.rup_Base_closure_2 x.1 x.2.1 x.2.2.1 x.2.2.2 σ


noncomputable def S.rup_without_1 (x_ : Int) (p1 : AVal) (σ : Heap) : Option Bool :=
  ld σ p1 (.I .i64) fun n1 =>
  some (x_ == n1)
noncomputable def W.rup_without_1 : Spec := .pur [.B] fun args σ => packs args [.I .i64, .V] fun x => S.rup_without_1 x.1 x.2 σ


noncomputable def S.rup_gone_1 (x_ : Int) (p1 : AVal) (σ : Heap) : Option Bool :=
  ld σ p1 (.I .i64) fun n1 =>
  some (x_ == n1)
noncomputable def W.rup_gone_1 : Spec := .pur [.B] fun args σ => packs args [.I .i64, .V] fun x => S.rup_gone_1 x.1 x.2 σ


noncomputable def S.slices_IndexFunc_int_int.T : FuncId → Option Spec := (tab 84 W.rup_gone_1 (tab 71 W.rup_without_1 (tab 63 W.rup_Base_closure_2 (tab 60 W.rup_Base_closure_1 (tab 86 W.lits_order (tab 58 W.rup_Base_right_1 (tab 55 W.lits_Check_1 noSpec)))))))
noncomputable def S.slices_IndexFunc_int_int.b0 (p2 : AVal) (p3 : AVal) (p4 : Int) : Int → Heap → Option ((Int ⊕ (Unit ⊕ Int)) × Heap) := fun x5 σ6 =>
  cond (decide (x5 < p4)) (
  ixA σ6 p2 1 x5 fun a7 =>
  ld σ6 a7 (.I .i64) fun n8 =>
  callV S.slices_IndexFunc_int_int.T p3 [(.int .i64 n8)] σ6 fun r9 σ10 =>
  asK (.B) r9 fun b11 =>
  cond b11 (
  some (.inr (.inr x5), σ10))
  (some (.inl (IntKind.i64.wrap (x5 + 1)), σ10)))
  (some (.inr (.inl ()), σ6))
noncomputable def S.slices_IndexFunc_int_int (s_ : AVal) (f_ : AVal) (σ : Heap) : Option (Int × Heap) :=
  lenV s_ fun n1 =>
  (loopW (S.slices_IndexFunc_int_int.b0 s_ f_ n1) 0 σ).bind fun r12 =>
  (match r12.1 with
 | .inl y13 => some ((-1), r12.2)
 | .inr y14 => some (y14, r12.2))
noncomputable def W.slices_IndexFunc_int_int : Spec := .eff [.I .i64] fun args σ => packs args [.V, .V] fun x => S.slices_IndexFunc_int_int x.1 x.2 σ


noncomputable def S.slices_ContainsFunc_int_int (s_ : AVal) (f_ : AVal) (σ : Heap) : Option (Bool × Heap) :=
  (S.slices_IndexFunc_int_int s_ f_ σ).bind fun r1 =>
  some ((decide (r1.1 ≥ 0)), r1.2)
noncomputable def W.slices_ContainsFunc_int_int : Spec := .eff [.B] fun args σ => packs args [.V, .V] fun x => S.slices_ContainsFunc_int_int x.1 x.2 σ


noncomputable def S.lits_Check.b0 (p6 : AVal) (p7 : AVal) (p8 : Int) (σ0 : Heap) : (Int × Int) → Option ((Int × Int) ⊕ Int) := fun x9 =>
  cond (decide (x9.2 < p8)) (
  ixA σ0 p7 1 x9.2 fun a11 =>
  ld σ0 a11 (.V) fun v12 =>
  lenV v12 fun n13 =>
  some (.inl ((IntKind.i64.wrap (x9.1 + n13)), (IntKind.i64.wrap (x9.2 + 1)))))
  (some (.inr x9.1))
noncomputable def S.lits_Check.b1 (p23 : AVal) (p24 : AVal) (p25 : Int) : Int → Heap → Option ((Int ⊕ (Unit ⊕ AVal)) × Heap) := fun x26 σ27 =>
  cond (decide (x26 < p25)) (
  ixA σ27 p24 1 x26 fun a28 =>
  ld σ27 a28 (.V) fun v29 =>
  (S.slices_ContainsFunc_int_int v29 (.fn (.func 55) [] [p23]) σ27).bind fun r30 =>
  cond r30.1 (
  ld r30.2 (.ptr 1 0) (.V) fun v31 =>
  scal v31 (
  newK r30.2 2 [(.int .i64 x26), v31] fun l32 σ33 =>
  some (.inr (.inr (.ifc 72 (.ptr l32 0))), σ33)))
  (some (.inl (IntKind.i64.wrap (x26 + 1)), r30.2)))
  (some (.inr (.inl ()), σ27))
noncomputable def S.lits_Check (c_ : AVal) (σ : Heap) : Option (AVal × Heap) :=
  aggK c_ 2 fun cs1 =>
  newK σ 2 cs1 fun l2 σ3 =>
  ld σ3 (.ptr l2 1) (.V) fun v4 =>
  lenV v4 fun n5 =>
  (loopP (S.lits_Check.b0 (.ptr l2 0) v4 n5 σ3) (0, 0)).bind fun r14 =>
  (ld σ3 (.ptr l2 0) (.I .i64) fun n15 =>
  cond (decide (n15 < 0)) (
  some true)
  (ld σ3 (.ptr l2 0) (.I .i64) fun n16 =>
  cond (decide (n16 > 4000)) (
  some true)
  (ld σ3 (.ptr l2 1) (.V) fun v17 =>
  lenV v17 fun n18 =>
  cond (decide (n18 > 20000)) (
  some true)
  (some (decide (r14 > 80000)))))).bind fun r19 =>
  cond r19 (
  ld σ3 (.ptr 2 0) (.V) fun v20 =>
  some (v20, σ3))
  (ld σ3 (.ptr l2 1) (.V) fun v21 =>
  lenV v21 fun n22 =>
  (loopW (S.lits_Check.b1 (.ptr l2 0) v21 n22) 0 σ3).bind fun r34 =>
  (match r34.1 with
 | .inl y35 => some (.nili, r34.2)
 | .inr y36 => some (y36, r34.2)))
noncomputable def W.lits_Check : Spec := .eff [.V] fun args σ => packs args [.V] fun x => S.lits_Check x σ


noncomputable def S.proof_at (pos_ : Int) (err_ : AVal) (σ : Heap) : Option (AVal × Heap) :=
  scal err_ (
  newK σ 2 [(.int .i64 pos_), err_] fun l1 σ2 =>
  some ((.ifc 72 (.ptr l1 0)), σ2))
noncomputable def W.proof_at : Spec := .eff [.V] fun args σ => packs args [.I .i64, .V] fun x => S.proof_at x.1 x.2 σ


noncomputable def S.proof_Check.b0 (p2 : AVal) (p3 : Int) : (Int × Int) → Heap → Option (((Int × Int) ⊕ Int) × Heap) := fun x4 σ5 =>
  cond (decide (x4.2 < p3)) (
  ixA σ5 p2 2 x4.2 fun a6 =>
  ldG σ5 a6 2 fun g7 =>
  newK σ5 2 [(.bool false), .nils] fun l8 σ9 =>
  aggK g7 2 fun cs10 =>
  stC σ9 (.ptr l8 0) cs10 fun σ11 =>
  ld σ11 (.ptr l8 1) (.V) fun v12 =>
  lenV v12 fun n13 =>
  some (.inl ((IntKind.i64.wrap (x4.1 + n13)), (IntKind.i64.wrap (x4.2 + 1))), σ11))
  (some (.inr x4.1, σ5))
noncomputable def S.proof_Check.b1 (p29 : Int) (p30 : AVal) (p31 : Int) (p32 : AVal) (p33 : Int) : Int → Heap → Option ((Int ⊕ (Unit ⊕ AVal)) × Heap) := fun x34 σ35 =>
  cond (decide (x34 < p33)) (
  ixA σ35 p32 1 x34 fun a36 =>
  ld σ35 a36 (.I .i64) fun n37 =>
  (S.lits_Is n37 4000 σ35).bind fun r38 =>
  cond (!r38) (
  ld σ35 (.ptr 1 0) (.V) fun v39 =>
  (S.proof_at p29 v39 σ35).bind fun r40 =>
  some (.inr (.inr r40.1), r40.2))
  (some (.inl (IntKind.i64.wrap (x34 + 1)), σ35)))
  (some (.inr (.inl ()), σ35))
noncomputable def S.proof_Check.b2 (p17 : AVal) (p18 : Int) : Int → Heap → Option ((Int ⊕ (Unit ⊕ AVal)) × Heap) := fun x19 σ20 =>
  cond (decide (x19 < p18)) (
  ixA σ20 p17 2 x19 fun a21 =>
  ldG σ20 a21 2 fun g22 =>
  newK σ20 2 [(.bool false), .nils] fun l23 σ24 =>
  aggK g22 2 fun cs25 =>
  stC σ24 (.ptr l23 0) cs25 fun σ26 =>
  ld σ26 (.ptr l23 1) (.V) fun v27 =>
  lenV v27 fun n28 =>
  (loopW (S.proof_Check.b1 x19 p17 p18 v27 n28) 0 σ26).bind fun r41 =>
  (match r41.1 with
 | .inl y42 => some (.inl (IntKind.i64.wrap (x19 + 1)), r41.2)
 | .inr y43 => some (.inr (.inr y43), r41.2)))
  (some (.inr (.inl ()), σ20))
noncomputable def S.proof_Check (l_ : AVal) (σ : Heap) : Option (AVal × Heap) :=
  lenV l_ fun n1 =>
  (loopW (S.proof_Check.b0 l_ n1) (0, 0) σ).bind fun r14 =>
  cond (decide (r14.1 > 320000)) (
  ld r14.2 (.ptr 2 0) (.V) fun v15 =>
  some (v15, r14.2))
  (lenV l_ fun n16 =>
  (loopW (S.proof_Check.b2 l_ n16) 0 r14.2).bind fun r44 =>
  (match r44.1 with
 | .inl y45 => some (.nili, r44.2)
 | .inr y46 => some (y46, r44.2)))
noncomputable def W.proof_Check : Spec := .eff [.V] fun args σ => packs args [.V] fun x => S.proof_Check x σ


noncomputable def S.assign_Cut (vars_ : Int) (σ : Heap) : Option Int :=
  some (if 4000 < (if 0 > vars_ then 0 else vars_) then 4000 else (if 0 > vars_ then 0 else vars_))
noncomputable def W.assign_Cut : Spec := .pur [.I .i64] fun args σ => packs args [.I .i64] fun x => S.assign_Cut x σ


noncomputable def S.rup_Base_right (b_ : AVal) (c_ : AVal) (σ : Heap) : Option (Bool × Heap) :=
  scal b_ (
  newK σ 1 [b_] fun l1 σ2 =>
  (S.slices_ContainsFunc_int_int c_ (.fn (.func 58) [] [(.ptr l1 0)]) σ2).bind fun r3 =>
  some ((!r3.1), r3.2))
noncomputable def W.rup_Base_right : Spec := .eff [.B] fun args σ => packs args [.V, .V] fun x => S.rup_Base_right x.1 x.2 σ


noncomputable def S.slices_Clone_int_int (s_ : AVal) (σ : Heap) : Option (AVal × Heap) :=
  eqS s_ .nils fun b1 =>
  cond b1 (
  some (.nils, σ))
  (newK σ 1 [] fun l2 σ3 =>
  appS σ3 1 8 (.sl l2 0 0 none) s_ fun v4 σ5 =>
  some (v4, σ5))
noncomputable def W.slices_Clone_int_int : Spec := .eff [.V] fun args σ => packs args [.V] fun x => S.slices_Clone_int_int x σ


noncomputable def S.slices_SortFunc_int_int (p0 : AVal) (p1 : AVal) (σ : Heap) := sortFS 86 p0 p1 σ
noncomputable def W.slices_SortFunc_int_int : Spec := .eff [] fun args σ => packs args [.V, .V] fun x => sortFS 86 x.1 x.2 σ


noncomputable def S.slices_Compact_int_int.b0 (p11 : AVal) (p12 : AVal) : (Int × Int) → Heap → Option (((Int × Int) ⊕ Int) × Heap) := fun x13 σ14 =>
  lenV p12 fun n15 =>
  cond (decide (x13.2 < n15)) (
  (ixA σ14 p12 1 x13.2 fun a16 =>
  ld σ14 a16 (.I .i64) fun n17 =>
  ixA σ14 p12 1 (IntKind.i64.wrap (x13.2 - 1)) fun a18 =>
  ld σ14 a18 (.I .i64) fun n19 =>
  cond (n17 != n19) (
  ixA σ14 p12 1 x13.2 fun a20 =>
  ld σ14 a20 (.I .i64) fun n21 =>
  ixA σ14 p11 1 x13.1 fun a22 =>
  stC σ14 a22 [(.int .i64 n21)] fun σ23 =>
  some ((IntKind.i64.wrap (x13.1 + 1)), σ23))
  (some (x13.1, σ14))).bind fun r24 =>
  some (.inl (r24.1, (IntKind.i64.wrap (x13.2 + 1))), r24.2))
  (some (.inr x13.1, σ14))
noncomputable def S.slices_Compact_int_int.b1 (p2 : AVal) : Int → Heap → Option ((Int ⊕ (Unit ⊕ AVal)) × Heap) := fun x3 σ4 =>
  lenV p2 fun n5 =>
  cond (decide (x3 < n5)) (
  ixA σ4 p2 1 x3 fun a6 =>
  ld σ4 a6 (.I .i64) fun n7 =>
  ixA σ4 p2 1 (IntKind.i64.wrap (x3 - 1)) fun a8 =>
  ld σ4 a8 (.I .i64) fun n9 =>
  cond (n7 == n9) (
  slS σ4 1 p2 x3 none none fun v10 =>
  (loopW (S.slices_Compact_int_int.b0 p2 v10) (x3, 1) σ4).bind fun r25 =>
  slS r25.2 1 p2 r25.1 none none fun v26 =>
  clearK r25.2 1 [(.int .i64 0)] v26 fun σ27 =>
  slS σ27 1 p2 0 (some r25.1) none fun v28 =>
  some (.inr (.inr v28), σ27))
  (some (.inl (IntKind.i64.wrap (x3 + 1)), σ4)))
  (some (.inr (.inl ()), σ4))
noncomputable def S.slices_Compact_int_int (s_ : AVal) (σ : Heap) : Option (AVal × Heap) :=
  lenV s_ fun n1 =>
  cond (decide (n1 < 2)) (
  some (s_, σ))
  ((loopW (S.slices_Compact_int_int.b1 s_) 1 σ).bind fun r29 =>
  (match r29.1 with
 | .inl y30 => some (s_, r29.2)
 | .inr y31 => some (y31, r29.2)))
noncomputable def W.slices_Compact_int_int : Spec := .eff [.V] fun args σ => packs args [.V] fun x => S.slices_Compact_int_int x σ


noncomputable def S.slices_Clip_int_int (s_ : AVal) (σ : Heap) : Option AVal :=
  lenV s_ fun n1 =>
  lenV s_ fun n2 =>
  slS σ 1 s_ 0 (some n1) (some n2) fun v3 =>
  some v3
noncomputable def W.slices_Clip_int_int : Spec := .pur [.V] fun args σ => packs args [.V] fun x => S.slices_Clip_int_int x σ


noncomputable def S.lits_Norm.b0 (p5 : AVal) (σ0 : Heap) : Int → Option (Int ⊕ (Unit ⊕ (AVal × Bool))) := fun x6 =>
  lenV p5 fun n8 =>
  cond (decide (x6 < n8)) (
  ixA σ0 p5 1 x6 fun a9 =>
  ld σ0 a9 (.I .i64) fun n10 =>
  (S.lits_Var n10 σ0).bind fun r11 =>
  ixA σ0 p5 1 (IntKind.i64.wrap (x6 - 1)) fun a12 =>
  ld σ0 a12 (.I .i64) fun n13 =>
  (S.lits_Var n13 σ0).bind fun r14 =>
  cond (r11 == r14) (
  some (.inr (.inr (p5, false))))
  (some (.inl (IntKind.i64.wrap (x6 + 1)))))
  (some (.inr (.inl ())))
noncomputable def S.lits_Norm (c_ : AVal) (σ : Heap) : Option ((AVal × Bool) × Heap) :=
  (S.slices_Clone_int_int c_ σ).bind fun r1 =>
  (S.slices_SortFunc_int_int r1.1 (.fn (.func 86) [] []) r1.2).bind fun r2 =>
  (S.slices_Compact_int_int r1.1 r2.2).bind fun r3 =>
  (S.slices_Clip_int_int r3.1 r3.2).bind fun r4 =>
  (loopP (S.lits_Norm.b0 r4 r3.2) 1).bind fun r15 =>
  (match r15 with
 | .inl y16 => some ((r4, true), r3.2)
 | .inr y17 => some ((y17.1, y17.2), r3.2))
noncomputable def W.lits_Norm : Spec := .eff [.V, .B] fun args σ => packs args [.V] fun x => S.lits_Norm x σ


noncomputable def S.rup_Base_Add.b0 (p24 : AVal) (p25 : AVal) (p26 : Int) (p27 : Int) : Int → Heap → Option ((Int ⊕ Unit) × Heap) := fun x28 σ29 =>
  cond (decide (x28 < p27)) (
  ixA σ29 p25 1 x28 fun a30 =>
  ld σ29 a30 (.I .i64) fun n31 =>
  nilck p24 (
  fld p24 3 fun a32 =>
  ld σ29 a32 (.V) fun v33 =>
  nilck p24 (
  fld p24 3 fun a34 =>
  ld σ29 a34 (.V) fun v35 =>
  mgetZ σ29 v35 .i64 n31 .nils fun x36 b37 =>
  ld σ29 a32 (.V) fun v38 =>
  chk ((v38 : AVal) = v33) (
  newK σ29 1 [(.int .i64 p26)] fun l39 σ40 =>
  appS σ40 1 8 x36 (.sl l39 0 1 none) fun v41 σ42 =>
  ld σ42 a32 (.V) fun v43 =>
  chk ((v43 : AVal) = v33) (
  mputK σ42 v33 .i64 n31 v41 fun σ44 =>
  some (.inl (IntKind.i64.wrap (x28 + 1)), σ44))))))
  (some (.inr (), σ29))
noncomputable def S.rup_Base_Add (p0 : AVal) (p1 : AVal) (σ : Heap) : Option (Bool × Heap) :=
  (S.rup_Base_right p0 p1 σ).bind fun r1 =>
  cond (!r1.1) (
  some (false, r1.2))
  ((S.lits_Norm p1 r1.2).bind fun r2 =>
  nilck p0 (
  fld p0 1 fun a3 =>
  ld r2.2 a3 (.V) fun v4 =>
  lenV v4 fun n5 =>
  nilck p0 (
  fld p0 1 fun a6 =>
  ld r2.2 a6 (.V) fun v7 =>
  scal r2.1.1 (
  newK r2.2 1 [r2.1.1] fun l8 σ9 =>
  appS σ9 1 24 v7 (.sl l8 0 1 none) fun v10 σ11 =>
  nilck p0 (
  fld p0 2 fun a12 =>
  ld σ11 a12 (.V) fun v13 =>
  ld r2.2 a12 (.V) fun v14 =>
  chk ((v14 : AVal) = v13) (
  newK σ11 1 [(.bool true)] fun l15 σ16 =>
  appS σ16 1 1 v13 (.sl l15 0 1 none) fun v17 σ18 =>
  nilck p0 (
  fld p0 1 fun a19 =>
  scal v10 (
  stC σ18 a19 [v10] fun σ20 =>
  nilck p0 (
  fld p0 2 fun a21 =>
  scal v17 (
  stC σ20 a21 [v17] fun σ22 =>
  lenV r2.1.1 fun n23 =>
  (loopW (S.rup_Base_Add.b0 p0 r2.1.1 n5 n23) 0 σ22).bind fun r45 =>
  lenV r2.1.1 fun n46 =>
  (cond (decide (n46 < 2)) (
  nilck p0 (
  fld p0 4 fun a47 =>
  ld r45.2 a47 (.V) fun v48 =>
  newK r45.2 1 [(.int .i64 n5)] fun l49 σ50 =>
  appS σ50 1 8 v48 (.sl l49 0 1 none) fun v51 σ52 =>
  nilck p0 (
  fld p0 4 fun a53 =>
  scal v51 (
  stC σ52 a53 [v51] fun σ54 =>
  some ((), σ54)))))
  (some ((), r45.2))).bind fun r55 =>
  nilck p0 (
  fld p0 5 fun a56 =>
  ld r55.2 a56 (.I .i64) fun n57 =>
  nilck p0 (
  fld p0 5 fun a58 =>
  stC r55.2 a58 [(.int .i64 (IntKind.i64.wrap (n57 + 1)))] fun σ59 =>
  some (true, σ59)))))))))))))
noncomputable def W.rup_Base_Add : Spec := .eff [.B] fun args σ => packs args [.V, .V] fun x => S.rup_Base_Add x.1 x.2 σ


noncomputable def S.rup_New.b0 (p7 : AVal) (p8 : AVal) (p9 : Int) : Int → Heap → Option ((Int ⊕ (Unit ⊕ (AVal × AVal))) × Heap) := fun x10 σ11 =>
  cond (decide (x10 < p9)) (
  ixA σ11 p8 1 x10 fun a12 =>
  ld σ11 a12 (.V) fun v13 =>
  (S.rup_Base_Add p7 v13 σ11).bind fun r14 =>
  cond (!r14.1) (
  ld r14.2 (.ptr 1 0) (.V) fun v15 =>
  some (.inr (.inr (.nilp, v15)), r14.2))
  (some (.inl (IntKind.i64.wrap (x10 + 1)), r14.2)))
  (some (.inr (.inl ()), σ11))
noncomputable def S.rup_New (vars_ : Int) (c_ : AVal) (σ : Heap) : Option ((AVal × AVal) × Heap) :=
  (S.assign_Cut vars_ σ).bind fun r1 =>
  newM σ fun l2 σ3 =>
  newK σ3 6 [(.int .i64 r1), .nils, .nils, (.map l2), .nils, (.int .i64 0)] fun l4 σ5 =>
  lenV c_ fun n6 =>
  (loopW (S.rup_New.b0 (.ptr l4 0) c_ n6) 0 σ5).bind fun r16 =>
  (match r16.1 with
 | .inl y17 => some (((.ptr l4 0), .nili), r16.2)
 | .inr y18 => some ((y18.1, y18.2), r16.2))
noncomputable def W.rup_New : Spec := .eff [.V, .V] fun args σ => packs args [.I .i64, .V] fun x => S.rup_New x.1 x.2 σ


noncomputable def S.drat_begin.b0 (p24 : AVal) (p25 : AVal) (p26 : Int) (p27 : Int) (p28 : AVal) (p29 : Int) (σ0 : Heap) : (Int × Int) → Option ((Int × Int) ⊕ Int) := fun x30 =>
  cond (decide (x30.2 < p29)) (
  ixA σ0 p28 1 x30.2 fun a32 =>
  ld σ0 a32 (.I .i64) fun n33 =>
  (S.lits_Var n33 σ0).bind fun r34 =>
  some (.inl ((if r34 > x30.1 then r34 else x30.1), (IntKind.i64.wrap (x30.2 + 1)))))
  (some (.inr x30.1))
noncomputable def S.drat_begin.b1 (p11 : AVal) (p12 : AVal) (p13 : Int) : (Int × Int) → Heap → Option (((Int × Int) ⊕ Int) × Heap) := fun x14 σ15 =>
  cond (decide (x14.2 < p13)) (
  ixA σ15 p12 2 x14.2 fun a16 =>
  ldG σ15 a16 2 fun g17 =>
  newK σ15 2 [(.bool false), .nils] fun l18 σ19 =>
  aggK g17 2 fun cs20 =>
  stC σ19 (.ptr l18 0) cs20 fun σ21 =>
  ld σ21 (.ptr l18 1) (.V) fun v22 =>
  lenV v22 fun n23 =>
  (loopP (S.drat_begin.b0 p11 p12 p13 x14.2 v22 n23 σ21) (x14.1, 0)).bind fun r35 =>
  some (.inl (r35, (IntKind.i64.wrap (x14.2 + 1))), σ21))
  (some (.inr x14.1, σ15))
noncomputable def S.drat_begin (c_ : AVal) (l_ : AVal) (σ : Heap) : Option ((AVal × Int × AVal) × Heap) :=
  aggK c_ 2 fun cs1 =>
  newK σ 2 cs1 fun l2 σ3 =>
  ldG σ3 (.ptr l2 0) 2 fun g4 =>
  (S.lits_Check g4 σ3).bind fun r5 =>
  eqI (tiOf Tryz.prog) r5.2 true r5.1 .nili fun b6 =>
  cond (!b6) (
  some ((.nilp, 0, r5.1), r5.2))
  ((S.proof_Check l_ r5.2).bind fun r7 =>
  eqI (tiOf Tryz.prog) r7.2 true r7.1 .nili fun b8 =>
  cond (!b8) (
  some ((.nilp, 0, r7.1), r7.2))
  (ld r7.2 (.ptr l2 0) (.I .i64) fun n9 =>
  lenV l_ fun n10 =>
  (loopW (S.drat_begin.b1 (.ptr l2 0) l_ n10) (n9, 0) r7.2).bind fun r36 =>
  ld r36.2 (.ptr l2 1) (.V) fun v37 =>
  (S.rup_New r36.1 v37 r36.2).bind fun r38 =>
  some ((r38.1.1, r36.1, r38.1.2), r38.2)))
noncomputable def W.drat_begin : Spec := .eff [.V, .I .i64, .V] fun args σ => packs args [.V, .V] fun x => S.drat_begin x.1 x.2 σ


noncomputable def S.assign_New (vars_ : Int) (σ : Heap) : Option (AVal × Heap) :=
  (S.assign_Cut vars_ σ).bind fun r1 =>
  mkS σ 1 1 [(.int .i8 0)] (IntKind.i64.wrap (r1 + 1)) (IntKind.i64.wrap (r1 + 1)) fun v2 σ3 =>
  scal v2 (
  newK σ3 1 [v2] fun l4 σ5 =>
  some ((.ptr l4 0), σ5))
noncomputable def W.assign_New : Spec := .eff [.V] fun args σ => packs args [.I .i64] fun x => S.assign_New x σ


noncomputable def S.rup_Base_closure.T : FuncId → Option Spec := (tab 63 W.rup_Base_closure_2 (tab 60 W.rup_Base_closure_1 (tab 59 W.assign_New noSpec)))
noncomputable def S.rup_Base_closure.b0 (p16 : AVal) (p17 : AVal) (p18 : AVal) (p19 : AVal) (p20 : AVal) (p21 : Int) : Int → Heap → Option ((Int ⊕ (Unit ⊕ (AVal × Bool))) × Heap) := fun x22 σ23 =>
  cond (decide (x22 < p21)) (
  ixA σ23 p20 1 x22 fun a24 =>
  ld σ23 a24 (.I .i64) fun n25 =>
  ld σ23 p19 (.V) fun v26 =>
  callV S.rup_Base_closure.T v26 [(.int .i64 n25)] σ23 fun r27 σ28 =>
  asK (.B) r27 fun b29 =>
  cond (!b29) (
  some (.inr (.inr (.nilp, false)), σ28))
  (some (.inl (IntKind.i64.wrap (x22 + 1)), σ28)))
  (some (.inr (.inl ()), σ23))
noncomputable def S.rup_Base_closure.b1 (p37 : AVal) (p38 : AVal) (p39 : AVal) (p40 : AVal) (p41 : AVal) (p42 : Int) : Int → Heap → Option ((Int ⊕ (Unit ⊕ (AVal × Bool))) × Heap) := fun x43 σ44 =>
  cond (decide (x43 < p42)) (
  ixA σ44 p41 1 x43 fun a45 =>
  ld σ44 a45 (.I .i64) fun n46 =>
  (S.rup_Base_closure_2 n46 p38 p37 p40 σ44).bind fun r47 =>
  cond (!r47.1) (
  some (.inr (.inr (.nilp, false)), r47.2))
  (some (.inl (IntKind.i64.wrap (x43 + 1)), r47.2)))
  (some (.inr (.inl ()), σ44))
noncomputable def S.rup_Base_closure.b2 (p71 : AVal) (p72 : AVal) (p73 : AVal) (p74 : AVal) (p75 : AVal) (p76 : Int) : Int → Heap → Option ((Int ⊕ (Unit ⊕ (AVal × Bool))) × Heap) := fun x77 σ78 =>
  cond (decide (x77 < p76)) (
  ixA σ78 p75 1 x77 fun a79 =>
  ld σ78 a79 (.I .i64) fun n80 =>
  (S.rup_Base_closure_2 n80 p72 p71 p74 σ78).bind fun r81 =>
  cond (!r81.1) (
  some (.inr (.inr (.nilp, false)), r81.2))
  (some (.inl (IntKind.i64.wrap (x77 + 1)), r81.2)))
  (some (.inr (.inl ()), σ78))
noncomputable def S.rup_Base_closure.b3 (p51 : AVal) (p52 : AVal) (p53 : AVal) (p54 : AVal) : Unit → Heap → Option ((Unit ⊕ (Unit ⊕ (AVal × Bool))) × Heap) := fun x55 σ56 =>
  ld σ56 p53 (.V) fun v57 =>
  lenV v57 fun n58 =>
  cond (decide (n58 > 0)) (
  ld σ56 p53 (.V) fun v59 =>
  ixA σ56 v59 1 0 fun a60 =>
  ld σ56 a60 (.I .i64) fun n61 =>
  ld σ56 p53 (.V) fun v62 =>
  slS σ56 1 v62 1 none none fun v63 =>
  scal v63 (
  stC σ56 p53 [v63] fun σ64 =>
  ld σ64 p51 (.V) fun v65 =>
  nilck v65 (
  fld v65 3 fun a66 =>
  ld σ64 a66 (.V) fun v67 =>
  mgetZ σ64 v67 .i64 (IntKind.i64.wrap (0 - n61)) .nils fun x68 b69 =>
  lenV x68 fun n70 =>
  (loopW (S.rup_Base_closure.b2 p51 p52 p53 p54 x68 n70) 0 σ64).bind fun r82 =>
  (match r82.1 with
 | .inl y83 => some (.inl (), r82.2)
 | .inr y84 => some (.inr (.inr (y84.1, y84.2)), r82.2)))))
  (some (.inr (.inl ()), σ56))
noncomputable def S.rup_Base_closure (p0 : AVal) (p1 : AVal) (σ : Heap) : Option ((AVal × Bool) × Heap) :=
  scal p0 (
  newK σ 1 [p0] fun l1 σ2 =>
  ld σ2 (.ptr l1 0) (.V) fun v3 =>
  nilck v3 (
  fld v3 0 fun a4 =>
  ld σ2 a4 (.I .i64) fun n5 =>
  (S.assign_New n5 σ2).bind fun r6 =>
  newK r6.2 1 [.nilp] fun l7 σ8 =>
  scal r6.1 (
  stC σ8 (.ptr l7 0) [r6.1] fun σ9 =>
  newK σ9 1 [.nils] fun l10 σ11 =>
  newK σ11 1 [.nilf] fun l12 σ13 =>
  stC σ13 (.ptr l12 0) [(.fn (.func 60) [] [(.ptr l7 0), (.ptr l10 0)])] fun σ14 =>
  lenV p1 fun n15 =>
  (loopW (S.rup_Base_closure.b0 (.ptr l1 0) (.ptr l7 0) (.ptr l10 0) (.ptr l12 0) p1 n15) 0 σ14).bind fun r30 =>
  (match r30.1 with
 | .inl y31 => ld r30.2 (.ptr l1 0) (.V) fun v33 =>
  nilck v33 (
  fld v33 4 fun a34 =>
  ld r30.2 a34 (.V) fun v35 =>
  lenV v35 fun n36 =>
  (loopW (S.rup_Base_closure.b1 (.ptr l1 0) (.ptr l7 0) (.ptr l10 0) (.ptr l12 0) v35 n36) 0 r30.2).bind fun r48 =>
  (match r48.1 with
 | .inl y49 => (loopW (S.rup_Base_closure.b3 (.ptr l1 0) (.ptr l7 0) (.ptr l10 0) (.ptr l12 0)) () r48.2).bind fun r85 =>
  (match r85.1 with
 | .inl y86 => ld r85.2 (.ptr l7 0) (.V) fun v88 =>
  some ((v88, true), r85.2)
 | .inr y87 => some ((y87.1, y87.2), r85.2))
 | .inr y50 => some ((y50.1, y50.2), r48.2)))
 | .inr y32 => some ((y32.1, y32.2), r30.2)))))
noncomputable def W.rup_Base_closure : Spec := .eff [.V, .B] fun args σ => packs args [.V, .V] fun x => S.rup_Base_closure x.1 x.2 σ


noncomputable def S.rup_Base_Implied.b0 (p6 : AVal) (p7 : AVal) (p8 : Int) : (AVal × Int) → Heap → Option (((AVal × Int) ⊕ AVal) × Heap) := fun x9 σ10 =>
  cond (decide (x9.2 < p8)) (
  ixA σ10 p7 1 x9.2 fun a11 =>
  ld σ10 a11 (.I .i64) fun n12 =>
  newK σ10 1 [(.int .i64 (IntKind.i64.wrap (0 - n12)))] fun l13 σ14 =>
  appS σ14 1 8 x9.1 (.sl l13 0 1 none) fun v15 σ16 =>
  some (.inl (v15, (IntKind.i64.wrap (x9.2 + 1))), σ16))
  (some (.inr x9.1, σ10))
noncomputable def S.rup_Base_Implied (b_ : AVal) (c_ : AVal) (σ : Heap) : Option (Bool × Heap) :=
  (S.rup_Base_right b_ c_ σ).bind fun r1 =>
  cond (!r1.1) (
  some (false, r1.2))
  (lenV c_ fun n2 =>
  mkS r1.2 1 8 [(.int .i64 0)] 0 n2 fun v3 σ4 =>
  lenV c_ fun n5 =>
  (loopW (S.rup_Base_Implied.b0 b_ c_ n5) (v3, 0) σ4).bind fun r17 =>
  (S.rup_Base_closure b_ r17.1 r17.2).bind fun r18 =>
  some ((!r18.1.2), r18.2))
noncomputable def W.rup_Base_Implied : Spec := .eff [.B] fun args σ => packs args [.V, .V] fun x => S.rup_Base_Implied x.1 x.2 σ


noncomputable def S.slices_DeleteFunc_int_int.T : FuncId → Option Spec := (tab 84 W.rup_gone_1 (tab 71 W.rup_without_1 (tab 63 W.rup_Base_closure_2 (tab 60 W.rup_Base_closure_1 (tab 86 W.lits_order (tab 58 W.rup_Base_right_1 (tab 55 W.lits_Check_1 (tab 82 W.slices_IndexFunc_int_int noSpec))))))))
noncomputable def S.slices_DeleteFunc_int_int.b0 (p2 : AVal) (p3 : AVal) : (Int × Int) → Heap → Option (((Int × Int) ⊕ Int) × Heap) := fun x4 σ5 =>
  lenV p2 fun n6 =>
  cond (decide (x4.2 < n6)) (
  (ixA σ5 p2 1 x4.2 fun a7 =>
  ld σ5 a7 (.I .i64) fun n8 =>
  callV S.slices_DeleteFunc_int_int.T p3 [(.int .i64 n8)] σ5 fun r9 σ10 =>
  asK (.B) r9 fun b11 =>
  cond (!b11) (
  ixA σ10 p2 1 x4.1 fun a12 =>
  stC σ10 a12 [(.int .i64 n8)] fun σ13 =>
  some ((IntKind.i64.wrap (x4.1 + 1)), σ13))
  (some (x4.1, σ10))).bind fun r14 =>
  some (.inl (r14.1, (IntKind.i64.wrap (x4.2 + 1))), r14.2))
  (some (.inr x4.1, σ5))
noncomputable def S.slices_DeleteFunc_int_int (s_ : AVal) (del_ : AVal) (σ : Heap) : Option (AVal × Heap) :=
  (S.slices_IndexFunc_int_int s_ del_ σ).bind fun r1 =>
  cond (r1.1 == (-1)) (
  some (s_, r1.2))
  ((loopW (S.slices_DeleteFunc_int_int.b0 s_ del_) (r1.1, (IntKind.i64.wrap (r1.1 + 1))) r1.2).bind fun r15 =>
  slS r15.2 1 s_ r15.1 none none fun v16 =>
  clearK r15.2 1 [(.int .i64 0)] v16 fun σ17 =>
  slS σ17 1 s_ 0 (some r15.1) none fun v18 =>
  some (v18, σ17))
noncomputable def W.slices_DeleteFunc_int_int : Spec := .eff [.V] fun args σ => packs args [.V, .V] fun x => S.slices_DeleteFunc_int_int x.1 x.2 σ


noncomputable def S.rup_without (c_ : AVal) (l_ : Int) (σ : Heap) : Option (AVal × Heap) :=
  newK σ 1 [(.int .i64 l_)] fun l1 σ2 =>
  (S.slices_Clone_int_int c_ σ2).bind fun r3 =>
  (S.slices_DeleteFunc_int_int r3.1 (.fn (.func 71) [] [(.ptr l1 0)]) r3.2).bind fun r4 =>
  some (r4.1, r4.2)
noncomputable def W.rup_without : Spec := .eff [.V] fun args σ => packs args [.V, .I .i64] fun x => S.rup_without x.1 x.2 σ


noncomputable def S.slices_Grow_int_int (s_ : AVal) (n_ : Int) (σ : Heap) : Option (AVal × Heap) :=
  (cond (decide (n_ < 0)) (
  none)
  (some ((), σ))).bind fun r1 =>
  capV s_ fun n2 =>
  lenV s_ fun n3 =>
  (cond (decide ((IntKind.i64.wrap (n_ - (IntKind.i64.wrap (n2 - n3)))) > 0)) (
  capV s_ fun n4 =>
  slS r1.2 1 s_ 0 (some n4) none fun v5 =>
  appZ r1.2 1 8 [(.int .i64 0)] v5 (IntKind.i64.wrap (n_ - (IntKind.i64.wrap (n2 - n3)))) fun v6 σ7 =>
  lenV s_ fun n8 =>
  slS σ7 1 v6 0 (some n8) none fun v9 =>
  some (v9, σ7))
  (some (s_, r1.2))).bind fun r10 =>
  some (r10.1, r10.2)
noncomputable def W.slices_Grow_int_int : Spec := .eff [.V] fun args σ => packs args [.V, .I .i64] fun x => S.slices_Grow_int_int x.1 x.2 σ


noncomputable def S.slices_Concat_int_int.b0 (p2 : AVal) (p3 : Int) : (Int × Int) → Heap → Option (((Int × Int) ⊕ Int) × Heap) := fun x4 σ5 =>
  cond (decide (x4.2 < p3)) (
  (ixA σ5 p2 1 x4.2 fun a6 =>
  ld σ5 a6 (.V) fun v7 =>
  lenV v7 fun n8 =>
  cond (decide ((IntKind.i64.wrap (x4.1 + n8)) < 0)) (
  none)
  (some ((IntKind.i64.wrap (x4.1 + n8)), σ5))).bind fun r9 =>
  some (.inl (r9.1, (IntKind.i64.wrap (x4.2 + 1))), r9.2))
  (some (.inr x4.1, σ5))
noncomputable def S.slices_Concat_int_int.b1 (p13 : AVal) (p14 : Int) : (AVal × Int) → Heap → Option (((AVal × Int) ⊕ AVal) × Heap) := fun x15 σ16 =>
  cond (decide (x15.2 < p14)) (
  ixA σ16 p13 1 x15.2 fun a17 =>
  ld σ16 a17 (.V) fun v18 =>
  appS σ16 1 8 x15.1 v18 fun v19 σ20 =>
  some (.inl (v19, (IntKind.i64.wrap (x15.2 + 1))), σ20))
  (some (.inr x15.1, σ16))
noncomputable def S.slices_Concat_int_int (slices_ : AVal) (σ : Heap) : Option (AVal × Heap) :=
  lenV slices_ fun n1 =>
  (loopW (S.slices_Concat_int_int.b0 slices_ n1) (0, 0) σ).bind fun r10 =>
  (S.slices_Grow_int_int .nils r10.1 r10.2).bind fun r11 =>
  lenV slices_ fun n12 =>
  (loopW (S.slices_Concat_int_int.b1 slices_ n12) (r11.1, 0) r11.2).bind fun r21 =>
  some (r21.1, r21.2)
noncomputable def W.slices_Concat_int_int : Spec := .eff [.V] fun args σ => packs args [.V] fun x => S.slices_Concat_int_int x σ


noncomputable def S.rup_Base_Blocked.b0 (p12 : AVal) (p13 : AVal) (p14 : AVal) (p15 : Int) : Int → Heap → Option ((Int ⊕ (Unit ⊕ Bool)) × Heap) := fun x16 σ17 =>
  cond (decide (x16 < p15)) (
  ixA σ17 p14 1 x16 fun a18 =>
  ld σ17 a18 (.I .i64) fun n19 =>
  nilck p12 (
  fld p12 1 fun a20 =>
  ld σ17 a20 (.V) fun v21 =>
  ixA σ17 v21 1 n19 fun a22 =>
  ld σ17 a22 (.V) fun v23 =>
  ixA σ17 p13 1 0 fun a24 =>
  ld σ17 a24 (.I .i64) fun n25 =>
  (S.rup_without v23 (IntKind.i64.wrap (0 - n25)) σ17).bind fun r26 =>
  scal p13 (
  scal r26.1 (
  newK r26.2 1 [p13, r26.1] fun l27 σ28 =>
  (S.slices_Concat_int_int (.sl l27 0 2 none) σ28).bind fun r29 =>
  (S.rup_Base_Implied p12 r29.1 r29.2).bind fun r30 =>
  cond (!r30.1) (
  some (.inr (.inr false), r30.2))
  (some (.inl (IntKind.i64.wrap (x16 + 1)), r30.2))))))
  (some (.inr (.inl ()), σ17))
noncomputable def S.rup_Base_Blocked (b_ : AVal) (c_ : AVal) (σ : Heap) : Option (Bool × Heap) :=
  (S.rup_Base_Implied b_ c_ σ).bind fun r1 =>
  cond r1.1 (
  some (true, r1.2))
  ((lenV c_ fun n2 =>
  cond (n2 == 0) (
  some (true, r1.2))
  ((S.rup_Base_right b_ c_ r1.2).bind fun r3 =>
  some ((!r3.1), r3.2))).bind fun r4 =>
  cond r4.1 (
  some (false, r4.2))
  (nilck b_ (
  fld b_ 3 fun a5 =>
  ld r4.2 a5 (.V) fun v6 =>
  ixA r4.2 c_ 1 0 fun a7 =>
  ld r4.2 a7 (.I .i64) fun n8 =>
  mgetZ r4.2 v6 .i64 (IntKind.i64.wrap (0 - n8)) .nils fun x9 b10 =>
  lenV x9 fun n11 =>
  (loopW (S.rup_Base_Blocked.b0 b_ c_ x9 n11) 0 r4.2).bind fun r31 =>
  (match r31.1 with
 | .inl y32 => some (true, r31.2)
 | .inr y33 => some (y33, r31.2)))))
noncomputable def W.rup_Base_Blocked : Spec := .eff [.B] fun args σ => packs args [.V, .V] fun x => S.rup_Base_Blocked x.1 x.2 σ


noncomputable def S.slices_Equal_int_int.b0 (p4 : AVal) (p5 : AVal) (p6 : Int) (σ0 : Heap) : Int → Option (Int ⊕ (Unit ⊕ Bool)) := fun x7 =>
  cond (decide (x7 < p6)) (
  ixA σ0 p4 1 x7 fun a9 =>
  ld σ0 a9 (.I .i64) fun n10 =>
  ixA σ0 p5 1 x7 fun a11 =>
  ld σ0 a11 (.I .i64) fun n12 =>
  cond (n10 != n12) (
  some (.inr (.inr false)))
  (some (.inl (IntKind.i64.wrap (x7 + 1)))))
  (some (.inr (.inl ())))
noncomputable def S.slices_Equal_int_int (s1_ : AVal) (s2_ : AVal) (σ : Heap) : Option Bool :=
  lenV s1_ fun n1 =>
  lenV s2_ fun n2 =>
  cond (n1 != n2) (
  some false)
  (lenV s1_ fun n3 =>
  (loopP (S.slices_Equal_int_int.b0 s1_ s2_ n3 σ) 0).bind fun r13 =>
  (match r13 with
 | .inl y14 => some true
 | .inr y15 => some y15))
noncomputable def W.slices_Equal_int_int : Spec := .pur [.B] fun args σ => packs args [.V, .V] fun x => S.slices_Equal_int_int x.1 x.2 σ


noncomputable def S.rup_Base_find.b0 (p13 : AVal) (p14 : AVal) (p15 : AVal) (p16 : Int) (σ0 : Heap) : Int → Option (Int ⊕ (Unit ⊕ Int)) := fun x17 =>
  cond (decide (x17 < p16)) (
  ixA σ0 p15 1 x17 fun a19 =>
  ld σ0 a19 (.I .i64) fun n20 =>
  (nilck p13 (
  fld p13 2 fun a21 =>
  ld σ0 a21 (.V) fun v22 =>
  ixA σ0 v22 1 n20 fun a23 =>
  ld σ0 a23 (.B) fun b24 =>
  cond b24 (
  nilck p13 (
  fld p13 1 fun a25 =>
  ld σ0 a25 (.V) fun v26 =>
  ixA σ0 v26 1 n20 fun a27 =>
  ld σ0 a27 (.V) fun v28 =>
  (S.slices_Equal_int_int v28 p14 σ0).bind fun r29 =>
  some r29))
  (some false))).bind fun r30 =>
  cond r30 (
  some (.inr (.inr n20)))
  (some (.inl (IntKind.i64.wrap (x17 + 1)))))
  (some (.inr (.inl ())))
noncomputable def S.rup_Base_find (b_ : AVal) (c_ : AVal) (σ : Heap) : Option (Int × Heap) :=
  (S.lits_Norm c_ σ).bind fun r1 =>
  nilck b_ (
  fld b_ 4 fun a2 =>
  ld r1.2 a2 (.V) fun v3 =>
  lenV r1.1.1 fun n4 =>
  (cond (decide (n4 > 0)) (
  nilck b_ (
  fld b_ 3 fun a5 =>
  ld r1.2 a5 (.V) fun v6 =>
  ixA r1.2 r1.1.1 1 0 fun a7 =>
  ld r1.2 a7 (.I .i64) fun n8 =>
  mgetZ r1.2 v6 .i64 n8 .nils fun x9 b10 =>
  some (x9, r1.2)))
  (some (v3, r1.2))).bind fun r11 =>
  lenV r11.1 fun n12 =>
  (loopP (S.rup_Base_find.b0 b_ r1.1.1 r11.1 n12 r11.2) 0).bind fun r31 =>
  (match r31 with
 | .inl y32 => some ((-1), r11.2)
 | .inr y33 => some (y33, r11.2)))
noncomputable def W.rup_Base_find : Spec := .eff [.I .i64] fun args σ => packs args [.V, .V] fun x => S.rup_Base_find x.1 x.2 σ


noncomputable def S.rup_gone (l_ : AVal) (id_ : Int) (σ : Heap) : Option (AVal × Heap) :=
  newK σ 1 [(.int .i64 id_)] fun l1 σ2 =>
  (S.slices_DeleteFunc_int_int l_ (.fn (.func 84) [] [(.ptr l1 0)]) σ2).bind fun r3 =>
  some (r3.1, r3.2)
noncomputable def W.rup_gone : Spec := .eff [.V] fun args σ => packs args [.V, .I .i64] fun x => S.rup_gone x.1 x.2 σ


noncomputable def S.rup_Base_Drop.b0 (p7 : AVal) (p8 : Int) (p9 : AVal) (p10 : Int) : Int → Heap → Option ((Int ⊕ Unit) × Heap) := fun x11 σ12 =>
  cond (decide (x11 < p10)) (
  ixA σ12 p9 1 x11 fun a13 =>
  ld σ12 a13 (.I .i64) fun n14 =>
  nilck p7 (
  fld p7 3 fun a15 =>
  ld σ12 a15 (.V) fun v16 =>
  nilck p7 (
  fld p7 3 fun a17 =>
  ld σ12 a17 (.V) fun v18 =>
  mgetZ σ12 v18 .i64 n14 .nils fun x19 b20 =>
  ld σ12 a15 (.V) fun v21 =>
  chk ((v21 : AVal) = v16) (
  (S.rup_gone x19 p8 σ12).bind fun r22 =>
  ld r22.2 a15 (.V) fun v23 =>
  chk ((v23 : AVal) = v16) (
  mputK r22.2 v16 .i64 n14 r22.1 fun σ24 =>
  some (.inl (IntKind.i64.wrap (x11 + 1)), σ24))))))
  (some (.inr (), σ12))
noncomputable def S.rup_Base_Drop (p0 : AVal) (p1 : AVal) (σ : Heap) : Option (Bool × Heap) :=
  (S.rup_Base_find p0 p1 σ).bind fun r1 =>
  cond (decide (r1.1 < 0)) (
  some (false, r1.2))
  (nilck p0 (
  fld p0 1 fun a2 =>
  ld r1.2 a2 (.V) fun v3 =>
  ixA r1.2 v3 1 r1.1 fun a4 =>
  ld r1.2 a4 (.V) fun v5 =>
  lenV v5 fun n6 =>
  (loopW (S.rup_Base_Drop.b0 p0 r1.1 v5 n6) 0 r1.2).bind fun r25 =>
  nilck p0 (
  fld p0 4 fun a26 =>
  ld r25.2 a26 (.V) fun v27 =>
  (S.rup_gone v27 r1.1 r25.2).bind fun r28 =>
  nilck p0 (
  fld p0 4 fun a29 =>
  scal r28.1 (
  stC r28.2 a29 [r28.1] fun σ30 =>
  nilck p0 (
  fld p0 1 fun a31 =>
  ld σ30 a31 (.V) fun v32 =>
  nilck p0 (
  fld p0 2 fun a33 =>
  ld σ30 a33 (.V) fun v34 =>
  ixA σ30 v32 1 r1.1 fun a35 =>
  stC σ30 a35 [.nils] fun σ36 =>
  ixA σ36 v34 1 r1.1 fun a37 =>
  stC σ36 a37 [(.bool false)] fun σ38 =>
  nilck p0 (
  fld p0 5 fun a39 =>
  ld σ38 a39 (.I .i64) fun n40 =>
  nilck p0 (
  fld p0 5 fun a41 =>
  stC σ38 a41 [(.int .i64 (IntKind.i64.wrap (n40 - 1)))] fun σ42 =>
  some (true, σ42))))))))))
noncomputable def W.rup_Base_Drop : Spec := .eff [.B] fun args σ => packs args [.V, .V] fun x => S.rup_Base_Drop x.1 x.2 σ


noncomputable def S.drat_steps.T : FuncId → Option Spec := (tab 39 W.rup_Base_Add (tab 22 W.rup_Base_Implied (tab 24 W.rup_Base_Blocked (tab 38 W.rup_Base_Drop noSpec))))
noncomputable def S.drat_steps.b0 (p2 : AVal) (p3 : AVal) (p4 : AVal) (p5 : Int) : Int → Heap → Option ((Int ⊕ (Unit ⊕ AVal)) × Heap) := fun x6 σ7 =>
  cond (decide (x6 < p5)) (
  (ixA σ7 p4 2 x6 fun a8 =>
  ldG σ7 a8 2 fun g9 =>
  newK σ7 2 [(.bool false), .nils] fun l10 σ11 =>
  aggK g9 2 fun cs12 =>
  stC σ11 (.ptr l10 0) cs12 fun σ13 =>
  (ld σ13 (.ptr l10 0) (.B) fun b14 =>
  cond b14 (
  ld σ13 (.ptr l10 1) (.V) fun v15 =>
  (S.rup_Base_Drop p2 v15 σ13).bind fun r16 =>
  some (r16.1, r16.2))
  (some (false, σ13))).bind fun r17 =>
  cond r17.1 (
  some (.inl (), r17.2))
  ((ld r17.2 (.ptr l10 0) (.B) fun b18 =>
  cond b18 (
  some (true, r17.2))
  (ld r17.2 (.ptr l10 1) (.V) fun v19 =>
  callV S.drat_steps.T p3 [v19] r17.2 fun r20 σ21 =>
  asK (.B) r20 fun b22 =>
  cond (!b22) (
  some (true, σ21))
  (ld σ21 (.ptr l10 1) (.V) fun v23 =>
  (S.rup_Base_Add p2 v23 σ21).bind fun r24 =>
  some ((!r24.1), r24.2)))).bind fun r25 =>
  cond r25.1 (
  ld r25.2 (.ptr 0 0) (.V) fun v26 =>
  scal v26 (
  newK r25.2 2 [(.int .i64 x6), v26] fun l27 σ28 =>
  some (.inr (.ifc 72 (.ptr l27 0)), σ28)))
  (some (.inl (), r25.2))) : Option ((Unit ⊕ AVal) × Heap)).bind fun r29 =>
  (match r29.1 with
 | .inl y30 => some (.inl (IntKind.i64.wrap (x6 + 1)), r29.2)
 | .inr y31 => some (.inr (.inr y31), r29.2)))
  (some (.inr (.inl ()), σ7))
noncomputable def S.drat_steps (b_ : AVal) (l_ : AVal) (may_ : AVal) (σ : Heap) : Option (AVal × Heap) :=
  lenV l_ fun n1 =>
  (loopW (S.drat_steps.b0 b_ may_ l_ n1) 0 σ).bind fun r32 =>
  (match r32.1 with
 | .inl y33 => some (.nili, r32.2)
 | .inr y34 => some (y34, r32.2))
noncomputable def W.drat_steps : Spec := .eff [.V] fun args σ => packs args [.V, .V, .V] fun x => S.drat_steps x.1 x.2.1 x.2.2 σ


noncomputable def S.drat_Refute (c_ : AVal) (l_ : AVal) (σ : Heap) : Option (AVal × Heap) :=
  aggK c_ 2 fun cs1 =>
  newK σ 2 cs1 fun l2 σ3 =>
  ldG σ3 (.ptr l2 0) 2 fun g4 =>
  (S.drat_begin g4 l_ σ3).bind fun r5 =>
  eqI (tiOf Tryz.prog) r5.2 true r5.1.2.2 .nili fun b6 =>
  cond (!b6) (
  some (r5.1.2.2, r5.2))
  ((S.drat_steps r5.1.1 l_ (.fn (.func 24) [r5.1.1] []) r5.2).bind fun r7 =>
  eqI (tiOf Tryz.prog) r7.2 true r7.1 .nili fun b8 =>
  cond (!b8) (
  some (r7.1, r7.2))
  ((S.rup_Base_Implied r5.1.1 .nils r7.2).bind fun r9 =>
  cond (!r9.1) (
  ld r9.2 (.ptr 0 0) (.V) fun v10 =>
  some (v10, r9.2))
  (some (.nili, r9.2))))
noncomputable def W.drat_Refute : Spec := .eff [.V] fun args σ => packs args [.V, .V] fun x => S.drat_Refute x.1 x.2 σ


noncomputable def S.skolemlaw22_first (σ : Heap) : Option (Bool × Heap) :=
  newK σ 1 [(.int .i64 1)] fun l1 σ2 =>
  newK σ2 1 [(.int .i64 (-1))] fun l3 σ4 =>
  newK σ4 1 [(.sl l1 0 1 none), (.sl l3 0 1 none)] fun l5 σ6 =>
  newK σ6 2 [(.int .i64 0), .nils] fun l7 σ8 =>
  stC σ8 (.ptr l7 0) [(.int .i64 1), (.sl l5 0 2 none)] fun σ9 =>
  (ldG σ9 (.ptr l7 0) 2 fun g10 =>
  (S.drat_Refute g10 .nils σ9).bind fun r11 =>
  eqI (tiOf Tryz.prog) r11.2 true r11.1 .nili fun b12 =>
  cond b12 (
  (S.drat_Refute (.agg [(.int .i64 1), .nils]) .nils r11.2).bind fun r13 =>
  eqI (tiOf Tryz.prog) r13.2 true r13.1 .nili fun b14 =>
  some ((!b14), r13.2))
  (some (false, r11.2))).bind fun r15 =>
  some (r15.1, r15.2)
noncomputable def W.skolemlaw22_first : Spec := .eff [.B] fun args σ => packs args [] fun x => S.skolemlaw22_first σ


noncomputable def S.skolemmake_Near.b0 (p1 : AVal) (σ0 : Heap) : Int → Option (Int ⊕ (Unit ⊕ Bool)) := fun x2 =>
  lenV p1 fun n4 =>
  cond (decide (x2 < n4)) (
  ixA σ0 p1 1 x2 fun a5 =>
  ld σ0 a5 (.I .i64) fun n6 =>
  cond (decide (n6 < (-1152921504606846976))) (
  some (.inr (.inr false)))
  (some (.inl (IntKind.i64.wrap (x2 + 1)))))
  (some (.inr (.inl ())))
noncomputable def S.skolemmake_Near (c_ : AVal) (σ : Heap) : Option Bool :=
  (loopP (S.skolemmake_Near.b0 c_ σ) 0).bind fun r7 =>
  (match r7 with
 | .inl y8 => some true
 | .inr y9 => some y9)
noncomputable def W.skolemmake_Near : Spec := .pur [.B] fun args σ => packs args [.V] fun x => S.skolemmake_Near x σ


noncomputable def S.skolemlaw22_light.b0 (p2 : AVal) (σ0 : Heap) : Int → Option (Int ⊕ (Unit ⊕ Bool)) := fun x3 =>
  lenV p2 fun n5 =>
  cond (decide (x3 < n5)) (
  (ixA σ0 p2 2 x3 fun a6 =>
  fld a6 1 fun a7 =>
  ld σ0 a7 (.V) fun v8 =>
  lenV v8 fun n9 =>
  cond (decide (n9 > 12)) (
  some true)
  (ixA σ0 p2 2 x3 fun a10 =>
  fld a10 1 fun a11 =>
  ld σ0 a11 (.V) fun v12 =>
  (S.skolemmake_Near v12 σ0).bind fun r13 =>
  some (!r13))).bind fun r14 =>
  cond r14 (
  some (.inr (.inr false)))
  (some (.inl (IntKind.i64.wrap (x3 + 1)))))
  (some (.inr (.inl ())))
noncomputable def S.skolemlaw22_light (l_ : AVal) (σ : Heap) : Option Bool :=
  lenV l_ fun n1 =>
  cond (decide (n1 > 30)) (
  some false)
  ((loopP (S.skolemlaw22_light.b0 l_ σ) 0).bind fun r15 =>
  (match r15 with
 | .inl y16 => some true
 | .inr y17 => some y17))
noncomputable def W.skolemlaw22_light : Spec := .pur [.B] fun args σ => packs args [.V] fun x => S.skolemlaw22_light x σ


noncomputable def S.skolemmake_NearAll.b0 (p1 : AVal) (σ0 : Heap) : Int → Option (Int ⊕ (Unit ⊕ Bool)) := fun x2 =>
  lenV p1 fun n4 =>
  cond (decide (x2 < n4)) (
  ixA σ0 p1 1 x2 fun a5 =>
  ld σ0 a5 (.V) fun v6 =>
  (S.skolemmake_Near v6 σ0).bind fun r7 =>
  cond (!r7) (
  some (.inr (.inr false)))
  (some (.inl (IntKind.i64.wrap (x2 + 1)))))
  (some (.inr (.inl ())))
noncomputable def S.skolemmake_NearAll (c_ : AVal) (σ : Heap) : Option Bool :=
  (loopP (S.skolemmake_NearAll.b0 c_ σ) 0).bind fun r8 =>
  (match r8 with
 | .inl y9 => some true
 | .inr y10 => some y10)
noncomputable def W.skolemmake_NearAll : Spec := .pur [.B] fun args σ => packs args [.V] fun x => S.skolemmake_NearAll x σ


noncomputable def S.skolemmake_Count.b0 (p1 : AVal) (σ0 : Heap) : (Int × Int) → Option ((Int × Int) ⊕ Int) := fun x2 =>
  lenV p1 fun n4 =>
  cond (decide (x2.2 < n4)) (
  ixA σ0 p1 1 x2.2 fun a5 =>
  ld σ0 a5 (.V) fun v6 =>
  lenV v6 fun n7 =>
  some (.inl ((IntKind.i64.wrap (x2.1 + n7)), (IntKind.i64.wrap (x2.2 + 1)))))
  (some (.inr x2.1))
noncomputable def S.skolemmake_Count (c_ : AVal) (σ : Heap) : Option Int :=
  (loopP (S.skolemmake_Count.b0 c_ σ) (0, 0)).bind fun r8 =>
  some r8
noncomputable def W.skolemmake_Count : Spec := .pur [.I .i64] fun args σ => packs args [.V] fun x => S.skolemmake_Count x σ


noncomputable def S.skolemworld_Number (n_ : Int) (below_ : Int) (σ : Heap) : Option Int :=
  if below_ = 0 then none else
  (cond (decide ((Int.tmod n_ below_) < 0)) (
  some (IntKind.i64.wrap ((Int.tmod n_ below_) + below_)))
  (some (Int.tmod n_ below_))).bind fun r1 =>
  some r1
noncomputable def W.skolemworld_Number : Spec := .pur [.I .i64] fun args σ => packs args [.I .i64, .I .i64] fun x => S.skolemworld_Number x.1 x.2 σ


noncomputable def S.skolemmake_Lit (n_ : Int) (vars_ : Int) (σ : Heap) : Option Int :=
  (S.skolemworld_Number n_ (IntKind.i64.wrap (2 * vars_)) σ).bind fun r1 =>
  cond (decide (r1 < vars_)) (
  some (IntKind.i64.wrap (r1 + 1)))
  (some (IntKind.i64.wrap ((IntKind.i64.wrap (vars_ - r1)) - 1)))
noncomputable def W.skolemmake_Lit : Spec := .pur [.I .i64] fun args σ => packs args [.I .i64, .I .i64] fun x => S.skolemmake_Lit x.1 x.2 σ


noncomputable def S.skolemmake_Clauses.b0 (p1 : AVal) (p2 : Int) : (AVal × AVal × Int) → Heap → Option (((AVal × AVal × Int) ⊕ ((AVal × AVal))) × Heap) := fun x3 σ4 =>
  lenV p1 fun n5 =>
  cond (decide (x3.2.2 < n5)) (
  ((ixA σ4 p1 1 x3.2.2 fun a6 =>
  ld σ4 a6 (.I .i64) fun n7 =>
  (S.skolemworld_Number n7 7 σ4).bind fun r8 =>
  cond (r8 == 0) (
  lenV x3.2.1 fun n9 =>
  cond (decide (n9 > 0)) (
  some true)
  (lenV x3.2.1 fun n10 =>
  some (decide (n10 ≥ 5))))
  (lenV x3.2.1 fun n11 =>
  some (decide (n11 ≥ 5)))).bind fun r12 =>
  (cond r12 (
  scal x3.2.1 (
  newK σ4 1 [x3.2.1] fun l13 σ14 =>
  appS σ14 1 24 x3.1 (.sl l13 0 1 none) fun v15 σ16 =>
  some ((v15, .nils), σ16)))
  (some ((x3.1, x3.2.1), σ4))).bind fun r17 =>
  ixA r17.2 p1 1 x3.2.2 fun a18 =>
  ld r17.2 a18 (.I .i64) fun n19 =>
  (S.skolemworld_Number n19 1099511627776 r17.2).bind fun r20 =>
  (S.skolemmake_Lit (IntKind.i64.wrap (Int.tdiv r20 7)) p2 r17.2).bind fun r21 =>
  newK r17.2 1 [(.int .i64 r21)] fun l22 σ23 =>
  appS σ23 1 8 r17.1.2 (.sl l22 0 1 none) fun v24 σ25 =>
  some ((r17.1.1, v24), σ25)).bind fun r26 =>
  some (.inl (r26.1.1, r26.1.2, (IntKind.i64.wrap (x3.2.2 + 1))), r26.2))
  (some (.inr (x3.1, x3.2.1), σ4))
noncomputable def S.skolemmake_Clauses (l_ : AVal) (vars_ : Int) (σ : Heap) : Option (AVal × Heap) :=
  cond (decide (vars_ < 1)) (
  some (.nils, σ))
  ((loopW (S.skolemmake_Clauses.b0 l_ vars_) (.nils, .nils, 0) σ).bind fun r27 =>
  lenV r27.1.2 fun n28 =>
  (cond (decide (n28 > 0)) (
  scal r27.1.2 (
  newK r27.2 1 [r27.1.2] fun l29 σ30 =>
  appS σ30 1 24 r27.1.1 (.sl l29 0 1 none) fun v31 σ32 =>
  some (v31, σ32)))
  (some (r27.1.1, r27.2))).bind fun r33 =>
  some (r33.1, r33.2))
noncomputable def W.skolemmake_Clauses : Spec := .eff [.V] fun args σ => packs args [.V, .I .i64] fun x => S.skolemmake_Clauses x.1 x.2 σ


noncomputable def S.skolemmake_CNF (l_ : AVal) (vars_ : Int) (σ : Heap) : Option (AVal × Heap) :=
  newK σ 2 [(.int .i64 0), .nils] fun l1 σ2 =>
  (S.skolemmake_Clauses l_ vars_ σ2).bind fun r3 =>
  scal r3.1 (
  stC r3.2 (.ptr l1 0) [(.int .i64 vars_), r3.1] fun σ4 =>
  ldG σ4 (.ptr l1 0) 2 fun g5 =>
  some (g5, σ4))
noncomputable def W.skolemmake_CNF : Spec := .eff [.V] fun args σ => packs args [.V, .I .i64] fun x => S.skolemmake_CNF x.1 x.2 σ


noncomputable def S.skolemlaw22_steps.b0 (p2 : AVal) (p3 : AVal) : (AVal × Int) → Heap → Option (((AVal × Int) ⊕ AVal) × Heap) := fun x4 σ5 =>
  lenV p3 fun n6 =>
  cond (decide (x4.2 < n6)) (
  lenV p2 fun n7 =>
  if n7 = 0 then none else
  ixA σ5 p2 1 (Int.tmod x4.2 n7) fun a8 =>
  ld σ5 a8 (.I .i64) fun n9 =>
  (S.skolemworld_Number n9 5 σ5).bind fun r10 =>
  ixA σ5 p3 1 x4.2 fun a11 =>
  ld σ5 a11 (.V) fun v12 =>
  scal v12 (
  newK σ5 2 [(.bool (r10 == 0)), v12] fun l13 σ14 =>
  appS σ14 2 32 x4.1 (.sl l13 0 1 none) fun v15 σ16 =>
  some (.inl (v15, (IntKind.i64.wrap (x4.2 + 1))), σ16)))
  (some (.inr x4.1, σ5))
noncomputable def S.skolemlaw22_steps (l_ : AVal) (σ : Heap) : Option (AVal × Heap) :=
  (S.skolemmake_Clauses l_ 9 σ).bind fun r1 =>
  (loopW (S.skolemlaw22_steps.b0 l_ r1.1) (.nils, 0) r1.2).bind fun r17 =>
  some (r17.1, r17.2)
noncomputable def W.skolemlaw22_steps : Spec := .eff [.V] fun args σ => packs args [.V] fun x => S.skolemlaw22_steps x σ


noncomputable def S.drat_Used.b0 (p11 : AVal) (p12 : AVal) (p13 : Int) : Int → Heap → Option ((Int ⊕ (Unit ⊕ (Int × AVal))) × Heap) := fun x14 σ15 =>
  cond (decide (x14 < p13)) (
  (S.rup_Base_Implied p12 .nils σ15).bind fun r16 =>
  cond r16.1 (
  some (.inr (.inr (x14, .nili)), r16.2))
  (slS r16.2 2 p11 x14 (some (IntKind.i64.wrap (x14 + 1))) none fun v17 =>
  (S.drat_steps p12 v17 (.fn (.func 24) [p12] []) r16.2).bind fun r18 =>
  eqI (tiOf Tryz.prog) r18.2 true r18.1 .nili fun b19 =>
  cond (!b19) (
  some (.inr (.inr (0, r18.1)), r18.2))
  (some (.inl (IntKind.i64.wrap (x14 + 1)), r18.2))))
  (some (.inr (.inl ()), σ15))
noncomputable def S.drat_Used (c_ : AVal) (l_ : AVal) (σ : Heap) : Option ((Int × AVal) × Heap) :=
  aggK c_ 2 fun cs1 =>
  newK σ 2 cs1 fun l2 σ3 =>
  ldG σ3 (.ptr l2 0) 2 fun g4 =>
  (S.drat_Refute g4 l_ σ3).bind fun r5 =>
  eqI (tiOf Tryz.prog) r5.2 true r5.1 .nili fun b6 =>
  cond (!b6) (
  some ((0, r5.1), r5.2))
  (ldG r5.2 (.ptr l2 0) 2 fun g7 =>
  (S.drat_begin g7 l_ r5.2).bind fun r8 =>
  eqI (tiOf Tryz.prog) r8.2 true r8.1.2.2 .nili fun b9 =>
  cond (!b9) (
  some ((0, r8.1.2.2), r8.2))
  (lenV l_ fun n10 =>
  (loopW (S.drat_Used.b0 l_ r8.1.1 n10) 0 r8.2).bind fun r20 =>
  (match r20.1 with
 | .inl y21 => lenV l_ fun n23 =>
  some ((n23, .nili), r20.2)
 | .inr y22 => some ((y22.1, y22.2), r20.2))))
noncomputable def W.drat_Used : Spec := .eff [.I .i64, .V] fun args σ => packs args [.V, .V] fun x => S.drat_Used x.1 x.2 σ


noncomputable def S.skolemref_Bare (code_ : Int) (σ : Heap) : Option (AVal × Heap) :=
  newK σ 3 [(.int .i64 0), (.bool false), (.int .i64 0)] fun l1 σ2 =>
  stC σ2 (.ptr l1 0) [(.int .i64 code_), (.bool false), (.int .i64 0)] fun σ3 =>
  ldG σ3 (.ptr l1 0) 3 fun g4 =>
  some (g4, σ3)
noncomputable def W.skolemref_Bare : Spec := .eff [.V] fun args σ => packs args [.I .i64] fun x => S.skolemref_Bare x σ


noncomputable def S.skolemref1_Is (l_ : Int) (vars_ : Int) (σ : Heap) : Option Bool :=
  (cond (l_ != 0) (
  cond (decide (l_ ≤ vars_)) (
  some (decide (l_ ≥ (IntKind.i64.wrap (0 - vars_)))))
  (some false))
  (some false)).bind fun r1 =>
  some r1
noncomputable def W.skolemref1_Is : Spec := .pur [.B] fun args σ => packs args [.I .i64, .I .i64] fun x => S.skolemref1_Is x.1 x.2 σ


noncomputable def S.skolemref_None (σ : Heap) : Option (AVal × Heap) :=
  newK σ 3 [(.int .i64 0), (.bool false), (.int .i64 0)] fun l1 σ2 =>
  stC σ2 (.ptr l1 0) [(.int .i64 0), (.bool false), (.int .i64 0)] fun σ3 =>
  ldG σ3 (.ptr l1 0) 3 fun g4 =>
  some (g4, σ3)
noncomputable def W.skolemref_None : Spec := .eff [.V] fun args σ => packs args [] fun x => S.skolemref_None σ


noncomputable def S.skolemref_Placed (code_ : Int) (pos_ : Int) (σ : Heap) : Option (AVal × Heap) :=
  newK σ 3 [(.int .i64 0), (.bool false), (.int .i64 0)] fun l1 σ2 =>
  cond (code_ == 0) (
  (S.skolemref_None σ2).bind fun r3 =>
  aggK r3.1 3 fun cs4 =>
  stC r3.2 (.ptr l1 0) cs4 fun σ5 =>
  ldG σ5 (.ptr l1 0) 3 fun g6 =>
  some (g6, σ5))
  (stC σ2 (.ptr l1 0) [(.int .i64 code_), (.bool true), (.int .i64 pos_)] fun σ7 =>
  ldG σ7 (.ptr l1 0) 3 fun g8 =>
  some (g8, σ7))
noncomputable def W.skolemref_Placed : Spec := .eff [.V] fun args σ => packs args [.I .i64, .I .i64] fun x => S.skolemref_Placed x.1 x.2 σ


noncomputable def S.skolemref1_CheckCNF.b0 (p6 : AVal) (p7 : AVal) (σ0 : Heap) : (Int × Int) → Option ((Int × Int) ⊕ Int) := fun x8 =>
  fld p6 1 fun a10 =>
  ld σ0 a10 (.V) fun v11 =>
  lenV v11 fun n12 =>
  cond (decide (x8.2 < n12)) (
  fld p6 1 fun a13 =>
  ld σ0 a13 (.V) fun v14 =>
  ixA σ0 v14 1 x8.2 fun a15 =>
  ld σ0 a15 (.V) fun v16 =>
  lenV v16 fun n17 =>
  some (.inl ((IntKind.i64.wrap (x8.1 + n17)), (IntKind.i64.wrap (x8.2 + 1)))))
  (some (.inr x8.1))
noncomputable def S.skolemref1_CheckCNF.b1 (p35 : AVal) (p36 : AVal) (p37 : Int) : Int → Heap → Option ((Int ⊕ (Unit ⊕ Unit)) × Heap) := fun x38 σ39 =>
  fld p35 1 fun a40 =>
  ld σ39 a40 (.V) fun v41 =>
  ixA σ39 v41 1 p37 fun a42 =>
  ld σ39 a42 (.V) fun v43 =>
  lenV v43 fun n44 =>
  cond (decide (x38 < n44)) (
  fld p35 1 fun a45 =>
  ld σ39 a45 (.V) fun v46 =>
  ixA σ39 v46 1 p37 fun a47 =>
  ld σ39 a47 (.V) fun v48 =>
  ixA σ39 v48 1 x38 fun a49 =>
  ld σ39 a49 (.I .i64) fun n50 =>
  fld p35 0 fun a51 =>
  ld σ39 a51 (.I .i64) fun n52 =>
  (S.skolemref1_Is n50 n52 σ39).bind fun r53 =>
  cond (!r53) (
  (S.skolemref_Placed 104 p37 σ39).bind fun r54 =>
  aggK r54.1 3 fun cs55 =>
  stC r54.2 p36 cs55 fun σ56 =>
  some (.inr (.inr ()), σ56))
  (some (.inl (IntKind.i64.wrap (x38 + 1)), σ39)))
  (some (.inr (.inl ()), σ39))
noncomputable def S.skolemref1_CheckCNF.b2 (p28 : AVal) (p29 : AVal) : Int → Heap → Option ((Int ⊕ (Unit ⊕ Unit)) × Heap) := fun x30 σ31 =>
  fld p28 1 fun a32 =>
  ld σ31 a32 (.V) fun v33 =>
  lenV v33 fun n34 =>
  cond (decide (x30 < n34)) (
  (loopW (S.skolemref1_CheckCNF.b1 p28 p29 x30) 0 σ31).bind fun r57 =>
  (match r57.1 with
 | .inl y58 => some (.inl (IntKind.i64.wrap (x30 + 1)), r57.2)
 | .inr y59 => some (.inr (.inr ()), r57.2)))
  (some (.inr (.inl ()), σ31))
noncomputable def S.skolemref1_CheckCNF (p0 : AVal) (σ : Heap) : Option (AVal × Heap) :=
  aggK p0 2 fun cs1 =>
  newK σ 2 cs1 fun l2 σ3 =>
  newK σ3 3 [(.int .i64 0), (.bool false), (.int .i64 0)] fun l4 σ5 =>
  (loopP (S.skolemref1_CheckCNF.b0 (.ptr l2 0) (.ptr l4 0) σ5) (0, 0)).bind fun r18 =>
  (ld σ5 (.ptr l2 0) (.I .i64) fun n19 =>
  cond (decide (n19 < 0)) (
  some true)
  (ld σ5 (.ptr l2 0) (.I .i64) fun n20 =>
  cond (decide (n20 > 4000)) (
  some true)
  (ld σ5 (.ptr l2 1) (.V) fun v21 =>
  lenV v21 fun n22 =>
  cond (decide (n22 > 20000)) (
  some true)
  (some (decide (r18 > 80000)))))).bind fun r23 =>
  cond r23 (
  (S.skolemref_Bare 102 σ5).bind fun r24 =>
  aggK r24.1 3 fun cs25 =>
  stC r24.2 (.ptr l4 0) cs25 fun σ26 =>
  ldG σ26 (.ptr l4 0) 3 fun g27 =>
  some (g27, σ26))
  ((loopW (S.skolemref1_CheckCNF.b2 (.ptr l2 0) (.ptr l4 0)) 0 σ5).bind fun r60 =>
  (match r60.1 with
 | .inl y61 => (S.skolemref_None r60.2).bind fun r63 =>
  aggK r63.1 3 fun cs64 =>
  stC r63.2 (.ptr l4 0) cs64 fun σ65 =>
  ldG σ65 (.ptr l4 0) 3 fun g66 =>
  some (g66, σ65)
 | .inr y62 => ldG r60.2 (.ptr l4 0) 3 fun g67 =>
  some (g67, r60.2)))
noncomputable def W.skolemref1_CheckCNF : Spec := .eff [.V] fun args σ => packs args [.V] fun x => S.skolemref1_CheckCNF x σ


noncomputable def S.skolemref20_Check.b0 (p3 : AVal) (p4 : AVal) (σ0 : Heap) : (Int × Int) → Option ((Int × Int) ⊕ Int) := fun x5 =>
  lenV p3 fun n7 =>
  cond (decide (x5.2 < n7)) (
  ixA σ0 p3 2 x5.2 fun a8 =>
  fld a8 1 fun a9 =>
  ld σ0 a9 (.V) fun v10 =>
  lenV v10 fun n11 =>
  some (.inl ((IntKind.i64.wrap (x5.1 + n11)), (IntKind.i64.wrap (x5.2 + 1)))))
  (some (.inr x5.1))
noncomputable def S.skolemref20_Check.b1 (p22 : AVal) (p23 : AVal) (p24 : Int) : Int → Heap → Option ((Int ⊕ (Unit ⊕ Unit)) × Heap) := fun x25 σ26 =>
  ixA σ26 p22 2 p24 fun a27 =>
  fld a27 1 fun a28 =>
  ld σ26 a28 (.V) fun v29 =>
  lenV v29 fun n30 =>
  cond (decide (x25 < n30)) (
  ixA σ26 p22 2 p24 fun a31 =>
  fld a31 1 fun a32 =>
  ld σ26 a32 (.V) fun v33 =>
  ixA σ26 v33 1 x25 fun a34 =>
  ld σ26 a34 (.I .i64) fun n35 =>
  (S.skolemref1_Is n35 4000 σ26).bind fun r36 =>
  cond (!r36) (
  (S.skolemref_Placed 104 p24 σ26).bind fun r37 =>
  aggK r37.1 3 fun cs38 =>
  stC r37.2 p23 cs38 fun σ39 =>
  some (.inr (.inr ()), σ39))
  (some (.inl (IntKind.i64.wrap (x25 + 1)), σ26)))
  (some (.inr (.inl ()), σ26))
noncomputable def S.skolemref20_Check.b2 (p17 : AVal) (p18 : AVal) : Int → Heap → Option ((Int ⊕ (Unit ⊕ Unit)) × Heap) := fun x19 σ20 =>
  lenV p17 fun n21 =>
  cond (decide (x19 < n21)) (
  (loopW (S.skolemref20_Check.b1 p17 p18 x19) 0 σ20).bind fun r40 =>
  (match r40.1 with
 | .inl y41 => some (.inl (IntKind.i64.wrap (x19 + 1)), r40.2)
 | .inr y42 => some (.inr (.inr ()), r40.2)))
  (some (.inr (.inl ()), σ20))
noncomputable def S.skolemref20_Check (l_ : AVal) (σ : Heap) : Option (AVal × Heap) :=
  newK σ 3 [(.int .i64 0), (.bool false), (.int .i64 0)] fun l1 σ2 =>
  (loopP (S.skolemref20_Check.b0 l_ (.ptr l1 0) σ2) (0, 0)).bind fun r12 =>
  cond (decide (r12 > 320000)) (
  (S.skolemref_Bare 102 σ2).bind fun r13 =>
  aggK r13.1 3 fun cs14 =>
  stC r13.2 (.ptr l1 0) cs14 fun σ15 =>
  ldG σ15 (.ptr l1 0) 3 fun g16 =>
  some (g16, σ15))
  ((loopW (S.skolemref20_Check.b2 l_ (.ptr l1 0)) 0 σ2).bind fun r43 =>
  (match r43.1 with
 | .inl y44 => (S.skolemref_None r43.2).bind fun r46 =>
  aggK r46.1 3 fun cs47 =>
  stC r46.2 (.ptr l1 0) cs47 fun σ48 =>
  ldG σ48 (.ptr l1 0) 3 fun g49 =>
  some (g49, σ48)
 | .inr y45 => ldG r43.2 (.ptr l1 0) 3 fun g50 =>
  some (g50, r43.2)))
noncomputable def W.skolemref20_Check : Spec := .eff [.V] fun args σ => packs args [.V] fun x => S.skolemref20_Check x σ


noncomputable def S.skolemref_Abs (l_ : Int) (σ : Heap) : Option Int :=
  cond (decide (l_ < 0)) (
  some (IntKind.i64.wrap (0 - l_)))
  (some l_)
noncomputable def W.skolemref_Abs : Spec := .pur [.I .i64] fun args σ => packs args [.I .i64] fun x => S.skolemref_Abs x σ


noncomputable def S.skolemref20_greatest.b0 (p9 : AVal) (p10 : Int) (σ0 : Heap) : (Int × Int) → Option ((Int × Int) ⊕ Int) := fun x11 =>
  ixA σ0 p9 2 p10 fun a13 =>
  fld a13 1 fun a14 =>
  ld σ0 a14 (.V) fun v15 =>
  lenV v15 fun n16 =>
  cond (decide (x11.2 < n16)) (
  ixA σ0 p9 2 p10 fun a17 =>
  fld a17 1 fun a18 =>
  ld σ0 a18 (.V) fun v19 =>
  ixA σ0 v19 1 x11.2 fun a20 =>
  ld σ0 a20 (.I .i64) fun n21 =>
  (S.skolemref_Abs n21 σ0).bind fun r22 =>
  some (.inl ((if r22 > x11.1 then r22 else x11.1), (IntKind.i64.wrap (x11.2 + 1)))))
  (some (.inr x11.1))
noncomputable def S.skolemref20_greatest.b1 (p5 : AVal) (σ0 : Heap) : (Int × Int) → Option ((Int × Int) ⊕ Int) := fun x6 =>
  lenV p5 fun n8 =>
  cond (decide (x6.2 < n8)) (
  (loopP (S.skolemref20_greatest.b0 p5 x6.2 σ0) (x6.1, 0)).bind fun r23 =>
  some (.inl (r23, (IntKind.i64.wrap (x6.2 + 1)))))
  (some (.inr x6.1))
noncomputable def S.skolemref20_greatest (c_ : AVal) (l_ : AVal) (σ : Heap) : Option (Int × Heap) :=
  aggK c_ 2 fun cs1 =>
  newK σ 2 cs1 fun l2 σ3 =>
  ld σ3 (.ptr l2 0) (.I .i64) fun n4 =>
  (loopP (S.skolemref20_greatest.b1 l_ σ3) (n4, 0)).bind fun r24 =>
  some (r24, σ3)
noncomputable def W.skolemref20_greatest : Spec := .eff [.I .i64] fun args σ => packs args [.V, .V] fun x => S.skolemref20_greatest x.1 x.2 σ


noncomputable def S.skolemref_Clauses.b0 (p4 : AVal) : (AVal × Int) → Heap → Option (((AVal × Int) ⊕ AVal) × Heap) := fun x5 σ6 =>
  lenV p4 fun n7 =>
  cond (decide (x5.2 < n7)) (
  ixA σ6 p4 1 x5.2 fun a8 =>
  ld σ6 a8 (.V) fun v9 =>
  scal v9 (
  newK σ6 1 [v9] fun l10 σ11 =>
  appS σ11 1 24 x5.1 (.sl l10 0 1 none) fun v12 σ13 =>
  some (.inl (v12, (IntKind.i64.wrap (x5.2 + 1))), σ13)))
  (some (.inr x5.1, σ6))
noncomputable def S.skolemref_Clauses (l_ : AVal) (σ : Heap) : Option (AVal × Heap) :=
  lenV l_ fun n1 =>
  mkS σ 1 24 [.nils] 0 n1 fun v2 σ3 =>
  (loopW (S.skolemref_Clauses.b0 l_) (v2, 0) σ3).bind fun r14 =>
  some (r14.1, r14.2)
noncomputable def W.skolemref_Clauses : Spec := .eff [.V] fun args σ => packs args [.V] fun x => S.skolemref_Clauses x σ


noncomputable def S.skolemref_Has.b0 (p1 : AVal) (p2 : Int) (σ0 : Heap) : Int → Option (Int ⊕ (Unit ⊕ Bool)) := fun x3 =>
  lenV p1 fun n5 =>
  cond (decide (x3 < n5)) (
  ixA σ0 p1 1 x3 fun a6 =>
  ld σ0 a6 (.I .i64) fun n7 =>
  cond (n7 == p2) (
  some (.inr (.inr true)))
  (some (.inl (IntKind.i64.wrap (x3 + 1)))))
  (some (.inr (.inl ())))
noncomputable def S.skolemref_Has (l_ : AVal) (n_ : Int) (σ : Heap) : Option Bool :=
  (loopP (S.skolemref_Has.b0 l_ n_ σ) 0).bind fun r8 =>
  (match r8 with
 | .inl y9 => some false
 | .inr y10 => some y10)
noncomputable def W.skolemref_Has : Spec := .pur [.B] fun args σ => packs args [.V, .I .i64] fun x => S.skolemref_Has x.1 x.2 σ


noncomputable def S.skolemref1_before (a_ : Int) (b_ : Int) (σ : Heap) : Option Bool :=
  (S.skolemref_Abs a_ σ).bind fun r1 =>
  (S.skolemref_Abs b_ σ).bind fun r2 =>
  (cond (decide (r1 < r2)) (
  some true)
  (cond (r1 == r2) (
  some (decide (a_ < b_)))
  (some false))).bind fun r3 =>
  some r3
noncomputable def W.skolemref1_before : Spec := .pur [.B] fun args σ => packs args [.I .i64, .I .i64] fun x => S.skolemref1_before x.1 x.2 σ


noncomputable def S.skolemref_Ints.b0 (p4 : AVal) : (AVal × Int) → Heap → Option (((AVal × Int) ⊕ AVal) × Heap) := fun x5 σ6 =>
  lenV p4 fun n7 =>
  cond (decide (x5.2 < n7)) (
  ixA σ6 p4 1 x5.2 fun a8 =>
  ld σ6 a8 (.I .i64) fun n9 =>
  newK σ6 1 [(.int .i64 n9)] fun l10 σ11 =>
  appS σ11 1 8 x5.1 (.sl l10 0 1 none) fun v12 σ13 =>
  some (.inl (v12, (IntKind.i64.wrap (x5.2 + 1))), σ13))
  (some (.inr x5.1, σ6))
noncomputable def S.skolemref_Ints (l_ : AVal) (σ : Heap) : Option (AVal × Heap) :=
  lenV l_ fun n1 =>
  mkS σ 1 8 [(.int .i64 0)] 0 n1 fun v2 σ3 =>
  (loopW (S.skolemref_Ints.b0 l_) (v2, 0) σ3).bind fun r14 =>
  some (r14.1, r14.2)
noncomputable def W.skolemref_Ints : Spec := .eff [.V] fun args σ => packs args [.V] fun x => S.skolemref_Ints x σ


noncomputable def S.skolemref1_Norm.b0 (p8 : AVal) (p9 : AVal) (p10 : Bool) (p11 : Int) (σ0 : Heap) : Int → Option (Int ⊕ Int) := fun x12 =>
  (lenV p9 fun n14 =>
  cond (decide (x12 < n14)) (
  ixA σ0 p9 1 x12 fun a15 =>
  ld σ0 a15 (.I .i64) fun n16 =>
  ixA σ0 p8 1 p11 fun a17 =>
  ld σ0 a17 (.I .i64) fun n18 =>
  (S.skolemref1_before n16 n18 σ0).bind fun r19 =>
  some r19)
  (some false)).bind fun r20 =>
  cond r20 (
  some (.inl (IntKind.i64.wrap (x12 + 1))))
  (some (.inr x12))
noncomputable def S.skolemref1_Norm.b1 (p1 : AVal) : (AVal × Bool × Int) → Heap → Option (((AVal × Bool × Int) ⊕ ((AVal × Bool))) × Heap) := fun x2 σ3 =>
  lenV p1 fun n4 =>
  cond (decide (x2.2.2 < n4)) (
  (ixA σ3 p1 1 x2.2.2 fun a5 =>
  ld σ3 a5 (.I .i64) fun n6 =>
  (S.skolemref_Has x2.1 n6 σ3).bind fun r7 =>
  cond r7 (
  some ((x2.1, x2.2.1), σ3))
  ((loopP (S.skolemref1_Norm.b0 p1 x2.1 x2.2.1 x2.2.2 σ3) 0).bind fun r21 =>
  (cond x2.2.1 (
  ixA σ3 p1 1 x2.2.2 fun a22 =>
  ld σ3 a22 (.I .i64) fun n23 =>
  (S.skolemref_Has x2.1 (IntKind.i64.wrap (0 - n23)) σ3).bind fun r24 =>
  some (!r24))
  (some false)).bind fun r25 =>
  slS σ3 1 x2.1 0 (some r21) none fun v26 =>
  (S.skolemref_Ints v26 σ3).bind fun r27 =>
  ixA r27.2 p1 1 x2.2.2 fun a28 =>
  ixA σ3 p1 1 x2.2.2 fun a29 =>
  chk ((a29 : AVal) = a28) (
  ld r27.2 a28 (.I .i64) fun n30 =>
  ld σ3 a28 (.I .i64) fun n31 =>
  chk (((.int .i64 n31) : AVal) = (.int .i64 n30)) (
  newK r27.2 1 [(.int .i64 n30)] fun l32 σ33 =>
  appS σ33 1 8 r27.1 (.sl l32 0 1 none) fun v34 σ35 =>
  slS σ35 1 x2.1 r21 none none fun v36 =>
  appS σ35 1 8 v34 v36 fun v37 σ38 =>
  some ((v37, r25), σ38))))).bind fun r39 =>
  some (.inl (r39.1.1, r39.1.2, (IntKind.i64.wrap (x2.2.2 + 1))), r39.2))
  (some (.inr (x2.1, x2.2.1), σ3))
noncomputable def S.skolemref1_Norm (p0 : AVal) (σ : Heap) : Option ((AVal × Bool) × Heap) :=
  (loopW (S.skolemref1_Norm.b1 p0) (.nils, true, 0) σ).bind fun r40 =>
  some ((r40.1.1, r40.1.2), r40.2)
noncomputable def W.skolemref1_Norm : Spec := .eff [.V, .B] fun args σ => packs args [.V] fun x => S.skolemref1_Norm x σ


noncomputable def S.skolemref_SameInts.b0 (p3 : AVal) (p4 : AVal) (σ0 : Heap) : Int → Option (Int ⊕ (Unit ⊕ Bool)) := fun x5 =>
  lenV p3 fun n7 =>
  cond (decide (x5 < n7)) (
  ixA σ0 p3 1 x5 fun a8 =>
  ld σ0 a8 (.I .i64) fun n9 =>
  ixA σ0 p4 1 x5 fun a10 =>
  ld σ0 a10 (.I .i64) fun n11 =>
  cond (!(n9 == n11)) (
  some (.inr (.inr false)))
  (some (.inl (IntKind.i64.wrap (x5 + 1)))))
  (some (.inr (.inl ())))
noncomputable def S.skolemref_SameInts (a_ : AVal) (b_ : AVal) (σ : Heap) : Option Bool :=
  lenV a_ fun n1 =>
  lenV b_ fun n2 =>
  cond (n1 != n2) (
  some false)
  ((loopP (S.skolemref_SameInts.b0 a_ b_ σ) 0).bind fun r12 =>
  (match r12 with
 | .inl y13 => some true
 | .inr y14 => some y14))
noncomputable def W.skolemref_SameInts : Spec := .pur [.B] fun args σ => packs args [.V, .V] fun x => S.skolemref_SameInts x.1 x.2 σ


noncomputable def S.skolemref1_SameClause (a_ : AVal) (b_ : AVal) (σ : Heap) : Option (Bool × Heap) :=
  (S.skolemref1_Norm a_ σ).bind fun r1 =>
  (S.skolemref1_Norm b_ r1.2).bind fun r2 =>
  (S.skolemref_SameInts r1.1.1 r2.1.1 r2.2).bind fun r3 =>
  some (r3, r2.2)
noncomputable def W.skolemref1_SameClause : Spec := .eff [.B] fun args σ => packs args [.V, .V] fun x => S.skolemref1_SameClause x.1 x.2 σ


noncomputable def S.skolemref20_Base_find.b0 (p1 : AVal) (p2 : AVal) : Int → Heap → Option ((Int ⊕ (Unit ⊕ Int)) × Heap) := fun x3 σ4 =>
  nilck p1 (
  fld p1 1 fun a5 =>
  ld σ4 a5 (.V) fun v6 =>
  lenV v6 fun n7 =>
  cond (decide (x3 < n7)) (
  nilck p1 (
  fld p1 1 fun a8 =>
  ld σ4 a8 (.V) fun v9 =>
  ixA σ4 v9 1 x3 fun a10 =>
  ld σ4 a10 (.V) fun v11 =>
  (S.skolemref1_SameClause v11 p2 σ4).bind fun r12 =>
  cond r12.1 (
  some (.inr (.inr x3), r12.2))
  (some (.inl (IntKind.i64.wrap (x3 + 1)), r12.2))))
  (some (.inr (.inl ()), σ4)))
noncomputable def S.skolemref20_Base_find (b_ : AVal) (c_ : AVal) (σ : Heap) : Option (Int × Heap) :=
  (loopW (S.skolemref20_Base_find.b0 b_ c_) 0 σ).bind fun r13 =>
  (match r13.1 with
 | .inl y14 => some ((-1), r13.2)
 | .inr y15 => some (y15, r13.2))
noncomputable def W.skolemref20_Base_find : Spec := .eff [.I .i64] fun args σ => packs args [.V, .V] fun x => S.skolemref20_Base_find x.1 x.2 σ


noncomputable def S.skolemref20_Base_Drop (b_ : AVal) (c_ : AVal) (σ : Heap) : Option (Bool × Heap) :=
  (S.skolemref20_Base_find b_ c_ σ).bind fun r1 =>
  cond (decide (r1.1 < 0)) (
  some (false, r1.2))
  (nilck b_ (
  fld b_ 1 fun a2 =>
  ld r1.2 a2 (.V) fun v3 =>
  slS r1.2 1 v3 0 (some r1.1) none fun v4 =>
  (S.skolemref_Clauses v4 r1.2).bind fun r5 =>
  nilck b_ (
  fld b_ 1 fun a6 =>
  ld r5.2 a6 (.V) fun v7 =>
  slS r5.2 1 v7 (IntKind.i64.wrap (r1.1 + 1)) none none fun v8 =>
  appS r5.2 1 24 r5.1 v8 fun v9 σ10 =>
  nilck b_ (
  fld b_ 1 fun a11 =>
  scal v9 (
  stC σ10 a11 [v9] fun σ12 =>
  some (true, σ12))))))
noncomputable def W.skolemref20_Base_Drop : Spec := .eff [.B] fun args σ => packs args [.V, .V] fun x => S.skolemref20_Base_Drop x.1 x.2 σ


noncomputable def S.skolemref20_Base_right.b0 (p1 : AVal) (p2 : AVal) (σ0 : Heap) : Int → Option (Int ⊕ (Unit ⊕ Bool)) := fun x3 =>
  lenV p2 fun n5 =>
  cond (decide (x3 < n5)) (
  ixA σ0 p2 1 x3 fun a6 =>
  ld σ0 a6 (.I .i64) fun n7 =>
  nilck p1 (
  fld p1 0 fun a8 =>
  ld σ0 a8 (.I .i64) fun n9 =>
  (S.skolemref1_Is n7 n9 σ0).bind fun r10 =>
  cond (!r10) (
  some (.inr (.inr false)))
  (some (.inl (IntKind.i64.wrap (x3 + 1))))))
  (some (.inr (.inl ())))
noncomputable def S.skolemref20_Base_right (b_ : AVal) (c_ : AVal) (σ : Heap) : Option Bool :=
  (loopP (S.skolemref20_Base_right.b0 b_ c_ σ) 0).bind fun r11 =>
  (match r11 with
 | .inl y12 => some true
 | .inr y13 => some y13)
noncomputable def W.skolemref20_Base_right : Spec := .pur [.B] fun args σ => packs args [.V, .V] fun x => S.skolemref20_Base_right x.1 x.2 σ


noncomputable def S.skolemref1_NewAssign (vars_ : Int) (σ : Heap) : Option (AVal × Heap) :=
  mkS σ 1 8 [(.int .i64 0)] (IntKind.i64.wrap ((if 4000 < (if 0 > vars_ then 0 else vars_) then 4000 else (if 0 > vars_ then 0 else vars_)) + 1)) (IntKind.i64.wrap ((if 4000 < (if 0 > vars_ then 0 else vars_) then 4000 else (if 0 > vars_ then 0 else vars_)) + 1)) fun v1 σ2 =>
  scal v1 (
  newK σ2 1 [v1] fun l3 σ4 =>
  some ((.ptr l3 0), σ4))
noncomputable def W.skolemref1_NewAssign : Spec := .eff [.V] fun args σ => packs args [.I .i64] fun x => S.skolemref1_NewAssign x σ


noncomputable def S.skolemref1_Assign_Value (a_ : AVal) (l_ : Int) (σ : Heap) : Option Int :=
  nilck a_ (
  fld a_ 0 fun a1 =>
  ld σ a1 (.V) fun v2 =>
  lenV v2 fun n3 =>
  (S.skolemref1_Is l_ (IntKind.i64.wrap (n3 - 1)) σ).bind fun r4 =>
  cond (!r4) (
  some 0)
  (nilck a_ (
  fld a_ 0 fun a5 =>
  ld σ a5 (.V) fun v6 =>
  (S.skolemref_Abs l_ σ).bind fun r7 =>
  ixA σ v6 1 r7 fun a8 =>
  ld σ a8 (.I .i64) fun n9 =>
  (cond (decide (l_ < 0)) (
  some (n9 != 0))
  (some false)).bind fun r10 =>
  cond r10 (
  some (IntKind.i64.wrap (3 - n9)))
  (some n9))))
noncomputable def W.skolemref1_Assign_Value : Spec := .pur [.I .i64] fun args σ => packs args [.V, .I .i64] fun x => S.skolemref1_Assign_Value x.1 x.2 σ


noncomputable def S.skolemref1_Assign_Set (a_ : AVal) (l_ : Int) (σ : Heap) : Option (Bool × Heap) :=
  (nilck a_ (
  fld a_ 0 fun a1 =>
  ld σ a1 (.V) fun v2 =>
  lenV v2 fun n3 =>
  (S.skolemref1_Is l_ (IntKind.i64.wrap (n3 - 1)) σ).bind fun r4 =>
  cond (!r4) (
  some true)
  ((S.skolemref1_Assign_Value a_ l_ σ).bind fun r5 =>
  some (r5 == 2)))).bind fun r6 =>
  cond r6 (
  some (false, σ))
  ((cond (decide (l_ > 0)) (
  nilck a_ (
  fld a_ 0 fun a7 =>
  ld σ a7 (.V) fun v8 =>
  ixA σ v8 1 l_ fun a9 =>
  stC σ a9 [(.int .i64 1)] fun σ10 =>
  some ((), σ10)))
  (nilck a_ (
  fld a_ 0 fun a11 =>
  ld σ a11 (.V) fun v12 =>
  ixA σ v12 1 (IntKind.i64.wrap (0 - l_)) fun a13 =>
  stC σ a13 [(.int .i64 2)] fun σ14 =>
  some ((), σ14)))).bind fun r15 =>
  some (true, r15.2))
noncomputable def W.skolemref1_Assign_Set : Spec := .eff [.B] fun args σ => packs args [.V, .I .i64] fun x => S.skolemref1_Assign_Set x.1 x.2 σ


noncomputable def S.skolemref1_Assign_Clause.b0 (p1 : AVal) (p2 : AVal) (σ0 : Heap) : (Int × Int × Int) → Option ((Int × Int × Int) ⊕ ((Int × Int) ⊕ (Int × Int))) := fun x3 =>
  lenV p2 fun n5 =>
  cond (decide (x3.2.2 < n5)) (
  (ixA σ0 p2 1 x3.2.2 fun a6 =>
  ld σ0 a6 (.I .i64) fun n7 =>
  (S.skolemref1_Assign_Value p1 n7 σ0).bind fun r8 =>
  cond (r8 == 1) (
  some (.inr (1, 0)))
  (cond (r8 == 0) (
  ixA σ0 p2 1 x3.2.2 fun a9 =>
  ld σ0 a9 (.I .i64) fun n10 =>
  (cond (n10 != x3.1) (
  some (IntKind.i64.wrap (x3.2.1 + 1)))
  (some x3.2.1)).bind fun r11 =>
  ixA σ0 p2 1 x3.2.2 fun a12 =>
  ld σ0 a12 (.I .i64) fun n13 =>
  some (.inl (n13, r11)))
  (some (.inl (x3.1, x3.2.1)))) : Option ((Int × Int) ⊕ (Int × Int))).bind fun r14 =>
  (match r14 with
 | .inl y15 => some (.inl (y15.1, y15.2, (IntKind.i64.wrap (x3.2.2 + 1))))
 | .inr y16 => some (.inr (.inr (y16.1, y16.2)))))
  (some (.inr (.inl (x3.1, x3.2.1))))
noncomputable def S.skolemref1_Assign_Clause (a_ : AVal) (c_ : AVal) (σ : Heap) : Option (Int × Int) :=
  (loopP (S.skolemref1_Assign_Clause.b0 a_ c_ σ) (0, 0, 0)).bind fun r17 =>
  (match r17 with
 | .inl y18 => cond (y18.2 == 0) (
  some (2, 0))
  ((cond (decide (y18.2 > 1)) (
  some 0)
  (some y18.1)).bind fun r20 =>
  some (0, r20))
 | .inr y19 => some (y19.1, y19.2))
noncomputable def W.skolemref1_Assign_Clause : Spec := .pur [.I .i64, .I .i64] fun args σ => packs args [.V, .V] fun x => S.skolemref1_Assign_Clause x.1 x.2 σ


noncomputable def S.skolemref1_Assign_Known.b0 (p1 : AVal) : (AVal × Int) → Heap → Option (((AVal × Int) ⊕ AVal) × Heap) := fun x2 σ3 =>
  nilck p1 (
  fld p1 0 fun a4 =>
  ld σ3 a4 (.V) fun v5 =>
  lenV v5 fun n6 =>
  cond (decide (x2.2 < n6)) (
  (nilck p1 (
  fld p1 0 fun a7 =>
  ld σ3 a7 (.V) fun v8 =>
  ixA σ3 v8 1 x2.2 fun a9 =>
  ld σ3 a9 (.I .i64) fun n10 =>
  (cond (n10 == 1) (
  newK σ3 1 [(.int .i64 x2.2)] fun l11 σ12 =>
  appS σ12 1 8 x2.1 (.sl l11 0 1 none) fun v13 σ14 =>
  some (v13, σ14))
  (some (x2.1, σ3))).bind fun r15 =>
  nilck p1 (
  fld p1 0 fun a16 =>
  ld r15.2 a16 (.V) fun v17 =>
  ixA r15.2 v17 1 x2.2 fun a18 =>
  ld r15.2 a18 (.I .i64) fun n19 =>
  cond (n19 == 2) (
  newK r15.2 1 [(.int .i64 (IntKind.i64.wrap (0 - x2.2)))] fun l20 σ21 =>
  appS σ21 1 8 r15.1 (.sl l20 0 1 none) fun v22 σ23 =>
  some (v22, σ23))
  (some (r15.1, r15.2))))).bind fun r24 =>
  some (.inl (r24.1, (IntKind.i64.wrap (x2.2 + 1))), r24.2))
  (some (.inr x2.1, σ3)))
noncomputable def S.skolemref1_Assign_Known (a_ : AVal) (σ : Heap) : Option (AVal × Heap) :=
  (loopW (S.skolemref1_Assign_Known.b0 a_) (.nils, 1) σ).bind fun r25 =>
  some (r25.1, r25.2)
noncomputable def W.skolemref1_Assign_Known : Spec := .eff [.V] fun args σ => packs args [.V] fun x => S.skolemref1_Assign_Known x σ


noncomputable def S.skolemref20_Closure.b0 (p2 : AVal) (p3 : AVal) (p4 : AVal) : Int → Heap → Option ((Int ⊕ (Unit ⊕ (AVal × Bool))) × Heap) := fun x5 σ6 =>
  lenV p3 fun n7 =>
  cond (decide (x5 < n7)) (
  ixA σ6 p3 1 x5 fun a8 =>
  ld σ6 a8 (.I .i64) fun n9 =>
  (S.skolemref1_Assign_Set p4 n9 σ6).bind fun r10 =>
  cond (!r10.1) (
  some (.inr (.inr (.nils, false)), r10.2))
  (some (.inl (IntKind.i64.wrap (x5 + 1)), r10.2)))
  (some (.inr (.inl ()), σ6))
noncomputable def S.skolemref20_Closure.b1 (p18 : AVal) (p19 : AVal) : (Bool × Int) → Heap → Option (((Bool × Int) ⊕ (Bool ⊕ (AVal × Bool))) × Heap) := fun x20 σ21 =>
  lenV p18 fun n22 =>
  cond (decide (x20.2 < n22)) (
  (ixA σ21 p18 1 x20.2 fun a23 =>
  ld σ21 a23 (.V) fun v24 =>
  (S.skolemref1_Assign_Clause p19 v24 σ21).bind fun r25 =>
  cond (r25.1 == 2) (
  some (.inr (.nils, false), σ21))
  (cond (r25.2 != 0) (
  (S.skolemref1_Assign_Set p19 r25.2 σ21).bind fun r26 =>
  cond (!r26.1) (
  some (.inr (.nils, false), r26.2))
  (some (.inl true, r26.2)))
  (some (.inl x20.1, σ21))) : Option ((Bool ⊕ (AVal × Bool)) × Heap)).bind fun r27 =>
  (match r27.1 with
 | .inl y28 => some (.inl (y28, (IntKind.i64.wrap (x20.2 + 1))), r27.2)
 | .inr y29 => some (.inr (.inr (y29.1, y29.2)), r27.2)))
  (some (.inr (.inl x20.1), σ21))
noncomputable def S.skolemref20_Closure.b2 (p14 : AVal) (p15 : AVal) : Unit → Heap → Option ((Unit ⊕ ((AVal × Bool))) × Heap) := fun x16 σ17 =>
  (loopW (S.skolemref20_Closure.b1 p14 p15) (false, 0) σ17).bind fun r30 =>
  (match r30.1 with
 | .inl y31 => cond (!y31) (
  (S.skolemref1_Assign_Known p15 r30.2).bind fun r33 =>
  some (.inr (r33.1, true), r33.2))
  (some (.inl (), r30.2))
 | .inr y32 => some (.inr (y32.1, y32.2), r30.2))
noncomputable def S.skolemref20_Closure (vars_ : Int) (c_ : AVal) (start_ : AVal) (σ : Heap) : Option ((AVal × Bool) × Heap) :=
  (S.skolemref1_NewAssign vars_ σ).bind fun r1 =>
  (loopW (S.skolemref20_Closure.b0 c_ start_ r1.1) 0 r1.2).bind fun r11 =>
  (match r11.1 with
 | .inl y12 => (loopW (S.skolemref20_Closure.b2 c_ r1.1) () r11.2).bind fun r34 =>
  some ((r34.1.1, r34.1.2), r34.2)
 | .inr y13 => some ((y13.1, y13.2), r11.2))
noncomputable def W.skolemref20_Closure : Spec := .eff [.V, .B] fun args σ => packs args [.I .i64, .V, .V] fun x => S.skolemref20_Closure x.1 x.2.1 x.2.2 σ


noncomputable def S.skolemref20_Base_Implied.b0 (p2 : AVal) (p3 : AVal) : (AVal × Int) → Heap → Option (((AVal × Int) ⊕ AVal) × Heap) := fun x4 σ5 =>
  lenV p3 fun n6 =>
  cond (decide (x4.2 < n6)) (
  ixA σ5 p3 1 x4.2 fun a7 =>
  ld σ5 a7 (.I .i64) fun n8 =>
  newK σ5 1 [(.int .i64 (IntKind.i64.wrap (0 - n8)))] fun l9 σ10 =>
  appS σ10 1 8 x4.1 (.sl l9 0 1 none) fun v11 σ12 =>
  some (.inl (v11, (IntKind.i64.wrap (x4.2 + 1))), σ12))
  (some (.inr x4.1, σ5))
noncomputable def S.skolemref20_Base_Implied (b_ : AVal) (c_ : AVal) (σ : Heap) : Option (Bool × Heap) :=
  (S.skolemref20_Base_right b_ c_ σ).bind fun r1 =>
  cond (!r1) (
  some (false, σ))
  ((loopW (S.skolemref20_Base_Implied.b0 b_ c_) (.nils, 0) σ).bind fun r13 =>
  nilck b_ (
  fld b_ 0 fun a14 =>
  ld r13.2 a14 (.I .i64) fun n15 =>
  nilck b_ (
  fld b_ 1 fun a16 =>
  ld r13.2 a16 (.V) fun v17 =>
  (S.skolemref20_Closure n15 v17 r13.1 r13.2).bind fun r18 =>
  some ((!r18.1.2), r18.2))))
noncomputable def W.skolemref20_Base_Implied : Spec := .eff [.B] fun args σ => packs args [.V, .V] fun x => S.skolemref20_Base_Implied x.1 x.2 σ


noncomputable def S.skolemref20_Base_Blocked.b0 (p21 : AVal) (p22 : AVal) (p23 : Int) (p24 : Int) : (AVal × Int) → Heap → Option (((AVal × Int) ⊕ AVal) × Heap) := fun x25 σ26 =>
  nilck p21 (
  fld p21 1 fun a27 =>
  ld σ26 a27 (.V) fun v28 =>
  ixA σ26 v28 1 p24 fun a29 =>
  ld σ26 a29 (.V) fun v30 =>
  lenV v30 fun n31 =>
  cond (decide (x25.2 < n31)) (
  (nilck p21 (
  fld p21 1 fun a32 =>
  ld σ26 a32 (.V) fun v33 =>
  ixA σ26 v33 1 p24 fun a34 =>
  ld σ26 a34 (.V) fun v35 =>
  ixA σ26 v35 1 x25.2 fun a36 =>
  ld σ26 a36 (.I .i64) fun n37 =>
  cond (n37 != (IntKind.i64.wrap (0 - p23))) (
  nilck p21 (
  fld p21 1 fun a38 =>
  ld σ26 a38 (.V) fun v39 =>
  ixA σ26 v39 1 p24 fun a40 =>
  ld σ26 a40 (.V) fun v41 =>
  ixA σ26 v41 1 x25.2 fun a42 =>
  ld σ26 a42 (.I .i64) fun n43 =>
  newK σ26 1 [(.int .i64 n43)] fun l44 σ45 =>
  appS σ45 1 8 x25.1 (.sl l44 0 1 none) fun v46 σ47 =>
  some (v46, σ47)))
  (some (x25.1, σ26)))).bind fun r48 =>
  some (.inl (r48.1, (IntKind.i64.wrap (x25.2 + 1))), r48.2))
  (some (.inr x25.1, σ26)))
noncomputable def S.skolemref20_Base_Blocked.b1 (p7 : AVal) (p8 : AVal) (p9 : Int) : Int → Heap → Option ((Int ⊕ (Unit ⊕ Bool)) × Heap) := fun x10 σ11 =>
  nilck p7 (
  fld p7 1 fun a12 =>
  ld σ11 a12 (.V) fun v13 =>
  lenV v13 fun n14 =>
  cond (decide (x10 < n14)) (
  (nilck p7 (
  fld p7 1 fun a15 =>
  ld σ11 a15 (.V) fun v16 =>
  ixA σ11 v16 1 x10 fun a17 =>
  ld σ11 a17 (.V) fun v18 =>
  (S.skolemref_Has v18 (IntKind.i64.wrap (0 - p9)) σ11).bind fun r19 =>
  cond (!r19) (
  some (.inl (), σ11))
  ((S.skolemref_Ints p8 σ11).bind fun r20 =>
  (loopW (S.skolemref20_Base_Blocked.b0 p7 p8 p9 x10) (r20.1, 0) r20.2).bind fun r49 =>
  (S.skolemref20_Base_Implied p7 r49.1 r49.2).bind fun r50 =>
  cond (!r50.1) (
  some (.inr false, r50.2))
  (some (.inl (), r50.2)))) : Option ((Unit ⊕ Bool) × Heap)).bind fun r51 =>
  (match r51.1 with
 | .inl y52 => some (.inl (IntKind.i64.wrap (x10 + 1)), r51.2)
 | .inr y53 => some (.inr (.inr y53), r51.2)))
  (some (.inr (.inl ()), σ11)))
noncomputable def S.skolemref20_Base_Blocked (p0 : AVal) (p1 : AVal) (σ : Heap) : Option (Bool × Heap) :=
  (S.skolemref20_Base_Implied p0 p1 σ).bind fun r1 =>
  cond r1.1 (
  some (true, r1.2))
  ((lenV p1 fun n2 =>
  cond (n2 == 0) (
  some true)
  ((S.skolemref20_Base_right p0 p1 r1.2).bind fun r3 =>
  some (!r3))).bind fun r4 =>
  cond r4 (
  some (false, r1.2))
  (ixA r1.2 p1 1 0 fun a5 =>
  ld r1.2 a5 (.I .i64) fun n6 =>
  (loopW (S.skolemref20_Base_Blocked.b1 p0 p1 n6) 0 r1.2).bind fun r54 =>
  (match r54.1 with
 | .inl y55 => some (true, r54.2)
 | .inr y56 => some (y56, r54.2))))
noncomputable def W.skolemref20_Base_Blocked : Spec := .eff [.B] fun args σ => packs args [.V, .V] fun x => S.skolemref20_Base_Blocked x.1 x.2 σ


noncomputable def S.skolemref20_Base_Add (b_ : AVal) (c_ : AVal) (σ : Heap) : Option (Bool × Heap) :=
  (S.skolemref20_Base_right b_ c_ σ).bind fun r1 =>
  cond (!r1) (
  some (false, σ))
  (nilck b_ (
  fld b_ 1 fun a2 =>
  ld σ a2 (.V) fun v3 =>
  (S.skolemref_Clauses v3 σ).bind fun r4 =>
  (S.skolemref_Ints c_ r4.2).bind fun r5 =>
  scal r5.1 (
  newK r5.2 1 [r5.1] fun l6 σ7 =>
  appS σ7 1 24 r4.1 (.sl l6 0 1 none) fun v8 σ9 =>
  nilck b_ (
  fld b_ 1 fun a10 =>
  scal v8 (
  stC σ9 a10 [v8] fun σ11 =>
  some (true, σ11))))))
noncomputable def W.skolemref20_Base_Add : Spec := .eff [.B] fun args σ => packs args [.V, .V] fun x => S.skolemref20_Base_Add x.1 x.2 σ


noncomputable def S.skolemref20_run.b0 (p29 : AVal) (p30 : Bool) (p31 : AVal) (p32 : AVal) : Int → Heap → Option ((Int ⊕ (Unit ⊕ AVal)) × Heap) := fun x33 σ34 =>
  lenV p29 fun n35 =>
  cond (decide (x33 < n35)) (
  ((ixA σ34 p29 2 x33 fun a36 =>
  fld a36 0 fun a37 =>
  ld σ34 a37 (.B) fun b38 =>
  cond b38 (
  ixA σ34 p29 2 x33 fun a39 =>
  fld a39 1 fun a40 =>
  ld σ34 a40 (.V) fun v41 =>
  (S.skolemref20_Base_Drop p32 v41 σ34).bind fun r42 =>
  some (r42.1, r42.2))
  (cond p30 (
  ixA σ34 p29 2 x33 fun a43 =>
  fld a43 1 fun a44 =>
  ld σ34 a44 (.V) fun v45 =>
  (S.skolemref20_Base_Blocked p32 v45 σ34).bind fun r46 =>
  ixA r46.2 p29 2 x33 fun a47 =>
  fld a47 1 fun a48 =>
  ld r46.2 a48 (.V) fun v49 =>
  (S.skolemref20_Base_Add p32 v49 r46.2).bind fun r50 =>
  some (r46.1, r50.2))
  (ixA σ34 p29 2 x33 fun a51 =>
  fld a51 1 fun a52 =>
  ld σ34 a52 (.V) fun v53 =>
  (S.skolemref20_Base_Implied p32 v53 σ34).bind fun r54 =>
  ixA r54.2 p29 2 x33 fun a55 =>
  fld a55 1 fun a56 =>
  ld r54.2 a56 (.V) fun v57 =>
  (S.skolemref20_Base_Add p32 v57 r54.2).bind fun r58 =>
  some (r54.1, r58.2)))).bind fun r59 =>
  cond (!r59.1) (
  (S.skolemref_Placed 106 x33 r59.2).bind fun r60 =>
  aggK r60.1 3 fun cs61 =>
  stC r60.2 p31 cs61 fun σ62 =>
  some (.inr .nilp, σ62))
  (some (.inl (), r59.2)) : Option ((Unit ⊕ AVal) × Heap)).bind fun r63 =>
  (match r63.1 with
 | .inl y64 => some (.inl (IntKind.i64.wrap (x33 + 1)), r63.2)
 | .inr y65 => some (.inr (.inr y65), r63.2)))
  (some (.inr (.inl ()), σ34))
noncomputable def S.skolemref20_run (p0 : AVal) (p1 : AVal) (p2 : Bool) (σ : Heap) : Option ((AVal × AVal) × Heap) :=
  aggK p0 2 fun cs1 =>
  newK σ 2 cs1 fun l2 σ3 =>
  newK σ3 3 [(.int .i64 0), (.bool false), (.int .i64 0)] fun l4 σ5 =>
  ldG σ5 (.ptr l2 0) 2 fun g6 =>
  (S.skolemref1_CheckCNF g6 σ5).bind fun r7 =>
  newK r7.2 3 [(.int .i64 0), (.bool false), (.int .i64 0)] fun l8 σ9 =>
  aggK r7.1 3 fun cs10 =>
  stC σ9 (.ptr l8 0) cs10 fun σ11 =>
  ld σ11 (.ptr l8 0) (.I .i64) fun n12 =>
  (cond (n12 == 0) (
  (S.skolemref20_Check p1 σ11).bind fun r13 =>
  aggK r13.1 3 fun cs14 =>
  stC r13.2 (.ptr l8 0) cs14 fun σ15 =>
  some ((), σ15))
  (some ((), σ11))).bind fun r16 =>
  ld r16.2 (.ptr l8 0) (.I .i64) fun n17 =>
  cond (n17 != 0) (
  ldG r16.2 (.ptr l8 0) 3 fun g18 =>
  aggK g18 3 fun cs19 =>
  stC r16.2 (.ptr l4 0) cs19 fun σ20 =>
  ldG σ20 (.ptr l4 0) 3 fun g21 =>
  some ((.nilp, g21), σ20))
  (ldG r16.2 (.ptr l2 0) 2 fun g22 =>
  (S.skolemref20_greatest g22 p1 r16.2).bind fun r23 =>
  ld r23.2 (.ptr l2 1) (.V) fun v24 =>
  ld r16.2 (.ptr l2 1) (.V) fun v25 =>
  chk ((v25 : AVal) = v24) (
  (S.skolemref_Clauses v24 r23.2).bind fun r26 =>
  scal r26.1 (
  newK r26.2 2 [(.int .i64 r23.1), r26.1] fun l27 σ28 =>
  (loopW (S.skolemref20_run.b0 p1 p2 (.ptr l4 0) (.ptr l27 0)) 0 σ28).bind fun r66 =>
  (match r66.1 with
 | .inl y67 => (S.skolemref_None r66.2).bind fun r69 =>
  aggK r69.1 3 fun cs70 =>
  stC r69.2 (.ptr l4 0) cs70 fun σ71 =>
  ldG σ71 (.ptr l4 0) 3 fun g72 =>
  some (((.ptr l27 0), g72), σ71)
 | .inr y68 => ldG r66.2 (.ptr l4 0) 3 fun g73 =>
  some ((y68, g73), r66.2)))))
noncomputable def W.skolemref20_run : Spec := .eff [.V, .V] fun args σ => packs args [.V, .V, .B] fun x => S.skolemref20_run x.1 x.2.1 x.2.2 σ


noncomputable def S.skolemref20_Refute (c_ : AVal) (l_ : AVal) (σ : Heap) : Option (AVal × Heap) :=
  aggK c_ 2 fun cs1 =>
  newK σ 2 cs1 fun l2 σ3 =>
  newK σ3 3 [(.int .i64 0), (.bool false), (.int .i64 0)] fun l4 σ5 =>
  ldG σ5 (.ptr l2 0) 2 fun g6 =>
  (S.skolemref20_run g6 l_ true σ5).bind fun r7 =>
  newK r7.2 3 [(.int .i64 0), (.bool false), (.int .i64 0)] fun l8 σ9 =>
  aggK r7.1.2 3 fun cs10 =>
  stC σ9 (.ptr l8 0) cs10 fun σ11 =>
  (ld σ11 (.ptr l8 0) (.I .i64) fun n12 =>
  cond (n12 == 0) (
  (S.skolemref20_Base_Implied r7.1.1 .nils σ11).bind fun r13 =>
  some ((!r13.1), r13.2))
  (some (false, σ11))).bind fun r14 =>
  (cond r14.1 (
  (S.skolemref_Bare 106 r14.2).bind fun r15 =>
  aggK r15.1 3 fun cs16 =>
  stC r15.2 (.ptr l8 0) cs16 fun σ17 =>
  some ((), σ17))
  (some ((), r14.2))).bind fun r18 =>
  ldG r18.2 (.ptr l8 0) 3 fun g19 =>
  aggK g19 3 fun cs20 =>
  stC r18.2 (.ptr l4 0) cs20 fun σ21 =>
  ldG σ21 (.ptr l4 0) 3 fun g22 =>
  some (g22, σ21)
noncomputable def W.skolemref20_Refute : Spec := .eff [.V] fun args σ => packs args [.V, .V] fun x => S.skolemref20_Refute x.1 x.2 σ


noncomputable def S.skolemref20_Used.b0 (p17 : AVal) (p18 : AVal) (p19 : AVal) (p20 : AVal) : Int → Heap → Option ((Int ⊕ (Unit ⊕ Int)) × Heap) := fun x21 σ22 =>
  lenV p17 fun n23 =>
  cond (decide (x21 < n23)) (
  ldG σ22 p18 2 fun g24 =>
  slS σ22 2 p17 0 (some x21) none fun v25 =>
  (S.skolemref20_Refute g24 v25 σ22).bind fun r26 =>
  agS r26.1 0 (.I .i64) fun n27 =>
  cond (n27 == 0) (
  ldG r26.2 p20 3 fun g28 =>
  aggK g28 3 fun cs29 =>
  stC r26.2 p19 cs29 fun σ30 =>
  some (.inr (.inr x21), σ30))
  (some (.inl (IntKind.i64.wrap (x21 + 1)), r26.2)))
  (some (.inr (.inl ()), σ22))
noncomputable def S.skolemref20_Used (c_ : AVal) (l_ : AVal) (σ : Heap) : Option ((Int × AVal) × Heap) :=
  aggK c_ 2 fun cs1 =>
  newK σ 2 cs1 fun l2 σ3 =>
  newK σ3 3 [(.int .i64 0), (.bool false), (.int .i64 0)] fun l4 σ5 =>
  ldG σ5 (.ptr l2 0) 2 fun g6 =>
  (S.skolemref20_Refute g6 l_ σ5).bind fun r7 =>
  newK r7.2 3 [(.int .i64 0), (.bool false), (.int .i64 0)] fun l8 σ9 =>
  aggK r7.1 3 fun cs10 =>
  stC σ9 (.ptr l8 0) cs10 fun σ11 =>
  ld σ11 (.ptr l8 0) (.I .i64) fun n12 =>
  cond (n12 != 0) (
  ldG σ11 (.ptr l8 0) 3 fun g13 =>
  aggK g13 3 fun cs14 =>
  stC σ11 (.ptr l4 0) cs14 fun σ15 =>
  ldG σ15 (.ptr l4 0) 3 fun g16 =>
  some ((0, g16), σ15))
  ((loopW (S.skolemref20_Used.b0 l_ (.ptr l2 0) (.ptr l4 0) (.ptr l8 0)) 0 σ11).bind fun r31 =>
  (match r31.1 with
 | .inl y32 => lenV l_ fun n34 =>
  ldG r31.2 (.ptr l8 0) 3 fun g35 =>
  aggK g35 3 fun cs36 =>
  stC r31.2 (.ptr l4 0) cs36 fun σ37 =>
  ldG σ37 (.ptr l4 0) 3 fun g38 =>
  some ((n34, g38), σ37)
 | .inr y33 => ldG r31.2 (.ptr l4 0) 3 fun g39 =>
  some ((y33, g39), r31.2)))
noncomputable def W.skolemref20_Used : Spec := .eff [.I .i64, .V] fun args σ => packs args [.V, .V] fun x => S.skolemref20_Used x.1 x.2 σ


noncomputable def S.skolemsee_sentinels (σ : Heap) : Option (AVal × Heap) :=
  ld σ (.ptr 3 0) (.V) fun v1 =>
  ld σ (.ptr 2 0) (.V) fun v2 =>
  ld σ (.ptr 4 0) (.V) fun v3 =>
  ld σ (.ptr 1 0) (.V) fun v4 =>
  ld σ (.ptr 5 0) (.V) fun v5 =>
  ld σ (.ptr 0 0) (.V) fun v6 =>
  ld σ (.ptr 6 0) (.V) fun v7 =>
  scal v1 (
  scal v2 (
  scal v3 (
  scal v4 (
  scal v5 (
  scal v6 (
  scal v7 (
  newK σ 1 [v1, v2, v3, v4, v5, v6, v7] fun l8 σ9 =>
  some ((.sl l8 0 7 none), σ9))))))))
noncomputable def W.skolemsee_sentinels : Spec := .eff [.V] fun args σ => packs args [] fun x => S.skolemsee_sentinels σ


noncomputable def S.skolemsee_Alike (a_ : AVal) (b_ : AVal) (σ : Heap) : Option Bool :=
  (eqI (tiOf Tryz.prog) σ true a_ .nili fun b1 =>
  cond b1 (
  some true)
  (eqI (tiOf Tryz.prog) σ true b_ .nili fun b2 =>
  some b2)).bind fun r3 =>
  cond r3 (
  (eqI (tiOf Tryz.prog) σ true a_ .nili fun b4 =>
  cond b4 (
  eqI (tiOf Tryz.prog) σ true b_ .nili fun b5 =>
  some b5)
  (some false)).bind fun r6 =>
  some r6)
  (eqI (tiOf Tryz.prog) σ false a_ b_ fun b7 =>
  some b7)
noncomputable def W.skolemsee_Alike : Spec := .pur [.B] fun args σ => packs args [.V, .V] fun x => S.skolemsee_Alike x.1 x.2 σ


noncomputable def S.skolemsee_sentinel.b0 (p2 : AVal) (p3 : AVal) (σ0 : Heap) : Int → Option (Int ⊕ (Unit ⊕ Int)) := fun x4 =>
  lenV p3 fun n6 =>
  cond (decide (x4 < n6)) (
  ixA σ0 p3 1 x4 fun a7 =>
  ld σ0 a7 (.V) fun v8 =>
  (S.skolemsee_Alike p2 v8 σ0).bind fun r9 =>
  cond r9 (
  some (.inr (.inr (IntKind.i64.wrap (101 + x4)))))
  (some (.inl (IntKind.i64.wrap (x4 + 1)))))
  (some (.inr (.inl ())))
noncomputable def S.skolemsee_sentinel (e_ : AVal) (σ : Heap) : Option (Int × Heap) :=
  (S.skolemsee_sentinels σ).bind fun r1 =>
  (loopP (S.skolemsee_sentinel.b0 e_ r1.1 r1.2) 0).bind fun r10 =>
  (match r10 with
 | .inl y11 => some ((-1), r1.2)
 | .inr y12 => some (y12, r1.2))
noncomputable def W.skolemsee_sentinel : Spec := .eff [.I .i64] fun args σ => packs args [.V] fun x => S.skolemsee_sentinel x σ


noncomputable def S.skolemsee_Fault (e_ : AVal) (σ : Heap) : Option (AVal × Heap) :=
  newK σ 3 [(.int .i64 0), (.bool false), (.int .i64 0)] fun l1 σ2 =>
  eqI (tiOf Tryz.prog) σ2 true e_ .nili fun b3 =>
  cond b3 (
  (S.skolemref_None σ2).bind fun r4 =>
  aggK r4.1 3 fun cs5 =>
  stC r4.2 (.ptr l1 0) cs5 fun σ6 =>
  ldG σ6 (.ptr l1 0) 3 fun g7 =>
  some (g7, σ6))
  (assertZ 72 e_ .nilp fun x8 b10 =>
  cond (!b10) (
  (S.skolemsee_sentinel e_ σ2).bind fun r11 =>
  (S.skolemref_Bare r11.1 r11.2).bind fun r12 =>
  aggK r12.1 3 fun cs13 =>
  stC r12.2 (.ptr l1 0) cs13 fun σ14 =>
  ldG σ14 (.ptr l1 0) 3 fun g15 =>
  some (g15, σ14))
  ((eqP x8 .nilp fun b16 =>
  cond b16 (
  some true)
  (nilck x8 (
  fld x8 1 fun a17 =>
  ld σ2 a17 (.V) fun v18 =>
  eqI (tiOf Tryz.prog) σ2 true v18 .nili fun b19 =>
  some b19))).bind fun r20 =>
  cond r20 (
  (S.skolemref_Bare (-1) σ2).bind fun r21 =>
  aggK r21.1 3 fun cs22 =>
  stC r21.2 (.ptr l1 0) cs22 fun σ23 =>
  ldG σ23 (.ptr l1 0) 3 fun g24 =>
  some (g24, σ23))
  (nilck x8 (
  fld x8 1 fun a25 =>
  ld σ2 a25 (.V) fun v26 =>
  (S.skolemsee_sentinel v26 σ2).bind fun r27 =>
  nilck x8 (
  fld x8 0 fun a28 =>
  ld r27.2 a28 (.I .i64) fun n29 =>
  ld σ2 a28 (.I .i64) fun n30 =>
  chk (((.int .i64 n30) : AVal) = (.int .i64 n29)) (
  (S.skolemref_Placed r27.1 n29 r27.2).bind fun r31 =>
  aggK r31.1 3 fun cs32 =>
  stC r31.2 (.ptr l1 0) cs32 fun σ33 =>
  ldG σ33 (.ptr l1 0) 3 fun g34 =>
  some (g34, σ33)))))))
noncomputable def W.skolemsee_Fault : Spec := .eff [.V] fun args σ => packs args [.V] fun x => S.skolemsee_Fault x σ


noncomputable def S.skolemref_SameFault (a_ : AVal) (b_ : AVal) (σ : Heap) : Option (Bool × Heap) :=
  aggK a_ 3 fun cs1 =>
  newK σ 3 cs1 fun l2 σ3 =>
  aggK b_ 3 fun cs4 =>
  newK σ3 3 cs4 fun l5 σ6 =>
  (ld σ6 (.ptr l2 0) (.I .i64) fun n7 =>
  ld σ6 (.ptr l5 0) (.I .i64) fun n8 =>
  cond (n7 == n8) (
  ld σ6 (.ptr l2 1) (.B) fun b9 =>
  ld σ6 (.ptr l5 1) (.B) fun b10 =>
  cond (b9 == b10) (
  ld σ6 (.ptr l2 2) (.I .i64) fun n11 =>
  ld σ6 (.ptr l5 2) (.I .i64) fun n12 =>
  some (n11 == n12))
  (some false))
  (some false)).bind fun r13 =>
  some (r13, σ6)
noncomputable def W.skolemref_SameFault : Spec := .eff [.B] fun args σ => packs args [.V, .V] fun x => S.skolemref_SameFault x.1 x.2 σ


noncomputable def S.skolemsee_Same (e_ : AVal) (f_ : AVal) (σ : Heap) : Option (Bool × Heap) :=
  aggK f_ 3 fun cs1 =>
  newK σ 3 cs1 fun l2 σ3 =>
  (S.skolemsee_Fault e_ σ3).bind fun r4 =>
  ldG r4.2 (.ptr l2 0) 3 fun g5 =>
  ldG σ3 (.ptr l2 0) 3 fun g6 =>
  chk ((g6 : AVal) = g5) (
  (S.skolemref_SameFault r4.1 g5 r4.2).bind fun r7 =>
  some (r7.1, r7.2))
noncomputable def W.skolemsee_Same : Spec := .eff [.B] fun args σ => packs args [.V, .V] fun x => S.skolemsee_Same x.1 x.2 σ


noncomputable def S.drat_Derive.b0 (p10 : AVal) (p11 : AVal) (p12 : Int) (p13 : Int) (σ0 : Heap) : Int → Option (Int ⊕ (Unit ⊕ AVal)) := fun x14 =>
  cond (decide (x14 < p13)) (
  ixA σ0 p10 1 x14 fun a16 =>
  ld σ0 a16 (.I .i64) fun n17 =>
  (S.lits_Is n17 p12 σ0).bind fun r18 =>
  cond (!r18) (
  ld σ0 (.ptr 1 0) (.V) fun v19 =>
  some (.inr (.inr v19)))
  (some (.inl (IntKind.i64.wrap (x14 + 1)))))
  (some (.inr (.inl ())))
noncomputable def S.drat_Derive (c_ : AVal) (l_ : AVal) (goal_ : AVal) (σ : Heap) : Option (AVal × Heap) :=
  aggK c_ 2 fun cs1 =>
  newK σ 2 cs1 fun l2 σ3 =>
  ldG σ3 (.ptr l2 0) 2 fun g4 =>
  (S.drat_begin g4 l_ σ3).bind fun r5 =>
  eqI (tiOf Tryz.prog) r5.2 true r5.1.2.2 .nili fun b6 =>
  cond (!b6) (
  some (r5.1.2.2, r5.2))
  ((S.drat_steps r5.1.1 l_ (.fn (.func 22) [r5.1.1] []) r5.2).bind fun r7 =>
  eqI (tiOf Tryz.prog) r7.2 true r7.1 .nili fun b8 =>
  cond (!b8) (
  some (r7.1, r7.2))
  (lenV goal_ fun n9 =>
  (loopP (S.drat_Derive.b0 goal_ r5.1.1 r5.1.2.1 n9 r7.2) 0).bind fun r20 =>
  (match r20 with
 | .inl y21 => (S.rup_Base_Implied r5.1.1 goal_ r7.2).bind fun r23 =>
  cond (!r23.1) (
  ld r23.2 (.ptr 0 0) (.V) fun v24 =>
  some (v24, r23.2))
  (some (.nili, r23.2))
 | .inr y22 => some (y22, r7.2))))
noncomputable def W.drat_Derive : Spec := .eff [.V] fun args σ => packs args [.V, .V, .V] fun x => S.drat_Derive x.1 x.2.1 x.2.2 σ


noncomputable def S.skolemref20_Derive (c_ : AVal) (l_ : AVal) (goal_ : AVal) (σ : Heap) : Option (AVal × Heap) :=
  aggK c_ 2 fun cs1 =>
  newK σ 2 cs1 fun l2 σ3 =>
  newK σ3 3 [(.int .i64 0), (.bool false), (.int .i64 0)] fun l4 σ5 =>
  ldG σ5 (.ptr l2 0) 2 fun g6 =>
  (S.skolemref20_run g6 l_ false σ5).bind fun r7 =>
  newK r7.2 3 [(.int .i64 0), (.bool false), (.int .i64 0)] fun l8 σ9 =>
  aggK r7.1.2 3 fun cs10 =>
  stC σ9 (.ptr l8 0) cs10 fun σ11 =>
  ld σ11 (.ptr l8 0) (.I .i64) fun n12 =>
  cond (n12 != 0) (
  ldG σ11 (.ptr l8 0) 3 fun g13 =>
  aggK g13 3 fun cs14 =>
  stC σ11 (.ptr l4 0) cs14 fun σ15 =>
  ldG σ15 (.ptr l4 0) 3 fun g16 =>
  some (g16, σ15))
  ((S.skolemref20_Base_right r7.1.1 goal_ σ11).bind fun r17 =>
  cond (!r17) (
  (S.skolemref_Bare 104 σ11).bind fun r18 =>
  aggK r18.1 3 fun cs19 =>
  stC r18.2 (.ptr l4 0) cs19 fun σ20 =>
  ldG σ20 (.ptr l4 0) 3 fun g21 =>
  some (g21, σ20))
  ((S.skolemref20_Base_Implied r7.1.1 goal_ σ11).bind fun r22 =>
  cond (!r22.1) (
  (S.skolemref_Bare 106 r22.2).bind fun r23 =>
  aggK r23.1 3 fun cs24 =>
  stC r23.2 (.ptr l4 0) cs24 fun σ25 =>
  ldG σ25 (.ptr l4 0) 3 fun g26 =>
  some (g26, σ25))
  (ldG r22.2 (.ptr l8 0) 3 fun g27 =>
  aggK g27 3 fun cs28 =>
  stC r22.2 (.ptr l4 0) cs28 fun σ29 =>
  ldG σ29 (.ptr l4 0) 3 fun g30 =>
  some (g30, σ29))))
noncomputable def W.skolemref20_Derive : Spec := .eff [.V] fun args σ => packs args [.V, .V, .V] fun x => S.skolemref20_Derive x.1 x.2.1 x.2.2 σ


noncomputable def S.skolemlaw22_DratSays.b0 (p23 : AVal) (p24 : AVal) (p25 : AVal) (p26 : AVal) (p27 : Bool) (p28 : AVal) : (AVal × Int) → Heap → Option (((AVal × Int) ⊕ AVal) × Heap) := fun x29 σ30 =>
  lenV p25 fun n31 =>
  cond (decide (x29.2 < n31)) (
  ixA σ30 p25 1 x29.2 fun a32 =>
  ld σ30 a32 (.I .i64) fun n33 =>
  (S.skolemmake_Lit n33 10 σ30).bind fun r34 =>
  newK σ30 1 [(.int .i64 r34)] fun l35 σ36 =>
  appS σ36 1 8 x29.1 (.sl l35 0 1 none) fun v37 σ38 =>
  some (.inl (v37, (IntKind.i64.wrap (x29.2 + 1))), σ38))
  (some (.inr x29.1, σ30))
noncomputable def S.skolemlaw22_DratSays (p0 : AVal) (p1 : AVal) (p2 : AVal) (p3 : AVal) (p4 : AVal) (σ : Heap) : Option (Bool × Heap) :=
  aggK p4 2 fun cs1 =>
  newK σ 2 cs1 fun l2 σ3 =>
  (S.skolemlaw22_first σ3).bind fun r4 =>
  cond (!r4.1) (
  some (false, r4.2))
  ((lenV p0 fun n5 =>
  cond (decide (n5 > 80)) (
  some true)
  ((S.skolemlaw22_light p1 r4.2).bind fun r6 =>
  cond (!r6) (
  some true)
  (lenV p2 fun n7 =>
  cond (decide (n7 > 60)) (
  some true)
  (lenV p3 fun n8 =>
  cond (decide (n8 > 6)) (
  some true)
  (ld r4.2 (.ptr l2 1) (.V) fun v9 =>
  lenV v9 fun n10 =>
  cond (decide (n10 > 20)) (
  some true)
  (ld r4.2 (.ptr l2 1) (.V) fun v11 =>
  (S.skolemmake_NearAll v11 r4.2).bind fun r12 =>
  cond (!r12) (
  some true)
  (ld r4.2 (.ptr l2 1) (.V) fun v13 =>
  (S.skolemmake_Count v13 r4.2).bind fun r14 =>
  cond (decide (r14 > 100)) (
  some true)
  ((S.skolemmake_Near p3 r4.2).bind fun r15 =>
  cond (!r15) (
  some true)
  (ld r4.2 (.ptr l2 0) (.I .i64) fun n16 =>
  some (decide (n16 > 100))))))))))).bind fun r17 =>
  cond r17 (
  some (r4.1, r4.2))
  ((S.skolemmake_CNF p0 8 r4.2).bind fun r18 =>
  newK r18.2 2 [(.int .i64 0), .nils] fun l19 σ20 =>
  aggK r18.1 2 fun cs21 =>
  stC σ20 (.ptr l19 0) cs21 fun σ22 =>
  (loopW (S.skolemlaw22_DratSays.b0 p1 p2 p3 (.ptr l2 0) r4.1 (.ptr l19 0)) (.nils, 0) σ22).bind fun r39 =>
  (S.skolemlaw22_steps p2 r39.2).bind fun r40 =>
  ldG r40.2 (.ptr l19 0) 2 fun g41 =>
  (S.drat_Used g41 r40.1 r40.2).bind fun r42 =>
  ldG r42.2 (.ptr l19 0) 2 fun g43 =>
  (S.skolemref20_Used g43 r40.1 r42.2).bind fun r44 =>
  newK r44.2 3 [(.int .i64 0), (.bool false), (.int .i64 0)] fun l45 σ46 =>
  aggK r44.1.2 3 fun cs47 =>
  stC σ46 (.ptr l45 0) cs47 fun σ48 =>
  (cond r4.1 (
  ldG σ48 (.ptr l19 0) 2 fun g49 =>
  (S.drat_Refute g49 p1 σ48).bind fun r50 =>
  ldG r50.2 (.ptr l19 0) 2 fun g51 =>
  ldG σ48 (.ptr l19 0) 2 fun g52 =>
  chk ((g52 : AVal) = g51) (
  (S.skolemref20_Refute g51 p1 r50.2).bind fun r53 =>
  (S.skolemsee_Same r50.1 r53.1 r53.2).bind fun r54 =>
  cond r54.1 (
  ldG r54.2 (.ptr l19 0) 2 fun g55 =>
  (S.drat_Refute g55 r40.1 r54.2).bind fun r56 =>
  ldG r56.2 (.ptr l19 0) 2 fun g57 =>
  ldG r54.2 (.ptr l19 0) 2 fun g58 =>
  chk ((g58 : AVal) = g57) (
  (S.skolemref20_Refute g57 r40.1 r56.2).bind fun r59 =>
  (S.skolemsee_Same r56.1 r59.1 r59.2).bind fun r60 =>
  cond r60.1 (
  ldG r60.2 (.ptr l19 0) 2 fun g61 =>
  (S.drat_Derive g61 r40.1 r39.1 r60.2).bind fun r62 =>
  ldG r62.2 (.ptr l19 0) 2 fun g63 =>
  ldG r60.2 (.ptr l19 0) 2 fun g64 =>
  chk ((g64 : AVal) = g63) (
  (S.skolemref20_Derive g63 r40.1 r39.1 r62.2).bind fun r65 =>
  (S.skolemsee_Same r62.1 r65.1 r65.2).bind fun r66 =>
  cond r66.1 (
  ldG r66.2 (.ptr l2 0) 2 fun g67 =>
  (S.drat_Refute g67 p1 r66.2).bind fun r68 =>
  ldG r68.2 (.ptr l2 0) 2 fun g69 =>
  ldG r66.2 (.ptr l2 0) 2 fun g70 =>
  chk ((g70 : AVal) = g69) (
  (S.skolemref20_Refute g69 p1 r68.2).bind fun r71 =>
  (S.skolemsee_Same r68.1 r71.1 r71.2).bind fun r72 =>
  cond r72.1 (
  cond (r42.1.1 == r44.1.1) (
  ldG r72.2 (.ptr l45 0) 3 fun g73 =>
  (S.skolemsee_Same r42.1.2 g73 r72.2).bind fun r74 =>
  some (r74.1, r74.2))
  (some (false, r72.2)))
  (some (false, r72.2))))
  (some (false, r66.2))))
  (some (false, r60.2))))
  (some (false, r54.2))))
  (some (false, σ48))).bind fun r75 =>
  some (r75.1, r75.2)))
noncomputable def W.skolemlaw22_DratSays : Spec := .eff [.B] fun args σ => packs args [.V, .V, .V, .V, .V] fun x => S.skolemlaw22_DratSays x.1 x.2.1 x.2.2.1 x.2.2.2.1 x.2.2.2.2 σ

end Go.Proofs.YtgneblbblihaoaaGreatDoor.A
