/- Parts of the proof, one behind another. -/
import Derived.Test.YtekehmgfedmflaaDoorProg
import Derived.Test.YtekehmgfedmflaaDoorX0
set_option linter.all false
set_option linter.unusedVariables false
namespace Go.Proofs.YtekehmgfedmflaaDoor.A
open Go
noncomputable def S.slices_Clone_int_int (s_ : AVal) (σ : Heap) : Option (AVal × Heap) :=
  eqS s_ .nils fun b1 =>
  cond b1 (
  some (.nils, σ))
  (newK σ 1 [] fun l2 σ3 =>
  appS σ3 1 8 (.sl l2 0 0 none) s_ fun v4 σ5 =>
  some (v4, σ5))
noncomputable def W.slices_Clone_int_int : Spec := .eff [.V] fun args σ => packs args [.V] fun x => S.slices_Clone_int_int x σ


noncomputable def S.pace_New_1 (l_ : AVal) (σ : Heap) : Option (AVal × Heap) :=
  newK σ 2 [.nils, (.int .i64 0)] fun l1 σ2 =>
  (S.slices_Clone_int_int l_ σ2).bind fun r3 =>
  scal r3.1 (
  stC r3.2 (.ptr l1 0) [r3.1, (.int .i64 0)] fun σ4 =>
  ldG σ4 (.ptr l1 0) 2 fun g5 =>
  some (g5, σ4))
noncomputable def W.pace_New_1 : Spec := .eff [.V] fun args σ => packs args [.V] fun x => S.pace_New_1 x σ


noncomputable def S.pace_New (s_ : AVal) (σ : Heap) : Option (AVal × Heap) :=
  aggK s_ 6 fun cs1 =>
  newK σ 6 cs1 fun l2 σ3 =>
  ld σ3 (.ptr l2 0) (.V) fun v4 =>
  (S.pace_New_1 v4 σ3).bind fun r5 =>
  ld r5.2 (.ptr l2 1) (.V) fun v6 =>
  ld σ3 (.ptr l2 1) (.V) fun v7 =>
  chk ((v7 : AVal) = v6) (
  (S.pace_New_1 v6 r5.2).bind fun r8 =>
  ld r8.2 (.ptr l2 2) (.V) fun v9 =>
  ld r5.2 (.ptr l2 2) (.V) fun v10 =>
  chk ((v10 : AVal) = v9) (
  ld σ3 (.ptr l2 2) (.V) fun v11 =>
  chk ((v11 : AVal) = v9) (
  (S.pace_New_1 v9 r8.2).bind fun r12 =>
  ld r12.2 (.ptr l2 3) (.V) fun v13 =>
  ld r8.2 (.ptr l2 3) (.V) fun v14 =>
  chk ((v14 : AVal) = v13) (
  ld r5.2 (.ptr l2 3) (.V) fun v15 =>
  chk ((v15 : AVal) = v13) (
  ld σ3 (.ptr l2 3) (.V) fun v16 =>
  chk ((v16 : AVal) = v13) (
  (S.pace_New_1 v13 r12.2).bind fun r17 =>
  ld r17.2 (.ptr l2 4) (.I .i64) fun n18 =>
  ld r12.2 (.ptr l2 4) (.I .i64) fun n19 =>
  chk (((.int .i64 n19) : AVal) = (.int .i64 n18)) (
  ld r8.2 (.ptr l2 4) (.I .i64) fun n20 =>
  chk (((.int .i64 n20) : AVal) = (.int .i64 n18)) (
  ld r5.2 (.ptr l2 4) (.I .i64) fun n21 =>
  chk (((.int .i64 n21) : AVal) = (.int .i64 n18)) (
  ld σ3 (.ptr l2 4) (.I .i64) fun n22 =>
  chk (((.int .i64 n22) : AVal) = (.int .i64 n18)) (
  aggK r5.1 2 fun cs23 =>
  putC [.nils, (.int .i64 0), .nils, (.int .i64 0), .nils, (.int .i64 0), .nils, (.int .i64 0), (.int .i64 0), (.int .i64 0), (.int .i64 0), (.int .i64 0)] 0 2 cs23 fun cs24 =>
  aggK r8.1 2 fun cs25 =>
  putC cs24 2 2 cs25 fun cs26 =>
  aggK r12.1 2 fun cs27 =>
  putC cs26 4 2 cs27 fun cs28 =>
  aggK r17.1 2 fun cs29 =>
  putC cs28 6 2 cs29 fun cs30 =>
  putC cs30 8 1 [(.int .i64 n18)] fun cs31 =>
  putC cs31 11 1 [(.int .i64 16)] fun cs32 =>
  aggK (.agg cs32) 12 fun cs33 =>
  newK r17.2 12 cs33 fun l34 σ35 =>
  some ((.ptr l34 0), σ35)))))))))))
noncomputable def W.pace_New : Spec := .eff [.V] fun args σ => packs args [.V] fun x => S.pace_New x σ


noncomputable def S.assign_Cut (vars_ : Int) (σ : Heap) : Option Int :=
  some (if 4000 < (if 0 > vars_ then 0 else vars_) then 4000 else (if 0 > vars_ then 0 else vars_))
noncomputable def W.assign_Cut : Spec := .pur [.I .i64] fun args σ => packs args [.I .i64] fun x => S.assign_Cut x σ


noncomputable def S.assign_New (vars_ : Int) (σ : Heap) : Option (AVal × Heap) :=
  (S.assign_Cut vars_ σ).bind fun r1 =>
  mkS σ 1 1 [(.int .i8 0)] (IntKind.i64.wrap (r1 + 1)) (IntKind.i64.wrap (r1 + 1)) fun v2 σ3 =>
  scal v2 (
  newK σ3 1 [v2] fun l4 σ5 =>
  some ((.ptr l4 0), σ5))
noncomputable def W.assign_New : Spec := .eff [.V] fun args σ => packs args [.I .i64] fun x => S.assign_New x σ


noncomputable def S.assign_Assign_Grow.b0 (p1 : AVal) (p2 : Int) : Unit → Heap → Option ((Unit ⊕ Unit) × Heap) := fun x3 σ4 =>
  nilck p1 (
  fld p1 0 fun a5 =>
  ld σ4 a5 (.V) fun v6 =>
  lenV v6 fun n7 =>
  (S.assign_Cut p2 σ4).bind fun r8 =>
  cond (decide (n7 ≤ r8)) (
  nilck p1 (
  fld p1 0 fun a9 =>
  ld σ4 a9 (.V) fun v10 =>
  newK σ4 1 [(.int .i8 0)] fun l11 σ12 =>
  appS σ12 1 1 v10 (.sl l11 0 1 none) fun v13 σ14 =>
  nilck p1 (
  fld p1 0 fun a15 =>
  scal v13 (
  stC σ14 a15 [v13] fun σ16 =>
  some (.inl (), σ16)))))
  (some (.inr (), σ4)))
noncomputable def S.assign_Assign_Grow (a_ : AVal) (vars_ : Int) (σ : Heap) : Option (Unit × Heap) :=
  (loopW (S.assign_Assign_Grow.b0 a_ vars_) () σ).bind fun r17 =>
  some ((), r17.2)
noncomputable def W.assign_Assign_Grow : Spec := .eff [] fun args σ => packs args [.V, .I .i64] fun x => S.assign_Assign_Grow x.1 x.2 σ


noncomputable def S.assign_Assign_Vars (a_ : AVal) (σ : Heap) : Option Int :=
  nilck a_ (
  fld a_ 0 fun a1 =>
  ld σ a1 (.V) fun v2 =>
  lenV v2 fun n3 =>
  some (IntKind.i64.wrap (n3 - 1)))
noncomputable def W.assign_Assign_Vars : Spec := .pur [.I .i64] fun args σ => packs args [.V] fun x => S.assign_Assign_Vars x σ


noncomputable def S.prop_Prop_Grow.b0 (p4 : AVal) : Unit → Heap → Option ((Unit ⊕ Unit) × Heap) := fun x5 σ6 =>
  nilck p4 (
  fld p4 1 fun a7 =>
  ld σ6 a7 (.V) fun v8 =>
  lenV v8 fun n9 =>
  nilck p4 (
  fld p4 0 fun a10 =>
  ld σ6 a10 (.V) fun v11 =>
  (S.assign_Assign_Vars v11 σ6).bind fun r12 =>
  cond (decide (n9 ≤ r12)) (
  nilck p4 (
  fld p4 1 fun a13 =>
  ld σ6 a13 (.V) fun v14 =>
  newK σ6 1 [(.int .i64 (-1))] fun l15 σ16 =>
  appS σ16 1 8 v14 (.sl l15 0 1 none) fun v17 σ18 =>
  nilck p4 (
  fld p4 2 fun a19 =>
  ld σ18 a19 (.V) fun v20 =>
  ld σ6 a19 (.V) fun v21 =>
  chk ((v21 : AVal) = v20) (
  newK σ18 1 [(.int .i64 (-1))] fun l22 σ23 =>
  appS σ23 1 8 v20 (.sl l22 0 1 none) fun v24 σ25 =>
  nilck p4 (
  fld p4 1 fun a26 =>
  scal v17 (
  stC σ25 a26 [v17] fun σ27 =>
  nilck p4 (
  fld p4 2 fun a28 =>
  scal v24 (
  stC σ27 a28 [v24] fun σ29 =>
  nilck p4 (
  fld p4 7 fun a30 =>
  ld σ29 a30 (.V) fun v31 =>
  newK σ29 1 [.nils, .nils] fun l32 σ33 =>
  appS σ33 1 24 v31 (.sl l32 0 2 none) fun v34 σ35 =>
  nilck p4 (
  fld p4 7 fun a36 =>
  scal v34 (
  stC σ35 a36 [v34] fun σ37 =>
  some (.inl (), σ37))))))))))))
  (some (.inr (), σ6))))
noncomputable def S.prop_Prop_Grow (p_ : AVal) (vars_ : Int) (σ : Heap) : Option (Unit × Heap) :=
  nilck p_ (
  fld p_ 0 fun a1 =>
  ld σ a1 (.V) fun v2 =>
  (S.assign_Assign_Grow v2 vars_ σ).bind fun r3 =>
  (loopW (S.prop_Prop_Grow.b0 p_) () r3.2).bind fun r38 =>
  some ((), r38.2))
noncomputable def W.prop_Prop_Grow : Spec := .eff [] fun args σ => packs args [.V, .I .i64] fun x => S.prop_Prop_Grow x.1 x.2 σ


noncomputable def S.prop_New (vars_ : Int) (σ : Heap) : Option (AVal × Heap) :=
  (S.assign_New 0 σ).bind fun r1 =>
  newK r1.2 1 [(.int .i64 (-1))] fun l2 σ3 =>
  newK σ3 1 [(.int .i64 (-1))] fun l4 σ5 =>
  mkS σ5 1 24 [.nils] 2 2 fun v6 σ7 =>
  scal r1.1 (
  scal v6 (
  newK σ7 9 [r1.1, (.sl l2 0 1 none), (.sl l4 0 1 none), .nils, .nils, (.int .i64 0), .nils, v6, .nils] fun l8 σ9 =>
  (S.prop_Prop_Grow (.ptr l8 0) vars_ σ9).bind fun r10 =>
  some ((.ptr l8 0), r10.2)))
noncomputable def W.prop_New : Spec := .eff [.V] fun args σ => packs args [.I .i64] fun x => S.prop_New x σ


noncomputable def S.heap_Heap_is (h_ : AVal) (v_ : Int) (σ : Heap) : Option Bool :=
  (cond (decide (v_ > 0)) (
  nilck h_ (
  fld h_ 0 fun a1 =>
  ld σ a1 (.V) fun v2 =>
  lenV v2 fun n3 =>
  some (decide (v_ < n3))))
  (some false)).bind fun r4 =>
  some r4
noncomputable def W.heap_Heap_is : Spec := .pur [.B] fun args σ => packs args [.V, .I .i64] fun x => S.heap_Heap_is x.1 x.2 σ


noncomputable def S.heap_Heap_ahead (h_ : AVal) (a_ : Int) (b_ : Int) (σ : Heap) : Option Bool :=
  (nilck h_ (
  fld h_ 0 fun a1 =>
  ld σ a1 (.V) fun v2 =>
  ixA σ v2 1 a_ fun a3 =>
  ld σ a3 (.I .i64) fun n4 =>
  nilck h_ (
  fld h_ 0 fun a5 =>
  ld σ a5 (.V) fun v6 =>
  ixA σ v6 1 b_ fun a7 =>
  ld σ a7 (.I .i64) fun n8 =>
  cond (decide (n4 > n8)) (
  some true)
  (nilck h_ (
  fld h_ 0 fun a9 =>
  ld σ a9 (.V) fun v10 =>
  ixA σ v10 1 a_ fun a11 =>
  ld σ a11 (.I .i64) fun n12 =>
  nilck h_ (
  fld h_ 0 fun a13 =>
  ld σ a13 (.V) fun v14 =>
  ixA σ v14 1 b_ fun a15 =>
  ld σ a15 (.I .i64) fun n16 =>
  cond (n12 == n16) (
  some (decide (a_ < b_)))
  (some false))))))).bind fun r17 =>
  some r17
noncomputable def W.heap_Heap_ahead : Spec := .pur [.B] fun args σ => packs args [.V, .I .i64, .I .i64] fun x => S.heap_Heap_ahead x.1 x.2.1 x.2.2 σ


noncomputable def S.heap_Heap_put (h_ : AVal) (k_ : Int) (v_ : Int) (σ : Heap) : Option (Unit × Heap) :=
  nilck h_ (
  fld h_ 2 fun a1 =>
  ld σ a1 (.V) fun v2 =>
  ixA σ v2 1 k_ fun a3 =>
  stC σ a3 [(.int .i64 v_)] fun σ4 =>
  nilck h_ (
  fld h_ 1 fun a5 =>
  ld σ4 a5 (.V) fun v6 =>
  ixA σ4 v6 1 v_ fun a7 =>
  stC σ4 a7 [(.int .i64 (IntKind.i64.wrap (k_ + 1)))] fun σ8 =>
  some ((), σ8)))
noncomputable def W.heap_Heap_put : Spec := .eff [] fun args σ => packs args [.V, .I .i64, .I .i64] fun x => S.heap_Heap_put x.1 x.2.1 x.2.2 σ


noncomputable def S.heap_Heap_up.b0 (p5 : AVal) (p6 : Int) : Int → Heap → Option ((Int ⊕ Int) × Heap) := fun x7 σ8 =>
  (cond (decide (x7 > 0)) (
  nilck p5 (
  fld p5 2 fun a9 =>
  ld σ8 a9 (.V) fun v10 =>
  ixA σ8 v10 1 (IntKind.i64.wrap (Int.tdiv (IntKind.i64.wrap (x7 - 1)) 2)) fun a11 =>
  ld σ8 a11 (.I .i64) fun n12 =>
  (S.heap_Heap_ahead p5 p6 n12 σ8).bind fun r13 =>
  some r13))
  (some false)).bind fun r14 =>
  cond r14 (
  nilck p5 (
  fld p5 2 fun a15 =>
  ld σ8 a15 (.V) fun v16 =>
  ixA σ8 v16 1 (IntKind.i64.wrap (Int.tdiv (IntKind.i64.wrap (x7 - 1)) 2)) fun a17 =>
  ld σ8 a17 (.I .i64) fun n18 =>
  (S.heap_Heap_put p5 x7 n18 σ8).bind fun r19 =>
  some (.inl (IntKind.i64.wrap (Int.tdiv (IntKind.i64.wrap (x7 - 1)) 2)), r19.2)))
  (some (.inr x7, σ8))
noncomputable def S.heap_Heap_up (h_ : AVal) (k_ : Int) (σ : Heap) : Option (Unit × Heap) :=
  nilck h_ (
  fld h_ 2 fun a1 =>
  ld σ a1 (.V) fun v2 =>
  ixA σ v2 1 k_ fun a3 =>
  ld σ a3 (.I .i64) fun n4 =>
  (loopW (S.heap_Heap_up.b0 h_ n4) k_ σ).bind fun r20 =>
  (S.heap_Heap_put h_ r20.1 n4 r20.2).bind fun r21 =>
  some ((), r21.2))
noncomputable def W.heap_Heap_up : Spec := .eff [] fun args σ => packs args [.V, .I .i64] fun x => S.heap_Heap_up x.1 x.2 σ


noncomputable def S.heap_Heap_Push (h_ : AVal) (v_ : Int) (σ : Heap) : Option (Bool × Heap) :=
  ((S.heap_Heap_is h_ v_ σ).bind fun r1 =>
  cond (!r1) (
  some true)
  (nilck h_ (
  fld h_ 1 fun a2 =>
  ld σ a2 (.V) fun v3 =>
  ixA σ v3 1 v_ fun a4 =>
  ld σ a4 (.I .i64) fun n5 =>
  some (decide (n5 > 0))))).bind fun r6 =>
  cond r6 (
  some (false, σ))
  (nilck h_ (
  fld h_ 2 fun a7 =>
  ld σ a7 (.V) fun v8 =>
  newK σ 1 [(.int .i64 v_)] fun l9 σ10 =>
  appS σ10 1 8 v8 (.sl l9 0 1 none) fun v11 σ12 =>
  nilck h_ (
  fld h_ 2 fun a13 =>
  scal v11 (
  stC σ12 a13 [v11] fun σ14 =>
  nilck h_ (
  fld h_ 2 fun a15 =>
  ld σ14 a15 (.V) fun v16 =>
  lenV v16 fun n17 =>
  (S.heap_Heap_up h_ (IntKind.i64.wrap (n17 - 1)) σ14).bind fun r18 =>
  some (true, r18.2))))))
noncomputable def W.heap_Heap_Push : Spec := .eff [.B] fun args σ => packs args [.V, .I .i64] fun x => S.heap_Heap_Push x.1 x.2 σ


noncomputable def S.heap_Heap_Grow.b0 (p1 : AVal) (p2 : Int) : Unit → Heap → Option ((Unit ⊕ Unit) × Heap) := fun x3 σ4 =>
  nilck p1 (
  fld p1 0 fun a5 =>
  ld σ4 a5 (.V) fun v6 =>
  lenV v6 fun n7 =>
  (S.assign_Cut p2 σ4).bind fun r8 =>
  cond (decide (n7 ≤ r8)) (
  nilck p1 (
  fld p1 0 fun a9 =>
  ld σ4 a9 (.V) fun v10 =>
  newK σ4 1 [(.int .i64 0)] fun l11 σ12 =>
  appS σ12 1 8 v10 (.sl l11 0 1 none) fun v13 σ14 =>
  nilck p1 (
  fld p1 1 fun a15 =>
  ld σ14 a15 (.V) fun v16 =>
  ld σ4 a15 (.V) fun v17 =>
  chk ((v17 : AVal) = v16) (
  newK σ14 1 [(.int .i64 0)] fun l18 σ19 =>
  appS σ19 1 8 v16 (.sl l18 0 1 none) fun v20 σ21 =>
  nilck p1 (
  fld p1 0 fun a22 =>
  scal v13 (
  stC σ21 a22 [v13] fun σ23 =>
  nilck p1 (
  fld p1 1 fun a24 =>
  scal v20 (
  stC σ23 a24 [v20] fun σ25 =>
  nilck p1 (
  fld p1 0 fun a26 =>
  ld σ25 a26 (.V) fun v27 =>
  lenV v27 fun n28 =>
  (S.heap_Heap_Push p1 (IntKind.i64.wrap (n28 - 1)) σ25).bind fun r29 =>
  some (.inl (), r29.2))))))))))
  (some (.inr (), σ4)))
noncomputable def S.heap_Heap_Grow (h_ : AVal) (vars_ : Int) (σ : Heap) : Option (Unit × Heap) :=
  (loopW (S.heap_Heap_Grow.b0 h_ vars_) () σ).bind fun r30 =>
  some ((), r30.2)
noncomputable def W.heap_Heap_Grow : Spec := .eff [] fun args σ => packs args [.V, .I .i64] fun x => S.heap_Heap_Grow x.1 x.2 σ


noncomputable def S.heap_New (vars_ : Int) (σ : Heap) : Option (AVal × Heap) :=
  mkS σ 1 8 [(.int .i64 0)] 1 1 fun v1 σ2 =>
  mkS σ2 1 8 [(.int .i64 0)] 1 1 fun v3 σ4 =>
  scal v1 (
  scal v3 (
  newK σ4 3 [v1, v3, .nils] fun l5 σ6 =>
  (S.heap_Heap_Grow (.ptr l5 0) vars_ σ6).bind fun r7 =>
  some ((.ptr l5 0), r7.2)))
noncomputable def W.heap_New : Spec := .eff [.V] fun args σ => packs args [.I .i64] fun x => S.heap_New x σ


noncomputable def S.prop_Prop_Vars (p_ : AVal) (σ : Heap) : Option Int :=
  nilck p_ (
  fld p_ 0 fun a1 =>
  ld σ a1 (.V) fun v2 =>
  (S.assign_Assign_Vars v2 σ).bind fun r3 =>
  some r3)
noncomputable def W.prop_Prop_Vars : Spec := .pur [.I .i64] fun args σ => packs args [.V] fun x => S.prop_Prop_Vars x σ


noncomputable def S.sat_Engine_Grow.b0 (p7 : AVal) : Unit → Heap → Option ((Unit ⊕ Unit) × Heap) := fun x8 σ9 =>
  nilck p7 (
  fld p7 3 fun a10 =>
  ld σ9 a10 (.V) fun v11 =>
  lenV v11 fun n12 =>
  nilck p7 (
  fld p7 0 fun a13 =>
  ld σ9 a13 (.V) fun v14 =>
  (S.prop_Prop_Vars v14 σ9).bind fun r15 =>
  cond (decide (n12 ≤ r15)) (
  nilck p7 (
  fld p7 3 fun a16 =>
  ld σ9 a16 (.V) fun v17 =>
  newK σ9 1 [(.int .i64 0)] fun l18 σ19 =>
  appS σ19 1 8 v17 (.sl l18 0 1 none) fun v20 σ21 =>
  nilck p7 (
  fld p7 3 fun a22 =>
  scal v20 (
  stC σ21 a22 [v20] fun σ23 =>
  some (.inl (), σ23)))))
  (some (.inr (), σ9))))
noncomputable def S.sat_Engine_Grow (e_ : AVal) (vars_ : Int) (σ : Heap) : Option (Unit × Heap) :=
  nilck e_ (
  fld e_ 0 fun a1 =>
  ld σ a1 (.V) fun v2 =>
  (S.prop_Prop_Grow v2 vars_ σ).bind fun r3 =>
  nilck e_ (
  fld e_ 1 fun a4 =>
  ld r3.2 a4 (.V) fun v5 =>
  (S.heap_Heap_Grow v5 vars_ r3.2).bind fun r6 =>
  (loopW (S.sat_Engine_Grow.b0 e_) () r6.2).bind fun r24 =>
  some ((), r24.2)))
noncomputable def W.sat_Engine_Grow : Spec := .eff [] fun args σ => packs args [.V, .I .i64] fun x => S.sat_Engine_Grow x.1 x.2 σ


noncomputable def S.sat_Paced (vars_ : Int) (p_ : AVal) (σ : Heap) : Option (AVal × Heap) :=
  (S.prop_New 0 σ).bind fun r1 =>
  (S.heap_New 0 r1.2).bind fun r2 =>
  scal r1.1 (
  scal r2.1 (
  scal p_ (
  newK r2.2 8 [r1.1, r2.1, p_, .nils, .nils, .nils, (.int .i64 0), (.int .i64 16)] fun l3 σ4 =>
  (S.sat_Engine_Grow (.ptr l3 0) vars_ σ4).bind fun r5 =>
  some ((.ptr l3 0), r5.2))))
noncomputable def W.sat_Paced : Spec := .eff [.V] fun args σ => packs args [.I .i64, .V] fun x => S.sat_Paced x.1 x.2 σ


noncomputable def S.incr_Paced (p_ : AVal) (σ : Heap) : Option (AVal × Heap) :=
  (S.sat_Paced 0 p_ σ).bind fun r1 =>
  scal r1.1 (
  newK r1.2 4 [r1.1, (.int .i64 0), .nils, (.int .i64 0)] fun l2 σ3 =>
  some ((.ptr l2 0), σ3))
noncomputable def W.incr_Paced : Spec := .eff [.V] fun args σ => packs args [.V] fun x => S.incr_Paced x σ


noncomputable def S.incr_New (s_ : AVal) (σ : Heap) : Option (AVal × Heap) :=
  aggK s_ 6 fun cs1 =>
  newK σ 6 cs1 fun l2 σ3 =>
  ldG σ3 (.ptr l2 0) 6 fun g4 =>
  (S.pace_New g4 σ3).bind fun r5 =>
  (S.incr_Paced r5.1 r5.2).bind fun r6 =>
  some (r6.1, r6.2)
noncomputable def W.incr_New : Spec := .eff [.V] fun args σ => packs args [.V] fun x => S.incr_New x σ


noncomputable def S.incr_Solver_Fresh (s_ : AVal) (n_ : Int) (σ : Heap) : Option (Int × Heap) :=
  (cond (decide (n_ < 1)) (
  some true)
  (nilck s_ (
  fld s_ 1 fun a1 =>
  fld a1 0 fun a2 =>
  ld σ a2 (.I .i64) fun n3 =>
  some (decide (n_ > (IntKind.i64.wrap (4000 - n3))))))).bind fun r4 =>
  cond r4 (
  some (0, σ))
  (nilck s_ (
  fld s_ 1 fun a5 =>
  fld a5 0 fun a6 =>
  ld σ a6 (.I .i64) fun n7 =>
  nilck s_ (
  fld s_ 1 fun a8 =>
  fld a8 0 fun a9 =>
  ld σ a9 (.I .i64) fun n10 =>
  nilck s_ (
  fld s_ 1 fun a11 =>
  fld a11 0 fun a12 =>
  stC σ a12 [(.int .i64 (IntKind.i64.wrap (n10 + n_)))] fun σ13 =>
  nilck s_ (
  fld s_ 0 fun a14 =>
  ld σ13 a14 (.V) fun v15 =>
  nilck s_ (
  fld s_ 1 fun a16 =>
  fld a16 0 fun a17 =>
  ld σ13 a17 (.I .i64) fun n18 =>
  (S.sat_Engine_Grow v15 n18 σ13).bind fun r19 =>
  some ((IntKind.i64.wrap (n7 + 1)), r19.2)))))))
noncomputable def W.incr_Solver_Fresh : Spec := .eff [.I .i64] fun args σ => packs args [.V, .I .i64] fun x => S.incr_Solver_Fresh x.1 x.2 σ


noncomputable def S.incr_Solver_Vars (s_ : AVal) (σ : Heap) : Option Int :=
  nilck s_ (
  fld s_ 1 fun a1 =>
  fld a1 0 fun a2 =>
  ld σ a2 (.I .i64) fun n3 =>
  some n3)
noncomputable def W.incr_Solver_Vars : Spec := .pur [.I .i64] fun args σ => packs args [.V] fun x => S.incr_Solver_Vars x σ


noncomputable def S.skolemlaw19_first (σ : Heap) : Option (Bool × Heap) :=
  (S.incr_New (.agg [.nils, .nils, .nils, .nils, (.int .i64 0), (.int .i64 0)]) σ).bind fun r1 =>
  (eqP r1.1 .nilp fun b2 =>
  cond (!b2) (
  (S.incr_Solver_Fresh r1.1 2 r1.2).bind fun r3 =>
  cond (r3.1 == 1) (
  (S.incr_Solver_Vars r1.1 r3.2).bind fun r4 =>
  cond (r4 == 2) (
  (S.incr_Solver_Fresh r1.1 0 r3.2).bind fun r5 =>
  some ((r5.1 == 0), r5.2))
  (some (false, r3.2)))
  (some (false, r3.2)))
  (some (false, r1.2))).bind fun r6 =>
  some (r6.1, r6.2)
noncomputable def W.skolemlaw19_first : Spec := .eff [.B] fun args σ => packs args [] fun x => S.skolemlaw19_first σ


noncomputable def S.skolemworld_Number (n_ : Int) (below_ : Int) (σ : Heap) : Option Int :=
  if below_ = 0 then none else
  (cond (decide ((Int.tmod n_ below_) < 0)) (
  some (IntKind.i64.wrap ((Int.tmod n_ below_) + below_)))
  (some (Int.tmod n_ below_))).bind fun r1 =>
  some r1
noncomputable def W.skolemworld_Number : Spec := .pur [.I .i64] fun args σ => packs args [.I .i64, .I .i64] fun x => S.skolemworld_Number x.1 x.2 σ


noncomputable def S.lits_Is (l_ : Int) (vars_ : Int) (σ : Heap) : Option Bool :=
  (cond (l_ != 0) (
  cond (decide (l_ ≥ (IntKind.i64.wrap (0 - vars_)))) (
  some (decide (l_ ≤ vars_)))
  (some false))
  (some false)).bind fun r1 =>
  some r1
noncomputable def W.lits_Is : Spec := .pur [.B] fun args σ => packs args [.I .i64, .I .i64] fun x => S.lits_Is x.1 x.2 σ


noncomputable def S.incr_Solver_may_1 (x_ : Int) (p1 : AVal) (σ : Heap) : Option Bool :=
  ld σ p1 (.V) fun v1 =>
  nilck v1 (
  fld v1 1 fun a2 =>
  fld a2 0 fun a3 =>
  ld σ a3 (.I .i64) fun n4 =>
  (S.lits_Is x_ n4 σ).bind fun r5 =>
  some (!r5))
noncomputable def W.incr_Solver_may_1 : Spec := .pur [.B] fun args σ => packs args [.I .i64, .V] fun x => S.incr_Solver_may_1 x.1 x.2 σ


noncomputable def S.lits_Var (l_ : Int) (σ : Heap) : Option Int :=
  some (if (IntKind.i64.wrap (0 - l_)) > l_ then (IntKind.i64.wrap (0 - l_)) else l_)
noncomputable def W.lits_Var : Spec := .pur [.I .i64] fun args σ => packs args [.I .i64] fun x => S.lits_Var x σ


noncomputable def S.cmp_isNaN_int (x_ : Int) (σ : Heap) : Option Bool :=
  some (x_ != x_)
noncomputable def W.cmp_isNaN_int : Spec := .pur [.B] fun args σ => packs args [.I .i64] fun x => S.cmp_isNaN_int x σ


noncomputable def S.cmp_Compare_int (x_ : Int) (y_ : Int) (σ : Heap) : Option Int :=
  (S.cmp_isNaN_int x_ σ).bind fun r1 =>
  (S.cmp_isNaN_int y_ σ).bind fun r2 =>
  cond r1 (
  cond r2 (
  some 0)
  (some (-1)))
  (cond r2 (
  some 1)
  (cond (decide (x_ < y_)) (
  some (-1))
  (cond (decide (x_ > y_)) (
  some 1)
  (some 0))))
noncomputable def W.cmp_Compare_int : Spec := .pur [.I .i64] fun args σ => packs args [.I .i64, .I .i64] fun x => S.cmp_Compare_int x.1 x.2 σ


noncomputable def S.cmp_Or_int.b0 (p2 : AVal) (p3 : Int) (σ0 : Heap) : Int → Option (Int ⊕ (Unit ⊕ Int)) := fun x4 =>
  cond (decide (x4 < p3)) (
  ixA σ0 p2 1 x4 fun a6 =>
  ld σ0 a6 (.I .i64) fun n7 =>
  cond (n7 != 0) (
  some (.inr (.inr n7)))
  (some (.inl (IntKind.i64.wrap (x4 + 1)))))
  (some (.inr (.inl ())))
noncomputable def S.cmp_Or_int (vals_ : AVal) (σ : Heap) : Option Int :=
  lenV vals_ fun n1 =>
  (loopP (S.cmp_Or_int.b0 vals_ n1 σ) 0).bind fun r8 =>
  (match r8 with
 | .inl y9 => some 0
 | .inr y10 => some y10)
noncomputable def W.cmp_Or_int : Spec := .pur [.I .i64] fun args σ => packs args [.V] fun x => S.cmp_Or_int x σ


noncomputable def S.lits_order (a_ : Int) (b_ : Int) (σ : Heap) : Option (Int × Heap) :=
  (S.lits_Var a_ σ).bind fun r1 =>
  (S.lits_Var b_ σ).bind fun r2 =>
  (S.cmp_Compare_int r1 r2 σ).bind fun r3 =>
  (S.cmp_Compare_int a_ b_ σ).bind fun r4 =>
  newK σ 1 [(.int .i64 r3), (.int .i64 r4)] fun l5 σ6 =>
  (S.cmp_Or_int (.sl l5 0 2 none) σ6).bind fun r7 =>
  some (r7, σ6)
noncomputable def W.lits_order : Spec := .eff [.I .i64] fun args σ => packs args [.I .i64, .I .i64] fun x => S.lits_order x.1 x.2 σ


noncomputable def S.prop_Prop_Add_1 (x_ : Int) (p1 : AVal) (σ : Heap) : Option Bool :=
  ld σ p1 (.V) fun v1 =>
  nilck v1 (
  fld v1 0 fun a2 =>
  ld σ a2 (.V) fun v3 =>
  (S.assign_Assign_Vars v3 σ).bind fun r4 =>
  (S.lits_Is x_ r4 σ).bind fun r5 =>
  some (!r5))
noncomputable def W.prop_Prop_Add_1 : Spec := .pur [.B] fun args σ => packs args [.I .i64, .V] fun x => S.prop_Prop_Add_1 x.1 x.2 σ


noncomputable def S.sat_Engine_Add_1 (l_ : Int) (p1 : AVal) (σ : Heap) : Option Bool :=
  ld σ p1 (.V) fun v1 =>
  nilck v1 (
  fld v1 0 fun a2 =>
  ld σ a2 (.V) fun v3 =>
  (S.prop_Prop_Vars v3 σ).bind fun r4 =>
  (S.lits_Is l_ r4 σ).bind fun r5 =>
  some (!r5))
noncomputable def W.sat_Engine_Add_1 : Spec := .pur [.B] fun args σ => packs args [.I .i64, .V] fun x => S.sat_Engine_Add_1 x.1 x.2 σ


noncomputable def S.slices_IndexFunc_int_int.T : FuncId → Option Spec := (tab 54 W.sat_Engine_Add_1 (tab 64 W.prop_Prop_Add_1 (tab 72 W.lits_order (tab 52 W.incr_Solver_may_1 noSpec))))
noncomputable def S.slices_IndexFunc_int_int.b0 (p2 : AVal) (p3 : AVal) (p4 : Int) : Int → Heap → Option ((Int ⊕ (Unit ⊕ Int)) × Heap) := fun x5 σ6 =>
  cond (decide (x5 < p4)) (
  ixA σ6 p2 1 x5 fun a7 =>
  ld σ6 a7 (.I .i64) fun n8 =>
  callV S.slices_IndexFunc_int_int.T p3 [(.int .i64 n8)] σ6 fun r9 σ10 =>
  asK (.B) r9 fun b11 =>
  cond b11 (
  some (.inr (.inr x5), σ10))
  (some (.inl (IntKind.i64.wrap (x5 + 1)), σ10)))
  (some (.inr (.inl ()), σ6))
noncomputable def S.slices_IndexFunc_int_int (s_ : AVal) (f_ : AVal) (σ : Heap) : Option (Int × Heap) :=
  lenV s_ fun n1 =>
  (loopW (S.slices_IndexFunc_int_int.b0 s_ f_ n1) 0 σ).bind fun r12 =>
  (match r12.1 with
 | .inl y13 => some ((-1), r12.2)
 | .inr y14 => some (y14, r12.2))
noncomputable def W.slices_IndexFunc_int_int : Spec := .eff [.I .i64] fun args σ => packs args [.V, .V] fun x => S.slices_IndexFunc_int_int x.1 x.2 σ


noncomputable def S.slices_ContainsFunc_int_int (s_ : AVal) (f_ : AVal) (σ : Heap) : Option (Bool × Heap) :=
  (S.slices_IndexFunc_int_int s_ f_ σ).bind fun r1 =>
  some ((decide (r1.1 ≥ 0)), r1.2)
noncomputable def W.slices_ContainsFunc_int_int : Spec := .eff [.B] fun args σ => packs args [.V, .V] fun x => S.slices_ContainsFunc_int_int x.1 x.2 σ


noncomputable def S.incr_Solver_may.b0 (p7 : AVal) (p8 : AVal) (p9 : Int) : (Int × Int) → Heap → Option (((Int × Int) ⊕ (Int ⊕ AVal)) × Heap) := fun x10 σ11 =>
  cond (decide (x10.2 < p9)) (
  ixA σ11 p7 1 x10.2 fun a12 =>
  ld σ11 a12 (.V) fun v13 =>
  (S.slices_ContainsFunc_int_int v13 (.fn (.func 52) [] [p8]) σ11).bind fun r14 =>
  cond r14.1 (
  ld r14.2 (.ptr 0 0) (.V) fun v15 =>
  some (.inr (.inr v15), r14.2))
  (lenV v13 fun n16 =>
  some (.inl ((IntKind.i64.wrap (x10.1 + n16)), (IntKind.i64.wrap (x10.2 + 1))), r14.2)))
  (some (.inr (.inl x10.1), σ11))
noncomputable def S.incr_Solver_may (s_ : AVal) (l_ : AVal) (σ : Heap) : Option (AVal × Heap) :=
  scal s_ (
  newK σ 1 [s_] fun l1 σ2 =>
  ld σ2 (.ptr l1 0) (.V) fun v3 =>
  nilck v3 (
  fld v3 3 fun a4 =>
  ld σ2 a4 (.I .i64) fun n5 =>
  lenV l_ fun n6 =>
  (loopW (S.incr_Solver_may.b0 l_ (.ptr l1 0) n6) (n5, 0) σ2).bind fun r17 =>
  (match r17.1 with
 | .inl y18 => (ld r17.2 (.ptr l1 0) (.V) fun v20 =>
  nilck v20 (
  fld v20 1 fun a21 =>
  fld a21 1 fun a22 =>
  ld r17.2 a22 (.V) fun v23 =>
  lenV v23 fun n24 =>
  lenV l_ fun n25 =>
  cond (decide ((IntKind.i64.wrap (n24 + n25)) > 20000)) (
  some true)
  (some (decide (y18 > 80000))))).bind fun r26 =>
  cond r26 (
  ld r17.2 (.ptr 1 0) (.V) fun v27 =>
  some (v27, r17.2))
  (some (.nili, r17.2))
 | .inr y19 => some (y19, r17.2))))
noncomputable def W.incr_Solver_may : Spec := .eff [.V] fun args σ => packs args [.V, .V] fun x => S.incr_Solver_may x.1 x.2 σ


noncomputable def S.slices_SortFunc_int_int (p0 : AVal) (p1 : AVal) (σ : Heap) := sortFS 72 p0 p1 σ
noncomputable def W.slices_SortFunc_int_int : Spec := .eff [] fun args σ => packs args [.V, .V] fun x => sortFS 72 x.1 x.2 σ


noncomputable def S.slices_Compact_int_int.b0 (p11 : AVal) (p12 : AVal) : (Int × Int) → Heap → Option (((Int × Int) ⊕ Int) × Heap) := fun x13 σ14 =>
  lenV p12 fun n15 =>
  cond (decide (x13.2 < n15)) (
  (ixA σ14 p12 1 x13.2 fun a16 =>
  ld σ14 a16 (.I .i64) fun n17 =>
  ixA σ14 p12 1 (IntKind.i64.wrap (x13.2 - 1)) fun a18 =>
  ld σ14 a18 (.I .i64) fun n19 =>
  cond (n17 != n19) (
  ixA σ14 p12 1 x13.2 fun a20 =>
  ld σ14 a20 (.I .i64) fun n21 =>
  ixA σ14 p11 1 x13.1 fun a22 =>
  stC σ14 a22 [(.int .i64 n21)] fun σ23 =>
  some ((IntKind.i64.wrap (x13.1 + 1)), σ23))
  (some (x13.1, σ14))).bind fun r24 =>
  some (.inl (r24.1, (IntKind.i64.wrap (x13.2 + 1))), r24.2))
  (some (.inr x13.1, σ14))
noncomputable def S.slices_Compact_int_int.b1 (p2 : AVal) : Int → Heap → Option ((Int ⊕ (Unit ⊕ AVal)) × Heap) := fun x3 σ4 =>
  lenV p2 fun n5 =>
  cond (decide (x3 < n5)) (
  ixA σ4 p2 1 x3 fun a6 =>
  ld σ4 a6 (.I .i64) fun n7 =>
  ixA σ4 p2 1 (IntKind.i64.wrap (x3 - 1)) fun a8 =>
  ld σ4 a8 (.I .i64) fun n9 =>
  cond (n7 == n9) (
  slS σ4 1 p2 x3 none none fun v10 =>
  (loopW (S.slices_Compact_int_int.b0 p2 v10) (x3, 1) σ4).bind fun r25 =>
  slS r25.2 1 p2 r25.1 none none fun v26 =>
  clearK r25.2 1 [(.int .i64 0)] v26 fun σ27 =>
  slS σ27 1 p2 0 (some r25.1) none fun v28 =>
  some (.inr (.inr v28), σ27))
  (some (.inl (IntKind.i64.wrap (x3 + 1)), σ4)))
  (some (.inr (.inl ()), σ4))
noncomputable def S.slices_Compact_int_int (s_ : AVal) (σ : Heap) : Option (AVal × Heap) :=
  lenV s_ fun n1 =>
  cond (decide (n1 < 2)) (
  some (s_, σ))
  ((loopW (S.slices_Compact_int_int.b1 s_) 1 σ).bind fun r29 =>
  (match r29.1 with
 | .inl y30 => some (s_, r29.2)
 | .inr y31 => some (y31, r29.2)))
noncomputable def W.slices_Compact_int_int : Spec := .eff [.V] fun args σ => packs args [.V] fun x => S.slices_Compact_int_int x σ


noncomputable def S.slices_Clip_int_int (s_ : AVal) (σ : Heap) : Option AVal :=
  lenV s_ fun n1 =>
  lenV s_ fun n2 =>
  slS σ 1 s_ 0 (some n1) (some n2) fun v3 =>
  some v3
noncomputable def W.slices_Clip_int_int : Spec := .pur [.V] fun args σ => packs args [.V] fun x => S.slices_Clip_int_int x σ


noncomputable def S.lits_Norm.b0 (p5 : AVal) (σ0 : Heap) : Int → Option (Int ⊕ (Unit ⊕ (AVal × Bool))) := fun x6 =>
  lenV p5 fun n8 =>
  cond (decide (x6 < n8)) (
  ixA σ0 p5 1 x6 fun a9 =>
  ld σ0 a9 (.I .i64) fun n10 =>
  (S.lits_Var n10 σ0).bind fun r11 =>
  ixA σ0 p5 1 (IntKind.i64.wrap (x6 - 1)) fun a12 =>
  ld σ0 a12 (.I .i64) fun n13 =>
  (S.lits_Var n13 σ0).bind fun r14 =>
  cond (r11 == r14) (
  some (.inr (.inr (p5, false))))
  (some (.inl (IntKind.i64.wrap (x6 + 1)))))
  (some (.inr (.inl ())))
noncomputable def S.lits_Norm (c_ : AVal) (σ : Heap) : Option ((AVal × Bool) × Heap) :=
  (S.slices_Clone_int_int c_ σ).bind fun r1 =>
  (S.slices_SortFunc_int_int r1.1 (.fn (.func 72) [] []) r1.2).bind fun r2 =>
  (S.slices_Compact_int_int r1.1 r2.2).bind fun r3 =>
  (S.slices_Clip_int_int r3.1 r3.2).bind fun r4 =>
  (loopP (S.lits_Norm.b0 r4 r3.2) 1).bind fun r15 =>
  (match r15 with
 | .inl y16 => some ((r4, true), r3.2)
 | .inr y17 => some ((y17.1, y17.2), r3.2))
noncomputable def W.lits_Norm : Spec := .eff [.V, .B] fun args σ => packs args [.V] fun x => S.lits_Norm x σ


noncomputable def S.prop_at (l_ : Int) (σ : Heap) : Option Int :=
  cond (decide (l_ < 0)) (
  some (IntKind.i64.wrap ((IntKind.i64.wrap ((-2) * l_)) + 1)))
  (some (IntKind.i64.wrap (2 * l_)))
noncomputable def W.prop_at : Spec := .pur [.I .i64] fun args σ => packs args [.I .i64] fun x => S.prop_at x σ


noncomputable def S.prop_Prop_look (p_ : AVal) (id_ : Int) (σ : Heap) : Option (Unit × Heap) :=
  nilck p_ (
  fld p_ 6 fun a1 =>
  ld σ a1 (.V) fun v2 =>
  ixA σ v2 3 id_ fun a3 =>
  fld a3 2 fun a4 =>
  ld σ a4 (.B) fun b5 =>
  cond (!b5) (
  nilck p_ (
  fld p_ 6 fun a6 =>
  ld σ a6 (.V) fun v7 =>
  ixA σ v7 3 id_ fun a8 =>
  fld a8 2 fun a9 =>
  stC σ a9 [(.bool true)] fun σ10 =>
  nilck p_ (
  fld p_ 8 fun a11 =>
  ld σ10 a11 (.V) fun v12 =>
  newK σ10 1 [(.int .i64 id_)] fun l13 σ14 =>
  appS σ14 1 8 v12 (.sl l13 0 1 none) fun v15 σ16 =>
  nilck p_ (
  fld p_ 8 fun a17 =>
  scal v15 (
  stC σ16 a17 [v15] fun σ18 =>
  some ((), σ18))))))
  (some ((), σ)))
noncomputable def W.prop_Prop_look : Spec := .eff [] fun args σ => packs args [.V, .I .i64] fun x => S.prop_Prop_look x.1 x.2 σ


noncomputable def S.prop_Prop_Add.b0 (p24 : AVal) (p25 : Int) (p26 : AVal) (p27 : Int) : Int → Heap → Option ((Int ⊕ Unit) × Heap) := fun x28 σ29 =>
  cond (decide (x28 < p27)) (
  ixA σ29 p26 1 x28 fun a30 =>
  ld σ29 a30 (.I .i64) fun n31 =>
  ld σ29 p24 (.V) fun v32 =>
  nilck v32 (
  fld v32 7 fun a33 =>
  ld σ29 a33 (.V) fun v34 =>
  (S.prop_at n31 σ29).bind fun r35 =>
  ld σ29 p24 (.V) fun v36 =>
  nilck v36 (
  fld v36 7 fun a37 =>
  ld σ29 a37 (.V) fun v38 =>
  (S.prop_at n31 σ29).bind fun r39 =>
  ixA σ29 v38 1 r39 fun a40 =>
  ld σ29 a40 (.V) fun v41 =>
  newK σ29 1 [(.int .i64 p25)] fun l42 σ43 =>
  appS σ43 1 8 v41 (.sl l42 0 1 none) fun v44 σ45 =>
  ld σ45 a33 (.V) fun v46 =>
  chk ((v46 : AVal) = v34) (
  ld σ45 p24 (.V) fun v47 =>
  chk ((v47 : AVal) = v32) (
  ixA σ45 v34 1 r35 fun a48 =>
  scal v44 (
  stC σ45 a48 [v44] fun σ49 =>
  some (.inl (IntKind.i64.wrap (x28 + 1)), σ49)))))))
  (some (.inr (), σ29))
noncomputable def S.prop_Prop_Add (p0 : AVal) (p1 : AVal) (σ : Heap) : Option ((Int × Bool) × Heap) :=
  scal p0 (
  newK σ 1 [p0] fun l1 σ2 =>
  (S.lits_Norm p1 σ2).bind fun r3 =>
  (cond (!r3.1.2) (
  some (true, r3.2))
  ((S.slices_ContainsFunc_int_int r3.1.1 (.fn (.func 64) [] [(.ptr l1 0)]) r3.2).bind fun r4 =>
  some (r4.1, r4.2))).bind fun r5 =>
  cond r5.1 (
  some ((0, false), r5.2))
  (ld r5.2 (.ptr l1 0) (.V) fun v6 =>
  nilck v6 (
  fld v6 6 fun a7 =>
  ld r5.2 a7 (.V) fun v8 =>
  lenV v8 fun n9 =>
  ld r5.2 (.ptr l1 0) (.V) fun v10 =>
  ld r5.2 (.ptr l1 0) (.V) fun v11 =>
  nilck v11 (
  fld v11 6 fun a12 =>
  ld r5.2 a12 (.V) fun v13 =>
  scal r3.1.1 (
  newK r5.2 3 [r3.1.1, (.bool true), (.bool false)] fun l14 σ15 =>
  appS σ15 3 32 v13 (.sl l14 0 1 none) fun v16 σ17 =>
  ld σ17 (.ptr l1 0) (.V) fun v18 =>
  chk ((v18 : AVal) = v10) (
  nilck v10 (
  fld v10 6 fun a19 =>
  scal v16 (
  stC σ17 a19 [v16] fun σ20 =>
  lenV r3.1.1 fun n21 =>
  (cond (decide (n21 > 1)) (
  slS σ20 1 r3.1.1 0 (some 2) none fun v22 =>
  lenV v22 fun n23 =>
  (loopW (S.prop_Prop_Add.b0 (.ptr l1 0) n9 v22 n23) 0 σ20).bind fun r50 =>
  some ((), r50.2))
  (some ((), σ20))).bind fun r51 =>
  ld r51.2 (.ptr l1 0) (.V) fun v52 =>
  (S.prop_Prop_look v52 n9 r51.2).bind fun r53 =>
  some ((n9, true), r53.2)))))))))
noncomputable def W.prop_Prop_Add : Spec := .eff [.I .i64, .B] fun args σ => packs args [.V, .V] fun x => S.prop_Prop_Add x.1 x.2 σ


noncomputable def S.sat_Engine_Add (e_ : AVal) (c_ : AVal) (σ : Heap) : Option (Bool × Heap) :=
  scal e_ (
  newK σ 1 [e_] fun l1 σ2 =>
  (S.slices_ContainsFunc_int_int c_ (.fn (.func 54) [] [(.ptr l1 0)]) σ2).bind fun r3 =>
  cond r3.1 (
  some (false, r3.2))
  (ld r3.2 (.ptr l1 0) (.V) fun v4 =>
  nilck v4 (
  fld v4 0 fun a5 =>
  ld r3.2 a5 (.V) fun v6 =>
  (S.prop_Prop_Add v6 c_ r3.2).bind fun r7 =>
  some (true, r7.2))))
noncomputable def W.sat_Engine_Add : Spec := .eff [.B] fun args σ => packs args [.V, .V] fun x => S.sat_Engine_Add x.1 x.2 σ


noncomputable def S.incr_Solver_adds.b0 (p4 : AVal) (p5 : AVal) (p6 : Int) : Int → Heap → Option ((Int ⊕ Unit) × Heap) := fun x7 σ8 =>
  cond (decide (x7 < p6)) (
  ixA σ8 p5 1 x7 fun a9 =>
  ld σ8 a9 (.V) fun v10 =>
  nilck p4 (
  fld p4 0 fun a11 =>
  ld σ8 a11 (.V) fun v12 =>
  (S.sat_Engine_Add v12 v10 σ8).bind fun r13 =>
  nilck p4 (
  fld p4 1 fun a14 =>
  fld a14 1 fun a15 =>
  ld r13.2 a15 (.V) fun v16 =>
  (S.slices_Clone_int_int v10 r13.2).bind fun r17 =>
  ld r17.2 a15 (.V) fun v18 =>
  chk ((v18 : AVal) = v16) (
  scal r17.1 (
  newK r17.2 1 [r17.1] fun l19 σ20 =>
  appS σ20 1 24 v16 (.sl l19 0 1 none) fun v21 σ22 =>
  nilck p4 (
  fld p4 1 fun a23 =>
  fld a23 1 fun a24 =>
  scal v21 (
  stC σ22 a24 [v21] fun σ25 =>
  nilck p4 (
  fld p4 3 fun a26 =>
  ld σ25 a26 (.I .i64) fun n27 =>
  lenV v10 fun n28 =>
  nilck p4 (
  fld p4 3 fun a29 =>
  stC σ25 a29 [(.int .i64 (IntKind.i64.wrap (n27 + n28)))] fun σ30 =>
  some (.inl (IntKind.i64.wrap (x7 + 1)), σ30))))))))))
  (some (.inr (), σ8))
noncomputable def S.incr_Solver_adds (s_ : AVal) (l_ : AVal) (σ : Heap) : Option (AVal × Heap) :=
  (S.incr_Solver_may s_ l_ σ).bind fun r1 =>
  eqI (tiOf Tryd.prog) r1.2 true r1.1 .nili fun b2 =>
  cond (!b2) (
  some (r1.1, r1.2))
  (lenV l_ fun n3 =>
  (loopW (S.incr_Solver_adds.b0 s_ l_ n3) 0 r1.2).bind fun r31 =>
  some (.nili, r31.2))
noncomputable def W.incr_Solver_adds : Spec := .eff [.V] fun args σ => packs args [.V, .V] fun x => S.incr_Solver_adds x.1 x.2 σ


noncomputable def S.incr_Solver_Add (s_ : AVal) (c_ : AVal) (σ : Heap) : Option (AVal × Heap) :=
  scal c_ (
  newK σ 1 [c_] fun l1 σ2 =>
  (S.incr_Solver_adds s_ (.sl l1 0 1 none) σ2).bind fun r3 =>
  some (r3.1, r3.2))
noncomputable def W.incr_Solver_Add : Spec := .eff [.V] fun args σ => packs args [.V, .V] fun x => S.incr_Solver_Add x.1 x.2 σ


noncomputable def S.skolemref_Bare (code_ : Int) (σ : Heap) : Option (AVal × Heap) :=
  newK σ 3 [(.int .i64 0), (.bool false), (.int .i64 0)] fun l1 σ2 =>
  stC σ2 (.ptr l1 0) [(.int .i64 code_), (.bool false), (.int .i64 0)] fun σ3 =>
  ldG σ3 (.ptr l1 0) 3 fun g4 =>
  some (g4, σ3)
noncomputable def W.skolemref_Bare : Spec := .eff [.V] fun args σ => packs args [.I .i64] fun x => S.skolemref_Bare x σ


noncomputable def S.skolemref_None (σ : Heap) : Option (AVal × Heap) :=
  newK σ 3 [(.int .i64 0), (.bool false), (.int .i64 0)] fun l1 σ2 =>
  stC σ2 (.ptr l1 0) [(.int .i64 0), (.bool false), (.int .i64 0)] fun σ3 =>
  ldG σ3 (.ptr l1 0) 3 fun g4 =>
  some (g4, σ3)
noncomputable def W.skolemref_None : Spec := .eff [.V] fun args σ => packs args [] fun x => S.skolemref_None σ


noncomputable def S.skolemsee_sentinels (σ : Heap) : Option (AVal × Heap) :=
  ld σ (.ptr 2 0) (.V) fun v1 =>
  ld σ (.ptr 1 0) (.V) fun v2 =>
  ld σ (.ptr 3 0) (.V) fun v3 =>
  ld σ (.ptr 0 0) (.V) fun v4 =>
  ld σ (.ptr 4 0) (.V) fun v5 =>
  ld σ (.ptr 5 0) (.V) fun v6 =>
  ld σ (.ptr 6 0) (.V) fun v7 =>
  scal v1 (
  scal v2 (
  scal v3 (
  scal v4 (
  scal v5 (
  scal v6 (
  scal v7 (
  newK σ 1 [v1, v2, v3, v4, v5, v6, v7] fun l8 σ9 =>
  some ((.sl l8 0 7 none), σ9))))))))
noncomputable def W.skolemsee_sentinels : Spec := .eff [.V] fun args σ => packs args [] fun x => S.skolemsee_sentinels σ


noncomputable def S.skolemsee_Alike (a_ : AVal) (b_ : AVal) (σ : Heap) : Option Bool :=
  (eqI (tiOf Tryd.prog) σ true a_ .nili fun b1 =>
  cond b1 (
  some true)
  (eqI (tiOf Tryd.prog) σ true b_ .nili fun b2 =>
  some b2)).bind fun r3 =>
  cond r3 (
  (eqI (tiOf Tryd.prog) σ true a_ .nili fun b4 =>
  cond b4 (
  eqI (tiOf Tryd.prog) σ true b_ .nili fun b5 =>
  some b5)
  (some false)).bind fun r6 =>
  some r6)
  (eqI (tiOf Tryd.prog) σ false a_ b_ fun b7 =>
  some b7)
noncomputable def W.skolemsee_Alike : Spec := .pur [.B] fun args σ => packs args [.V, .V] fun x => S.skolemsee_Alike x.1 x.2 σ


noncomputable def S.skolemsee_sentinel.b0 (p2 : AVal) (p3 : AVal) (σ0 : Heap) : Int → Option (Int ⊕ (Unit ⊕ Int)) := fun x4 =>
  lenV p3 fun n6 =>
  cond (decide (x4 < n6)) (
  ixA σ0 p3 1 x4 fun a7 =>
  ld σ0 a7 (.V) fun v8 =>
  (S.skolemsee_Alike p2 v8 σ0).bind fun r9 =>
  cond r9 (
  some (.inr (.inr (IntKind.i64.wrap (101 + x4)))))
  (some (.inl (IntKind.i64.wrap (x4 + 1)))))
  (some (.inr (.inl ())))
noncomputable def S.skolemsee_sentinel (e_ : AVal) (σ : Heap) : Option (Int × Heap) :=
  (S.skolemsee_sentinels σ).bind fun r1 =>
  (loopP (S.skolemsee_sentinel.b0 e_ r1.1 r1.2) 0).bind fun r10 =>
  (match r10 with
 | .inl y11 => some ((-1), r1.2)
 | .inr y12 => some (y12, r1.2))
noncomputable def W.skolemsee_sentinel : Spec := .eff [.I .i64] fun args σ => packs args [.V] fun x => S.skolemsee_sentinel x σ


noncomputable def S.skolemref_Placed (code_ : Int) (pos_ : Int) (σ : Heap) : Option (AVal × Heap) :=
  newK σ 3 [(.int .i64 0), (.bool false), (.int .i64 0)] fun l1 σ2 =>
  cond (code_ == 0) (
  (S.skolemref_None σ2).bind fun r3 =>
  aggK r3.1 3 fun cs4 =>
  stC r3.2 (.ptr l1 0) cs4 fun σ5 =>
  ldG σ5 (.ptr l1 0) 3 fun g6 =>
  some (g6, σ5))
  (stC σ2 (.ptr l1 0) [(.int .i64 code_), (.bool true), (.int .i64 pos_)] fun σ7 =>
  ldG σ7 (.ptr l1 0) 3 fun g8 =>
  some (g8, σ7))
noncomputable def W.skolemref_Placed : Spec := .eff [.V] fun args σ => packs args [.I .i64, .I .i64] fun x => S.skolemref_Placed x.1 x.2 σ


noncomputable def S.skolemsee_Fault (e_ : AVal) (σ : Heap) : Option (AVal × Heap) :=
  newK σ 3 [(.int .i64 0), (.bool false), (.int .i64 0)] fun l1 σ2 =>
  eqI (tiOf Tryd.prog) σ2 true e_ .nili fun b3 =>
  cond b3 (
  (S.skolemref_None σ2).bind fun r4 =>
  aggK r4.1 3 fun cs5 =>
  stC r4.2 (.ptr l1 0) cs5 fun σ6 =>
  ldG σ6 (.ptr l1 0) 3 fun g7 =>
  some (g7, σ6))
  (assertZ 96 e_ .nilp fun x8 b10 =>
  cond (!b10) (
  (S.skolemsee_sentinel e_ σ2).bind fun r11 =>
  (S.skolemref_Bare r11.1 r11.2).bind fun r12 =>
  aggK r12.1 3 fun cs13 =>
  stC r12.2 (.ptr l1 0) cs13 fun σ14 =>
  ldG σ14 (.ptr l1 0) 3 fun g15 =>
  some (g15, σ14))
  ((eqP x8 .nilp fun b16 =>
  cond b16 (
  some true)
  (nilck x8 (
  fld x8 1 fun a17 =>
  ld σ2 a17 (.V) fun v18 =>
  eqI (tiOf Tryd.prog) σ2 true v18 .nili fun b19 =>
  some b19))).bind fun r20 =>
  cond r20 (
  (S.skolemref_Bare (-1) σ2).bind fun r21 =>
  aggK r21.1 3 fun cs22 =>
  stC r21.2 (.ptr l1 0) cs22 fun σ23 =>
  ldG σ23 (.ptr l1 0) 3 fun g24 =>
  some (g24, σ23))
  (nilck x8 (
  fld x8 1 fun a25 =>
  ld σ2 a25 (.V) fun v26 =>
  (S.skolemsee_sentinel v26 σ2).bind fun r27 =>
  nilck x8 (
  fld x8 0 fun a28 =>
  ld r27.2 a28 (.I .i64) fun n29 =>
  ld σ2 a28 (.I .i64) fun n30 =>
  chk (((.int .i64 n30) : AVal) = (.int .i64 n29)) (
  (S.skolemref_Placed r27.1 n29 r27.2).bind fun r31 =>
  aggK r31.1 3 fun cs32 =>
  stC r31.2 (.ptr l1 0) cs32 fun σ33 =>
  ldG σ33 (.ptr l1 0) 3 fun g34 =>
  some (g34, σ33)))))))
noncomputable def W.skolemsee_Fault : Spec := .eff [.V] fun args σ => packs args [.V] fun x => S.skolemsee_Fault x σ


noncomputable def S.skolemref_SameFault (a_ : AVal) (b_ : AVal) (σ : Heap) : Option (Bool × Heap) :=
  aggK a_ 3 fun cs1 =>
  newK σ 3 cs1 fun l2 σ3 =>
  aggK b_ 3 fun cs4 =>
  newK σ3 3 cs4 fun l5 σ6 =>
  (ld σ6 (.ptr l2 0) (.I .i64) fun n7 =>
  ld σ6 (.ptr l5 0) (.I .i64) fun n8 =>
  cond (n7 == n8) (
  ld σ6 (.ptr l2 1) (.B) fun b9 =>
  ld σ6 (.ptr l5 1) (.B) fun b10 =>
  cond (b9 == b10) (
  ld σ6 (.ptr l2 2) (.I .i64) fun n11 =>
  ld σ6 (.ptr l5 2) (.I .i64) fun n12 =>
  some (n11 == n12))
  (some false))
  (some false)).bind fun r13 =>
  some (r13, σ6)
noncomputable def W.skolemref_SameFault : Spec := .eff [.B] fun args σ => packs args [.V, .V] fun x => S.skolemref_SameFault x.1 x.2 σ


noncomputable def S.skolemsee_Same (e_ : AVal) (f_ : AVal) (σ : Heap) : Option (Bool × Heap) :=
  aggK f_ 3 fun cs1 =>
  newK σ 3 cs1 fun l2 σ3 =>
  (S.skolemsee_Fault e_ σ3).bind fun r4 =>
  ldG r4.2 (.ptr l2 0) 3 fun g5 =>
  ldG σ3 (.ptr l2 0) 3 fun g6 =>
  chk ((g6 : AVal) = g5) (
  (S.skolemref_SameFault r4.1 g5 r4.2).bind fun r7 =>
  some (r7.1, r7.2))
noncomputable def W.skolemsee_Same : Spec := .eff [.B] fun args σ => packs args [.V, .V] fun x => S.skolemsee_Same x.1 x.2 σ


noncomputable def S.skolemsee_Is (e_ : AVal) (code_ : Int) (σ : Heap) : Option (Bool × Heap) :=
  (S.skolemref_Bare code_ σ).bind fun r1 =>
  (S.skolemsee_Same e_ r1.1 r1.2).bind fun r2 =>
  some (r2.1, r2.2)
noncomputable def W.skolemsee_Is : Spec := .eff [.B] fun args σ => packs args [.V, .I .i64] fun x => S.skolemsee_Is x.1 x.2 σ


noncomputable def S.lits_Clone.b0 (p5 : AVal) (p6 : Int) : (AVal × Int) → Heap → Option (((AVal × Int) ⊕ AVal) × Heap) := fun x7 σ8 =>
  cond (decide (x7.2 < p6)) (
  ixA σ8 p5 1 x7.2 fun a9 =>
  ld σ8 a9 (.V) fun v10 =>
  (S.slices_Clone_int_int v10 σ8).bind fun r11 =>
  scal r11.1 (
  newK r11.2 1 [r11.1] fun l12 σ13 =>
  appS σ13 1 24 x7.1 (.sl l12 0 1 none) fun v14 σ15 =>
  some (.inl (v14, (IntKind.i64.wrap (x7.2 + 1))), σ15)))
  (some (.inr x7.1, σ8))
noncomputable def S.lits_Clone (l_ : AVal) (σ : Heap) : Option (AVal × Heap) :=
  lenV l_ fun n1 =>
  mkS σ 1 24 [.nils] 0 n1 fun v2 σ3 =>
  lenV l_ fun n4 =>
  (loopW (S.lits_Clone.b0 l_ n4) (v2, 0) σ3).bind fun r16 =>
  some (r16.1, r16.2)
noncomputable def W.lits_Clone : Spec := .eff [.V] fun args σ => packs args [.V] fun x => S.lits_Clone x σ


noncomputable def S.incr_Solver_All (s_ : AVal) (σ : Heap) : Option (AVal × Heap) :=
  newK σ 2 [(.int .i64 0), .nils] fun l1 σ2 =>
  nilck s_ (
  fld s_ 1 fun a3 =>
  fld a3 0 fun a4 =>
  ld σ2 a4 (.I .i64) fun n5 =>
  nilck s_ (
  fld s_ 1 fun a6 =>
  fld a6 1 fun a7 =>
  ld σ2 a7 (.V) fun v8 =>
  (S.lits_Clone v8 σ2).bind fun r9 =>
  ld r9.2 a4 (.I .i64) fun n10 =>
  chk (((.int .i64 n10) : AVal) = (.int .i64 n5)) (
  scal r9.1 (
  stC r9.2 (.ptr l1 0) [(.int .i64 n5), r9.1] fun σ11 =>
  ldG σ11 (.ptr l1 0) 2 fun g12 =>
  some (g12, σ11)))))
noncomputable def W.incr_Solver_All : Spec := .eff [.V] fun args σ => packs args [.V] fun x => S.incr_Solver_All x σ


noncomputable def S.skolemmake_Small (s_ : AVal) (σ : Heap) : Option (Bool × Heap) :=
  aggK s_ 6 fun cs1 =>
  newK σ 6 cs1 fun l2 σ3 =>
  (ld σ3 (.ptr l2 0) (.V) fun v4 =>
  lenV v4 fun n5 =>
  cond (decide (n5 ≤ 50)) (
  ld σ3 (.ptr l2 1) (.V) fun v6 =>
  lenV v6 fun n7 =>
  cond (decide (n7 ≤ 50)) (
  ld σ3 (.ptr l2 2) (.V) fun v8 =>
  lenV v8 fun n9 =>
  cond (decide (n9 ≤ 50)) (
  ld σ3 (.ptr l2 3) (.V) fun v10 =>
  lenV v10 fun n11 =>
  some (decide (n11 ≤ 50)))
  (some false))
  (some false))
  (some false)).bind fun r12 =>
  some (r12, σ3)
noncomputable def W.skolemmake_Small : Spec := .eff [.B] fun args σ => packs args [.V] fun x => S.skolemmake_Small x σ


noncomputable def S.skolemmake_Near.b0 (p1 : AVal) (σ0 : Heap) : Int → Option (Int ⊕ (Unit ⊕ Bool)) := fun x2 =>
  lenV p1 fun n4 =>
  cond (decide (x2 < n4)) (
  ixA σ0 p1 1 x2 fun a5 =>
  ld σ0 a5 (.I .i64) fun n6 =>
  cond (decide (n6 < (-1152921504606846976))) (
  some (.inr (.inr false)))
  (some (.inl (IntKind.i64.wrap (x2 + 1)))))
  (some (.inr (.inl ())))
noncomputable def S.skolemmake_Near (c_ : AVal) (σ : Heap) : Option Bool :=
  (loopP (S.skolemmake_Near.b0 c_ σ) 0).bind fun r7 =>
  (match r7 with
 | .inl y8 => some true
 | .inr y9 => some y9)
noncomputable def W.skolemmake_Near : Spec := .pur [.B] fun args σ => packs args [.V] fun x => S.skolemmake_Near x σ


noncomputable def S.skolemmake_Free (s_ : AVal) (σ : Heap) : Option (AVal × Heap) :=
  aggK s_ 6 fun cs1 =>
  newK σ 6 cs1 fun l2 σ3 =>
  newK σ3 6 [.nils, .nils, .nils, .nils, (.int .i64 0), (.int .i64 0)] fun l4 σ5 =>
  stC σ5 (.ptr l2 4) [(.int .i64 0)] fun σ6 =>
  stC σ6 (.ptr l2 5) [(.int .i64 0)] fun σ7 =>
  ldG σ7 (.ptr l2 0) 6 fun g8 =>
  aggK g8 6 fun cs9 =>
  stC σ7 (.ptr l4 0) cs9 fun σ10 =>
  ldG σ10 (.ptr l4 0) 6 fun g11 =>
  some (g11, σ10)
noncomputable def W.skolemmake_Free : Spec := .eff [.V] fun args σ => packs args [.V] fun x => S.skolemmake_Free x σ


noncomputable def S.skolemmake_Lit (n_ : Int) (vars_ : Int) (σ : Heap) : Option Int :=
  (S.skolemworld_Number n_ (IntKind.i64.wrap (2 * vars_)) σ).bind fun r1 =>
  cond (decide (r1 < vars_)) (
  some (IntKind.i64.wrap (r1 + 1)))
  (some (IntKind.i64.wrap ((IntKind.i64.wrap (vars_ - r1)) - 1)))
noncomputable def W.skolemmake_Lit : Spec := .pur [.I .i64] fun args σ => packs args [.I .i64, .I .i64] fun x => S.skolemmake_Lit x.1 x.2 σ


noncomputable def S.skolemmake_Clauses.b0 (p1 : AVal) (p2 : Int) : (AVal × AVal × Int) → Heap → Option (((AVal × AVal × Int) ⊕ ((AVal × AVal))) × Heap) := fun x3 σ4 =>
  lenV p1 fun n5 =>
  cond (decide (x3.2.2 < n5)) (
  ((ixA σ4 p1 1 x3.2.2 fun a6 =>
  ld σ4 a6 (.I .i64) fun n7 =>
  (S.skolemworld_Number n7 7 σ4).bind fun r8 =>
  cond (r8 == 0) (
  lenV x3.2.1 fun n9 =>
  cond (decide (n9 > 0)) (
  some true)
  (lenV x3.2.1 fun n10 =>
  some (decide (n10 ≥ 5))))
  (lenV x3.2.1 fun n11 =>
  some (decide (n11 ≥ 5)))).bind fun r12 =>
  (cond r12 (
  scal x3.2.1 (
  newK σ4 1 [x3.2.1] fun l13 σ14 =>
  appS σ14 1 24 x3.1 (.sl l13 0 1 none) fun v15 σ16 =>
  some ((v15, .nils), σ16)))
  (some ((x3.1, x3.2.1), σ4))).bind fun r17 =>
  ixA r17.2 p1 1 x3.2.2 fun a18 =>
  ld r17.2 a18 (.I .i64) fun n19 =>
  (S.skolemworld_Number n19 1099511627776 r17.2).bind fun r20 =>
  (S.skolemmake_Lit (IntKind.i64.wrap (Int.tdiv r20 7)) p2 r17.2).bind fun r21 =>
  newK r17.2 1 [(.int .i64 r21)] fun l22 σ23 =>
  appS σ23 1 8 r17.1.2 (.sl l22 0 1 none) fun v24 σ25 =>
  some ((r17.1.1, v24), σ25)).bind fun r26 =>
  some (.inl (r26.1.1, r26.1.2, (IntKind.i64.wrap (x3.2.2 + 1))), r26.2))
  (some (.inr (x3.1, x3.2.1), σ4))
noncomputable def S.skolemmake_Clauses (l_ : AVal) (vars_ : Int) (σ : Heap) : Option (AVal × Heap) :=
  cond (decide (vars_ < 1)) (
  some (.nils, σ))
  ((loopW (S.skolemmake_Clauses.b0 l_ vars_) (.nils, .nils, 0) σ).bind fun r27 =>
  lenV r27.1.2 fun n28 =>
  (cond (decide (n28 > 0)) (
  scal r27.1.2 (
  newK r27.2 1 [r27.1.2] fun l29 σ30 =>
  appS σ30 1 24 r27.1.1 (.sl l29 0 1 none) fun v31 σ32 =>
  some (v31, σ32)))
  (some (r27.1.1, r27.2))).bind fun r33 =>
  some (r33.1, r33.2))
noncomputable def W.skolemmake_Clauses : Spec := .eff [.V] fun args σ => packs args [.V, .I .i64] fun x => S.skolemmake_Clauses x.1 x.2 σ


noncomputable def S.skolemlaw19_made.b0 (p11 : AVal) (p12 : AVal) : Int → Heap → Option ((Int ⊕ (Unit ⊕ (AVal × AVal))) × Heap) := fun x13 σ14 =>
  lenV p12 fun n15 =>
  cond (decide (x13 < n15)) (
  ixA σ14 p12 1 x13 fun a16 =>
  ld σ14 a16 (.V) fun v17 =>
  (S.incr_Solver_Add p11 v17 σ14).bind fun r18 =>
  eqI (tiOf Tryd.prog) r18.2 true r18.1 .nili fun b19 =>
  cond (!b19) (
  some (.inr (.inr (.nilp, .nils)), r18.2))
  (some (.inl (IntKind.i64.wrap (x13 + 1)), r18.2)))
  (some (.inr (.inl ()), σ14))
noncomputable def S.skolemlaw19_made (l_ : AVal) (s_ : AVal) (σ : Heap) : Option ((AVal × AVal) × Heap) :=
  aggK s_ 6 fun cs1 =>
  newK σ 6 cs1 fun l2 σ3 =>
  ldG σ3 (.ptr l2 0) 6 fun g4 =>
  (S.skolemmake_Free g4 σ3).bind fun r5 =>
  (S.incr_New r5.1 r5.2).bind fun r6 =>
  (eqP r6.1 .nilp fun b7 =>
  cond b7 (
  some (true, r6.2))
  ((S.incr_Solver_Fresh r6.1 8 r6.2).bind fun r8 =>
  some ((r8.1 != 1), r8.2))).bind fun r9 =>
  cond r9.1 (
  some ((.nilp, .nils), r9.2))
  ((S.skolemmake_Clauses l_ 8 r9.2).bind fun r10 =>
  (loopW (S.skolemlaw19_made.b0 r6.1 r10.1) 0 r10.2).bind fun r20 =>
  (match r20.1 with
 | .inl y21 => some ((r6.1, r10.1), r20.2)
 | .inr y22 => some ((y22.1, y22.2), r20.2)))
noncomputable def W.skolemlaw19_made : Spec := .eff [.V, .V] fun args σ => packs args [.V, .V] fun x => S.skolemlaw19_made x.1 x.2 σ


noncomputable def S.skolemmake_CNF (l_ : AVal) (vars_ : Int) (σ : Heap) : Option (AVal × Heap) :=
  newK σ 2 [(.int .i64 0), .nils] fun l1 σ2 =>
  (S.skolemmake_Clauses l_ vars_ σ2).bind fun r3 =>
  scal r3.1 (
  stC r3.2 (.ptr l1 0) [(.int .i64 vars_), r3.1] fun σ4 =>
  ldG σ4 (.ptr l1 0) 2 fun g5 =>
  some (g5, σ4))
noncomputable def W.skolemmake_CNF : Spec := .eff [.V] fun args σ => packs args [.V, .I .i64] fun x => S.skolemmake_CNF x.1 x.2 σ


noncomputable def S.lits_Rename.b0 (p5 : AVal) (p6 : AVal) (p7 : Int) : (AVal × Int) → Heap → Option (((AVal × Int) ⊕ (AVal ⊕ (AVal × Bool))) × Heap) := fun x8 σ9 =>
  cond (decide (x8.2 < p7)) (
  (ixA σ9 p6 1 x8.2 fun a10 =>
  ld σ9 a10 (.I .i64) fun n11 =>
  (S.lits_Var n11 σ9).bind fun r12 =>
  (cond (decide (r12 < 1)) (
  some true)
  (lenV p5 fun n13 =>
  cond (decide (r12 ≥ n13)) (
  some true)
  (ixA σ9 p5 1 r12 fun a14 =>
  ld σ9 a14 (.I .i64) fun n15 =>
  some (n15 == 0)))).bind fun r16 =>
  cond r16 (
  some (.inr (.nils, false), σ9))
  (cond (decide (n11 < 0)) (
  ixA σ9 p5 1 r12 fun a17 =>
  ld σ9 a17 (.I .i64) fun n18 =>
  newK σ9 1 [(.int .i64 (IntKind.i64.wrap (0 - n18)))] fun l19 σ20 =>
  appS σ20 1 8 x8.1 (.sl l19 0 1 none) fun v21 σ22 =>
  some (.inl v21, σ22))
  (ixA σ9 p5 1 r12 fun a23 =>
  ld σ9 a23 (.I .i64) fun n24 =>
  newK σ9 1 [(.int .i64 n24)] fun l25 σ26 =>
  appS σ26 1 8 x8.1 (.sl l25 0 1 none) fun v27 σ28 =>
  some (.inl v27, σ28))) : Option ((AVal ⊕ (AVal × Bool)) × Heap)).bind fun r29 =>
  (match r29.1 with
 | .inl y30 => some (.inl (y30, (IntKind.i64.wrap (x8.2 + 1))), r29.2)
 | .inr y31 => some (.inr (.inr (y31.1, y31.2)), r29.2)))
  (some (.inr (.inl x8.1), σ9))
noncomputable def S.lits_Rename (c_ : AVal) (p1 : AVal) (σ : Heap) : Option ((AVal × Bool) × Heap) :=
  lenV c_ fun n1 =>
  mkS σ 1 8 [(.int .i64 0)] 0 n1 fun v2 σ3 =>
  lenV c_ fun n4 =>
  (loopW (S.lits_Rename.b0 p1 c_ n4) (v2, 0) σ3).bind fun r32 =>
  (match r32.1 with
 | .inl y33 => some ((y33, true), r32.2)
 | .inr y34 => some ((y34.1, y34.2), r32.2))
noncomputable def W.lits_Rename : Spec := .eff [.V, .B] fun args σ => packs args [.V, .V] fun x => S.lits_Rename x.1 x.2 σ


noncomputable def S.incr_Solver_Put.b0 (p10 : AVal) (p11 : AVal) (p12 : AVal) (p13 : Int) : (AVal × Int) → Heap → Option (((AVal × Int) ⊕ (AVal ⊕ AVal)) × Heap) := fun x14 σ15 =>
  cond (decide (x14.2 < p13)) (
  ixA σ15 p12 1 x14.2 fun a16 =>
  ld σ15 a16 (.V) fun v17 =>
  (S.lits_Rename v17 p11 σ15).bind fun r18 =>
  cond (!r18.1.2) (
  ld r18.2 (.ptr 0 0) (.V) fun v19 =>
  some (.inr (.inr v19), r18.2))
  (scal r18.1.1 (
  newK r18.2 1 [r18.1.1] fun l20 σ21 =>
  appS σ21 1 24 x14.1 (.sl l20 0 1 none) fun v22 σ23 =>
  some (.inl (v22, (IntKind.i64.wrap (x14.2 + 1))), σ23))))
  (some (.inr (.inl x14.1), σ15))
noncomputable def S.incr_Solver_Put (s_ : AVal) (c_ : AVal) (p2 : AVal) (σ : Heap) : Option (AVal × Heap) :=
  aggK c_ 2 fun cs1 =>
  newK σ 2 cs1 fun l2 σ3 =>
  ld σ3 (.ptr l2 1) (.V) fun v4 =>
  lenV v4 fun n5 =>
  mkS σ3 1 24 [.nils] 0 n5 fun v6 σ7 =>
  ld σ7 (.ptr l2 1) (.V) fun v8 =>
  lenV v8 fun n9 =>
  (loopW (S.incr_Solver_Put.b0 s_ p2 v8 n9) (v6, 0) σ7).bind fun r24 =>
  (match r24.1 with
 | .inl y25 => (S.incr_Solver_adds s_ y25 r24.2).bind fun r27 =>
  some (r27.1, r27.2)
 | .inr y26 => some (y26, r24.2))
noncomputable def W.incr_Solver_Put : Spec := .eff [.V] fun args σ => packs args [.V, .V, .V] fun x => S.incr_Solver_Put x.1 x.2.1 x.2.2 σ


noncomputable def S.skolemref_Abs (l_ : Int) (σ : Heap) : Option Int :=
  cond (decide (l_ < 0)) (
  some (IntKind.i64.wrap (0 - l_)))
  (some l_)
noncomputable def W.skolemref_Abs : Spec := .pur [.I .i64] fun args σ => packs args [.I .i64] fun x => S.skolemref_Abs x σ


noncomputable def S.skolemref1_Rename.b0 (p1 : AVal) (p2 : AVal) : (AVal × Int) → Heap → Option (((AVal × Int) ⊕ (AVal ⊕ (AVal × Bool))) × Heap) := fun x3 σ4 =>
  lenV p1 fun n5 =>
  cond (decide (x3.2 < n5)) (
  (ixA σ4 p1 1 x3.2 fun a6 =>
  ld σ4 a6 (.I .i64) fun n7 =>
  (lenV p2 fun n8 =>
  cond (decide (n7 ≥ n8)) (
  some true)
  (lenV p2 fun n9 =>
  cond (decide ((IntKind.i64.wrap (0 - n7)) ≥ n9)) (
  some true)
  (some (n7 == (IntKind.i64.wrap (0 - n7)))))).bind fun r10 =>
  cond r10 (
  some (.inr (.nils, false), σ4))
  ((S.skolemref_Abs n7 σ4).bind fun r11 =>
  ixA σ4 p2 1 r11 fun a12 =>
  ld σ4 a12 (.I .i64) fun n13 =>
  cond (n13 == 0) (
  some (.inr (.nils, false), σ4))
  ((cond (decide (n7 < 0)) (
  some (IntKind.i64.wrap (0 - n13)))
  (some n13)).bind fun r14 =>
  newK σ4 1 [(.int .i64 r14)] fun l15 σ16 =>
  appS σ16 1 8 x3.1 (.sl l15 0 1 none) fun v17 σ18 =>
  some (.inl v17, σ18))) : Option ((AVal ⊕ (AVal × Bool)) × Heap)).bind fun r19 =>
  (match r19.1 with
 | .inl y20 => some (.inl (y20, (IntKind.i64.wrap (x3.2 + 1))), r19.2)
 | .inr y21 => some (.inr (.inr (y21.1, y21.2)), r19.2)))
  (some (.inr (.inl x3.1), σ4))
noncomputable def S.skolemref1_Rename (c_ : AVal) (p1 : AVal) (σ : Heap) : Option ((AVal × Bool) × Heap) :=
  (loopW (S.skolemref1_Rename.b0 c_ p1) (.nils, 0) σ).bind fun r22 =>
  (match r22.1 with
 | .inl y23 => some ((y23, true), r22.2)
 | .inr y24 => some ((y24.1, y24.2), r22.2))
noncomputable def W.skolemref1_Rename : Spec := .eff [.V, .B] fun args σ => packs args [.V, .V] fun x => S.skolemref1_Rename x.1 x.2 σ


noncomputable def S.skolemmake_Right.b0 (p1 : AVal) (p2 : Int) (σ0 : Heap) : Int → Option (Int ⊕ (Unit ⊕ Bool)) := fun x3 =>
  lenV p1 fun n5 =>
  cond (decide (x3 < n5)) (
  (ixA σ0 p1 1 x3 fun a6 =>
  ld σ0 a6 (.I .i64) fun n7 =>
  cond (n7 == 0) (
  some true)
  (ixA σ0 p1 1 x3 fun a8 =>
  ld σ0 a8 (.I .i64) fun n9 =>
  cond (decide (n9 > p2)) (
  some true)
  (ixA σ0 p1 1 x3 fun a10 =>
  ld σ0 a10 (.I .i64) fun n11 =>
  some (decide (n11 < (IntKind.i64.wrap (0 - p2))))))).bind fun r12 =>
  cond r12 (
  some (.inr (.inr false)))
  (some (.inl (IntKind.i64.wrap (x3 + 1)))))
  (some (.inr (.inl ())))
noncomputable def S.skolemmake_Right (c_ : AVal) (vars_ : Int) (σ : Heap) : Option Bool :=
  (loopP (S.skolemmake_Right.b0 c_ vars_ σ) 0).bind fun r13 =>
  (match r13 with
 | .inl y14 => some true
 | .inr y15 => some y15)
noncomputable def W.skolemmake_Right : Spec := .pur [.B] fun args σ => packs args [.V, .I .i64] fun x => S.skolemmake_Right x.1 x.2 σ


noncomputable def S.skolemref_SameInts.b0 (p3 : AVal) (p4 : AVal) (σ0 : Heap) : Int → Option (Int ⊕ (Unit ⊕ Bool)) := fun x5 =>
  lenV p3 fun n7 =>
  cond (decide (x5 < n7)) (
  ixA σ0 p3 1 x5 fun a8 =>
  ld σ0 a8 (.I .i64) fun n9 =>
  ixA σ0 p4 1 x5 fun a10 =>
  ld σ0 a10 (.I .i64) fun n11 =>
  cond (!(n9 == n11)) (
  some (.inr (.inr false)))
  (some (.inl (IntKind.i64.wrap (x5 + 1)))))
  (some (.inr (.inl ())))
noncomputable def S.skolemref_SameInts (a_ : AVal) (b_ : AVal) (σ : Heap) : Option Bool :=
  lenV a_ fun n1 =>
  lenV b_ fun n2 =>
  cond (n1 != n2) (
  some false)
  ((loopP (S.skolemref_SameInts.b0 a_ b_ σ) 0).bind fun r12 =>
  (match r12 with
 | .inl y13 => some true
 | .inr y14 => some y14))
noncomputable def W.skolemref_SameInts : Spec := .pur [.B] fun args σ => packs args [.V, .V] fun x => S.skolemref_SameInts x.1 x.2 σ


noncomputable def S.skolemref_SameClauses.b0 (p3 : AVal) (p4 : AVal) (σ0 : Heap) : Int → Option (Int ⊕ (Unit ⊕ Bool)) := fun x5 =>
  lenV p3 fun n7 =>
  cond (decide (x5 < n7)) (
  ixA σ0 p3 1 x5 fun a8 =>
  ld σ0 a8 (.V) fun v9 =>
  ixA σ0 p4 1 x5 fun a10 =>
  ld σ0 a10 (.V) fun v11 =>
  (S.skolemref_SameInts v9 v11 σ0).bind fun r12 =>
  cond (!r12) (
  some (.inr (.inr false)))
  (some (.inl (IntKind.i64.wrap (x5 + 1)))))
  (some (.inr (.inl ())))
noncomputable def S.skolemref_SameClauses (a_ : AVal) (b_ : AVal) (σ : Heap) : Option Bool :=
  lenV a_ fun n1 =>
  lenV b_ fun n2 =>
  cond (n1 != n2) (
  some false)
  ((loopP (S.skolemref_SameClauses.b0 a_ b_ σ) 0).bind fun r13 =>
  (match r13 with
 | .inl y14 => some true
 | .inr y15 => some y15))
noncomputable def W.skolemref_SameClauses : Spec := .pur [.B] fun args σ => packs args [.V, .V] fun x => S.skolemref_SameClauses x.1 x.2 σ


noncomputable def S.skolemlaw19_IncrSays.b0 (p31 : AVal) (p32 : Int) (p33 : AVal) (p34 : Bool) (p35 : AVal) (p36 : AVal) (p37 : AVal) (p38 : AVal) : (AVal × Bool × Int) → Heap → Option (((AVal × Bool × Int) ⊕ ((AVal × Bool))) × Heap) := fun x39 σ40 =>
  fld p37 1 fun a41 =>
  ld σ40 a41 (.V) fun v42 =>
  lenV v42 fun n43 =>
  cond (decide (x39.2.2 < n43)) (
  fld p37 1 fun a44 =>
  ld σ40 a44 (.V) fun v45 =>
  ixA σ40 v45 1 x39.2.2 fun a46 =>
  ld σ40 a46 (.V) fun v47 =>
  (S.skolemref1_Rename v47 p31 σ40).bind fun r48 =>
  (cond x39.2.1 (
  cond r48.1.2 (
  (S.skolemmake_Right r48.1.1 (IntKind.i64.wrap (8 + p32)) r48.2).bind fun r49 =>
  some r49)
  (some false))
  (some false)).bind fun r50 =>
  scal r48.1.1 (
  newK r48.2 1 [r48.1.1] fun l51 σ52 =>
  appS σ52 1 24 x39.1 (.sl l51 0 1 none) fun v53 σ54 =>
  some (.inl (v53, r50, (IntKind.i64.wrap (x39.2.2 + 1))), σ54)))
  (some (.inr (x39.1, x39.2.1), σ40))
noncomputable def S.skolemlaw19_IncrSays (p0 : AVal) (p1 : AVal) (p2 : AVal) (p3 : AVal) (p4 : Int) (p5 : AVal) (σ : Heap) : Option (Bool × Heap) :=
  aggK p1 6 fun cs1 =>
  newK σ 6 cs1 fun l2 σ3 =>
  (S.skolemlaw19_first σ3).bind fun r4 =>
  cond (!r4.1) (
  some (false, r4.2))
  ((lenV p0 fun n5 =>
  cond (decide (n5 > 100)) (
  some (true, r4.2))
  (lenV p2 fun n6 =>
  cond (decide (n6 > 60)) (
  some (true, r4.2))
  (lenV p3 fun n7 =>
  cond (decide (n7 > 12)) (
  some (true, r4.2))
  (lenV p5 fun n8 =>
  cond (decide (n8 > 20)) (
  some (true, r4.2))
  (ldG r4.2 (.ptr l2 0) 6 fun g9 =>
  (S.skolemmake_Small g9 r4.2).bind fun r10 =>
  cond (!r10.1) (
  some (true, r10.2))
  ((S.skolemmake_Near p3 r10.2).bind fun r11 =>
  cond (!r11) (
  some (true, r10.2))
  ((S.skolemmake_Near p5 r10.2).bind fun r12 =>
  some ((!r12), r10.2)))))))).bind fun r13 =>
  cond r13.1 (
  some (r4.1, r13.2))
  (ldG r13.2 (.ptr l2 0) 6 fun g14 =>
  (S.skolemlaw19_made p0 g14 r13.2).bind fun r15 =>
  eqP r15.1.1 .nilp fun b16 =>
  cond b16 (
  some (false, r15.2))
  ((S.skolemworld_Number p4 20 r15.2).bind fun r17 =>
  ((S.incr_Solver_Fresh r15.1.1 (IntKind.i64.wrap (r17 + 1)) r15.2).bind fun r18 =>
  cond (r18.1 != 9) (
  some (true, r18.2))
  ((S.incr_Solver_Vars r15.1.1 r18.2).bind fun r19 =>
  cond (r19 != (IntKind.i64.wrap (8 + (IntKind.i64.wrap (r17 + 1))))) (
  some (true, r18.2))
  ((S.incr_Solver_Fresh r15.1.1 4000 r18.2).bind fun r20 =>
  cond (r20.1 != 0) (
  some (true, r20.2))
  ((S.incr_Solver_Fresh r15.1.1 (-1) r20.2).bind fun r21 =>
  cond (r21.1 != 0) (
  some (true, r21.2))
  ((S.incr_Solver_Vars r15.1.1 r21.2).bind fun r22 =>
  some ((r22 != (IntKind.i64.wrap (8 + (IntKind.i64.wrap (r17 + 1))))), r21.2)))))).bind fun r23 =>
  cond r23.1 (
  some (false, r23.2))
  ((S.skolemmake_CNF p2 6 r23.2).bind fun r24 =>
  newK r24.2 2 [(.int .i64 0), .nils] fun l25 σ26 =>
  aggK r24.1 2 fun cs27 =>
  stC σ26 (.ptr l25 0) cs27 fun σ28 =>
  ldG σ28 (.ptr l25 0) 2 fun g29 =>
  (S.incr_Solver_Put r15.1.1 g29 p3 σ28).bind fun r30 =>
  (loopW (S.skolemlaw19_IncrSays.b0 p3 (IntKind.i64.wrap (r17 + 1)) p5 r4.1 r15.1.1 r15.1.2 (.ptr l25 0) r30.1) (.nils, true, 0) r30.2).bind fun r55 =>
  (eqI (tiOf Tryd.prog) r55.2 true r30.1 .nili fun b56 =>
  cond (!(b56 == r55.1.2)) (
  some (true, r55.2))
  (cond (!r55.1.2) (
  (S.skolemsee_Is r30.1 104 r55.2).bind fun r57 =>
  some ((!r57.1), r57.2))
  (some (false, r55.2)))).bind fun r58 =>
  cond r58.1 (
  some (false, r58.2))
  ((cond r55.1.2 (
  appS r58.2 1 24 r15.1.2 r55.1.1 fun v59 σ60 =>
  some (v59, σ60))
  (some (r15.1.2, r58.2))).bind fun r61 =>
  (S.incr_Solver_Add r15.1.1 p5 r61.2).bind fun r62 =>
  (S.skolemmake_Right p5 (IntKind.i64.wrap (8 + (IntKind.i64.wrap (r17 + 1)))) r62.2).bind fun r63 =>
  (cond r63 (
  scal p5 (
  newK r62.2 1 [p5] fun l64 σ65 =>
  appS σ65 1 24 r61.1 (.sl l64 0 1 none) fun v66 σ67 =>
  some (.inl v66, σ67)))
  ((S.skolemsee_Is r62.1 104 r62.2).bind fun r68 =>
  cond (!r68.1) (
  some (.inr false, r68.2))
  (some (.inl r61.1, r68.2))) : Option ((AVal ⊕ Bool) × Heap)).bind fun r69 =>
  (match r69.1 with
 | .inl y70 => (S.incr_Solver_All r15.1.1 r69.2).bind fun r72 =>
  newK r72.2 2 [(.int .i64 0), .nils] fun l73 σ74 =>
  aggK r72.1 2 fun cs75 =>
  stC σ74 (.ptr l73 0) cs75 fun σ76 =>
  (cond r4.1 (
  ld σ76 (.ptr l73 0) (.I .i64) fun n77 =>
  cond (n77 == (IntKind.i64.wrap (8 + (IntKind.i64.wrap (r17 + 1))))) (
  ld σ76 (.ptr l73 1) (.V) fun v78 =>
  (S.skolemref_SameClauses v78 y70 σ76).bind fun r79 =>
  some r79)
  (some false))
  (some false)).bind fun r80 =>
  some (r80, σ76)
 | .inr y71 => some (y71, r69.2)))))))
noncomputable def W.skolemlaw19_IncrSays : Spec := .eff [.B] fun args σ => packs args [.V, .V, .V, .V, .I .i64, .V] fun x => S.skolemlaw19_IncrSays x.1 x.2.1 x.2.2.1 x.2.2.2.1 x.2.2.2.2.1 x.2.2.2.2.2 σ

end Go.Proofs.YtekehmgfedmflaaDoor.A
