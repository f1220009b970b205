/- A part of the proof. -/
import Derived.Test.YtcmaphhcbgdigaaF3
set_option linter.all false
set_option linter.unusedVariables false
namespace Go.Proofs.Ytcmaphhcbgdigaa.A
open Go


noncomputable def S.assign_Cut (vars_ : Int) (σ : Heap) : Option Int :=
  some (if 4000 < (if 0 > vars_ then 0 else vars_) then 4000 else (if 0 > vars_ then 0 else vars_))
noncomputable def W.assign_Cut : Spec := .pur [.I .i64] fun args σ => packs args [.I .i64] fun x => S.assign_Cut x σ


noncomputable def S.heap_Heap_is (h_ : AVal) (v_ : Int) (σ : Heap) : Option Bool :=
  (cond (decide (v_ > 0)) (
  nilck h_ (
  fld h_ 0 fun a1 =>
  ld σ a1 (.V) fun v2 =>
  lenV v2 fun n3 =>
  some (decide (v_ < n3))))
  (some false)).bind fun r4 =>
  some r4
noncomputable def W.heap_Heap_is : Spec := .pur [.B] fun args σ => packs args [.V, .I .i64] fun x => S.heap_Heap_is x.1 x.2 σ


noncomputable def S.heap_Heap_ahead (h_ : AVal) (a_ : Int) (b_ : Int) (σ : Heap) : Option Bool :=
  (nilck h_ (
  fld h_ 0 fun a1 =>
  ld σ a1 (.V) fun v2 =>
  ixA σ v2 1 a_ fun a3 =>
  ld σ a3 (.I .i64) fun n4 =>
  nilck h_ (
  fld h_ 0 fun a5 =>
  ld σ a5 (.V) fun v6 =>
  ixA σ v6 1 b_ fun a7 =>
  ld σ a7 (.I .i64) fun n8 =>
  cond (decide (n4 > n8)) (
  some true)
  (nilck h_ (
  fld h_ 0 fun a9 =>
  ld σ a9 (.V) fun v10 =>
  ixA σ v10 1 a_ fun a11 =>
  ld σ a11 (.I .i64) fun n12 =>
  nilck h_ (
  fld h_ 0 fun a13 =>
  ld σ a13 (.V) fun v14 =>
  ixA σ v14 1 b_ fun a15 =>
  ld σ a15 (.I .i64) fun n16 =>
  cond (n12 == n16) (
  some (decide (a_ < b_)))
  (some false))))))).bind fun r17 =>
  some r17
noncomputable def W.heap_Heap_ahead : Spec := .pur [.B] fun args σ => packs args [.V, .I .i64, .I .i64] fun x => S.heap_Heap_ahead x.1 x.2.1 x.2.2 σ


noncomputable def S.heap_Heap_put (h_ : AVal) (k_ : Int) (v_ : Int) (σ : Heap) : Option (Unit × Heap) :=
  nilck h_ (
  fld h_ 2 fun a1 =>
  ld σ a1 (.V) fun v2 =>
  ixA σ v2 1 k_ fun a3 =>
  stC σ a3 [(.int .i64 v_)] fun σ4 =>
  nilck h_ (
  fld h_ 1 fun a5 =>
  ld σ4 a5 (.V) fun v6 =>
  ixA σ4 v6 1 v_ fun a7 =>
  stC σ4 a7 [(.int .i64 (IntKind.i64.wrap (k_ + 1)))] fun σ8 =>
  some ((), σ8)))
noncomputable def W.heap_Heap_put : Spec := .eff [] fun args σ => packs args [.V, .I .i64, .I .i64] fun x => S.heap_Heap_put x.1 x.2.1 x.2.2 σ


noncomputable def S.heap_Heap_up.b0 (p5 : AVal) (p6 : Int) : Int → Heap → Option ((Int ⊕ Int) × Heap) := fun x7 σ8 =>
  (cond (decide (x7 > 0)) (
  nilck p5 (
  fld p5 2 fun a9 =>
  ld σ8 a9 (.V) fun v10 =>
  ixA σ8 v10 1 (IntKind.i64.wrap (Int.tdiv (IntKind.i64.wrap (x7 - 1)) 2)) fun a11 =>
  ld σ8 a11 (.I .i64) fun n12 =>
  (S.heap_Heap_ahead p5 p6 n12 σ8).bind fun r13 =>
  some r13))
  (some false)).bind fun r14 =>
  cond r14 (
  nilck p5 (
  fld p5 2 fun a15 =>
  ld σ8 a15 (.V) fun v16 =>
  ixA σ8 v16 1 (IntKind.i64.wrap (Int.tdiv (IntKind.i64.wrap (x7 - 1)) 2)) fun a17 =>
  ld σ8 a17 (.I .i64) fun n18 =>
  (S.heap_Heap_put p5 x7 n18 σ8).bind fun r19 =>
  some (.inl (IntKind.i64.wrap (Int.tdiv (IntKind.i64.wrap (x7 - 1)) 2)), r19.2)))
  (some (.inr x7, σ8))
noncomputable def S.heap_Heap_up (h_ : AVal) (k_ : Int) (σ : Heap) : Option (Unit × Heap) :=
  nilck h_ (
  fld h_ 2 fun a1 =>
  ld σ a1 (.V) fun v2 =>
  ixA σ v2 1 k_ fun a3 =>
  ld σ a3 (.I .i64) fun n4 =>
  (loopW (S.heap_Heap_up.b0 h_ n4) k_ σ).bind fun r20 =>
  (S.heap_Heap_put h_ r20.1 n4 r20.2).bind fun r21 =>
  some ((), r21.2))
noncomputable def W.heap_Heap_up : Spec := .eff [] fun args σ => packs args [.V, .I .i64] fun x => S.heap_Heap_up x.1 x.2 σ


noncomputable def S.heap_Heap_Push (h_ : AVal) (v_ : Int) (σ : Heap) : Option (Bool × Heap) :=
  ((S.heap_Heap_is h_ v_ σ).bind fun r1 =>
  cond (!r1) (
  some true)
  (nilck h_ (
  fld h_ 1 fun a2 =>
  ld σ a2 (.V) fun v3 =>
  ixA σ v3 1 v_ fun a4 =>
  ld σ a4 (.I .i64) fun n5 =>
  some (decide (n5 > 0))))).bind fun r6 =>
  cond r6 (
  some (false, σ))
  (nilck h_ (
  fld h_ 2 fun a7 =>
  ld σ a7 (.V) fun v8 =>
  newK σ 1 [(.int .i64 v_)] fun l9 σ10 =>
  appS σ10 1 8 v8 (.sl l9 0 1 none) fun v11 σ12 =>
  nilck h_ (
  fld h_ 2 fun a13 =>
  scal v11 (
  stC σ12 a13 [v11] fun σ14 =>
  nilck h_ (
  fld h_ 2 fun a15 =>
  ld σ14 a15 (.V) fun v16 =>
  lenV v16 fun n17 =>
  (S.heap_Heap_up h_ (IntKind.i64.wrap (n17 - 1)) σ14).bind fun r18 =>
  some (true, r18.2))))))
noncomputable def W.heap_Heap_Push : Spec := .eff [.B] fun args σ => packs args [.V, .I .i64] fun x => S.heap_Heap_Push x.1 x.2 σ


noncomputable def S.heap_Heap_Grow.b0 (p1 : AVal) (p2 : Int) : Unit → Heap → Option ((Unit ⊕ Unit) × Heap) := fun x3 σ4 =>
  nilck p1 (
  fld p1 0 fun a5 =>
  ld σ4 a5 (.V) fun v6 =>
  lenV v6 fun n7 =>
  (S.assign_Cut p2 σ4).bind fun r8 =>
  cond (decide (n7 ≤ r8)) (
  nilck p1 (
  fld p1 0 fun a9 =>
  ld σ4 a9 (.V) fun v10 =>
  newK σ4 1 [(.int .i64 0)] fun l11 σ12 =>
  appS σ12 1 8 v10 (.sl l11 0 1 none) fun v13 σ14 =>
  nilck p1 (
  fld p1 1 fun a15 =>
  ld σ14 a15 (.V) fun v16 =>
  ld σ4 a15 (.V) fun v17 =>
  chk ((v17 : AVal) = v16) (
  newK σ14 1 [(.int .i64 0)] fun l18 σ19 =>
  appS σ19 1 8 v16 (.sl l18 0 1 none) fun v20 σ21 =>
  nilck p1 (
  fld p1 0 fun a22 =>
  scal v13 (
  stC σ21 a22 [v13] fun σ23 =>
  nilck p1 (
  fld p1 1 fun a24 =>
  scal v20 (
  stC σ23 a24 [v20] fun σ25 =>
  nilck p1 (
  fld p1 0 fun a26 =>
  ld σ25 a26 (.V) fun v27 =>
  lenV v27 fun n28 =>
  (S.heap_Heap_Push p1 (IntKind.i64.wrap (n28 - 1)) σ25).bind fun r29 =>
  some (.inl (), r29.2))))))))))
  (some (.inr (), σ4)))
noncomputable def S.heap_Heap_Grow (h_ : AVal) (vars_ : Int) (σ : Heap) : Option (Unit × Heap) :=
  (loopW (S.heap_Heap_Grow.b0 h_ vars_) () σ).bind fun r30 =>
  some ((), r30.2)
noncomputable def W.heap_Heap_Grow : Spec := .eff [] fun args σ => packs args [.V, .I .i64] fun x => S.heap_Heap_Grow x.1 x.2 σ


noncomputable def S.heap_New (vars_ : Int) (σ : Heap) : Option (AVal × Heap) :=
  mkS σ 1 8 [(.int .i64 0)] 1 1 fun v1 σ2 =>
  mkS σ2 1 8 [(.int .i64 0)] 1 1 fun v3 σ4 =>
  scal v1 (
  scal v3 (
  newK σ4 3 [v1, v3, .nils] fun l5 σ6 =>
  (S.heap_Heap_Grow (.ptr l5 0) vars_ σ6).bind fun r7 =>
  some ((.ptr l5 0), r7.2)))
noncomputable def W.heap_New : Spec := .eff [.V] fun args σ => packs args [.I .i64] fun x => S.heap_New x σ


noncomputable def S.heap_Heap_best_1.r (self : Int → AVal → AVal → AVal → Heap → Option (Unit × Heap)) (k_ : Int) (p1 : AVal) (p2 : AVal) (p3 : AVal) (σ : Heap) : Option (Unit × Heap) :=
  (ld σ p1 (.V) fun v1 =>
  nilck v1 (
  fld v1 2 fun a2 =>
  ld σ a2 (.V) fun v3 =>
  lenV v3 fun n4 =>
  cond (decide (k_ < n4)) (
  ld σ p1 (.V) fun v5 =>
  nilck v5 (
  fld v5 0 fun a6 =>
  ld σ a6 (.V) fun v7 =>
  ld σ p1 (.V) fun v8 =>
  nilck v8 (
  fld v8 2 fun a9 =>
  ld σ a9 (.V) fun v10 =>
  ixA σ v10 1 k_ fun a11 =>
  ld σ a11 (.I .i64) fun n12 =>
  ixA σ v7 1 n12 fun a13 =>
  ld σ a13 (.I .i64) fun n14 =>
  ld σ p1 (.V) fun v15 =>
  nilck v15 (
  fld v15 0 fun a16 =>
  ld σ a16 (.V) fun v17 =>
  ld σ p1 (.V) fun v18 =>
  nilck v18 (
  fld v18 2 fun a19 =>
  ld σ a19 (.V) fun v20 =>
  ixA σ v20 1 0 fun a21 =>
  ld σ a21 (.I .i64) fun n22 =>
  ixA σ v17 1 n22 fun a23 =>
  ld σ a23 (.I .i64) fun n24 =>
  some (n14 == n24))))))
  (some false))).bind fun r25 =>
  cond r25 (
  ld σ p2 (.V) fun v26 =>
  ld σ p1 (.V) fun v27 =>
  nilck v27 (
  fld v27 2 fun a28 =>
  ld σ a28 (.V) fun v29 =>
  ixA σ v29 1 k_ fun a30 =>
  ld σ a30 (.I .i64) fun n31 =>
  newK σ 1 [(.int .i64 n31)] fun l32 σ33 =>
  appS σ33 1 8 v26 (.sl l32 0 1 none) fun v34 σ35 =>
  scal v34 (
  stC σ35 p2 [v34] fun σ36 =>
  ld σ36 p3 (.V) fun v37 =>
  callV (tab 33 (.eff [] fun args σ => packs args [.I .i64, .V, .V, .V] fun x => self x.1 x.2.1 x.2.2.1 x.2.2.2 σ) noSpec) v37 [(.int .i64 (IntKind.i64.wrap ((IntKind.i64.wrap (2 * k_)) + 1)))] σ36 fun r38 σ39 =>
  ld σ39 p3 (.V) fun v40 =>
  callV (tab 33 (.eff [] fun args σ => packs args [.I .i64, .V, .V, .V] fun x => self x.1 x.2.1 x.2.2.1 x.2.2.2 σ) noSpec) v40 [(.int .i64 (IntKind.i64.wrap ((IntKind.i64.wrap (2 * k_)) + 2)))] σ39 fun r41 σ42 =>
  some ((), σ42))))
  (some ((), σ))
noncomputable def S.heap_Heap_best_1.n : Nat → Int → AVal → AVal → AVal → Heap → Option (Unit × Heap)
    | 0 => fun _ _ _ _ _ => none
    | n + 1 => S.heap_Heap_best_1.r (S.heap_Heap_best_1.n n)
noncomputable def S.heap_Heap_best_1 (k_ : Int) (p1 : AVal) (p2 : AVal) (p3 : AVal) (σ : Heap) : Option (Unit × Heap) := lim fun n => S.heap_Heap_best_1.n n k_ p1 p2 p3 σ
noncomputable def W.heap_Heap_best_1 : Spec := .eff [] fun args σ => packs args [.I .i64, .V, .V, .V] fun x => S.heap_Heap_best_1 x.1 x.2.1 x.2.2.1 x.2.2.2 σ


noncomputable def S.slices_Sort_int_int (p0 : AVal) (σ : Heap) := sortS p0 σ
noncomputable def W.slices_Sort_int_int : Spec := .eff [] fun args σ => packs args [.V] fun x => sortS x σ


noncomputable def S.heap_Heap_best (h_ : AVal) (σ : Heap) : Option (AVal × Heap) :=
  scal h_ (
  newK σ 1 [h_] fun l1 σ2 =>
  newK σ2 1 [.nils] fun l3 σ4 =>
  newK σ4 1 [.nilf] fun l5 σ6 =>
  stC σ6 (.ptr l5 0) [(.fn (.func 33) [] [(.ptr l1 0), (.ptr l3 0), (.ptr l5 0)])] fun σ7 =>
  ld σ7 (.ptr l5 0) (.V) fun v8 =>
  callV (tab 34 W.slices_Sort_int_int (tab 33 W.heap_Heap_best_1 noSpec)) v8 [(.int .i64 0)] σ7 fun r9 σ10 =>
  ld σ10 (.ptr l3 0) (.V) fun v11 =>
  (S.slices_Sort_int_int v11 σ10).bind fun r12 =>
  ld r12.2 (.ptr l3 0) (.V) fun v13 =>
  some (v13, r12.2))
noncomputable def W.heap_Heap_best : Spec := .eff [.V] fun args σ => packs args [.V] fun x => S.heap_Heap_best x σ


noncomputable def S.heap_Heap_down.b0 (p5 : AVal) (p6 : Int) : Int → Heap → Option ((Int ⊕ Int) × Heap) := fun x7 σ8 =>
  (nilck p5 (
  fld p5 2 fun a9 =>
  ld σ8 a9 (.V) fun v10 =>
  lenV v10 fun n11 =>
  cond (decide ((IntKind.i64.wrap ((IntKind.i64.wrap ((IntKind.i64.wrap (2 * x7)) + 1)) + 1)) < n11)) (
  nilck p5 (
  fld p5 2 fun a12 =>
  ld σ8 a12 (.V) fun v13 =>
  ixA σ8 v13 1 (IntKind.i64.wrap ((IntKind.i64.wrap ((IntKind.i64.wrap (2 * x7)) + 1)) + 1)) fun a14 =>
  ld σ8 a14 (.I .i64) fun n15 =>
  nilck p5 (
  fld p5 2 fun a16 =>
  ld σ8 a16 (.V) fun v17 =>
  ixA σ8 v17 1 (IntKind.i64.wrap ((IntKind.i64.wrap (2 * x7)) + 1)) fun a18 =>
  ld σ8 a18 (.I .i64) fun n19 =>
  (S.heap_Heap_ahead p5 n15 n19 σ8).bind fun r20 =>
  some r20)))
  (some false))).bind fun r21 =>
  (cond r21 (
  some (IntKind.i64.wrap ((IntKind.i64.wrap ((IntKind.i64.wrap (2 * x7)) + 1)) + 1)))
  (some (IntKind.i64.wrap ((IntKind.i64.wrap (2 * x7)) + 1)))).bind fun r22 =>
  (nilck p5 (
  fld p5 2 fun a23 =>
  ld σ8 a23 (.V) fun v24 =>
  lenV v24 fun n25 =>
  cond (decide (r22 ≥ n25)) (
  some true)
  (nilck p5 (
  fld p5 2 fun a26 =>
  ld σ8 a26 (.V) fun v27 =>
  ixA σ8 v27 1 r22 fun a28 =>
  ld σ8 a28 (.I .i64) fun n29 =>
  (S.heap_Heap_ahead p5 n29 p6 σ8).bind fun r30 =>
  some (!r30))))).bind fun r31 =>
  cond r31 (
  some (.inr x7, σ8))
  (nilck p5 (
  fld p5 2 fun a32 =>
  ld σ8 a32 (.V) fun v33 =>
  ixA σ8 v33 1 r22 fun a34 =>
  ld σ8 a34 (.I .i64) fun n35 =>
  (S.heap_Heap_put p5 x7 n35 σ8).bind fun r36 =>
  some (.inl r22, r36.2)))
noncomputable def S.heap_Heap_down (p0 : AVal) (p1 : Int) (σ : Heap) : Option (Unit × Heap) :=
  nilck p0 (
  fld p0 2 fun a1 =>
  ld σ a1 (.V) fun v2 =>
  ixA σ v2 1 p1 fun a3 =>
  ld σ a3 (.I .i64) fun n4 =>
  (loopW (S.heap_Heap_down.b0 p0 n4) p1 σ).bind fun r37 =>
  (S.heap_Heap_put p0 r37.1 n4 r37.2).bind fun r38 =>
  some ((), r38.2))
noncomputable def W.heap_Heap_down : Spec := .eff [] fun args σ => packs args [.V, .I .i64] fun x => S.heap_Heap_down x.1 x.2 σ


noncomputable def S.heap_Heap_take (h_ : AVal) (k_ : Int) (σ : Heap) : Option (Int × Heap) :=
  nilck h_ (
  fld h_ 2 fun a1 =>
  ld σ a1 (.V) fun v2 =>
  ixA σ v2 1 k_ fun a3 =>
  ld σ a3 (.I .i64) fun n4 =>
  nilck h_ (
  fld h_ 2 fun a5 =>
  ld σ a5 (.V) fun v6 =>
  lenV v6 fun n7 =>
  nilck h_ (
  fld h_ 2 fun a8 =>
  ld σ a8 (.V) fun v9 =>
  ixA σ v9 1 (IntKind.i64.wrap (n7 - 1)) fun a10 =>
  ld σ a10 (.I .i64) fun n11 =>
  nilck h_ (
  fld h_ 2 fun a12 =>
  ld σ a12 (.V) fun v13 =>
  slS σ 1 v13 0 (some (IntKind.i64.wrap (n7 - 1))) none fun v14 =>
  nilck h_ (
  fld h_ 2 fun a15 =>
  scal v14 (
  stC σ a15 [v14] fun σ16 =>
  nilck h_ (
  fld h_ 1 fun a17 =>
  ld σ16 a17 (.V) fun v18 =>
  ixA σ16 v18 1 n4 fun a19 =>
  stC σ16 a19 [(.int .i64 0)] fun σ20 =>
  (cond (decide (k_ < (IntKind.i64.wrap (n7 - 1)))) (
  (S.heap_Heap_put h_ k_ n11 σ20).bind fun r21 =>
  (S.heap_Heap_up h_ k_ r21.2).bind fun r22 =>
  nilck h_ (
  fld h_ 1 fun a23 =>
  ld r22.2 a23 (.V) fun v24 =>
  ixA r22.2 v24 1 n11 fun a25 =>
  ld r22.2 a25 (.I .i64) fun n26 =>
  (S.heap_Heap_down h_ (IntKind.i64.wrap (n26 - 1)) r22.2).bind fun r27 =>
  some ((), r27.2)))
  (some ((), σ20))).bind fun r28 =>
  some (n4, r28.2))))))))
noncomputable def W.heap_Heap_take : Spec := .eff [.I .i64] fun args σ => packs args [.V, .I .i64] fun x => S.heap_Heap_take x.1 x.2 σ


noncomputable def S.heap_Heap_Pop (h_ : AVal) (tie_ : Int) (σ : Heap) : Option ((Int × Bool) × Heap) :=
  nilck h_ (
  fld h_ 2 fun a1 =>
  ld σ a1 (.V) fun v2 =>
  lenV v2 fun n3 =>
  cond (n3 == 0) (
  some ((0, false), σ))
  (nilck h_ (
  fld h_ 2 fun a4 =>
  ld σ a4 (.V) fun v5 =>
  ixA σ v5 1 0 fun a6 =>
  ld σ a6 (.I .i64) fun n7 =>
  (cond (tie_ != 0) (
  (S.heap_Heap_best h_ σ).bind fun r8 =>
  lenV r8.1 fun n9 =>
  if n9 = 0 then none else
  lenV r8.1 fun n10 =>
  lenV r8.1 fun n11 =>
  if n11 = 0 then none else
  ixA r8.2 r8.1 1 (Int.tmod (IntKind.i64.wrap ((Int.tmod tie_ n9) + n10)) n11) fun a12 =>
  ld r8.2 a12 (.I .i64) fun n13 =>
  some (n13, r8.2))
  (some (n7, σ))).bind fun r14 =>
  nilck h_ (
  fld h_ 1 fun a15 =>
  ld r14.2 a15 (.V) fun v16 =>
  ixA r14.2 v16 1 r14.1 fun a17 =>
  ld r14.2 a17 (.I .i64) fun n18 =>
  (S.heap_Heap_take h_ (IntKind.i64.wrap (n18 - 1)) r14.2).bind fun r19 =>
  some ((r19.1, true), r19.2)))))
noncomputable def W.heap_Heap_Pop : Spec := .eff [.I .i64, .B] fun args σ => packs args [.V, .I .i64] fun x => S.heap_Heap_Pop x.1 x.2 σ


noncomputable def S.skolemlaw14_first (σ : Heap) : Option (Bool × Heap) :=
  (S.heap_New 1 σ).bind fun r1 =>
  eqP r1.1 .nilp fun b2 =>
  cond b2 (
  some (false, r1.2))
  ((S.heap_Heap_Pop r1.1 0 r1.2).bind fun r3 =>
  (cond r3.1.2 (
  some (r3.1.1 == 1))
  (some false)).bind fun r4 =>
  some (r4, r3.2))
noncomputable def W.skolemlaw14_first : Spec := .eff [.B] fun args σ => packs args [] fun x => S.skolemlaw14_first σ


noncomputable def S.skolemworld_Number (n_ : Int) (below_ : Int) (σ : Heap) : Option Int :=
  if below_ = 0 then none else
  (cond (decide ((Int.tmod n_ below_) < 0)) (
  some (IntKind.i64.wrap ((Int.tmod n_ below_) + below_)))
  (some (Int.tmod n_ below_))).bind fun r1 =>
  some r1
noncomputable def W.skolemworld_Number : Spec := .pur [.I .i64] fun args σ => packs args [.I .i64, .I .i64] fun x => S.skolemworld_Number x.1 x.2 σ


noncomputable def S.heap_Heap_Bump (h_ : AVal) (v_ : Int) (p2 : Int) (σ : Heap) : Option (Int × Heap) :=
  (S.heap_Heap_is h_ v_ σ).bind fun r1 =>
  cond (!r1) (
  some (0, σ))
  (nilck h_ (
  fld h_ 0 fun a2 =>
  ld σ a2 (.V) fun v3 =>
  nilck h_ (
  fld h_ 0 fun a4 =>
  ld σ a4 (.V) fun v5 =>
  ixA σ v5 1 v_ fun a6 =>
  ld σ a6 (.I .i64) fun n7 =>
  ixA σ v3 1 v_ fun a8 =>
  stC σ a8 [(.int .i64 (if 1099511627776 < (if 0 > (IntKind.i64.wrap (n7 + (if 1099511627776 < (if (-1099511627776) > p2 then (-1099511627776) else p2) then 1099511627776 else (if (-1099511627776) > p2 then (-1099511627776) else p2)))) then 0 else (IntKind.i64.wrap (n7 + (if 1099511627776 < (if (-1099511627776) > p2 then (-1099511627776) else p2) then 1099511627776 else (if (-1099511627776) > p2 then (-1099511627776) else p2))))) then 1099511627776 else (if 0 > (IntKind.i64.wrap (n7 + (if 1099511627776 < (if (-1099511627776) > p2 then (-1099511627776) else p2) then 1099511627776 else (if (-1099511627776) > p2 then (-1099511627776) else p2)))) then 0 else (IntKind.i64.wrap (n7 + (if 1099511627776 < (if (-1099511627776) > p2 then (-1099511627776) else p2) then 1099511627776 else (if (-1099511627776) > p2 then (-1099511627776) else p2)))))))] fun σ9 =>
  nilck h_ (
  fld h_ 1 fun a10 =>
  ld σ9 a10 (.V) fun v11 =>
  ixA σ9 v11 1 v_ fun a12 =>
  ld σ9 a12 (.I .i64) fun n13 =>
  (cond (decide ((IntKind.i64.wrap (n13 - 1)) ≥ 0)) (
  (S.heap_Heap_up h_ (IntKind.i64.wrap (n13 - 1)) σ9).bind fun r14 =>
  nilck h_ (
  fld h_ 1 fun a15 =>
  ld r14.2 a15 (.V) fun v16 =>
  ixA r14.2 v16 1 v_ fun a17 =>
  ld r14.2 a17 (.I .i64) fun n18 =>
  (S.heap_Heap_down h_ (IntKind.i64.wrap (n18 - 1)) r14.2).bind fun r19 =>
  some ((), r19.2)))
  (some ((), σ9))).bind fun r20 =>
  nilck h_ (
  fld h_ 0 fun a21 =>
  ld r20.2 a21 (.V) fun v22 =>
  ixA r20.2 v22 1 v_ fun a23 =>
  ld r20.2 a23 (.I .i64) fun n24 =>
  some (n24, r20.2))))))
noncomputable def W.heap_Heap_Bump : Spec := .eff [.I .i64] fun args σ => packs args [.V, .I .i64, .I .i64] fun x => S.heap_Heap_Bump x.1 x.2.1 x.2.2 σ


noncomputable def S.heap_Heap_Has (h_ : AVal) (v_ : Int) (σ : Heap) : Option Bool :=
  ((S.heap_Heap_is h_ v_ σ).bind fun r1 =>
  cond r1 (
  nilck h_ (
  fld h_ 1 fun a2 =>
  ld σ a2 (.V) fun v3 =>
  ixA σ v3 1 v_ fun a4 =>
  ld σ a4 (.I .i64) fun n5 =>
  some (decide (n5 > 0))))
  (some false)).bind fun r6 =>
  some r6
noncomputable def W.heap_Heap_Has : Spec := .pur [.B] fun args σ => packs args [.V, .I .i64] fun x => S.heap_Heap_Has x.1 x.2 σ


noncomputable def S.heap_Heap_Score (h_ : AVal) (v_ : Int) (σ : Heap) : Option Int :=
  (S.heap_Heap_is h_ v_ σ).bind fun r1 =>
  cond (!r1) (
  some 0)
  (nilck h_ (
  fld h_ 0 fun a2 =>
  ld σ a2 (.V) fun v3 =>
  ixA σ v3 1 v_ fun a4 =>
  ld σ a4 (.I .i64) fun n5 =>
  some n5))
noncomputable def W.heap_Heap_Score : Spec := .pur [.I .i64] fun args σ => packs args [.V, .I .i64] fun x => S.heap_Heap_Score x.1 x.2 σ


noncomputable def S.heap_Heap_Len (h_ : AVal) (σ : Heap) : Option Int :=
  nilck h_ (
  fld h_ 2 fun a1 =>
  ld σ a1 (.V) fun v2 =>
  lenV v2 fun n3 =>
  some n3)
noncomputable def W.heap_Heap_Len : Spec := .pur [.I .i64] fun args σ => packs args [.V] fun x => S.heap_Heap_Len x σ


noncomputable def S.skolemlaw14_HeapOrder.b0 (p9 : AVal) (p10 : AVal) (p11 : Bool) (p12 : AVal) : Int → Heap → Option ((Int ⊕ (Unit ⊕ Bool)) × Heap) := fun x13 σ14 =>
  lenV p9 fun n15 =>
  cond (decide (x13 < n15)) (
  ixA σ14 p9 1 x13 fun a16 =>
  ld σ14 a16 (.I .i64) fun n17 =>
  (S.skolemworld_Number n17 9 σ14).bind fun r18 =>
  (S.heap_Heap_Bump p12 (IntKind.i64.wrap (x13 + 1)) r18 σ14).bind fun r19 =>
  ixA r19.2 p9 1 x13 fun a20 =>
  ixA σ14 p9 1 x13 fun a21 =>
  chk ((a21 : AVal) = a20) (
  ld r19.2 a20 (.I .i64) fun n22 =>
  ld σ14 a20 (.I .i64) fun n23 =>
  chk (((.int .i64 n23) : AVal) = (.int .i64 n22)) (
  (S.skolemworld_Number n22 9 r19.2).bind fun r24 =>
  cond (r19.1 != r24) (
  some (.inr (.inr false), r19.2))
  (some (.inl (IntKind.i64.wrap (x13 + 1)), r19.2)))))
  (some (.inr (.inl ()), σ14))
noncomputable def S.skolemlaw14_HeapOrder.b1 (p39 : AVal) (p40 : AVal) (p41 : Bool) (p42 : AVal) (p43 : AVal) (p44 : Int) (p45 : Int) : (AVal × Int × Int) → Heap → Option (((AVal × Int × Int) ⊕ AVal) × Heap) := fun x46 σ47 =>
  lenV p39 fun n48 =>
  cond (decide (x46.2.2 ≤ n48)) (
  (ixA σ47 p39 1 (IntKind.i64.wrap (x46.2.2 - 1)) fun a49 =>
  ld σ47 a49 (.I .i64) fun n50 =>
  (S.skolemworld_Number n50 9 σ47).bind fun r51 =>
  (ixA σ47 p43 1 x46.2.2 fun a52 =>
  ld σ47 a52 (.B) fun b53 =>
  cond b53 (
  some true)
  (some (decide (r51 < x46.2.1)))).bind fun r54 =>
  cond r54 (
  some ((x46.1, x46.2.1), σ47))
  ((cond (decide (r51 > x46.2.1)) (
  some .nils)
  (some x46.1)).bind fun r55 =>
  newK σ47 1 [(.int .i64 x46.2.2)] fun l56 σ57 =>
  appS σ57 1 8 r55 (.sl l56 0 1 none) fun v58 σ59 =>
  some ((v58, r51), σ59))).bind fun r60 =>
  some (.inl (r60.1.1, r60.1.2, (IntKind.i64.wrap (x46.2.2 + 1))), r60.2))
  (some (.inr x46.1, σ47))
noncomputable def S.skolemlaw14_HeapOrder.b2 (p31 : AVal) (p32 : AVal) (p33 : Bool) (p34 : AVal) (p35 : AVal) : (Int × Int) → Heap → Option (((Int × Int) ⊕ (Unit ⊕ Bool)) × Heap) := fun x36 σ37 =>
  lenV p31 fun n38 =>
  cond (decide (x36.2 < n38)) (
  (loopW (S.skolemlaw14_HeapOrder.b1 p31 p32 p33 p34 p35 x36.1 x36.2) (.nils, (-1), 1) σ37).bind fun r61 =>
  ixA r61.2 p32 1 x36.2 fun a62 =>
  ld r61.2 a62 (.I .i64) fun n63 =>
  (S.heap_Heap_Pop p34 (IntKind.i64.wrap (BitVec.toNat (BitVec.ofInt IntKind.i64.bits n63 &&& BitVec.ofInt IntKind.i64.bits 63))) r61.2).bind fun r64 =>
  (cond (!r64.1.2) (
  some true)
  (ixA r64.2 p35 1 r64.1.1 fun a65 =>
  ld r64.2 a65 (.B) fun b66 =>
  cond b66 (
  some true)
  ((S.heap_Heap_Has p34 r64.1.1 r64.2).bind fun r67 =>
  cond r67 (
  some true)
  (ixA r64.2 p32 1 x36.2 fun a68 =>
  ld r64.2 a68 (.I .i64) fun n69 =>
  lenV r61.1 fun n70 =>
  if n70 = 0 then none else
  ixA r64.2 r61.1 1 (Int.tmod (IntKind.i64.wrap (BitVec.toNat (BitVec.ofInt IntKind.i64.bits n69 &&& BitVec.ofInt IntKind.i64.bits 63))) n70) fun a71 =>
  ld r64.2 a71 (.I .i64) fun n72 =>
  cond (r64.1.1 != n72) (
  some true)
  ((S.heap_Heap_Score p34 r64.1.1 r64.2).bind fun r73 =>
  some (decide (r73 > x36.1))))))).bind fun r74 =>
  cond r74 (
  some (.inr (.inr false), r64.2))
  ((S.heap_Heap_Score p34 r64.1.1 r64.2).bind fun r75 =>
  ixA r64.2 p35 1 r64.1.1 fun a76 =>
  stC r64.2 a76 [(.bool true)] fun σ77 =>
  some (.inl (r75, (IntKind.i64.wrap (x36.2 + 1))), σ77)))
  (some (.inr (.inl ()), σ37))
noncomputable def S.skolemlaw14_HeapOrder (p0 : AVal) (p1 : AVal) (σ : Heap) : Option (Bool × Heap) :=
  (S.skolemlaw14_first σ).bind fun r1 =>
  cond (!r1.1) (
  some (false, r1.2))
  ((lenV p0 fun n2 =>
  cond (decide (n2 > 40)) (
  some true)
  (lenV p1 fun n3 =>
  lenV p0 fun n4 =>
  some (decide (n3 < n4)))).bind fun r5 =>
  cond r5 (
  some (r1.1, r1.2))
  (lenV p0 fun n6 =>
  (S.heap_New n6 r1.2).bind fun r7 =>
  eqP r7.1 .nilp fun b8 =>
  cond b8 (
  some (false, r7.2))
  ((loopW (S.skolemlaw14_HeapOrder.b0 p0 p1 r1.1 r7.1) 0 r7.2).bind fun r25 =>
  (match r25.1 with
 | .inl y26 => lenV p0 fun n28 =>
  mkS r25.2 1 1 [(.bool false)] (IntKind.i64.wrap (n28 + 1)) (IntKind.i64.wrap (n28 + 1)) fun v29 σ30 =>
  (loopW (S.skolemlaw14_HeapOrder.b2 p0 p1 r1.1 r7.1 v29) (9, 0) σ30).bind fun r78 =>
  (match r78.1 with
 | .inl y79 => (S.heap_Heap_Pop r7.1 0 r78.2).bind fun r81 =>
  (cond r1.1 (
  cond (!r81.1.2) (
  (S.heap_Heap_Len r7.1 r81.2).bind fun r82 =>
  some (r82 == 0))
  (some false))
  (some false)).bind fun r83 =>
  some (r83, r81.2)
 | .inr y80 => some (y80, r78.2))
 | .inr y27 => some (y27, r25.2)))))
noncomputable def W.skolemlaw14_HeapOrder : Spec := .eff [.B] fun args σ => packs args [.V, .V] fun x => S.skolemlaw14_HeapOrder x.1 x.2 σ


noncomputable def S.skolemlaw14_HeapPushes (p0 : Int) (p1 : Int) (p2 : Int) (σ : Heap) : Option (Bool × Heap) :=
  (S.skolemlaw14_first σ).bind fun r1 =>
  cond (!r1.1) (
  some (false, r1.2))
  ((S.skolemworld_Number p0 20 r1.2).bind fun r2 =>
  (S.skolemworld_Number p1 100 r1.2).bind fun r3 =>
  (S.skolemworld_Number p2 (IntKind.i64.wrap (r2 + 1)) r1.2).bind fun r4 =>
  (S.heap_New (IntKind.i64.wrap (r2 + 1)) r1.2).bind fun r5 =>
  (eqP r5.1 .nilp fun b6 =>
  cond b6 (
  some (true, r5.2))
  ((S.heap_Heap_Bump r5.1 (IntKind.i64.wrap (r4 + 1)) (IntKind.i64.wrap (r3 + 1)) r5.2).bind fun r7 =>
  cond (r7.1 != (IntKind.i64.wrap (r3 + 1))) (
  some (true, r7.2))
  ((S.heap_Heap_Push r5.1 (IntKind.i64.wrap (r4 + 1)) r7.2).bind fun r8 =>
  some (r8.1, r8.2)))).bind fun r9 =>
  cond r9.1 (
  some (false, r9.2))
  ((S.heap_Heap_Pop r5.1 0 r9.2).bind fun r10 =>
  (cond (!r10.1.2) (
  some (true, r10.2))
  (cond (r10.1.1 != (IntKind.i64.wrap (r4 + 1))) (
  some (true, r10.2))
  ((S.heap_Heap_Has r5.1 (IntKind.i64.wrap (r4 + 1)) r10.2).bind fun r11 =>
  cond r11 (
  some (true, r10.2))
  ((S.heap_Heap_Len r5.1 r10.2).bind fun r12 =>
  cond (r12 != (IntKind.i64.wrap ((IntKind.i64.wrap (r2 + 1)) - 1))) (
  some (true, r10.2))
  ((S.heap_Heap_Bump r5.1 (IntKind.i64.wrap (r4 + 1)) 5 r10.2).bind fun r13 =>
  some ((r13.1 != (IntKind.i64.wrap ((IntKind.i64.wrap (r3 + 1)) + 5))), r13.2)))))).bind fun r14 =>
  cond r14.1 (
  some (false, r14.2))
  ((S.heap_Heap_Push r5.1 (IntKind.i64.wrap (r4 + 1)) r14.2).bind fun r15 =>
  (S.heap_Heap_Push r5.1 (IntKind.i64.wrap (r4 + 1)) r15.2).bind fun r16 =>
  (S.heap_Heap_Grow r5.1 (IntKind.i64.wrap ((IntKind.i64.wrap (r2 + 1)) + 3)) r16.2).bind fun r17 =>
  (S.heap_Heap_Pop r5.1 7 r17.2).bind fun r18 =>
  (cond r1.1 (
  cond r15.1 (
  cond (!r16.1) (
  cond (r18.1.1 == (IntKind.i64.wrap (r4 + 1))) (
  (S.heap_Heap_Len r5.1 r18.2).bind fun r19 =>
  cond (r19 == (IntKind.i64.wrap ((IntKind.i64.wrap (r2 + 1)) + 2))) (
  (S.heap_Heap_Has r5.1 (IntKind.i64.wrap ((IntKind.i64.wrap (r2 + 1)) + 3)) r18.2).bind fun r20 =>
  cond r20 (
  (S.heap_Heap_Score r5.1 (IntKind.i64.wrap ((IntKind.i64.wrap (r2 + 1)) + 3)) r18.2).bind fun r21 =>
  cond (r21 == 0) (
  (S.heap_Heap_Push r5.1 (IntKind.i64.wrap ((IntKind.i64.wrap (r2 + 1)) + 4)) r18.2).bind fun r22 =>
  cond (!r22.1) (
  (S.heap_Heap_Score r5.1 0 r22.2).bind fun r23 =>
  some ((r23 == 0), r22.2))
  (some (false, r22.2)))
  (some (false, r18.2)))
  (some (false, r18.2)))
  (some (false, r18.2)))
  (some (false, r18.2)))
  (some (false, r18.2)))
  (some (false, r18.2)))
  (some (false, r18.2))).bind fun r24 =>
  some (r24.1, r24.2))))
noncomputable def W.skolemlaw14_HeapPushes : Spec := .eff [.B] fun args σ => packs args [.I .i64, .I .i64, .I .i64] fun x => S.skolemlaw14_HeapPushes x.1 x.2.1 x.2.2 σ


noncomputable def S.skolemref8_Heap_Grow.b0 (p1 : AVal) (p2 : Int) : Unit → Heap → Option ((Unit ⊕ Unit) × Heap) := fun x3 σ4 =>
  nilck p1 (
  fld p1 0 fun a5 =>
  ld σ4 a5 (.V) fun v6 =>
  lenV v6 fun n7 =>
  cond (decide (n7 ≤ p2)) (
  nilck p1 (
  fld p1 0 fun a8 =>
  ld σ4 a8 (.V) fun v9 =>
  newK σ4 1 [(.int .i64 0)] fun l10 σ11 =>
  appS σ11 1 8 v9 (.sl l10 0 1 none) fun v12 σ13 =>
  nilck p1 (
  fld p1 0 fun a14 =>
  scal v12 (
  stC σ13 a14 [v12] fun σ15 =>
  nilck p1 (
  fld p1 1 fun a16 =>
  ld σ15 a16 (.V) fun v17 =>
  newK σ15 1 [(.bool true)] fun l18 σ19 =>
  appS σ19 1 1 v17 (.sl l18 0 1 none) fun v20 σ21 =>
  nilck p1 (
  fld p1 1 fun a22 =>
  scal v20 (
  stC σ21 a22 [v20] fun σ23 =>
  some (.inl (), σ23))))))))
  (some (.inr (), σ4)))
noncomputable def S.skolemref8_Heap_Grow (h_ : AVal) (vars_ : Int) (σ : Heap) : Option (Unit × Heap) :=
  (loopW (S.skolemref8_Heap_Grow.b0 h_ (if 4000 < (if 0 > vars_ then 0 else vars_) then 4000 else (if 0 > vars_ then 0 else vars_))) () σ).bind fun r24 =>
  some ((), r24.2)
noncomputable def W.skolemref8_Heap_Grow : Spec := .eff [] fun args σ => packs args [.V, .I .i64] fun x => S.skolemref8_Heap_Grow x.1 x.2 σ


noncomputable def S.skolemref8_NewHeap (vars_ : Int) (σ : Heap) : Option (AVal × Heap) :=
  newK σ 1 [(.int .i64 0)] fun l1 σ2 =>
  newK σ2 1 [(.bool false)] fun l3 σ4 =>
  newK σ4 2 [(.sl l1 0 1 none), (.sl l3 0 1 none)] fun l5 σ6 =>
  (S.skolemref8_Heap_Grow (.ptr l5 0) vars_ σ6).bind fun r7 =>
  some ((.ptr l5 0), r7.2)
noncomputable def W.skolemref8_NewHeap : Spec := .eff [.V] fun args σ => packs args [.I .i64] fun x => S.skolemref8_NewHeap x σ


noncomputable def S.skolemref8_Heap_is (h_ : AVal) (v_ : Int) (σ : Heap) : Option Bool :=
  (cond (decide (v_ > 0)) (
  nilck h_ (
  fld h_ 0 fun a1 =>
  ld σ a1 (.V) fun v2 =>
  lenV v2 fun n3 =>
  some (decide (v_ < n3))))
  (some false)).bind fun r4 =>
  some r4
noncomputable def W.skolemref8_Heap_is : Spec := .pur [.B] fun args σ => packs args [.V, .I .i64] fun x => S.skolemref8_Heap_is x.1 x.2 σ


noncomputable def S.skolemref8_Heap_Push (h_ : AVal) (v_ : Int) (σ : Heap) : Option (Bool × Heap) :=
  ((S.skolemref8_Heap_is h_ v_ σ).bind fun r1 =>
  cond (!r1) (
  some true)
  (nilck h_ (
  fld h_ 1 fun a2 =>
  ld σ a2 (.V) fun v3 =>
  ixA σ v3 1 v_ fun a4 =>
  ld σ a4 (.B) fun b5 =>
  some b5))).bind fun r6 =>
  cond r6 (
  some (false, σ))
  (nilck h_ (
  fld h_ 1 fun a7 =>
  ld σ a7 (.V) fun v8 =>
  ixA σ v8 1 v_ fun a9 =>
  stC σ a9 [(.bool true)] fun σ10 =>
  some (true, σ10)))
noncomputable def W.skolemref8_Heap_Push : Spec := .eff [.B] fun args σ => packs args [.V, .I .i64] fun x => S.skolemref8_Heap_Push x.1 x.2 σ


noncomputable def S.skolemref8_Heap_Pop.b0 (p1 : AVal) (p2 : Int) : (Int × AVal × Int) → Heap → Option (((Int × AVal × Int) ⊕ AVal) × Heap) := fun x3 σ4 =>
  nilck p1 (
  fld p1 0 fun a5 =>
  ld σ4 a5 (.V) fun v6 =>
  lenV v6 fun n7 =>
  cond (decide (x3.2.2 < n7)) (
  ((nilck p1 (
  fld p1 1 fun a8 =>
  ld σ4 a8 (.V) fun v9 =>
  ixA σ4 v9 1 x3.2.2 fun a10 =>
  ld σ4 a10 (.B) fun b11 =>
  cond (!b11) (
  some true)
  (nilck p1 (
  fld p1 0 fun a12 =>
  ld σ4 a12 (.V) fun v13 =>
  ixA σ4 v13 1 x3.2.2 fun a14 =>
  ld σ4 a14 (.I .i64) fun n15 =>
  some (decide (n15 < x3.1)))))).bind fun r16 =>
  cond r16 (
  some ((x3.1, x3.2.1), σ4))
  (nilck p1 (
  fld p1 0 fun a17 =>
  ld σ4 a17 (.V) fun v18 =>
  ixA σ4 v18 1 x3.2.2 fun a19 =>
  ld σ4 a19 (.I .i64) fun n20 =>
  (cond (decide (n20 > x3.1)) (
  nilck p1 (
  fld p1 0 fun a21 =>
  ld σ4 a21 (.V) fun v22 =>
  ixA σ4 v22 1 x3.2.2 fun a23 =>
  ld σ4 a23 (.I .i64) fun n24 =>
  some (n24, .nils)))
  (some (x3.1, x3.2.1))).bind fun r25 =>
  newK σ4 1 [(.int .i64 x3.2.2)] fun l26 σ27 =>
  appS σ27 1 8 r25.2 (.sl l26 0 1 none) fun v28 σ29 =>
  some ((r25.1, v28), σ29)))).bind fun r30 =>
  some (.inl (r30.1.1, r30.1.2, (IntKind.i64.wrap (x3.2.2 + 1))), r30.2))
  (some (.inr x3.2.1, σ4)))
noncomputable def S.skolemref8_Heap_Pop (p0 : AVal) (p1 : Int) (σ : Heap) : Option ((Int × Bool) × Heap) :=
  (loopW (S.skolemref8_Heap_Pop.b0 p0 p1) ((-1), .nils, 1) σ).bind fun r31 =>
  lenV r31.1 fun n32 =>
  cond (n32 == 0) (
  some ((0, false), r31.2))
  (lenV r31.1 fun n33 =>
  if n33 = 0 then none else
  lenV r31.1 fun n34 =>
  lenV r31.1 fun n35 =>
  if n35 = 0 then none else
  ixA r31.2 r31.1 1 (Int.tmod (IntKind.i64.wrap ((Int.tmod p1 n33) + n34)) n35) fun a36 =>
  ld r31.2 a36 (.I .i64) fun n37 =>
  nilck p0 (
  fld p0 1 fun a38 =>
  ld r31.2 a38 (.V) fun v39 =>
  ixA r31.2 v39 1 n37 fun a40 =>
  stC r31.2 a40 [(.bool false)] fun σ41 =>
  some ((n37, true), σ41)))
noncomputable def W.skolemref8_Heap_Pop : Spec := .eff [.I .i64, .B] fun args σ => packs args [.V, .I .i64] fun x => S.skolemref8_Heap_Pop x.1 x.2 σ


noncomputable def S.skolemref8_Heap_Bump (h_ : AVal) (v_ : Int) (p2 : Int) (σ : Heap) : Option (Int × Heap) :=
  (S.skolemref8_Heap_is h_ v_ σ).bind fun r1 =>
  cond (!r1) (
  some (0, σ))
  (nilck h_ (
  fld h_ 0 fun a2 =>
  ld σ a2 (.V) fun v3 =>
  ixA σ v3 1 v_ fun a4 =>
  ld σ a4 (.I .i64) fun n5 =>
  (cond (decide (p2 > (IntKind.i64.wrap (1099511627776 - n5)))) (
  nilck h_ (
  fld h_ 0 fun a6 =>
  ld σ a6 (.V) fun v7 =>
  ixA σ v7 1 v_ fun a8 =>
  stC σ a8 [(.int .i64 1099511627776)] fun σ9 =>
  some ((), σ9)))
  (nilck h_ (
  fld h_ 0 fun a10 =>
  ld σ a10 (.V) fun v11 =>
  nilck h_ (
  fld h_ 0 fun a12 =>
  ld σ a12 (.V) fun v13 =>
  ixA σ v13 1 v_ fun a14 =>
  ld σ a14 (.I .i64) fun n15 =>
  ixA σ v11 1 v_ fun a16 =>
  stC σ a16 [(.int .i64 (if 0 > (IntKind.i64.wrap (n15 + p2)) then 0 else (IntKind.i64.wrap (n15 + p2))))] fun σ17 =>
  some ((), σ17))))).bind fun r18 =>
  nilck h_ (
  fld h_ 0 fun a19 =>
  ld r18.2 a19 (.V) fun v20 =>
  ixA r18.2 v20 1 v_ fun a21 =>
  ld r18.2 a21 (.I .i64) fun n22 =>
  some (n22, r18.2))))
noncomputable def W.skolemref8_Heap_Bump : Spec := .eff [.I .i64] fun args σ => packs args [.V, .I .i64, .I .i64] fun x => S.skolemref8_Heap_Bump x.1 x.2.1 x.2.2 σ


noncomputable def S.heap_Heap_Halve.b0 (p4 : AVal) (p5 : Int) : Int → Heap → Option ((Int ⊕ Unit) × Heap) := fun x6 σ7 =>
  cond (decide (x6 < p5)) (
  nilck p4 (
  fld p4 0 fun a8 =>
  ld σ7 a8 (.V) fun v9 =>
  ixA σ7 v9 1 x6 fun a10 =>
  ld σ7 a10 (.I .i64) fun n11 =>
  ixA σ7 v9 1 x6 fun a12 =>
  stC σ7 a12 [(.int .i64 (IntKind.i64.wrap (Int.tdiv n11 2)))] fun σ13 =>
  some (.inl (IntKind.i64.wrap (x6 + 1)), σ13)))
  (some (.inr (), σ7))
noncomputable def S.heap_Heap_Halve.b1 (p18 : AVal) : Int → Heap → Option ((Int ⊕ Unit) × Heap) := fun x19 σ20 =>
  cond (decide (x19 ≥ 0)) (
  (S.heap_Heap_down p18 x19 σ20).bind fun r21 =>
  some (.inl (IntKind.i64.wrap (x19 - 1)), r21.2))
  (some (.inr (), σ20))
noncomputable def S.heap_Heap_Halve (h_ : AVal) (σ : Heap) : Option (Unit × Heap) :=
  nilck h_ (
  fld h_ 0 fun a1 =>
  ld σ a1 (.V) fun v2 =>
  lenV v2 fun n3 =>
  (loopW (S.heap_Heap_Halve.b0 h_ n3) 0 σ).bind fun r14 =>
  nilck h_ (
  fld h_ 2 fun a15 =>
  ld r14.2 a15 (.V) fun v16 =>
  lenV v16 fun n17 =>
  (loopW (S.heap_Heap_Halve.b1 h_) (IntKind.i64.wrap (n17 - 1)) r14.2).bind fun r22 =>
  some ((), r22.2)))
noncomputable def W.heap_Heap_Halve : Spec := .eff [] fun args σ => packs args [.V] fun x => S.heap_Heap_Halve x σ


noncomputable def S.skolemref8_Heap_Halve.b0 (p1 : AVal) : Int → Heap → Option ((Int ⊕ Unit) × Heap) := fun x2 σ3 =>
  nilck p1 (
  fld p1 0 fun a4 =>
  ld σ3 a4 (.V) fun v5 =>
  lenV v5 fun n6 =>
  cond (decide (x2 < n6)) (
  nilck p1 (
  fld p1 0 fun a7 =>
  ld σ3 a7 (.V) fun v8 =>
  nilck p1 (
  fld p1 0 fun a9 =>
  ld σ3 a9 (.V) fun v10 =>
  ixA σ3 v10 1 x2 fun a11 =>
  ld σ3 a11 (.I .i64) fun n12 =>
  ixA σ3 v8 1 x2 fun a13 =>
  stC σ3 a13 [(.int .i64 (IntKind.i64.wrap (Int.tdiv n12 2)))] fun σ14 =>
  some (.inl (IntKind.i64.wrap (x2 + 1)), σ14))))
  (some (.inr (), σ3)))
noncomputable def S.skolemref8_Heap_Halve (h_ : AVal) (σ : Heap) : Option (Unit × Heap) :=
  (loopW (S.skolemref8_Heap_Halve.b0 h_) 1 σ).bind fun r15 =>
  some ((), r15.2)
noncomputable def W.skolemref8_Heap_Halve : Spec := .eff [] fun args σ => packs args [.V] fun x => S.skolemref8_Heap_Halve x σ


noncomputable def S.skolemref8_Heap_Len.b0 (p1 : AVal) (σ0 : Heap) : (Int × Int) → Option ((Int × Int) ⊕ Int) := fun x2 =>
  nilck p1 (
  fld p1 0 fun a4 =>
  ld σ0 a4 (.V) fun v5 =>
  lenV v5 fun n6 =>
  cond (decide (x2.2 < n6)) (
  (nilck p1 (
  fld p1 1 fun a7 =>
  ld σ0 a7 (.V) fun v8 =>
  ixA σ0 v8 1 x2.2 fun a9 =>
  ld σ0 a9 (.B) fun b10 =>
  cond b10 (
  some (IntKind.i64.wrap (x2.1 + 1)))
  (some x2.1))).bind fun r11 =>
  some (.inl (r11, (IntKind.i64.wrap (x2.2 + 1)))))
  (some (.inr x2.1)))
noncomputable def S.skolemref8_Heap_Len (h_ : AVal) (σ : Heap) : Option Int :=
  (loopP (S.skolemref8_Heap_Len.b0 h_ σ) (0, 1)).bind fun r12 =>
  some r12
noncomputable def W.skolemref8_Heap_Len : Spec := .pur [.I .i64] fun args σ => packs args [.V] fun x => S.skolemref8_Heap_Len x σ


noncomputable def S.skolemlaw14_HeapPlays.b0 (p7 : AVal) (p8 : Int) (p9 : Bool) (p10 : AVal) (p11 : AVal) : Int → Heap → Option ((Int ⊕ (Unit ⊕ Bool)) × Heap) := fun x12 σ13 =>
  lenV p7 fun n14 =>
  cond (decide (x12 < n14)) (
  (ixA σ13 p7 3 x12 fun a15 =>
  fld a15 1 fun a16 =>
  ld σ13 a16 (.I .i64) fun n17 =>
  ixA σ13 p7 3 x12 fun a18 =>
  fld a18 0 fun a19 =>
  ld σ13 a19 (.I .i64) fun n20 =>
  (cond (n20 == 1) (
  (S.heap_Heap_Push p10 n17 σ13).bind fun r21 =>
  (S.skolemref8_Heap_Push p11 n17 r21.2).bind fun r22 =>
  some ((r21.1 == r22.1), r22.2))
  (cond (n20 == 2) (
  ixA σ13 p7 3 x12 fun a23 =>
  fld a23 2 fun a24 =>
  ld σ13 a24 (.I .i64) fun n25 =>
  (S.heap_Heap_Pop p10 n25 σ13).bind fun r26 =>
  ixA r26.2 p7 3 x12 fun a27 =>
  fld a27 2 fun a28 =>
  ld r26.2 a28 (.I .i64) fun n29 =>
  (S.skolemref8_Heap_Pop p11 n29 r26.2).bind fun r30 =>
  (cond (r26.1.1 == r30.1.1) (
  some (r26.1.2 == r30.1.2))
  (some false)).bind fun r31 =>
  some (r31, r30.2))
  (cond (n20 == 3) (
  ixA σ13 p7 3 x12 fun a32 =>
  fld a32 2 fun a33 =>
  ld σ13 a33 (.I .i64) fun n34 =>
  (S.heap_Heap_Bump p10 n17 n34 σ13).bind fun r35 =>
  ixA r35.2 p7 3 x12 fun a36 =>
  ixA σ13 p7 3 x12 fun a37 =>
  chk ((a37 : AVal) = a36) (
  fld a36 2 fun a38 =>
  ld r35.2 a38 (.I .i64) fun n39 =>
  ld σ13 a38 (.I .i64) fun n40 =>
  chk (((.int .i64 n40) : AVal) = (.int .i64 n39)) (
  (S.skolemref8_Heap_Bump p11 n17 n39 r35.2).bind fun r41 =>
  some ((r35.1 == r41.1), r41.2))))
  (cond (n20 == 4) (
  (S.heap_Heap_Halve p10 σ13).bind fun r42 =>
  (S.skolemref8_Heap_Halve p11 r42.2).bind fun r43 =>
  some (true, r43.2))
  (ixA σ13 p7 3 x12 fun a44 =>
  fld a44 2 fun a45 =>
  ld σ13 a45 (.I .i64) fun n46 =>
  (S.skolemworld_Number n46 60 σ13).bind fun r47 =>
  (S.heap_Heap_Grow p10 r47 σ13).bind fun r48 =>
  (S.skolemref8_Heap_Grow p11 r47 r48.2).bind fun r49 =>
  some (true, r49.2)))))).bind fun r50 =>
  (cond (decide (p8 > 0)) (
  nilck p11 (
  fld p11 1 fun a51 =>
  ld r50.2 a51 (.V) fun v52 =>
  lenV v52 fun n53 =>
  cond (decide (p8 < n53)) (
  nilck p11 (
  fld p11 1 fun a54 =>
  ld r50.2 a54 (.V) fun v55 =>
  ixA r50.2 v55 1 p8 fun a56 =>
  ld r50.2 a56 (.B) fun b57 =>
  some b57))
  (some false)))
  (some false)).bind fun r58 =>
  (cond (decide (p8 > 0)) (
  nilck p11 (
  fld p11 0 fun a59 =>
  ld r50.2 a59 (.V) fun v60 =>
  lenV v60 fun n61 =>
  some (decide (p8 < n61))))
  (some false)).bind fun r62 =>
  (cond r62 (
  nilck p11 (
  fld p11 0 fun a63 =>
  ld r50.2 a63 (.V) fun v64 =>
  ixA r50.2 v64 1 p8 fun a65 =>
  ld r50.2 a65 (.I .i64) fun n66 =>
  some n66))
  (some 0)).bind fun r67 =>
  (cond (!r50.1) (
  some true)
  ((S.heap_Heap_Len p10 r50.2).bind fun r68 =>
  (S.skolemref8_Heap_Len p11 r50.2).bind fun r69 =>
  cond (r68 != r69) (
  some true)
  ((S.heap_Heap_Has p10 p8 r50.2).bind fun r70 =>
  cond (!(r70 == r58)) (
  some true)
  ((S.heap_Heap_Score p10 p8 r50.2).bind fun r71 =>
  some (r71 != r67))))).bind fun r72 =>
  cond r72 (
  some (.inr false, r50.2))
  (some (.inl (), r50.2)) : Option ((Unit ⊕ Bool) × Heap)).bind fun r73 =>
  (match r73.1 with
 | .inl y74 => some (.inl (IntKind.i64.wrap (x12 + 1)), r73.2)
 | .inr y75 => some (.inr (.inr y75), r73.2)))
  (some (.inr (.inl ()), σ13))
noncomputable def S.skolemlaw14_HeapPlays (p0 : Int) (p1 : AVal) (p2 : Int) (σ : Heap) : Option (Bool × Heap) :=
  (S.skolemlaw14_first σ).bind fun r1 =>
  cond (!r1.1) (
  some (false, r1.2))
  ((lenV p1 fun n2 =>
  cond (decide (n2 > 100)) (
  some true)
  (some (decide (p0 > 60)))).bind fun r3 =>
  cond r3 (
  some (r1.1, r1.2))
  ((S.heap_New p0 r1.2).bind fun r4 =>
  (S.skolemref8_NewHeap p0 r4.2).bind fun r5 =>
  eqP r4.1 .nilp fun b6 =>
  cond b6 (
  some (false, r5.2))
  ((loopW (S.skolemlaw14_HeapPlays.b0 p1 p2 r1.1 r4.1 r5.1) 0 r5.2).bind fun r76 =>
  (match r76.1 with
 | .inl y77 => some (r1.1, r76.2)
 | .inr y78 => some (y78, r76.2)))))
noncomputable def W.skolemlaw14_HeapPlays : Spec := .eff [.B] fun args σ => packs args [.I .i64, .V, .I .i64] fun x => S.skolemlaw14_HeapPlays x.1 x.2.1 x.2.2 σ

end Go.Proofs.Ytcmaphhcbgdigaa.A
