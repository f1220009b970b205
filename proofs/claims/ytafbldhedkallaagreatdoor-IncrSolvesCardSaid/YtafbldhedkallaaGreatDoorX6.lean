/- Parts of the proof, one behind another. -/
import Derived.Test.YtafbldhedkallaaGreatDoorProg
import Derived.Test.YtafbldhedkallaaGreatDoorX0
set_option linter.all false
noncomputable section
namespace Go.Proofs.YtafbldhedkallaaGreatDoor.A
set_option linter.unusedVariables false
section
open Go
abbrev LT(X Y:Type):=X->Heap->Option ((X⊕Y)×Heap)
def S.z49(l_ vars_:Int)(σ:Heap):Option Bool:=
 (cond (l_ != 0) (
 cond (decide (l_>=(IntKind.i64.wrap (0-vars_)))) (
 some (decide (l_<=vars_)))
 (some false))
 (some false)).bind fun r1=>
 some r1
def W.z49:Spec:=.pur [.B] fun args σ=>packs args [.I .i64,.I .i64] fun x=>S.z49 x.1 x.2 σ
def S.z47(l_:Int)(p1:AVal)(σ:Heap):Option Bool:=
 fld p1 0 fun a1=>
 ld σ a1 (.I .i64) fun n2=>
 (S.z49 l_ n2 σ).bind fun r3=>
 some (!r3)
def W.z47:Spec:=.pur [.B] fun args σ=>packs args [.I .i64,.V] fun x=>S.z47 x.1 x.2 σ
def S.z51(l_:Int)(σ:Heap):Option Int:=
 some (if(IntKind.i64.wrap (0-l_))>l_ then(IntKind.i64.wrap (0-l_))else l_)
def W.z51:Spec:=.pur [.I .i64] fun args σ=>packs args [.I .i64] fun x=>S.z51 x σ
def S.z10(x_:Int)(σ:Heap):Option Bool:=
 some (x_ != x_)
def W.z10:Spec:=.pur [.B] fun args σ=>packs args [.I .i64] fun x=>S.z10 x σ
def S.z8(x_ y_:Int)(σ:Heap):Option Int:=
 (S.z10 x_ σ).bind fun r1=>
 (S.z10 y_ σ).bind fun r2=>
 cond r1 (
 cond r2 (
 some 0)
 (some (-1)))
 (cond r2 (
 some 1)
 (cond (decide (x_<y_)) (
 some (-1))
 (cond (decide (x_>y_)) (
 some 1)
 (some 0))))
def W.z8:Spec:=.pur [.I .i64] fun args σ=>packs args [.I .i64,.I .i64] fun x=>S.z8 x.1 x.2 σ
def S.z9.b0(p2:AVal)(p3:Int)(σ0:Heap):Int->Option (Int⊕(Unit⊕Int)):=fun x4=>
 cond (decide (x4<p3)) (
 ixA σ0 p2 1 x4 fun a6=>
 ld σ0 a6 (.I .i64) fun n7=>
 cond (n7 != 0) (
 some (.inr (.inr n7)))
 (some (.inl (IntKind.i64.wrap (x4+1)))))
 (some (.inr (.inl ())))
def S.z9(vals_:AVal)(σ:Heap):Option Int:=
  lenV vals_ fun n1=>
  (loopP (S.z9.b0 vals_ n1 σ) 0).bind fun r8=>
  (match r8 with
 | .inl y9=>some 0
 | .inr y10=>some y10)
def W.z9:Spec:=.pur [.I .i64] fun args σ=>packs args [.V] fun x=>S.z9 x σ
def S.z52(a_ b_:Int)(σ:Heap):Option (Int×Heap):=
 (S.z51 a_ σ).bind fun r1=>
 (S.z51 b_ σ).bind fun r2=>
 (S.z8 r1 r2 σ).bind fun r3=>
 (S.z8 a_ b_ σ).bind fun r4=>
 newK σ 1 [(.int .i64 r3),(.int .i64 r4)] fun l5 σ6=>
 (S.z9 (.sl l5 0 2 none) σ6).bind fun r7=>
 some (r7,σ6)
def W.z52:Spec:=.eff [.I .i64] fun args σ=>packs args [.I .i64,.I .i64] fun x=>S.z52 x.1 x.2 σ
def S.z5(a_:AVal)(σ:Heap):Option Int:=
 nilck a_ (
 fld a_ 0 fun a1=>
 ld σ a1 (.V) fun v2=>
 lenV v2 fun n3=>
 some (IntKind.i64.wrap (n3-1)))
def W.z5:Spec:=.pur [.I .i64] fun args σ=>packs args [.V] fun x=>S.z5 x σ
def S.z63(x_:Int)(p1:AVal)(σ:Heap):Option Bool:=
 ld σ p1 (.V) fun v1=>
 nilck v1 (
 fld v1 0 fun a2=>
 ld σ a2 (.V) fun v3=>
 (S.z5 v3 σ).bind fun r4=>
 (S.z49 x_ r4 σ).bind fun r5=>
 some (!r5))
def W.z63:Spec:=.pur [.B] fun args σ=>packs args [.I .i64,.V] fun x=>S.z63 x.1 x.2 σ
def S.z76(p_:AVal)(σ:Heap):Option Int:=
 nilck p_ (
 fld p_ 0 fun a1=>
 ld σ a1 (.V) fun v2=>
 (S.z5 v2 σ).bind fun r3=>
 some r3)
def W.z76:Spec:=.pur [.I .i64] fun args σ=>packs args [.V] fun x=>S.z76 x σ
def S.z100(l_:Int)(p1:AVal)(σ:Heap):Option Bool:=
 ld σ p1 (.V) fun v1=>
 nilck v1 (
 fld v1 0 fun a2=>
 ld σ a2 (.V) fun v3=>
 (S.z76 v3 σ).bind fun r4=>
 (S.z49 l_ r4 σ).bind fun r5=>
 some (!r5))
def W.z100:Spec:=.pur [.B] fun args σ=>packs args [.I .i64,.V] fun x=>S.z100 x.1 x.2 σ
def S.z4(a_:AVal)(l_:Int)(σ:Heap):Option Int:=
 nilck a_ (
 fld a_ 0 fun a1=>
 ld σ a1 (.V) fun v2=>
 lenV v2 fun n3=>
 (S.z49 l_ (IntKind.i64.wrap (n3-1)) σ).bind fun r4=>
 cond (!r4) (
 some 0)
 (nilck a_ (
 fld a_ 0 fun a5=>
 ld σ a5 (.V) fun v6=>
 (S.z51 l_ σ).bind fun r7=>
 ixA σ v6 1 r7 fun a8=>
 ld σ a8 (.I .i8) fun n9=>
 (cond (decide (l_<0)) (
 some ((IntKind.i64.wrap n9) != 0))
 (some false)).bind fun r10=>
 (cond r10 (
 some (IntKind.i64.wrap (3-(IntKind.i64.wrap n9))))
 (some (IntKind.i64.wrap n9))).bind fun r11=>
 some r11)))
def W.z4:Spec:=.pur [.I .i64] fun args σ=>packs args [.V,.I .i64] fun x=>S.z4 x.1 x.2 σ
def S.z75(p_:AVal)(l_:Int)(σ:Heap):Option Int:=
 nilck p_ (
 fld p_ 0 fun a1=>
 ld σ a1 (.V) fun v2=>
 (S.z4 v2 l_ σ).bind fun r3=>
 some r3)
def W.z75:Spec:=.pur [.I .i64] fun args σ=>packs args [.V,.I .i64] fun x=>S.z75 x.1 x.2 σ
def S.z43(l_:Int)(p1:AVal)(σ:Heap):Option Bool:=
 ld σ p1 (.V) fun v1=>
 (S.z75 v1 l_ σ).bind fun r2=>
 some (r2 != 2)
def W.z43:Spec:=.pur [.B] fun args σ=>packs args [.I .i64,.V] fun x=>S.z43 x.1 x.2 σ
def S.z19.T(self:Int->AVal->AVal->AVal->Heap->Option (Unit×Heap)):FuncId->Option Spec:=(tab 206 (.eff [] fun args σ=>packs args [.I .i64,.V,.V,.V] fun x=>self x.1 x.2.1 x.2.2.1 x.2.2.2 σ) y2r_)
def S.z19.r(self:Int->AVal->AVal->AVal->Heap->Option (Unit×Heap))(k_:Int)(p1 p2 p3:AVal)(σ:Heap):Option (Unit×Heap):=
 (ld σ p1 (.V) fun v1=>
 nilck v1 (
 fld v1 2 fun a2=>
 ld σ a2 (.V) fun v3=>
 lenV v3 fun n4=>
 cond (decide (k_<n4)) (
 ld σ p1 (.V) fun v5=>
 nilck v5 (
 fld v5 0 fun a6=>
 ld σ a6 (.V) fun v7=>
 ld σ p1 (.V) fun v8=>
 nilck v8 (
 fld v8 2 fun a9=>
 ld σ a9 (.V) fun v10=>
 ixA σ v10 1 k_ fun a11=>
 ld σ a11 (.I .i64) fun n12=>
 ixA σ v7 1 n12 fun a13=>
 ld σ a13 (.I .i64) fun n14=>
 ld σ p1 (.V) fun v15=>
 nilck v15 (
 fld v15 0 fun a16=>
 ld σ a16 (.V) fun v17=>
 ld σ p1 (.V) fun v18=>
 nilck v18 (
 fld v18 2 fun a19=>
 ld σ a19 (.V) fun v20=>
 ixA σ v20 1 0 fun a21=>
 ld σ a21 (.I .i64) fun n22=>
 ixA σ v17 1 n22 fun a23=>
 ld σ a23 (.I .i64) fun n24=>
 some (n14==n24))))))
 (some false))).bind fun r25=>
 cond r25 (
 ld σ p2 (.V) fun v26=>
 ld σ p1 (.V) fun v27=>
 nilck v27 (
 fld v27 2 fun a28=>
 ld σ a28 (.V) fun v29=>
 ixA σ v29 1 k_ fun a30=>
 ld σ a30 (.I .i64) fun n31=>
 newK σ 1 [(.int .i64 n31)] fun l32 σ33=>
 appS σ33 1 8 v26 (.sl l32 0 1 none) fun v34 σ35=>
 scal v34 (
 stC σ35 p2 [v34] fun σ36=>
 ld σ36 p3 (.V) fun v37=>
 callV (S.z19.T self) v37 [(.int .i64 (IntKind.i64.wrap ((IntKind.i64.wrap (2*k_))+1)))] σ36 fun r38 σ39=>
 ld σ39 p3 (.V) fun v40=>
 callV (S.z19.T self) v40 [(.int .i64 (IntKind.i64.wrap ((IntKind.i64.wrap (2*k_))+2)))] σ39 fun r41 σ42=>
 some ((),σ42))))
 (some ((),σ))
def S.z19.n:Nat->Int->AVal->AVal->AVal->Heap->Option (Unit×Heap)
  |0=>fun _ _ _ _ _=>none
  |n+1=>S.z19.r (S.z19.n n)
def S.z19(k_:Int)(p1 p2 p3:AVal)(σ:Heap):Option (Unit×Heap):=lim fun n=>S.z19.n n k_ p1 p2 p3 σ
def W.z19:Spec:=.eff [] fun args σ=>packs args [.I .i64,.V,.V,.V] fun x=>S.z19 x.1 x.2.1 x.2.2.1 x.2.2.2 σ
def S.z104(l_:Int)(p1:AVal)(σ:Heap):Option Bool:=
 ld σ p1 (.V) fun v1=>
 nilck v1 (
 fld v1 0 fun a2=>
 ld σ a2 (.V) fun v3=>
 (S.z76 v3 σ).bind fun r4=>
 (S.z49 l_ r4 σ).bind fun r5=>
 some (!r5))
def W.z104:Spec:=.pur [.B] fun args σ=>packs args [.I .i64,.V] fun x=>S.z104 x.1 x.2 σ
def S.z36(x_:Int)(p1:AVal)(σ:Heap):Option Bool:=
 ld σ p1 (.V) fun v1=>
 nilck v1 (
 fld v1 1 fun a2=>
 fld a2 0 fun a3=>
 ld σ a3 (.I .i64) fun n4=>
 (S.z49 x_ n4 σ).bind fun r5=>
 some (!r5))
def W.z36:Spec:=.pur [.B] fun args σ=>packs args [.I .i64,.V] fun x=>S.z36 x.1 x.2 σ
def S.z95(l_:Int)(p1:AVal)(σ:Heap):Option Bool:=
 ld σ p1 (.V) fun v1=>
 nilck v1 (
 fld v1 0 fun a2=>
 ld σ a2 (.I .i64) fun n3=>
 (S.z49 l_ n3 σ).bind fun r4=>
 some (!r4))
def W.z95:Spec:=.pur [.B] fun args σ=>packs args [.I .i64,.V] fun x=>S.z95 x.1 x.2 σ
def S.z2(a_:AVal)(l_:Int)(σ:Heap):Option (Bool×Heap):=
 (nilck a_ (
 fld a_ 0 fun a1=>
 ld σ a1 (.V) fun v2=>
 lenV v2 fun n3=>
 (S.z49 l_ (IntKind.i64.wrap (n3-1)) σ).bind fun r4=>
 cond (!r4) (
 some true)
 ((S.z4 a_ l_ σ).bind fun r5=>
 some (r5==2)))).bind fun r6=>
 cond r6 (
 some (false,σ))
 ((cond (decide (l_>0)) (
 nilck a_ (
 fld a_ 0 fun a7=>
 ld σ a7 (.V) fun v8=>
 ixA σ v8 1 l_ fun a9=>
 stC σ a9 [(.int .i8 1)] fun σ10=>
 some ((),σ10)))
 (nilck a_ (
 fld a_ 0 fun a11=>
 ld σ a11 (.V) fun v12=>
 ixA σ v12 1 (IntKind.i64.wrap (0-l_)) fun a13=>
 stC σ a13 [(.int .i8 2)] fun σ14=>
 some ((),σ14)))).bind fun r15=>
 some (true,r15.2))
def W.z2:Spec:=.eff [.B] fun args σ=>packs args [.V,.I .i64] fun x=>S.z2 x.1 x.2 σ
def S.z92(l_:Int)(p1 p2:AVal)(σ:Heap):Option (Bool×Heap):=
 ld σ p1 (.V) fun v1=>
 (S.z4 v1 l_ σ).bind fun r2=>
 cond (r2==1) (
 some (true,σ))
 (ld σ p2 (.V) fun v3=>
 newK σ 1 [(.int .i64 l_)] fun l4 σ5=>
 appS σ5 1 8 v3 (.sl l4 0 1 none) fun v6 σ7=>
 scal v6 (
 stC σ7 p2 [v6] fun σ8=>
 ld σ8 p1 (.V) fun v9=>
 (S.z2 v9 l_ σ8).bind fun r10=>
 some (r10.1,r10.2)))
def W.z92:Spec:=.eff [.B] fun args σ=>packs args [.I .i64,.V,.V] fun x=>S.z92 x.1 x.2.1 x.2.2 σ
def S.z0.b0(p2 p3:AVal)(p4:Int)(σ0:Heap):(Int×Int×Int×Int)->Option ((Int×Int×Int×Int)⊕((Int×Int×Int))):=fun x5=>
 cond (decide (x5.2.2.2<p4)) (
 (ixA σ0 p3 1 x5.2.2.2 fun a7=>
 ld σ0 a7 (.I .i64) fun n8=>
 (S.z4 p2 n8 σ0).bind fun r9=>
 cond (r9==2) (
 some (x5.1,x5.2.1,x5.2.2.1))
 ((cond (r9==1) (
 some 1)
 (cond (x5.2.2.1==2) (
 some 0)
 (some x5.2.2.1))).bind fun r10=>
 (cond (x5.2.1==0) (
 some true)
 (some (n8 != x5.1))).bind fun r11=>
 cond r11 (
 some (n8,(IntKind.i64.wrap (x5.2.1+1)),r10))
 (some (x5.1,x5.2.1,r10)))).bind fun r12=>
 some (.inl (r12.1,r12.2.1,r12.2.2,(IntKind.i64.wrap (x5.2.2.2+1)))))
 (some (.inr (x5.1,x5.2.1,x5.2.2.1)))
def S.z0(a_ c_:AVal)(σ:Heap):Option (Int×Int):=
 lenV c_ fun n1=>
 (loopP (S.z0.b0 a_ c_ n1 σ) (0,0,2,0)).bind fun r13=>
 (cond (r13.2.1 != 1) (
 some true)
 (some (r13.2.2 != 0))).bind fun r14=>
 (cond r14 (
 some 0)
 (some r13.1)).bind fun r15=>
 some (r13.2.2,r15)
def W.z0:Spec:=.pur [.I .i64,.I .i64] fun args σ=>packs args [.V,.V] fun x=>S.z0 x.1 x.2 σ
def S.z93.T:FuncId->Option Spec:=(tab 191 W.z92 (tab 194 W.z0 y2r_))
def S.z93(id_:Int)(p1 p2 p3:AVal)(σ:Heap):Option (Bool×Heap):=
 ld σ p1 (.V) fun v1=>
 ld σ p2 (.V) fun v2=>
 nilck v2 (
 fld v2 1 fun a3=>
 ld σ a3 (.V) fun v4=>
 ixA σ v4 1 id_ fun a5=>
 ld σ a5 (.V) fun v6=>
 (S.z0 v1 v6 σ).bind fun r7=>
 (cond (r7.1 != 2) (
 cond (r7.2==0) (
 some (true,σ))
 (ld σ p3 (.V) fun v8=>
 callV S.z93.T v8 [(.int .i64 r7.2)] σ fun r9 σ10=>
 asK (.B) r9 fun b11=>
 some (b11,σ10)))
 (some (false,σ))).bind fun r12=>
 some (r12.1,r12.2))
def W.z93:Spec:=.eff [.B] fun args σ=>packs args [.I .i64,.V,.V,.V] fun x=>S.z93 x.1 x.2.1 x.2.2.1 x.2.2.2 σ
def S.z98(x_:Int)(p1:AVal)(σ:Heap):Option Bool:=
 ld σ p1 (.I .i64) fun n1=>
 some (x_==n1)
def W.z98:Spec:=.pur [.B] fun args σ=>packs args [.I .i64,.V] fun x=>S.z98 x.1 x.2 σ
def S.z96(x_:Int)(p1:AVal)(σ:Heap):Option Bool:=
 ld σ p1 (.I .i64) fun n1=>
 some (x_==n1)
def W.z96:Spec:=.pur [.B] fun args σ=>packs args [.I .i64,.V] fun x=>S.z96 x.1 x.2 σ
def S.z161.T:FuncId->Option Spec:=(tab 211 W.z96 (tab 190 W.z98 (tab 193 W.z93 (tab 191 W.z92 (tab 188 W.z95 (tab 183 W.z36 (tab 66 W.z104 (tab 206 W.z19 (tab 204 W.z43 (tab 62 W.z100 (tab 103 W.z63 (tab 151 W.z52 (tab 146 W.z47 y2r_)))))))))))))
def S.z161.b0(p2 p3:AVal)(p4:Int):LT (Int) ((Unit⊕Int)):=fun x5 σ6=>
 cond (decide (x5<p4)) (
 ixA σ6 p2 1 x5 fun a7=>
 ld σ6 a7 (.I .i64) fun n8=>
 callV S.z161.T p3 [(.int .i64 n8)] σ6 fun r9 σ10=>
 asK (.B) r9 fun b11=>
 cond b11 (
 some (.inr (.inr x5),σ10))
 (some (.inl (IntKind.i64.wrap (x5+1)),σ10)))
 (some (.inr (.inl ()),σ6))
def S.z161(s_ f_:AVal)(σ:Heap):Option (Int×Heap):=
  lenV s_ fun n1=>
  (loopW (S.z161.b0 s_ f_ n1) 0 σ).bind fun r12=>
  (match r12.1 with
 | .inl y13=>some ((-1),r12.2)
 | .inr y14=>some (y14,r12.2))
def W.z161:Spec:=.eff [.I .i64] fun args σ=>packs args [.V,.V] fun x=>S.z161 x.1 x.2 σ
def S.z158(s_ f_:AVal)(σ:Heap):Option (Bool×Heap):=
 (S.z161 s_ f_ σ).bind fun r1=>
 some ((decide (r1.1>=0)),r1.2)
def W.z158:Spec:=.eff [.B] fun args σ=>packs args [.V,.V] fun x=>S.z158 x.1 x.2 σ
def S.z155(s_:AVal)(σ:Heap):Option (AVal×Heap):=
 eqS s_ .nils fun b1=>
 cond b1 (
 some (.nils,σ))
 (newK σ 1 [] fun l2 σ3=>
 appS σ3 1 8 (.sl l2 0 0 none) s_ fun v4 σ5=>
 some (v4,σ5))
def W.z155:Spec:=.eff [.V] fun args σ=>packs args [.V] fun x=>S.z155 x σ
def S.z54(l_:AVal)(σ:Heap):Option (AVal×Heap):=
 newK σ 2 [.nils,(.int .i64 0)] fun l1 σ2=>
 (S.z155 l_ σ2).bind fun r3=>
 scal r3.1 (
 stC r3.2 (.ptr l1 0) [r3.1,(.int .i64 0)] fun σ4=>
 ldG σ4 (.ptr l1 0) 2 fun g5=>
 some (g5,σ4))
def W.z54:Spec:=.eff [.V] fun args σ=>packs args [.V] fun x=>S.z54 x σ
def S.z94(b_ c_:AVal)(σ:Heap):Option (Bool×Heap):=
 scal b_ (
 newK σ 1 [b_] fun l1 σ2=>
 (S.z158 c_ (.fn (.func 188) [] [(.ptr l1 0)]) σ2).bind fun r3=>
 some ((!r3.1),r3.2))
def W.z94:Spec:=.eff [.B] fun args σ=>packs args [.V,.V] fun x=>S.z94 x.1 x.2 σ
def S.z6(vars_:Int)(σ:Heap):Option Int:=
 some (if 4000<(if 0>vars_ then 0 else vars_)then 4000 else(if 0>vars_ then 0 else vars_))
def W.z6:Spec:=.pur [.I .i64] fun args σ=>packs args [.I .i64] fun x=>S.z6 x σ
def S.z7(vars_:Int)(σ:Heap):Option (AVal×Heap):=
 (S.z6 vars_ σ).bind fun r1=>
 mkS σ 1 1 [(.int .i8 0)] (IntKind.i64.wrap (r1+1)) (IntKind.i64.wrap (r1+1)) fun v2 σ3=>
 scal v2 (
 newK σ3 1 [v2] fun l4 σ5=>
 some ((.ptr l4 0),σ5))
def W.z7:Spec:=.eff [.V] fun args σ=>packs args [.I .i64] fun x=>S.z7 x σ
def S.z91.T:FuncId->Option Spec:=(tab 193 W.z93 (tab 191 W.z92 (tab 149 W.z7 y2r_)))
def S.z91.b0(p16 p17:AVal)(p18 p19 p20:AVal)(p21:Int):LT (Int) ((Unit⊕(AVal×Bool))):=fun x22 σ23=>
 cond (decide (x22<p21)) (
 ixA σ23 p20 1 x22 fun a24=>
 ld σ23 a24 (.I .i64) fun n25=>
 ld σ23 p19 (.V) fun v26=>
 callV S.z91.T v26 [(.int .i64 n25)] σ23 fun r27 σ28=>
 asK (.B) r27 fun b29=>
 cond (!b29) (
 some (.inr (.inr (.nilp,false)),σ28))
 (some (.inl (IntKind.i64.wrap (x22+1)),σ28)))
 (some (.inr (.inl ()),σ23))
def S.z91.b1(p37 p38:AVal)(p39 p40 p41:AVal)(p42:Int):LT (Int) ((Unit⊕(AVal×Bool))):=fun x43 σ44=>
 cond (decide (x43<p42)) (
 ixA σ44 p41 1 x43 fun a45=>
 ld σ44 a45 (.I .i64) fun n46=>
 (S.z93 n46 p38 p37 p40 σ44).bind fun r47=>
 cond (!r47.1) (
 some (.inr (.inr (.nilp,false)),r47.2))
 (some (.inl (IntKind.i64.wrap (x43+1)),r47.2)))
 (some (.inr (.inl ()),σ44))
def S.z91.b2(p71 p72:AVal)(p73 p74 p75:AVal)(p76:Int):LT (Int) ((Unit⊕(AVal×Bool))):=fun x77 σ78=>
 cond (decide (x77<p76)) (
 ixA σ78 p75 1 x77 fun a79=>
 ld σ78 a79 (.I .i64) fun n80=>
 (S.z93 n80 p72 p71 p74 σ78).bind fun r81=>
 cond (!r81.1) (
 some (.inr (.inr (.nilp,false)),r81.2))
 (some (.inl (IntKind.i64.wrap (x77+1)),r81.2)))
 (some (.inr (.inl ()),σ78))
def S.z91.b3(p51 p52:AVal)(p53 p54:AVal):LT (Unit) ((Unit⊕(AVal×Bool))):=fun x55 σ56=>
  ld σ56 p53 (.V) fun v57=>
  lenV v57 fun n58=>
  cond (decide (n58>0)) (
  ld σ56 p53 (.V) fun v59=>
  ixA σ56 v59 1 0 fun a60=>
  ld σ56 a60 (.I .i64) fun n61=>
  ld σ56 p53 (.V) fun v62=>
  slS σ56 1 v62 1 none none fun v63=>
  scal v63 (
  stC σ56 p53 [v63] fun σ64=>
  ld σ64 p51 (.V) fun v65=>
  nilck v65 (
  fld v65 3 fun a66=>
  ld σ64 a66 (.V) fun v67=>
  mgetZ σ64 v67 .i64 (IntKind.i64.wrap (0-n61)) .nils fun x68 b69=>
  lenV x68 fun n70=>
  (loopW (S.z91.b2 p51 p52 p53 p54 x68 n70) 0 σ64).bind fun r82=>
  (match r82.1 with
 | .inl y83=>some (.inl (),r82.2)
 | .inr y84=>some (.inr (.inr (y84.1,y84.2)),r82.2)))))
  (some (.inr (.inl ()),σ56))
def S.z91(p0 p1:AVal)(σ:Heap):Option ((AVal×Bool)×Heap):=
  scal p0 (
  newK σ 1 [p0] fun l1 σ2=>
  ld σ2 (.ptr l1 0) (.V) fun v3=>
  nilck v3 (
  fld v3 0 fun a4=>
  ld σ2 a4 (.I .i64) fun n5=>
  (S.z7 n5 σ2).bind fun r6=>
  newK r6.2 1 [.nilp] fun l7 σ8=>
  scal r6.1 (
  stC σ8 (.ptr l7 0) [r6.1] fun σ9=>
  newK σ9 1 [.nils] fun l10 σ11=>
  newK σ11 1 [.nilf] fun l12 σ13=>
  stC σ13 (.ptr l12 0) [(.fn (.func 191) [] [(.ptr l7 0),(.ptr l10 0)])] fun σ14=>
  lenV p1 fun n15=>
  (loopW (S.z91.b0 (.ptr l1 0) (.ptr l7 0) (.ptr l10 0) (.ptr l12 0) p1 n15) 0 σ14).bind fun r30=>
  (match r30.1 with
 | .inl y31=>ld r30.2 (.ptr l1 0) (.V) fun v33=>
  nilck v33 (
  fld v33 4 fun a34=>
  ld r30.2 a34 (.V) fun v35=>
  lenV v35 fun n36=>
  (loopW (S.z91.b1 (.ptr l1 0) (.ptr l7 0) (.ptr l10 0) (.ptr l12 0) v35 n36) 0 r30.2).bind fun r48=>
  (match r48.1 with
 | .inl y49=>(loopW (S.z91.b3 (.ptr l1 0) (.ptr l7 0) (.ptr l10 0) (.ptr l12 0)) () r48.2).bind fun r85=>
  (match r85.1 with
 | .inl y86=>ld r85.2 (.ptr l7 0) (.V) fun v88=>
  some ((v88,true),r85.2)
 | .inr y87=>some ((y87.1,y87.2),r85.2))
 | .inr y50=>some ((y50.1,y50.2),r48.2)))
 | .inr y32=>some ((y32.1,y32.2),r30.2)))))
def W.z91:Spec:=.eff [.V,.B] fun args σ=>packs args [.V,.V] fun x=>S.z91 x.1 x.2 σ
def S.z90.b0(p6 p7:AVal)(p8:Int):LT ((AVal×Int)) (AVal):=fun x9 σ10=>
 cond (decide (x9.2<p8)) (
 ixA σ10 p7 1 x9.2 fun a11=>
 ld σ10 a11 (.I .i64) fun n12=>
 newK σ10 1 [(.int .i64 (IntKind.i64.wrap (0-n12)))] fun l13 σ14=>
 appS σ14 1 8 x9.1 (.sl l13 0 1 none) fun v15 σ16=>
 some (.inl (v15,(IntKind.i64.wrap (x9.2+1))),σ16))
 (some (.inr x9.1,σ10))
def S.z90(b_ c_:AVal)(σ:Heap):Option (Bool×Heap):=
 (S.z94 b_ c_ σ).bind fun r1=>
 cond (!r1.1) (
 some (false,r1.2))
 (lenV c_ fun n2=>
 mkS r1.2 1 8 [(.int .i64 0)] 0 n2 fun v3 σ4=>
 lenV c_ fun n5=>
 (loopW (S.z90.b0 b_ c_ n5) (v3,0) σ4).bind fun r17=>
 (S.z91 b_ r17.1 r17.2).bind fun r18=>
 some ((!r18.1.2),r18.2))
def W.z90:Spec:=.eff [.B] fun args σ=>packs args [.V,.V] fun x=>S.z90 x.1 x.2 σ
def S.z159.T:FuncId->Option Spec:=(tab 211 W.z96 (tab 190 W.z98 (tab 193 W.z93 (tab 191 W.z92 (tab 188 W.z95 (tab 183 W.z36 (tab 66 W.z104 (tab 206 W.z19 (tab 204 W.z43 (tab 62 W.z100 (tab 103 W.z63 (tab 151 W.z52 (tab 146 W.z47 (tab 100 W.z161 y2r_))))))))))))))
def S.z159.b0(p2 p3:AVal):LT ((Int×Int)) (Int):=fun x4 σ5=>
 lenV p2 fun n6=>
 cond (decide (x4.2<n6)) (
 (ixA σ5 p2 1 x4.2 fun a7=>
 ld σ5 a7 (.I .i64) fun n8=>
 callV S.z159.T p3 [(.int .i64 n8)] σ5 fun r9 σ10=>
 asK (.B) r9 fun b11=>
 cond (!b11) (
 ixA σ10 p2 1 x4.1 fun a12=>
 stC σ10 a12 [(.int .i64 n8)] fun σ13=>
 some ((IntKind.i64.wrap (x4.1+1)),σ13))
 (some (x4.1,σ10))).bind fun r14=>
 some (.inl (r14.1,(IntKind.i64.wrap (x4.2+1))),r14.2))
 (some (.inr x4.1,σ5))
def S.z159(s_ del_:AVal)(σ:Heap):Option (AVal×Heap):=
 (S.z161 s_ del_ σ).bind fun r1=>
 cond (r1.1==(-1)) (
 some (s_,r1.2))
 ((loopW (S.z159.b0 s_ del_) (r1.1,(IntKind.i64.wrap (r1.1+1))) r1.2).bind fun r15=>
 slS r15.2 1 s_ r15.1 none none fun v16=>
 y1n_ r15.2 1 [(.int .i64 0)] v16 fun σ17=>
 slS σ17 1 s_ 0 (some r15.1) none fun v18=>
 some (v18,σ17))
def W.z159:Spec:=.eff [.V] fun args σ=>packs args [.V,.V] fun x=>S.z159 x.1 x.2 σ
def S.z97(c_:AVal)(l_:Int)(σ:Heap):Option (AVal×Heap):=
 newK σ 1 [(.int .i64 l_)] fun l1 σ2=>
 (S.z155 c_ σ2).bind fun r3=>
 (S.z159 r3.1 (.fn (.func 190) [] [(.ptr l1 0)]) r3.2).bind fun r4=>
 some (r4.1,r4.2)
def W.z97:Spec:=.eff [.V] fun args σ=>packs args [.V,.I .i64] fun x=>S.z97 x.1 x.2 σ
def S.z160(s_:AVal)(n_:Int)(σ:Heap):Option (AVal×Heap):=
 (cond (decide (n_<0)) (
 none)
 (some ((),σ))).bind fun r1=>
 capV s_ fun n2=>
 lenV s_ fun n3=>
 (cond (decide ((IntKind.i64.wrap (n_-(IntKind.i64.wrap (n2-n3))))>0)) (
 capV s_ fun n4=>
 slS r1.2 1 s_ 0 (some n4) none fun v5=>
 appZ r1.2 1 8 [(.int .i64 0)] v5 (IntKind.i64.wrap (n_-(IntKind.i64.wrap (n2-n3)))) fun v6 σ7=>
 lenV s_ fun n8=>
 slS σ7 1 v6 0 (some n8) none fun v9=>
 some (v9,σ7))
 (some (s_,r1.2))).bind fun r10=>
 some (r10.1,r10.2)
def W.z160:Spec:=.eff [.V] fun args σ=>packs args [.V,.I .i64] fun x=>S.z160 x.1 x.2 σ
def S.z157.b0(p2:AVal)(p3:Int):LT ((Int×Int)) (Int):=fun x4 σ5=>
 cond (decide (x4.2<p3)) (
 (ixA σ5 p2 1 x4.2 fun a6=>
 ld σ5 a6 (.V) fun v7=>
 lenV v7 fun n8=>
 cond (decide ((IntKind.i64.wrap (x4.1+n8))<0)) (
 none)
 (some ((IntKind.i64.wrap (x4.1+n8)),σ5))).bind fun r9=>
 some (.inl (r9.1,(IntKind.i64.wrap (x4.2+1))),r9.2))
 (some (.inr x4.1,σ5))
def S.z157.b1(p13:AVal)(p14:Int):LT ((AVal×Int)) (AVal):=fun x15 σ16=>
 cond (decide (x15.2<p14)) (
 ixA σ16 p13 1 x15.2 fun a17=>
 ld σ16 a17 (.V) fun v18=>
 appS σ16 1 8 x15.1 v18 fun v19 σ20=>
 some (.inl (v19,(IntKind.i64.wrap (x15.2+1))),σ20))
 (some (.inr x15.1,σ16))
def S.z157(slices_:AVal)(σ:Heap):Option (AVal×Heap):=
 lenV slices_ fun n1=>
 (loopW (S.z157.b0 slices_ n1) (0,0) σ).bind fun r10=>
 (S.z160 .nils r10.1 r10.2).bind fun r11=>
 lenV slices_ fun n12=>
 (loopW (S.z157.b1 slices_ n12) (r11.1,0) r11.2).bind fun r21=>
 some (r21.1,r21.2)
def W.z157:Spec:=.eff [.V] fun args σ=>packs args [.V] fun x=>S.z157 x σ
def S.z89.b0(p12 p13 p14:AVal)(p15:Int):LT (Int) ((Unit⊕Bool)):=fun x16 σ17=>
 cond (decide (x16<p15)) (
 ixA σ17 p14 1 x16 fun a18=>
 ld σ17 a18 (.I .i64) fun n19=>
 nilck p12 (
 fld p12 1 fun a20=>
 ld σ17 a20 (.V) fun v21=>
 ixA σ17 v21 1 n19 fun a22=>
 ld σ17 a22 (.V) fun v23=>
 ixA σ17 p13 1 0 fun a24=>
 ld σ17 a24 (.I .i64) fun n25=>
 (S.z97 v23 (IntKind.i64.wrap (0-n25)) σ17).bind fun r26=>
 scal p13 (
 scal r26.1 (
 newK r26.2 1 [p13,r26.1] fun l27 σ28=>
 (S.z157 (.sl l27 0 2 none) σ28).bind fun r29=>
 (S.z90 p12 r29.1 r29.2).bind fun r30=>
 cond (!r30.1) (
 some (.inr (.inr false),r30.2))
 (some (.inl (IntKind.i64.wrap (x16+1)),r30.2))))))
 (some (.inr (.inl ()),σ17))
def S.z89(b_ c_:AVal)(σ:Heap):Option (Bool×Heap):=
  (S.z90 b_ c_ σ).bind fun r1=>
  cond r1.1 (
  some (true,r1.2))
  ((lenV c_ fun n2=>
  cond (n2==0) (
  some (true,r1.2))
  ((S.z94 b_ c_ r1.2).bind fun r3=>
  some ((!r3.1),r3.2))).bind fun r4=>
  cond r4.1 (
  some (false,r4.2))
  (nilck b_ (
  fld b_ 3 fun a5=>
  ld r4.2 a5 (.V) fun v6=>
  ixA r4.2 c_ 1 0 fun a7=>
  ld r4.2 a7 (.I .i64) fun n8=>
  mgetZ r4.2 v6 .i64 (IntKind.i64.wrap (0-n8)) .nils fun x9 b10=>
  lenV x9 fun n11=>
  (loopW (S.z89.b0 b_ c_ x9 n11) 0 r4.2).bind fun r31=>
  (match r31.1 with
 | .inl y32=>some (true,r31.2)
 | .inr y33=>some (y33,r31.2)))))
def W.z89:Spec:=.eff [.B] fun args σ=>packs args [.V,.V] fun x=>S.z89 x.1 x.2 σ
def S.z53(s_:AVal)(σ:Heap):Option (AVal×Heap):=
 aggK s_ 6 fun cs1=>
 newK σ 6 cs1 fun l2 σ3=>
 ld σ3 (.ptr l2 0) (.V) fun v4=>
 (S.z54 v4 σ3).bind fun r5=>
 ld r5.2 (.ptr l2 1) (.V) fun v6=>
 ld σ3 (.ptr l2 1) (.V) fun v7=>
 chk ((v7:AVal)=v6) (
 (S.z54 v6 r5.2).bind fun r8=>
 ld r8.2 (.ptr l2 2) (.V) fun v9=>
 ld r5.2 (.ptr l2 2) (.V) fun v10=>
 chk ((v10:AVal)=v9) (
 ld σ3 (.ptr l2 2) (.V) fun v11=>
 chk ((v11:AVal)=v9) (
 (S.z54 v9 r8.2).bind fun r12=>
 ld r12.2 (.ptr l2 3) (.V) fun v13=>
 ld r8.2 (.ptr l2 3) (.V) fun v14=>
 chk ((v14:AVal)=v13) (
 ld r5.2 (.ptr l2 3) (.V) fun v15=>
 chk ((v15:AVal)=v13) (
 ld σ3 (.ptr l2 3) (.V) fun v16=>
 chk ((v16:AVal)=v13) (
 (S.z54 v13 r12.2).bind fun r17=>
 ld r17.2 (.ptr l2 4) (.I .i64) fun n18=>
 ld r12.2 (.ptr l2 4) (.I .i64) fun n19=>
 chk (((.int .i64 n19):AVal)=(.int .i64 n18)) (
 ld r8.2 (.ptr l2 4) (.I .i64) fun n20=>
 chk (((.int .i64 n20):AVal)=(.int .i64 n18)) (
 ld r5.2 (.ptr l2 4) (.I .i64) fun n21=>
 chk (((.int .i64 n21):AVal)=(.int .i64 n18)) (
 ld σ3 (.ptr l2 4) (.I .i64) fun n22=>
 chk (((.int .i64 n22):AVal)=(.int .i64 n18)) (
 aggK r5.1 2 fun cs23=>
 putC [.nils,(.int .i64 0),.nils,(.int .i64 0),.nils,(.int .i64 0),.nils,(.int .i64 0),(.int .i64 0),(.int .i64 0),(.int .i64 0),(.int .i64 0)] 0 2 cs23 fun cs24=>
 aggK r8.1 2 fun cs25=>
 putC cs24 2 2 cs25 fun cs26=>
 aggK r12.1 2 fun cs27=>
 putC cs26 4 2 cs27 fun cs28=>
 aggK r17.1 2 fun cs29=>
 putC cs28 6 2 cs29 fun cs30=>
 putC cs30 8 1 [(.int .i64 n18)] fun cs31=>
 putC cs31 11 1 [(.int .i64 16)] fun cs32=>
 aggK (.agg cs32) 12 fun cs33=>
 newK r17.2 12 cs33 fun l34 σ35=>
 some ((.ptr l34 0),σ35)))))))))))
def W.z53:Spec:=.eff [.V] fun args σ=>packs args [.V] fun x=>S.z53 x σ
def S.z1.b0(p1:AVal)(p2:Int):LT (Unit) (Unit):=fun x3 σ4=>
 nilck p1 (
 fld p1 0 fun a5=>
 ld σ4 a5 (.V) fun v6=>
 lenV v6 fun n7=>
 (S.z6 p2 σ4).bind fun r8=>
 cond (decide (n7<=r8)) (
 nilck p1 (
 fld p1 0 fun a9=>
 ld σ4 a9 (.V) fun v10=>
 newK σ4 1 [(.int .i8 0)] fun l11 σ12=>
 appS σ12 1 1 v10 (.sl l11 0 1 none) fun v13 σ14=>
 nilck p1 (
 fld p1 0 fun a15=>
 scal v13 (
 stC σ14 a15 [v13] fun σ16=>
 some (.inl (),σ16)))))
 (some (.inr (),σ4)))
def S.z1(a_:AVal)(vars_:Int)(σ:Heap):Option (Unit×Heap):=
 (loopW (S.z1.b0 a_ vars_) () σ).bind fun r17=>
 some ((),r17.2)
def W.z1:Spec:=.eff [] fun args σ=>packs args [.V,.I .i64] fun x=>S.z1 x.1 x.2 σ
def S.z68.b0(p4:AVal):LT (Unit) (Unit):=fun x5 σ6=>
 nilck p4 (
 fld p4 1 fun a7=>
 ld σ6 a7 (.V) fun v8=>
 lenV v8 fun n9=>
 nilck p4 (
 fld p4 0 fun a10=>
 ld σ6 a10 (.V) fun v11=>
 (S.z5 v11 σ6).bind fun r12=>
 cond (decide (n9<=r12)) (
 nilck p4 (
 fld p4 1 fun a13=>
 ld σ6 a13 (.V) fun v14=>
 newK σ6 1 [(.int .i64 (-1))] fun l15 σ16=>
 appS σ16 1 8 v14 (.sl l15 0 1 none) fun v17 σ18=>
 nilck p4 (
 fld p4 2 fun a19=>
 ld σ18 a19 (.V) fun v20=>
 ld σ6 a19 (.V) fun v21=>
 chk ((v21:AVal)=v20) (
 newK σ18 1 [(.int .i64 (-1))] fun l22 σ23=>
 appS σ23 1 8 v20 (.sl l22 0 1 none) fun v24 σ25=>
 nilck p4 (
 fld p4 1 fun a26=>
 scal v17 (
 stC σ25 a26 [v17] fun σ27=>
 nilck p4 (
 fld p4 2 fun a28=>
 scal v24 (
 stC σ27 a28 [v24] fun σ29=>
 nilck p4 (
 fld p4 7 fun a30=>
 ld σ29 a30 (.V) fun v31=>
 newK σ29 1 [.nils,.nils] fun l32 σ33=>
 appS σ33 1 24 v31 (.sl l32 0 2 none) fun v34 σ35=>
 nilck p4 (
 fld p4 7 fun a36=>
 scal v34 (
 stC σ35 a36 [v34] fun σ37=>
 some (.inl (),σ37))))))))))))
 (some (.inr (),σ6))))
def S.z68(p_:AVal)(vars_:Int)(σ:Heap):Option (Unit×Heap):=
 nilck p_ (
 fld p_ 0 fun a1=>
 ld σ a1 (.V) fun v2=>
 (S.z1 v2 vars_ σ).bind fun r3=>
 (loopW (S.z68.b0 p_) () r3.2).bind fun r38=>
 some ((),r38.2))
def W.z68:Spec:=.eff [] fun args σ=>packs args [.V,.I .i64] fun x=>S.z68 x.1 x.2 σ
def S.z61(vars_:Int)(σ:Heap):Option (AVal×Heap):=
 (S.z7 0 σ).bind fun r1=>
 newK r1.2 1 [(.int .i64 (-1))] fun l2 σ3=>
 newK σ3 1 [(.int .i64 (-1))] fun l4 σ5=>
 mkS σ5 1 24 [.nils] 2 2 fun v6 σ7=>
 scal r1.1 (
 scal v6 (
 newK σ7 9 [r1.1,(.sl l2 0 1 none),(.sl l4 0 1 none),.nils,.nils,(.int .i64 0),.nils,v6,.nils] fun l8 σ9=>
 (S.z68 (.ptr l8 0) vars_ σ9).bind fun r10=>
 some ((.ptr l8 0),r10.2)))
def W.z61:Spec:=.eff [.V] fun args σ=>packs args [.I .i64] fun x=>S.z61 x σ
def S.z21(h_:AVal)(v_:Int)(σ:Heap):Option Bool:=
 (cond (decide (v_>0)) (
 nilck h_ (
 fld h_ 0 fun a1=>
 ld σ a1 (.V) fun v2=>
 lenV v2 fun n3=>
 some (decide (v_<n3))))
 (some false)).bind fun r4=>
 some r4
def W.z21:Spec:=.pur [.B] fun args σ=>packs args [.V,.I .i64] fun x=>S.z21 x.1 x.2 σ
def S.z17(h_:AVal)(a_ b_:Int)(σ:Heap):Option Bool:=
 (nilck h_ (
 fld h_ 0 fun a1=>
 ld σ a1 (.V) fun v2=>
 ixA σ v2 1 a_ fun a3=>
 ld σ a3 (.I .i64) fun n4=>
 nilck h_ (
 fld h_ 0 fun a5=>
 ld σ a5 (.V) fun v6=>
 ixA σ v6 1 b_ fun a7=>
 ld σ a7 (.I .i64) fun n8=>
 cond (decide (n4>n8)) (
 some true)
 (nilck h_ (
 fld h_ 0 fun a9=>
 ld σ a9 (.V) fun v10=>
 ixA σ v10 1 a_ fun a11=>
 ld σ a11 (.I .i64) fun n12=>
 nilck h_ (
 fld h_ 0 fun a13=>
 ld σ a13 (.V) fun v14=>
 ixA σ v14 1 b_ fun a15=>
 ld σ a15 (.I .i64) fun n16=>
 cond (n12==n16) (
 some (decide (a_<b_)))
 (some false))))))).bind fun r17=>
 some r17
def W.z17:Spec:=.pur [.B] fun args σ=>packs args [.V,.I .i64,.I .i64] fun x=>S.z17 x.1 x.2.1 x.2.2 σ
def S.z22(h_:AVal)(k_ v_:Int)(σ:Heap):Option (Unit×Heap):=
 nilck h_ (
 fld h_ 2 fun a1=>
 ld σ a1 (.V) fun v2=>
 ixA σ v2 1 k_ fun a3=>
 stC σ a3 [(.int .i64 v_)] fun σ4=>
 nilck h_ (
 fld h_ 1 fun a5=>
 ld σ4 a5 (.V) fun v6=>
 ixA σ4 v6 1 v_ fun a7=>
 stC σ4 a7 [(.int .i64 (IntKind.i64.wrap (k_+1)))] fun σ8=>
 some ((),σ8)))
def W.z22:Spec:=.eff [] fun args σ=>packs args [.V,.I .i64,.I .i64] fun x=>S.z22 x.1 x.2.1 x.2.2 σ
def S.z24.b0(p5:AVal)(p6:Int):LT (Int) (Int):=fun x7 σ8=>
 (cond (decide (x7>0)) (
 nilck p5 (
 fld p5 2 fun a9=>
 ld σ8 a9 (.V) fun v10=>
 ixA σ8 v10 1 (IntKind.i64.wrap (Int.tdiv (IntKind.i64.wrap (x7-1)) 2)) fun a11=>
 ld σ8 a11 (.I .i64) fun n12=>
 (S.z17 p5 p6 n12 σ8).bind fun r13=>
 some r13))
 (some false)).bind fun r14=>
 cond r14 (
 nilck p5 (
 fld p5 2 fun a15=>
 ld σ8 a15 (.V) fun v16=>
 ixA σ8 v16 1 (IntKind.i64.wrap (Int.tdiv (IntKind.i64.wrap (x7-1)) 2)) fun a17=>
 ld σ8 a17 (.I .i64) fun n18=>
 (S.z22 p5 x7 n18 σ8).bind fun r19=>
 some (.inl (IntKind.i64.wrap (Int.tdiv (IntKind.i64.wrap (x7-1)) 2)),r19.2)))
 (some (.inr x7,σ8))
def S.z24(h_:AVal)(k_:Int)(σ:Heap):Option (Unit×Heap):=
 nilck h_ (
 fld h_ 2 fun a1=>
 ld σ a1 (.V) fun v2=>
 ixA σ v2 1 k_ fun a3=>
 ld σ a3 (.I .i64) fun n4=>
 (loopW (S.z24.b0 h_ n4) k_ σ).bind fun r20=>
 (S.z22 h_ r20.1 n4 r20.2).bind fun r21=>
 some ((),r21.2))
def W.z24:Spec:=.eff [] fun args σ=>packs args [.V,.I .i64] fun x=>S.z24 x.1 x.2 σ
def S.z16(h_:AVal)(v_:Int)(σ:Heap):Option (Bool×Heap):=
 ((S.z21 h_ v_ σ).bind fun r1=>
 cond (!r1) (
 some true)
 (nilck h_ (
 fld h_ 1 fun a2=>
 ld σ a2 (.V) fun v3=>
 ixA σ v3 1 v_ fun a4=>
 ld σ a4 (.I .i64) fun n5=>
 some (decide (n5>0))))).bind fun r6=>
 cond r6 (
 some (false,σ))
 (nilck h_ (
 fld h_ 2 fun a7=>
 ld σ a7 (.V) fun v8=>
 newK σ 1 [(.int .i64 v_)] fun l9 σ10=>
 appS σ10 1 8 v8 (.sl l9 0 1 none) fun v11 σ12=>
 nilck h_ (
 fld h_ 2 fun a13=>
 scal v11 (
 stC σ12 a13 [v11] fun σ14=>
 nilck h_ (
 fld h_ 2 fun a15=>
 ld σ14 a15 (.V) fun v16=>
 lenV v16 fun n17=>
 (S.z24 h_ (IntKind.i64.wrap (n17-1)) σ14).bind fun r18=>
 some (true,r18.2))))))
def W.z16:Spec:=.eff [.B] fun args σ=>packs args [.V,.I .i64] fun x=>S.z16 x.1 x.2 σ
def S.z12.b0(p1:AVal)(p2:Int):LT (Unit) (Unit):=fun x3 σ4=>
 nilck p1 (
 fld p1 0 fun a5=>
 ld σ4 a5 (.V) fun v6=>
 lenV v6 fun n7=>
 (S.z6 p2 σ4).bind fun r8=>
 cond (decide (n7<=r8)) (
 nilck p1 (
 fld p1 0 fun a9=>
 ld σ4 a9 (.V) fun v10=>
 newK σ4 1 [(.int .i64 0)] fun l11 σ12=>
 appS σ12 1 8 v10 (.sl l11 0 1 none) fun v13 σ14=>
 nilck p1 (
 fld p1 1 fun a15=>
 ld σ14 a15 (.V) fun v16=>
 ld σ4 a15 (.V) fun v17=>
 chk ((v17:AVal)=v16) (
 newK σ14 1 [(.int .i64 0)] fun l18 σ19=>
 appS σ19 1 8 v16 (.sl l18 0 1 none) fun v20 σ21=>
 nilck p1 (
 fld p1 0 fun a22=>
 scal v13 (
 stC σ21 a22 [v13] fun σ23=>
 nilck p1 (
 fld p1 1 fun a24=>
 scal v20 (
 stC σ23 a24 [v20] fun σ25=>
 nilck p1 (
 fld p1 0 fun a26=>
 ld σ25 a26 (.V) fun v27=>
 lenV v27 fun n28=>
 (S.z16 p1 (IntKind.i64.wrap (n28-1)) σ25).bind fun r29=>
 some (.inl (),r29.2))))))))))
 (some (.inr (),σ4)))
def S.z12(h_:AVal)(vars_:Int)(σ:Heap):Option (Unit×Heap):=
 (loopW (S.z12.b0 h_ vars_) () σ).bind fun r30=>
 some ((),r30.2)
def W.z12:Spec:=.eff [] fun args σ=>packs args [.V,.I .i64] fun x=>S.z12 x.1 x.2 σ
def S.z25(vars_:Int)(σ:Heap):Option (AVal×Heap):=
 mkS σ 1 8 [(.int .i64 0)] 1 1 fun v1 σ2=>
 mkS σ2 1 8 [(.int .i64 0)] 1 1 fun v3 σ4=>
 scal v1 (
 scal v3 (
 newK σ4 3 [v1,v3,.nils] fun l5 σ6=>
 (S.z12 (.ptr l5 0) vars_ σ6).bind fun r7=>
 some ((.ptr l5 0),r7.2)))
def W.z25:Spec:=.eff [.V] fun args σ=>packs args [.I .i64] fun x=>S.z25 x σ
def S.z101.b0(p7:AVal):LT (Unit) (Unit):=fun x8 σ9=>
 nilck p7 (
 fld p7 3 fun a10=>
 ld σ9 a10 (.V) fun v11=>
 lenV v11 fun n12=>
 nilck p7 (
 fld p7 0 fun a13=>
 ld σ9 a13 (.V) fun v14=>
 (S.z76 v14 σ9).bind fun r15=>
 cond (decide (n12<=r15)) (
 nilck p7 (
 fld p7 3 fun a16=>
 ld σ9 a16 (.V) fun v17=>
 newK σ9 1 [(.int .i64 0)] fun l18 σ19=>
 appS σ19 1 8 v17 (.sl l18 0 1 none) fun v20 σ21=>
 nilck p7 (
 fld p7 3 fun a22=>
 scal v20 (
 stC σ21 a22 [v20] fun σ23=>
 some (.inl (),σ23)))))
 (some (.inr (),σ9))))
def S.z101(e_:AVal)(vars_:Int)(σ:Heap):Option (Unit×Heap):=
 nilck e_ (
 fld e_ 0 fun a1=>
 ld σ a1 (.V) fun v2=>
 (S.z68 v2 vars_ σ).bind fun r3=>
 nilck e_ (
 fld e_ 1 fun a4=>
 ld r3.2 a4 (.V) fun v5=>
 (S.z12 v5 vars_ r3.2).bind fun r6=>
 (loopW (S.z101.b0 e_) () r6.2).bind fun r24=>
 some ((),r24.2)))
def W.z101:Spec:=.eff [] fun args σ=>packs args [.V,.I .i64] fun x=>S.z101 x.1 x.2 σ
def S.z113(vars_:Int)(p_:AVal)(σ:Heap):Option (AVal×Heap):=
 (S.z61 0 σ).bind fun r1=>
 (S.z25 0 r1.2).bind fun r2=>
 scal r1.1 (
 scal r2.1 (
 scal p_ (
 newK r2.2 8 [r1.1,r2.1,p_,.nils,.nils,.nils,(.int .i64 0),(.int .i64 16)] fun l3 σ4=>
 (S.z101 (.ptr l3 0) vars_ σ4).bind fun r5=>
 some ((.ptr l3 0),r5.2))))
def W.z113:Spec:=.eff [.V] fun args σ=>packs args [.I .i64,.V] fun x=>S.z113 x.1 x.2 σ
def S.z163(p0 p1:AVal)(σ:Heap):=y4a_ 151 p0 p1 σ
def W.z163:Spec:=.eff [] fun args σ=>packs args [.V,.V] fun x=>y4a_ 151 x.1 x.2 σ
def S.z156.b0(p11 p12:AVal):LT ((Int×Int)) (Int):=fun x13 σ14=>
 lenV p12 fun n15=>
 cond (decide (x13.2<n15)) (
 (ixA σ14 p12 1 x13.2 fun a16=>
 ld σ14 a16 (.I .i64) fun n17=>
 ixA σ14 p12 1 (IntKind.i64.wrap (x13.2-1)) fun a18=>
 ld σ14 a18 (.I .i64) fun n19=>
 cond (n17 != n19) (
 ixA σ14 p12 1 x13.2 fun a20=>
 ld σ14 a20 (.I .i64) fun n21=>
 ixA σ14 p11 1 x13.1 fun a22=>
 stC σ14 a22 [(.int .i64 n21)] fun σ23=>
 some ((IntKind.i64.wrap (x13.1+1)),σ23))
 (some (x13.1,σ14))).bind fun r24=>
 some (.inl (r24.1,(IntKind.i64.wrap (x13.2+1))),r24.2))
 (some (.inr x13.1,σ14))
def S.z156.b1(p2:AVal):LT (Int) ((Unit⊕AVal)):=fun x3 σ4=>
 lenV p2 fun n5=>
 cond (decide (x3<n5)) (
 ixA σ4 p2 1 x3 fun a6=>
 ld σ4 a6 (.I .i64) fun n7=>
 ixA σ4 p2 1 (IntKind.i64.wrap (x3-1)) fun a8=>
 ld σ4 a8 (.I .i64) fun n9=>
 cond (n7==n9) (
 slS σ4 1 p2 x3 none none fun v10=>
 (loopW (S.z156.b0 p2 v10) (x3,1) σ4).bind fun r25=>
 slS r25.2 1 p2 r25.1 none none fun v26=>
 y1n_ r25.2 1 [(.int .i64 0)] v26 fun σ27=>
 slS σ27 1 p2 0 (some r25.1) none fun v28=>
 some (.inr (.inr v28),σ27))
 (some (.inl (IntKind.i64.wrap (x3+1)),σ4)))
 (some (.inr (.inl ()),σ4))
def S.z156(s_:AVal)(σ:Heap):Option (AVal×Heap):=
  lenV s_ fun n1=>
  cond (decide (n1<2)) (
  some (s_,σ))
  ((loopW (S.z156.b1 s_) 1 σ).bind fun r29=>
  (match r29.1 with
 | .inl y30=>some (s_,r29.2)
 | .inr y31=>some (y31,r29.2)))
def W.z156:Spec:=.eff [.V] fun args σ=>packs args [.V] fun x=>S.z156 x σ
def S.z154(s_:AVal)(σ:Heap):Option AVal:=
 lenV s_ fun n1=>
 lenV s_ fun n2=>
 slS σ 1 s_ 0 (some n1) (some n2) fun v3=>
 some v3
def W.z154:Spec:=.pur [.V] fun args σ=>packs args [.V] fun x=>S.z154 x σ
def S.z50.b0(p5:AVal)(σ0:Heap):Int->Option (Int⊕(Unit⊕(AVal×Bool))):=fun x6=>
 lenV p5 fun n8=>
 cond (decide (x6<n8)) (
 ixA σ0 p5 1 x6 fun a9=>
 ld σ0 a9 (.I .i64) fun n10=>
 (S.z51 n10 σ0).bind fun r11=>
 ixA σ0 p5 1 (IntKind.i64.wrap (x6-1)) fun a12=>
 ld σ0 a12 (.I .i64) fun n13=>
 (S.z51 n13 σ0).bind fun r14=>
 cond (r11==r14) (
 some (.inr (.inr (p5,false))))
 (some (.inl (IntKind.i64.wrap (x6+1)))))
 (some (.inr (.inl ())))
def S.z50(c_:AVal)(σ:Heap):Option ((AVal×Bool)×Heap):=
  (S.z155 c_ σ).bind fun r1=>
  (S.z163 r1.1 (.fn (.func 151) [] []) r1.2).bind fun r2=>
  (S.z156 r1.1 r2.2).bind fun r3=>
  (S.z154 r3.1 r3.2).bind fun r4=>
  (loopP (S.z50.b0 r4 r3.2) 1).bind fun r15=>
  (match r15 with
 | .inl y16=>some ((r4,true),r3.2)
 | .inr y17=>some ((y17.1,y17.2),r3.2))
def W.z50:Spec:=.eff [.V,.B] fun args σ=>packs args [.V] fun x=>S.z50 x σ
def S.z88(l_:Int)(σ:Heap):Option Int:=
 cond (decide (l_<0)) (
 some (IntKind.i64.wrap ((IntKind.i64.wrap ((-2)*l_))+1)))
 (some (IntKind.i64.wrap (2*l_)))
def W.z88:Spec:=.pur [.I .i64] fun args σ=>packs args [.I .i64] fun x=>S.z88 x σ
def S.z82(p_:AVal)(id_:Int)(σ:Heap):Option (Unit×Heap):=
 nilck p_ (
 fld p_ 6 fun a1=>
 ld σ a1 (.V) fun v2=>
 ixA σ v2 3 id_ fun a3=>
 fld a3 2 fun a4=>
 ld σ a4 (.B) fun b5=>
 cond (!b5) (
 nilck p_ (
 fld p_ 6 fun a6=>
 ld σ a6 (.V) fun v7=>
 ixA σ v7 3 id_ fun a8=>
 fld a8 2 fun a9=>
 stC σ a9 [(.bool true)] fun σ10=>
 nilck p_ (
 fld p_ 8 fun a11=>
 ld σ10 a11 (.V) fun v12=>
 newK σ10 1 [(.int .i64 id_)] fun l13 σ14=>
 appS σ14 1 8 v12 (.sl l13 0 1 none) fun v15 σ16=>
 nilck p_ (
 fld p_ 8 fun a17=>
 scal v15 (
 stC σ16 a17 [v15] fun σ18=>
 some ((),σ18))))))
 (some ((),σ)))
def W.z82:Spec:=.eff [] fun args σ=>packs args [.V,.I .i64] fun x=>S.z82 x.1 x.2 σ
def S.z62.b0(p24:AVal)(p25:Int)(p26:AVal)(p27:Int):LT (Int) (Unit):=fun x28 σ29=>
 cond (decide (x28<p27)) (
 ixA σ29 p26 1 x28 fun a30=>
 ld σ29 a30 (.I .i64) fun n31=>
 ld σ29 p24 (.V) fun v32=>
 nilck v32 (
 fld v32 7 fun a33=>
 ld σ29 a33 (.V) fun v34=>
 (S.z88 n31 σ29).bind fun r35=>
 ld σ29 p24 (.V) fun v36=>
 nilck v36 (
 fld v36 7 fun a37=>
 ld σ29 a37 (.V) fun v38=>
 (S.z88 n31 σ29).bind fun r39=>
 ixA σ29 v38 1 r39 fun a40=>
 ld σ29 a40 (.V) fun v41=>
 newK σ29 1 [(.int .i64 p25)] fun l42 σ43=>
 appS σ43 1 8 v41 (.sl l42 0 1 none) fun v44 σ45=>
 ld σ45 a33 (.V) fun v46=>
 chk ((v46:AVal)=v34) (
 ld σ45 p24 (.V) fun v47=>
 chk ((v47:AVal)=v32) (
 ixA σ45 v34 1 r35 fun a48=>
 scal v44 (
 stC σ45 a48 [v44] fun σ49=>
 some (.inl (IntKind.i64.wrap (x28+1)),σ49)))))))
 (some (.inr (),σ29))
def S.z62(p0 p1:AVal)(σ:Heap):Option ((Int×Bool)×Heap):=
 scal p0 (
 newK σ 1 [p0] fun l1 σ2=>
 (S.z50 p1 σ2).bind fun r3=>
 (cond (!r3.1.2) (
 some (true,r3.2))
 ((S.z158 r3.1.1 (.fn (.func 103) [] [(.ptr l1 0)]) r3.2).bind fun r4=>
 some (r4.1,r4.2))).bind fun r5=>
 cond r5.1 (
 some ((0,false),r5.2))
 (ld r5.2 (.ptr l1 0) (.V) fun v6=>
 nilck v6 (
 fld v6 6 fun a7=>
 ld r5.2 a7 (.V) fun v8=>
 lenV v8 fun n9=>
 ld r5.2 (.ptr l1 0) (.V) fun v10=>
 ld r5.2 (.ptr l1 0) (.V) fun v11=>
 nilck v11 (
 fld v11 6 fun a12=>
 ld r5.2 a12 (.V) fun v13=>
 scal r3.1.1 (
 newK r5.2 3 [r3.1.1,(.bool true),(.bool false)] fun l14 σ15=>
 appS σ15 3 32 v13 (.sl l14 0 1 none) fun v16 σ17=>
 ld σ17 (.ptr l1 0) (.V) fun v18=>
 chk ((v18:AVal)=v10) (
 nilck v10 (
 fld v10 6 fun a19=>
 scal v16 (
 stC σ17 a19 [v16] fun σ20=>
 lenV r3.1.1 fun n21=>
 (cond (decide (n21>1)) (
 slS σ20 1 r3.1.1 0 (some 2) none fun v22=>
 lenV v22 fun n23=>
 (loopW (S.z62.b0 (.ptr l1 0) n9 v22 n23) 0 σ20).bind fun r50=>
 some ((),r50.2))
 (some ((),σ20))).bind fun r51=>
 ld r51.2 (.ptr l1 0) (.V) fun v52=>
 (S.z82 v52 n9 r51.2).bind fun r53=>
 some ((n9,true),r53.2)))))))))
def W.z62:Spec:=.eff [.I .i64,.B] fun args σ=>packs args [.V,.V] fun x=>S.z62 x.1 x.2 σ
def S.z99(e_ c_:AVal)(σ:Heap):Option (Bool×Heap):=
 scal e_ (
 newK σ 1 [e_] fun l1 σ2=>
 (S.z158 c_ (.fn (.func 62) [] [(.ptr l1 0)]) σ2).bind fun r3=>
 cond r3.1 (
 some (false,r3.2))
 (ld r3.2 (.ptr l1 0) (.V) fun v4=>
 nilck v4 (
 fld v4 0 fun a5=>
 ld r3.2 a5 (.V) fun v6=>
 (S.z62 v6 c_ r3.2).bind fun r7=>
 some (true,r7.2))))
def W.z99:Spec:=.eff [.B] fun args σ=>packs args [.V,.V] fun x=>S.z99 x.1 x.2 σ
def S.z73(p_:AVal)(level_:Int)(σ:Heap):Option (AVal×Heap):=
 (cond (decide (level_<0)) (
 some true)
 (nilck p_ (
 fld p_ 4 fun a1=>
 ld σ a1 (.V) fun v2=>
 lenV v2 fun n3=>
 some (decide (level_>=n3))))).bind fun r4=>
 cond r4 (
 some (.nils,σ))
 (nilck p_ (
 fld p_ 3 fun a5=>
 ld σ a5 (.V) fun v6=>
 nilck p_ (
 fld p_ 4 fun a7=>
 ld σ a7 (.V) fun v8=>
 ixA σ v8 1 level_ fun a9=>
 ld σ a9 (.I .i64) fun n10=>
 slS σ 1 v6 n10 none none fun v11=>
 (S.z155 v11 σ).bind fun r12=>
 some (r12.1,r12.2))))
def W.z73:Spec:=.eff [.V] fun args σ=>packs args [.V,.I .i64] fun x=>S.z73 x.1 x.2 σ
def S.z3(a_:AVal)(v_:Int)(σ:Heap):Option (Unit×Heap):=
 (cond (decide (v_>0)) (
 nilck a_ (
 fld a_ 0 fun a1=>
 ld σ a1 (.V) fun v2=>
 lenV v2 fun n3=>
 some (decide (v_<n3))))
 (some false)).bind fun r4=>
 cond r4 (
 nilck a_ (
 fld a_ 0 fun a5=>
 ld σ a5 (.V) fun v6=>
 ixA σ v6 1 v_ fun a7=>
 stC σ a7 [(.int .i8 0)] fun σ8=>
 some ((),σ8)))
 (some ((),σ))
def W.z3:Spec:=.eff [] fun args σ=>packs args [.V,.I .i64] fun x=>S.z3 x.1 x.2 σ
def S.z64.b0(p12:AVal)(p13 p14:Int)(p15:AVal)(p16:Int):LT (Int) (Unit):=fun x17 σ18=>
 cond (decide (x17<p16)) (
 ixA σ18 p15 1 x17 fun a19=>
 ld σ18 a19 (.I .i64) fun n20=>
 (S.z51 n20 σ18).bind fun r21=>
 nilck p12 (
 fld p12 0 fun a22=>
 ld σ18 a22 (.V) fun v23=>
 (S.z3 v23 r21 σ18).bind fun r24=>
 nilck p12 (
 fld p12 1 fun a25=>
 ld r24.2 a25 (.V) fun v26=>
 nilck p12 (
 fld p12 2 fun a27=>
 ld r24.2 a27 (.V) fun v28=>
 ixA r24.2 v26 1 r21 fun a29=>
 stC r24.2 a29 [(.int .i64 (-1))] fun σ30=>
 ixA σ30 v28 1 r21 fun a31=>
 stC σ30 a31 [(.int .i64 (-1))] fun σ32=>
 some (.inl (IntKind.i64.wrap (x17+1)),σ32)))))
 (some (.inr (),σ18))
def S.z64(p0:AVal)(p1:Int)(σ:Heap):Option (Unit×Heap):=
 nilck p0 (
 fld p0 4 fun a1=>
 ld σ a1 (.V) fun v2=>
 lenV v2 fun n3=>
 cond (decide ((if 0>p1 then 0 else p1)>=n3)) (
 some ((),σ))
 (nilck p0 (
 fld p0 4 fun a4=>
 ld σ a4 (.V) fun v5=>
 ixA σ v5 1 (if 0>p1 then 0 else p1) fun a6=>
 ld σ a6 (.I .i64) fun n7=>
 nilck p0 (
 fld p0 3 fun a8=>
 ld σ a8 (.V) fun v9=>
 slS σ 1 v9 n7 none none fun v10=>
 lenV v10 fun n11=>
 (loopW (S.z64.b0 p0 (if 0>p1 then 0 else p1) n7 v10 n11) 0 σ).bind fun r33=>
 nilck p0 (
 fld p0 3 fun a34=>
 ld r33.2 a34 (.V) fun v35=>
 slS r33.2 1 v35 0 (some n7) none fun v36=>
 nilck p0 (
 fld p0 4 fun a37=>
 ld r33.2 a37 (.V) fun v38=>
 slS r33.2 1 v38 0 (some (if 0>p1 then 0 else p1)) none fun v39=>
 nilck p0 (
 fld p0 3 fun a40=>
 scal v36 (
 stC r33.2 a40 [v36] fun σ41=>
 slS σ41 1 v38 0 (some (if 0>p1 then 0 else p1)) none fun v42=>
 chk ((v42:AVal)=v39) (
 nilck p0 (
 fld p0 4 fun a43=>
 scal v39 (
 stC σ41 a43 [v39] fun σ44=>
 nilck p0 (
 fld p0 5 fun a45=>
 ld σ44 a45 (.I .i64) fun n46=>
 nilck p0 (
 fld p0 5 fun a47=>
 stC σ44 a47 [(.int .i64 (if n7<n46 then n7 else n46))] fun σ48=>
 some ((),σ48))))))))))))))
def W.z64:Spec:=.eff [] fun args σ=>packs args [.V,.I .i64] fun x=>S.z64 x.1 x.2 σ
def S.z106.b0(p5:AVal)(p6:Int)(p7:AVal)(p8:Int):LT (Int) (Unit):=fun x9 σ10=>
 cond (decide (x9<p8)) (
 (ixA σ10 p7 1 x9 fun a11=>
 ld σ10 a11 (.I .i64) fun n12=>
 (S.z51 n12 σ10).bind fun r13=>
 nilck p5 (
 fld p5 3 fun a14=>
 ld σ10 a14 (.V) fun v15=>
 ixA σ10 v15 1 r13 fun a16=>
 stC σ10 a16 [(.int .i64 2)] fun σ17=>
 (cond (decide (n12>0)) (
 nilck p5 (
 fld p5 3 fun a18=>
 ld σ17 a18 (.V) fun v19=>
 ixA σ17 v19 1 r13 fun a20=>
 stC σ17 a20 [(.int .i64 1)] fun σ21=>
 some ((),σ21)))
 (some ((),σ17))).bind fun r22=>
 nilck p5 (
 fld p5 1 fun a23=>
 ld r22.2 a23 (.V) fun v24=>
 (S.z16 v24 r13 r22.2).bind fun r25=>
 some ((),r25.2)))).bind fun r26=>
 some (.inl (IntKind.i64.wrap (x9+1)),r26.2))
 (some (.inr (),σ10))
def S.z106(e_:AVal)(level_:Int)(σ:Heap):Option (Unit×Heap):=
 nilck e_ (
 fld e_ 0 fun a1=>
 ld σ a1 (.V) fun v2=>
 (S.z73 v2 level_ σ).bind fun r3=>
 lenV r3.1 fun n4=>
 (loopW (S.z106.b0 e_ level_ r3.1 n4) 0 r3.2).bind fun r27=>
 nilck e_ (
 fld e_ 0 fun a28=>
 ld r27.2 a28 (.V) fun v29=>
 (S.z64 v29 level_ r27.2).bind fun r30=>
 some ((),r30.2)))
def W.z106:Spec:=.eff [] fun args σ=>packs args [.V,.I .i64] fun x=>S.z106 x.1 x.2 σ
def S.z84(p_:AVal)(l_:Int)(σ:Heap):Option Int:=
 nilck p_ (
 fld p_ 0 fun a1=>
 ld σ a1 (.V) fun v2=>
 (S.z4 v2 l_ σ).bind fun r3=>
 cond (r3 != 2) (
 nilck p_ (
 fld p_ 4 fun a4=>
 ld σ a4 (.V) fun v5=>
 lenV v5 fun n6=>
 some (IntKind.i64.wrap (n6+1))))
 (nilck p_ (
 fld p_ 1 fun a7=>
 ld σ a7 (.V) fun v8=>
 (S.z51 l_ σ).bind fun r9=>
 ixA σ v8 1 r9 fun a10=>
 ld σ a10 (.I .i64) fun n11=>
 some n11)))
def W.z84:Spec:=.pur [.I .i64] fun args σ=>packs args [.V,.I .i64] fun x=>S.z84 x.1 x.2 σ
def S.z80.b0(p1 p2:AVal)(p3:Int)(σ0:Heap):(Int×Int)->Option ((Int×Int)⊕Int):=fun x4=>
 lenV p2 fun n6=>
 cond (decide (x4.2<n6)) (
 (ixA σ0 p2 1 x4.2 fun a7=>
 ld σ0 a7 (.I .i64) fun n8=>
 (S.z84 p1 n8 σ0).bind fun r9=>
 ixA σ0 p2 1 x4.1 fun a10=>
 ld σ0 a10 (.I .i64) fun n11=>
 (S.z84 p1 n11 σ0).bind fun r12=>
 cond (decide (r9>r12)) (
 some x4.2)
 (some x4.1)).bind fun r13=>
 some (.inl (r13,(IntKind.i64.wrap (x4.2+1)))))
 (some (.inr x4.1))
def S.z80(p_ l_:AVal)(k_:Int)(σ:Heap):Option (Unit×Heap):=
 (loopP (S.z80.b0 p_ l_ k_ σ) (k_,(IntKind.i64.wrap (k_+1)))).bind fun r14=>
 ixA σ l_ 1 r14 fun a15=>
 ld σ a15 (.I .i64) fun n16=>
 ixA σ l_ 1 k_ fun a17=>
 ld σ a17 (.I .i64) fun n18=>
 ixA σ l_ 1 k_ fun a19=>
 stC σ a19 [(.int .i64 n16)] fun σ20=>
 ixA σ20 l_ 1 r14 fun a21=>
 stC σ20 a21 [(.int .i64 n18)] fun σ22=>
 some ((),σ22)
def W.z80:Spec:=.eff [] fun args σ=>packs args [.V,.V,.I .i64] fun x=>S.z80 x.1 x.2.1 x.2.2 σ
def S.z87.b0(p15:AVal)(p16 p17 p18:Int)(p19:AVal)(p20:Int):LT (Int) (Unit):=fun x21 σ22=>
 cond (decide (x21<p20)) (
 (ixA σ22 p19 1 x21 fun a23=>
 ld σ22 a23 (.I .i64) fun n24=>
 (cond (n24 != p17) (
 some (n24 != p18))
 (some false)).bind fun r25=>
 cond r25 (
 nilck p15 (
 fld p15 7 fun a26=>
 ld σ22 a26 (.V) fun v27=>
 (S.z88 n24 σ22).bind fun r28=>
 nilck p15 (
 fld p15 7 fun a29=>
 ld σ22 a29 (.V) fun v30=>
 (S.z88 n24 σ22).bind fun r31=>
 ixA σ22 v30 1 r31 fun a32=>
 ld σ22 a32 (.V) fun v33=>
 newK σ22 1 [(.int .i64 p16)] fun l34 σ35=>
 appS σ35 1 8 v33 (.sl l34 0 1 none) fun v36 σ37=>
 ld σ37 a26 (.V) fun v38=>
 chk ((v38:AVal)=v27) (
 ixA σ37 v27 1 r28 fun a39=>
 scal v36 (
 stC σ37 a39 [v36] fun σ40=>
 some ((),σ40))))))
 (some ((),σ22))).bind fun r41=>
 some (.inl (IntKind.i64.wrap (x21+1)),r41.2))
 (some (.inr (),σ22))
def S.z87(p0:AVal)(p1:Int)(σ:Heap):Option (Unit×Heap):=
 nilck p0 (
 fld p0 6 fun a1=>
 ld σ a1 (.V) fun v2=>
 ixA σ v2 3 p1 fun a3=>
 fld a3 0 fun a4=>
 ld σ a4 (.V) fun v5=>
 lenV v5 fun n6=>
 cond (decide (n6<2)) (
 some ((),σ))
 (ixA σ v5 1 0 fun a7=>
 ld σ a7 (.I .i64) fun n8=>
 ixA σ v5 1 1 fun a9=>
 ld σ a9 (.I .i64) fun n10=>
 (S.z80 p0 v5 0 σ).bind fun r11=>
 (S.z80 p0 v5 1 r11.2).bind fun r12=>
 slS r12.2 1 v5 0 (some 2) none fun v13=>
 lenV v13 fun n14=>
 (loopW (S.z87.b0 p0 p1 n8 n10 v13 n14) 0 r12.2).bind fun r42=>
 some ((),r42.2)))
def W.z87:Spec:=.eff [] fun args σ=>packs args [.V,.I .i64] fun x=>S.z87 x.1 x.2 σ
def S.z85(p_:AVal)(l_ reason_:Int)(σ:Heap):Option (Unit×Heap):=
 nilck p_ (
 fld p_ 0 fun a1=>
 ld σ a1 (.V) fun v2=>
 (S.z2 v2 l_ σ).bind fun r3=>
 (S.z51 l_ r3.2).bind fun r4=>
 nilck p_ (
 fld p_ 1 fun a5=>
 ld r3.2 a5 (.V) fun v6=>
 nilck p_ (
 fld p_ 2 fun a7=>
 ld r3.2 a7 (.V) fun v8=>
 nilck p_ (
 fld p_ 4 fun a9=>
 ld r3.2 a9 (.V) fun v10=>
 lenV v10 fun n11=>
 ixA r3.2 v6 1 r4 fun a12=>
 stC r3.2 a12 [(.int .i64 n11)] fun σ13=>
 ixA σ13 v8 1 r4 fun a14=>
 stC σ13 a14 [(.int .i64 reason_)] fun σ15=>
 nilck p_ (
 fld p_ 3 fun a16=>
 ld σ15 a16 (.V) fun v17=>
 newK σ15 1 [(.int .i64 l_)] fun l18 σ19=>
 appS σ19 1 8 v17 (.sl l18 0 1 none) fun v20 σ21=>
 nilck p_ (
 fld p_ 3 fun a22=>
 scal v20 (
 stC σ21 a22 [v20] fun σ23=>
 some ((),σ23))))))))
def W.z85:Spec:=.eff [] fun args σ=>packs args [.V,.I .i64,.I .i64] fun x=>S.z85 x.1 x.2.1 x.2.2 σ
def S.z78(p0:AVal)(p1:Int)(σ:Heap):Option ((Bool×Bool)×Heap):=
  nilck p0 (
  fld p0 6 fun a1=>
  ld σ a1 (.V) fun v2=>
  ixA σ v2 3 p1 fun a3=>
  fld a3 0 fun a4=>
  ld σ a4 (.V) fun v5=>
  (S.z87 p0 p1 σ).bind fun r6=>
  ((lenV v5 fun n7=>
  cond (n7==0) (
  some true)
  (nilck p0 (
  fld p0 0 fun a8=>
  ld r6.2 a8 (.V) fun v9=>
  ixA r6.2 v5 1 0 fun a10=>
  ld r6.2 a10 (.I .i64) fun n11=>
  (S.z4 v9 n11 r6.2).bind fun r12=>
  some (r12==2)))).bind fun r13=>
  cond r13 (
  some (.inr (true,true),r6.2))
  ((lenV v5 fun n14=>
  cond (decide (n14>1)) (
  nilck p0 (
  fld p0 0 fun a15=>
  ld r6.2 a15 (.V) fun v16=>
  ixA r6.2 v5 1 1 fun a17=>
  ld r6.2 a17 (.I .i64) fun n18=>
  (S.z4 v16 n18 r6.2).bind fun r19=>
  some (r19 != 2)))
  (some false)).bind fun r20=>
  cond r20 (
  some (.inr (false,false),r6.2))
  (nilck p0 (
  fld p0 0 fun a21=>
  ld r6.2 a21 (.V) fun v22=>
  ixA r6.2 v5 1 0 fun a23=>
  ld r6.2 a23 (.I .i64) fun n24=>
  (S.z4 v22 n24 r6.2).bind fun r25=>
  cond (r25==0) (
  ixA r6.2 v5 1 0 fun a26=>
  ld r6.2 a26 (.I .i64) fun n27=>
  (S.z85 p0 n27 p1 r6.2).bind fun r28=>
  some (.inl (),r28.2))
  (some (.inl (),r6.2))))):Option ((Unit⊕(Bool×Bool))×Heap)).bind fun r29=>
  (match r29.1 with
 | .inl y30=>lenV v5 fun n32=>
  (cond (decide (n32>1)) (
  nilck p0 (
  fld p0 1 fun a33=>
  ld r29.2 a33 (.V) fun v34=>
  ixA r29.2 v5 1 1 fun a35=>
  ld r29.2 a35 (.I .i64) fun n36=>
  (S.z51 n36 r29.2).bind fun r37=>
  ixA r29.2 v34 1 r37 fun a38=>
  ld r29.2 a38 (.I .i64) fun n39=>
  some n39))
  (some 0)).bind fun r40=>
  nilck p0 (
  fld p0 1 fun a41=>
  ld r29.2 a41 (.V) fun v42=>
  ixA r29.2 v5 1 0 fun a43=>
  ld r29.2 a43 (.I .i64) fun n44=>
  (S.z51 n44 r29.2).bind fun r45=>
  ixA r29.2 v42 1 r45 fun a46=>
  ld r29.2 a46 (.I .i64) fun n47=>
  some ((false,(decide (n47>r40))),r29.2))
 | .inr y31=>some ((y31.1,y31.2),r29.2)))
def W.z78:Spec:=.eff [.B,.B] fun args σ=>packs args [.V,.I .i64] fun x=>S.z78 x.1 x.2 σ
def S.z77.b0(p6 p7:AVal)(p8:Int):LT ((Int×Int)) (Int):=fun x9 σ10=>
 cond (decide (x9.2<p8)) (
 (ixA σ10 p7 1 x9.2 fun a11=>
 ld σ10 a11 (.I .i64) fun n12=>
 nilck p6 (
 fld p6 6 fun a13=>
 ld σ10 a13 (.V) fun v14=>
 ixA σ10 v14 3 n12 fun a15=>
 fld a15 2 fun a16=>
 stC σ10 a16 [(.bool false)] fun σ17=>
 nilck p6 (
 fld p6 6 fun a18=>
 ld σ17 a18 (.V) fun v19=>
 ixA σ17 v19 3 n12 fun a20=>
 fld a20 1 fun a21=>
 ld σ17 a21 (.B) fun b22=>
 cond (!b22) (
 some (x9.1,σ17))
 (cond (decide (x9.1>=0)) (
 (S.z82 p6 n12 σ17).bind fun r23=>
 some (x9.1,r23.2))
 ((S.z78 p6 n12 σ17).bind fun r24=>
 (cond r24.1.1 (
 some n12)
 (some x9.1)).bind fun r25=>
 cond r24.1.2 (
 (S.z82 p6 n12 r24.2).bind fun r26=>
 some (r25,r26.2))
 (some (r25,r24.2))))))).bind fun r27=>
 some (.inl (r27.1,(IntKind.i64.wrap (x9.2+1))),r27.2))
 (some (.inr x9.1,σ10))
def S.z77(p_:AVal)(σ:Heap):Option (Int×Heap):=
 nilck p_ (
 fld p_ 8 fun a1=>
 ld σ a1 (.V) fun v2=>
 nilck p_ (
 fld p_ 8 fun a3=>
 stC σ a3 [.nils] fun σ4=>
 lenV v2 fun n5=>
 (loopW (S.z77.b0 p_ v2 n5) ((-1),0) σ4).bind fun r28=>
 some (r28.1,r28.2)))
def W.z77:Spec:=.eff [.I .i64] fun args σ=>packs args [.V] fun x=>S.z77 x σ
def S.z83.b0(p6:AVal)(p7:Int)(p8:AVal):LT (Int) ((Unit⊕Bool)):=fun x9 σ10=>
 lenV p8 fun n11=>
 cond (decide (x9<n11)) (
 nilck p6 (
 fld p6 0 fun a12=>
 ld σ10 a12 (.V) fun v13=>
 ixA σ10 p8 1 x9 fun a14=>
 ld σ10 a14 (.I .i64) fun n15=>
 (S.z4 v13 n15 σ10).bind fun r16=>
 cond (r16 != 2) (
 ixA σ10 p8 1 x9 fun a17=>
 ld σ10 a17 (.I .i64) fun n18=>
 ixA σ10 p8 1 1 fun a19=>
 ld σ10 a19 (.I .i64) fun n20=>
 ixA σ10 p8 1 1 fun a21=>
 stC σ10 a21 [(.int .i64 n18)] fun σ22=>
 ixA σ22 p8 1 x9 fun a23=>
 stC σ22 a23 [(.int .i64 n20)] fun σ24=>
 nilck p6 (
 fld p6 7 fun a25=>
 ld σ24 a25 (.V) fun v26=>
 ixA σ24 p8 1 1 fun a27=>
 ld σ24 a27 (.I .i64) fun n28=>
 (S.z88 n28 σ24).bind fun r29=>
 nilck p6 (
 fld p6 7 fun a30=>
 ld σ24 a30 (.V) fun v31=>
 ixA σ24 p8 1 1 fun a32=>
 ld σ24 a32 (.I .i64) fun n33=>
 (S.z88 n33 σ24).bind fun r34=>
 ixA σ24 v31 1 r34 fun a35=>
 ld σ24 a35 (.V) fun v36=>
 newK σ24 1 [(.int .i64 p7)] fun l37 σ38=>
 appS σ38 1 8 v36 (.sl l37 0 1 none) fun v39 σ40=>
 ld σ40 a25 (.V) fun v41=>
 chk ((v41:AVal)=v26) (
 ixA σ40 v26 1 r29 fun a42=>
 scal v39 (
 stC σ40 a42 [v39] fun σ43=>
 some (.inr (.inr true),σ43))))))
 (some (.inl (IntKind.i64.wrap (x9+1)),σ10))))
 (some (.inr (.inl ()),σ10))
def S.z83(p0:AVal)(p1:Int)(σ:Heap):Option (Bool×Heap):=
  nilck p0 (
  fld p0 6 fun a1=>
  ld σ a1 (.V) fun v2=>
  ixA σ v2 3 p1 fun a3=>
  fld a3 0 fun a4=>
  ld σ a4 (.V) fun v5=>
  (loopW (S.z83.b0 p0 p1 v5) 2 σ).bind fun r44=>
  (match r44.1 with
 | .inl y45=>some (false,r44.2)
 | .inr y46=>some (y46,r44.2)))
def W.z83:Spec:=.eff [.B] fun args σ=>packs args [.V,.I .i64] fun x=>S.z83 x.1 x.2 σ
def S.z86(p0:AVal)(p1 p2:Int)(σ:Heap):Option ((Bool×Bool)×Heap):=
  nilck p0 (
  fld p0 6 fun a1=>
  ld σ a1 (.V) fun v2=>
  ixA σ v2 3 p1 fun a3=>
  fld a3 0 fun a4=>
  ld σ a4 (.V) fun v5=>
  (nilck p0 (
  fld p0 6 fun a6=>
  ld σ a6 (.V) fun v7=>
  ixA σ v7 3 p1 fun a8=>
  fld a8 1 fun a9=>
  ld σ a9 (.B) fun b10=>
  cond (!b10) (
  some true)
  (ixA σ v5 1 0 fun a11=>
  ld σ a11 (.I .i64) fun n12=>
  cond (n12 != p2) (
  ixA σ v5 1 1 fun a13=>
  ld σ a13 (.I .i64) fun n14=>
  some (n14 != p2))
  (some false)))).bind fun r15=>
  cond r15 (
  some ((false,false),σ))
  (ixA σ v5 1 0 fun a16=>
  ld σ a16 (.I .i64) fun n17=>
  (cond (n17==p2) (
  ixA σ v5 1 1 fun a18=>
  ld σ a18 (.I .i64) fun n19=>
  ixA σ v5 1 0 fun a20=>
  ld σ a20 (.I .i64) fun n21=>
  ixA σ v5 1 0 fun a22=>
  stC σ a22 [(.int .i64 n19)] fun σ23=>
  ixA σ23 v5 1 1 fun a24=>
  stC σ23 a24 [(.int .i64 n21)] fun σ25=>
  some ((),σ25))
  (some ((),σ))).bind fun r26=>
  nilck p0 (
  fld p0 0 fun a27=>
  ld r26.2 a27 (.V) fun v28=>
  ixA r26.2 v5 1 0 fun a29=>
  ld r26.2 a29 (.I .i64) fun n30=>
  (S.z4 v28 n30 r26.2).bind fun r31=>
  (cond (r31 != 1) (
  (S.z83 p0 p1 r26.2).bind fun r32=>
  cond r32.1 (
  some (.inr (false,false),r32.2))
  (nilck p0 (
  fld p0 0 fun a33=>
  ld r32.2 a33 (.V) fun v34=>
  ixA r32.2 v5 1 0 fun a35=>
  ld r32.2 a35 (.I .i64) fun n36=>
  (S.z4 v34 n36 r32.2).bind fun r37=>
  cond (r37==2) (
  some (.inr (true,true),r32.2))
  (ixA r32.2 v5 1 0 fun a38=>
  ld r32.2 a38 (.I .i64) fun n39=>
  (S.z85 p0 n39 p1 r32.2).bind fun r40=>
  some (.inl (),r40.2)))))
  (some (.inl (),r26.2)):Option ((Unit⊕(Bool×Bool))×Heap)).bind fun r41=>
  (match r41.1 with
 | .inl y42=>nilck p0 (
  fld p0 1 fun a44=>
  ld r41.2 a44 (.V) fun v45=>
  ixA r41.2 v5 1 0 fun a46=>
  ld r41.2 a46 (.I .i64) fun n47=>
  (S.z51 n47 r41.2).bind fun r48=>
  ixA r41.2 v45 1 r48 fun a49=>
  ld r41.2 a49 (.I .i64) fun n50=>
  nilck p0 (
  fld p0 1 fun a51=>
  ld r41.2 a51 (.V) fun v52=>
  (S.z51 p2 r41.2).bind fun r53=>
  ixA r41.2 v52 1 r53 fun a54=>
  ld r41.2 a54 (.I .i64) fun n55=>
  (cond (decide (n50>n55)) (
  (S.z82 p0 p1 r41.2).bind fun r56=>
  some ((),r56.2))
  (some ((),r41.2))).bind fun r57=>
  some ((true,false),r57.2)))
 | .inr y43=>some ((y43.1,y43.2),r41.2)))))
def W.z86:Spec:=.eff [.B,.B] fun args σ=>packs args [.V,.I .i64,.I .i64] fun x=>S.z86 x.1 x.2.1 x.2.2 σ
def S.z79.b0(p12:AVal)(p13:Int)(p14:AVal)(p15:Int):LT ((AVal×Int×Int)) (((AVal×Int))):=fun x16 σ17=>
 cond (decide (x16.2.2<p15)) (
 (ixA σ17 p14 1 x16.2.2 fun a18=>
 ld σ17 a18 (.I .i64) fun n19=>
 cond (decide (x16.2.1>=0)) (
 newK σ17 1 [(.int .i64 n19)] fun l20 σ21=>
 appS σ21 1 8 x16.1 (.sl l20 0 1 none) fun v22 σ23=>
 some ((v22,x16.2.1),σ23))
 ((S.z86 p12 n19 p13 σ17).bind fun r24=>
 (cond r24.1.1 (
 newK r24.2 1 [(.int .i64 n19)] fun l25 σ26=>
 appS σ26 1 8 x16.1 (.sl l25 0 1 none) fun v27 σ28=>
 some (v27,σ28))
 (some (x16.1,r24.2))).bind fun r29=>
 cond r24.1.2 (
 some ((r29.1,n19),r29.2))
 (some ((r29.1,x16.2.1),r29.2)))).bind fun r30=>
 some (.inl (r30.1.1,r30.1.2,(IntKind.i64.wrap (x16.2.2+1))),r30.2))
 (some (.inr (x16.1,x16.2.1),σ17))
def S.z79(p0:AVal)(p1:Int)(σ:Heap):Option (Int×Heap):=
 nilck p0 (
 fld p0 7 fun a1=>
 ld σ a1 (.V) fun v2=>
 (S.z88 p1 σ).bind fun r3=>
 ixA σ v2 1 r3 fun a4=>
 ld σ a4 (.V) fun v5=>
 nilck p0 (
 fld p0 7 fun a6=>
 ld σ a6 (.V) fun v7=>
 (S.z88 p1 σ).bind fun r8=>
 ixA σ v7 1 r8 fun a9=>
 stC σ a9 [.nils] fun σ10=>
 lenV v5 fun n11=>
 (loopW (S.z79.b0 p0 p1 v5 n11) (.nils,(-1),0) σ10).bind fun r31=>
 nilck p0 (
 fld p0 7 fun a32=>
 ld r31.2 a32 (.V) fun v33=>
 (S.z88 p1 r31.2).bind fun r34=>
 nilck p0 (
 fld p0 7 fun a35=>
 ld r31.2 a35 (.V) fun v36=>
 (S.z88 p1 r31.2).bind fun r37=>
 ixA r31.2 v36 1 r37 fun a38=>
 ld r31.2 a38 (.V) fun v39=>
 appS r31.2 1 8 r31.1.1 v39 fun v40 σ41=>
 ld σ41 a32 (.V) fun v42=>
 chk ((v42:AVal)=v33) (
 ixA σ41 v33 1 r34 fun a43=>
 scal v40 (
 stC σ41 a43 [v40] fun σ44=>
 some (r31.1.2,σ44)))))))
def W.z79:Spec:=.eff [.I .i64] fun args σ=>packs args [.V,.I .i64] fun x=>S.z79 x.1 x.2 σ
def S.z71.b0(p2:AVal):LT (Unit) ((Unit⊕Int)):=fun x3 σ4=>
 nilck p2 (
 fld p2 5 fun a5=>
 ld σ4 a5 (.I .i64) fun n6=>
 nilck p2 (
 fld p2 3 fun a7=>
 ld σ4 a7 (.V) fun v8=>
 lenV v8 fun n9=>
 cond (decide (n6<n9)) (
 nilck p2 (
 fld p2 3 fun a10=>
 ld σ4 a10 (.V) fun v11=>
 nilck p2 (
 fld p2 5 fun a12=>
 ld σ4 a12 (.I .i64) fun n13=>
 ixA σ4 v11 1 n13 fun a14=>
 ld σ4 a14 (.I .i64) fun n15=>
 (S.z79 p2 (IntKind.i64.wrap (0-n15)) σ4).bind fun r16=>
 cond (decide (r16.1>=0)) (
 some (.inr (.inr r16.1),r16.2))
 (nilck p2 (
 fld p2 5 fun a17=>
 ld r16.2 a17 (.I .i64) fun n18=>
 nilck p2 (
 fld p2 5 fun a19=>
 stC r16.2 a19 [(.int .i64 (IntKind.i64.wrap (n18+1)))] fun σ20=>
 some (.inl (),σ20)))))))
 (some (.inr (.inl ()),σ4))))
def S.z71(p_:AVal)(σ:Heap):Option (Int×Heap):=
  (S.z77 p_ σ).bind fun r1=>
  cond (decide (r1.1>=0)) (
  some (r1.1,r1.2))
  ((loopW (S.z71.b0 p_) () r1.2).bind fun r21=>
  (match r21.1 with
 | .inl y22=>some ((-1),r21.2)
 | .inr y23=>some (y23,r21.2)))
def W.z71:Spec:=.eff [.I .i64] fun args σ=>packs args [.V] fun x=>S.z71 x σ
def S.z69(p_:AVal)(σ:Heap):Option Int:=
 nilck p_ (
 fld p_ 4 fun a1=>
 ld σ a1 (.V) fun v2=>
 lenV v2 fun n3=>
 some n3)
def W.z69:Spec:=.pur [.I .i64] fun args σ=>packs args [.V] fun x=>S.z69 x σ
def S.z108.b0(p7 p8 p9:AVal)(p10:Int):LT ((AVal×Int)) (AVal):=fun x11 σ12=>
 cond (decide (x11.2<p10)) (
 ixA σ12 p8 1 x11.2 fun a13=>
 ld σ12 a13 (.I .i64) fun n14=>
 newK σ12 1 [(.int .i64 (IntKind.i64.wrap (0-n14)))] fun l15 σ16=>
 appS σ16 1 8 x11.1 (.sl l15 0 1 none) fun v17 σ18=>
 some (.inl (v17,(IntKind.i64.wrap (x11.2+1))),σ18))
 (some (.inr x11.1,σ12))
def S.z108(e_ core_:AVal)(σ:Heap):Option (AVal×Heap):=
 newK σ 3 [(.bool false),.nils,.nils] fun l1 σ2=>
 lenV core_ fun n3=>
 mkS σ2 1 8 [(.int .i64 0)] 0 n3 fun v4 σ5=>
 lenV core_ fun n6=>
 (loopW (S.z108.b0 e_ core_ (.ptr l1 0) n6) (v4,0) σ5).bind fun r19=>
 nilck e_ (
 fld e_ 5 fun a20=>
 ld r19.2 a20 (.V) fun v21=>
 scal r19.1 (
 newK r19.2 2 [(.bool false),r19.1] fun l22 σ23=>
 appS σ23 2 32 v21 (.sl l22 0 1 none) fun v24 σ25=>
 nilck e_ (
 fld e_ 5 fun a26=>
 scal v24 (
 stC σ25 a26 [v24] fun σ27=>
 scal core_ (
 stC σ27 (.ptr l1 0) [(.bool false),.nils,core_] fun σ28=>
 ldG σ28 (.ptr l1 0) 3 fun g29=>
 some (g29,σ28))))))
def W.z108:Spec:=.eff [.V] fun args σ=>packs args [.V,.V] fun x=>S.z108 x.1 x.2 σ
def S.z55(p_:AVal)(σ:Heap):Option (Bool×Heap):=
 nilck p_ (
 fld p_ 9 fun a1=>
 ld σ a1 (.I .i64) fun n2=>
 nilck p_ (
 fld p_ 9 fun a3=>
 stC σ a3 [(.int .i64 (IntKind.i64.wrap (n2+1)))] fun σ4=>
 nilck p_ (
 fld p_ 10 fun a5=>
 ld σ4 a5 (.I .i64) fun n6=>
 nilck p_ (
 fld p_ 10 fun a7=>
 stC σ4 a7 [(.int .i64 (IntKind.i64.wrap (n6+1)))] fun σ8=>
 (nilck p_ (
 fld p_ 8 fun a9=>
 ld σ8 a9 (.I .i64) fun n10=>
 cond (decide (n10<=0)) (
 some true)
 (nilck p_ (
 fld p_ 9 fun a11=>
 ld σ8 a11 (.I .i64) fun n12=>
 nilck p_ (
 fld p_ 8 fun a13=>
 ld σ8 a13 (.I .i64) fun n14=>
 some (decide (n12<=n14))))))).bind fun r15=>
 some (r15,σ8)))))
def W.z55:Spec:=.eff [.B] fun args σ=>packs args [.V] fun x=>S.z55 x σ
def S.z81(p_:AVal)(id_:Int)(σ:Heap):Option Bool:=
 (cond (decide (id_>=0)) (
 nilck p_ (
 fld p_ 6 fun a1=>
 ld σ a1 (.V) fun v2=>
 lenV v2 fun n3=>
 cond (decide (id_<n3)) (
 nilck p_ (
 fld p_ 6 fun a4=>
 ld σ a4 (.V) fun v5=>
 ixA σ v5 3 id_ fun a6=>
 fld a6 1 fun a7=>
 ld σ a7 (.B) fun b8=>
 some b8))
 (some false)))
 (some false)).bind fun r9=>
 some r9
def W.z81:Spec:=.pur [.B] fun args σ=>packs args [.V,.I .i64] fun x=>S.z81 x.1 x.2 σ
def S.z65(p_:AVal)(id_:Int)(σ:Heap):Option (AVal×Heap):=
 (S.z81 p_ id_ σ).bind fun r1=>
 cond (!r1) (
 some (.nils,σ))
 (nilck p_ (
 fld p_ 6 fun a2=>
 ld σ a2 (.V) fun v3=>
 ixA σ v3 3 id_ fun a4=>
 fld a4 0 fun a5=>
 ld σ a5 (.V) fun v6=>
 (S.z155 v6 σ).bind fun r7=>
 some (r7.1,r7.2)))
def W.z65:Spec:=.eff [.V] fun args σ=>packs args [.V,.I .i64] fun x=>S.z65 x.1 x.2 σ
def S.z42(p_ c_:AVal)(σ:Heap):Option (Bool×Heap):=
 scal p_ (
 newK σ 1 [p_] fun l1 σ2=>
 (S.z158 c_ (.fn (.func 204) [] [(.ptr l1 0)]) σ2).bind fun r3=>
 some ((!r3.1),r3.2))
def W.z42:Spec:=.eff [.B] fun args σ=>packs args [.V,.V] fun x=>S.z42 x.1 x.2 σ
def S.z70(p_:AVal)(v_:Int)(σ:Heap):Option Int:=
 (cond (decide (v_<1)) (
 some true)
 (nilck p_ (
 fld p_ 1 fun a1=>
 ld σ a1 (.V) fun v2=>
 lenV v2 fun n3=>
 some (decide (v_>=n3))))).bind fun r4=>
 cond r4 (
 some (-1))
 (nilck p_ (
 fld p_ 1 fun a5=>
 ld σ a5 (.V) fun v6=>
 ixA σ v6 1 v_ fun a7=>
 ld σ a7 (.I .i64) fun n8=>
 some n8))
def W.z70:Spec:=.pur [.I .i64] fun args σ=>packs args [.V,.I .i64] fun x=>S.z70 x.1 x.2 σ
def S.z44.b0(p2 p3:AVal)(p4:Int)(σ0:Heap):(Int×Int)->Option ((Int×Int)⊕Int):=fun x5=>
 cond (decide (x5.2<p4)) (
 ixA σ0 p3 1 x5.2 fun a7=>
 ld σ0 a7 (.I .i64) fun n8=>
 (S.z51 n8 σ0).bind fun r9=>
 (S.z70 p2 r9 σ0).bind fun r10=>
 some (.inl ((if r10>x5.1 then r10 else x5.1),(IntKind.i64.wrap (x5.2+1)))))
 (some (.inr x5.1))
def S.z44(p_ c_:AVal)(σ:Heap):Option Int:=
 lenV c_ fun n1=>
 (loopP (S.z44.b0 p_ c_ n1 σ) (0,0)).bind fun r11=>
 some r11
def W.z44:Spec:=.pur [.I .i64] fun args σ=>packs args [.V,.V] fun x=>S.z44 x.1 x.2 σ
def S.z45.b0(p2:AVal)(p3:Int)(p4:AVal)(p5:Int):LT (Int) (Unit):=fun x6 σ7=>
 cond (decide (x6<p5)) (
 (ixA σ7 p4 1 x6 fun a8=>
 ld σ7 a8 (.I .i64) fun n9=>
 (S.z51 n9 σ7).bind fun r10=>
 nilck p2 (
 fld p2 0 fun a11=>
 ld σ7 a11 (.V) fun v12=>
 (S.z70 v12 r10 σ7).bind fun r13=>
 (cond (n9==p3) (
 some (true,σ7))
 (nilck p2 (
 fld p2 3 fun a14=>
 ld σ7 a14 (.V) fun v15=>
 mgetZ σ7 v15 .i64 r10 (.bool false) fun x16 b17=>
 asK (.B) x16 fun b18=>
 cond b18 (
 some (true,σ7))
 (cond (r13==0) (
 nilck p2 (
 fld p2 1 fun a19=>
 ld σ7 a19 (.I .i64) fun n20=>
 some ((decide (n20>0)),σ7)))
 (some (false,σ7)))))).bind fun r21=>
 cond r21.1 (
 some ((),r21.2))
 (nilck p2 (
 fld p2 3 fun a22=>
 ld r21.2 a22 (.V) fun v23=>
 mputK r21.2 v23 .i64 r10 (.bool true) fun σ24=>
 nilck p2 (
 fld p2 4 fun a25=>
 ld σ24 a25 (.V) fun v26=>
 newK σ24 1 [(.int .i64 r10)] fun l27 σ28=>
 appS σ28 1 8 v26 (.sl l27 0 1 none) fun v29 σ30=>
 nilck p2 (
 fld p2 4 fun a31=>
 scal v29 (
 stC σ30 a31 [v29] fun σ32=>
 nilck p2 (
 fld p2 1 fun a33=>
 ld σ32 a33 (.I .i64) fun n34=>
 cond (r13==n34) (
 nilck p2 (
 fld p2 2 fun a35=>
 ld σ32 a35 (.I .i64) fun n36=>
 nilck p2 (
 fld p2 2 fun a37=>
 stC σ32 a37 [(.int .i64 (IntKind.i64.wrap (n36+1)))] fun σ38=>
 some ((),σ38))))
 (nilck p2 (
 fld p2 5 fun a39=>
 ld σ32 a39 (.V) fun v40=>
 newK σ32 1 [(.int .i64 n9)] fun l41 σ42=>
 appS σ42 1 8 v40 (.sl l41 0 1 none) fun v43 σ44=>
 nilck p2 (
 fld p2 5 fun a45=>
 scal v43 (
 stC σ44 a45 [v43] fun σ46=>
 some ((),σ46))))))))))))).bind fun r47=>
 some (.inl (IntKind.i64.wrap (x6+1)),r47.2))
 (some (.inr (),σ7))
def S.z45(p0 p1:AVal)(p2:Int)(σ:Heap):Option (Unit×Heap):=
 lenV p1 fun n1=>
 (loopW (S.z45.b0 p0 p2 p1 n1) 0 σ).bind fun r48=>
 some ((),r48.2)
def W.z45:Spec:=.eff [] fun args σ=>packs args [.V,.V,.I .i64] fun x=>S.z45 x.1 x.2.1 x.2.2 σ
def S.z74(p_:AVal)(σ:Heap):Option (AVal×Heap):=
 nilck p_ (
 fld p_ 3 fun a1=>
 ld σ a1 (.V) fun v2=>
 (S.z155 v2 σ).bind fun r3=>
 some (r3.1,r3.2))
def W.z74:Spec:=.eff [.V] fun args σ=>packs args [.V] fun x=>S.z74 x σ
def S.z37(p_ c_:AVal)(σ:Heap):Option Int:=
 lenV c_ fun n1=>
 cond (n1==0) (
 some 0)
 (slS σ 1 c_ 1 none none fun v2=>
 (S.z44 p_ v2 σ).bind fun r3=>
 some r3)
def W.z37:Spec:=.pur [.I .i64] fun args σ=>packs args [.V,.V] fun x=>S.z37 x.1 x.2 σ
def S.z40.b0(p4 p5 p6:AVal)(p7:Int):LT (Int) (Unit):=fun x8 σ9=>
 cond (decide (x8<p7)) (
 ixA σ9 p6 1 x8 fun a10=>
 ld σ9 a10 (.I .i64) fun n11=>
 (S.z51 n11 σ9).bind fun r12=>
 (S.z70 p4 r12 σ9).bind fun r13=>
 mputK σ9 p5 .i64 r13 (.bool true) fun σ14=>
 some (.inl (IntKind.i64.wrap (x8+1)),σ14))
 (some (.inr (),σ9))
def S.z40(p_ c_:AVal)(σ:Heap):Option (Int×Heap):=
 newM σ fun l1 σ2=>
 lenV c_ fun n3=>
 (loopW (S.z40.b0 p_ (.map l1) c_ n3) 0 σ2).bind fun r15=>
 lenM r15.2 (.map l1) fun n16=>
 some (n16,r15.2)
def W.z40:Spec:=.eff [.I .i64] fun args σ=>packs args [.V,.V] fun x=>S.z40 x.1 x.2 σ
def S.z72(p_:AVal)(v_:Int)(σ:Heap):Option Int:=
 (cond (decide (v_<1)) (
 some true)
 (nilck p_ (
 fld p_ 2 fun a1=>
 ld σ a1 (.V) fun v2=>
 lenV v2 fun n3=>
 some (decide (v_>=n3))))).bind fun r4=>
 cond r4 (
 some (-1))
 (nilck p_ (
 fld p_ 2 fun a5=>
 ld σ a5 (.V) fun v6=>
 ixA σ v6 1 v_ fun a7=>
 ld σ a7 (.I .i64) fun n8=>
 some n8))
def W.z72:Spec:=.pur [.I .i64] fun args σ=>packs args [.V,.I .i64] fun x=>S.z72 x.1 x.2 σ
def S.z39.b0(p18 p19:AVal)(p20 p21:AVal):LT (Int) ((Unit⊕Bool)):=fun x22 σ23=>
  cond (decide (x22>=0)) (
  (ixA σ23 p21 1 x22 fun a24=>
  ld σ23 a24 (.I .i64) fun n25=>
  (S.z51 n25 σ23).bind fun r26=>
  (nilck p20 (
  fld p20 3 fun a27=>
  ld σ23 a27 (.V) fun v28=>
  mgetZ σ23 v28 .i64 r26 (.bool false) fun x29 b30=>
  asK (.B) x29 fun b31=>
  cond (!b31) (
  some (true,σ23))
  ((S.z70 p18 r26 σ23).bind fun r32=>
  nilck p20 (
  fld p20 1 fun a33=>
  ld σ23 a33 (.I .i64) fun n34=>
  some ((r32 != n34),σ23))))).bind fun r35=>
  cond r35.1 (
  some (.inl (),r35.2))
  (nilck p20 (
  fld p20 2 fun a36=>
  ld r35.2 a36 (.I .i64) fun n37=>
  cond (n37==1) (
  newK r35.2 1 [(.int .i64 (IntKind.i64.wrap (0-n25)))] fun l38 σ39=>
  nilck p20 (
  fld p20 5 fun a40=>
  ld σ39 a40 (.V) fun v41=>
  appS σ39 1 8 (.sl l38 0 1 none) v41 fun v42 σ43=>
  (S.z37 p18 v42 σ43).bind fun r44=>
  (S.z40 p18 v42 σ43).bind fun r45=>
  nilck p20 (
  fld p20 4 fun a46=>
  ld r45.2 a46 (.V) fun v47=>
  ld σ43 a46 (.V) fun v48=>
  chk ((v48:AVal)=v47) (
  scal v42 (
  scal v47 (
  stC r45.2 p19 [v42,(.int .i64 r44),(.int .i64 r45.1),v47] fun σ49=>
  some (.inr true,σ49)))))))
  (nilck p20 (
  fld p20 2 fun a50=>
  ld r35.2 a50 (.I .i64) fun n51=>
  nilck p20 (
  fld p20 2 fun a52=>
  stC r35.2 a52 [(.int .i64 (IntKind.i64.wrap (n51-1)))] fun σ53=>
  (S.z72 p18 r26 σ53).bind fun r54=>
  (S.z65 p18 r54 σ53).bind fun r55=>
  (S.z45 p20 r55.1 n25 r55.2).bind fun r56=>
  some (.inl (),r56.2)))))):Option ((Unit⊕Bool)×Heap)).bind fun r57=>
  (match r57.1 with
 | .inl y58=>some (.inl (IntKind.i64.wrap (x22-1)),r57.2)
 | .inr y59=>some (.inr (.inr y59),r57.2)))
  (some (.inr (.inl ()),σ23))
def S.z39(p0:AVal)(p1:Int)(σ:Heap):Option ((AVal×Bool)×Heap):=
  newK σ 4 [.nils,(.int .i64 0),(.int .i64 0),.nils] fun l1 σ2=>
  (S.z65 p0 p1 σ2).bind fun r3=>
  (lenV r3.1 fun n4=>
  cond (n4==0) (
  some (true,r3.2))
  ((S.z69 p0 r3.2).bind fun r5=>
  cond (r5==0) (
  some (true,r3.2))
  ((S.z42 p0 r3.1 r3.2).bind fun r6=>
  some ((!r6.1),r6.2)))).bind fun r7=>
  cond r7.1 (
  stC r7.2 (.ptr l1 0) [.nils,(.int .i64 0),(.int .i64 0),.nils] fun σ8=>
  ldG σ8 (.ptr l1 0) 4 fun g9=>
  some ((g9,false),σ8))
  ((S.z44 p0 r3.1 r7.2).bind fun r10=>
  newM r7.2 fun l11 σ12=>
  scal p0 (
  newK σ12 6 [p0,(.int .i64 r10),(.int .i64 0),(.map l11),.nils,.nils] fun l13 σ14=>
  (S.z45 (.ptr l13 0) r3.1 0 σ14).bind fun r15=>
  (S.z74 p0 r15.2).bind fun r16=>
  lenV r16.1 fun n17=>
  (loopW (S.z39.b0 p0 (.ptr l1 0) (.ptr l13 0) r16.1) (IntKind.i64.wrap (n17-1)) r16.2).bind fun r60=>
  (match r60.1 with
 | .inl y61=>stC r60.2 (.ptr l1 0) [.nils,(.int .i64 0),(.int .i64 0),.nils] fun σ63=>
  ldG σ63 (.ptr l1 0) 4 fun g64=>
  some ((g64,false),σ63)
 | .inr y62=>ldG r60.2 (.ptr l1 0) 4 fun g65=>
  some ((g65,y62),r60.2))))
def W.z39:Spec:=.eff [.V,.B] fun args σ=>packs args [.V,.I .i64] fun x=>S.z39 x.1 x.2 σ
def S.z46.b0(self:AVal->Int->Heap->Option (Bool×Heap))(p13:AVal)(p14:Int)(p15:AVal)(p16:Int):LT ((Bool×Int)) (Bool):=fun x17 σ18=>
 cond (decide (x17.2<p16)) (
 ixA σ18 p15 1 x17.2 fun a19=>
 ld σ18 a19 (.I .i64) fun n20=>
 (S.z51 n20 σ18).bind fun r21=>
 (cond (r21 != p14) (
 nilck p13 (
 fld p13 1 fun a22=>
 ld σ18 a22 (.V) fun v23=>
 mgetZ σ18 v23 .i64 r21 (.bool false) fun x24 b25=>
 asK (.B) x24 fun b26=>
 cond (!b26) (
 (self p13 r21 σ18).bind fun r27=>
 some ((!r27.1),r27.2))
 (some (false,σ18))))
 (some (false,σ18))).bind fun r28=>
 cond r28.1 (
 some (.inr false,r28.2))
 (some (.inl (x17.1,(IntKind.i64.wrap (x17.2+1))),r28.2)))
 (some (.inr x17.1,σ18))
def S.z46.r(self:AVal->Int->Heap->Option (Bool×Heap))(p0:AVal)(p1:Int)(σ:Heap):Option (Bool×Heap):=
 nilck p0 (
 fld p0 2 fun a1=>
 ld σ a1 (.V) fun v2=>
 mgetZ σ v2 .i64 p1 (.bool false) fun x3 b4=>
 asK (.B) x3 fun b5=>
 cond b4 (
 some (b5,σ))
 (nilck p0 (
 fld p0 0 fun a6=>
 ld σ a6 (.V) fun v7=>
 (S.z72 v7 p1 σ).bind fun r8=>
 (cond (decide (r8>=0)) (
 nilck p0 (
 fld p0 0 fun a9=>
 ld σ a9 (.V) fun v10=>
 (S.z65 v10 r8 σ).bind fun r11=>
 lenV r11.1 fun n12=>
 (loopW (S.z46.b0 self p0 p1 r11.1 n12) ((decide (r8>=0)),0) r11.2).bind fun r29=>
 some (r29.1,r29.2)))
 (some ((decide (r8>=0)),σ))).bind fun r30=>
 nilck p0 (
 fld p0 2 fun a31=>
 ld r30.2 a31 (.V) fun v32=>
 mputK r30.2 v32 .i64 p1 (.bool r30.1) fun σ33=>
 some (r30.1,σ33)))))
def S.z46.n:Nat->AVal->Int->Heap->Option (Bool×Heap)
  |0=>fun _ _ _=>none
  |n+1=>S.z46.r (S.z46.n n)
def S.z46(p0:AVal)(p1:Int)(σ:Heap):Option (Bool×Heap):=lim fun n=>S.z46.n n p0 p1 σ
def W.z46:Spec:=.eff [.B] fun args σ=>packs args [.V,.I .i64] fun x=>S.z46 x.1 x.2 σ
def S.z41.b0(p8 p9:AVal)(p10:Int):LT (Int) (Unit):=fun x11 σ12=>
 cond (decide (x11<p10)) (
 ixA σ12 p8 1 x11 fun a13=>
 ld σ12 a13 (.I .i64) fun n14=>
 nilck p9 (
 fld p9 1 fun a15=>
 ld σ12 a15 (.V) fun v16=>
 (S.z51 n14 σ12).bind fun r17=>
 mputK σ12 v16 .i64 r17 (.bool true) fun σ18=>
 some (.inl (IntKind.i64.wrap (x11+1)),σ18)))
 (some (.inr (),σ12))
def S.z41.b1(p21 p22:AVal)(p23:Int):LT ((AVal×Int)) (AVal):=fun x24 σ25=>
 cond (decide (x24.2<p23)) (
 (ixA σ25 p22 1 x24.2 fun a26=>
 ld σ25 a26 (.I .i64) fun n27=>
 (cond (decide (x24.2>0)) (
 (S.z51 n27 σ25).bind fun r28=>
 (S.z46 p21 r28 σ25).bind fun r29=>
 some (r29.1,r29.2))
 (some (false,σ25))).bind fun r30=>
 cond r30.1 (
 some (x24.1,r30.2))
 (newK r30.2 1 [(.int .i64 n27)] fun l31 σ32=>
 appS σ32 1 8 x24.1 (.sl l31 0 1 none) fun v33 σ34=>
 some (v33,σ34))).bind fun r35=>
 some (.inl (r35.1,(IntKind.i64.wrap (x24.2+1))),r35.2))
 (some (.inr x24.1,σ25))
def S.z41(p_ c_:AVal)(σ:Heap):Option (AVal×Heap):=
 newM σ fun l1 σ2=>
 newM σ2 fun l3 σ4=>
 scal p_ (
 newK σ4 3 [p_,(.map l1),(.map l3)] fun l5 σ6=>
 lenV c_ fun n7=>
 (loopW (S.z41.b0 c_ (.ptr l5 0) n7) 0 σ6).bind fun r19=>
 lenV c_ fun n20=>
 (loopW (S.z41.b1 (.ptr l5 0) c_ n20) (.nils,0) r19.2).bind fun r36=>
 some (r36.1,r36.2))
def W.z41:Spec:=.eff [.V] fun args σ=>packs args [.V,.V] fun x=>S.z41 x.1 x.2 σ
def S.z20.b0(p5:AVal)(p6:Int):LT (Int) (Int):=fun x7 σ8=>
 (nilck p5 (
 fld p5 2 fun a9=>
 ld σ8 a9 (.V) fun v10=>
 lenV v10 fun n11=>
 cond (decide ((IntKind.i64.wrap ((IntKind.i64.wrap ((IntKind.i64.wrap (2*x7))+1))+1))<n11)) (
 nilck p5 (
 fld p5 2 fun a12=>
 ld σ8 a12 (.V) fun v13=>
 ixA σ8 v13 1 (IntKind.i64.wrap ((IntKind.i64.wrap ((IntKind.i64.wrap (2*x7))+1))+1)) fun a14=>
 ld σ8 a14 (.I .i64) fun n15=>
 nilck p5 (
 fld p5 2 fun a16=>
 ld σ8 a16 (.V) fun v17=>
 ixA σ8 v17 1 (IntKind.i64.wrap ((IntKind.i64.wrap (2*x7))+1)) fun a18=>
 ld σ8 a18 (.I .i64) fun n19=>
 (S.z17 p5 n15 n19 σ8).bind fun r20=>
 some r20)))
 (some false))).bind fun r21=>
 (cond r21 (
 some (IntKind.i64.wrap ((IntKind.i64.wrap ((IntKind.i64.wrap (2*x7))+1))+1)))
 (some (IntKind.i64.wrap ((IntKind.i64.wrap (2*x7))+1)))).bind fun r22=>
 (nilck p5 (
 fld p5 2 fun a23=>
 ld σ8 a23 (.V) fun v24=>
 lenV v24 fun n25=>
 cond (decide (r22>=n25)) (
 some true)
 (nilck p5 (
 fld p5 2 fun a26=>
 ld σ8 a26 (.V) fun v27=>
 ixA σ8 v27 1 r22 fun a28=>
 ld σ8 a28 (.I .i64) fun n29=>
 (S.z17 p5 n29 p6 σ8).bind fun r30=>
 some (!r30))))).bind fun r31=>
 cond r31 (
 some (.inr x7,σ8))
 (nilck p5 (
 fld p5 2 fun a32=>
 ld σ8 a32 (.V) fun v33=>
 ixA σ8 v33 1 r22 fun a34=>
 ld σ8 a34 (.I .i64) fun n35=>
 (S.z22 p5 x7 n35 σ8).bind fun r36=>
 some (.inl r22,r36.2)))
def S.z20(p0:AVal)(p1:Int)(σ:Heap):Option (Unit×Heap):=
 nilck p0 (
 fld p0 2 fun a1=>
 ld σ a1 (.V) fun v2=>
 ixA σ v2 1 p1 fun a3=>
 ld σ a3 (.I .i64) fun n4=>
 (loopW (S.z20.b0 p0 n4) p1 σ).bind fun r37=>
 (S.z22 p0 r37.1 n4 r37.2).bind fun r38=>
 some ((),r38.2))
def W.z20:Spec:=.eff [] fun args σ=>packs args [.V,.I .i64] fun x=>S.z20 x.1 x.2 σ
def S.z11(h_:AVal)(v_ p2:Int)(σ:Heap):Option (Int×Heap):=
 (S.z21 h_ v_ σ).bind fun r1=>
 cond (!r1) (
 some (0,σ))
 (nilck h_ (
 fld h_ 0 fun a2=>
 ld σ a2 (.V) fun v3=>
 nilck h_ (
 fld h_ 0 fun a4=>
 ld σ a4 (.V) fun v5=>
 ixA σ v5 1 v_ fun a6=>
 ld σ a6 (.I .i64) fun n7=>
 ixA σ v3 1 v_ fun a8=>
 stC σ a8 [(.int .i64 (if 1099511627776<(if 0>(IntKind.i64.wrap (n7+(if 1099511627776<(if(-1099511627776)>p2 then(-1099511627776)else p2)then 1099511627776 else(if(-1099511627776)>p2 then(-1099511627776)else p2))))then 0 else(IntKind.i64.wrap (n7+(if 1099511627776<(if(-1099511627776)>p2 then(-1099511627776)else p2)then 1099511627776 else(if(-1099511627776)>p2 then(-1099511627776)else p2)))))then 1099511627776 else(if 0>(IntKind.i64.wrap (n7+(if 1099511627776<(if(-1099511627776)>p2 then(-1099511627776)else p2)then 1099511627776 else(if(-1099511627776)>p2 then(-1099511627776)else p2))))then 0 else(IntKind.i64.wrap (n7+(if 1099511627776<(if(-1099511627776)>p2 then(-1099511627776)else p2)then 1099511627776 else(if(-1099511627776)>p2 then(-1099511627776)else p2)))))))] fun σ9=>
 nilck h_ (
 fld h_ 1 fun a10=>
 ld σ9 a10 (.V) fun v11=>
 ixA σ9 v11 1 v_ fun a12=>
 ld σ9 a12 (.I .i64) fun n13=>
 (cond (decide ((IntKind.i64.wrap (n13-1))>=0)) (
 (S.z24 h_ (IntKind.i64.wrap (n13-1)) σ9).bind fun r14=>
 nilck h_ (
 fld h_ 1 fun a15=>
 ld r14.2 a15 (.V) fun v16=>
 ixA r14.2 v16 1 v_ fun a17=>
 ld r14.2 a17 (.I .i64) fun n18=>
 (S.z20 h_ (IntKind.i64.wrap (n18-1)) r14.2).bind fun r19=>
 some ((),r19.2)))
 (some ((),σ9))).bind fun r20=>
 nilck h_ (
 fld h_ 0 fun a21=>
 ld r20.2 a21 (.V) fun v22=>
 ixA r20.2 v22 1 v_ fun a23=>
 ld r20.2 a23 (.I .i64) fun n24=>
 some (n24,r20.2))))))
def W.z11:Spec:=.eff [.I .i64] fun args σ=>packs args [.V,.I .i64,.I .i64] fun x=>S.z11 x.1 x.2.1 x.2.2 σ
def S.z13.b0(p4:AVal)(p5:Int):LT (Int) (Unit):=fun x6 σ7=>
 cond (decide (x6<p5)) (
 nilck p4 (
 fld p4 0 fun a8=>
 ld σ7 a8 (.V) fun v9=>
 ixA σ7 v9 1 x6 fun a10=>
 ld σ7 a10 (.I .i64) fun n11=>
 ixA σ7 v9 1 x6 fun a12=>
 stC σ7 a12 [(.int .i64 (IntKind.i64.wrap (Int.tdiv n11 2)))] fun σ13=>
 some (.inl (IntKind.i64.wrap (x6+1)),σ13)))
 (some (.inr (),σ7))
def S.z13.b1(p18:AVal):LT (Int) (Unit):=fun x19 σ20=>
 cond (decide (x19>=0)) (
 (S.z20 p18 x19 σ20).bind fun r21=>
 some (.inl (IntKind.i64.wrap (x19-1)),r21.2))
 (some (.inr (),σ20))
def S.z13(h_:AVal)(σ:Heap):Option (Unit×Heap):=
 nilck h_ (
 fld h_ 0 fun a1=>
 ld σ a1 (.V) fun v2=>
 lenV v2 fun n3=>
 (loopW (S.z13.b0 h_ n3) 0 σ).bind fun r14=>
 nilck h_ (
 fld h_ 2 fun a15=>
 ld r14.2 a15 (.V) fun v16=>
 lenV v16 fun n17=>
 (loopW (S.z13.b1 h_) (IntKind.i64.wrap (n17-1)) r14.2).bind fun r22=>
 some ((),r22.2)))
def W.z13:Spec:=.eff [] fun args σ=>packs args [.V] fun x=>S.z13 x σ
def S.z107.b0(p2 p3:AVal)(p4:Int):LT (Int) (Unit):=fun x5 σ6=>
 cond (decide (x5<p4)) (
 ixA σ6 p3 1 x5 fun a7=>
 ld σ6 a7 (.I .i64) fun n8=>
 nilck p2 (
 fld p2 1 fun a9=>
 ld σ6 a9 (.V) fun v10=>
 nilck p2 (
 fld p2 7 fun a11=>
 ld σ6 a11 (.I .i64) fun n12=>
 (S.z11 v10 n8 n12 σ6).bind fun r13=>
 some (.inl (IntKind.i64.wrap (x5+1)),r13.2))))
 (some (.inr (),σ6))
def S.z107.b1(p23:AVal):LT (Int) (Unit):=fun x24 σ25=>
 cond (decide (x24<20)) (
 nilck p23 (
 fld p23 1 fun a26=>
 ld σ25 a26 (.V) fun v27=>
 (S.z13 v27 σ25).bind fun r28=>
 some (.inl (IntKind.i64.wrap (x24+1)),r28.2)))
 (some (.inr (),σ25))
def S.z107(e_ l_:AVal)(σ:Heap):Option (Unit×Heap):=
 lenV l_ fun n1=>
 (loopW (S.z107.b0 e_ l_ n1) 0 σ).bind fun r14=>
 nilck e_ (
 fld e_ 7 fun a15=>
 ld r14.2 a15 (.I .i64) fun n16=>
 nilck e_ (
 fld e_ 7 fun a17=>
 ld r14.2 a17 (.I .i64) fun n18=>
 nilck e_ (
 fld e_ 7 fun a19=>
 stC r14.2 a19 [(.int .i64 (IntKind.i64.wrap (n16+(IntKind.i64.wrap (Int.tdiv n18 16)))))] fun σ20=>
 nilck e_ (
 fld e_ 7 fun a21=>
 ld σ20 a21 (.I .i64) fun n22=>
 cond (decide (n22>1073741824)) (
 (loopW (S.z107.b1 e_) 0 σ20).bind fun r29=>
 nilck e_ (
 fld e_ 7 fun a30=>
 ld r29.2 a30 (.I .i64) fun n31=>
 nilck e_ (
 fld e_ 7 fun a32=>
 stC r29.2 a32 [(.int .i64 (Int.fdiv n31 (2 ^ (min (Int.toNat 20) IntKind.i64.bits))))] fun σ33=>
 some ((),σ33))))
 (some ((),σ20))))))
def W.z107:Spec:=.eff [] fun args σ=>packs args [.V,.V] fun x=>S.z107 x.1 x.2 σ
def S.z60(t_:AVal)(σ:Heap):Option (Int×Heap):=
 nilck t_ (
 fld t_ 0 fun a1=>
 ld σ a1 (.V) fun v2=>
 lenV v2 fun n3=>
 cond (n3==0) (
 some (0,σ))
 (nilck t_ (
 fld t_ 0 fun a4=>
 ld σ a4 (.V) fun v5=>
 nilck t_ (
 fld t_ 1 fun a6=>
 ld σ a6 (.I .i64) fun n7=>
 ixA σ v5 1 n7 fun a8=>
 ld σ a8 (.I .i64) fun n9=>
 nilck t_ (
 fld t_ 1 fun a10=>
 ld σ a10 (.I .i64) fun n11=>
 nilck t_ (
 fld t_ 0 fun a12=>
 ld σ a12 (.V) fun v13=>
 lenV v13 fun n14=>
 if n14=0 then none else
 nilck t_ (
 fld t_ 1 fun a15=>
 stC σ a15 [(.int .i64 (Int.tmod (IntKind.i64.wrap (n11+1)) n14))] fun σ16=>
 some (n9,σ16))))))))
def W.z60:Spec:=.eff [.I .i64] fun args σ=>packs args [.V] fun x=>S.z60 x σ
def S.z57(p_:AVal)(σ:Heap):Option (Bool×Heap):=
 (nilck p_ (
 fld p_ 10 fun a1=>
 ld σ a1 (.I .i64) fun n2=>
 nilck p_ (
 fld p_ 11 fun a3=>
 ld σ a3 (.I .i64) fun n4=>
 cond (decide (n2<n4)) (
 some (true,σ))
 (nilck p_ (
 fld p_ 0 fun a5=>
 (S.z60 a5 σ).bind fun r6=>
 some (((IntKind.i64.wrap (BitVec.toNat (BitVec.ofInt IntKind.i64.bits r6.1 &&& BitVec.ofInt IntKind.i64.bits 1)))==0),r6.2)))))).bind fun r7=>
 cond r7.1 (
 some (false,r7.2))
 (nilck p_ (
 fld p_ 10 fun a8=>
 stC r7.2 a8 [(.int .i64 0)] fun σ9=>
 nilck p_ (
 fld p_ 11 fun a10=>
 ld σ9 a10 (.I .i64) fun n11=>
 nilck p_ (
 fld p_ 11 fun a12=>
 stC σ9 a12 [(.int .i64 (IntKind.i64.wrap (n11+8)))] fun σ13=>
 some (true,σ13)))))
def W.z57:Spec:=.eff [.B] fun args σ=>packs args [.V] fun x=>S.z57 x σ
def S.z56(p_:AVal)(score_:Int)(σ:Heap):Option (Bool×Heap):=
 (cond (decide (score_<=2)) (
 some (true,σ))
 (nilck p_ (
 fld p_ 2 fun a1=>
 (S.z60 a1 σ).bind fun r2=>
 some (((IntKind.i64.wrap (BitVec.toNat (BitVec.ofInt IntKind.i64.bits r2.1 &&& BitVec.ofInt IntKind.i64.bits 1)))==0),r2.2)))).bind fun r3=>
 some (r3.1,r3.2)
def W.z56:Spec:=.eff [.B] fun args σ=>packs args [.V,.I .i64] fun x=>S.z56 x.1 x.2 σ
def S.z67.b0(p8:AVal)(p9:Int)(p10:AVal)(p11:Int)(σ0:Heap):Int->Option (Int⊕(Unit⊕Bool)):=fun x12=>
 cond (decide (x12<p11)) (
 ixA σ0 p10 1 x12 fun a14=>
 ld σ0 a14 (.I .i64) fun n15=>
 (nilck p8 (
 fld p8 0 fun a16=>
 ld σ0 a16 (.V) fun v17=>
 (S.z4 v17 n15 σ0).bind fun r18=>
 cond (r18==1) (
 nilck p8 (
 fld p8 2 fun a19=>
 ld σ0 a19 (.V) fun v20=>
 (S.z51 n15 σ0).bind fun r21=>
 ixA σ0 v20 1 r21 fun a22=>
 ld σ0 a22 (.I .i64) fun n23=>
 some (n23==p9)))
 (some false))).bind fun r24=>
 cond r24 (
 some (.inr (.inr false)))
 (some (.inl (IntKind.i64.wrap (x12+1)))))
 (some (.inr (.inl ())))
def S.z67(p_:AVal)(id_:Int)(σ:Heap):Option (Bool×Heap):=
  (S.z81 p_ id_ σ).bind fun r1=>
  cond (!r1) (
  some (false,σ))
  (nilck p_ (
  fld p_ 6 fun a2=>
  ld σ a2 (.V) fun v3=>
  ixA σ v3 3 id_ fun a4=>
  fld a4 0 fun a5=>
  ld σ a5 (.V) fun v6=>
  lenV v6 fun n7=>
  (loopP (S.z67.b0 p_ id_ v6 n7 σ) 0).bind fun r25=>
  (match r25 with
 | .inl y26=>nilck p_ (
  fld p_ 6 fun a28=>
  ld σ a28 (.V) fun v29=>
  nilck p_ (
  fld p_ 6 fun a30=>
  ld σ a30 (.V) fun v31=>
  ixA σ v31 3 id_ fun a32=>
  fld a32 2 fun a33=>
  ld σ a33 (.B) fun b34=>
  ixA σ v29 3 id_ fun a35=>
  stC σ a35 [.nils,(.bool false),(.bool b34)] fun σ36=>
  some (true,σ36)))
 | .inr y27=>some (y27,σ))))
def W.z67:Spec:=.eff [.B] fun args σ=>packs args [.V,.I .i64] fun x=>S.z67 x.1 x.2 σ
def S.z112.b0(p5 p6:AVal)(p7:Int):LT ((AVal×Int)) (AVal):=fun x8 σ9=>
 cond (decide (x8.2<p7)) (
 (ixA σ9 p6 2 x8.2 fun a10=>
 ldG σ9 a10 2 fun g11=>
 newK σ9 2 [(.int .i64 0),(.int .i64 0)] fun l12 σ13=>
 aggK g11 2 fun cs14=>
 stC σ13 (.ptr l12 0) cs14 fun σ15=>
 nilck p5 (
 fld p5 0 fun a16=>
 ld σ15 a16 (.V) fun v17=>
 ld σ15 (.ptr l12 0) (.I .i64) fun n18=>
 (S.z65 v17 n18 σ15).bind fun r19=>
 (nilck p5 (
 fld p5 2 fun a20=>
 ld r19.2 a20 (.V) fun v21=>
 ld r19.2 (.ptr l12 1) (.I .i64) fun n22=>
 (S.z56 v21 n22 r19.2).bind fun r23=>
 cond r23.1 (
 some (true,r23.2))
 (lenV r19.1 fun n24=>
 cond (decide (n24<2)) (
 some (true,r23.2))
 (nilck p5 (
 fld p5 0 fun a25=>
 ld r23.2 a25 (.V) fun v26=>
 ld r23.2 (.ptr l12 0) (.I .i64) fun n27=>
 (S.z67 v26 n27 r23.2).bind fun r28=>
 some ((!r28.1),r28.2)))))).bind fun r29=>
 cond r29.1 (
 ldG r29.2 (.ptr l12 0) 2 fun g30=>
 aggK g30 2 fun cs31=>
 putC [(.int .i64 0),(.int .i64 0)] 0 2 cs31 fun cs32=>
 newK r29.2 2 cs32 fun l33 σ34=>
 appS σ34 2 16 x8.1 (.sl l33 0 1 none) fun v35 σ36=>
 some (v35,σ36))
 (nilck p5 (
 fld p5 5 fun a37=>
 ld r29.2 a37 (.V) fun v38=>
 scal r19.1 (
 newK r29.2 2 [(.bool true),r19.1] fun l39 σ40=>
 appS σ40 2 32 v38 (.sl l39 0 1 none) fun v41 σ42=>
 nilck p5 (
 fld p5 5 fun a43=>
 scal v41 (
 stC σ42 a43 [v41] fun σ44=>
 some (x8.1,σ44)))))))).bind fun r45=>
 some (.inl (r45.1,(IntKind.i64.wrap (x8.2+1))),r45.2))
 (some (.inr x8.1,σ9))
def S.z112(p0:AVal)(σ:Heap):Option (Unit×Heap):=
 (S.z106 p0 0 σ).bind fun r1=>
 nilck p0 (
 fld p0 4 fun a2=>
 ld r1.2 a2 (.V) fun v3=>
 lenV v3 fun n4=>
 (loopW (S.z112.b0 p0 v3 n4) (.nils,0) r1.2).bind fun r46=>
 nilck p0 (
 fld p0 4 fun a47=>
 scal r46.1 (
 stC r46.2 a47 [r46.1] fun σ48=>
 some ((),σ48))))
def W.z112:Spec:=.eff [] fun args σ=>packs args [.V] fun x=>S.z112 x σ
def S.z110(p0:AVal)(p1:Int)(σ:Heap):Option (Bool×Heap):=
 nilck p0 (
 fld p0 6 fun a1=>
 ld σ a1 (.I .i64) fun n2=>
 nilck p0 (
 fld p0 6 fun a3=>
 stC σ a3 [(.int .i64 (IntKind.i64.wrap (n2+1)))] fun σ4=>
 nilck p0 (
 fld p0 2 fun a5=>
 ld σ4 a5 (.V) fun v6=>
 (S.z55 v6 σ4).bind fun r7=>
 cond (!r7.1) (
 some (false,r7.2))
 (nilck p0 (
 fld p0 0 fun a8=>
 ld r7.2 a8 (.V) fun v9=>
 (S.z39 v9 p1 r7.2).bind fun r10=>
 newK r10.2 4 [.nils,(.int .i64 0),(.int .i64 0),.nils] fun l11 σ12=>
 aggK r10.1.1 4 fun cs13=>
 stC σ12 (.ptr l11 0) cs13 fun σ14=>
 cond (!r10.1.2) (
 some (false,σ14))
 (nilck p0 (
 fld p0 0 fun a15=>
 ld σ14 a15 (.V) fun v16=>
 ld σ14 (.ptr l11 0) (.V) fun v17=>
 (S.z41 v16 v17 σ14).bind fun r18=>
 nilck p0 (
 fld p0 0 fun a19=>
 ld r18.2 a19 (.V) fun v20=>
 (S.z40 v20 r18.1 r18.2).bind fun r21=>
 nilck p0 (
 fld p0 0 fun a22=>
 ld r21.2 a22 (.V) fun v23=>
 (S.z37 v23 r18.1 r21.2).bind fun r24=>
 ld r21.2 (.ptr l11 3) (.V) fun v25=>
 (S.z107 p0 v25 r21.2).bind fun r26=>
 (S.z106 p0 r24 r26.2).bind fun r27=>
 nilck p0 (
 fld p0 0 fun a28=>
 ld r27.2 a28 (.V) fun v29=>
 (S.z62 v29 r18.1 r27.2).bind fun r30=>
 (cond r30.1.2 (
 nilck p0 (
 fld p0 4 fun a31=>
 ld r30.2 a31 (.V) fun v32=>
 newK r30.2 2 [(.int .i64 r30.1.1),(.int .i64 r21.1)] fun l33 σ34=>
 appS σ34 2 16 v32 (.sl l33 0 1 none) fun v35 σ36=>
 nilck p0 (
 fld p0 4 fun a37=>
 scal v35 (
 stC σ36 a37 [v35] fun σ38=>
 some ((),σ38)))))
 (some ((),r30.2))).bind fun r39=>
 nilck p0 (
 fld p0 5 fun a40=>
 ld r39.2 a40 (.V) fun v41=>
 scal r18.1 (
 newK r39.2 2 [(.bool false),r18.1] fun l42 σ43=>
 appS σ43 2 32 v41 (.sl l42 0 1 none) fun v44 σ45=>
 nilck p0 (
 fld p0 5 fun a46=>
 scal v44 (
 stC σ45 a46 [v44] fun σ47=>
 nilck p0 (
 fld p0 2 fun a48=>
 ld σ47 a48 (.V) fun v49=>
 (S.z57 v49 σ47).bind fun r50=>
 (cond r50.1 (
 (S.z112 p0 r50.2).bind fun r51=>
 some ((),r51.2))
 (some ((),r50.2))).bind fun r52=>
 some (true,r52.2))))))))))))))))
def W.z110:Spec:=.eff [.B] fun args σ=>packs args [.V,.I .i64] fun x=>S.z110 x.1 x.2 σ
def S.z66(p_:AVal)(l_:Int)(σ:Heap):Option (Bool×Heap):=
 (nilck p_ (
 fld p_ 0 fun a1=>
 ld σ a1 (.V) fun v2=>
 (S.z5 v2 σ).bind fun r3=>
 (S.z49 l_ r3 σ).bind fun r4=>
 cond (!r4) (
 some true)
 (nilck p_ (
 fld p_ 0 fun a5=>
 ld σ a5 (.V) fun v6=>
 (S.z4 v6 l_ σ).bind fun r7=>
 some (r7 != 0))))).bind fun r8=>
 cond r8 (
 some (false,σ))
 (nilck p_ (
 fld p_ 4 fun a9=>
 ld σ a9 (.V) fun v10=>
 nilck p_ (
 fld p_ 3 fun a11=>
 ld σ a11 (.V) fun v12=>
 lenV v12 fun n13=>
 newK σ 1 [(.int .i64 n13)] fun l14 σ15=>
 appS σ15 1 8 v10 (.sl l14 0 1 none) fun v16 σ17=>
 nilck p_ (
 fld p_ 4 fun a18=>
 scal v16 (
 stC σ17 a18 [v16] fun σ19=>
 (S.z85 p_ l_ (-1) σ19).bind fun r20=>
 some (true,r20.2))))))
def W.z66:Spec:=.eff [.B] fun args σ=>packs args [.V,.I .i64] fun x=>S.z66 x.1 x.2 σ
def S.z162.b0(p2:AVal):LT ((Int×Int)) (Unit):=fun x3 σ4=>
 cond (decide (x3.1<x3.2)) (
 ixA σ4 p2 1 x3.2 fun a5=>
 ld σ4 a5 (.I .i64) fun n6=>
 ixA σ4 p2 1 x3.1 fun a7=>
 ld σ4 a7 (.I .i64) fun n8=>
 ixA σ4 p2 1 x3.1 fun a9=>
 stC σ4 a9 [(.int .i64 n6)] fun σ10=>
 ixA σ10 p2 1 x3.2 fun a11=>
 stC σ10 a11 [(.int .i64 n8)] fun σ12=>
 some (.inl ((IntKind.i64.wrap (x3.1+1)),(IntKind.i64.wrap (x3.2-1))),σ12))
 (some (.inr (),σ4))
def S.z162(s_:AVal)(σ:Heap):Option (Unit×Heap):=
 lenV s_ fun n1=>
 (loopW (S.z162.b0 s_) (0,(IntKind.i64.wrap (n1-1))) σ).bind fun r13=>
 some ((),r13.2)
def W.z162:Spec:=.eff [] fun args σ=>packs args [.V] fun x=>S.z162 x σ
def S.z38.b0(p30 p31:AVal)(p32 p33:AVal)(p34:Int)(p35:AVal)(p36:Int):LT (Int) (Unit):=fun x37 σ38=>
 cond (decide (x37<p36)) (
 ixA σ38 p35 1 x37 fun a39=>
 ld σ38 a39 (.I .i64) fun n40=>
 (S.z51 n40 σ38).bind fun r41=>
 mputK σ38 p32 .i64 r41 (.bool true) fun σ42=>
 some (.inl (IntKind.i64.wrap (x37+1)),σ42))
 (some (.inr (),σ38))
def S.z38.b1(p8 p9 p10:AVal):LT ((AVal×Int)) (AVal):=fun x11 σ12=>
 cond (decide (x11.2>=0)) (
 (ixA σ12 p10 1 x11.2 fun a13=>
 ld σ12 a13 (.I .i64) fun n14=>
 (S.z51 n14 σ12).bind fun r15=>
 (mgetZ σ12 p9 .i64 r15 (.bool false) fun x16 b17=>
 asK (.B) x16 fun b18=>
 cond (!b18) (
 some (true,σ12))
 ((S.z70 p8 r15 σ12).bind fun r19=>
 some ((r19==0),σ12))).bind fun r20=>
 cond r20.1 (
 some (x11.1,r20.2))
 ((S.z72 p8 r15 r20.2).bind fun r21=>
 cond (decide (r21<0)) (
 ixA r20.2 p10 1 x11.2 fun a22=>
 ld r20.2 a22 (.I .i64) fun n23=>
 newK r20.2 1 [(.int .i64 n23)] fun l24 σ25=>
 appS σ25 1 8 x11.1 (.sl l24 0 1 none) fun v26 σ27=>
 some (v26,σ27))
 ((S.z65 p8 r21 r20.2).bind fun r28=>
 lenV r28.1 fun n29=>
 (loopW (S.z38.b0 p8 x11.1 p9 p10 x11.2 r28.1 n29) 0 r28.2).bind fun r43=>
 some (x11.1,r43.2)))).bind fun r44=>
 some (.inl (r44.1,(IntKind.i64.wrap (x11.2-1))),r44.2))
 (some (.inr x11.1,σ12))
def S.z38(p0:AVal)(p1:Int)(σ:Heap):Option (AVal×Heap):=
 (S.z75 p0 p1 σ).bind fun r1=>
 cond (r1 != 2) (
 some (.nils,σ))
 (newM σ fun l2 σ3=>
 (S.z51 p1 σ3).bind fun r4=>
 mputK σ3 (.map l2) .i64 r4 (.bool true) fun σ5=>
 (S.z74 p0 σ5).bind fun r6=>
 lenV r6.1 fun n7=>
 (loopW (S.z38.b1 p0 (.map l2) r6.1) (.nils,(IntKind.i64.wrap (n7-1))) r6.2).bind fun r45=>
 (S.z162 r45.1 r45.2).bind fun r46=>
 some (r45.1,r46.2))
def W.z38:Spec:=.eff [.V] fun args σ=>packs args [.V,.I .i64] fun x=>S.z38 x.1 x.2 σ
def S.z105.b0(p2 p3:AVal)(p4:Int):LT (Int) ((Unit⊕(Bool×AVal))):=fun x5 σ6=>
 cond (decide (x5<p4)) (
 ixA σ6 p3 1 x5 fun a7=>
 ld σ6 a7 (.I .i64) fun n8=>
 nilck p2 (
 fld p2 0 fun a9=>
 ld σ6 a9 (.V) fun v10=>
 (S.z75 v10 n8 σ6).bind fun r11=>
 cond (r11==0) (
 nilck p2 (
 fld p2 0 fun a12=>
 ld σ6 a12 (.V) fun v13=>
 (S.z66 v13 n8 σ6).bind fun r14=>
 some (.inr (.inr (true,.nils)),r14.2)))
 (cond (r11==2) (
 nilck p2 (
 fld p2 0 fun a15=>
 ld σ6 a15 (.V) fun v16=>
 (S.z38 v16 n8 σ6).bind fun r17=>
 newK r17.2 1 [(.int .i64 n8)] fun l18 σ19=>
 appS σ19 1 8 r17.1 (.sl l18 0 1 none) fun v20 σ21=>
 some (.inr (.inr (false,v20)),σ21)))
 (some (.inl (IntKind.i64.wrap (x5+1)),σ6)))))
 (some (.inr (.inl ()),σ6))
def S.z105(e_ assume_:AVal)(σ:Heap):Option ((Bool×AVal)×Heap):=
  lenV assume_ fun n1=>
  (loopW (S.z105.b0 e_ assume_ n1) 0 σ).bind fun r22=>
  (match r22.1 with
 | .inl y23=>some ((false,.nils),r22.2)
 | .inr y24=>some ((y24.1,y24.2),r22.2))
def W.z105:Spec:=.eff [.B,.V] fun args σ=>packs args [.V,.V] fun x=>S.z105 x.1 x.2 σ
def S.z14(h_:AVal)(σ:Heap):Option Int:=
 nilck h_ (
 fld h_ 2 fun a1=>
 ld σ a1 (.V) fun v2=>
 lenV v2 fun n3=>
 some n3)
def W.z14:Spec:=.pur [.I .i64] fun args σ=>packs args [.V] fun x=>S.z14 x σ
def S.z59(p_:AVal)(σ:Heap):Option (Int×Heap):=
 nilck p_ (
 fld p_ 4 fun a1=>
 (S.z60 a1 σ).bind fun r2=>
 cond (decide (r2.1<0)) (
 some ((IntKind.i64.wrap ((IntKind.i64.wrap (0-r2.1))-1)),r2.2))
 (some (r2.1,r2.2)))
def W.z59:Spec:=.eff [.I .i64] fun args σ=>packs args [.V] fun x=>S.z59 x σ
def S.z164(p0:AVal)(σ:Heap):=sortS p0 σ
def W.z164:Spec:=.eff [] fun args σ=>packs args [.V] fun x=>sortS x σ
def S.z18.T:FuncId->Option Spec:=(tab 207 W.z164 (tab 206 W.z19 y2r_))
def S.z18(h_:AVal)(σ:Heap):Option (AVal×Heap):=
 scal h_ (
 newK σ 1 [h_] fun l1 σ2=>
 newK σ2 1 [.nils] fun l3 σ4=>
 newK σ4 1 [.nilf] fun l5 σ6=>
 stC σ6 (.ptr l5 0) [(.fn (.func 206) [] [(.ptr l1 0),(.ptr l3 0),(.ptr l5 0)])] fun σ7=>
 ld σ7 (.ptr l5 0) (.V) fun v8=>
 callV S.z18.T v8 [(.int .i64 0)] σ7 fun r9 σ10=>
 ld σ10 (.ptr l3 0) (.V) fun v11=>
 (S.z164 v11 σ10).bind fun r12=>
 ld r12.2 (.ptr l3 0) (.V) fun v13=>
 some (v13,r12.2))
def W.z18:Spec:=.eff [.V] fun args σ=>packs args [.V] fun x=>S.z18 x σ
def S.z23(h_:AVal)(k_:Int)(σ:Heap):Option (Int×Heap):=
 nilck h_ (
 fld h_ 2 fun a1=>
 ld σ a1 (.V) fun v2=>
 ixA σ v2 1 k_ fun a3=>
 ld σ a3 (.I .i64) fun n4=>
 nilck h_ (
 fld h_ 2 fun a5=>
 ld σ a5 (.V) fun v6=>
 lenV v6 fun n7=>
 nilck h_ (
 fld h_ 2 fun a8=>
 ld σ a8 (.V) fun v9=>
 ixA σ v9 1 (IntKind.i64.wrap (n7-1)) fun a10=>
 ld σ a10 (.I .i64) fun n11=>
 nilck h_ (
 fld h_ 2 fun a12=>
 ld σ a12 (.V) fun v13=>
 slS σ 1 v13 0 (some (IntKind.i64.wrap (n7-1))) none fun v14=>
 nilck h_ (
 fld h_ 2 fun a15=>
 scal v14 (
 stC σ a15 [v14] fun σ16=>
 nilck h_ (
 fld h_ 1 fun a17=>
 ld σ16 a17 (.V) fun v18=>
 ixA σ16 v18 1 n4 fun a19=>
 stC σ16 a19 [(.int .i64 0)] fun σ20=>
 (cond (decide (k_<(IntKind.i64.wrap (n7-1)))) (
 (S.z22 h_ k_ n11 σ20).bind fun r21=>
 (S.z24 h_ k_ r21.2).bind fun r22=>
 nilck h_ (
 fld h_ 1 fun a23=>
 ld r22.2 a23 (.V) fun v24=>
 ixA r22.2 v24 1 n11 fun a25=>
 ld r22.2 a25 (.I .i64) fun n26=>
 (S.z20 h_ (IntKind.i64.wrap (n26-1)) r22.2).bind fun r27=>
 some ((),r27.2)))
 (some ((),σ20))).bind fun r28=>
 some (n4,r28.2))))))))
def W.z23:Spec:=.eff [.I .i64] fun args σ=>packs args [.V,.I .i64] fun x=>S.z23 x.1 x.2 σ
def S.z15(h_:AVal)(tie_:Int)(σ:Heap):Option ((Int×Bool)×Heap):=
 nilck h_ (
 fld h_ 2 fun a1=>
 ld σ a1 (.V) fun v2=>
 lenV v2 fun n3=>
 cond (n3==0) (
 some ((0,false),σ))
 (nilck h_ (
 fld h_ 2 fun a4=>
 ld σ a4 (.V) fun v5=>
 ixA σ v5 1 0 fun a6=>
 ld σ a6 (.I .i64) fun n7=>
 (cond (tie_ != 0) (
 (S.z18 h_ σ).bind fun r8=>
 lenV r8.1 fun n9=>
 if n9=0 then none else
 lenV r8.1 fun n10=>
 lenV r8.1 fun n11=>
 if n11=0 then none else
 ixA r8.2 r8.1 1 (Int.tmod (IntKind.i64.wrap ((Int.tmod tie_ n9)+n10)) n11) fun a12=>
 ld r8.2 a12 (.I .i64) fun n13=>
 some (n13,r8.2))
 (some (n7,σ))).bind fun r14=>
 nilck h_ (
 fld h_ 1 fun a15=>
 ld r14.2 a15 (.V) fun v16=>
 ixA r14.2 v16 1 r14.1 fun a17=>
 ld r14.2 a17 (.I .i64) fun n18=>
 (S.z23 h_ (IntKind.i64.wrap (n18-1)) r14.2).bind fun r19=>
 some ((r19.1,true),r19.2)))))
def W.z15:Spec:=.eff [.I .i64,.B] fun args σ=>packs args [.V,.I .i64] fun x=>S.z15 x.1 x.2 σ
def S.z58(p_:AVal)(saved_:Int)(σ:Heap):Option (Bool×Heap):=
  nilck p_ (
  fld p_ 6 fun a1=>
  (S.z60 a1 σ).bind fun r2=>
  ((cond ((Int.tmod (IntKind.i64.wrap ((Int.tmod r2.1 4)+4)) 4)==3) (
  cond (saved_==1) (
  some (.inr (.inr (.inr false))))
  (some (.inl ())))
  (cond ((Int.tmod (IntKind.i64.wrap ((Int.tmod r2.1 4)+4)) 4)==1) (
  some (.inl ()))
  (cond ((Int.tmod (IntKind.i64.wrap ((Int.tmod r2.1 4)+4)) 4)==0) (
  some (.inr (.inr (.inl ()))))
  (some (.inr (.inl ()))))):Option (Unit⊕Unit⊕Unit⊕Bool)).bind fun r3=>
  (match r3 with
 | .inl y4=>some (.inr true)
 | .inr y5=>(match y5 with
 | .inl y6=>some (.inl ())
 | .inr y7=>(match y7 with
 | .inl y8=>some (.inr (saved_==1))
 | .inr y9=>some (.inr y9)))):Option (Unit⊕Bool)).bind fun r10=>
  (match r10 with
 | .inl y11=>some (false,r2.2)
 | .inr y12=>some (y12,r2.2)))
def W.z58:Spec:=.eff [.B] fun args σ=>packs args [.V,.I .i64] fun x=>S.z58 x.1 x.2 σ
def S.z109.b0(p1:AVal):LT (Unit) ((Unit⊕Bool)):=fun x2 σ3=>
 nilck p1 (
 fld p1 1 fun a4=>
 ld σ3 a4 (.V) fun v5=>
 (S.z14 v5 σ3).bind fun r6=>
 cond (decide (r6>0)) (
 nilck p1 (
 fld p1 1 fun a7=>
 ld σ3 a7 (.V) fun v8=>
 nilck p1 (
 fld p1 2 fun a9=>
 ld σ3 a9 (.V) fun v10=>
 (S.z59 v10 σ3).bind fun r11=>
 ld r11.2 a7 (.V) fun v12=>
 chk ((v12:AVal)=v8) (
 (S.z15 v8 r11.1 r11.2).bind fun r13=>
 nilck p1 (
 fld p1 0 fun a14=>
 ld r13.2 a14 (.V) fun v15=>
 (S.z75 v15 r13.1.1 r13.2).bind fun r16=>
 cond (r16 != 0) (
 some (.inl (),r13.2))
 (nilck p1 (
 fld p1 2 fun a17=>
 ld r13.2 a17 (.V) fun v18=>
 nilck p1 (
 fld p1 3 fun a19=>
 ld r13.2 a19 (.V) fun v20=>
 ixA r13.2 v20 1 r13.1.1 fun a21=>
 ld r13.2 a21 (.I .i64) fun n22=>
 (S.z58 v18 n22 r13.2).bind fun r23=>
 cond r23.1 (
 nilck p1 (
 fld p1 0 fun a24=>
 ld r23.2 a24 (.V) fun v25=>
 (S.z66 v25 r13.1.1 r23.2).bind fun r26=>
 some (.inr (.inr r26.1),r26.2)))
 (nilck p1 (
 fld p1 0 fun a27=>
 ld r23.2 a27 (.V) fun v28=>
 (S.z66 v28 (IntKind.i64.wrap (0-r13.1.1)) r23.2).bind fun r29=>
 some (.inr (.inr r29.1),r29.2)))))))))))
 (some (.inr (.inl ()),σ3)))
def S.z109(e_:AVal)(σ:Heap):Option (Bool×Heap):=
  (loopW (S.z109.b0 e_) () σ).bind fun r30=>
  (match r30.1 with
 | .inl y31=>some (false,r30.2)
 | .inr y32=>some (y32,r30.2))
def W.z109:Spec:=.eff [.B] fun args σ=>packs args [.V] fun x=>S.z109 x σ
def S.z111.b0(p7 p8:AVal)(p9:Int):LT (Int) (Unit):=fun x10 σ11=>
 cond (decide (x10<p9)) (
 nilck p7 (
 fld p7 0 fun a12=>
 ld σ11 a12 (.V) fun v13=>
 (S.z75 v13 x10 σ11).bind fun r14=>
 ixA σ11 p8 1 x10 fun a15=>
 stC σ11 a15 [(.bool (r14==1))] fun σ16=>
 some (.inl (IntKind.i64.wrap (x10+1)),σ16)))
 (some (.inr (),σ11))
def S.z111(e_:AVal)(σ:Heap):Option (AVal×Heap):=
 nilck e_ (
 fld e_ 0 fun a1=>
 ld σ a1 (.V) fun v2=>
 (S.z76 v2 σ).bind fun r3=>
 mkS σ 1 1 [(.bool false)] (IntKind.i64.wrap (r3+1)) (IntKind.i64.wrap (r3+1)) fun v4 σ5=>
 lenV v4 fun n6=>
 (loopW (S.z111.b0 e_ v4 n6) 0 σ5).bind fun r17=>
 some (v4,r17.2))
def W.z111:Spec:=.eff [.V] fun args σ=>packs args [.V] fun x=>S.z111 x σ
def S.z103.b0(p11 p12 p13:AVal):LT (Unit) (AVal):=fun x14 σ15=>
 ld σ15 p12 (.V) fun v16=>
 nilck v16 (
 fld v16 0 fun a17=>
 ld σ15 a17 (.V) fun v18=>
 (S.z71 v18 σ15).bind fun r19=>
 cond (decide (r19.1>=0)) (
 ld r19.2 p12 (.V) fun v20=>
 nilck v20 (
 fld v20 0 fun a21=>
 ld r19.2 a21 (.V) fun v22=>
 (S.z69 v22 r19.2).bind fun r23=>
 cond (r23==0) (
 ld r19.2 p12 (.V) fun v24=>
 (S.z108 v24 .nils r19.2).bind fun r25=>
 aggK r25.1 3 fun cs26=>
 stC r25.2 p13 cs26 fun σ27=>
 some (.inr .nili,σ27))
 (ld r19.2 p12 (.V) fun v28=>
 (S.z110 v28 r19.1 r19.2).bind fun r29=>
 cond (!r29.1) (
 ld r29.2 (.ptr 1 0) (.V) fun v30=>
 stC r29.2 p13 [(.bool false),.nils,.nils] fun σ31=>
 ld σ31 (.ptr 1 0) (.V) fun v32=>
 chk ((v32:AVal)=v30) (
 some (.inr v30,σ31)))
 (some (.inl (),r29.2)))))
 (ld r19.2 p12 (.V) fun v33=>
 (S.z105 v33 p11 r19.2).bind fun r34=>
 cond r34.1.1 (
 some (.inl (),r34.2))
 (eqS r34.1.2 .nils fun b35=>
 cond (!b35) (
 ld r34.2 p12 (.V) fun v36=>
 (S.z108 v36 r34.1.2 r34.2).bind fun r37=>
 aggK r37.1 3 fun cs38=>
 stC r37.2 p13 cs38 fun σ39=>
 some (.inr .nili,σ39))
 (ld r34.2 p12 (.V) fun v40=>
 (S.z109 v40 r34.2).bind fun r41=>
 cond (!r41.1) (
 ld r41.2 p12 (.V) fun v42=>
 (S.z111 v42 r41.2).bind fun r43=>
 scal r43.1 (
 stC r43.2 p13 [(.bool true),r43.1,.nils] fun σ44=>
 some (.inr .nili,σ44)))
 (some (.inl (),r41.2))))))
def S.z103(e_ assume_:AVal)(σ:Heap):Option ((AVal×AVal)×Heap):=
 scal e_ (
 newK σ 1 [e_] fun l1 σ2=>
 newK σ2 3 [(.bool false),.nils,.nils] fun l3 σ4=>
 (S.z158 assume_ (.fn (.func 66) [] [(.ptr l1 0)]) σ4).bind fun r5=>
 cond r5.1 (
 ld r5.2 (.ptr 0 0) (.V) fun v6=>
 stC r5.2 (.ptr l3 0) [(.bool false),.nils,.nils] fun σ7=>
 ld σ7 (.ptr 0 0) (.V) fun v8=>
 chk ((v8:AVal)=v6) (
 ldG σ7 (.ptr l3 0) 3 fun g9=>
 some ((g9,v6),σ7)))
 (ld r5.2 (.ptr l1 0) (.V) fun v10=>
 (loopW (S.z103.b0 assume_ (.ptr l1 0) (.ptr l3 0)) () r5.2).bind fun r45=>
 (S.z106 v10 0 r45.2).bind fun r46=>
 ldG r46.2 (.ptr l3 0) 3 fun g47=>
 some ((g47,r45.1),r46.2)))
def W.z103:Spec:=.eff [.V,.V] fun args σ=>packs args [.V,.V] fun x=>S.z103 x.1 x.2 σ
def S.z120(s_:AVal)(σ:Heap):Option (Bool×Heap):=
 aggK s_ 6 fun cs1=>
 newK σ 6 cs1 fun l2 σ3=>
 (ld σ3 (.ptr l2 0) (.V) fun v4=>
 lenV v4 fun n5=>
 cond (decide (n5<=50)) (
 ld σ3 (.ptr l2 1) (.V) fun v6=>
 lenV v6 fun n7=>
 cond (decide (n7<=50)) (
 ld σ3 (.ptr l2 2) (.V) fun v8=>
 lenV v8 fun n9=>
 cond (decide (n9<=50)) (
 ld σ3 (.ptr l2 3) (.V) fun v10=>
 lenV v10 fun n11=>
 some (decide (n11<=50)))
 (some false))
 (some false))
 (some false)).bind fun r12=>
 some (r12,σ3)
def W.z120:Spec:=.eff [.B] fun args σ=>packs args [.V] fun x=>S.z120 x σ
def S.z153(n_ below_:Int)(σ:Heap):Option Int:=
 if below_=0 then none else
 (cond (decide ((Int.tmod n_ below_)<0)) (
 some (IntKind.i64.wrap ((Int.tmod n_ below_)+below_)))
 (some (Int.tmod n_ below_))).bind fun r1=>
 some r1
def W.z153:Spec:=.pur [.I .i64] fun args σ=>packs args [.I .i64,.I .i64] fun x=>S.z153 x.1 x.2 σ
def S.z119(n_ vars_:Int)(σ:Heap):Option Int:=
 (S.z153 n_ (IntKind.i64.wrap (2*vars_)) σ).bind fun r1=>
 cond (decide (r1<vars_)) (
 some (IntKind.i64.wrap (r1+1)))
 (some (IntKind.i64.wrap ((IntKind.i64.wrap (vars_-r1))-1)))
def W.z119:Spec:=.pur [.I .i64] fun args σ=>packs args [.I .i64,.I .i64] fun x=>S.z119 x.1 x.2 σ
def S.z117.b0(p1:AVal)(p2:Int):LT ((AVal×AVal×Int)) (((AVal×AVal))):=fun x3 σ4=>
 lenV p1 fun n5=>
 cond (decide (x3.2.2<n5)) (
 ((ixA σ4 p1 1 x3.2.2 fun a6=>
 ld σ4 a6 (.I .i64) fun n7=>
 (S.z153 n7 7 σ4).bind fun r8=>
 cond (r8==0) (
 lenV x3.2.1 fun n9=>
 cond (decide (n9>0)) (
 some true)
 (lenV x3.2.1 fun n10=>
 some (decide (n10>=5))))
 (lenV x3.2.1 fun n11=>
 some (decide (n11>=5)))).bind fun r12=>
 (cond r12 (
 scal x3.2.1 (
 newK σ4 1 [x3.2.1] fun l13 σ14=>
 appS σ14 1 24 x3.1 (.sl l13 0 1 none) fun v15 σ16=>
 some ((v15,.nils),σ16)))
 (some ((x3.1,x3.2.1),σ4))).bind fun r17=>
 ixA r17.2 p1 1 x3.2.2 fun a18=>
 ld r17.2 a18 (.I .i64) fun n19=>
 (S.z153 n19 1099511627776 r17.2).bind fun r20=>
 (S.z119 (IntKind.i64.wrap (Int.tdiv r20 7)) p2 r17.2).bind fun r21=>
 newK r17.2 1 [(.int .i64 r21)] fun l22 σ23=>
 appS σ23 1 8 r17.1.2 (.sl l22 0 1 none) fun v24 σ25=>
 some ((r17.1.1,v24),σ25)).bind fun r26=>
 some (.inl (r26.1.1,r26.1.2,(IntKind.i64.wrap (x3.2.2+1))),r26.2))
 (some (.inr (x3.1,x3.2.1),σ4))
def S.z117(l_:AVal)(vars_:Int)(σ:Heap):Option (AVal×Heap):=
 cond (decide (vars_<1)) (
 some (.nils,σ))
 ((loopW (S.z117.b0 l_ vars_) (.nils,.nils,0) σ).bind fun r27=>
 lenV r27.1.2 fun n28=>
 (cond (decide (n28>0)) (
 scal r27.1.2 (
 newK r27.2 1 [r27.1.2] fun l29 σ30=>
 appS σ30 1 24 r27.1.1 (.sl l29 0 1 none) fun v31 σ32=>
 some (v31,σ32)))
 (some (r27.1.1,r27.2))).bind fun r33=>
 some (r33.1,r33.2))
def W.z117:Spec:=.eff [.V] fun args σ=>packs args [.V,.I .i64] fun x=>S.z117 x.1 x.2 σ
def S.z118(s_:AVal)(σ:Heap):Option (AVal×Heap):=
 aggK s_ 6 fun cs1=>
 newK σ 6 cs1 fun l2 σ3=>
 newK σ3 6 [.nils,.nils,.nils,.nils,(.int .i64 0),(.int .i64 0)] fun l4 σ5=>
 stC σ5 (.ptr l2 4) [(.int .i64 0)] fun σ6=>
 stC σ6 (.ptr l2 5) [(.int .i64 0)] fun σ7=>
 ldG σ7 (.ptr l2 0) 6 fun g8=>
 aggK g8 6 fun cs9=>
 stC σ7 (.ptr l4 0) cs9 fun σ10=>
 ldG σ10 (.ptr l4 0) 6 fun g11=>
 some (g11,σ10)
def W.z118:Spec:=.eff [.V] fun args σ=>packs args [.V] fun x=>S.z118 x σ
def S.z133.b0(p5 p6:Int):LT ((AVal×Int)) (AVal):=fun x7 σ8=>
 cond (decide (x7.2<p6)) (
 if(IntKind.u64.wrap x7.2)<0 then none else
 newK σ8 1 [(.bool ((IntKind.i64.wrap (BitVec.toNat (BitVec.ofInt IntKind.i64.bits (Int.fdiv p5 (2 ^ (min (Int.toNat (IntKind.u64.wrap x7.2)) IntKind.i64.bits))) &&& BitVec.ofInt IntKind.i64.bits 1)))==1))] fun l9 σ10=>
 appS σ10 1 1 x7.1 (.sl l9 0 1 none) fun v11 σ12=>
 some (.inl (v11,(IntKind.i64.wrap (x7.2+1))),σ12))
 (some (.inr x7.1,σ8))
def S.z133(first_:AVal)(n_ many_:Int)(σ:Heap):Option (AVal×Heap):=
 newK σ 1 [(.bool false)] fun l1 σ2=>
 appS σ2 1 1 (.sl l1 0 1 none) first_ fun v3 σ4=>
 (loopW (S.z133.b0 n_ many_) (v3,0) σ4).bind fun r13=>
 some (r13.1,r13.2)
def W.z133:Spec:=.eff [.V] fun args σ=>packs args [.V,.I .i64,.I .i64] fun x=>S.z133 x.1 x.2.1 x.2.2 σ
def S.z129.b0(p6 p7:AVal)(p8:Int)(σ0:Heap):(Bool×Int)->Option ((Bool×Int)⊕Bool):=fun x9=>
 ixA σ0 p6 1 p8 fun a11=>
 ld σ0 a11 (.V) fun v12=>
 lenV v12 fun n13=>
 cond (decide (x9.2<n13)) (
 (ixA σ0 p6 1 p8 fun a14=>
 ld σ0 a14 (.V) fun v15=>
 ixA σ0 v15 1 x9.2 fun a16=>
 ld σ0 a16 (.I .i64) fun n17=>
 (cond (decide (n17>0)) (
 lenV p7 fun n18=>
 cond (decide (n17<n18)) (
 ixA σ0 p7 1 n17 fun a19=>
 ld σ0 a19 (.B) fun b20=>
 cond b20 (
 some true)
 (cond (decide (n17<0)) (
 cond (decide ((IntKind.i64.wrap (0-n17))>0)) (
 lenV p7 fun n21=>
 cond (decide ((IntKind.i64.wrap (0-n17))<n21)) (
 ixA σ0 p7 1 (IntKind.i64.wrap (0-n17)) fun a22=>
 ld σ0 a22 (.B) fun b23=>
 some (!b23))
 (some false))
 (some false))
 (some false)))
 (cond (decide (n17<0)) (
 cond (decide ((IntKind.i64.wrap (0-n17))>0)) (
 lenV p7 fun n24=>
 cond (decide ((IntKind.i64.wrap (0-n17))<n24)) (
 ixA σ0 p7 1 (IntKind.i64.wrap (0-n17)) fun a25=>
 ld σ0 a25 (.B) fun b26=>
 some (!b26))
 (some false))
 (some false))
 (some false)))
 (cond (decide (n17<0)) (
 cond (decide ((IntKind.i64.wrap (0-n17))>0)) (
 lenV p7 fun n27=>
 cond (decide ((IntKind.i64.wrap (0-n17))<n27)) (
 ixA σ0 p7 1 (IntKind.i64.wrap (0-n17)) fun a28=>
 ld σ0 a28 (.B) fun b29=>
 some (!b29))
 (some false))
 (some false))
 (some false))).bind fun r30=>
 cond r30 (
 some true)
 (some x9.1)).bind fun r31=>
 some (.inl (r31,(IntKind.i64.wrap (x9.2+1)))))
 (some (.inr x9.1))
def S.z129.b1(p1 p2:AVal)(σ0:Heap):Int->Option (Int⊕(Unit⊕Bool)):=fun x3=>
 lenV p1 fun n5=>
 cond (decide (x3<n5)) (
 (loopP (S.z129.b0 p1 p2 x3 σ0) (false,0)).bind fun r32=>
 cond (!r32) (
 some (.inr (.inr false)))
 (some (.inl (IntKind.i64.wrap (x3+1)))))
 (some (.inr (.inl ())))
def S.z129(p0 p1:AVal)(σ:Heap):Option Bool:=
  (loopP (S.z129.b1 p0 p1 σ) 0).bind fun r33=>
  (match r33 with
 | .inl y34=>some true
 | .inr y35=>some y35)
def W.z129:Spec:=.pur [.B] fun args σ=>packs args [.V,.V] fun x=>S.z129 x.1 x.2 σ
def S.z131.b0(p4:AVal):LT (Int) ((Unit⊕(AVal×Bool))):=fun x5 σ6=>
 fld p4 0 fun a7=>
 ld σ6 a7 (.I .i64) fun n8=>
 if(IntKind.u64.wrap n8)<0 then none else
 cond (decide (x5<(IntKind.i64.wrap (1*2 ^ (min (Int.toNat (IntKind.u64.wrap n8)) IntKind.i64.bits))))) (
 fld p4 0 fun a9=>
 ld σ6 a9 (.I .i64) fun n10=>
 (S.z133 .nils x5 n10 σ6).bind fun r11=>
 fld p4 1 fun a12=>
 ld r11.2 a12 (.V) fun v13=>
 (S.z129 v13 r11.1 r11.2).bind fun r14=>
 cond r14 (
 some (.inr (.inr (r11.1,true)),r11.2))
 (some (.inl (IntKind.i64.wrap (x5+1)),r11.2)))
 (some (.inr (.inl ()),σ6))
def S.z131(c_:AVal)(σ:Heap):Option ((AVal×Bool)×Heap):=
  aggK c_ 2 fun cs1=>
  newK σ 2 cs1 fun l2 σ3=>
  (loopW (S.z131.b0 (.ptr l2 0)) 0 σ3).bind fun r15=>
  (match r15.1 with
 | .inl y16=>some ((.nils,false),r15.2)
 | .inr y17=>some ((y17.1,y17.2),r15.2))
def W.z131:Spec:=.eff [.V,.B] fun args σ=>packs args [.V] fun x=>S.z131 x σ
def S.z150(σ:Heap):Option (AVal×Heap):=
 newK σ 3 [(.int .i64 0),(.bool false),(.int .i64 0)] fun l1 σ2=>
 stC σ2 (.ptr l1 0) [(.int .i64 0),(.bool false),(.int .i64 0)] fun σ3=>
 ldG σ3 (.ptr l1 0) 3 fun g4=>
 some (g4,σ3)
def W.z150:Spec:=.eff [.V] fun args σ=>packs args [] fun x=>S.z150 σ
def S.z151(code_ pos_:Int)(σ:Heap):Option (AVal×Heap):=
 newK σ 3 [(.int .i64 0),(.bool false),(.int .i64 0)] fun l1 σ2=>
 cond (code_==0) (
 (S.z150 σ2).bind fun r3=>
 aggK r3.1 3 fun cs4=>
 stC r3.2 (.ptr l1 0) cs4 fun σ5=>
 ldG σ5 (.ptr l1 0) 3 fun g6=>
 some (g6,σ5))
 (stC σ2 (.ptr l1 0) [(.int .i64 code_),(.bool true),(.int .i64 pos_)] fun σ7=>
 ldG σ7 (.ptr l1 0) 3 fun g8=>
 some (g8,σ7))
def W.z151:Spec:=.eff [.V] fun args σ=>packs args [.I .i64,.I .i64] fun x=>S.z151 x.1 x.2 σ
def S.z146(code_:Int)(σ:Heap):Option (AVal×Heap):=
 newK σ 3 [(.int .i64 0),(.bool false),(.int .i64 0)] fun l1 σ2=>
 stC σ2 (.ptr l1 0) [(.int .i64 code_),(.bool false),(.int .i64 0)] fun σ3=>
 ldG σ3 (.ptr l1 0) 3 fun g4=>
 some (g4,σ3)
def W.z146:Spec:=.eff [.V] fun args σ=>packs args [.I .i64] fun x=>S.z146 x σ
def S.z147.b0(p4:AVal):LT ((AVal×Int)) (AVal):=fun x5 σ6=>
 lenV p4 fun n7=>
 cond (decide (x5.2<n7)) (
 ixA σ6 p4 1 x5.2 fun a8=>
 ld σ6 a8 (.V) fun v9=>
 scal v9 (
 newK σ6 1 [v9] fun l10 σ11=>
 appS σ11 1 24 x5.1 (.sl l10 0 1 none) fun v12 σ13=>
 some (.inl (v12,(IntKind.i64.wrap (x5.2+1))),σ13)))
 (some (.inr x5.1,σ6))
def S.z147(l_:AVal)(σ:Heap):Option (AVal×Heap):=
 lenV l_ fun n1=>
 mkS σ 1 24 [.nils] 0 n1 fun v2 σ3=>
 (loopW (S.z147.b0 l_) (v2,0) σ3).bind fun r14=>
 some (r14.1,r14.2)
def W.z147:Spec:=.eff [.V] fun args σ=>packs args [.V] fun x=>S.z147 x σ
def S.z148.b0(p1:AVal)(p2:Int)(σ0:Heap):Int->Option (Int⊕(Unit⊕Bool)):=fun x3=>
 lenV p1 fun n5=>
 cond (decide (x3<n5)) (
 ixA σ0 p1 1 x3 fun a6=>
 ld σ0 a6 (.I .i64) fun n7=>
 cond (n7==p2) (
 some (.inr (.inr true)))
 (some (.inl (IntKind.i64.wrap (x3+1)))))
 (some (.inr (.inl ())))
def S.z148(l_:AVal)(n_:Int)(σ:Heap):Option Bool:=
  (loopP (S.z148.b0 l_ n_ σ) 0).bind fun r8=>
  (match r8 with
 | .inl y9=>some false
 | .inr y10=>some y10)
def W.z148:Spec:=.pur [.B] fun args σ=>packs args [.V,.I .i64] fun x=>S.z148 x.1 x.2 σ
def S.z149.b0(p4:AVal):LT ((AVal×Int)) (AVal):=fun x5 σ6=>
 lenV p4 fun n7=>
 cond (decide (x5.2<n7)) (
 ixA σ6 p4 1 x5.2 fun a8=>
 ld σ6 a8 (.I .i64) fun n9=>
 newK σ6 1 [(.int .i64 n9)] fun l10 σ11=>
 appS σ11 1 8 x5.1 (.sl l10 0 1 none) fun v12 σ13=>
 some (.inl (v12,(IntKind.i64.wrap (x5.2+1))),σ13))
 (some (.inr x5.1,σ6))
def S.z149(l_:AVal)(σ:Heap):Option (AVal×Heap):=
 lenV l_ fun n1=>
 mkS σ 1 8 [(.int .i64 0)] 0 n1 fun v2 σ3=>
 (loopW (S.z149.b0 l_) (v2,0) σ3).bind fun r14=>
 some (r14.1,r14.2)
def W.z149:Spec:=.eff [.V] fun args σ=>packs args [.V] fun x=>S.z149 x σ
def S.z102.b0(p4:AVal)(p5:Int):LT ((AVal×Int)) (AVal):=fun x6 σ7=>
 cond (decide (x6.2<p5)) (
 ixA σ7 p4 2 x6.2 fun a8=>
 ldG σ7 a8 2 fun g9=>
 newK σ7 2 [(.bool false),.nils] fun l10 σ11=>
 aggK g9 2 fun cs12=>
 stC σ11 (.ptr l10 0) cs12 fun σ13=>
 ld σ13 (.ptr l10 0) (.B) fun b14=>
 ld σ13 (.ptr l10 1) (.V) fun v15=>
 (S.z155 v15 σ13).bind fun r16=>
 ld r16.2 (.ptr l10 0) (.B) fun b17=>
 chk (((.bool b17):AVal)=(.bool b14)) (
 scal r16.1 (
 newK r16.2 2 [(.bool b14),r16.1] fun l18 σ19=>
 appS σ19 2 32 x6.1 (.sl l18 0 1 none) fun v20 σ21=>
 some (.inl (v20,(IntKind.i64.wrap (x6.2+1))),σ21))))
 (some (.inr x6.1,σ7))
def S.z102(e_:AVal)(σ:Heap):Option (AVal×Heap):=
 nilck e_ (
 fld e_ 5 fun a1=>
 ld σ a1 (.V) fun v2=>
 lenV v2 fun n3=>
 (loopW (S.z102.b0 v2 n3) (.nils,0) σ).bind fun r22=>
 some (r22.1,r22.2))
def W.z102:Spec:=.eff [.V] fun args σ=>packs args [.V] fun x=>S.z102 x σ
def S.z126(l_ vars_:Int)(σ:Heap):Option Bool:=
 (cond (l_ != 0) (
 cond (decide (l_<=vars_)) (
 some (decide (l_>=(IntKind.i64.wrap (0-vars_)))))
 (some false))
 (some false)).bind fun r1=>
 some r1
def W.z126:Spec:=.pur [.B] fun args σ=>packs args [.I .i64,.I .i64] fun x=>S.z126 x.1 x.2 σ
def S.z125.b0(p6 p7:AVal)(σ0:Heap):(Int×Int)->Option ((Int×Int)⊕Int):=fun x8=>
 fld p6 1 fun a10=>
 ld σ0 a10 (.V) fun v11=>
 lenV v11 fun n12=>
 cond (decide (x8.2<n12)) (
 fld p6 1 fun a13=>
 ld σ0 a13 (.V) fun v14=>
 ixA σ0 v14 1 x8.2 fun a15=>
 ld σ0 a15 (.V) fun v16=>
 lenV v16 fun n17=>
 some (.inl ((IntKind.i64.wrap (x8.1+n17)),(IntKind.i64.wrap (x8.2+1)))))
 (some (.inr x8.1))
def S.z125.b1(p35 p36:AVal)(p37:Int):LT (Int) ((Unit⊕Unit)):=fun x38 σ39=>
 fld p35 1 fun a40=>
 ld σ39 a40 (.V) fun v41=>
 ixA σ39 v41 1 p37 fun a42=>
 ld σ39 a42 (.V) fun v43=>
 lenV v43 fun n44=>
 cond (decide (x38<n44)) (
 fld p35 1 fun a45=>
 ld σ39 a45 (.V) fun v46=>
 ixA σ39 v46 1 p37 fun a47=>
 ld σ39 a47 (.V) fun v48=>
 ixA σ39 v48 1 x38 fun a49=>
 ld σ39 a49 (.I .i64) fun n50=>
 fld p35 0 fun a51=>
 ld σ39 a51 (.I .i64) fun n52=>
 (S.z126 n50 n52 σ39).bind fun r53=>
 cond (!r53) (
 (S.z151 104 p37 σ39).bind fun r54=>
 aggK r54.1 3 fun cs55=>
 stC r54.2 p36 cs55 fun σ56=>
 some (.inr (.inr ()),σ56))
 (some (.inl (IntKind.i64.wrap (x38+1)),σ39)))
 (some (.inr (.inl ()),σ39))
def S.z125.b2(p28 p29:AVal):LT (Int) ((Unit⊕Unit)):=fun x30 σ31=>
  fld p28 1 fun a32=>
  ld σ31 a32 (.V) fun v33=>
  lenV v33 fun n34=>
  cond (decide (x30<n34)) (
  (loopW (S.z125.b1 p28 p29 x30) 0 σ31).bind fun r57=>
  (match r57.1 with
 | .inl y58=>some (.inl (IntKind.i64.wrap (x30+1)),r57.2)
 | .inr y59=>some (.inr (.inr ()),r57.2)))
  (some (.inr (.inl ()),σ31))
def S.z125(p0:AVal)(σ:Heap):Option (AVal×Heap):=
  aggK p0 2 fun cs1=>
  newK σ 2 cs1 fun l2 σ3=>
  newK σ3 3 [(.int .i64 0),(.bool false),(.int .i64 0)] fun l4 σ5=>
  (loopP (S.z125.b0 (.ptr l2 0) (.ptr l4 0) σ5) (0,0)).bind fun r18=>
  (ld σ5 (.ptr l2 0) (.I .i64) fun n19=>
  cond (decide (n19<0)) (
  some true)
  (ld σ5 (.ptr l2 0) (.I .i64) fun n20=>
  cond (decide (n20>4000)) (
  some true)
  (ld σ5 (.ptr l2 1) (.V) fun v21=>
  lenV v21 fun n22=>
  cond (decide (n22>20000)) (
  some true)
  (some (decide (r18>80000)))))).bind fun r23=>
  cond r23 (
  (S.z146 102 σ5).bind fun r24=>
  aggK r24.1 3 fun cs25=>
  stC r24.2 (.ptr l4 0) cs25 fun σ26=>
  ldG σ26 (.ptr l4 0) 3 fun g27=>
  some (g27,σ26))
  ((loopW (S.z125.b2 (.ptr l2 0) (.ptr l4 0)) 0 σ5).bind fun r60=>
  (match r60.1 with
 | .inl y61=>(S.z150 r60.2).bind fun r63=>
  aggK r63.1 3 fun cs64=>
  stC r63.2 (.ptr l4 0) cs64 fun σ65=>
  ldG σ65 (.ptr l4 0) 3 fun g66=>
  some (g66,σ65)
 | .inr y62=>ldG r60.2 (.ptr l4 0) 3 fun g67=>
  some (g67,r60.2)))
def W.z125:Spec:=.eff [.V] fun args σ=>packs args [.V] fun x=>S.z125 x σ
def S.z140.b0(p3 p4:AVal)(σ0:Heap):(Int×Int)->Option ((Int×Int)⊕Int):=fun x5=>
 lenV p3 fun n7=>
 cond (decide (x5.2<n7)) (
 ixA σ0 p3 2 x5.2 fun a8=>
 fld a8 1 fun a9=>
 ld σ0 a9 (.V) fun v10=>
 lenV v10 fun n11=>
 some (.inl ((IntKind.i64.wrap (x5.1+n11)),(IntKind.i64.wrap (x5.2+1)))))
 (some (.inr x5.1))
def S.z140.b1(p22 p23:AVal)(p24:Int):LT (Int) ((Unit⊕Unit)):=fun x25 σ26=>
 ixA σ26 p22 2 p24 fun a27=>
 fld a27 1 fun a28=>
 ld σ26 a28 (.V) fun v29=>
 lenV v29 fun n30=>
 cond (decide (x25<n30)) (
 ixA σ26 p22 2 p24 fun a31=>
 fld a31 1 fun a32=>
 ld σ26 a32 (.V) fun v33=>
 ixA σ26 v33 1 x25 fun a34=>
 ld σ26 a34 (.I .i64) fun n35=>
 (S.z126 n35 4000 σ26).bind fun r36=>
 cond (!r36) (
 (S.z151 104 p24 σ26).bind fun r37=>
 aggK r37.1 3 fun cs38=>
 stC r37.2 p23 cs38 fun σ39=>
 some (.inr (.inr ()),σ39))
 (some (.inl (IntKind.i64.wrap (x25+1)),σ26)))
 (some (.inr (.inl ()),σ26))
def S.z140.b2(p17 p18:AVal):LT (Int) ((Unit⊕Unit)):=fun x19 σ20=>
  lenV p17 fun n21=>
  cond (decide (x19<n21)) (
  (loopW (S.z140.b1 p17 p18 x19) 0 σ20).bind fun r40=>
  (match r40.1 with
 | .inl y41=>some (.inl (IntKind.i64.wrap (x19+1)),r40.2)
 | .inr y42=>some (.inr (.inr ()),r40.2)))
  (some (.inr (.inl ()),σ20))
def S.z140(l_:AVal)(σ:Heap):Option (AVal×Heap):=
  newK σ 3 [(.int .i64 0),(.bool false),(.int .i64 0)] fun l1 σ2=>
  (loopP (S.z140.b0 l_ (.ptr l1 0) σ2) (0,0)).bind fun r12=>
  cond (decide (r12>320000)) (
  (S.z146 102 σ2).bind fun r13=>
  aggK r13.1 3 fun cs14=>
  stC r13.2 (.ptr l1 0) cs14 fun σ15=>
  ldG σ15 (.ptr l1 0) 3 fun g16=>
  some (g16,σ15))
  ((loopW (S.z140.b2 l_ (.ptr l1 0)) 0 σ2).bind fun r43=>
  (match r43.1 with
 | .inl y44=>(S.z150 r43.2).bind fun r46=>
  aggK r46.1 3 fun cs47=>
  stC r46.2 (.ptr l1 0) cs47 fun σ48=>
  ldG σ48 (.ptr l1 0) 3 fun g49=>
  some (g49,σ48)
 | .inr y45=>ldG r43.2 (.ptr l1 0) 3 fun g50=>
  some (g50,r43.2)))
def W.z140:Spec:=.eff [.V] fun args σ=>packs args [.V] fun x=>S.z140 x σ
def S.z145(l_:Int)(σ:Heap):Option Int:=
 cond (decide (l_<0)) (
 some (IntKind.i64.wrap (0-l_)))
 (some l_)
def W.z145:Spec:=.pur [.I .i64] fun args σ=>packs args [.I .i64] fun x=>S.z145 x σ
def S.z143.b0(p9:AVal)(p10:Int)(σ0:Heap):(Int×Int)->Option ((Int×Int)⊕Int):=fun x11=>
 ixA σ0 p9 2 p10 fun a13=>
 fld a13 1 fun a14=>
 ld σ0 a14 (.V) fun v15=>
 lenV v15 fun n16=>
 cond (decide (x11.2<n16)) (
 ixA σ0 p9 2 p10 fun a17=>
 fld a17 1 fun a18=>
 ld σ0 a18 (.V) fun v19=>
 ixA σ0 v19 1 x11.2 fun a20=>
 ld σ0 a20 (.I .i64) fun n21=>
 (S.z145 n21 σ0).bind fun r22=>
 some (.inl ((if r22>x11.1 then r22 else x11.1),(IntKind.i64.wrap (x11.2+1)))))
 (some (.inr x11.1))
def S.z143.b1(p5:AVal)(σ0:Heap):(Int×Int)->Option ((Int×Int)⊕Int):=fun x6=>
 lenV p5 fun n8=>
 cond (decide (x6.2<n8)) (
 (loopP (S.z143.b0 p5 x6.2 σ0) (x6.1,0)).bind fun r23=>
 some (.inl (r23,(IntKind.i64.wrap (x6.2+1)))))
 (some (.inr x6.1))
def S.z143(c_ l_:AVal)(σ:Heap):Option (Int×Heap):=
 aggK c_ 2 fun cs1=>
 newK σ 2 cs1 fun l2 σ3=>
 ld σ3 (.ptr l2 0) (.I .i64) fun n4=>
 (loopP (S.z143.b1 l_ σ3) (n4,0)).bind fun r24=>
 some (r24,σ3)
def W.z143:Spec:=.eff [.I .i64] fun args σ=>packs args [.V,.V] fun x=>S.z143 x.1 x.2 σ
def S.z132(a_ b_:Int)(σ:Heap):Option Bool:=
 (S.z145 a_ σ).bind fun r1=>
 (S.z145 b_ σ).bind fun r2=>
 (cond (decide (r1<r2)) (
 some true)
 (cond (r1==r2) (
 some (decide (a_<b_)))
 (some false))).bind fun r3=>
 some r3
def W.z132:Spec:=.pur [.B] fun args σ=>packs args [.I .i64,.I .i64] fun x=>S.z132 x.1 x.2 σ
def S.z128.b0(p8 p9:AVal)(p10:Bool)(p11:Int)(σ0:Heap):Int->Option (Int⊕Int):=fun x12=>
 (lenV p9 fun n14=>
 cond (decide (x12<n14)) (
 ixA σ0 p9 1 x12 fun a15=>
 ld σ0 a15 (.I .i64) fun n16=>
 ixA σ0 p8 1 p11 fun a17=>
 ld σ0 a17 (.I .i64) fun n18=>
 (S.z132 n16 n18 σ0).bind fun r19=>
 some r19)
 (some false)).bind fun r20=>
 cond r20 (
 some (.inl (IntKind.i64.wrap (x12+1))))
 (some (.inr x12))
def S.z128.b1(p1:AVal):LT ((AVal×Bool×Int)) (((AVal×Bool))):=fun x2 σ3=>
 lenV p1 fun n4=>
 cond (decide (x2.2.2<n4)) (
 (ixA σ3 p1 1 x2.2.2 fun a5=>
 ld σ3 a5 (.I .i64) fun n6=>
 (S.z148 x2.1 n6 σ3).bind fun r7=>
 cond r7 (
 some ((x2.1,x2.2.1),σ3))
 ((loopP (S.z128.b0 p1 x2.1 x2.2.1 x2.2.2 σ3) 0).bind fun r21=>
 (cond x2.2.1 (
 ixA σ3 p1 1 x2.2.2 fun a22=>
 ld σ3 a22 (.I .i64) fun n23=>
 (S.z148 x2.1 (IntKind.i64.wrap (0-n23)) σ3).bind fun r24=>
 some (!r24))
 (some false)).bind fun r25=>
 slS σ3 1 x2.1 0 (some r21) none fun v26=>
 (S.z149 v26 σ3).bind fun r27=>
 ixA r27.2 p1 1 x2.2.2 fun a28=>
 ixA σ3 p1 1 x2.2.2 fun a29=>
 chk ((a29:AVal)=a28) (
 ld r27.2 a28 (.I .i64) fun n30=>
 ld σ3 a28 (.I .i64) fun n31=>
 chk (((.int .i64 n31):AVal)=(.int .i64 n30)) (
 newK r27.2 1 [(.int .i64 n30)] fun l32 σ33=>
 appS σ33 1 8 r27.1 (.sl l32 0 1 none) fun v34 σ35=>
 slS σ35 1 x2.1 r21 none none fun v36=>
 appS σ35 1 8 v34 v36 fun v37 σ38=>
 some ((v37,r25),σ38))))).bind fun r39=>
 some (.inl (r39.1.1,r39.1.2,(IntKind.i64.wrap (x2.2.2+1))),r39.2))
 (some (.inr (x2.1,x2.2.1),σ3))
def S.z128(p0:AVal)(σ:Heap):Option ((AVal×Bool)×Heap):=
 (loopW (S.z128.b1 p0) (.nils,true,0) σ).bind fun r40=>
 some ((r40.1.1,r40.1.2),r40.2)
def W.z128:Spec:=.eff [.V,.B] fun args σ=>packs args [.V] fun x=>S.z128 x σ
def S.z152.b0(p3 p4:AVal)(σ0:Heap):Int->Option (Int⊕(Unit⊕Bool)):=fun x5=>
 lenV p3 fun n7=>
 cond (decide (x5<n7)) (
 ixA σ0 p3 1 x5 fun a8=>
 ld σ0 a8 (.I .i64) fun n9=>
 ixA σ0 p4 1 x5 fun a10=>
 ld σ0 a10 (.I .i64) fun n11=>
 cond (!(n9==n11)) (
 some (.inr (.inr false)))
 (some (.inl (IntKind.i64.wrap (x5+1)))))
 (some (.inr (.inl ())))
def S.z152(a_ b_:AVal)(σ:Heap):Option Bool:=
  lenV a_ fun n1=>
  lenV b_ fun n2=>
  cond (n1 != n2) (
  some false)
  ((loopP (S.z152.b0 a_ b_ σ) 0).bind fun r12=>
  (match r12 with
 | .inl y13=>some true
 | .inr y14=>some y14))
def W.z152:Spec:=.pur [.B] fun args σ=>packs args [.V,.V] fun x=>S.z152 x.1 x.2 σ
def S.z130(a_ b_:AVal)(σ:Heap):Option (Bool×Heap):=
 (S.z128 a_ σ).bind fun r1=>
 (S.z128 b_ r1.2).bind fun r2=>
 (S.z152 r1.1.1 r2.1.1 r2.2).bind fun r3=>
 some (r3,r2.2)
def W.z130:Spec:=.eff [.B] fun args σ=>packs args [.V,.V] fun x=>S.z130 x.1 x.2 σ
def S.z138.b0(p1 p2:AVal):LT (Int) ((Unit⊕Int)):=fun x3 σ4=>
 nilck p1 (
 fld p1 1 fun a5=>
 ld σ4 a5 (.V) fun v6=>
 lenV v6 fun n7=>
 cond (decide (x3<n7)) (
 nilck p1 (
 fld p1 1 fun a8=>
 ld σ4 a8 (.V) fun v9=>
 ixA σ4 v9 1 x3 fun a10=>
 ld σ4 a10 (.V) fun v11=>
 (S.z130 v11 p2 σ4).bind fun r12=>
 cond r12.1 (
 some (.inr (.inr x3),r12.2))
 (some (.inl (IntKind.i64.wrap (x3+1)),r12.2))))
 (some (.inr (.inl ()),σ4)))
def S.z138(b_ c_:AVal)(σ:Heap):Option (Int×Heap):=
  (loopW (S.z138.b0 b_ c_) 0 σ).bind fun r13=>
  (match r13.1 with
 | .inl y14=>some ((-1),r13.2)
 | .inr y15=>some (y15,r13.2))
def W.z138:Spec:=.eff [.I .i64] fun args σ=>packs args [.V,.V] fun x=>S.z138 x.1 x.2 σ
def S.z136(b_ c_:AVal)(σ:Heap):Option (Bool×Heap):=
 (S.z138 b_ c_ σ).bind fun r1=>
 cond (decide (r1.1<0)) (
 some (false,r1.2))
 (nilck b_ (
 fld b_ 1 fun a2=>
 ld r1.2 a2 (.V) fun v3=>
 slS r1.2 1 v3 0 (some r1.1) none fun v4=>
 (S.z147 v4 r1.2).bind fun r5=>
 nilck b_ (
 fld b_ 1 fun a6=>
 ld r5.2 a6 (.V) fun v7=>
 slS r5.2 1 v7 (IntKind.i64.wrap (r1.1+1)) none none fun v8=>
 appS r5.2 1 24 r5.1 v8 fun v9 σ10=>
 nilck b_ (
 fld b_ 1 fun a11=>
 scal v9 (
 stC σ10 a11 [v9] fun σ12=>
 some (true,σ12))))))
def W.z136:Spec:=.eff [.B] fun args σ=>packs args [.V,.V] fun x=>S.z136 x.1 x.2 σ
def S.z139.b0(p1 p2:AVal)(σ0:Heap):Int->Option (Int⊕(Unit⊕Bool)):=fun x3=>
 lenV p2 fun n5=>
 cond (decide (x3<n5)) (
 ixA σ0 p2 1 x3 fun a6=>
 ld σ0 a6 (.I .i64) fun n7=>
 nilck p1 (
 fld p1 0 fun a8=>
 ld σ0 a8 (.I .i64) fun n9=>
 (S.z126 n7 n9 σ0).bind fun r10=>
 cond (!r10) (
 some (.inr (.inr false)))
 (some (.inl (IntKind.i64.wrap (x3+1))))))
 (some (.inr (.inl ())))
def S.z139(b_ c_:AVal)(σ:Heap):Option Bool:=
  (loopP (S.z139.b0 b_ c_ σ) 0).bind fun r11=>
  (match r11 with
 | .inl y12=>some true
 | .inr y13=>some y13)
def W.z139:Spec:=.pur [.B] fun args σ=>packs args [.V,.V] fun x=>S.z139 x.1 x.2 σ
def S.z127(vars_:Int)(σ:Heap):Option (AVal×Heap):=
 mkS σ 1 8 [(.int .i64 0)] (IntKind.i64.wrap ((if 4000<(if 0>vars_ then 0 else vars_)then 4000 else(if 0>vars_ then 0 else vars_))+1)) (IntKind.i64.wrap ((if 4000<(if 0>vars_ then 0 else vars_)then 4000 else(if 0>vars_ then 0 else vars_))+1)) fun v1 σ2=>
 scal v1 (
 newK σ2 1 [v1] fun l3 σ4=>
 some ((.ptr l3 0),σ4))
def W.z127:Spec:=.eff [.V] fun args σ=>packs args [.I .i64] fun x=>S.z127 x σ
def S.z124(a_:AVal)(l_:Int)(σ:Heap):Option Int:=
 nilck a_ (
 fld a_ 0 fun a1=>
 ld σ a1 (.V) fun v2=>
 lenV v2 fun n3=>
 (S.z126 l_ (IntKind.i64.wrap (n3-1)) σ).bind fun r4=>
 cond (!r4) (
 some 0)
 (nilck a_ (
 fld a_ 0 fun a5=>
 ld σ a5 (.V) fun v6=>
 (S.z145 l_ σ).bind fun r7=>
 ixA σ v6 1 r7 fun a8=>
 ld σ a8 (.I .i64) fun n9=>
 (cond (decide (l_<0)) (
 some (n9 != 0))
 (some false)).bind fun r10=>
 cond r10 (
 some (IntKind.i64.wrap (3-n9)))
 (some n9))))
def W.z124:Spec:=.pur [.I .i64] fun args σ=>packs args [.V,.I .i64] fun x=>S.z124 x.1 x.2 σ
def S.z123(a_:AVal)(l_:Int)(σ:Heap):Option (Bool×Heap):=
 (nilck a_ (
 fld a_ 0 fun a1=>
 ld σ a1 (.V) fun v2=>
 lenV v2 fun n3=>
 (S.z126 l_ (IntKind.i64.wrap (n3-1)) σ).bind fun r4=>
 cond (!r4) (
 some true)
 ((S.z124 a_ l_ σ).bind fun r5=>
 some (r5==2)))).bind fun r6=>
 cond r6 (
 some (false,σ))
 ((cond (decide (l_>0)) (
 nilck a_ (
 fld a_ 0 fun a7=>
 ld σ a7 (.V) fun v8=>
 ixA σ v8 1 l_ fun a9=>
 stC σ a9 [(.int .i64 1)] fun σ10=>
 some ((),σ10)))
 (nilck a_ (
 fld a_ 0 fun a11=>
 ld σ a11 (.V) fun v12=>
 ixA σ v12 1 (IntKind.i64.wrap (0-l_)) fun a13=>
 stC σ a13 [(.int .i64 2)] fun σ14=>
 some ((),σ14)))).bind fun r15=>
 some (true,r15.2))
def W.z123:Spec:=.eff [.B] fun args σ=>packs args [.V,.I .i64] fun x=>S.z123 x.1 x.2 σ
def S.z121.b0(p1 p2:AVal)(σ0:Heap):(Int×Int×Int)->Option ((Int×Int×Int)⊕((Int×Int)⊕(Int×Int))):=fun x3=>
  lenV p2 fun n5=>
  cond (decide (x3.2.2<n5)) (
  (ixA σ0 p2 1 x3.2.2 fun a6=>
  ld σ0 a6 (.I .i64) fun n7=>
  (S.z124 p1 n7 σ0).bind fun r8=>
  cond (r8==1) (
  some (.inr (1,0)))
  (cond (r8==0) (
  ixA σ0 p2 1 x3.2.2 fun a9=>
  ld σ0 a9 (.I .i64) fun n10=>
  (cond (n10 != x3.1) (
  some (IntKind.i64.wrap (x3.2.1+1)))
  (some x3.2.1)).bind fun r11=>
  ixA σ0 p2 1 x3.2.2 fun a12=>
  ld σ0 a12 (.I .i64) fun n13=>
  some (.inl (n13,r11)))
  (some (.inl (x3.1,x3.2.1)))):Option ((Int×Int)⊕(Int×Int))).bind fun r14=>
  (match r14 with
 | .inl y15=>some (.inl (y15.1,y15.2,(IntKind.i64.wrap (x3.2.2+1))))
 | .inr y16=>some (.inr (.inr (y16.1,y16.2)))))
  (some (.inr (.inl (x3.1,x3.2.1))))
def S.z121(a_ c_:AVal)(σ:Heap):Option (Int×Int):=
  (loopP (S.z121.b0 a_ c_ σ) (0,0,0)).bind fun r17=>
  (match r17 with
 | .inl y18=>cond (y18.2==0) (
  some (2,0))
  ((cond (decide (y18.2>1)) (
  some 0)
  (some y18.1)).bind fun r20=>
  some (0,r20))
 | .inr y19=>some (y19.1,y19.2))
def W.z121:Spec:=.pur [.I .i64,.I .i64] fun args σ=>packs args [.V,.V] fun x=>S.z121 x.1 x.2 σ
def S.z122.b0(p1:AVal):LT ((AVal×Int)) (AVal):=fun x2 σ3=>
 nilck p1 (
 fld p1 0 fun a4=>
 ld σ3 a4 (.V) fun v5=>
 lenV v5 fun n6=>
 cond (decide (x2.2<n6)) (
 (nilck p1 (
 fld p1 0 fun a7=>
 ld σ3 a7 (.V) fun v8=>
 ixA σ3 v8 1 x2.2 fun a9=>
 ld σ3 a9 (.I .i64) fun n10=>
 (cond (n10==1) (
 newK σ3 1 [(.int .i64 x2.2)] fun l11 σ12=>
 appS σ12 1 8 x2.1 (.sl l11 0 1 none) fun v13 σ14=>
 some (v13,σ14))
 (some (x2.1,σ3))).bind fun r15=>
 nilck p1 (
 fld p1 0 fun a16=>
 ld r15.2 a16 (.V) fun v17=>
 ixA r15.2 v17 1 x2.2 fun a18=>
 ld r15.2 a18 (.I .i64) fun n19=>
 cond (n19==2) (
 newK r15.2 1 [(.int .i64 (IntKind.i64.wrap (0-x2.2)))] fun l20 σ21=>
 appS σ21 1 8 r15.1 (.sl l20 0 1 none) fun v22 σ23=>
 some (v22,σ23))
 (some (r15.1,r15.2))))).bind fun r24=>
 some (.inl (r24.1,(IntKind.i64.wrap (x2.2+1))),r24.2))
 (some (.inr x2.1,σ3)))
def S.z122(a_:AVal)(σ:Heap):Option (AVal×Heap):=
 (loopW (S.z122.b0 a_) (.nils,1) σ).bind fun r25=>
 some (r25.1,r25.2)
def W.z122:Spec:=.eff [.V] fun args σ=>packs args [.V] fun x=>S.z122 x σ
def S.z141.b0(p2 p3 p4:AVal):LT (Int) ((Unit⊕(AVal×Bool))):=fun x5 σ6=>
 lenV p3 fun n7=>
 cond (decide (x5<n7)) (
 ixA σ6 p3 1 x5 fun a8=>
 ld σ6 a8 (.I .i64) fun n9=>
 (S.z123 p4 n9 σ6).bind fun r10=>
 cond (!r10.1) (
 some (.inr (.inr (.nils,false)),r10.2))
 (some (.inl (IntKind.i64.wrap (x5+1)),r10.2)))
 (some (.inr (.inl ()),σ6))
def S.z141.b1(p18 p19:AVal):LT ((Bool×Int)) ((Bool⊕(AVal×Bool))):=fun x20 σ21=>
  lenV p18 fun n22=>
  cond (decide (x20.2<n22)) (
  (ixA σ21 p18 1 x20.2 fun a23=>
  ld σ21 a23 (.V) fun v24=>
  (S.z121 p19 v24 σ21).bind fun r25=>
  cond (r25.1==2) (
  some (.inr (.nils,false),σ21))
  (cond (r25.2 != 0) (
  (S.z123 p19 r25.2 σ21).bind fun r26=>
  cond (!r26.1) (
  some (.inr (.nils,false),r26.2))
  (some (.inl true,r26.2)))
  (some (.inl x20.1,σ21))):Option ((Bool⊕(AVal×Bool))×Heap)).bind fun r27=>
  (match r27.1 with
 | .inl y28=>some (.inl (y28,(IntKind.i64.wrap (x20.2+1))),r27.2)
 | .inr y29=>some (.inr (.inr (y29.1,y29.2)),r27.2)))
  (some (.inr (.inl x20.1),σ21))
def S.z141.b2(p14 p15:AVal):LT (Unit) (((AVal×Bool))):=fun x16 σ17=>
  (loopW (S.z141.b1 p14 p15) (false,0) σ17).bind fun r30=>
  (match r30.1 with
 | .inl y31=>cond (!y31) (
  (S.z122 p15 r30.2).bind fun r33=>
  some (.inr (r33.1,true),r33.2))
  (some (.inl (),r30.2))
 | .inr y32=>some (.inr (y32.1,y32.2),r30.2))
def S.z141(vars_:Int)(c_ start_:AVal)(σ:Heap):Option ((AVal×Bool)×Heap):=
  (S.z127 vars_ σ).bind fun r1=>
  (loopW (S.z141.b0 c_ start_ r1.1) 0 r1.2).bind fun r11=>
  (match r11.1 with
 | .inl y12=>(loopW (S.z141.b2 c_ r1.1) () r11.2).bind fun r34=>
  some ((r34.1.1,r34.1.2),r34.2)
 | .inr y13=>some ((y13.1,y13.2),r11.2))
def W.z141:Spec:=.eff [.V,.B] fun args σ=>packs args [.I .i64,.V,.V] fun x=>S.z141 x.1 x.2.1 x.2.2 σ
def S.z137.b0(p2 p3:AVal):LT ((AVal×Int)) (AVal):=fun x4 σ5=>
 lenV p3 fun n6=>
 cond (decide (x4.2<n6)) (
 ixA σ5 p3 1 x4.2 fun a7=>
 ld σ5 a7 (.I .i64) fun n8=>
 newK σ5 1 [(.int .i64 (IntKind.i64.wrap (0-n8)))] fun l9 σ10=>
 appS σ10 1 8 x4.1 (.sl l9 0 1 none) fun v11 σ12=>
 some (.inl (v11,(IntKind.i64.wrap (x4.2+1))),σ12))
 (some (.inr x4.1,σ5))
def S.z137(b_ c_:AVal)(σ:Heap):Option (Bool×Heap):=
 (S.z139 b_ c_ σ).bind fun r1=>
 cond (!r1) (
 some (false,σ))
 ((loopW (S.z137.b0 b_ c_) (.nils,0) σ).bind fun r13=>
 nilck b_ (
 fld b_ 0 fun a14=>
 ld r13.2 a14 (.I .i64) fun n15=>
 nilck b_ (
 fld b_ 1 fun a16=>
 ld r13.2 a16 (.V) fun v17=>
 (S.z141 n15 v17 r13.1 r13.2).bind fun r18=>
 some ((!r18.1.2),r18.2))))
def W.z137:Spec:=.eff [.B] fun args σ=>packs args [.V,.V] fun x=>S.z137 x.1 x.2 σ
def S.z135.b0(p21 p22:AVal)(p23 p24:Int):LT ((AVal×Int)) (AVal):=fun x25 σ26=>
 nilck p21 (
 fld p21 1 fun a27=>
 ld σ26 a27 (.V) fun v28=>
 ixA σ26 v28 1 p24 fun a29=>
 ld σ26 a29 (.V) fun v30=>
 lenV v30 fun n31=>
 cond (decide (x25.2<n31)) (
 (nilck p21 (
 fld p21 1 fun a32=>
 ld σ26 a32 (.V) fun v33=>
 ixA σ26 v33 1 p24 fun a34=>
 ld σ26 a34 (.V) fun v35=>
 ixA σ26 v35 1 x25.2 fun a36=>
 ld σ26 a36 (.I .i64) fun n37=>
 cond (n37 != (IntKind.i64.wrap (0-p23))) (
 nilck p21 (
 fld p21 1 fun a38=>
 ld σ26 a38 (.V) fun v39=>
 ixA σ26 v39 1 p24 fun a40=>
 ld σ26 a40 (.V) fun v41=>
 ixA σ26 v41 1 x25.2 fun a42=>
 ld σ26 a42 (.I .i64) fun n43=>
 newK σ26 1 [(.int .i64 n43)] fun l44 σ45=>
 appS σ45 1 8 x25.1 (.sl l44 0 1 none) fun v46 σ47=>
 some (v46,σ47)))
 (some (x25.1,σ26)))).bind fun r48=>
 some (.inl (r48.1,(IntKind.i64.wrap (x25.2+1))),r48.2))
 (some (.inr x25.1,σ26)))
def S.z135.b1(p7 p8:AVal)(p9:Int):LT (Int) ((Unit⊕Bool)):=fun x10 σ11=>
  nilck p7 (
  fld p7 1 fun a12=>
  ld σ11 a12 (.V) fun v13=>
  lenV v13 fun n14=>
  cond (decide (x10<n14)) (
  (nilck p7 (
  fld p7 1 fun a15=>
  ld σ11 a15 (.V) fun v16=>
  ixA σ11 v16 1 x10 fun a17=>
  ld σ11 a17 (.V) fun v18=>
  (S.z148 v18 (IntKind.i64.wrap (0-p9)) σ11).bind fun r19=>
  cond (!r19) (
  some (.inl (),σ11))
  ((S.z149 p8 σ11).bind fun r20=>
  (loopW (S.z135.b0 p7 p8 p9 x10) (r20.1,0) r20.2).bind fun r49=>
  (S.z137 p7 r49.1 r49.2).bind fun r50=>
  cond (!r50.1) (
  some (.inr false,r50.2))
  (some (.inl (),r50.2)))):Option ((Unit⊕Bool)×Heap)).bind fun r51=>
  (match r51.1 with
 | .inl y52=>some (.inl (IntKind.i64.wrap (x10+1)),r51.2)
 | .inr y53=>some (.inr (.inr y53),r51.2)))
  (some (.inr (.inl ()),σ11)))
def S.z135(p0 p1:AVal)(σ:Heap):Option (Bool×Heap):=
  (S.z137 p0 p1 σ).bind fun r1=>
  cond r1.1 (
  some (true,r1.2))
  ((lenV p1 fun n2=>
  cond (n2==0) (
  some true)
  ((S.z139 p0 p1 r1.2).bind fun r3=>
  some (!r3))).bind fun r4=>
  cond r4 (
  some (false,r1.2))
  (ixA r1.2 p1 1 0 fun a5=>
  ld r1.2 a5 (.I .i64) fun n6=>
  (loopW (S.z135.b1 p0 p1 n6) 0 r1.2).bind fun r54=>
  (match r54.1 with
 | .inl y55=>some (true,r54.2)
 | .inr y56=>some (y56,r54.2))))
def W.z135:Spec:=.eff [.B] fun args σ=>packs args [.V,.V] fun x=>S.z135 x.1 x.2 σ
def S.z134(b_ c_:AVal)(σ:Heap):Option (Bool×Heap):=
 (S.z139 b_ c_ σ).bind fun r1=>
 cond (!r1) (
 some (false,σ))
 (nilck b_ (
 fld b_ 1 fun a2=>
 ld σ a2 (.V) fun v3=>
 (S.z147 v3 σ).bind fun r4=>
 (S.z149 c_ r4.2).bind fun r5=>
 scal r5.1 (
 newK r5.2 1 [r5.1] fun l6 σ7=>
 appS σ7 1 24 r4.1 (.sl l6 0 1 none) fun v8 σ9=>
 nilck b_ (
 fld b_ 1 fun a10=>
 scal v8 (
 stC σ9 a10 [v8] fun σ11=>
 some (true,σ11))))))
def W.z134:Spec:=.eff [.B] fun args σ=>packs args [.V,.V] fun x=>S.z134 x.1 x.2 σ
def S.z144.b0(p29:AVal)(p30:Bool)(p31 p32:AVal):LT (Int) ((Unit⊕AVal)):=fun x33 σ34=>
  lenV p29 fun n35=>
  cond (decide (x33<n35)) (
  ((ixA σ34 p29 2 x33 fun a36=>
  fld a36 0 fun a37=>
  ld σ34 a37 (.B) fun b38=>
  cond b38 (
  ixA σ34 p29 2 x33 fun a39=>
  fld a39 1 fun a40=>
  ld σ34 a40 (.V) fun v41=>
  (S.z136 p32 v41 σ34).bind fun r42=>
  some (r42.1,r42.2))
  (cond p30 (
  ixA σ34 p29 2 x33 fun a43=>
  fld a43 1 fun a44=>
  ld σ34 a44 (.V) fun v45=>
  (S.z135 p32 v45 σ34).bind fun r46=>
  ixA r46.2 p29 2 x33 fun a47=>
  fld a47 1 fun a48=>
  ld r46.2 a48 (.V) fun v49=>
  (S.z134 p32 v49 r46.2).bind fun r50=>
  some (r46.1,r50.2))
  (ixA σ34 p29 2 x33 fun a51=>
  fld a51 1 fun a52=>
  ld σ34 a52 (.V) fun v53=>
  (S.z137 p32 v53 σ34).bind fun r54=>
  ixA r54.2 p29 2 x33 fun a55=>
  fld a55 1 fun a56=>
  ld r54.2 a56 (.V) fun v57=>
  (S.z134 p32 v57 r54.2).bind fun r58=>
  some (r54.1,r58.2)))).bind fun r59=>
  cond (!r59.1) (
  (S.z151 106 x33 r59.2).bind fun r60=>
  aggK r60.1 3 fun cs61=>
  stC r60.2 p31 cs61 fun σ62=>
  some (.inr .nilp,σ62))
  (some (.inl (),r59.2)):Option ((Unit⊕AVal)×Heap)).bind fun r63=>
  (match r63.1 with
 | .inl y64=>some (.inl (IntKind.i64.wrap (x33+1)),r63.2)
 | .inr y65=>some (.inr (.inr y65),r63.2)))
  (some (.inr (.inl ()),σ34))
def S.z144(p0 p1:AVal)(p2:Bool)(σ:Heap):Option ((AVal×AVal)×Heap):=
  aggK p0 2 fun cs1=>
  newK σ 2 cs1 fun l2 σ3=>
  newK σ3 3 [(.int .i64 0),(.bool false),(.int .i64 0)] fun l4 σ5=>
  ldG σ5 (.ptr l2 0) 2 fun g6=>
  (S.z125 g6 σ5).bind fun r7=>
  newK r7.2 3 [(.int .i64 0),(.bool false),(.int .i64 0)] fun l8 σ9=>
  aggK r7.1 3 fun cs10=>
  stC σ9 (.ptr l8 0) cs10 fun σ11=>
  ld σ11 (.ptr l8 0) (.I .i64) fun n12=>
  (cond (n12==0) (
  (S.z140 p1 σ11).bind fun r13=>
  aggK r13.1 3 fun cs14=>
  stC r13.2 (.ptr l8 0) cs14 fun σ15=>
  some ((),σ15))
  (some ((),σ11))).bind fun r16=>
  ld r16.2 (.ptr l8 0) (.I .i64) fun n17=>
  cond (n17 != 0) (
  ldG r16.2 (.ptr l8 0) 3 fun g18=>
  aggK g18 3 fun cs19=>
  stC r16.2 (.ptr l4 0) cs19 fun σ20=>
  ldG σ20 (.ptr l4 0) 3 fun g21=>
  some ((.nilp,g21),σ20))
  (ldG r16.2 (.ptr l2 0) 2 fun g22=>
  (S.z143 g22 p1 r16.2).bind fun r23=>
  ld r23.2 (.ptr l2 1) (.V) fun v24=>
  ld r16.2 (.ptr l2 1) (.V) fun v25=>
  chk ((v25:AVal)=v24) (
  (S.z147 v24 r23.2).bind fun r26=>
  scal r26.1 (
  newK r26.2 2 [(.int .i64 r23.1),r26.1] fun l27 σ28=>
  (loopW (S.z144.b0 p1 p2 (.ptr l4 0) (.ptr l27 0)) 0 σ28).bind fun r66=>
  (match r66.1 with
 | .inl y67=>(S.z150 r66.2).bind fun r69=>
  aggK r69.1 3 fun cs70=>
  stC r69.2 (.ptr l4 0) cs70 fun σ71=>
  ldG σ71 (.ptr l4 0) 3 fun g72=>
  some (((.ptr l27 0),g72),σ71)
 | .inr y68=>ldG r66.2 (.ptr l4 0) 3 fun g73=>
  some ((y68,g73),r66.2)))))
def W.z144:Spec:=.eff [.V,.V] fun args σ=>packs args [.V,.V,.B] fun x=>S.z144 x.1 x.2.1 x.2.2 σ
def S.z27(p_:AVal)(σ:Heap):Option (AVal×Heap):=
 (S.z113 0 p_ σ).bind fun r1=>
 scal r1.1 (
 newK r1.2 4 [r1.1,(.int .i64 0),.nils,(.int .i64 0)] fun l2 σ3=>
 some ((.ptr l2 0),σ3))
def W.z27:Spec:=.eff [.V] fun args σ=>packs args [.V] fun x=>S.z27 x σ
def S.z26(s_:AVal)(σ:Heap):Option (AVal×Heap):=
 aggK s_ 6 fun cs1=>
 newK σ 6 cs1 fun l2 σ3=>
 ldG σ3 (.ptr l2 0) 6 fun g4=>
 (S.z53 g4 σ3).bind fun r5=>
 (S.z27 r5.1 r5.2).bind fun r6=>
 some (r6.1,r6.2)
def W.z26:Spec:=.eff [.V] fun args σ=>packs args [.V] fun x=>S.z26 x σ
def S.z30(s_:AVal)(n_:Int)(σ:Heap):Option (Int×Heap):=
 (cond (decide (n_<1)) (
 some true)
 (nilck s_ (
 fld s_ 1 fun a1=>
 fld a1 0 fun a2=>
 ld σ a2 (.I .i64) fun n3=>
 some (decide (n_>(IntKind.i64.wrap (4000-n3))))))).bind fun r4=>
 cond r4 (
 some (0,σ))
 (nilck s_ (
 fld s_ 1 fun a5=>
 fld a5 0 fun a6=>
 ld σ a6 (.I .i64) fun n7=>
 nilck s_ (
 fld s_ 1 fun a8=>
 fld a8 0 fun a9=>
 ld σ a9 (.I .i64) fun n10=>
 nilck s_ (
 fld s_ 1 fun a11=>
 fld a11 0 fun a12=>
 stC σ a12 [(.int .i64 (IntKind.i64.wrap (n10+n_)))] fun σ13=>
 nilck s_ (
 fld s_ 0 fun a14=>
 ld σ13 a14 (.V) fun v15=>
 nilck s_ (
 fld s_ 1 fun a16=>
 fld a16 0 fun a17=>
 ld σ13 a17 (.I .i64) fun n18=>
 (S.z101 v15 n18 σ13).bind fun r19=>
 some ((IntKind.i64.wrap (n7+1)),r19.2)))))))
def W.z30:Spec:=.eff [.I .i64] fun args σ=>packs args [.V,.I .i64] fun x=>S.z30 x.1 x.2 σ
def S.z33(s_:AVal)(σ:Heap):Option Int:=
 nilck s_ (
 fld s_ 1 fun a1=>
 fld a1 0 fun a2=>
 ld σ a2 (.I .i64) fun n3=>
 some n3)
def W.z33:Spec:=.pur [.I .i64] fun args σ=>packs args [.V] fun x=>S.z33 x σ
def S.z115(σ:Heap):Option (Bool×Heap):=
 (S.z26 (.agg [.nils,.nils,.nils,.nils,(.int .i64 0),(.int .i64 0)]) σ).bind fun r1=>
 (eqP r1.1 .nilp fun b2=>
 cond (!b2) (
 (S.z30 r1.1 2 r1.2).bind fun r3=>
 cond (r3.1==1) (
 (S.z33 r1.1 r3.2).bind fun r4=>
 cond (r4==2) (
 (S.z30 r1.1 0 r3.2).bind fun r5=>
 some ((r5.1==0),r5.2))
 (some (false,r3.2)))
 (some (false,r3.2)))
 (some (false,r1.2))).bind fun r6=>
 some (r6.1,r6.2)
def W.z115:Spec:=.eff [.B] fun args σ=>packs args [] fun x=>S.z115 σ
def S.z35.b0(p7 p8:AVal)(p9:Int):LT ((Int×Int)) ((Int⊕AVal)):=fun x10 σ11=>
 cond (decide (x10.2<p9)) (
 ixA σ11 p7 1 x10.2 fun a12=>
 ld σ11 a12 (.V) fun v13=>
 (S.z158 v13 (.fn (.func 183) [] [p8]) σ11).bind fun r14=>
 cond r14.1 (
 ld r14.2 (.ptr 0 0) (.V) fun v15=>
 some (.inr (.inr v15),r14.2))
 (lenV v13 fun n16=>
 some (.inl ((IntKind.i64.wrap (x10.1+n16)),(IntKind.i64.wrap (x10.2+1))),r14.2)))
 (some (.inr (.inl x10.1),σ11))
def S.z35(s_ l_:AVal)(σ:Heap):Option (AVal×Heap):=
  scal s_ (
  newK σ 1 [s_] fun l1 σ2=>
  ld σ2 (.ptr l1 0) (.V) fun v3=>
  nilck v3 (
  fld v3 3 fun a4=>
  ld σ2 a4 (.I .i64) fun n5=>
  lenV l_ fun n6=>
  (loopW (S.z35.b0 l_ (.ptr l1 0) n6) (n5,0) σ2).bind fun r17=>
  (match r17.1 with
 | .inl y18=>(ld r17.2 (.ptr l1 0) (.V) fun v20=>
  nilck v20 (
  fld v20 1 fun a21=>
  fld a21 1 fun a22=>
  ld r17.2 a22 (.V) fun v23=>
  lenV v23 fun n24=>
  lenV l_ fun n25=>
  cond (decide ((IntKind.i64.wrap (n24+n25))>20000)) (
  some true)
  (some (decide (y18>80000))))).bind fun r26=>
  cond r26 (
  ld r17.2 (.ptr 3 0) (.V) fun v27=>
  some (v27,r17.2))
  (some (.nili,r17.2))
 | .inr y19=>some (y19,r17.2))))
def W.z35:Spec:=.eff [.V] fun args σ=>packs args [.V,.V] fun x=>S.z35 x.1 x.2 σ
def S.z34.b0(p4 p5:AVal)(p6:Int):LT (Int) (Unit):=fun x7 σ8=>
 cond (decide (x7<p6)) (
 ixA σ8 p5 1 x7 fun a9=>
 ld σ8 a9 (.V) fun v10=>
 nilck p4 (
 fld p4 0 fun a11=>
 ld σ8 a11 (.V) fun v12=>
 (S.z99 v12 v10 σ8).bind fun r13=>
 nilck p4 (
 fld p4 1 fun a14=>
 fld a14 1 fun a15=>
 ld r13.2 a15 (.V) fun v16=>
 (S.z155 v10 r13.2).bind fun r17=>
 ld r17.2 a15 (.V) fun v18=>
 chk ((v18:AVal)=v16) (
 scal r17.1 (
 newK r17.2 1 [r17.1] fun l19 σ20=>
 appS σ20 1 24 v16 (.sl l19 0 1 none) fun v21 σ22=>
 nilck p4 (
 fld p4 1 fun a23=>
 fld a23 1 fun a24=>
 scal v21 (
 stC σ22 a24 [v21] fun σ25=>
 nilck p4 (
 fld p4 3 fun a26=>
 ld σ25 a26 (.I .i64) fun n27=>
 lenV v10 fun n28=>
 nilck p4 (
 fld p4 3 fun a29=>
 stC σ25 a29 [(.int .i64 (IntKind.i64.wrap (n27+n28)))] fun σ30=>
 some (.inl (IntKind.i64.wrap (x7+1)),σ30))))))))))
 (some (.inr (),σ8))
def S.z34(s_ l_:AVal)(σ:Heap):Option (AVal×Heap):=
 (S.z35 s_ l_ σ).bind fun r1=>
 eqI (tiOf Tryz.prog) r1.2 true r1.1 .nili fun b2=>
 cond (!b2) (
 some (r1.1,r1.2))
 (lenV l_ fun n3=>
 (loopW (S.z34.b0 s_ l_ n3) 0 r1.2).bind fun r31=>
 some (.nili,r31.2))
def W.z34:Spec:=.eff [.V] fun args σ=>packs args [.V,.V] fun x=>S.z34 x.1 x.2 σ
def S.z28(s_ c_:AVal)(σ:Heap):Option (AVal×Heap):=
 scal c_ (
 newK σ 1 [c_] fun l1 σ2=>
 (S.z34 s_ (.sl l1 0 1 none) σ2).bind fun r3=>
 some (r3.1,r3.2))
def W.z28:Spec:=.eff [.V] fun args σ=>packs args [.V,.V] fun x=>S.z28 x.1 x.2 σ
def S.z32(s_ assume_:AVal)(σ:Heap):Option ((AVal×AVal)×Heap):=
 newK σ 3 [(.bool false),.nils,.nils] fun l1 σ2=>
 nilck s_ (
 fld s_ 0 fun a3=>
 ld σ2 a3 (.V) fun v4=>
 (S.z103 v4 assume_ σ2).bind fun r5=>
 aggK r5.1.1 3 fun cs6=>
 stC r5.2 (.ptr l1 0) cs6 fun σ7=>
 ldG σ7 (.ptr l1 0) 3 fun g8=>
 some ((g8,r5.1.2),σ7))
def W.z32:Spec:=.eff [.V,.V] fun args σ=>packs args [.V,.V] fun x=>S.z32 x.1 x.2 σ
def S.z116.b0(p11 p12:AVal):LT (Int) ((Unit⊕(AVal×AVal))):=fun x13 σ14=>
 lenV p12 fun n15=>
 cond (decide (x13<n15)) (
 ixA σ14 p12 1 x13 fun a16=>
 ld σ14 a16 (.V) fun v17=>
 (S.z28 p11 v17 σ14).bind fun r18=>
 eqI (tiOf Tryz.prog) r18.2 true r18.1 .nili fun b19=>
 cond (!b19) (
 some (.inr (.inr (.nilp,.nils)),r18.2))
 (some (.inl (IntKind.i64.wrap (x13+1)),r18.2)))
 (some (.inr (.inl ()),σ14))
def S.z116(l_ s_:AVal)(σ:Heap):Option ((AVal×AVal)×Heap):=
  aggK s_ 6 fun cs1=>
  newK σ 6 cs1 fun l2 σ3=>
  ldG σ3 (.ptr l2 0) 6 fun g4=>
  (S.z118 g4 σ3).bind fun r5=>
  (S.z26 r5.1 r5.2).bind fun r6=>
  (eqP r6.1 .nilp fun b7=>
  cond b7 (
  some (true,r6.2))
  ((S.z30 r6.1 8 r6.2).bind fun r8=>
  some ((r8.1 != 1),r8.2))).bind fun r9=>
  cond r9.1 (
  some ((.nilp,.nils),r9.2))
  ((S.z117 l_ 8 r9.2).bind fun r10=>
  (loopW (S.z116.b0 r6.1 r10.1) 0 r10.2).bind fun r20=>
  (match r20.1 with
 | .inl y21=>some ((r6.1,r10.1),r20.2)
 | .inr y22=>some ((y22.1,y22.2),r20.2)))
def W.z116:Spec:=.eff [.V,.V] fun args σ=>packs args [.V,.V] fun x=>S.z116 x.1 x.2 σ
def S.z48.b0(p5:AVal)(p6:Int):LT ((AVal×Int)) (AVal):=fun x7 σ8=>
 cond (decide (x7.2<p6)) (
 ixA σ8 p5 1 x7.2 fun a9=>
 ld σ8 a9 (.V) fun v10=>
 (S.z155 v10 σ8).bind fun r11=>
 scal r11.1 (
 newK r11.2 1 [r11.1] fun l12 σ13=>
 appS σ13 1 24 x7.1 (.sl l12 0 1 none) fun v14 σ15=>
 some (.inl (v14,(IntKind.i64.wrap (x7.2+1))),σ15)))
 (some (.inr x7.1,σ8))
def S.z48(l_:AVal)(σ:Heap):Option (AVal×Heap):=
 lenV l_ fun n1=>
 mkS σ 1 24 [.nils] 0 n1 fun v2 σ3=>
 lenV l_ fun n4=>
 (loopW (S.z48.b0 l_ n4) (v2,0) σ3).bind fun r16=>
 some (r16.1,r16.2)
def W.z48:Spec:=.eff [.V] fun args σ=>packs args [.V] fun x=>S.z48 x σ
def S.z29(s_:AVal)(σ:Heap):Option (AVal×Heap):=
 newK σ 2 [(.int .i64 0),.nils] fun l1 σ2=>
 nilck s_ (
 fld s_ 1 fun a3=>
 fld a3 0 fun a4=>
 ld σ2 a4 (.I .i64) fun n5=>
 nilck s_ (
 fld s_ 1 fun a6=>
 fld a6 1 fun a7=>
 ld σ2 a7 (.V) fun v8=>
 (S.z48 v8 σ2).bind fun r9=>
 ld r9.2 a4 (.I .i64) fun n10=>
 chk (((.int .i64 n10):AVal)=(.int .i64 n5)) (
 scal r9.1 (
 stC r9.2 (.ptr l1 0) [(.int .i64 n5),r9.1] fun σ11=>
 ldG σ11 (.ptr l1 0) 2 fun g12=>
 some (g12,σ11)))))
def W.z29:Spec:=.eff [.V] fun args σ=>packs args [.V] fun x=>S.z29 x σ
def S.z31(s_:AVal)(σ:Heap):Option (AVal×Heap):=
 nilck s_ (
 fld s_ 0 fun a1=>
 ld σ a1 (.V) fun v2=>
 (S.z102 v2 σ).bind fun r3=>
 some (r3.1,r3.2))
def W.z31:Spec:=.eff [.V] fun args σ=>packs args [.V] fun x=>S.z31 x σ
def S.z142(c_ l_ goal_:AVal)(σ:Heap):Option (AVal×Heap):=
 aggK c_ 2 fun cs1=>
 newK σ 2 cs1 fun l2 σ3=>
 newK σ3 3 [(.int .i64 0),(.bool false),(.int .i64 0)] fun l4 σ5=>
 ldG σ5 (.ptr l2 0) 2 fun g6=>
 (S.z144 g6 l_ false σ5).bind fun r7=>
 newK r7.2 3 [(.int .i64 0),(.bool false),(.int .i64 0)] fun l8 σ9=>
 aggK r7.1.2 3 fun cs10=>
 stC σ9 (.ptr l8 0) cs10 fun σ11=>
 ld σ11 (.ptr l8 0) (.I .i64) fun n12=>
 cond (n12 != 0) (
 ldG σ11 (.ptr l8 0) 3 fun g13=>
 aggK g13 3 fun cs14=>
 stC σ11 (.ptr l4 0) cs14 fun σ15=>
 ldG σ15 (.ptr l4 0) 3 fun g16=>
 some (g16,σ15))
 ((S.z139 r7.1.1 goal_ σ11).bind fun r17=>
 cond (!r17) (
 (S.z146 104 σ11).bind fun r18=>
 aggK r18.1 3 fun cs19=>
 stC r18.2 (.ptr l4 0) cs19 fun σ20=>
 ldG σ20 (.ptr l4 0) 3 fun g21=>
 some (g21,σ20))
 ((S.z137 r7.1.1 goal_ σ11).bind fun r22=>
 cond (!r22.1) (
 (S.z146 106 r22.2).bind fun r23=>
 aggK r23.1 3 fun cs24=>
 stC r23.2 (.ptr l4 0) cs24 fun σ25=>
 ldG σ25 (.ptr l4 0) 3 fun g26=>
 some (g26,σ25))
 (ldG r22.2 (.ptr l8 0) 3 fun g27=>
 aggK g27 3 fun cs28=>
 stC r22.2 (.ptr l4 0) cs28 fun σ29=>
 ldG σ29 (.ptr l4 0) 3 fun g30=>
 some (g30,σ29))))
def W.z142:Spec:=.eff [.V] fun args σ=>packs args [.V,.V,.V] fun x=>S.z142 x.1 x.2.1 x.2.2 σ
def S.z114.b0(p24 p25:AVal)(p26:Bool)(p27 p28:AVal)(p29:Int):LT ((AVal×Int)) (AVal):=fun x30 σ31=>
 ixA σ31 p24 1 p29 fun a32=>
 ld σ31 a32 (.V) fun v33=>
 lenV v33 fun n34=>
 cond (decide (x30.2<n34)) (
 ixA σ31 p24 1 p29 fun a35=>
 ld σ31 a35 (.V) fun v36=>
 ixA σ31 v36 1 x30.2 fun a37=>
 ld σ31 a37 (.I .i64) fun n38=>
 (S.z119 n38 8 σ31).bind fun r39=>
 newK σ31 1 [(.int .i64 r39)] fun l40 σ41=>
 appS σ41 1 8 x30.1 (.sl l40 0 1 none) fun v42 σ43=>
 some (.inl (v42,(IntKind.i64.wrap (x30.2+1))),σ43))
 (some (.inr x30.1,σ31))
def S.z114.b1(p46 p47:AVal)(p48:Bool)(p49 p50:AVal)(p51:Int)(p52:AVal):LT ((AVal×Int)) (AVal):=fun x53 σ54=>
 lenV p52 fun n55=>
 cond (decide (x53.2<n55)) (
 ixA σ54 p52 1 x53.2 fun a56=>
 ld σ54 a56 (.I .i64) fun n57=>
 newK σ54 1 [(.int .i64 n57)] fun l58 σ59=>
 newK σ59 1 [(.sl l58 0 1 none)] fun l60 σ61=>
 appS σ61 1 24 x53.1 (.sl l60 0 1 none) fun v62 σ63=>
 some (.inl (v62,(IntKind.i64.wrap (x53.2+1))),σ63))
 (some (.inr x53.1,σ54))
def S.z114.b2(p76 p77:AVal)(p78:Bool)(p79 p80:AVal)(p81:Int)(p82 p83:AVal):LT ((AVal×Int)) ((AVal⊕Bool)):=fun x84 σ85=>
 fld p83 2 fun a86=>
 ld σ85 a86 (.V) fun v87=>
 lenV v87 fun n88=>
 cond (decide (x84.2<n88)) (
 fld p83 2 fun a89=>
 ld σ85 a89 (.V) fun v90=>
 ixA σ85 v90 1 x84.2 fun a91=>
 ld σ85 a91 (.I .i64) fun n92=>
 (S.z148 p82 n92 σ85).bind fun r93=>
 cond (!r93) (
 some (.inr (.inr false),σ85))
 (fld p83 2 fun a94=>
 ld σ85 a94 (.V) fun v95=>
 ixA σ85 v95 1 x84.2 fun a96=>
 ld σ85 a96 (.I .i64) fun n97=>
 newK σ85 1 [(.int .i64 (IntKind.i64.wrap (0-n97)))] fun l98 σ99=>
 appS σ99 1 8 x84.1 (.sl l98 0 1 none) fun v100 σ101=>
 some (.inl (v100,(IntKind.i64.wrap (x84.2+1))),σ101)))
 (some (.inr (.inl x84.1),σ85))
def S.z114.b3(p121 p122:AVal)(p123:Bool)(p124:AVal)(p125:Int)(p126:AVal):LT ((AVal×Int)) ((AVal⊕Bool)):=fun x127 σ128=>
 lenV p126 fun n129=>
 cond (decide (x127.2<n129)) (
 ixA σ128 p126 1 x127.2 fun a130=>
 ld σ128 a130 (.V) fun v131=>
 (S.z28 p124 v131 σ128).bind fun r132=>
 eqI (tiOf Tryz.prog) r132.2 true r132.1 .nili fun b133=>
 cond (!b133) (
 some (.inr (.inr false),r132.2))
 (ixA r132.2 p126 1 x127.2 fun a134=>
 ld r132.2 a134 (.V) fun v135=>
 scal v135 (
 newK r132.2 1 [v135] fun l136 σ137=>
 appS σ137 1 24 x127.1 (.sl l136 0 1 none) fun v138 σ139=>
 some (.inl (v138,(IntKind.i64.wrap (x127.2+1))),σ139))))
 (some (.inr (.inl x127.1),σ128))
def S.z114.b4(p14 p15:AVal)(p16:Bool)(p17:AVal):LT ((AVal×Int)) ((Unit⊕Bool)):=fun x18 σ19=>
  lenV p14 fun n20=>
  cond (decide (x18.2<n20)) (
  (ixA σ19 p14 1 x18.2 fun a21=>
  ld σ19 a21 (.V) fun v22=>
  lenV v22 fun n23=>
  cond (decide (n23>10)) (
  some (.inr p16,σ19))
  ((loopW (S.z114.b0 p14 p15 p16 p17 x18.1 x18.2) (.nils,0) σ19).bind fun r44=>
  (S.z147 x18.1 r44.2).bind fun r45=>
  (loopW (S.z114.b1 p14 p15 p16 p17 x18.1 x18.2 r44.1) (r45.1,0) r45.2).bind fun r64=>
  (S.z32 p17 r44.1 r64.2).bind fun r65=>
  newK r65.2 3 [(.bool false),.nils,.nils] fun l66 σ67=>
  aggK r65.1.1 3 fun cs68=>
  stC σ67 (.ptr l66 0) cs68 fun σ69=>
  scal r64.1 (
  (S.z131 (.agg [(.int .i64 8),r64.1]) σ69).bind fun r70=>
  (eqI (tiOf Tryz.prog) r70.2 true r65.1.2 .nili fun b71=>
  cond (!b71) (
  some true)
  (ld r70.2 (.ptr l66 0) (.B) fun b72=>
  cond (!(b72==r70.1.2)) (
  some true)
  (cond r70.1.2 (
  ld r70.2 (.ptr l66 1) (.V) fun v73=>
  (S.z129 r64.1 v73 r70.2).bind fun r74=>
  some (!r74))
  (some false)))).bind fun r75=>
  cond r75 (
  some (.inr false,r70.2))
  ((cond (!r70.1.2) (
  (loopW (S.z114.b2 p14 p15 p16 p17 x18.1 x18.2 r44.1 (.ptr l66 0)) (.nils,0) r70.2).bind fun r102=>
  (match r102.1 with
 | .inl y103=>(cond (x18.2==0) (
  (S.z29 p17 r102.2).bind fun r105=>
  (S.z31 p17 r105.2).bind fun r106=>
  (S.z142 r105.1 r106.1 y103 r106.2).bind fun r107=>
  agS r107.1 0 (.I .i64) fun n108=>
  some ((n108 != 0),r107.2))
  (some (false,r102.2))).bind fun r109=>
  cond r109.1 (
  some (.inr false,r109.2))
  (some (.inl (),r109.2))
 | .inr y104=>some (.inr y104,r102.2)))
  (some (.inl (),r70.2)):Option ((Unit⊕Bool)×Heap)).bind fun r110=>
  (match r110.1 with
 | .inl y111=>(lenV p15 fun n113=>
  cond (decide (x18.2<n113)) (
  ixA r110.2 p15 1 x18.2 fun a114=>
  ld r110.2 a114 (.V) fun v115=>
  lenV v115 fun n116=>
  some (decide (n116<=30)))
  (some false)).bind fun r117=>
  cond r117 (
  ixA r110.2 p15 1 x18.2 fun a118=>
  ld r110.2 a118 (.V) fun v119=>
  (S.z117 v119 8 r110.2).bind fun r120=>
  (loopW (S.z114.b3 p14 p15 p16 p17 x18.2 r120.1) (x18.1,0) r120.2).bind fun r140=>
  (match r140.1 with
 | .inl y141=>some (.inl y141,r140.2)
 | .inr y142=>some (.inr y142,r140.2)))
  (some (.inl x18.1,r110.2))
 | .inr y112=>some (.inr y112,r110.2))))):Option ((AVal⊕Bool)×Heap)).bind fun r143=>
  (match r143.1 with
 | .inl y144=>some (.inl (y144,(IntKind.i64.wrap (x18.2+1))),r143.2)
 | .inr y145=>some (.inr (.inr y145),r143.2)))
  (some (.inr (.inl ()),σ19))
def S.z114(p0 p1:AVal)(p2 p3:AVal)(σ:Heap):Option (Bool×Heap):=
  aggK p1 6 fun cs1=>
  newK σ 6 cs1 fun l2 σ3=>
  (S.z115 σ3).bind fun r4=>
  cond (!r4.1) (
  some (false,r4.2))
  ((lenV p0 fun n5=>
  cond (decide (n5>100)) (
  some (true,r4.2))
  (lenV p2 fun n6=>
  cond (decide (n6>5)) (
  some (true,r4.2))
  (lenV p3 fun n7=>
  cond (decide (n7>5)) (
  some (true,r4.2))
  (ldG r4.2 (.ptr l2 0) 6 fun g8=>
  (S.z120 g8 r4.2).bind fun r9=>
  some ((!r9.1),r9.2))))).bind fun r10=>
  cond r10.1 (
  some (r4.1,r10.2))
  (ldG r10.2 (.ptr l2 0) 6 fun g11=>
  (S.z116 p0 g11 r10.2).bind fun r12=>
  eqP r12.1.1 .nilp fun b13=>
  cond b13 (
  some (false,r12.2))
  ((loopW (S.z114.b4 p2 p3 r4.1 r12.1.1) (r12.1.2,0) r12.2).bind fun r146=>
  (match r146.1 with
 | .inl y147=>some (r4.1,r146.2)
 | .inr y148=>some (y148,r146.2)))))
def W.z114:Spec:=.eff [.B] fun args σ=>packs args [.V,.V,.V,.V] fun x=>S.z114 x.1 x.2.1 x.2.2.1 x.2.2.2 σ
end
end Go.Proofs.YtafbldhedkallaaGreatDoor.A
end
