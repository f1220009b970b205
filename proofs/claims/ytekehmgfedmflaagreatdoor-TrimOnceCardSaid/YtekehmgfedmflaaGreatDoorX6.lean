/- Parts of the proof, one behind another. -/
import Derived.Test.YtekehmgfedmflaaGreatDoorProg
import Derived.Test.YtekehmgfedmflaaGreatDoorX0
set_option linter.all false
noncomputable section
namespace Go.Proofs.YtekehmgfedmflaaGreatDoor.A
set_option linter.unusedVariables false
section
open Go
abbrev LT(X Y:Type):=X->Heap->Option ((X⊕Y)×Heap)
def S.z22(l_ nodes_:Int)(σ:Heap):Option Bool:=
 (cond (decide (l_>=0)) (
 some (decide (l_<=(IntKind.i64.wrap ((IntKind.i64.wrap (2*nodes_))+1)))))
 (some false)).bind fun r1=>
 some r1
def W.z22:Spec:=.pur [.B] fun args σ=>packs args [.I .i64,.I .i64] fun x=>S.z22 x.1 x.2 σ
def S.z13.b0(p13 p14:AVal)(p15:Int):LT (Int) ((Unit⊕AVal)):=fun x16 σ17=>
 cond (decide (x16<p15)) (
 ixA σ17 p14 2 x16 fun a18=>
 ldG σ17 a18 2 fun g19=>
 newK σ17 2 [(.int .i64 0),(.int .i64 0)] fun l20 σ21=>
 aggK g19 2 fun cs22=>
 stC σ21 (.ptr l20 0) cs22 fun σ23=>
 fld p13 0 fun a24=>
 ld σ23 a24 (.I .i64) fun n25=>
 (ixP (.ptr l20 0) 2 1 0 fun a26=>
 ld σ23 a26 (.I .i64) fun n27=>
 (S.z22 n27 (IntKind.i64.wrap (n25+x16)) σ23).bind fun r28=>
 cond (!r28) (
 some true)
 (ixP (.ptr l20 0) 2 1 1 fun a29=>
 ld σ23 a29 (.I .i64) fun n30=>
 (S.z22 n30 (IntKind.i64.wrap (n25+x16)) σ23).bind fun r31=>
 cond (!r31) (
 some true)
 (ixP (.ptr l20 0) 2 1 0 fun a32=>
 ld σ23 a32 (.I .i64) fun n33=>
 ixP (.ptr l20 0) 2 1 1 fun a34=>
 ld σ23 a34 (.I .i64) fun n35=>
 some (decide (n33<n35))))).bind fun r36=>
 cond r36 (
 ld σ23 (.ptr 0 0) (.V) fun v37=>
 some (.inr (.inr v37),σ23))
 (some (.inl (IntKind.i64.wrap (x16+1)),σ23)))
 (some (.inr (.inl ()),σ17))
def S.z13.b1(p43 p44:AVal)(p45:Int)(σ0:Heap):Int->Option (Int⊕(Unit⊕AVal)):=fun x46=>
 cond (decide (x46<p45)) (
 ixA σ0 p44 1 x46 fun a48=>
 ld σ0 a48 (.I .i64) fun n49=>
 fld p43 0 fun a50=>
 ld σ0 a50 (.I .i64) fun n51=>
 fld p43 1 fun a52=>
 ld σ0 a52 (.V) fun v53=>
 lenV v53 fun n54=>
 (S.z22 n49 (IntKind.i64.wrap (n51+n54)) σ0).bind fun r55=>
 cond (!r55) (
 ld σ0 (.ptr 0 0) (.V) fun v56=>
 some (.inr (.inr v56)))
 (some (.inl (IntKind.i64.wrap (x46+1)))))
 (some (.inr (.inl ())))
def S.z13(p0:AVal)(σ:Heap):Option (AVal×Heap):=
  aggK p0 3 fun cs1=>
  newK σ 3 cs1 fun l2 σ3=>
  (ld σ3 (.ptr l2 0) (.I .i64) fun n4=>
  cond (decide (n4<0)) (
  some true)
  (ld σ3 (.ptr l2 0) (.I .i64) fun n5=>
  cond (decide (n5>8000)) (
  some true)
  (ld σ3 (.ptr l2 0) (.I .i64) fun n6=>
  ld σ3 (.ptr l2 1) (.V) fun v7=>
  lenV v7 fun n8=>
  some (decide ((IntKind.i64.wrap (n6+n8))>8000))))).bind fun r9=>
  cond r9 (
  ld σ3 (.ptr 1 0) (.V) fun v10=>
  some (v10,σ3))
  (ld σ3 (.ptr l2 1) (.V) fun v11=>
  lenV v11 fun n12=>
  (loopW (S.z13.b0 (.ptr l2 0) v11 n12) 0 σ3).bind fun r38=>
  (match r38.1 with
 | .inl y39=>ld r38.2 (.ptr l2 2) (.V) fun v41=>
  lenV v41 fun n42=>
  (loopP (S.z13.b1 (.ptr l2 0) v41 n42 r38.2) 0).bind fun r57=>
  (match r57 with
 | .inl y58=>some (.nili,r38.2)
 | .inr y59=>some (y59,r38.2))
 | .inr y40=>some (y40,r38.2)))
def W.z13:Spec:=.eff [.V] fun args σ=>packs args [.V] fun x=>S.z13 x σ
def S.z7(m_:AVal)(σ:Heap):Option (AVal×Heap):=
 aggK m_ 5 fun cs1=>
 newK σ 5 cs1 fun l2 σ3=>
 ldG σ3 (.ptr l2 2) 3 fun g4=>
 (S.z13 g4 σ3).bind fun r5=>
 eqI (tiOf Tryz.prog) r5.2 true r5.1 .nili fun b6=>
 cond (!b6) (
 some (r5.1,r5.2))
 ((ld r5.2 (.ptr l2 4) (.V) fun v7=>
 lenV v7 fun n8=>
 cond (n8 != 1) (
 some true)
 (ld r5.2 (.ptr l2 1) (.I .i64) fun n9=>
 cond (decide (n9<0)) (
 some true)
 (ld r5.2 (.ptr l2 1) (.I .i64) fun n10=>
 ld r5.2 (.ptr l2 2) (.I .i64) fun n11=>
 some (decide (n10>n11))))).bind fun r12=>
 cond r12 (
 ld r5.2 (.ptr 0 0) (.V) fun v13=>
 some (v13,r5.2))
 (some (.nili,r5.2)))
def W.z7:Spec:=.eff [.V] fun args σ=>packs args [.V] fun x=>S.z7 x σ
def S.z50(x_ p1:AVal)(σ:Heap):Option Bool:=
 lenV x_ fun n1=>
 ld σ p1 (.I .i64) fun n2=>
 some (n1 != n2)
def W.z50:Spec:=.pur [.B] fun args σ=>packs args [.V,.V] fun x=>S.z50 x.1 x.2 σ
def S.z124.b0(p4 p5:AVal)(p6:Int)(σ0:Heap):Int->Option (Int⊕(Unit⊕Bool)):=fun x7=>
 cond (decide (x7<p6)) (
 ixA σ0 p4 1 x7 fun a9=>
 ld σ0 a9 (.B) fun b10=>
 ixA σ0 p5 1 x7 fun a11=>
 ld σ0 a11 (.B) fun b12=>
 cond (!(b10==b12)) (
 some (.inr (.inr false)))
 (some (.inl (IntKind.i64.wrap (x7+1)))))
 (some (.inr (.inl ())))
def S.z124(s1_ s2_:AVal)(σ:Heap):Option Bool:=
  lenV s1_ fun n1=>
  lenV s2_ fun n2=>
  cond (n1 != n2) (
  some false)
  (lenV s1_ fun n3=>
  (loopP (S.z124.b0 s1_ s2_ n3 σ) 0).bind fun r13=>
  (match r13 with
 | .inl y14=>some true
 | .inr y15=>some y15))
def W.z124:Spec:=.pur [.B] fun args σ=>packs args [.V,.V] fun x=>S.z124 x.1 x.2 σ
def S.z135(a_ b_:AVal)(σ:Heap):Option Bool:=
 (S.z124 a_ b_ σ).bind fun r1=>
 some r1
def W.z135:Spec:=.pur [.B] fun args σ=>packs args [.V,.V] fun x=>S.z135 x.1 x.2 σ
def S.z132(y_ p1:AVal)(σ:Heap):Option Bool:=
 ld σ p1 (.V) fun v1=>
 (S.z135 v1 y_ σ).bind fun r2=>
 some r2
def W.z132:Spec:=.pur [.B] fun args σ=>packs args [.V,.V] fun x=>S.z132 x.1 x.2 σ
def S.z125.T:FuncId->Option Spec:=(tab 31 W.z132 (tab 99 W.z50 y3p_))
def S.z125.b0(p2 p3:AVal)(p4:Int):LT (Int) ((Unit⊕Int)):=fun x5 σ6=>
 cond (decide (x5<p4)) (
 ixA σ6 p2 1 x5 fun a7=>
 ld σ6 a7 (.V) fun v8=>
 callV S.z125.T p3 [v8] σ6 fun r9 σ10=>
 asK (.B) r9 fun b11=>
 cond b11 (
 some (.inr (.inr x5),σ10))
 (some (.inl (IntKind.i64.wrap (x5+1)),σ10)))
 (some (.inr (.inl ()),σ6))
def S.z125(s_ f_:AVal)(σ:Heap):Option (Int×Heap):=
  lenV s_ fun n1=>
  (loopW (S.z125.b0 s_ f_ n1) 0 σ).bind fun r12=>
  (match r12.1 with
 | .inl y13=>some ((-1),r12.2)
 | .inr y14=>some (y14,r12.2))
def W.z125:Spec:=.eff [.I .i64] fun args σ=>packs args [.V,.V] fun x=>S.z125 x.1 x.2 σ
def S.z122(s_ f_:AVal)(σ:Heap):Option (Bool×Heap):=
 (S.z125 s_ f_ σ).bind fun r1=>
 some ((decide (r1.1>=0)),r1.2)
def W.z122:Spec:=.eff [.B] fun args σ=>packs args [.V,.V] fun x=>S.z122 x.1 x.2 σ
def S.z49(m_ moves_:AVal)(σ:Heap):Option (Bool×Heap):=
 aggK m_ 5 fun cs1=>
 newK σ 5 cs1 fun l2 σ3=>
 ld σ3 (.ptr l2 2) (.I .i64) fun n4=>
 ld σ3 (.ptr l2 1) (.I .i64) fun n5=>
 newK σ3 1 [(.int .i64 0)] fun l6 σ7=>
 stC σ7 (.ptr l6 0) [(.int .i64 (IntKind.i64.wrap (n4-n5)))] fun σ8=>
 (S.z122 moves_ (.fn (.func 99) [] [(.ptr l6 0)]) σ8).bind fun r9=>
 some ((!r9.1),r9.2)
def W.z49:Spec:=.eff [.B] fun args σ=>packs args [.V,.V] fun x=>S.z49 x.1 x.2 σ
def S.z133(m_ moves_:AVal)(σ:Heap):Option (AVal×Heap):=
 aggK m_ 5 fun cs1=>
 newK σ 5 cs1 fun l2 σ3=>
 ldG σ3 (.ptr l2 0) 5 fun g4=>
 (S.z7 g4 σ3).bind fun r5=>
 eqI (tiOf Tryz.prog) r5.2 true r5.1 .nili fun b6=>
 cond (!b6) (
 some (r5.1,r5.2))
 (ldG r5.2 (.ptr l2 0) 5 fun g7=>
 (S.z49 g7 moves_ r5.2).bind fun r8=>
 cond (!r8.1) (
 ld r8.2 (.ptr 0 0) (.V) fun v9=>
 some (v9,r8.2))
 (some (.nili,r8.2)))
def W.z133:Spec:=.eff [.V] fun args σ=>packs args [.V,.V] fun x=>S.z133 x.1 x.2 σ
def S.z120(s_:AVal)(σ:Heap):Option (AVal×Heap):=
 eqS s_ .nils fun b1=>
 cond b1 (
 some (.nils,σ))
 (newK σ 1 [] fun l2 σ3=>
 appS σ3 1 8 (.sl l2 0 0 none) s_ fun v4 σ5=>
 some (v4,σ5))
def W.z120:Spec:=.eff [.V] fun args σ=>packs args [.V] fun x=>S.z120 x σ
def S.z61(l_:AVal)(σ:Heap):Option (AVal×Heap):=
 newK σ 2 [.nils,(.int .i64 0)] fun l1 σ2=>
 (S.z120 l_ σ2).bind fun r3=>
 scal r3.1 (
 stC r3.2 (.ptr l1 0) [r3.1,(.int .i64 0)] fun σ4=>
 ldG σ4 (.ptr l1 0) 2 fun g5=>
 some (g5,σ4))
def W.z61:Spec:=.eff [.V] fun args σ=>packs args [.V] fun x=>S.z61 x σ
def S.z60(s_:AVal)(σ:Heap):Option (AVal×Heap):=
 aggK s_ 6 fun cs1=>
 newK σ 6 cs1 fun l2 σ3=>
 ld σ3 (.ptr l2 0) (.V) fun v4=>
 (S.z61 v4 σ3).bind fun r5=>
 ld r5.2 (.ptr l2 1) (.V) fun v6=>
 ld σ3 (.ptr l2 1) (.V) fun v7=>
 chk ((v7:AVal)=v6) (
 (S.z61 v6 r5.2).bind fun r8=>
 ld r8.2 (.ptr l2 2) (.V) fun v9=>
 ld r5.2 (.ptr l2 2) (.V) fun v10=>
 chk ((v10:AVal)=v9) (
 ld σ3 (.ptr l2 2) (.V) fun v11=>
 chk ((v11:AVal)=v9) (
 (S.z61 v9 r8.2).bind fun r12=>
 ld r12.2 (.ptr l2 3) (.V) fun v13=>
 ld r8.2 (.ptr l2 3) (.V) fun v14=>
 chk ((v14:AVal)=v13) (
 ld r5.2 (.ptr l2 3) (.V) fun v15=>
 chk ((v15:AVal)=v13) (
 ld σ3 (.ptr l2 3) (.V) fun v16=>
 chk ((v16:AVal)=v13) (
 (S.z61 v13 r12.2).bind fun r17=>
 ld r17.2 (.ptr l2 4) (.I .i64) fun n18=>
 ld r12.2 (.ptr l2 4) (.I .i64) fun n19=>
 chk (((.int .i64 n19):AVal)=(.int .i64 n18)) (
 ld r8.2 (.ptr l2 4) (.I .i64) fun n20=>
 chk (((.int .i64 n20):AVal)=(.int .i64 n18)) (
 ld r5.2 (.ptr l2 4) (.I .i64) fun n21=>
 chk (((.int .i64 n21):AVal)=(.int .i64 n18)) (
 ld σ3 (.ptr l2 4) (.I .i64) fun n22=>
 chk (((.int .i64 n22):AVal)=(.int .i64 n18)) (
 aggK r5.1 2 fun cs23=>
 putC [.nils,(.int .i64 0),.nils,(.int .i64 0),.nils,(.int .i64 0),.nils,(.int .i64 0),(.int .i64 0),(.int .i64 0),(.int .i64 0),(.int .i64 0)] 0 2 cs23 fun cs24=>
 aggK r8.1 2 fun cs25=>
 putC cs24 2 2 cs25 fun cs26=>
 aggK r12.1 2 fun cs27=>
 putC cs26 4 2 cs27 fun cs28=>
 aggK r17.1 2 fun cs29=>
 putC cs28 6 2 cs29 fun cs30=>
 putC cs30 8 1 [(.int .i64 n18)] fun cs31=>
 putC cs31 11 1 [(.int .i64 16)] fun cs32=>
 aggK (.agg cs32) 12 fun cs33=>
 newK r17.2 12 cs33 fun l34 σ35=>
 some ((.ptr l34 0),σ35)))))))))))
def W.z60:Spec:=.eff [.V] fun args σ=>packs args [.V] fun x=>S.z60 x σ
def S.z20(inputs_:Int)(σ:Heap):Option (AVal×Heap):=
 newM σ fun l1 σ2=>
 newK σ2 4 [(.int .i64 (if 8000<(if 0>inputs_ then 0 else inputs_)then 8000 else(if 0>inputs_ then 0 else inputs_))),.nils,(.map l1),.nili] fun l3 σ4=>
 some ((.ptr l3 0),σ4)
def W.z20:Spec:=.eff [.V] fun args σ=>packs args [.I .i64] fun x=>S.z20 x σ
def S.z19(g_ err_:AVal)(σ:Heap):Option (Int×Heap):=
 nilck g_ (
 fld g_ 3 fun a1=>
 ld σ a1 (.V) fun v2=>
 eqI (tiOf Tryz.prog) σ true v2 .nili fun b3=>
 (cond b3 (
 nilck g_ (
 fld g_ 3 fun a4=>
 scal err_ (
 stC σ a4 [err_] fun σ5=>
 some ((),σ5))))
 (some ((),σ))).bind fun r6=>
 some (0,r6.2))
def W.z19:Spec:=.eff [.I .i64] fun args σ=>packs args [.V,.V] fun x=>S.z19 x.1 x.2 σ
def S.z17(g_:AVal)(i_:Int)(σ:Heap):Option (Int×Heap):=
 (cond (decide (i_<0)) (
 some true)
 (nilck g_ (
 fld g_ 0 fun a1=>
 ld σ a1 (.I .i64) fun n2=>
 some (decide (i_>=n2))))).bind fun r3=>
 cond r3 (
 ld σ (.ptr 0 0) (.V) fun v4=>
 (S.z19 g_ v4 σ).bind fun r5=>
 some (r5.1,r5.2))
 (some ((IntKind.i64.wrap (2*(IntKind.i64.wrap (i_+1)))),σ))
def W.z17:Spec:=.eff [.I .i64] fun args σ=>packs args [.V,.I .i64] fun x=>S.z17 x.1 x.2 σ
def S.z59.b0(p15 p16:AVal):LT (Int) (Unit):=fun x17 σ18=>
 fld p15 0 fun a19=>
 ld σ18 a19 (.I .i64) fun n20=>
 cond (decide (x17>n20)) (
 (ixA σ18 p16 1 x17 fun a21=>
 ld σ18 a21 (.B) fun b22=>
 cond b22 (
 fld p15 1 fun a23=>
 ld σ18 a23 (.V) fun v24=>
 fld p15 0 fun a25=>
 ld σ18 a25 (.I .i64) fun n26=>
 ixA σ18 v24 2 (IntKind.i64.wrap ((IntKind.i64.wrap (x17-1))-n26)) fun a27=>
 ldG σ18 a27 2 fun g28=>
 newK σ18 2 [(.int .i64 0),(.int .i64 0)] fun l29 σ30=>
 aggK g28 2 fun cs31=>
 stC σ30 (.ptr l29 0) cs31 fun σ32=>
 ixP (.ptr l29 0) 2 1 0 fun a33=>
 ld σ32 a33 (.I .i64) fun n34=>
 ixP (.ptr l29 0) 2 1 1 fun a35=>
 ld σ32 a35 (.I .i64) fun n36=>
 ixA σ32 p16 1 (IntKind.i64.wrap (Int.tdiv n34 2)) fun a37=>
 stC σ32 a37 [(.bool true)] fun σ38=>
 ld σ38 a35 (.I .i64) fun n39=>
 chk (((.int .i64 n39):AVal)=(.int .i64 n36)) (
 ixP (.ptr l29 0) 2 1 1 fun a40=>
 chk ((a40:AVal)=a35) (
 ixA σ38 p16 1 (IntKind.i64.wrap (Int.tdiv n36 2)) fun a41=>
 stC σ38 a41 [(.bool true)] fun σ42=>
 some ((),σ42))))
 (some ((),σ18))).bind fun r43=>
 some (.inl (IntKind.i64.wrap (x17-1)),r43.2))
 (some (.inr (),σ18))
def S.z59(p0:AVal)(p1:Int)(σ:Heap):Option (AVal×Heap):=
 aggK p0 3 fun cs1=>
 newK σ 3 cs1 fun l2 σ3=>
 ld σ3 (.ptr l2 0) (.I .i64) fun n4=>
 ld σ3 (.ptr l2 1) (.V) fun v5=>
 lenV v5 fun n6=>
 (ldG σ3 (.ptr l2 0) 3 fun g7=>
 (S.z13 g7 σ3).bind fun r8=>
 eqI (tiOf Tryz.prog) r8.2 true r8.1 .nili fun b9=>
 cond (!b9) (
 some (true,r8.2))
 (cond (decide (p1<0)) (
 some (true,r8.2))
 (some ((decide (p1>=(IntKind.i64.wrap (2*(IntKind.i64.wrap ((IntKind.i64.wrap (1+n4))+n6)))))),r8.2)))).bind fun r10=>
 cond r10.1 (
 some (.nils,r10.2))
 (mkS r10.2 1 1 [(.bool false)] (IntKind.i64.wrap ((IntKind.i64.wrap (1+n4))+n6)) (IntKind.i64.wrap ((IntKind.i64.wrap (1+n4))+n6)) fun v11 σ12=>
 ixA σ12 v11 1 (IntKind.i64.wrap (Int.tdiv p1 2)) fun a13=>
 stC σ12 a13 [(.bool true)] fun σ14=>
 (loopW (S.z59.b0 (.ptr l2 0) v11) (IntKind.i64.wrap ((IntKind.i64.wrap ((IntKind.i64.wrap (1+n4))+n6))-1)) σ14).bind fun r44=>
 some (v11,r44.2))
def W.z59:Spec:=.eff [.V] fun args σ=>packs args [.V,.I .i64] fun x=>S.z59 x.1 x.2 σ
def S.z58(l_:Int)(p1:AVal)(σ:Heap):Option Int:=
 ld σ p1 (.V) fun v1=>
 ixA σ v1 1 (IntKind.i64.wrap (Int.tdiv l_ 2)) fun a2=>
 ld σ a2 (.I .i64) fun n3=>
 some (IntKind.i64.wrap (BitVec.toNat (BitVec.ofInt IntKind.i64.bits n3 ^^^ BitVec.ofInt IntKind.i64.bits (IntKind.i64.wrap (BitVec.toNat (BitVec.ofInt IntKind.i64.bits l_ &&& BitVec.ofInt IntKind.i64.bits 1))))))
def W.z58:Spec:=.pur [.I .i64] fun args σ=>packs args [.I .i64,.V] fun x=>S.z58 x.1 x.2 σ
def S.z18(g_:AVal)(σ:Heap):Option Int:=
 nilck g_ (
 fld g_ 0 fun a1=>
 ld σ a1 (.I .i64) fun n2=>
 nilck g_ (
 fld g_ 1 fun a3=>
 ld σ a3 (.V) fun v4=>
 lenV v4 fun n5=>
 some (IntKind.i64.wrap (n2+n5))))
def W.z18:Spec:=.pur [.I .i64] fun args σ=>packs args [.V] fun x=>S.z18 x σ
def S.z21(l_:Int)(σ:Heap):Option Int:=
 some (IntKind.i64.wrap (BitVec.toNat (BitVec.ofInt IntKind.i64.bits l_ ^^^ BitVec.ofInt IntKind.i64.bits 1)))
def W.z21:Spec:=.pur [.I .i64] fun args σ=>packs args [.I .i64] fun x=>S.z21 x σ
def S.z14(p0:AVal)(p1 p2:Int)(σ:Heap):Option (Int×Heap):=
 ((S.z18 p0 σ).bind fun r1=>
 (S.z22 (if p2>p1 then p2 else p1) r1 σ).bind fun r2=>
 cond (!r2) (
 some true)
 ((S.z18 p0 σ).bind fun r3=>
 (S.z22 (if p2<p1 then p2 else p1) r3 σ).bind fun r4=>
 some (!r4))).bind fun r5=>
 cond r5 (
 ld σ (.ptr 0 0) (.V) fun v6=>
 (S.z19 p0 v6 σ).bind fun r7=>
 some (r7.1,r7.2))
 (cond ((if p2<p1 then p2 else p1)==0) (
 some (0,σ))
 ((cond ((if p2<p1 then p2 else p1)==1) (
 some true)
 (some ((if p2>p1 then p2 else p1)==(if p2<p1 then p2 else p1)))).bind fun r8=>
 cond r8 (
 some ((if p2>p1 then p2 else p1),σ))
 ((S.z21 (if p2<p1 then p2 else p1) σ).bind fun r9=>
 cond ((if p2>p1 then p2 else p1)==r9) (
 some (0,σ))
 (nilck p0 (
 fld p0 2 fun a10=>
 ld σ a10 (.V) fun v11=>
 y2b_ σ v11 (if p2>p1 then p2 else p1) (if p2<p1 then p2 else p1) (.int .i64 0) fun x12 b13=>
 asK (.I .i64) x12 fun n14=>
 cond b13 (
 some (n14,σ))
 ((S.z18 p0 σ).bind fun r15=>
 cond (decide (r15>=8000)) (
 ld σ (.ptr 1 0) (.V) fun v16=>
 (S.z19 p0 v16 σ).bind fun r17=>
 some (r17.1,r17.2))
 (nilck p0 (
 fld p0 1 fun a18=>
 ld σ a18 (.V) fun v19=>
 newK σ 2 [(.int .i64 (if p2>p1 then p2 else p1)),(.int .i64 (if p2<p1 then p2 else p1))] fun l20 σ21=>
 appS σ21 2 16 v19 (.sl l20 0 1 none) fun v22 σ23=>
 nilck p0 (
 fld p0 1 fun a24=>
 scal v22 (
 stC σ23 a24 [v22] fun σ25=>
 (S.z18 p0 σ25).bind fun r26=>
 nilck p0 (
 fld p0 2 fun a27=>
 ld σ25 a27 (.V) fun v28=>
 y1y_ σ25 v28 (if p2>p1 then p2 else p1) (if p2<p1 then p2 else p1) (.int .i64 (IntKind.i64.wrap (2*r26))) fun σ29=>
 some ((IntKind.i64.wrap (2*r26)),σ29))))))))))))
def W.z14:Spec:=.eff [.I .i64] fun args σ=>packs args [.V,.I .i64,.I .i64] fun x=>S.z14 x.1 x.2.1 x.2.2 σ
def S.z53(l_ vars_:Int)(σ:Heap):Option Bool:=
 (cond (l_ != 0) (
 cond (decide (l_>=(IntKind.i64.wrap (0-vars_)))) (
 some (decide (l_<=vars_)))
 (some false))
 (some false)).bind fun r1=>
 some r1
def W.z53:Spec:=.pur [.B] fun args σ=>packs args [.I .i64,.I .i64] fun x=>S.z53 x.1 x.2 σ
def S.z52(l_:Int)(p1:AVal)(σ:Heap):Option Bool:=
 fld p1 0 fun a1=>
 ld σ a1 (.I .i64) fun n2=>
 (S.z53 l_ n2 σ).bind fun r3=>
 some (!r3)
def W.z52:Spec:=.pur [.B] fun args σ=>packs args [.I .i64,.V] fun x=>S.z52 x.1 x.2 σ
def S.z55(l_:Int)(σ:Heap):Option Int:=
 some (if(IntKind.i64.wrap (0-l_))>l_ then(IntKind.i64.wrap (0-l_))else l_)
def W.z55:Spec:=.pur [.I .i64] fun args σ=>packs args [.I .i64] fun x=>S.z55 x σ
def S.z12(x_:Int)(σ:Heap):Option Bool:=
 some (x_ != x_)
def W.z12:Spec:=.pur [.B] fun args σ=>packs args [.I .i64] fun x=>S.z12 x σ
def S.z10(x_ y_:Int)(σ:Heap):Option Int:=
 (S.z12 x_ σ).bind fun r1=>
 (S.z12 y_ σ).bind fun r2=>
 cond r1 (
 cond r2 (
 some 0)
 (some (-1)))
 (cond r2 (
 some 1)
 (cond (decide (x_<y_)) (
 some (-1))
 (cond (decide (x_>y_)) (
 some 1)
 (some 0))))
def W.z10:Spec:=.pur [.I .i64] fun args σ=>packs args [.I .i64,.I .i64] fun x=>S.z10 x.1 x.2 σ
def S.z11.b0(p2:AVal)(p3:Int)(σ0:Heap):Int->Option (Int⊕(Unit⊕Int)):=fun x4=>
 cond (decide (x4<p3)) (
 ixA σ0 p2 1 x4 fun a6=>
 ld σ0 a6 (.I .i64) fun n7=>
 cond (n7 != 0) (
 some (.inr (.inr n7)))
 (some (.inl (IntKind.i64.wrap (x4+1)))))
 (some (.inr (.inl ())))
def S.z11(vals_:AVal)(σ:Heap):Option Int:=
  lenV vals_ fun n1=>
  (loopP (S.z11.b0 vals_ n1 σ) 0).bind fun r8=>
  (match r8 with
 | .inl y9=>some 0
 | .inr y10=>some y10)
def W.z11:Spec:=.pur [.I .i64] fun args σ=>packs args [.V] fun x=>S.z11 x σ
def S.z56(a_ b_:Int)(σ:Heap):Option (Int×Heap):=
 (S.z55 a_ σ).bind fun r1=>
 (S.z55 b_ σ).bind fun r2=>
 (S.z10 r1 r2 σ).bind fun r3=>
 (S.z10 a_ b_ σ).bind fun r4=>
 newK σ 1 [(.int .i64 r3),(.int .i64 r4)] fun l5 σ6=>
 (S.z11 (.sl l5 0 2 none) σ6).bind fun r7=>
 some (r7,σ6)
def W.z56:Spec:=.eff [.I .i64] fun args σ=>packs args [.I .i64,.I .i64] fun x=>S.z56 x.1 x.2 σ
def S.z4(a_:AVal)(σ:Heap):Option Int:=
 nilck a_ (
 fld a_ 0 fun a1=>
 ld σ a1 (.V) fun v2=>
 lenV v2 fun n3=>
 some (IntKind.i64.wrap (n3-1)))
def W.z4:Spec:=.pur [.I .i64] fun args σ=>packs args [.V] fun x=>S.z4 x σ
def S.z70(x_:Int)(p1:AVal)(σ:Heap):Option Bool:=
 ld σ p1 (.V) fun v1=>
 nilck v1 (
 fld v1 0 fun a2=>
 ld σ a2 (.V) fun v3=>
 (S.z4 v3 σ).bind fun r4=>
 (S.z53 x_ r4 σ).bind fun r5=>
 some (!r5))
def W.z70:Spec:=.pur [.B] fun args σ=>packs args [.I .i64,.V] fun x=>S.z70 x.1 x.2 σ
def S.z83(p_:AVal)(σ:Heap):Option Int:=
 nilck p_ (
 fld p_ 0 fun a1=>
 ld σ a1 (.V) fun v2=>
 (S.z4 v2 σ).bind fun r3=>
 some r3)
def W.z83:Spec:=.pur [.I .i64] fun args σ=>packs args [.V] fun x=>S.z83 x σ
def S.z97(l_:Int)(p1:AVal)(σ:Heap):Option Bool:=
 ld σ p1 (.V) fun v1=>
 nilck v1 (
 fld v1 0 fun a2=>
 ld σ a2 (.V) fun v3=>
 (S.z83 v3 σ).bind fun r4=>
 (S.z53 l_ r4 σ).bind fun r5=>
 some (!r5))
def W.z97:Spec:=.pur [.B] fun args σ=>packs args [.I .i64,.V] fun x=>S.z97 x.1 x.2 σ
def S.z3(a_:AVal)(l_:Int)(σ:Heap):Option Int:=
 nilck a_ (
 fld a_ 0 fun a1=>
 ld σ a1 (.V) fun v2=>
 lenV v2 fun n3=>
 (S.z53 l_ (IntKind.i64.wrap (n3-1)) σ).bind fun r4=>
 cond (!r4) (
 some 0)
 (nilck a_ (
 fld a_ 0 fun a5=>
 ld σ a5 (.V) fun v6=>
 (S.z55 l_ σ).bind fun r7=>
 ixA σ v6 1 r7 fun a8=>
 ld σ a8 (.I .i8) fun n9=>
 (cond (decide (l_<0)) (
 some ((IntKind.i64.wrap n9) != 0))
 (some false)).bind fun r10=>
 (cond r10 (
 some (IntKind.i64.wrap (3-(IntKind.i64.wrap n9))))
 (some (IntKind.i64.wrap n9))).bind fun r11=>
 some r11)))
def W.z3:Spec:=.pur [.I .i64] fun args σ=>packs args [.V,.I .i64] fun x=>S.z3 x.1 x.2 σ
def S.z82(p_:AVal)(l_:Int)(σ:Heap):Option Int:=
 nilck p_ (
 fld p_ 0 fun a1=>
 ld σ a1 (.V) fun v2=>
 (S.z3 v2 l_ σ).bind fun r3=>
 some r3)
def W.z82:Spec:=.pur [.I .i64] fun args σ=>packs args [.V,.I .i64] fun x=>S.z82 x.1 x.2 σ
def S.z45(l_:Int)(p1:AVal)(σ:Heap):Option Bool:=
 ld σ p1 (.V) fun v1=>
 (S.z82 v1 l_ σ).bind fun r2=>
 some (r2 != 2)
def W.z45:Spec:=.pur [.B] fun args σ=>packs args [.I .i64,.V] fun x=>S.z45 x.1 x.2 σ
def S.z31.T(self:Int->AVal->AVal->AVal->Heap->Option (Unit×Heap)):FuncId->Option Spec:=(tab 217 (.eff [] fun args σ=>packs args [.I .i64,.V,.V,.V] fun x=>self x.1 x.2.1 x.2.2.1 x.2.2.2 σ) y3p_)
def S.z31.r(self:Int->AVal->AVal->AVal->Heap->Option (Unit×Heap))(k_:Int)(p1 p2 p3:AVal)(σ:Heap):Option (Unit×Heap):=
 (ld σ p1 (.V) fun v1=>
 nilck v1 (
 fld v1 2 fun a2=>
 ld σ a2 (.V) fun v3=>
 lenV v3 fun n4=>
 cond (decide (k_<n4)) (
 ld σ p1 (.V) fun v5=>
 nilck v5 (
 fld v5 0 fun a6=>
 ld σ a6 (.V) fun v7=>
 ld σ p1 (.V) fun v8=>
 nilck v8 (
 fld v8 2 fun a9=>
 ld σ a9 (.V) fun v10=>
 ixA σ v10 1 k_ fun a11=>
 ld σ a11 (.I .i64) fun n12=>
 ixA σ v7 1 n12 fun a13=>
 ld σ a13 (.I .i64) fun n14=>
 ld σ p1 (.V) fun v15=>
 nilck v15 (
 fld v15 0 fun a16=>
 ld σ a16 (.V) fun v17=>
 ld σ p1 (.V) fun v18=>
 nilck v18 (
 fld v18 2 fun a19=>
 ld σ a19 (.V) fun v20=>
 ixA σ v20 1 0 fun a21=>
 ld σ a21 (.I .i64) fun n22=>
 ixA σ v17 1 n22 fun a23=>
 ld σ a23 (.I .i64) fun n24=>
 some (n14==n24))))))
 (some false))).bind fun r25=>
 cond r25 (
 ld σ p2 (.V) fun v26=>
 ld σ p1 (.V) fun v27=>
 nilck v27 (
 fld v27 2 fun a28=>
 ld σ a28 (.V) fun v29=>
 ixA σ v29 1 k_ fun a30=>
 ld σ a30 (.I .i64) fun n31=>
 newK σ 1 [(.int .i64 n31)] fun l32 σ33=>
 appS σ33 1 8 v26 (.sl l32 0 1 none) fun v34 σ35=>
 scal v34 (
 stC σ35 p2 [v34] fun σ36=>
 ld σ36 p3 (.V) fun v37=>
 callV (S.z31.T self) v37 [(.int .i64 (IntKind.i64.wrap ((IntKind.i64.wrap (2*k_))+1)))] σ36 fun r38 σ39=>
 ld σ39 p3 (.V) fun v40=>
 callV (S.z31.T self) v40 [(.int .i64 (IntKind.i64.wrap ((IntKind.i64.wrap (2*k_))+2)))] σ39 fun r41 σ42=>
 some ((),σ42))))
 (some ((),σ))
def S.z31.n:Nat->Int->AVal->AVal->AVal->Heap->Option (Unit×Heap)
  |0=>fun _ _ _ _ _=>none
  |n+1=>S.z31.r (S.z31.n n)
def S.z31(k_:Int)(p1 p2 p3:AVal)(σ:Heap):Option (Unit×Heap):=lim fun n=>S.z31.n n k_ p1 p2 p3 σ
def W.z31:Spec:=.eff [] fun args σ=>packs args [.I .i64,.V,.V,.V] fun x=>S.z31 x.1 x.2.1 x.2.2.1 x.2.2.2 σ
def S.z100(l_:Int)(p1:AVal)(σ:Heap):Option Bool:=
 ld σ p1 (.V) fun v1=>
 nilck v1 (
 fld v1 0 fun a2=>
 ld σ a2 (.V) fun v3=>
 (S.z83 v3 σ).bind fun r4=>
 (S.z53 l_ r4 σ).bind fun r5=>
 some (!r5))
def W.z100:Spec:=.pur [.B] fun args σ=>packs args [.I .i64,.V] fun x=>S.z100 x.1 x.2 σ
def S.z38(x_:Int)(p1:AVal)(σ:Heap):Option Bool:=
 ld σ p1 (.V) fun v1=>
 nilck v1 (
 fld v1 1 fun a2=>
 fld a2 0 fun a3=>
 ld σ a3 (.I .i64) fun n4=>
 (S.z53 x_ n4 σ).bind fun r5=>
 some (!r5))
def W.z38:Spec:=.pur [.B] fun args σ=>packs args [.I .i64,.V] fun x=>S.z38 x.1 x.2 σ
def S.z57.b0(p19:AVal)(p20:Int)(p21 p22 p23:AVal):LT (Int) (Unit):=fun x24 σ25=>
 lenV p22 fun n26=>
 cond (decide (x24<n26)) (
 (ixA σ25 p22 1 x24 fun a27=>
 ld σ25 a27 (.B) fun b28=>
 cond b28 (
 fld p21 1 fun a29=>
 ld σ25 a29 (.V) fun v30=>
 fld p21 0 fun a31=>
 ld σ25 a31 (.I .i64) fun n32=>
 ixA σ25 v30 2 (IntKind.i64.wrap ((IntKind.i64.wrap (x24-1))-n32)) fun a33=>
 ldG σ25 a33 2 fun g34=>
 newK σ25 2 [(.int .i64 0),(.int .i64 0)] fun l35 σ36=>
 aggK g34 2 fun cs37=>
 stC σ36 (.ptr l35 0) cs37 fun σ38=>
 ld σ38 p23 (.V) fun v39=>
 ixP (.ptr l35 0) 2 1 0 fun a40=>
 ld σ38 a40 (.I .i64) fun n41=>
 (S.z58 n41 p23 σ38).bind fun r42=>
 ld σ38 p23 (.V) fun v43=>
 chk ((v43:AVal)=v39) (
 ixP (.ptr l35 0) 2 1 1 fun a44=>
 ixP (.ptr l35 0) 2 1 1 fun a45=>
 chk ((a45:AVal)=a44) (
 ld σ38 a44 (.I .i64) fun n46=>
 ld σ38 a44 (.I .i64) fun n47=>
 chk (((.int .i64 n47):AVal)=(.int .i64 n46)) (
 (S.z58 n46 p23 σ38).bind fun r48=>
 ld σ38 p23 (.V) fun v49=>
 chk ((v49:AVal)=v39) (
 (S.z14 p19 r42 r48 σ38).bind fun r50=>
 ld r50.2 p23 (.V) fun v51=>
 chk ((v51:AVal)=v39) (
 ixA r50.2 v39 1 x24 fun a52=>
 stC r50.2 a52 [(.int .i64 r50.1)] fun σ53=>
 some ((),σ53)))))))
 (some ((),σ25))).bind fun r54=>
 some (.inl (IntKind.i64.wrap (x24+1)),r54.2))
 (some (.inr (),σ25))
def S.z57(p0 p1:AVal)(p2:Int)(p3:AVal)(σ:Heap):Option (Int×Heap):=
 aggK p1 3 fun cs1=>
 newK σ 3 cs1 fun l2 σ3=>
 ldG σ3 (.ptr l2 0) 3 fun g4=>
 (S.z59 g4 p2 σ3).bind fun r5=>
 eqS r5.1 .nils fun b6=>
 cond b6 (
 some (0,r5.2))
 (lenV r5.1 fun n7=>
 mkS r5.2 1 8 [(.int .i64 0)] n7 n7 fun v8 σ9=>
 newK σ9 1 [.nils] fun l10 σ11=>
 scal v8 (
 stC σ11 (.ptr l10 0) [v8] fun σ12=>
 ld σ12 (.ptr l10 0) (.V) fun v13=>
 ld σ12 (.ptr l2 0) (.I .i64) fun n14=>
 slS σ12 1 v13 1 (some (IntKind.i64.wrap (1+n14))) none fun v15=>
 copyK σ12 1 v15 p3 fun n16 σ17=>
 ld σ17 (.ptr l2 0) (.I .i64) fun n18=>
 (loopW (S.z57.b0 p0 p2 (.ptr l2 0) r5.1 (.ptr l10 0)) (IntKind.i64.wrap (1+n18)) σ17).bind fun r55=>
 (S.z58 p2 (.ptr l10 0) r55.2).bind fun r56=>
 some (r56,r55.2)))
def W.z57:Spec:=.eff [.I .i64] fun args σ=>packs args [.V,.V,.I .i64,.V] fun x=>S.z57 x.1 x.2.1 x.2.2.1 x.2.2.2 σ
def S.z8.b0(p8 p9:AVal)(p10 p11:AVal)(p12:Int):LT (Int) (Unit):=fun x13 σ14=>
 cond (decide (x13<p12)) (
 (fld p10 1 fun a15=>
 ld σ14 a15 (.I .i64) fun n16=>
 cond (decide (x13<n16)) (
 (S.z17 p8 x13 σ14).bind fun r17=>
 ixA r17.2 p11 1 x13 fun a18=>
 stC r17.2 a18 [(.int .i64 r17.1)] fun σ19=>
 some ((),σ19))
 ((fld p10 1 fun a20=>
 ld σ14 a20 (.I .i64) fun n21=>
 lenV p9 fun n22=>
 cond (decide ((IntKind.i64.wrap (x13-n21))<n22)) (
 fld p10 1 fun a23=>
 ld σ14 a23 (.I .i64) fun n24=>
 ixA σ14 p9 1 (IntKind.i64.wrap (x13-n24)) fun a25=>
 ld σ14 a25 (.B) fun b26=>
 some b26)
 (some false)).bind fun r27=>
 cond r27 (
 ixA σ14 p11 1 x13 fun a28=>
 stC σ14 a28 [(.int .i64 1)] fun σ29=>
 some ((),σ29))
 (some ((),σ14)))).bind fun r30=>
 some (.inl (IntKind.i64.wrap (x13+1)),r30.2))
 (some (.inr (),σ14))
def S.z8(g_ m_ move_:AVal)(σ:Heap):Option (Int×Heap):=
 aggK m_ 5 fun cs1=>
 newK σ 5 cs1 fun l2 σ3=>
 ld σ3 (.ptr l2 2) (.I .i64) fun n4=>
 mkS σ3 1 8 [(.int .i64 0)] n4 n4 fun v5 σ6=>
 lenV v5 fun n7=>
 (loopW (S.z8.b0 g_ move_ (.ptr l2 0) v5 n7) 0 σ6).bind fun r31=>
 ldG r31.2 (.ptr l2 2) 3 fun g32=>
 ld r31.2 (.ptr l2 4) (.V) fun v33=>
 ixA r31.2 v33 1 0 fun a34=>
 ld r31.2 a34 (.I .i64) fun n35=>
 (S.z57 g_ g32 n35 v5 r31.2).bind fun r36=>
 some (r36.1,r36.2)
def W.z8:Spec:=.eff [.I .i64] fun args σ=>packs args [.V,.V,.V] fun x=>S.z8 x.1 x.2.1 x.2.2 σ
def S.z9(m_:AVal)(out_:Int)(σ:Heap):Option (Int×Heap):=
 aggK m_ 5 fun cs1=>
 newK σ 5 cs1 fun l2 σ3=>
 ld σ3 (.ptr l2 0) (.B) fun b4=>
 cond b4 (
 some (out_,σ3))
 ((S.z21 out_ σ3).bind fun r5=>
 some (r5,σ3))
def W.z9:Spec:=.eff [.I .i64] fun args σ=>packs args [.V,.I .i64] fun x=>S.z9 x.1 x.2 σ
def S.z16(g_:AVal)(σ:Heap):Option AVal:=
 nilck g_ (
 fld g_ 3 fun a1=>
 ld σ a1 (.V) fun v2=>
 some v2)
def W.z16:Spec:=.pur [.V] fun args σ=>packs args [.V] fun x=>S.z16 x σ
def S.z118(s_:AVal)(σ:Heap):Option (AVal×Heap):=
 eqS s_ .nils fun b1=>
 cond b1 (
 some (.nils,σ))
 (newK σ 2 [] fun l2 σ3=>
 appS σ3 2 16 (.sl l2 0 0 none) s_ fun v4 σ5=>
 some (v4,σ5))
def W.z118:Spec:=.eff [.V] fun args σ=>packs args [.V] fun x=>S.z118 x σ
def S.z15(g_ outs_:AVal)(σ:Heap):Option (AVal×Heap):=
 newK σ 3 [(.int .i64 0),.nils,.nils] fun l1 σ2=>
 nilck g_ (
 fld g_ 0 fun a3=>
 ld σ2 a3 (.I .i64) fun n4=>
 nilck g_ (
 fld g_ 1 fun a5=>
 ld σ2 a5 (.V) fun v6=>
 (S.z118 v6 σ2).bind fun r7=>
 ld r7.2 a3 (.I .i64) fun n8=>
 chk (((.int .i64 n8):AVal)=(.int .i64 n4)) (
 (S.z120 outs_ r7.2).bind fun r9=>
 ld r9.2 a3 (.I .i64) fun n10=>
 chk (((.int .i64 n10):AVal)=(.int .i64 n4)) (
 scal r7.1 (
 scal r9.1 (
 stC r9.2 (.ptr l1 0) [(.int .i64 n4),r7.1,r9.1] fun σ11=>
 ldG σ11 (.ptr l1 0) 3 fun g12=>
 some (g12,σ11)))))))
def W.z15:Spec:=.eff [.V] fun args σ=>packs args [.V,.V] fun x=>S.z15 x.1 x.2 σ
def S.z138(l_:Int)(σ:Heap):Option Int:=
 cond (decide (l_<2)) (
 some 0)
 (cond ((IntKind.i64.wrap (BitVec.toNat (BitVec.ofInt IntKind.i64.bits l_ &&& BitVec.ofInt IntKind.i64.bits 1)))==1) (
 some (IntKind.i64.wrap (0-(IntKind.i64.wrap (Int.tdiv l_ 2)))))
 (some (IntKind.i64.wrap (Int.tdiv l_ 2))))
def W.z138:Spec:=.pur [.I .i64] fun args σ=>packs args [.I .i64] fun x=>S.z138 x σ
def S.z139.b0(p5:AVal)(p6:Int):LT ((AVal×Int)) ((AVal⊕(AVal×Bool))):=fun x7 σ8=>
  cond (decide (x7.2<p6)) (
  (ixA σ8 p5 1 x7.2 fun a9=>
  ld σ8 a9 (.I .i64) fun n10=>
  cond (n10==1) (
  some (.inr (.nils,false),σ8))
  (cond (decide (n10>1)) (
  (S.z138 n10 σ8).bind fun r11=>
  newK σ8 1 [(.int .i64 r11)] fun l12 σ13=>
  appS σ13 1 8 x7.1 (.sl l12 0 1 none) fun v14 σ15=>
  some (.inl v14,σ15))
  (some (.inl x7.1,σ8))):Option ((AVal⊕(AVal×Bool))×Heap)).bind fun r16=>
  (match r16.1 with
 | .inl y17=>some (.inl (y17,(IntKind.i64.wrap (x7.2+1))),r16.2)
 | .inr y18=>some (.inr (.inr (y18.1,y18.2)),r16.2)))
  (some (.inr (.inl x7.1),σ8))
def S.z139(l_:AVal)(σ:Heap):Option ((AVal×Bool)×Heap):=
  lenV l_ fun n1=>
  mkS σ 1 8 [(.int .i64 0)] 0 n1 fun v2 σ3=>
  lenV l_ fun n4=>
  (loopW (S.z139.b0 l_ n4) (v2,0) σ3).bind fun r19=>
  (match r19.1 with
 | .inl y20=>some ((y20,true),r19.2)
 | .inr y21=>some ((y21.1,y21.2),r19.2))
def W.z139:Spec:=.eff [.V,.B] fun args σ=>packs args [.V] fun x=>S.z139 x σ
def S.z137.b0(p25:AVal)(p26:Int):LT ((AVal×Int)) (AVal):=fun x27 σ28=>
 cond (decide (x27.2<p26)) (
 (ixA σ28 p25 1 x27.2 fun a29=>
 ld σ28 a29 (.V) fun v30=>
 (S.z139 v30 σ28).bind fun r31=>
 cond r31.1.2 (
 scal r31.1.1 (
 newK r31.2 1 [r31.1.1] fun l32 σ33=>
 appS σ33 1 24 x27.1 (.sl l32 0 1 none) fun v34 σ35=>
 some (v34,σ35)))
 (some (x27.1,r31.2))).bind fun r36=>
 some (.inl (r36.1,(IntKind.i64.wrap (x27.2+1))),r36.2))
 (some (.inr x27.1,σ28))
def S.z137(n_:Int)(x_:AVal)(σ:Heap):Option (AVal×Heap):=
 aggK x_ 2 fun cs1=>
 newK σ 2 cs1 fun l2 σ3=>
 (S.z21 n_ σ3).bind fun r4=>
 ixP (.ptr l2 0) 2 1 0 fun a5=>
 ld σ3 a5 (.I .i64) fun n6=>
 newK σ3 1 [(.int .i64 r4),(.int .i64 n6)] fun l7 σ8=>
 (S.z21 n_ σ3).bind fun r9=>
 ixP (.ptr l2 0) 2 1 1 fun a10=>
 ld σ3 a10 (.I .i64) fun n11=>
 newK σ8 1 [(.int .i64 r9),(.int .i64 n11)] fun l12 σ13=>
 ixP (.ptr l2 0) 2 1 0 fun a14=>
 ld σ3 a14 (.I .i64) fun n15=>
 (S.z21 n15 σ3).bind fun r16=>
 ixP (.ptr l2 0) 2 1 1 fun a17=>
 ld σ3 a17 (.I .i64) fun n18=>
 (S.z21 n18 σ3).bind fun r19=>
 newK σ13 1 [(.int .i64 n_),(.int .i64 r16),(.int .i64 r19)] fun l20 σ21=>
 newK σ21 1 [(.sl l7 0 2 none),(.sl l12 0 2 none),(.sl l20 0 3 none)] fun l22 σ23=>
 lenV (.sl l22 0 3 none) fun n24=>
 (loopW (S.z137.b0 (.sl l22 0 3 none) n24) (.nils,0) σ23).bind fun r37=>
 some (r37.1,r37.2)
def W.z137:Spec:=.eff [.V] fun args σ=>packs args [.I .i64,.V] fun x=>S.z137 x.1 x.2 σ
def S.z136.b0(p18 p19:AVal)(p20 p21:AVal)(p22:Int):LT (Int) ((Unit⊕AVal)):=fun x23 σ24=>
 cond (decide (x23<p22)) (
 ixA σ24 p18 1 x23 fun a25=>
 ld σ24 a25 (.I .i64) fun n26=>
 (cond (decide (n26<0)) (
 some true)
 (fld p21 0 fun a27=>
 ld σ24 a27 (.I .i64) fun n28=>
 some (decide (n26>(IntKind.i64.wrap ((IntKind.i64.wrap (2*n28))+1)))))).bind fun r29=>
 cond r29 (
 ld σ24 (.ptr 0 0) (.V) fun v30=>
 stC σ24 p20 [(.int .i64 0),.nils] fun σ31=>
 ld σ31 (.ptr 0 0) (.V) fun v32=>
 chk ((v32:AVal)=v30) (
 some (.inr (.inr v30),σ31)))
 (some (.inl (IntKind.i64.wrap (x23+1)),σ24)))
 (some (.inr (.inl ()),σ24))
def S.z136.b1(p38 p39:AVal)(p40 p41 p42:AVal)(p43:Int):LT (Int) (Unit):=fun x44 σ45=>
 cond (decide (x44<p43)) (
 ixA σ45 p42 2 x44 fun a46=>
 ldG σ45 a46 2 fun g47=>
 newK σ45 2 [(.int .i64 0),(.int .i64 0)] fun l48 σ49=>
 aggK g47 2 fun cs50=>
 stC σ49 (.ptr l48 0) cs50 fun σ51=>
 fld p41 1 fun a52=>
 ld σ51 a52 (.V) fun v53=>
 fld p39 0 fun a54=>
 ld σ51 a54 (.I .i64) fun n55=>
 ldG σ51 (.ptr l48 0) 2 fun g56=>
 (S.z137 (IntKind.i64.wrap (2*(IntKind.i64.wrap ((IntKind.i64.wrap (n55+x44))+1)))) g56 σ51).bind fun r57=>
 ld r57.2 a52 (.V) fun v58=>
 chk ((v58:AVal)=v53) (
 appS r57.2 1 24 v53 r57.1 fun v59 σ60=>
 fld p41 1 fun a61=>
 scal v59 (
 stC σ60 a61 [v59] fun σ62=>
 some (.inl (IntKind.i64.wrap (x44+1)),σ62))))
 (some (.inr (),σ45))
def S.z136.b2(p65 p66 p67:AVal)(p68:Int):LT (Int) (Unit):=fun x69 σ70=>
 cond (decide (x69<p68)) (
 (ixA σ70 p67 1 x69 fun a71=>
 ld σ70 a71 (.I .i64) fun n72=>
 newK σ70 1 [(.int .i64 n72)] fun l73 σ74=>
 (S.z139 (.sl l73 0 1 none) σ74).bind fun r75=>
 cond r75.1.2 (
 fld p66 1 fun a76=>
 ld r75.2 a76 (.V) fun v77=>
 scal r75.1.1 (
 newK r75.2 1 [r75.1.1] fun l78 σ79=>
 appS σ79 1 24 v77 (.sl l78 0 1 none) fun v80 σ81=>
 fld p66 1 fun a82=>
 scal v80 (
 stC σ81 a82 [v80] fun σ83=>
 some ((),σ83))))
 (some ((),r75.2))).bind fun r84=>
 some (.inl (IntKind.i64.wrap (x69+1)),r84.2))
 (some (.inr (),σ70))
def S.z136(p0 p1:AVal)(σ:Heap):Option ((AVal×AVal)×Heap):=
  aggK p0 3 fun cs1=>
  newK σ 3 cs1 fun l2 σ3=>
  newK σ3 2 [(.int .i64 0),.nils] fun l4 σ5=>
  ldG σ5 (.ptr l2 0) 3 fun g6=>
  (S.z13 g6 σ5).bind fun r7=>
  eqI (tiOf Tryz.prog) r7.2 true r7.1 .nili fun b8=>
  cond (!b8) (
  stC r7.2 (.ptr l4 0) [(.int .i64 0),.nils] fun σ9=>
  ldG σ9 (.ptr l4 0) 2 fun g10=>
  some ((g10,r7.1),σ9))
  (ld r7.2 (.ptr l2 0) (.I .i64) fun n11=>
  ld r7.2 (.ptr l2 1) (.V) fun v12=>
  lenV v12 fun n13=>
  newK r7.2 2 [(.int .i64 0),.nils] fun l14 σ15=>
  stC σ15 (.ptr l14 0) [(.int .i64 (IntKind.i64.wrap (n11+n13))),.nils] fun σ16=>
  lenV p1 fun n17=>
  (loopW (S.z136.b0 p1 (.ptr l2 0) (.ptr l4 0) (.ptr l14 0) n17) 0 σ16).bind fun r33=>
  (match r33.1 with
 | .inl y34=>ld r33.2 (.ptr l2 1) (.V) fun v36=>
  lenV v36 fun n37=>
  (loopW (S.z136.b1 p1 (.ptr l2 0) (.ptr l4 0) (.ptr l14 0) v36 n37) 0 r33.2).bind fun r63=>
  lenV p1 fun n64=>
  (loopW (S.z136.b2 (.ptr l4 0) (.ptr l14 0) p1 n64) 0 r63.2).bind fun r85=>
  ldG r85.2 (.ptr l14 0) 2 fun g86=>
  aggK g86 2 fun cs87=>
  stC r85.2 (.ptr l4 0) cs87 fun σ88=>
  ldG σ88 (.ptr l4 0) 2 fun g89=>
  some ((g89,.nili),σ88)
 | .inr y35=>ldG r33.2 (.ptr l4 0) 2 fun g90=>
  some ((g90,y35),r33.2)))
def W.z136:Spec:=.eff [.V,.V] fun args σ=>packs args [.V,.V] fun x=>S.z136 x.1 x.2 σ
def S.z126.T:FuncId->Option Spec:=(tab 219 W.z38 (tab 114 W.z100 (tab 217 W.z31 (tab 214 W.z45 (tab 111 W.z97 (tab 147 W.z70 (tab 178 W.z56 (tab 106 W.z52 (tab 100 W.z21 (tab 140 W.z58 y3p_))))))))))
def S.z126.b0(p2 p3:AVal)(p4:Int):LT (Int) ((Unit⊕Int)):=fun x5 σ6=>
 cond (decide (x5<p4)) (
 ixA σ6 p2 1 x5 fun a7=>
 ld σ6 a7 (.I .i64) fun n8=>
 callV S.z126.T p3 [(.int .i64 n8)] σ6 fun r9 σ10=>
 asK (.B) r9 fun b11=>
 cond b11 (
 some (.inr (.inr x5),σ10))
 (some (.inl (IntKind.i64.wrap (x5+1)),σ10)))
 (some (.inr (.inl ()),σ6))
def S.z126(s_ f_:AVal)(σ:Heap):Option (Int×Heap):=
  lenV s_ fun n1=>
  (loopW (S.z126.b0 s_ f_ n1) 0 σ).bind fun r12=>
  (match r12.1 with
 | .inl y13=>some ((-1),r12.2)
 | .inr y14=>some (y14,r12.2))
def W.z126:Spec:=.eff [.I .i64] fun args σ=>packs args [.V,.V] fun x=>S.z126 x.1 x.2 σ
def S.z123(s_ f_:AVal)(σ:Heap):Option (Bool×Heap):=
 (S.z126 s_ f_ σ).bind fun r1=>
 some ((decide (r1.1>=0)),r1.2)
def W.z123:Spec:=.eff [.B] fun args σ=>packs args [.V,.V] fun x=>S.z123 x.1 x.2 σ
def S.z51.b0(p6 p7:AVal)(p8:Int)(σ0:Heap):(Int×Int)->Option ((Int×Int)⊕Int):=fun x9=>
 cond (decide (x9.2<p8)) (
 ixA σ0 p7 1 x9.2 fun a11=>
 ld σ0 a11 (.V) fun v12=>
 lenV v12 fun n13=>
 some (.inl ((IntKind.i64.wrap (x9.1+n13)),(IntKind.i64.wrap (x9.2+1)))))
 (some (.inr x9.1))
def S.z51.b1(p23 p24:AVal)(p25:Int):LT (Int) ((Unit⊕AVal)):=fun x26 σ27=>
 cond (decide (x26<p25)) (
 ixA σ27 p24 1 x26 fun a28=>
 ld σ27 a28 (.V) fun v29=>
 (S.z123 v29 (.fn (.func 106) [] [p23]) σ27).bind fun r30=>
 cond r30.1 (
 ld r30.2 (.ptr 0 0) (.V) fun v31=>
 scal v31 (
 newK r30.2 2 [(.int .i64 x26),v31] fun l32 σ33=>
 some (.inr (.inr (.ifc 160 (.ptr l32 0))),σ33)))
 (some (.inl (IntKind.i64.wrap (x26+1)),r30.2)))
 (some (.inr (.inl ()),σ27))
def S.z51(c_:AVal)(σ:Heap):Option (AVal×Heap):=
  aggK c_ 2 fun cs1=>
  newK σ 2 cs1 fun l2 σ3=>
  ld σ3 (.ptr l2 1) (.V) fun v4=>
  lenV v4 fun n5=>
  (loopP (S.z51.b0 (.ptr l2 0) v4 n5 σ3) (0,0)).bind fun r14=>
  (ld σ3 (.ptr l2 0) (.I .i64) fun n15=>
  cond (decide (n15<0)) (
  some true)
  (ld σ3 (.ptr l2 0) (.I .i64) fun n16=>
  cond (decide (n16>4000)) (
  some true)
  (ld σ3 (.ptr l2 1) (.V) fun v17=>
  lenV v17 fun n18=>
  cond (decide (n18>20000)) (
  some true)
  (some (decide (r14>80000)))))).bind fun r19=>
  cond r19 (
  ld σ3 (.ptr 1 0) (.V) fun v20=>
  some (v20,σ3))
  (ld σ3 (.ptr l2 1) (.V) fun v21=>
  lenV v21 fun n22=>
  (loopW (S.z51.b1 (.ptr l2 0) v21 n22) 0 σ3).bind fun r34=>
  (match r34.1 with
 | .inl y35=>some (.nili,r34.2)
 | .inr y36=>some (y36,r34.2)))
def W.z51:Spec:=.eff [.V] fun args σ=>packs args [.V] fun x=>S.z51 x σ
def S.z5(vars_:Int)(σ:Heap):Option Int:=
 some (if 4000<(if 0>vars_ then 0 else vars_)then 4000 else(if 0>vars_ then 0 else vars_))
def W.z5:Spec:=.pur [.I .i64] fun args σ=>packs args [.I .i64] fun x=>S.z5 x σ
def S.z6(vars_:Int)(σ:Heap):Option (AVal×Heap):=
 (S.z5 vars_ σ).bind fun r1=>
 mkS σ 1 1 [(.int .i8 0)] (IntKind.i64.wrap (r1+1)) (IntKind.i64.wrap (r1+1)) fun v2 σ3=>
 scal v2 (
 newK σ3 1 [v2] fun l4 σ5=>
 some ((.ptr l4 0),σ5))
def W.z6:Spec:=.eff [.V] fun args σ=>packs args [.I .i64] fun x=>S.z6 x σ
def S.z0.b0(p1:AVal)(p2:Int):LT (Unit) (Unit):=fun x3 σ4=>
 nilck p1 (
 fld p1 0 fun a5=>
 ld σ4 a5 (.V) fun v6=>
 lenV v6 fun n7=>
 (S.z5 p2 σ4).bind fun r8=>
 cond (decide (n7<=r8)) (
 nilck p1 (
 fld p1 0 fun a9=>
 ld σ4 a9 (.V) fun v10=>
 newK σ4 1 [(.int .i8 0)] fun l11 σ12=>
 appS σ12 1 1 v10 (.sl l11 0 1 none) fun v13 σ14=>
 nilck p1 (
 fld p1 0 fun a15=>
 scal v13 (
 stC σ14 a15 [v13] fun σ16=>
 some (.inl (),σ16)))))
 (some (.inr (),σ4)))
def S.z0(a_:AVal)(vars_:Int)(σ:Heap):Option (Unit×Heap):=
 (loopW (S.z0.b0 a_ vars_) () σ).bind fun r17=>
 some ((),r17.2)
def W.z0:Spec:=.eff [] fun args σ=>packs args [.V,.I .i64] fun x=>S.z0 x.1 x.2 σ
def S.z75.b0(p4:AVal):LT (Unit) (Unit):=fun x5 σ6=>
 nilck p4 (
 fld p4 1 fun a7=>
 ld σ6 a7 (.V) fun v8=>
 lenV v8 fun n9=>
 nilck p4 (
 fld p4 0 fun a10=>
 ld σ6 a10 (.V) fun v11=>
 (S.z4 v11 σ6).bind fun r12=>
 cond (decide (n9<=r12)) (
 nilck p4 (
 fld p4 1 fun a13=>
 ld σ6 a13 (.V) fun v14=>
 newK σ6 1 [(.int .i64 (-1))] fun l15 σ16=>
 appS σ16 1 8 v14 (.sl l15 0 1 none) fun v17 σ18=>
 nilck p4 (
 fld p4 2 fun a19=>
 ld σ18 a19 (.V) fun v20=>
 ld σ6 a19 (.V) fun v21=>
 chk ((v21:AVal)=v20) (
 newK σ18 1 [(.int .i64 (-1))] fun l22 σ23=>
 appS σ23 1 8 v20 (.sl l22 0 1 none) fun v24 σ25=>
 nilck p4 (
 fld p4 1 fun a26=>
 scal v17 (
 stC σ25 a26 [v17] fun σ27=>
 nilck p4 (
 fld p4 2 fun a28=>
 scal v24 (
 stC σ27 a28 [v24] fun σ29=>
 nilck p4 (
 fld p4 7 fun a30=>
 ld σ29 a30 (.V) fun v31=>
 newK σ29 1 [.nils,.nils] fun l32 σ33=>
 appS σ33 1 24 v31 (.sl l32 0 2 none) fun v34 σ35=>
 nilck p4 (
 fld p4 7 fun a36=>
 scal v34 (
 stC σ35 a36 [v34] fun σ37=>
 some (.inl (),σ37))))))))))))
 (some (.inr (),σ6))))
def S.z75(p_:AVal)(vars_:Int)(σ:Heap):Option (Unit×Heap):=
 nilck p_ (
 fld p_ 0 fun a1=>
 ld σ a1 (.V) fun v2=>
 (S.z0 v2 vars_ σ).bind fun r3=>
 (loopW (S.z75.b0 p_) () r3.2).bind fun r38=>
 some ((),r38.2))
def W.z75:Spec:=.eff [] fun args σ=>packs args [.V,.I .i64] fun x=>S.z75 x.1 x.2 σ
def S.z68(vars_:Int)(σ:Heap):Option (AVal×Heap):=
 (S.z6 0 σ).bind fun r1=>
 newK r1.2 1 [(.int .i64 (-1))] fun l2 σ3=>
 newK σ3 1 [(.int .i64 (-1))] fun l4 σ5=>
 mkS σ5 1 24 [.nils] 2 2 fun v6 σ7=>
 scal r1.1 (
 scal v6 (
 newK σ7 9 [r1.1,(.sl l2 0 1 none),(.sl l4 0 1 none),.nils,.nils,(.int .i64 0),.nils,v6,.nils] fun l8 σ9=>
 (S.z75 (.ptr l8 0) vars_ σ9).bind fun r10=>
 some ((.ptr l8 0),r10.2)))
def W.z68:Spec:=.eff [.V] fun args σ=>packs args [.I .i64] fun x=>S.z68 x σ
def S.z33(h_:AVal)(v_:Int)(σ:Heap):Option Bool:=
 (cond (decide (v_>0)) (
 nilck h_ (
 fld h_ 0 fun a1=>
 ld σ a1 (.V) fun v2=>
 lenV v2 fun n3=>
 some (decide (v_<n3))))
 (some false)).bind fun r4=>
 some r4
def W.z33:Spec:=.pur [.B] fun args σ=>packs args [.V,.I .i64] fun x=>S.z33 x.1 x.2 σ
def S.z29(h_:AVal)(a_ b_:Int)(σ:Heap):Option Bool:=
 (nilck h_ (
 fld h_ 0 fun a1=>
 ld σ a1 (.V) fun v2=>
 ixA σ v2 1 a_ fun a3=>
 ld σ a3 (.I .i64) fun n4=>
 nilck h_ (
 fld h_ 0 fun a5=>
 ld σ a5 (.V) fun v6=>
 ixA σ v6 1 b_ fun a7=>
 ld σ a7 (.I .i64) fun n8=>
 cond (decide (n4>n8)) (
 some true)
 (nilck h_ (
 fld h_ 0 fun a9=>
 ld σ a9 (.V) fun v10=>
 ixA σ v10 1 a_ fun a11=>
 ld σ a11 (.I .i64) fun n12=>
 nilck h_ (
 fld h_ 0 fun a13=>
 ld σ a13 (.V) fun v14=>
 ixA σ v14 1 b_ fun a15=>
 ld σ a15 (.I .i64) fun n16=>
 cond (n12==n16) (
 some (decide (a_<b_)))
 (some false))))))).bind fun r17=>
 some r17
def W.z29:Spec:=.pur [.B] fun args σ=>packs args [.V,.I .i64,.I .i64] fun x=>S.z29 x.1 x.2.1 x.2.2 σ
def S.z34(h_:AVal)(k_ v_:Int)(σ:Heap):Option (Unit×Heap):=
 nilck h_ (
 fld h_ 2 fun a1=>
 ld σ a1 (.V) fun v2=>
 ixA σ v2 1 k_ fun a3=>
 stC σ a3 [(.int .i64 v_)] fun σ4=>
 nilck h_ (
 fld h_ 1 fun a5=>
 ld σ4 a5 (.V) fun v6=>
 ixA σ4 v6 1 v_ fun a7=>
 stC σ4 a7 [(.int .i64 (IntKind.i64.wrap (k_+1)))] fun σ8=>
 some ((),σ8)))
def W.z34:Spec:=.eff [] fun args σ=>packs args [.V,.I .i64,.I .i64] fun x=>S.z34 x.1 x.2.1 x.2.2 σ
def S.z36.b0(p5:AVal)(p6:Int):LT (Int) (Int):=fun x7 σ8=>
 (cond (decide (x7>0)) (
 nilck p5 (
 fld p5 2 fun a9=>
 ld σ8 a9 (.V) fun v10=>
 ixA σ8 v10 1 (IntKind.i64.wrap (Int.tdiv (IntKind.i64.wrap (x7-1)) 2)) fun a11=>
 ld σ8 a11 (.I .i64) fun n12=>
 (S.z29 p5 p6 n12 σ8).bind fun r13=>
 some r13))
 (some false)).bind fun r14=>
 cond r14 (
 nilck p5 (
 fld p5 2 fun a15=>
 ld σ8 a15 (.V) fun v16=>
 ixA σ8 v16 1 (IntKind.i64.wrap (Int.tdiv (IntKind.i64.wrap (x7-1)) 2)) fun a17=>
 ld σ8 a17 (.I .i64) fun n18=>
 (S.z34 p5 x7 n18 σ8).bind fun r19=>
 some (.inl (IntKind.i64.wrap (Int.tdiv (IntKind.i64.wrap (x7-1)) 2)),r19.2)))
 (some (.inr x7,σ8))
def S.z36(h_:AVal)(k_:Int)(σ:Heap):Option (Unit×Heap):=
 nilck h_ (
 fld h_ 2 fun a1=>
 ld σ a1 (.V) fun v2=>
 ixA σ v2 1 k_ fun a3=>
 ld σ a3 (.I .i64) fun n4=>
 (loopW (S.z36.b0 h_ n4) k_ σ).bind fun r20=>
 (S.z34 h_ r20.1 n4 r20.2).bind fun r21=>
 some ((),r21.2))
def W.z36:Spec:=.eff [] fun args σ=>packs args [.V,.I .i64] fun x=>S.z36 x.1 x.2 σ
def S.z28(h_:AVal)(v_:Int)(σ:Heap):Option (Bool×Heap):=
 ((S.z33 h_ v_ σ).bind fun r1=>
 cond (!r1) (
 some true)
 (nilck h_ (
 fld h_ 1 fun a2=>
 ld σ a2 (.V) fun v3=>
 ixA σ v3 1 v_ fun a4=>
 ld σ a4 (.I .i64) fun n5=>
 some (decide (n5>0))))).bind fun r6=>
 cond r6 (
 some (false,σ))
 (nilck h_ (
 fld h_ 2 fun a7=>
 ld σ a7 (.V) fun v8=>
 newK σ 1 [(.int .i64 v_)] fun l9 σ10=>
 appS σ10 1 8 v8 (.sl l9 0 1 none) fun v11 σ12=>
 nilck h_ (
 fld h_ 2 fun a13=>
 scal v11 (
 stC σ12 a13 [v11] fun σ14=>
 nilck h_ (
 fld h_ 2 fun a15=>
 ld σ14 a15 (.V) fun v16=>
 lenV v16 fun n17=>
 (S.z36 h_ (IntKind.i64.wrap (n17-1)) σ14).bind fun r18=>
 some (true,r18.2))))))
def W.z28:Spec:=.eff [.B] fun args σ=>packs args [.V,.I .i64] fun x=>S.z28 x.1 x.2 σ
def S.z24.b0(p1:AVal)(p2:Int):LT (Unit) (Unit):=fun x3 σ4=>
 nilck p1 (
 fld p1 0 fun a5=>
 ld σ4 a5 (.V) fun v6=>
 lenV v6 fun n7=>
 (S.z5 p2 σ4).bind fun r8=>
 cond (decide (n7<=r8)) (
 nilck p1 (
 fld p1 0 fun a9=>
 ld σ4 a9 (.V) fun v10=>
 newK σ4 1 [(.int .i64 0)] fun l11 σ12=>
 appS σ12 1 8 v10 (.sl l11 0 1 none) fun v13 σ14=>
 nilck p1 (
 fld p1 1 fun a15=>
 ld σ14 a15 (.V) fun v16=>
 ld σ4 a15 (.V) fun v17=>
 chk ((v17:AVal)=v16) (
 newK σ14 1 [(.int .i64 0)] fun l18 σ19=>
 appS σ19 1 8 v16 (.sl l18 0 1 none) fun v20 σ21=>
 nilck p1 (
 fld p1 0 fun a22=>
 scal v13 (
 stC σ21 a22 [v13] fun σ23=>
 nilck p1 (
 fld p1 1 fun a24=>
 scal v20 (
 stC σ23 a24 [v20] fun σ25=>
 nilck p1 (
 fld p1 0 fun a26=>
 ld σ25 a26 (.V) fun v27=>
 lenV v27 fun n28=>
 (S.z28 p1 (IntKind.i64.wrap (n28-1)) σ25).bind fun r29=>
 some (.inl (),r29.2))))))))))
 (some (.inr (),σ4)))
def S.z24(h_:AVal)(vars_:Int)(σ:Heap):Option (Unit×Heap):=
 (loopW (S.z24.b0 h_ vars_) () σ).bind fun r30=>
 some ((),r30.2)
def W.z24:Spec:=.eff [] fun args σ=>packs args [.V,.I .i64] fun x=>S.z24 x.1 x.2 σ
def S.z37(vars_:Int)(σ:Heap):Option (AVal×Heap):=
 mkS σ 1 8 [(.int .i64 0)] 1 1 fun v1 σ2=>
 mkS σ2 1 8 [(.int .i64 0)] 1 1 fun v3 σ4=>
 scal v1 (
 scal v3 (
 newK σ4 3 [v1,v3,.nils] fun l5 σ6=>
 (S.z24 (.ptr l5 0) vars_ σ6).bind fun r7=>
 some ((.ptr l5 0),r7.2)))
def W.z37:Spec:=.eff [.V] fun args σ=>packs args [.I .i64] fun x=>S.z37 x σ
def S.z98.b0(p7:AVal):LT (Unit) (Unit):=fun x8 σ9=>
 nilck p7 (
 fld p7 3 fun a10=>
 ld σ9 a10 (.V) fun v11=>
 lenV v11 fun n12=>
 nilck p7 (
 fld p7 0 fun a13=>
 ld σ9 a13 (.V) fun v14=>
 (S.z83 v14 σ9).bind fun r15=>
 cond (decide (n12<=r15)) (
 nilck p7 (
 fld p7 3 fun a16=>
 ld σ9 a16 (.V) fun v17=>
 newK σ9 1 [(.int .i64 0)] fun l18 σ19=>
 appS σ19 1 8 v17 (.sl l18 0 1 none) fun v20 σ21=>
 nilck p7 (
 fld p7 3 fun a22=>
 scal v20 (
 stC σ21 a22 [v20] fun σ23=>
 some (.inl (),σ23)))))
 (some (.inr (),σ9))))
def S.z98(e_:AVal)(vars_:Int)(σ:Heap):Option (Unit×Heap):=
 nilck e_ (
 fld e_ 0 fun a1=>
 ld σ a1 (.V) fun v2=>
 (S.z75 v2 vars_ σ).bind fun r3=>
 nilck e_ (
 fld e_ 1 fun a4=>
 ld r3.2 a4 (.V) fun v5=>
 (S.z24 v5 vars_ r3.2).bind fun r6=>
 (loopW (S.z98.b0 e_) () r6.2).bind fun r24=>
 some ((),r24.2)))
def W.z98:Spec:=.eff [] fun args σ=>packs args [.V,.I .i64] fun x=>S.z98 x.1 x.2 σ
def S.z109(vars_:Int)(p_:AVal)(σ:Heap):Option (AVal×Heap):=
 (S.z68 0 σ).bind fun r1=>
 (S.z37 0 r1.2).bind fun r2=>
 scal r1.1 (
 scal r2.1 (
 scal p_ (
 newK r2.2 8 [r1.1,r2.1,p_,.nils,.nils,.nils,(.int .i64 0),(.int .i64 16)] fun l3 σ4=>
 (S.z98 (.ptr l3 0) vars_ σ4).bind fun r5=>
 some ((.ptr l3 0),r5.2))))
def W.z109:Spec:=.eff [.V] fun args σ=>packs args [.I .i64,.V] fun x=>S.z109 x.1 x.2 σ
def S.z128(p0 p1:AVal)(σ:Heap):=y4l_ 178 p0 p1 σ
def W.z128:Spec:=.eff [] fun args σ=>packs args [.V,.V] fun x=>y4l_ 178 x.1 x.2 σ
def S.z121.b0(p11 p12:AVal):LT ((Int×Int)) (Int):=fun x13 σ14=>
 lenV p12 fun n15=>
 cond (decide (x13.2<n15)) (
 (ixA σ14 p12 1 x13.2 fun a16=>
 ld σ14 a16 (.I .i64) fun n17=>
 ixA σ14 p12 1 (IntKind.i64.wrap (x13.2-1)) fun a18=>
 ld σ14 a18 (.I .i64) fun n19=>
 cond (n17 != n19) (
 ixA σ14 p12 1 x13.2 fun a20=>
 ld σ14 a20 (.I .i64) fun n21=>
 ixA σ14 p11 1 x13.1 fun a22=>
 stC σ14 a22 [(.int .i64 n21)] fun σ23=>
 some ((IntKind.i64.wrap (x13.1+1)),σ23))
 (some (x13.1,σ14))).bind fun r24=>
 some (.inl (r24.1,(IntKind.i64.wrap (x13.2+1))),r24.2))
 (some (.inr x13.1,σ14))
def S.z121.b1(p2:AVal):LT (Int) ((Unit⊕AVal)):=fun x3 σ4=>
 lenV p2 fun n5=>
 cond (decide (x3<n5)) (
 ixA σ4 p2 1 x3 fun a6=>
 ld σ4 a6 (.I .i64) fun n7=>
 ixA σ4 p2 1 (IntKind.i64.wrap (x3-1)) fun a8=>
 ld σ4 a8 (.I .i64) fun n9=>
 cond (n7==n9) (
 slS σ4 1 p2 x3 none none fun v10=>
 (loopW (S.z121.b0 p2 v10) (x3,1) σ4).bind fun r25=>
 slS r25.2 1 p2 r25.1 none none fun v26=>
 y1s_ r25.2 1 [(.int .i64 0)] v26 fun σ27=>
 slS σ27 1 p2 0 (some r25.1) none fun v28=>
 some (.inr (.inr v28),σ27))
 (some (.inl (IntKind.i64.wrap (x3+1)),σ4)))
 (some (.inr (.inl ()),σ4))
def S.z121(s_:AVal)(σ:Heap):Option (AVal×Heap):=
  lenV s_ fun n1=>
  cond (decide (n1<2)) (
  some (s_,σ))
  ((loopW (S.z121.b1 s_) 1 σ).bind fun r29=>
  (match r29.1 with
 | .inl y30=>some (s_,r29.2)
 | .inr y31=>some (y31,r29.2)))
def W.z121:Spec:=.eff [.V] fun args σ=>packs args [.V] fun x=>S.z121 x σ
def S.z117(s_:AVal)(σ:Heap):Option AVal:=
 lenV s_ fun n1=>
 lenV s_ fun n2=>
 slS σ 1 s_ 0 (some n1) (some n2) fun v3=>
 some v3
def W.z117:Spec:=.pur [.V] fun args σ=>packs args [.V] fun x=>S.z117 x σ
def S.z54.b0(p5:AVal)(σ0:Heap):Int->Option (Int⊕(Unit⊕(AVal×Bool))):=fun x6=>
 lenV p5 fun n8=>
 cond (decide (x6<n8)) (
 ixA σ0 p5 1 x6 fun a9=>
 ld σ0 a9 (.I .i64) fun n10=>
 (S.z55 n10 σ0).bind fun r11=>
 ixA σ0 p5 1 (IntKind.i64.wrap (x6-1)) fun a12=>
 ld σ0 a12 (.I .i64) fun n13=>
 (S.z55 n13 σ0).bind fun r14=>
 cond (r11==r14) (
 some (.inr (.inr (p5,false))))
 (some (.inl (IntKind.i64.wrap (x6+1)))))
 (some (.inr (.inl ())))
def S.z54(c_:AVal)(σ:Heap):Option ((AVal×Bool)×Heap):=
  (S.z120 c_ σ).bind fun r1=>
  (S.z128 r1.1 (.fn (.func 178) [] []) r1.2).bind fun r2=>
  (S.z121 r1.1 r2.2).bind fun r3=>
  (S.z117 r3.1 r3.2).bind fun r4=>
  (loopP (S.z54.b0 r4 r3.2) 1).bind fun r15=>
  (match r15 with
 | .inl y16=>some ((r4,true),r3.2)
 | .inr y17=>some ((y17.1,y17.2),r3.2))
def W.z54:Spec:=.eff [.V,.B] fun args σ=>packs args [.V] fun x=>S.z54 x σ
def S.z95(l_:Int)(σ:Heap):Option Int:=
 cond (decide (l_<0)) (
 some (IntKind.i64.wrap ((IntKind.i64.wrap ((-2)*l_))+1)))
 (some (IntKind.i64.wrap (2*l_)))
def W.z95:Spec:=.pur [.I .i64] fun args σ=>packs args [.I .i64] fun x=>S.z95 x σ
def S.z89(p_:AVal)(id_:Int)(σ:Heap):Option (Unit×Heap):=
 nilck p_ (
 fld p_ 6 fun a1=>
 ld σ a1 (.V) fun v2=>
 ixA σ v2 3 id_ fun a3=>
 fld a3 2 fun a4=>
 ld σ a4 (.B) fun b5=>
 cond (!b5) (
 nilck p_ (
 fld p_ 6 fun a6=>
 ld σ a6 (.V) fun v7=>
 ixA σ v7 3 id_ fun a8=>
 fld a8 2 fun a9=>
 stC σ a9 [(.bool true)] fun σ10=>
 nilck p_ (
 fld p_ 8 fun a11=>
 ld σ10 a11 (.V) fun v12=>
 newK σ10 1 [(.int .i64 id_)] fun l13 σ14=>
 appS σ14 1 8 v12 (.sl l13 0 1 none) fun v15 σ16=>
 nilck p_ (
 fld p_ 8 fun a17=>
 scal v15 (
 stC σ16 a17 [v15] fun σ18=>
 some ((),σ18))))))
 (some ((),σ)))
def W.z89:Spec:=.eff [] fun args σ=>packs args [.V,.I .i64] fun x=>S.z89 x.1 x.2 σ
def S.z69.b0(p24:AVal)(p25:Int)(p26:AVal)(p27:Int):LT (Int) (Unit):=fun x28 σ29=>
 cond (decide (x28<p27)) (
 ixA σ29 p26 1 x28 fun a30=>
 ld σ29 a30 (.I .i64) fun n31=>
 ld σ29 p24 (.V) fun v32=>
 nilck v32 (
 fld v32 7 fun a33=>
 ld σ29 a33 (.V) fun v34=>
 (S.z95 n31 σ29).bind fun r35=>
 ld σ29 p24 (.V) fun v36=>
 nilck v36 (
 fld v36 7 fun a37=>
 ld σ29 a37 (.V) fun v38=>
 (S.z95 n31 σ29).bind fun r39=>
 ixA σ29 v38 1 r39 fun a40=>
 ld σ29 a40 (.V) fun v41=>
 newK σ29 1 [(.int .i64 p25)] fun l42 σ43=>
 appS σ43 1 8 v41 (.sl l42 0 1 none) fun v44 σ45=>
 ld σ45 a33 (.V) fun v46=>
 chk ((v46:AVal)=v34) (
 ld σ45 p24 (.V) fun v47=>
 chk ((v47:AVal)=v32) (
 ixA σ45 v34 1 r35 fun a48=>
 scal v44 (
 stC σ45 a48 [v44] fun σ49=>
 some (.inl (IntKind.i64.wrap (x28+1)),σ49)))))))
 (some (.inr (),σ29))
def S.z69(p0 p1:AVal)(σ:Heap):Option ((Int×Bool)×Heap):=
 scal p0 (
 newK σ 1 [p0] fun l1 σ2=>
 (S.z54 p1 σ2).bind fun r3=>
 (cond (!r3.1.2) (
 some (true,r3.2))
 ((S.z123 r3.1.1 (.fn (.func 147) [] [(.ptr l1 0)]) r3.2).bind fun r4=>
 some (r4.1,r4.2))).bind fun r5=>
 cond r5.1 (
 some ((0,false),r5.2))
 (ld r5.2 (.ptr l1 0) (.V) fun v6=>
 nilck v6 (
 fld v6 6 fun a7=>
 ld r5.2 a7 (.V) fun v8=>
 lenV v8 fun n9=>
 ld r5.2 (.ptr l1 0) (.V) fun v10=>
 ld r5.2 (.ptr l1 0) (.V) fun v11=>
 nilck v11 (
 fld v11 6 fun a12=>
 ld r5.2 a12 (.V) fun v13=>
 scal r3.1.1 (
 newK r5.2 3 [r3.1.1,(.bool true),(.bool false)] fun l14 σ15=>
 appS σ15 3 32 v13 (.sl l14 0 1 none) fun v16 σ17=>
 ld σ17 (.ptr l1 0) (.V) fun v18=>
 chk ((v18:AVal)=v10) (
 nilck v10 (
 fld v10 6 fun a19=>
 scal v16 (
 stC σ17 a19 [v16] fun σ20=>
 lenV r3.1.1 fun n21=>
 (cond (decide (n21>1)) (
 slS σ20 1 r3.1.1 0 (some 2) none fun v22=>
 lenV v22 fun n23=>
 (loopW (S.z69.b0 (.ptr l1 0) n9 v22 n23) 0 σ20).bind fun r50=>
 some ((),r50.2))
 (some ((),σ20))).bind fun r51=>
 ld r51.2 (.ptr l1 0) (.V) fun v52=>
 (S.z89 v52 n9 r51.2).bind fun r53=>
 some ((n9,true),r53.2)))))))))
def W.z69:Spec:=.eff [.I .i64,.B] fun args σ=>packs args [.V,.V] fun x=>S.z69 x.1 x.2 σ
def S.z96(e_ c_:AVal)(σ:Heap):Option (Bool×Heap):=
 scal e_ (
 newK σ 1 [e_] fun l1 σ2=>
 (S.z123 c_ (.fn (.func 111) [] [(.ptr l1 0)]) σ2).bind fun r3=>
 cond r3.1 (
 some (false,r3.2))
 (ld r3.2 (.ptr l1 0) (.V) fun v4=>
 nilck v4 (
 fld v4 0 fun a5=>
 ld r3.2 a5 (.V) fun v6=>
 (S.z69 v6 c_ r3.2).bind fun r7=>
 some (true,r7.2))))
def W.z96:Spec:=.eff [.B] fun args σ=>packs args [.V,.V] fun x=>S.z96 x.1 x.2 σ
def S.z80(p_:AVal)(level_:Int)(σ:Heap):Option (AVal×Heap):=
 (cond (decide (level_<0)) (
 some true)
 (nilck p_ (
 fld p_ 4 fun a1=>
 ld σ a1 (.V) fun v2=>
 lenV v2 fun n3=>
 some (decide (level_>=n3))))).bind fun r4=>
 cond r4 (
 some (.nils,σ))
 (nilck p_ (
 fld p_ 3 fun a5=>
 ld σ a5 (.V) fun v6=>
 nilck p_ (
 fld p_ 4 fun a7=>
 ld σ a7 (.V) fun v8=>
 ixA σ v8 1 level_ fun a9=>
 ld σ a9 (.I .i64) fun n10=>
 slS σ 1 v6 n10 none none fun v11=>
 (S.z120 v11 σ).bind fun r12=>
 some (r12.1,r12.2))))
def W.z80:Spec:=.eff [.V] fun args σ=>packs args [.V,.I .i64] fun x=>S.z80 x.1 x.2 σ
def S.z2(a_:AVal)(v_:Int)(σ:Heap):Option (Unit×Heap):=
 (cond (decide (v_>0)) (
 nilck a_ (
 fld a_ 0 fun a1=>
 ld σ a1 (.V) fun v2=>
 lenV v2 fun n3=>
 some (decide (v_<n3))))
 (some false)).bind fun r4=>
 cond r4 (
 nilck a_ (
 fld a_ 0 fun a5=>
 ld σ a5 (.V) fun v6=>
 ixA σ v6 1 v_ fun a7=>
 stC σ a7 [(.int .i8 0)] fun σ8=>
 some ((),σ8)))
 (some ((),σ))
def W.z2:Spec:=.eff [] fun args σ=>packs args [.V,.I .i64] fun x=>S.z2 x.1 x.2 σ
def S.z71.b0(p12:AVal)(p13 p14:Int)(p15:AVal)(p16:Int):LT (Int) (Unit):=fun x17 σ18=>
 cond (decide (x17<p16)) (
 ixA σ18 p15 1 x17 fun a19=>
 ld σ18 a19 (.I .i64) fun n20=>
 (S.z55 n20 σ18).bind fun r21=>
 nilck p12 (
 fld p12 0 fun a22=>
 ld σ18 a22 (.V) fun v23=>
 (S.z2 v23 r21 σ18).bind fun r24=>
 nilck p12 (
 fld p12 1 fun a25=>
 ld r24.2 a25 (.V) fun v26=>
 nilck p12 (
 fld p12 2 fun a27=>
 ld r24.2 a27 (.V) fun v28=>
 ixA r24.2 v26 1 r21 fun a29=>
 stC r24.2 a29 [(.int .i64 (-1))] fun σ30=>
 ixA σ30 v28 1 r21 fun a31=>
 stC σ30 a31 [(.int .i64 (-1))] fun σ32=>
 some (.inl (IntKind.i64.wrap (x17+1)),σ32)))))
 (some (.inr (),σ18))
def S.z71(p0:AVal)(p1:Int)(σ:Heap):Option (Unit×Heap):=
 nilck p0 (
 fld p0 4 fun a1=>
 ld σ a1 (.V) fun v2=>
 lenV v2 fun n3=>
 cond (decide ((if 0>p1 then 0 else p1)>=n3)) (
 some ((),σ))
 (nilck p0 (
 fld p0 4 fun a4=>
 ld σ a4 (.V) fun v5=>
 ixA σ v5 1 (if 0>p1 then 0 else p1) fun a6=>
 ld σ a6 (.I .i64) fun n7=>
 nilck p0 (
 fld p0 3 fun a8=>
 ld σ a8 (.V) fun v9=>
 slS σ 1 v9 n7 none none fun v10=>
 lenV v10 fun n11=>
 (loopW (S.z71.b0 p0 (if 0>p1 then 0 else p1) n7 v10 n11) 0 σ).bind fun r33=>
 nilck p0 (
 fld p0 3 fun a34=>
 ld r33.2 a34 (.V) fun v35=>
 slS r33.2 1 v35 0 (some n7) none fun v36=>
 nilck p0 (
 fld p0 4 fun a37=>
 ld r33.2 a37 (.V) fun v38=>
 slS r33.2 1 v38 0 (some (if 0>p1 then 0 else p1)) none fun v39=>
 nilck p0 (
 fld p0 3 fun a40=>
 scal v36 (
 stC r33.2 a40 [v36] fun σ41=>
 slS σ41 1 v38 0 (some (if 0>p1 then 0 else p1)) none fun v42=>
 chk ((v42:AVal)=v39) (
 nilck p0 (
 fld p0 4 fun a43=>
 scal v39 (
 stC σ41 a43 [v39] fun σ44=>
 nilck p0 (
 fld p0 5 fun a45=>
 ld σ44 a45 (.I .i64) fun n46=>
 nilck p0 (
 fld p0 5 fun a47=>
 stC σ44 a47 [(.int .i64 (if n7<n46 then n7 else n46))] fun σ48=>
 some ((),σ48))))))))))))))
def W.z71:Spec:=.eff [] fun args σ=>packs args [.V,.I .i64] fun x=>S.z71 x.1 x.2 σ
def S.z102.b0(p5:AVal)(p6:Int)(p7:AVal)(p8:Int):LT (Int) (Unit):=fun x9 σ10=>
 cond (decide (x9<p8)) (
 (ixA σ10 p7 1 x9 fun a11=>
 ld σ10 a11 (.I .i64) fun n12=>
 (S.z55 n12 σ10).bind fun r13=>
 nilck p5 (
 fld p5 3 fun a14=>
 ld σ10 a14 (.V) fun v15=>
 ixA σ10 v15 1 r13 fun a16=>
 stC σ10 a16 [(.int .i64 2)] fun σ17=>
 (cond (decide (n12>0)) (
 nilck p5 (
 fld p5 3 fun a18=>
 ld σ17 a18 (.V) fun v19=>
 ixA σ17 v19 1 r13 fun a20=>
 stC σ17 a20 [(.int .i64 1)] fun σ21=>
 some ((),σ21)))
 (some ((),σ17))).bind fun r22=>
 nilck p5 (
 fld p5 1 fun a23=>
 ld r22.2 a23 (.V) fun v24=>
 (S.z28 v24 r13 r22.2).bind fun r25=>
 some ((),r25.2)))).bind fun r26=>
 some (.inl (IntKind.i64.wrap (x9+1)),r26.2))
 (some (.inr (),σ10))
def S.z102(e_:AVal)(level_:Int)(σ:Heap):Option (Unit×Heap):=
 nilck e_ (
 fld e_ 0 fun a1=>
 ld σ a1 (.V) fun v2=>
 (S.z80 v2 level_ σ).bind fun r3=>
 lenV r3.1 fun n4=>
 (loopW (S.z102.b0 e_ level_ r3.1 n4) 0 r3.2).bind fun r27=>
 nilck e_ (
 fld e_ 0 fun a28=>
 ld r27.2 a28 (.V) fun v29=>
 (S.z71 v29 level_ r27.2).bind fun r30=>
 some ((),r30.2)))
def W.z102:Spec:=.eff [] fun args σ=>packs args [.V,.I .i64] fun x=>S.z102 x.1 x.2 σ
def S.z91(p_:AVal)(l_:Int)(σ:Heap):Option Int:=
 nilck p_ (
 fld p_ 0 fun a1=>
 ld σ a1 (.V) fun v2=>
 (S.z3 v2 l_ σ).bind fun r3=>
 cond (r3 != 2) (
 nilck p_ (
 fld p_ 4 fun a4=>
 ld σ a4 (.V) fun v5=>
 lenV v5 fun n6=>
 some (IntKind.i64.wrap (n6+1))))
 (nilck p_ (
 fld p_ 1 fun a7=>
 ld σ a7 (.V) fun v8=>
 (S.z55 l_ σ).bind fun r9=>
 ixA σ v8 1 r9 fun a10=>
 ld σ a10 (.I .i64) fun n11=>
 some n11)))
def W.z91:Spec:=.pur [.I .i64] fun args σ=>packs args [.V,.I .i64] fun x=>S.z91 x.1 x.2 σ
def S.z87.b0(p1 p2:AVal)(p3:Int)(σ0:Heap):(Int×Int)->Option ((Int×Int)⊕Int):=fun x4=>
 lenV p2 fun n6=>
 cond (decide (x4.2<n6)) (
 (ixA σ0 p2 1 x4.2 fun a7=>
 ld σ0 a7 (.I .i64) fun n8=>
 (S.z91 p1 n8 σ0).bind fun r9=>
 ixA σ0 p2 1 x4.1 fun a10=>
 ld σ0 a10 (.I .i64) fun n11=>
 (S.z91 p1 n11 σ0).bind fun r12=>
 cond (decide (r9>r12)) (
 some x4.2)
 (some x4.1)).bind fun r13=>
 some (.inl (r13,(IntKind.i64.wrap (x4.2+1)))))
 (some (.inr x4.1))
def S.z87(p_ l_:AVal)(k_:Int)(σ:Heap):Option (Unit×Heap):=
 (loopP (S.z87.b0 p_ l_ k_ σ) (k_,(IntKind.i64.wrap (k_+1)))).bind fun r14=>
 ixA σ l_ 1 r14 fun a15=>
 ld σ a15 (.I .i64) fun n16=>
 ixA σ l_ 1 k_ fun a17=>
 ld σ a17 (.I .i64) fun n18=>
 ixA σ l_ 1 k_ fun a19=>
 stC σ a19 [(.int .i64 n16)] fun σ20=>
 ixA σ20 l_ 1 r14 fun a21=>
 stC σ20 a21 [(.int .i64 n18)] fun σ22=>
 some ((),σ22)
def W.z87:Spec:=.eff [] fun args σ=>packs args [.V,.V,.I .i64] fun x=>S.z87 x.1 x.2.1 x.2.2 σ
def S.z94.b0(p15:AVal)(p16 p17 p18:Int)(p19:AVal)(p20:Int):LT (Int) (Unit):=fun x21 σ22=>
 cond (decide (x21<p20)) (
 (ixA σ22 p19 1 x21 fun a23=>
 ld σ22 a23 (.I .i64) fun n24=>
 (cond (n24 != p17) (
 some (n24 != p18))
 (some false)).bind fun r25=>
 cond r25 (
 nilck p15 (
 fld p15 7 fun a26=>
 ld σ22 a26 (.V) fun v27=>
 (S.z95 n24 σ22).bind fun r28=>
 nilck p15 (
 fld p15 7 fun a29=>
 ld σ22 a29 (.V) fun v30=>
 (S.z95 n24 σ22).bind fun r31=>
 ixA σ22 v30 1 r31 fun a32=>
 ld σ22 a32 (.V) fun v33=>
 newK σ22 1 [(.int .i64 p16)] fun l34 σ35=>
 appS σ35 1 8 v33 (.sl l34 0 1 none) fun v36 σ37=>
 ld σ37 a26 (.V) fun v38=>
 chk ((v38:AVal)=v27) (
 ixA σ37 v27 1 r28 fun a39=>
 scal v36 (
 stC σ37 a39 [v36] fun σ40=>
 some ((),σ40))))))
 (some ((),σ22))).bind fun r41=>
 some (.inl (IntKind.i64.wrap (x21+1)),r41.2))
 (some (.inr (),σ22))
def S.z94(p0:AVal)(p1:Int)(σ:Heap):Option (Unit×Heap):=
 nilck p0 (
 fld p0 6 fun a1=>
 ld σ a1 (.V) fun v2=>
 ixA σ v2 3 p1 fun a3=>
 fld a3 0 fun a4=>
 ld σ a4 (.V) fun v5=>
 lenV v5 fun n6=>
 cond (decide (n6<2)) (
 some ((),σ))
 (ixA σ v5 1 0 fun a7=>
 ld σ a7 (.I .i64) fun n8=>
 ixA σ v5 1 1 fun a9=>
 ld σ a9 (.I .i64) fun n10=>
 (S.z87 p0 v5 0 σ).bind fun r11=>
 (S.z87 p0 v5 1 r11.2).bind fun r12=>
 slS r12.2 1 v5 0 (some 2) none fun v13=>
 lenV v13 fun n14=>
 (loopW (S.z94.b0 p0 p1 n8 n10 v13 n14) 0 r12.2).bind fun r42=>
 some ((),r42.2)))
def W.z94:Spec:=.eff [] fun args σ=>packs args [.V,.I .i64] fun x=>S.z94 x.1 x.2 σ
def S.z1(a_:AVal)(l_:Int)(σ:Heap):Option (Bool×Heap):=
 (nilck a_ (
 fld a_ 0 fun a1=>
 ld σ a1 (.V) fun v2=>
 lenV v2 fun n3=>
 (S.z53 l_ (IntKind.i64.wrap (n3-1)) σ).bind fun r4=>
 cond (!r4) (
 some true)
 ((S.z3 a_ l_ σ).bind fun r5=>
 some (r5==2)))).bind fun r6=>
 cond r6 (
 some (false,σ))
 ((cond (decide (l_>0)) (
 nilck a_ (
 fld a_ 0 fun a7=>
 ld σ a7 (.V) fun v8=>
 ixA σ v8 1 l_ fun a9=>
 stC σ a9 [(.int .i8 1)] fun σ10=>
 some ((),σ10)))
 (nilck a_ (
 fld a_ 0 fun a11=>
 ld σ a11 (.V) fun v12=>
 ixA σ v12 1 (IntKind.i64.wrap (0-l_)) fun a13=>
 stC σ a13 [(.int .i8 2)] fun σ14=>
 some ((),σ14)))).bind fun r15=>
 some (true,r15.2))
def W.z1:Spec:=.eff [.B] fun args σ=>packs args [.V,.I .i64] fun x=>S.z1 x.1 x.2 σ
def S.z92(p_:AVal)(l_ reason_:Int)(σ:Heap):Option (Unit×Heap):=
 nilck p_ (
 fld p_ 0 fun a1=>
 ld σ a1 (.V) fun v2=>
 (S.z1 v2 l_ σ).bind fun r3=>
 (S.z55 l_ r3.2).bind fun r4=>
 nilck p_ (
 fld p_ 1 fun a5=>
 ld r3.2 a5 (.V) fun v6=>
 nilck p_ (
 fld p_ 2 fun a7=>
 ld r3.2 a7 (.V) fun v8=>
 nilck p_ (
 fld p_ 4 fun a9=>
 ld r3.2 a9 (.V) fun v10=>
 lenV v10 fun n11=>
 ixA r3.2 v6 1 r4 fun a12=>
 stC r3.2 a12 [(.int .i64 n11)] fun σ13=>
 ixA σ13 v8 1 r4 fun a14=>
 stC σ13 a14 [(.int .i64 reason_)] fun σ15=>
 nilck p_ (
 fld p_ 3 fun a16=>
 ld σ15 a16 (.V) fun v17=>
 newK σ15 1 [(.int .i64 l_)] fun l18 σ19=>
 appS σ19 1 8 v17 (.sl l18 0 1 none) fun v20 σ21=>
 nilck p_ (
 fld p_ 3 fun a22=>
 scal v20 (
 stC σ21 a22 [v20] fun σ23=>
 some ((),σ23))))))))
def W.z92:Spec:=.eff [] fun args σ=>packs args [.V,.I .i64,.I .i64] fun x=>S.z92 x.1 x.2.1 x.2.2 σ
def S.z85(p0:AVal)(p1:Int)(σ:Heap):Option ((Bool×Bool)×Heap):=
  nilck p0 (
  fld p0 6 fun a1=>
  ld σ a1 (.V) fun v2=>
  ixA σ v2 3 p1 fun a3=>
  fld a3 0 fun a4=>
  ld σ a4 (.V) fun v5=>
  (S.z94 p0 p1 σ).bind fun r6=>
  ((lenV v5 fun n7=>
  cond (n7==0) (
  some true)
  (nilck p0 (
  fld p0 0 fun a8=>
  ld r6.2 a8 (.V) fun v9=>
  ixA r6.2 v5 1 0 fun a10=>
  ld r6.2 a10 (.I .i64) fun n11=>
  (S.z3 v9 n11 r6.2).bind fun r12=>
  some (r12==2)))).bind fun r13=>
  cond r13 (
  some (.inr (true,true),r6.2))
  ((lenV v5 fun n14=>
  cond (decide (n14>1)) (
  nilck p0 (
  fld p0 0 fun a15=>
  ld r6.2 a15 (.V) fun v16=>
  ixA r6.2 v5 1 1 fun a17=>
  ld r6.2 a17 (.I .i64) fun n18=>
  (S.z3 v16 n18 r6.2).bind fun r19=>
  some (r19 != 2)))
  (some false)).bind fun r20=>
  cond r20 (
  some (.inr (false,false),r6.2))
  (nilck p0 (
  fld p0 0 fun a21=>
  ld r6.2 a21 (.V) fun v22=>
  ixA r6.2 v5 1 0 fun a23=>
  ld r6.2 a23 (.I .i64) fun n24=>
  (S.z3 v22 n24 r6.2).bind fun r25=>
  cond (r25==0) (
  ixA r6.2 v5 1 0 fun a26=>
  ld r6.2 a26 (.I .i64) fun n27=>
  (S.z92 p0 n27 p1 r6.2).bind fun r28=>
  some (.inl (),r28.2))
  (some (.inl (),r6.2))))):Option ((Unit⊕(Bool×Bool))×Heap)).bind fun r29=>
  (match r29.1 with
 | .inl y30=>lenV v5 fun n32=>
  (cond (decide (n32>1)) (
  nilck p0 (
  fld p0 1 fun a33=>
  ld r29.2 a33 (.V) fun v34=>
  ixA r29.2 v5 1 1 fun a35=>
  ld r29.2 a35 (.I .i64) fun n36=>
  (S.z55 n36 r29.2).bind fun r37=>
  ixA r29.2 v34 1 r37 fun a38=>
  ld r29.2 a38 (.I .i64) fun n39=>
  some n39))
  (some 0)).bind fun r40=>
  nilck p0 (
  fld p0 1 fun a41=>
  ld r29.2 a41 (.V) fun v42=>
  ixA r29.2 v5 1 0 fun a43=>
  ld r29.2 a43 (.I .i64) fun n44=>
  (S.z55 n44 r29.2).bind fun r45=>
  ixA r29.2 v42 1 r45 fun a46=>
  ld r29.2 a46 (.I .i64) fun n47=>
  some ((false,(decide (n47>r40))),r29.2))
 | .inr y31=>some ((y31.1,y31.2),r29.2)))
def W.z85:Spec:=.eff [.B,.B] fun args σ=>packs args [.V,.I .i64] fun x=>S.z85 x.1 x.2 σ
def S.z84.b0(p6 p7:AVal)(p8:Int):LT ((Int×Int)) (Int):=fun x9 σ10=>
 cond (decide (x9.2<p8)) (
 (ixA σ10 p7 1 x9.2 fun a11=>
 ld σ10 a11 (.I .i64) fun n12=>
 nilck p6 (
 fld p6 6 fun a13=>
 ld σ10 a13 (.V) fun v14=>
 ixA σ10 v14 3 n12 fun a15=>
 fld a15 2 fun a16=>
 stC σ10 a16 [(.bool false)] fun σ17=>
 nilck p6 (
 fld p6 6 fun a18=>
 ld σ17 a18 (.V) fun v19=>
 ixA σ17 v19 3 n12 fun a20=>
 fld a20 1 fun a21=>
 ld σ17 a21 (.B) fun b22=>
 cond (!b22) (
 some (x9.1,σ17))
 (cond (decide (x9.1>=0)) (
 (S.z89 p6 n12 σ17).bind fun r23=>
 some (x9.1,r23.2))
 ((S.z85 p6 n12 σ17).bind fun r24=>
 (cond r24.1.1 (
 some n12)
 (some x9.1)).bind fun r25=>
 cond r24.1.2 (
 (S.z89 p6 n12 r24.2).bind fun r26=>
 some (r25,r26.2))
 (some (r25,r24.2))))))).bind fun r27=>
 some (.inl (r27.1,(IntKind.i64.wrap (x9.2+1))),r27.2))
 (some (.inr x9.1,σ10))
def S.z84(p_:AVal)(σ:Heap):Option (Int×Heap):=
 nilck p_ (
 fld p_ 8 fun a1=>
 ld σ a1 (.V) fun v2=>
 nilck p_ (
 fld p_ 8 fun a3=>
 stC σ a3 [.nils] fun σ4=>
 lenV v2 fun n5=>
 (loopW (S.z84.b0 p_ v2 n5) ((-1),0) σ4).bind fun r28=>
 some (r28.1,r28.2)))
def W.z84:Spec:=.eff [.I .i64] fun args σ=>packs args [.V] fun x=>S.z84 x σ
def S.z90.b0(p6:AVal)(p7:Int)(p8:AVal):LT (Int) ((Unit⊕Bool)):=fun x9 σ10=>
 lenV p8 fun n11=>
 cond (decide (x9<n11)) (
 nilck p6 (
 fld p6 0 fun a12=>
 ld σ10 a12 (.V) fun v13=>
 ixA σ10 p8 1 x9 fun a14=>
 ld σ10 a14 (.I .i64) fun n15=>
 (S.z3 v13 n15 σ10).bind fun r16=>
 cond (r16 != 2) (
 ixA σ10 p8 1 x9 fun a17=>
 ld σ10 a17 (.I .i64) fun n18=>
 ixA σ10 p8 1 1 fun a19=>
 ld σ10 a19 (.I .i64) fun n20=>
 ixA σ10 p8 1 1 fun a21=>
 stC σ10 a21 [(.int .i64 n18)] fun σ22=>
 ixA σ22 p8 1 x9 fun a23=>
 stC σ22 a23 [(.int .i64 n20)] fun σ24=>
 nilck p6 (
 fld p6 7 fun a25=>
 ld σ24 a25 (.V) fun v26=>
 ixA σ24 p8 1 1 fun a27=>
 ld σ24 a27 (.I .i64) fun n28=>
 (S.z95 n28 σ24).bind fun r29=>
 nilck p6 (
 fld p6 7 fun a30=>
 ld σ24 a30 (.V) fun v31=>
 ixA σ24 p8 1 1 fun a32=>
 ld σ24 a32 (.I .i64) fun n33=>
 (S.z95 n33 σ24).bind fun r34=>
 ixA σ24 v31 1 r34 fun a35=>
 ld σ24 a35 (.V) fun v36=>
 newK σ24 1 [(.int .i64 p7)] fun l37 σ38=>
 appS σ38 1 8 v36 (.sl l37 0 1 none) fun v39 σ40=>
 ld σ40 a25 (.V) fun v41=>
 chk ((v41:AVal)=v26) (
 ixA σ40 v26 1 r29 fun a42=>
 scal v39 (
 stC σ40 a42 [v39] fun σ43=>
 some (.inr (.inr true),σ43))))))
 (some (.inl (IntKind.i64.wrap (x9+1)),σ10))))
 (some (.inr (.inl ()),σ10))
def S.z90(p0:AVal)(p1:Int)(σ:Heap):Option (Bool×Heap):=
  nilck p0 (
  fld p0 6 fun a1=>
  ld σ a1 (.V) fun v2=>
  ixA σ v2 3 p1 fun a3=>
  fld a3 0 fun a4=>
  ld σ a4 (.V) fun v5=>
  (loopW (S.z90.b0 p0 p1 v5) 2 σ).bind fun r44=>
  (match r44.1 with
 | .inl y45=>some (false,r44.2)
 | .inr y46=>some (y46,r44.2)))
def W.z90:Spec:=.eff [.B] fun args σ=>packs args [.V,.I .i64] fun x=>S.z90 x.1 x.2 σ
def S.z93(p0:AVal)(p1 p2:Int)(σ:Heap):Option ((Bool×Bool)×Heap):=
  nilck p0 (
  fld p0 6 fun a1=>
  ld σ a1 (.V) fun v2=>
  ixA σ v2 3 p1 fun a3=>
  fld a3 0 fun a4=>
  ld σ a4 (.V) fun v5=>
  (nilck p0 (
  fld p0 6 fun a6=>
  ld σ a6 (.V) fun v7=>
  ixA σ v7 3 p1 fun a8=>
  fld a8 1 fun a9=>
  ld σ a9 (.B) fun b10=>
  cond (!b10) (
  some true)
  (ixA σ v5 1 0 fun a11=>
  ld σ a11 (.I .i64) fun n12=>
  cond (n12 != p2) (
  ixA σ v5 1 1 fun a13=>
  ld σ a13 (.I .i64) fun n14=>
  some (n14 != p2))
  (some false)))).bind fun r15=>
  cond r15 (
  some ((false,false),σ))
  (ixA σ v5 1 0 fun a16=>
  ld σ a16 (.I .i64) fun n17=>
  (cond (n17==p2) (
  ixA σ v5 1 1 fun a18=>
  ld σ a18 (.I .i64) fun n19=>
  ixA σ v5 1 0 fun a20=>
  ld σ a20 (.I .i64) fun n21=>
  ixA σ v5 1 0 fun a22=>
  stC σ a22 [(.int .i64 n19)] fun σ23=>
  ixA σ23 v5 1 1 fun a24=>
  stC σ23 a24 [(.int .i64 n21)] fun σ25=>
  some ((),σ25))
  (some ((),σ))).bind fun r26=>
  nilck p0 (
  fld p0 0 fun a27=>
  ld r26.2 a27 (.V) fun v28=>
  ixA r26.2 v5 1 0 fun a29=>
  ld r26.2 a29 (.I .i64) fun n30=>
  (S.z3 v28 n30 r26.2).bind fun r31=>
  (cond (r31 != 1) (
  (S.z90 p0 p1 r26.2).bind fun r32=>
  cond r32.1 (
  some (.inr (false,false),r32.2))
  (nilck p0 (
  fld p0 0 fun a33=>
  ld r32.2 a33 (.V) fun v34=>
  ixA r32.2 v5 1 0 fun a35=>
  ld r32.2 a35 (.I .i64) fun n36=>
  (S.z3 v34 n36 r32.2).bind fun r37=>
  cond (r37==2) (
  some (.inr (true,true),r32.2))
  (ixA r32.2 v5 1 0 fun a38=>
  ld r32.2 a38 (.I .i64) fun n39=>
  (S.z92 p0 n39 p1 r32.2).bind fun r40=>
  some (.inl (),r40.2)))))
  (some (.inl (),r26.2)):Option ((Unit⊕(Bool×Bool))×Heap)).bind fun r41=>
  (match r41.1 with
 | .inl y42=>nilck p0 (
  fld p0 1 fun a44=>
  ld r41.2 a44 (.V) fun v45=>
  ixA r41.2 v5 1 0 fun a46=>
  ld r41.2 a46 (.I .i64) fun n47=>
  (S.z55 n47 r41.2).bind fun r48=>
  ixA r41.2 v45 1 r48 fun a49=>
  ld r41.2 a49 (.I .i64) fun n50=>
  nilck p0 (
  fld p0 1 fun a51=>
  ld r41.2 a51 (.V) fun v52=>
  (S.z55 p2 r41.2).bind fun r53=>
  ixA r41.2 v52 1 r53 fun a54=>
  ld r41.2 a54 (.I .i64) fun n55=>
  (cond (decide (n50>n55)) (
  (S.z89 p0 p1 r41.2).bind fun r56=>
  some ((),r56.2))
  (some ((),r41.2))).bind fun r57=>
  some ((true,false),r57.2)))
 | .inr y43=>some ((y43.1,y43.2),r41.2)))))
def W.z93:Spec:=.eff [.B,.B] fun args σ=>packs args [.V,.I .i64,.I .i64] fun x=>S.z93 x.1 x.2.1 x.2.2 σ
def S.z86.b0(p12:AVal)(p13:Int)(p14:AVal)(p15:Int):LT ((AVal×Int×Int)) (((AVal×Int))):=fun x16 σ17=>
 cond (decide (x16.2.2<p15)) (
 (ixA σ17 p14 1 x16.2.2 fun a18=>
 ld σ17 a18 (.I .i64) fun n19=>
 cond (decide (x16.2.1>=0)) (
 newK σ17 1 [(.int .i64 n19)] fun l20 σ21=>
 appS σ21 1 8 x16.1 (.sl l20 0 1 none) fun v22 σ23=>
 some ((v22,x16.2.1),σ23))
 ((S.z93 p12 n19 p13 σ17).bind fun r24=>
 (cond r24.1.1 (
 newK r24.2 1 [(.int .i64 n19)] fun l25 σ26=>
 appS σ26 1 8 x16.1 (.sl l25 0 1 none) fun v27 σ28=>
 some (v27,σ28))
 (some (x16.1,r24.2))).bind fun r29=>
 cond r24.1.2 (
 some ((r29.1,n19),r29.2))
 (some ((r29.1,x16.2.1),r29.2)))).bind fun r30=>
 some (.inl (r30.1.1,r30.1.2,(IntKind.i64.wrap (x16.2.2+1))),r30.2))
 (some (.inr (x16.1,x16.2.1),σ17))
def S.z86(p0:AVal)(p1:Int)(σ:Heap):Option (Int×Heap):=
 nilck p0 (
 fld p0 7 fun a1=>
 ld σ a1 (.V) fun v2=>
 (S.z95 p1 σ).bind fun r3=>
 ixA σ v2 1 r3 fun a4=>
 ld σ a4 (.V) fun v5=>
 nilck p0 (
 fld p0 7 fun a6=>
 ld σ a6 (.V) fun v7=>
 (S.z95 p1 σ).bind fun r8=>
 ixA σ v7 1 r8 fun a9=>
 stC σ a9 [.nils] fun σ10=>
 lenV v5 fun n11=>
 (loopW (S.z86.b0 p0 p1 v5 n11) (.nils,(-1),0) σ10).bind fun r31=>
 nilck p0 (
 fld p0 7 fun a32=>
 ld r31.2 a32 (.V) fun v33=>
 (S.z95 p1 r31.2).bind fun r34=>
 nilck p0 (
 fld p0 7 fun a35=>
 ld r31.2 a35 (.V) fun v36=>
 (S.z95 p1 r31.2).bind fun r37=>
 ixA r31.2 v36 1 r37 fun a38=>
 ld r31.2 a38 (.V) fun v39=>
 appS r31.2 1 8 r31.1.1 v39 fun v40 σ41=>
 ld σ41 a32 (.V) fun v42=>
 chk ((v42:AVal)=v33) (
 ixA σ41 v33 1 r34 fun a43=>
 scal v40 (
 stC σ41 a43 [v40] fun σ44=>
 some (r31.1.2,σ44)))))))
def W.z86:Spec:=.eff [.I .i64] fun args σ=>packs args [.V,.I .i64] fun x=>S.z86 x.1 x.2 σ
def S.z78.b0(p2:AVal):LT (Unit) ((Unit⊕Int)):=fun x3 σ4=>
 nilck p2 (
 fld p2 5 fun a5=>
 ld σ4 a5 (.I .i64) fun n6=>
 nilck p2 (
 fld p2 3 fun a7=>
 ld σ4 a7 (.V) fun v8=>
 lenV v8 fun n9=>
 cond (decide (n6<n9)) (
 nilck p2 (
 fld p2 3 fun a10=>
 ld σ4 a10 (.V) fun v11=>
 nilck p2 (
 fld p2 5 fun a12=>
 ld σ4 a12 (.I .i64) fun n13=>
 ixA σ4 v11 1 n13 fun a14=>
 ld σ4 a14 (.I .i64) fun n15=>
 (S.z86 p2 (IntKind.i64.wrap (0-n15)) σ4).bind fun r16=>
 cond (decide (r16.1>=0)) (
 some (.inr (.inr r16.1),r16.2))
 (nilck p2 (
 fld p2 5 fun a17=>
 ld r16.2 a17 (.I .i64) fun n18=>
 nilck p2 (
 fld p2 5 fun a19=>
 stC r16.2 a19 [(.int .i64 (IntKind.i64.wrap (n18+1)))] fun σ20=>
 some (.inl (),σ20)))))))
 (some (.inr (.inl ()),σ4))))
def S.z78(p_:AVal)(σ:Heap):Option (Int×Heap):=
  (S.z84 p_ σ).bind fun r1=>
  cond (decide (r1.1>=0)) (
  some (r1.1,r1.2))
  ((loopW (S.z78.b0 p_) () r1.2).bind fun r21=>
  (match r21.1 with
 | .inl y22=>some ((-1),r21.2)
 | .inr y23=>some (y23,r21.2)))
def W.z78:Spec:=.eff [.I .i64] fun args σ=>packs args [.V] fun x=>S.z78 x σ
def S.z76(p_:AVal)(σ:Heap):Option Int:=
 nilck p_ (
 fld p_ 4 fun a1=>
 ld σ a1 (.V) fun v2=>
 lenV v2 fun n3=>
 some n3)
def W.z76:Spec:=.pur [.I .i64] fun args σ=>packs args [.V] fun x=>S.z76 x σ
def S.z104.b0(p7 p8 p9:AVal)(p10:Int):LT ((AVal×Int)) (AVal):=fun x11 σ12=>
 cond (decide (x11.2<p10)) (
 ixA σ12 p8 1 x11.2 fun a13=>
 ld σ12 a13 (.I .i64) fun n14=>
 newK σ12 1 [(.int .i64 (IntKind.i64.wrap (0-n14)))] fun l15 σ16=>
 appS σ16 1 8 x11.1 (.sl l15 0 1 none) fun v17 σ18=>
 some (.inl (v17,(IntKind.i64.wrap (x11.2+1))),σ18))
 (some (.inr x11.1,σ12))
def S.z104(e_ core_:AVal)(σ:Heap):Option (AVal×Heap):=
 newK σ 3 [(.bool false),.nils,.nils] fun l1 σ2=>
 lenV core_ fun n3=>
 mkS σ2 1 8 [(.int .i64 0)] 0 n3 fun v4 σ5=>
 lenV core_ fun n6=>
 (loopW (S.z104.b0 e_ core_ (.ptr l1 0) n6) (v4,0) σ5).bind fun r19=>
 nilck e_ (
 fld e_ 5 fun a20=>
 ld r19.2 a20 (.V) fun v21=>
 scal r19.1 (
 newK r19.2 2 [(.bool false),r19.1] fun l22 σ23=>
 appS σ23 2 32 v21 (.sl l22 0 1 none) fun v24 σ25=>
 nilck e_ (
 fld e_ 5 fun a26=>
 scal v24 (
 stC σ25 a26 [v24] fun σ27=>
 scal core_ (
 stC σ27 (.ptr l1 0) [(.bool false),.nils,core_] fun σ28=>
 ldG σ28 (.ptr l1 0) 3 fun g29=>
 some (g29,σ28))))))
def W.z104:Spec:=.eff [.V] fun args σ=>packs args [.V,.V] fun x=>S.z104 x.1 x.2 σ
def S.z62(p_:AVal)(σ:Heap):Option (Bool×Heap):=
 nilck p_ (
 fld p_ 9 fun a1=>
 ld σ a1 (.I .i64) fun n2=>
 nilck p_ (
 fld p_ 9 fun a3=>
 stC σ a3 [(.int .i64 (IntKind.i64.wrap (n2+1)))] fun σ4=>
 nilck p_ (
 fld p_ 10 fun a5=>
 ld σ4 a5 (.I .i64) fun n6=>
 nilck p_ (
 fld p_ 10 fun a7=>
 stC σ4 a7 [(.int .i64 (IntKind.i64.wrap (n6+1)))] fun σ8=>
 (nilck p_ (
 fld p_ 8 fun a9=>
 ld σ8 a9 (.I .i64) fun n10=>
 cond (decide (n10<=0)) (
 some true)
 (nilck p_ (
 fld p_ 9 fun a11=>
 ld σ8 a11 (.I .i64) fun n12=>
 nilck p_ (
 fld p_ 8 fun a13=>
 ld σ8 a13 (.I .i64) fun n14=>
 some (decide (n12<=n14))))))).bind fun r15=>
 some (r15,σ8)))))
def W.z62:Spec:=.eff [.B] fun args σ=>packs args [.V] fun x=>S.z62 x σ
def S.z88(p_:AVal)(id_:Int)(σ:Heap):Option Bool:=
 (cond (decide (id_>=0)) (
 nilck p_ (
 fld p_ 6 fun a1=>
 ld σ a1 (.V) fun v2=>
 lenV v2 fun n3=>
 cond (decide (id_<n3)) (
 nilck p_ (
 fld p_ 6 fun a4=>
 ld σ a4 (.V) fun v5=>
 ixA σ v5 3 id_ fun a6=>
 fld a6 1 fun a7=>
 ld σ a7 (.B) fun b8=>
 some b8))
 (some false)))
 (some false)).bind fun r9=>
 some r9
def W.z88:Spec:=.pur [.B] fun args σ=>packs args [.V,.I .i64] fun x=>S.z88 x.1 x.2 σ
def S.z72(p_:AVal)(id_:Int)(σ:Heap):Option (AVal×Heap):=
 (S.z88 p_ id_ σ).bind fun r1=>
 cond (!r1) (
 some (.nils,σ))
 (nilck p_ (
 fld p_ 6 fun a2=>
 ld σ a2 (.V) fun v3=>
 ixA σ v3 3 id_ fun a4=>
 fld a4 0 fun a5=>
 ld σ a5 (.V) fun v6=>
 (S.z120 v6 σ).bind fun r7=>
 some (r7.1,r7.2)))
def W.z72:Spec:=.eff [.V] fun args σ=>packs args [.V,.I .i64] fun x=>S.z72 x.1 x.2 σ
def S.z44(p_ c_:AVal)(σ:Heap):Option (Bool×Heap):=
 scal p_ (
 newK σ 1 [p_] fun l1 σ2=>
 (S.z123 c_ (.fn (.func 214) [] [(.ptr l1 0)]) σ2).bind fun r3=>
 some ((!r3.1),r3.2))
def W.z44:Spec:=.eff [.B] fun args σ=>packs args [.V,.V] fun x=>S.z44 x.1 x.2 σ
def S.z77(p_:AVal)(v_:Int)(σ:Heap):Option Int:=
 (cond (decide (v_<1)) (
 some true)
 (nilck p_ (
 fld p_ 1 fun a1=>
 ld σ a1 (.V) fun v2=>
 lenV v2 fun n3=>
 some (decide (v_>=n3))))).bind fun r4=>
 cond r4 (
 some (-1))
 (nilck p_ (
 fld p_ 1 fun a5=>
 ld σ a5 (.V) fun v6=>
 ixA σ v6 1 v_ fun a7=>
 ld σ a7 (.I .i64) fun n8=>
 some n8))
def W.z77:Spec:=.pur [.I .i64] fun args σ=>packs args [.V,.I .i64] fun x=>S.z77 x.1 x.2 σ
def S.z46.b0(p2 p3:AVal)(p4:Int)(σ0:Heap):(Int×Int)->Option ((Int×Int)⊕Int):=fun x5=>
 cond (decide (x5.2<p4)) (
 ixA σ0 p3 1 x5.2 fun a7=>
 ld σ0 a7 (.I .i64) fun n8=>
 (S.z55 n8 σ0).bind fun r9=>
 (S.z77 p2 r9 σ0).bind fun r10=>
 some (.inl ((if r10>x5.1 then r10 else x5.1),(IntKind.i64.wrap (x5.2+1)))))
 (some (.inr x5.1))
def S.z46(p_ c_:AVal)(σ:Heap):Option Int:=
 lenV c_ fun n1=>
 (loopP (S.z46.b0 p_ c_ n1 σ) (0,0)).bind fun r11=>
 some r11
def W.z46:Spec:=.pur [.I .i64] fun args σ=>packs args [.V,.V] fun x=>S.z46 x.1 x.2 σ
def S.z47.b0(p2:AVal)(p3:Int)(p4:AVal)(p5:Int):LT (Int) (Unit):=fun x6 σ7=>
 cond (decide (x6<p5)) (
 (ixA σ7 p4 1 x6 fun a8=>
 ld σ7 a8 (.I .i64) fun n9=>
 (S.z55 n9 σ7).bind fun r10=>
 nilck p2 (
 fld p2 0 fun a11=>
 ld σ7 a11 (.V) fun v12=>
 (S.z77 v12 r10 σ7).bind fun r13=>
 (cond (n9==p3) (
 some (true,σ7))
 (nilck p2 (
 fld p2 3 fun a14=>
 ld σ7 a14 (.V) fun v15=>
 mgetZ σ7 v15 .i64 r10 (.bool false) fun x16 b17=>
 asK (.B) x16 fun b18=>
 cond b18 (
 some (true,σ7))
 (cond (r13==0) (
 nilck p2 (
 fld p2 1 fun a19=>
 ld σ7 a19 (.I .i64) fun n20=>
 some ((decide (n20>0)),σ7)))
 (some (false,σ7)))))).bind fun r21=>
 cond r21.1 (
 some ((),r21.2))
 (nilck p2 (
 fld p2 3 fun a22=>
 ld r21.2 a22 (.V) fun v23=>
 mputK r21.2 v23 .i64 r10 (.bool true) fun σ24=>
 nilck p2 (
 fld p2 4 fun a25=>
 ld σ24 a25 (.V) fun v26=>
 newK σ24 1 [(.int .i64 r10)] fun l27 σ28=>
 appS σ28 1 8 v26 (.sl l27 0 1 none) fun v29 σ30=>
 nilck p2 (
 fld p2 4 fun a31=>
 scal v29 (
 stC σ30 a31 [v29] fun σ32=>
 nilck p2 (
 fld p2 1 fun a33=>
 ld σ32 a33 (.I .i64) fun n34=>
 cond (r13==n34) (
 nilck p2 (
 fld p2 2 fun a35=>
 ld σ32 a35 (.I .i64) fun n36=>
 nilck p2 (
 fld p2 2 fun a37=>
 stC σ32 a37 [(.int .i64 (IntKind.i64.wrap (n36+1)))] fun σ38=>
 some ((),σ38))))
 (nilck p2 (
 fld p2 5 fun a39=>
 ld σ32 a39 (.V) fun v40=>
 newK σ32 1 [(.int .i64 n9)] fun l41 σ42=>
 appS σ42 1 8 v40 (.sl l41 0 1 none) fun v43 σ44=>
 nilck p2 (
 fld p2 5 fun a45=>
 scal v43 (
 stC σ44 a45 [v43] fun σ46=>
 some ((),σ46))))))))))))).bind fun r47=>
 some (.inl (IntKind.i64.wrap (x6+1)),r47.2))
 (some (.inr (),σ7))
def S.z47(p0 p1:AVal)(p2:Int)(σ:Heap):Option (Unit×Heap):=
 lenV p1 fun n1=>
 (loopW (S.z47.b0 p0 p2 p1 n1) 0 σ).bind fun r48=>
 some ((),r48.2)
def W.z47:Spec:=.eff [] fun args σ=>packs args [.V,.V,.I .i64] fun x=>S.z47 x.1 x.2.1 x.2.2 σ
def S.z81(p_:AVal)(σ:Heap):Option (AVal×Heap):=
 nilck p_ (
 fld p_ 3 fun a1=>
 ld σ a1 (.V) fun v2=>
 (S.z120 v2 σ).bind fun r3=>
 some (r3.1,r3.2))
def W.z81:Spec:=.eff [.V] fun args σ=>packs args [.V] fun x=>S.z81 x σ
def S.z39(p_ c_:AVal)(σ:Heap):Option Int:=
 lenV c_ fun n1=>
 cond (n1==0) (
 some 0)
 (slS σ 1 c_ 1 none none fun v2=>
 (S.z46 p_ v2 σ).bind fun r3=>
 some r3)
def W.z39:Spec:=.pur [.I .i64] fun args σ=>packs args [.V,.V] fun x=>S.z39 x.1 x.2 σ
def S.z42.b0(p4 p5 p6:AVal)(p7:Int):LT (Int) (Unit):=fun x8 σ9=>
 cond (decide (x8<p7)) (
 ixA σ9 p6 1 x8 fun a10=>
 ld σ9 a10 (.I .i64) fun n11=>
 (S.z55 n11 σ9).bind fun r12=>
 (S.z77 p4 r12 σ9).bind fun r13=>
 mputK σ9 p5 .i64 r13 (.bool true) fun σ14=>
 some (.inl (IntKind.i64.wrap (x8+1)),σ14))
 (some (.inr (),σ9))
def S.z42(p_ c_:AVal)(σ:Heap):Option (Int×Heap):=
 newM σ fun l1 σ2=>
 lenV c_ fun n3=>
 (loopW (S.z42.b0 p_ (.map l1) c_ n3) 0 σ2).bind fun r15=>
 lenM r15.2 (.map l1) fun n16=>
 some (n16,r15.2)
def W.z42:Spec:=.eff [.I .i64] fun args σ=>packs args [.V,.V] fun x=>S.z42 x.1 x.2 σ
def S.z79(p_:AVal)(v_:Int)(σ:Heap):Option Int:=
 (cond (decide (v_<1)) (
 some true)
 (nilck p_ (
 fld p_ 2 fun a1=>
 ld σ a1 (.V) fun v2=>
 lenV v2 fun n3=>
 some (decide (v_>=n3))))).bind fun r4=>
 cond r4 (
 some (-1))
 (nilck p_ (
 fld p_ 2 fun a5=>
 ld σ a5 (.V) fun v6=>
 ixA σ v6 1 v_ fun a7=>
 ld σ a7 (.I .i64) fun n8=>
 some n8))
def W.z79:Spec:=.pur [.I .i64] fun args σ=>packs args [.V,.I .i64] fun x=>S.z79 x.1 x.2 σ
def S.z41.b0(p18 p19:AVal)(p20 p21:AVal):LT (Int) ((Unit⊕Bool)):=fun x22 σ23=>
  cond (decide (x22>=0)) (
  (ixA σ23 p21 1 x22 fun a24=>
  ld σ23 a24 (.I .i64) fun n25=>
  (S.z55 n25 σ23).bind fun r26=>
  (nilck p20 (
  fld p20 3 fun a27=>
  ld σ23 a27 (.V) fun v28=>
  mgetZ σ23 v28 .i64 r26 (.bool false) fun x29 b30=>
  asK (.B) x29 fun b31=>
  cond (!b31) (
  some (true,σ23))
  ((S.z77 p18 r26 σ23).bind fun r32=>
  nilck p20 (
  fld p20 1 fun a33=>
  ld σ23 a33 (.I .i64) fun n34=>
  some ((r32 != n34),σ23))))).bind fun r35=>
  cond r35.1 (
  some (.inl (),r35.2))
  (nilck p20 (
  fld p20 2 fun a36=>
  ld r35.2 a36 (.I .i64) fun n37=>
  cond (n37==1) (
  newK r35.2 1 [(.int .i64 (IntKind.i64.wrap (0-n25)))] fun l38 σ39=>
  nilck p20 (
  fld p20 5 fun a40=>
  ld σ39 a40 (.V) fun v41=>
  appS σ39 1 8 (.sl l38 0 1 none) v41 fun v42 σ43=>
  (S.z39 p18 v42 σ43).bind fun r44=>
  (S.z42 p18 v42 σ43).bind fun r45=>
  nilck p20 (
  fld p20 4 fun a46=>
  ld r45.2 a46 (.V) fun v47=>
  ld σ43 a46 (.V) fun v48=>
  chk ((v48:AVal)=v47) (
  scal v42 (
  scal v47 (
  stC r45.2 p19 [v42,(.int .i64 r44),(.int .i64 r45.1),v47] fun σ49=>
  some (.inr true,σ49)))))))
  (nilck p20 (
  fld p20 2 fun a50=>
  ld r35.2 a50 (.I .i64) fun n51=>
  nilck p20 (
  fld p20 2 fun a52=>
  stC r35.2 a52 [(.int .i64 (IntKind.i64.wrap (n51-1)))] fun σ53=>
  (S.z79 p18 r26 σ53).bind fun r54=>
  (S.z72 p18 r54 σ53).bind fun r55=>
  (S.z47 p20 r55.1 n25 r55.2).bind fun r56=>
  some (.inl (),r56.2)))))):Option ((Unit⊕Bool)×Heap)).bind fun r57=>
  (match r57.1 with
 | .inl y58=>some (.inl (IntKind.i64.wrap (x22-1)),r57.2)
 | .inr y59=>some (.inr (.inr y59),r57.2)))
  (some (.inr (.inl ()),σ23))
def S.z41(p0:AVal)(p1:Int)(σ:Heap):Option ((AVal×Bool)×Heap):=
  newK σ 4 [.nils,(.int .i64 0),(.int .i64 0),.nils] fun l1 σ2=>
  (S.z72 p0 p1 σ2).bind fun r3=>
  (lenV r3.1 fun n4=>
  cond (n4==0) (
  some (true,r3.2))
  ((S.z76 p0 r3.2).bind fun r5=>
  cond (r5==0) (
  some (true,r3.2))
  ((S.z44 p0 r3.1 r3.2).bind fun r6=>
  some ((!r6.1),r6.2)))).bind fun r7=>
  cond r7.1 (
  stC r7.2 (.ptr l1 0) [.nils,(.int .i64 0),(.int .i64 0),.nils] fun σ8=>
  ldG σ8 (.ptr l1 0) 4 fun g9=>
  some ((g9,false),σ8))
  ((S.z46 p0 r3.1 r7.2).bind fun r10=>
  newM r7.2 fun l11 σ12=>
  scal p0 (
  newK σ12 6 [p0,(.int .i64 r10),(.int .i64 0),(.map l11),.nils,.nils] fun l13 σ14=>
  (S.z47 (.ptr l13 0) r3.1 0 σ14).bind fun r15=>
  (S.z81 p0 r15.2).bind fun r16=>
  lenV r16.1 fun n17=>
  (loopW (S.z41.b0 p0 (.ptr l1 0) (.ptr l13 0) r16.1) (IntKind.i64.wrap (n17-1)) r16.2).bind fun r60=>
  (match r60.1 with
 | .inl y61=>stC r60.2 (.ptr l1 0) [.nils,(.int .i64 0),(.int .i64 0),.nils] fun σ63=>
  ldG σ63 (.ptr l1 0) 4 fun g64=>
  some ((g64,false),σ63)
 | .inr y62=>ldG r60.2 (.ptr l1 0) 4 fun g65=>
  some ((g65,y62),r60.2))))
def W.z41:Spec:=.eff [.V,.B] fun args σ=>packs args [.V,.I .i64] fun x=>S.z41 x.1 x.2 σ
def S.z48.b0(self:AVal->Int->Heap->Option (Bool×Heap))(p13:AVal)(p14:Int)(p15:AVal)(p16:Int):LT ((Bool×Int)) (Bool):=fun x17 σ18=>
 cond (decide (x17.2<p16)) (
 ixA σ18 p15 1 x17.2 fun a19=>
 ld σ18 a19 (.I .i64) fun n20=>
 (S.z55 n20 σ18).bind fun r21=>
 (cond (r21 != p14) (
 nilck p13 (
 fld p13 1 fun a22=>
 ld σ18 a22 (.V) fun v23=>
 mgetZ σ18 v23 .i64 r21 (.bool false) fun x24 b25=>
 asK (.B) x24 fun b26=>
 cond (!b26) (
 (self p13 r21 σ18).bind fun r27=>
 some ((!r27.1),r27.2))
 (some (false,σ18))))
 (some (false,σ18))).bind fun r28=>
 cond r28.1 (
 some (.inr false,r28.2))
 (some (.inl (x17.1,(IntKind.i64.wrap (x17.2+1))),r28.2)))
 (some (.inr x17.1,σ18))
def S.z48.r(self:AVal->Int->Heap->Option (Bool×Heap))(p0:AVal)(p1:Int)(σ:Heap):Option (Bool×Heap):=
 nilck p0 (
 fld p0 2 fun a1=>
 ld σ a1 (.V) fun v2=>
 mgetZ σ v2 .i64 p1 (.bool false) fun x3 b4=>
 asK (.B) x3 fun b5=>
 cond b4 (
 some (b5,σ))
 (nilck p0 (
 fld p0 0 fun a6=>
 ld σ a6 (.V) fun v7=>
 (S.z79 v7 p1 σ).bind fun r8=>
 (cond (decide (r8>=0)) (
 nilck p0 (
 fld p0 0 fun a9=>
 ld σ a9 (.V) fun v10=>
 (S.z72 v10 r8 σ).bind fun r11=>
 lenV r11.1 fun n12=>
 (loopW (S.z48.b0 self p0 p1 r11.1 n12) ((decide (r8>=0)),0) r11.2).bind fun r29=>
 some (r29.1,r29.2)))
 (some ((decide (r8>=0)),σ))).bind fun r30=>
 nilck p0 (
 fld p0 2 fun a31=>
 ld r30.2 a31 (.V) fun v32=>
 mputK r30.2 v32 .i64 p1 (.bool r30.1) fun σ33=>
 some (r30.1,σ33)))))
def S.z48.n:Nat->AVal->Int->Heap->Option (Bool×Heap)
  |0=>fun _ _ _=>none
  |n+1=>S.z48.r (S.z48.n n)
def S.z48(p0:AVal)(p1:Int)(σ:Heap):Option (Bool×Heap):=lim fun n=>S.z48.n n p0 p1 σ
def W.z48:Spec:=.eff [.B] fun args σ=>packs args [.V,.I .i64] fun x=>S.z48 x.1 x.2 σ
def S.z43.b0(p8 p9:AVal)(p10:Int):LT (Int) (Unit):=fun x11 σ12=>
 cond (decide (x11<p10)) (
 ixA σ12 p8 1 x11 fun a13=>
 ld σ12 a13 (.I .i64) fun n14=>
 nilck p9 (
 fld p9 1 fun a15=>
 ld σ12 a15 (.V) fun v16=>
 (S.z55 n14 σ12).bind fun r17=>
 mputK σ12 v16 .i64 r17 (.bool true) fun σ18=>
 some (.inl (IntKind.i64.wrap (x11+1)),σ18)))
 (some (.inr (),σ12))
def S.z43.b1(p21 p22:AVal)(p23:Int):LT ((AVal×Int)) (AVal):=fun x24 σ25=>
 cond (decide (x24.2<p23)) (
 (ixA σ25 p22 1 x24.2 fun a26=>
 ld σ25 a26 (.I .i64) fun n27=>
 (cond (decide (x24.2>0)) (
 (S.z55 n27 σ25).bind fun r28=>
 (S.z48 p21 r28 σ25).bind fun r29=>
 some (r29.1,r29.2))
 (some (false,σ25))).bind fun r30=>
 cond r30.1 (
 some (x24.1,r30.2))
 (newK r30.2 1 [(.int .i64 n27)] fun l31 σ32=>
 appS σ32 1 8 x24.1 (.sl l31 0 1 none) fun v33 σ34=>
 some (v33,σ34))).bind fun r35=>
 some (.inl (r35.1,(IntKind.i64.wrap (x24.2+1))),r35.2))
 (some (.inr x24.1,σ25))
def S.z43(p_ c_:AVal)(σ:Heap):Option (AVal×Heap):=
 newM σ fun l1 σ2=>
 newM σ2 fun l3 σ4=>
 scal p_ (
 newK σ4 3 [p_,(.map l1),(.map l3)] fun l5 σ6=>
 lenV c_ fun n7=>
 (loopW (S.z43.b0 c_ (.ptr l5 0) n7) 0 σ6).bind fun r19=>
 lenV c_ fun n20=>
 (loopW (S.z43.b1 (.ptr l5 0) c_ n20) (.nils,0) r19.2).bind fun r36=>
 some (r36.1,r36.2))
def W.z43:Spec:=.eff [.V] fun args σ=>packs args [.V,.V] fun x=>S.z43 x.1 x.2 σ
def S.z32.b0(p5:AVal)(p6:Int):LT (Int) (Int):=fun x7 σ8=>
 (nilck p5 (
 fld p5 2 fun a9=>
 ld σ8 a9 (.V) fun v10=>
 lenV v10 fun n11=>
 cond (decide ((IntKind.i64.wrap ((IntKind.i64.wrap ((IntKind.i64.wrap (2*x7))+1))+1))<n11)) (
 nilck p5 (
 fld p5 2 fun a12=>
 ld σ8 a12 (.V) fun v13=>
 ixA σ8 v13 1 (IntKind.i64.wrap ((IntKind.i64.wrap ((IntKind.i64.wrap (2*x7))+1))+1)) fun a14=>
 ld σ8 a14 (.I .i64) fun n15=>
 nilck p5 (
 fld p5 2 fun a16=>
 ld σ8 a16 (.V) fun v17=>
 ixA σ8 v17 1 (IntKind.i64.wrap ((IntKind.i64.wrap (2*x7))+1)) fun a18=>
 ld σ8 a18 (.I .i64) fun n19=>
 (S.z29 p5 n15 n19 σ8).bind fun r20=>
 some r20)))
 (some false))).bind fun r21=>
 (cond r21 (
 some (IntKind.i64.wrap ((IntKind.i64.wrap ((IntKind.i64.wrap (2*x7))+1))+1)))
 (some (IntKind.i64.wrap ((IntKind.i64.wrap (2*x7))+1)))).bind fun r22=>
 (nilck p5 (
 fld p5 2 fun a23=>
 ld σ8 a23 (.V) fun v24=>
 lenV v24 fun n25=>
 cond (decide (r22>=n25)) (
 some true)
 (nilck p5 (
 fld p5 2 fun a26=>
 ld σ8 a26 (.V) fun v27=>
 ixA σ8 v27 1 r22 fun a28=>
 ld σ8 a28 (.I .i64) fun n29=>
 (S.z29 p5 n29 p6 σ8).bind fun r30=>
 some (!r30))))).bind fun r31=>
 cond r31 (
 some (.inr x7,σ8))
 (nilck p5 (
 fld p5 2 fun a32=>
 ld σ8 a32 (.V) fun v33=>
 ixA σ8 v33 1 r22 fun a34=>
 ld σ8 a34 (.I .i64) fun n35=>
 (S.z34 p5 x7 n35 σ8).bind fun r36=>
 some (.inl r22,r36.2)))
def S.z32(p0:AVal)(p1:Int)(σ:Heap):Option (Unit×Heap):=
 nilck p0 (
 fld p0 2 fun a1=>
 ld σ a1 (.V) fun v2=>
 ixA σ v2 1 p1 fun a3=>
 ld σ a3 (.I .i64) fun n4=>
 (loopW (S.z32.b0 p0 n4) p1 σ).bind fun r37=>
 (S.z34 p0 r37.1 n4 r37.2).bind fun r38=>
 some ((),r38.2))
def W.z32:Spec:=.eff [] fun args σ=>packs args [.V,.I .i64] fun x=>S.z32 x.1 x.2 σ
def S.z23(h_:AVal)(v_ p2:Int)(σ:Heap):Option (Int×Heap):=
 (S.z33 h_ v_ σ).bind fun r1=>
 cond (!r1) (
 some (0,σ))
 (nilck h_ (
 fld h_ 0 fun a2=>
 ld σ a2 (.V) fun v3=>
 nilck h_ (
 fld h_ 0 fun a4=>
 ld σ a4 (.V) fun v5=>
 ixA σ v5 1 v_ fun a6=>
 ld σ a6 (.I .i64) fun n7=>
 ixA σ v3 1 v_ fun a8=>
 stC σ a8 [(.int .i64 (if 1099511627776<(if 0>(IntKind.i64.wrap (n7+(if 1099511627776<(if(-1099511627776)>p2 then(-1099511627776)else p2)then 1099511627776 else(if(-1099511627776)>p2 then(-1099511627776)else p2))))then 0 else(IntKind.i64.wrap (n7+(if 1099511627776<(if(-1099511627776)>p2 then(-1099511627776)else p2)then 1099511627776 else(if(-1099511627776)>p2 then(-1099511627776)else p2)))))then 1099511627776 else(if 0>(IntKind.i64.wrap (n7+(if 1099511627776<(if(-1099511627776)>p2 then(-1099511627776)else p2)then 1099511627776 else(if(-1099511627776)>p2 then(-1099511627776)else p2))))then 0 else(IntKind.i64.wrap (n7+(if 1099511627776<(if(-1099511627776)>p2 then(-1099511627776)else p2)then 1099511627776 else(if(-1099511627776)>p2 then(-1099511627776)else p2)))))))] fun σ9=>
 nilck h_ (
 fld h_ 1 fun a10=>
 ld σ9 a10 (.V) fun v11=>
 ixA σ9 v11 1 v_ fun a12=>
 ld σ9 a12 (.I .i64) fun n13=>
 (cond (decide ((IntKind.i64.wrap (n13-1))>=0)) (
 (S.z36 h_ (IntKind.i64.wrap (n13-1)) σ9).bind fun r14=>
 nilck h_ (
 fld h_ 1 fun a15=>
 ld r14.2 a15 (.V) fun v16=>
 ixA r14.2 v16 1 v_ fun a17=>
 ld r14.2 a17 (.I .i64) fun n18=>
 (S.z32 h_ (IntKind.i64.wrap (n18-1)) r14.2).bind fun r19=>
 some ((),r19.2)))
 (some ((),σ9))).bind fun r20=>
 nilck h_ (
 fld h_ 0 fun a21=>
 ld r20.2 a21 (.V) fun v22=>
 ixA r20.2 v22 1 v_ fun a23=>
 ld r20.2 a23 (.I .i64) fun n24=>
 some (n24,r20.2))))))
def W.z23:Spec:=.eff [.I .i64] fun args σ=>packs args [.V,.I .i64,.I .i64] fun x=>S.z23 x.1 x.2.1 x.2.2 σ
def S.z25.b0(p4:AVal)(p5:Int):LT (Int) (Unit):=fun x6 σ7=>
 cond (decide (x6<p5)) (
 nilck p4 (
 fld p4 0 fun a8=>
 ld σ7 a8 (.V) fun v9=>
 ixA σ7 v9 1 x6 fun a10=>
 ld σ7 a10 (.I .i64) fun n11=>
 ixA σ7 v9 1 x6 fun a12=>
 stC σ7 a12 [(.int .i64 (IntKind.i64.wrap (Int.tdiv n11 2)))] fun σ13=>
 some (.inl (IntKind.i64.wrap (x6+1)),σ13)))
 (some (.inr (),σ7))
def S.z25.b1(p18:AVal):LT (Int) (Unit):=fun x19 σ20=>
 cond (decide (x19>=0)) (
 (S.z32 p18 x19 σ20).bind fun r21=>
 some (.inl (IntKind.i64.wrap (x19-1)),r21.2))
 (some (.inr (),σ20))
def S.z25(h_:AVal)(σ:Heap):Option (Unit×Heap):=
 nilck h_ (
 fld h_ 0 fun a1=>
 ld σ a1 (.V) fun v2=>
 lenV v2 fun n3=>
 (loopW (S.z25.b0 h_ n3) 0 σ).bind fun r14=>
 nilck h_ (
 fld h_ 2 fun a15=>
 ld r14.2 a15 (.V) fun v16=>
 lenV v16 fun n17=>
 (loopW (S.z25.b1 h_) (IntKind.i64.wrap (n17-1)) r14.2).bind fun r22=>
 some ((),r22.2)))
def W.z25:Spec:=.eff [] fun args σ=>packs args [.V] fun x=>S.z25 x σ
def S.z103.b0(p2 p3:AVal)(p4:Int):LT (Int) (Unit):=fun x5 σ6=>
 cond (decide (x5<p4)) (
 ixA σ6 p3 1 x5 fun a7=>
 ld σ6 a7 (.I .i64) fun n8=>
 nilck p2 (
 fld p2 1 fun a9=>
 ld σ6 a9 (.V) fun v10=>
 nilck p2 (
 fld p2 7 fun a11=>
 ld σ6 a11 (.I .i64) fun n12=>
 (S.z23 v10 n8 n12 σ6).bind fun r13=>
 some (.inl (IntKind.i64.wrap (x5+1)),r13.2))))
 (some (.inr (),σ6))
def S.z103.b1(p23:AVal):LT (Int) (Unit):=fun x24 σ25=>
 cond (decide (x24<20)) (
 nilck p23 (
 fld p23 1 fun a26=>
 ld σ25 a26 (.V) fun v27=>
 (S.z25 v27 σ25).bind fun r28=>
 some (.inl (IntKind.i64.wrap (x24+1)),r28.2)))
 (some (.inr (),σ25))
def S.z103(e_ l_:AVal)(σ:Heap):Option (Unit×Heap):=
 lenV l_ fun n1=>
 (loopW (S.z103.b0 e_ l_ n1) 0 σ).bind fun r14=>
 nilck e_ (
 fld e_ 7 fun a15=>
 ld r14.2 a15 (.I .i64) fun n16=>
 nilck e_ (
 fld e_ 7 fun a17=>
 ld r14.2 a17 (.I .i64) fun n18=>
 nilck e_ (
 fld e_ 7 fun a19=>
 stC r14.2 a19 [(.int .i64 (IntKind.i64.wrap (n16+(IntKind.i64.wrap (Int.tdiv n18 16)))))] fun σ20=>
 nilck e_ (
 fld e_ 7 fun a21=>
 ld σ20 a21 (.I .i64) fun n22=>
 cond (decide (n22>1073741824)) (
 (loopW (S.z103.b1 e_) 0 σ20).bind fun r29=>
 nilck e_ (
 fld e_ 7 fun a30=>
 ld r29.2 a30 (.I .i64) fun n31=>
 nilck e_ (
 fld e_ 7 fun a32=>
 stC r29.2 a32 [(.int .i64 (Int.fdiv n31 (2 ^ (min (Int.toNat 20) IntKind.i64.bits))))] fun σ33=>
 some ((),σ33))))
 (some ((),σ20))))))
def W.z103:Spec:=.eff [] fun args σ=>packs args [.V,.V] fun x=>S.z103 x.1 x.2 σ
def S.z67(t_:AVal)(σ:Heap):Option (Int×Heap):=
 nilck t_ (
 fld t_ 0 fun a1=>
 ld σ a1 (.V) fun v2=>
 lenV v2 fun n3=>
 cond (n3==0) (
 some (0,σ))
 (nilck t_ (
 fld t_ 0 fun a4=>
 ld σ a4 (.V) fun v5=>
 nilck t_ (
 fld t_ 1 fun a6=>
 ld σ a6 (.I .i64) fun n7=>
 ixA σ v5 1 n7 fun a8=>
 ld σ a8 (.I .i64) fun n9=>
 nilck t_ (
 fld t_ 1 fun a10=>
 ld σ a10 (.I .i64) fun n11=>
 nilck t_ (
 fld t_ 0 fun a12=>
 ld σ a12 (.V) fun v13=>
 lenV v13 fun n14=>
 if n14=0 then none else
 nilck t_ (
 fld t_ 1 fun a15=>
 stC σ a15 [(.int .i64 (Int.tmod (IntKind.i64.wrap (n11+1)) n14))] fun σ16=>
 some (n9,σ16))))))))
def W.z67:Spec:=.eff [.I .i64] fun args σ=>packs args [.V] fun x=>S.z67 x σ
def S.z64(p_:AVal)(σ:Heap):Option (Bool×Heap):=
 (nilck p_ (
 fld p_ 10 fun a1=>
 ld σ a1 (.I .i64) fun n2=>
 nilck p_ (
 fld p_ 11 fun a3=>
 ld σ a3 (.I .i64) fun n4=>
 cond (decide (n2<n4)) (
 some (true,σ))
 (nilck p_ (
 fld p_ 0 fun a5=>
 (S.z67 a5 σ).bind fun r6=>
 some (((IntKind.i64.wrap (BitVec.toNat (BitVec.ofInt IntKind.i64.bits r6.1 &&& BitVec.ofInt IntKind.i64.bits 1)))==0),r6.2)))))).bind fun r7=>
 cond r7.1 (
 some (false,r7.2))
 (nilck p_ (
 fld p_ 10 fun a8=>
 stC r7.2 a8 [(.int .i64 0)] fun σ9=>
 nilck p_ (
 fld p_ 11 fun a10=>
 ld σ9 a10 (.I .i64) fun n11=>
 nilck p_ (
 fld p_ 11 fun a12=>
 stC σ9 a12 [(.int .i64 (IntKind.i64.wrap (n11+8)))] fun σ13=>
 some (true,σ13)))))
def W.z64:Spec:=.eff [.B] fun args σ=>packs args [.V] fun x=>S.z64 x σ
def S.z63(p_:AVal)(score_:Int)(σ:Heap):Option (Bool×Heap):=
 (cond (decide (score_<=2)) (
 some (true,σ))
 (nilck p_ (
 fld p_ 2 fun a1=>
 (S.z67 a1 σ).bind fun r2=>
 some (((IntKind.i64.wrap (BitVec.toNat (BitVec.ofInt IntKind.i64.bits r2.1 &&& BitVec.ofInt IntKind.i64.bits 1)))==0),r2.2)))).bind fun r3=>
 some (r3.1,r3.2)
def W.z63:Spec:=.eff [.B] fun args σ=>packs args [.V,.I .i64] fun x=>S.z63 x.1 x.2 σ
def S.z74.b0(p8:AVal)(p9:Int)(p10:AVal)(p11:Int)(σ0:Heap):Int->Option (Int⊕(Unit⊕Bool)):=fun x12=>
 cond (decide (x12<p11)) (
 ixA σ0 p10 1 x12 fun a14=>
 ld σ0 a14 (.I .i64) fun n15=>
 (nilck p8 (
 fld p8 0 fun a16=>
 ld σ0 a16 (.V) fun v17=>
 (S.z3 v17 n15 σ0).bind fun r18=>
 cond (r18==1) (
 nilck p8 (
 fld p8 2 fun a19=>
 ld σ0 a19 (.V) fun v20=>
 (S.z55 n15 σ0).bind fun r21=>
 ixA σ0 v20 1 r21 fun a22=>
 ld σ0 a22 (.I .i64) fun n23=>
 some (n23==p9)))
 (some false))).bind fun r24=>
 cond r24 (
 some (.inr (.inr false)))
 (some (.inl (IntKind.i64.wrap (x12+1)))))
 (some (.inr (.inl ())))
def S.z74(p_:AVal)(id_:Int)(σ:Heap):Option (Bool×Heap):=
  (S.z88 p_ id_ σ).bind fun r1=>
  cond (!r1) (
  some (false,σ))
  (nilck p_ (
  fld p_ 6 fun a2=>
  ld σ a2 (.V) fun v3=>
  ixA σ v3 3 id_ fun a4=>
  fld a4 0 fun a5=>
  ld σ a5 (.V) fun v6=>
  lenV v6 fun n7=>
  (loopP (S.z74.b0 p_ id_ v6 n7 σ) 0).bind fun r25=>
  (match r25 with
 | .inl y26=>nilck p_ (
  fld p_ 6 fun a28=>
  ld σ a28 (.V) fun v29=>
  nilck p_ (
  fld p_ 6 fun a30=>
  ld σ a30 (.V) fun v31=>
  ixA σ v31 3 id_ fun a32=>
  fld a32 2 fun a33=>
  ld σ a33 (.B) fun b34=>
  ixA σ v29 3 id_ fun a35=>
  stC σ a35 [.nils,(.bool false),(.bool b34)] fun σ36=>
  some (true,σ36)))
 | .inr y27=>some (y27,σ))))
def W.z74:Spec:=.eff [.B] fun args σ=>packs args [.V,.I .i64] fun x=>S.z74 x.1 x.2 σ
def S.z108.b0(p5 p6:AVal)(p7:Int):LT ((AVal×Int)) (AVal):=fun x8 σ9=>
 cond (decide (x8.2<p7)) (
 (ixA σ9 p6 2 x8.2 fun a10=>
 ldG σ9 a10 2 fun g11=>
 newK σ9 2 [(.int .i64 0),(.int .i64 0)] fun l12 σ13=>
 aggK g11 2 fun cs14=>
 stC σ13 (.ptr l12 0) cs14 fun σ15=>
 nilck p5 (
 fld p5 0 fun a16=>
 ld σ15 a16 (.V) fun v17=>
 ld σ15 (.ptr l12 0) (.I .i64) fun n18=>
 (S.z72 v17 n18 σ15).bind fun r19=>
 (nilck p5 (
 fld p5 2 fun a20=>
 ld r19.2 a20 (.V) fun v21=>
 ld r19.2 (.ptr l12 1) (.I .i64) fun n22=>
 (S.z63 v21 n22 r19.2).bind fun r23=>
 cond r23.1 (
 some (true,r23.2))
 (lenV r19.1 fun n24=>
 cond (decide (n24<2)) (
 some (true,r23.2))
 (nilck p5 (
 fld p5 0 fun a25=>
 ld r23.2 a25 (.V) fun v26=>
 ld r23.2 (.ptr l12 0) (.I .i64) fun n27=>
 (S.z74 v26 n27 r23.2).bind fun r28=>
 some ((!r28.1),r28.2)))))).bind fun r29=>
 cond r29.1 (
 ldG r29.2 (.ptr l12 0) 2 fun g30=>
 aggK g30 2 fun cs31=>
 putC [(.int .i64 0),(.int .i64 0)] 0 2 cs31 fun cs32=>
 newK r29.2 2 cs32 fun l33 σ34=>
 appS σ34 2 16 x8.1 (.sl l33 0 1 none) fun v35 σ36=>
 some (v35,σ36))
 (nilck p5 (
 fld p5 5 fun a37=>
 ld r29.2 a37 (.V) fun v38=>
 scal r19.1 (
 newK r29.2 2 [(.bool true),r19.1] fun l39 σ40=>
 appS σ40 2 32 v38 (.sl l39 0 1 none) fun v41 σ42=>
 nilck p5 (
 fld p5 5 fun a43=>
 scal v41 (
 stC σ42 a43 [v41] fun σ44=>
 some (x8.1,σ44)))))))).bind fun r45=>
 some (.inl (r45.1,(IntKind.i64.wrap (x8.2+1))),r45.2))
 (some (.inr x8.1,σ9))
def S.z108(p0:AVal)(σ:Heap):Option (Unit×Heap):=
 (S.z102 p0 0 σ).bind fun r1=>
 nilck p0 (
 fld p0 4 fun a2=>
 ld r1.2 a2 (.V) fun v3=>
 lenV v3 fun n4=>
 (loopW (S.z108.b0 p0 v3 n4) (.nils,0) r1.2).bind fun r46=>
 nilck p0 (
 fld p0 4 fun a47=>
 scal r46.1 (
 stC r46.2 a47 [r46.1] fun σ48=>
 some ((),σ48))))
def W.z108:Spec:=.eff [] fun args σ=>packs args [.V] fun x=>S.z108 x σ
def S.z106(p0:AVal)(p1:Int)(σ:Heap):Option (Bool×Heap):=
 nilck p0 (
 fld p0 6 fun a1=>
 ld σ a1 (.I .i64) fun n2=>
 nilck p0 (
 fld p0 6 fun a3=>
 stC σ a3 [(.int .i64 (IntKind.i64.wrap (n2+1)))] fun σ4=>
 nilck p0 (
 fld p0 2 fun a5=>
 ld σ4 a5 (.V) fun v6=>
 (S.z62 v6 σ4).bind fun r7=>
 cond (!r7.1) (
 some (false,r7.2))
 (nilck p0 (
 fld p0 0 fun a8=>
 ld r7.2 a8 (.V) fun v9=>
 (S.z41 v9 p1 r7.2).bind fun r10=>
 newK r10.2 4 [.nils,(.int .i64 0),(.int .i64 0),.nils] fun l11 σ12=>
 aggK r10.1.1 4 fun cs13=>
 stC σ12 (.ptr l11 0) cs13 fun σ14=>
 cond (!r10.1.2) (
 some (false,σ14))
 (nilck p0 (
 fld p0 0 fun a15=>
 ld σ14 a15 (.V) fun v16=>
 ld σ14 (.ptr l11 0) (.V) fun v17=>
 (S.z43 v16 v17 σ14).bind fun r18=>
 nilck p0 (
 fld p0 0 fun a19=>
 ld r18.2 a19 (.V) fun v20=>
 (S.z42 v20 r18.1 r18.2).bind fun r21=>
 nilck p0 (
 fld p0 0 fun a22=>
 ld r21.2 a22 (.V) fun v23=>
 (S.z39 v23 r18.1 r21.2).bind fun r24=>
 ld r21.2 (.ptr l11 3) (.V) fun v25=>
 (S.z103 p0 v25 r21.2).bind fun r26=>
 (S.z102 p0 r24 r26.2).bind fun r27=>
 nilck p0 (
 fld p0 0 fun a28=>
 ld r27.2 a28 (.V) fun v29=>
 (S.z69 v29 r18.1 r27.2).bind fun r30=>
 (cond r30.1.2 (
 nilck p0 (
 fld p0 4 fun a31=>
 ld r30.2 a31 (.V) fun v32=>
 newK r30.2 2 [(.int .i64 r30.1.1),(.int .i64 r21.1)] fun l33 σ34=>
 appS σ34 2 16 v32 (.sl l33 0 1 none) fun v35 σ36=>
 nilck p0 (
 fld p0 4 fun a37=>
 scal v35 (
 stC σ36 a37 [v35] fun σ38=>
 some ((),σ38)))))
 (some ((),r30.2))).bind fun r39=>
 nilck p0 (
 fld p0 5 fun a40=>
 ld r39.2 a40 (.V) fun v41=>
 scal r18.1 (
 newK r39.2 2 [(.bool false),r18.1] fun l42 σ43=>
 appS σ43 2 32 v41 (.sl l42 0 1 none) fun v44 σ45=>
 nilck p0 (
 fld p0 5 fun a46=>
 scal v44 (
 stC σ45 a46 [v44] fun σ47=>
 nilck p0 (
 fld p0 2 fun a48=>
 ld σ47 a48 (.V) fun v49=>
 (S.z64 v49 σ47).bind fun r50=>
 (cond r50.1 (
 (S.z108 p0 r50.2).bind fun r51=>
 some ((),r51.2))
 (some ((),r50.2))).bind fun r52=>
 some (true,r52.2))))))))))))))))
def W.z106:Spec:=.eff [.B] fun args σ=>packs args [.V,.I .i64] fun x=>S.z106 x.1 x.2 σ
def S.z73(p_:AVal)(l_:Int)(σ:Heap):Option (Bool×Heap):=
 (nilck p_ (
 fld p_ 0 fun a1=>
 ld σ a1 (.V) fun v2=>
 (S.z4 v2 σ).bind fun r3=>
 (S.z53 l_ r3 σ).bind fun r4=>
 cond (!r4) (
 some true)
 (nilck p_ (
 fld p_ 0 fun a5=>
 ld σ a5 (.V) fun v6=>
 (S.z3 v6 l_ σ).bind fun r7=>
 some (r7 != 0))))).bind fun r8=>
 cond r8 (
 some (false,σ))
 (nilck p_ (
 fld p_ 4 fun a9=>
 ld σ a9 (.V) fun v10=>
 nilck p_ (
 fld p_ 3 fun a11=>
 ld σ a11 (.V) fun v12=>
 lenV v12 fun n13=>
 newK σ 1 [(.int .i64 n13)] fun l14 σ15=>
 appS σ15 1 8 v10 (.sl l14 0 1 none) fun v16 σ17=>
 nilck p_ (
 fld p_ 4 fun a18=>
 scal v16 (
 stC σ17 a18 [v16] fun σ19=>
 (S.z92 p_ l_ (-1) σ19).bind fun r20=>
 some (true,r20.2))))))
def W.z73:Spec:=.eff [.B] fun args σ=>packs args [.V,.I .i64] fun x=>S.z73 x.1 x.2 σ
def S.z127.b0(p2:AVal):LT ((Int×Int)) (Unit):=fun x3 σ4=>
 cond (decide (x3.1<x3.2)) (
 ixA σ4 p2 1 x3.2 fun a5=>
 ld σ4 a5 (.I .i64) fun n6=>
 ixA σ4 p2 1 x3.1 fun a7=>
 ld σ4 a7 (.I .i64) fun n8=>
 ixA σ4 p2 1 x3.1 fun a9=>
 stC σ4 a9 [(.int .i64 n6)] fun σ10=>
 ixA σ10 p2 1 x3.2 fun a11=>
 stC σ10 a11 [(.int .i64 n8)] fun σ12=>
 some (.inl ((IntKind.i64.wrap (x3.1+1)),(IntKind.i64.wrap (x3.2-1))),σ12))
 (some (.inr (),σ4))
def S.z127(s_:AVal)(σ:Heap):Option (Unit×Heap):=
 lenV s_ fun n1=>
 (loopW (S.z127.b0 s_) (0,(IntKind.i64.wrap (n1-1))) σ).bind fun r13=>
 some ((),r13.2)
def W.z127:Spec:=.eff [] fun args σ=>packs args [.V] fun x=>S.z127 x σ
def S.z40.b0(p30 p31:AVal)(p32 p33:AVal)(p34:Int)(p35:AVal)(p36:Int):LT (Int) (Unit):=fun x37 σ38=>
 cond (decide (x37<p36)) (
 ixA σ38 p35 1 x37 fun a39=>
 ld σ38 a39 (.I .i64) fun n40=>
 (S.z55 n40 σ38).bind fun r41=>
 mputK σ38 p32 .i64 r41 (.bool true) fun σ42=>
 some (.inl (IntKind.i64.wrap (x37+1)),σ42))
 (some (.inr (),σ38))
def S.z40.b1(p8 p9 p10:AVal):LT ((AVal×Int)) (AVal):=fun x11 σ12=>
 cond (decide (x11.2>=0)) (
 (ixA σ12 p10 1 x11.2 fun a13=>
 ld σ12 a13 (.I .i64) fun n14=>
 (S.z55 n14 σ12).bind fun r15=>
 (mgetZ σ12 p9 .i64 r15 (.bool false) fun x16 b17=>
 asK (.B) x16 fun b18=>
 cond (!b18) (
 some (true,σ12))
 ((S.z77 p8 r15 σ12).bind fun r19=>
 some ((r19==0),σ12))).bind fun r20=>
 cond r20.1 (
 some (x11.1,r20.2))
 ((S.z79 p8 r15 r20.2).bind fun r21=>
 cond (decide (r21<0)) (
 ixA r20.2 p10 1 x11.2 fun a22=>
 ld r20.2 a22 (.I .i64) fun n23=>
 newK r20.2 1 [(.int .i64 n23)] fun l24 σ25=>
 appS σ25 1 8 x11.1 (.sl l24 0 1 none) fun v26 σ27=>
 some (v26,σ27))
 ((S.z72 p8 r21 r20.2).bind fun r28=>
 lenV r28.1 fun n29=>
 (loopW (S.z40.b0 p8 x11.1 p9 p10 x11.2 r28.1 n29) 0 r28.2).bind fun r43=>
 some (x11.1,r43.2)))).bind fun r44=>
 some (.inl (r44.1,(IntKind.i64.wrap (x11.2-1))),r44.2))
 (some (.inr x11.1,σ12))
def S.z40(p0:AVal)(p1:Int)(σ:Heap):Option (AVal×Heap):=
 (S.z82 p0 p1 σ).bind fun r1=>
 cond (r1 != 2) (
 some (.nils,σ))
 (newM σ fun l2 σ3=>
 (S.z55 p1 σ3).bind fun r4=>
 mputK σ3 (.map l2) .i64 r4 (.bool true) fun σ5=>
 (S.z81 p0 σ5).bind fun r6=>
 lenV r6.1 fun n7=>
 (loopW (S.z40.b1 p0 (.map l2) r6.1) (.nils,(IntKind.i64.wrap (n7-1))) r6.2).bind fun r45=>
 (S.z127 r45.1 r45.2).bind fun r46=>
 some (r45.1,r46.2))
def W.z40:Spec:=.eff [.V] fun args σ=>packs args [.V,.I .i64] fun x=>S.z40 x.1 x.2 σ
def S.z101.b0(p2 p3:AVal)(p4:Int):LT (Int) ((Unit⊕(Bool×AVal))):=fun x5 σ6=>
 cond (decide (x5<p4)) (
 ixA σ6 p3 1 x5 fun a7=>
 ld σ6 a7 (.I .i64) fun n8=>
 nilck p2 (
 fld p2 0 fun a9=>
 ld σ6 a9 (.V) fun v10=>
 (S.z82 v10 n8 σ6).bind fun r11=>
 cond (r11==0) (
 nilck p2 (
 fld p2 0 fun a12=>
 ld σ6 a12 (.V) fun v13=>
 (S.z73 v13 n8 σ6).bind fun r14=>
 some (.inr (.inr (true,.nils)),r14.2)))
 (cond (r11==2) (
 nilck p2 (
 fld p2 0 fun a15=>
 ld σ6 a15 (.V) fun v16=>
 (S.z40 v16 n8 σ6).bind fun r17=>
 newK r17.2 1 [(.int .i64 n8)] fun l18 σ19=>
 appS σ19 1 8 r17.1 (.sl l18 0 1 none) fun v20 σ21=>
 some (.inr (.inr (false,v20)),σ21)))
 (some (.inl (IntKind.i64.wrap (x5+1)),σ6)))))
 (some (.inr (.inl ()),σ6))
def S.z101(e_ assume_:AVal)(σ:Heap):Option ((Bool×AVal)×Heap):=
  lenV assume_ fun n1=>
  (loopW (S.z101.b0 e_ assume_ n1) 0 σ).bind fun r22=>
  (match r22.1 with
 | .inl y23=>some ((false,.nils),r22.2)
 | .inr y24=>some ((y24.1,y24.2),r22.2))
def W.z101:Spec:=.eff [.B,.V] fun args σ=>packs args [.V,.V] fun x=>S.z101 x.1 x.2 σ
def S.z26(h_:AVal)(σ:Heap):Option Int:=
 nilck h_ (
 fld h_ 2 fun a1=>
 ld σ a1 (.V) fun v2=>
 lenV v2 fun n3=>
 some n3)
def W.z26:Spec:=.pur [.I .i64] fun args σ=>packs args [.V] fun x=>S.z26 x σ
def S.z66(p_:AVal)(σ:Heap):Option (Int×Heap):=
 nilck p_ (
 fld p_ 4 fun a1=>
 (S.z67 a1 σ).bind fun r2=>
 cond (decide (r2.1<0)) (
 some ((IntKind.i64.wrap ((IntKind.i64.wrap (0-r2.1))-1)),r2.2))
 (some (r2.1,r2.2)))
def W.z66:Spec:=.eff [.I .i64] fun args σ=>packs args [.V] fun x=>S.z66 x σ
def S.z129(p0:AVal)(σ:Heap):=sortS p0 σ
def W.z129:Spec:=.eff [] fun args σ=>packs args [.V] fun x=>sortS x σ
def S.z30.T:FuncId->Option Spec:=(tab 218 W.z129 (tab 217 W.z31 y3p_))
def S.z30(h_:AVal)(σ:Heap):Option (AVal×Heap):=
 scal h_ (
 newK σ 1 [h_] fun l1 σ2=>
 newK σ2 1 [.nils] fun l3 σ4=>
 newK σ4 1 [.nilf] fun l5 σ6=>
 stC σ6 (.ptr l5 0) [(.fn (.func 217) [] [(.ptr l1 0),(.ptr l3 0),(.ptr l5 0)])] fun σ7=>
 ld σ7 (.ptr l5 0) (.V) fun v8=>
 callV S.z30.T v8 [(.int .i64 0)] σ7 fun r9 σ10=>
 ld σ10 (.ptr l3 0) (.V) fun v11=>
 (S.z129 v11 σ10).bind fun r12=>
 ld r12.2 (.ptr l3 0) (.V) fun v13=>
 some (v13,r12.2))
def W.z30:Spec:=.eff [.V] fun args σ=>packs args [.V] fun x=>S.z30 x σ
def S.z35(h_:AVal)(k_:Int)(σ:Heap):Option (Int×Heap):=
 nilck h_ (
 fld h_ 2 fun a1=>
 ld σ a1 (.V) fun v2=>
 ixA σ v2 1 k_ fun a3=>
 ld σ a3 (.I .i64) fun n4=>
 nilck h_ (
 fld h_ 2 fun a5=>
 ld σ a5 (.V) fun v6=>
 lenV v6 fun n7=>
 nilck h_ (
 fld h_ 2 fun a8=>
 ld σ a8 (.V) fun v9=>
 ixA σ v9 1 (IntKind.i64.wrap (n7-1)) fun a10=>
 ld σ a10 (.I .i64) fun n11=>
 nilck h_ (
 fld h_ 2 fun a12=>
 ld σ a12 (.V) fun v13=>
 slS σ 1 v13 0 (some (IntKind.i64.wrap (n7-1))) none fun v14=>
 nilck h_ (
 fld h_ 2 fun a15=>
 scal v14 (
 stC σ a15 [v14] fun σ16=>
 nilck h_ (
 fld h_ 1 fun a17=>
 ld σ16 a17 (.V) fun v18=>
 ixA σ16 v18 1 n4 fun a19=>
 stC σ16 a19 [(.int .i64 0)] fun σ20=>
 (cond (decide (k_<(IntKind.i64.wrap (n7-1)))) (
 (S.z34 h_ k_ n11 σ20).bind fun r21=>
 (S.z36 h_ k_ r21.2).bind fun r22=>
 nilck h_ (
 fld h_ 1 fun a23=>
 ld r22.2 a23 (.V) fun v24=>
 ixA r22.2 v24 1 n11 fun a25=>
 ld r22.2 a25 (.I .i64) fun n26=>
 (S.z32 h_ (IntKind.i64.wrap (n26-1)) r22.2).bind fun r27=>
 some ((),r27.2)))
 (some ((),σ20))).bind fun r28=>
 some (n4,r28.2))))))))
def W.z35:Spec:=.eff [.I .i64] fun args σ=>packs args [.V,.I .i64] fun x=>S.z35 x.1 x.2 σ
def S.z27(h_:AVal)(tie_:Int)(σ:Heap):Option ((Int×Bool)×Heap):=
 nilck h_ (
 fld h_ 2 fun a1=>
 ld σ a1 (.V) fun v2=>
 lenV v2 fun n3=>
 cond (n3==0) (
 some ((0,false),σ))
 (nilck h_ (
 fld h_ 2 fun a4=>
 ld σ a4 (.V) fun v5=>
 ixA σ v5 1 0 fun a6=>
 ld σ a6 (.I .i64) fun n7=>
 (cond (tie_ != 0) (
 (S.z30 h_ σ).bind fun r8=>
 lenV r8.1 fun n9=>
 if n9=0 then none else
 lenV r8.1 fun n10=>
 lenV r8.1 fun n11=>
 if n11=0 then none else
 ixA r8.2 r8.1 1 (Int.tmod (IntKind.i64.wrap ((Int.tmod tie_ n9)+n10)) n11) fun a12=>
 ld r8.2 a12 (.I .i64) fun n13=>
 some (n13,r8.2))
 (some (n7,σ))).bind fun r14=>
 nilck h_ (
 fld h_ 1 fun a15=>
 ld r14.2 a15 (.V) fun v16=>
 ixA r14.2 v16 1 r14.1 fun a17=>
 ld r14.2 a17 (.I .i64) fun n18=>
 (S.z35 h_ (IntKind.i64.wrap (n18-1)) r14.2).bind fun r19=>
 some ((r19.1,true),r19.2)))))
def W.z27:Spec:=.eff [.I .i64,.B] fun args σ=>packs args [.V,.I .i64] fun x=>S.z27 x.1 x.2 σ
def S.z65(p_:AVal)(saved_:Int)(σ:Heap):Option (Bool×Heap):=
  nilck p_ (
  fld p_ 6 fun a1=>
  (S.z67 a1 σ).bind fun r2=>
  ((cond ((Int.tmod (IntKind.i64.wrap ((Int.tmod r2.1 4)+4)) 4)==3) (
  cond (saved_==1) (
  some (.inr (.inr (.inr false))))
  (some (.inl ())))
  (cond ((Int.tmod (IntKind.i64.wrap ((Int.tmod r2.1 4)+4)) 4)==1) (
  some (.inl ()))
  (cond ((Int.tmod (IntKind.i64.wrap ((Int.tmod r2.1 4)+4)) 4)==0) (
  some (.inr (.inr (.inl ()))))
  (some (.inr (.inl ()))))):Option (Unit⊕Unit⊕Unit⊕Bool)).bind fun r3=>
  (match r3 with
 | .inl y4=>some (.inr true)
 | .inr y5=>(match y5 with
 | .inl y6=>some (.inl ())
 | .inr y7=>(match y7 with
 | .inl y8=>some (.inr (saved_==1))
 | .inr y9=>some (.inr y9)))):Option (Unit⊕Bool)).bind fun r10=>
  (match r10 with
 | .inl y11=>some (false,r2.2)
 | .inr y12=>some (y12,r2.2)))
def W.z65:Spec:=.eff [.B] fun args σ=>packs args [.V,.I .i64] fun x=>S.z65 x.1 x.2 σ
def S.z105.b0(p1:AVal):LT (Unit) ((Unit⊕Bool)):=fun x2 σ3=>
 nilck p1 (
 fld p1 1 fun a4=>
 ld σ3 a4 (.V) fun v5=>
 (S.z26 v5 σ3).bind fun r6=>
 cond (decide (r6>0)) (
 nilck p1 (
 fld p1 1 fun a7=>
 ld σ3 a7 (.V) fun v8=>
 nilck p1 (
 fld p1 2 fun a9=>
 ld σ3 a9 (.V) fun v10=>
 (S.z66 v10 σ3).bind fun r11=>
 ld r11.2 a7 (.V) fun v12=>
 chk ((v12:AVal)=v8) (
 (S.z27 v8 r11.1 r11.2).bind fun r13=>
 nilck p1 (
 fld p1 0 fun a14=>
 ld r13.2 a14 (.V) fun v15=>
 (S.z82 v15 r13.1.1 r13.2).bind fun r16=>
 cond (r16 != 0) (
 some (.inl (),r13.2))
 (nilck p1 (
 fld p1 2 fun a17=>
 ld r13.2 a17 (.V) fun v18=>
 nilck p1 (
 fld p1 3 fun a19=>
 ld r13.2 a19 (.V) fun v20=>
 ixA r13.2 v20 1 r13.1.1 fun a21=>
 ld r13.2 a21 (.I .i64) fun n22=>
 (S.z65 v18 n22 r13.2).bind fun r23=>
 cond r23.1 (
 nilck p1 (
 fld p1 0 fun a24=>
 ld r23.2 a24 (.V) fun v25=>
 (S.z73 v25 r13.1.1 r23.2).bind fun r26=>
 some (.inr (.inr r26.1),r26.2)))
 (nilck p1 (
 fld p1 0 fun a27=>
 ld r23.2 a27 (.V) fun v28=>
 (S.z73 v28 (IntKind.i64.wrap (0-r13.1.1)) r23.2).bind fun r29=>
 some (.inr (.inr r29.1),r29.2)))))))))))
 (some (.inr (.inl ()),σ3)))
def S.z105(e_:AVal)(σ:Heap):Option (Bool×Heap):=
  (loopW (S.z105.b0 e_) () σ).bind fun r30=>
  (match r30.1 with
 | .inl y31=>some (false,r30.2)
 | .inr y32=>some (y32,r30.2))
def W.z105:Spec:=.eff [.B] fun args σ=>packs args [.V] fun x=>S.z105 x σ
def S.z107.b0(p7 p8:AVal)(p9:Int):LT (Int) (Unit):=fun x10 σ11=>
 cond (decide (x10<p9)) (
 nilck p7 (
 fld p7 0 fun a12=>
 ld σ11 a12 (.V) fun v13=>
 (S.z82 v13 x10 σ11).bind fun r14=>
 ixA σ11 p8 1 x10 fun a15=>
 stC σ11 a15 [(.bool (r14==1))] fun σ16=>
 some (.inl (IntKind.i64.wrap (x10+1)),σ16)))
 (some (.inr (),σ11))
def S.z107(e_:AVal)(σ:Heap):Option (AVal×Heap):=
 nilck e_ (
 fld e_ 0 fun a1=>
 ld σ a1 (.V) fun v2=>
 (S.z83 v2 σ).bind fun r3=>
 mkS σ 1 1 [(.bool false)] (IntKind.i64.wrap (r3+1)) (IntKind.i64.wrap (r3+1)) fun v4 σ5=>
 lenV v4 fun n6=>
 (loopW (S.z107.b0 e_ v4 n6) 0 σ5).bind fun r17=>
 some (v4,r17.2))
def W.z107:Spec:=.eff [.V] fun args σ=>packs args [.V] fun x=>S.z107 x σ
def S.z99.b0(p11 p12 p13:AVal):LT (Unit) (AVal):=fun x14 σ15=>
 ld σ15 p12 (.V) fun v16=>
 nilck v16 (
 fld v16 0 fun a17=>
 ld σ15 a17 (.V) fun v18=>
 (S.z78 v18 σ15).bind fun r19=>
 cond (decide (r19.1>=0)) (
 ld r19.2 p12 (.V) fun v20=>
 nilck v20 (
 fld v20 0 fun a21=>
 ld r19.2 a21 (.V) fun v22=>
 (S.z76 v22 r19.2).bind fun r23=>
 cond (r23==0) (
 ld r19.2 p12 (.V) fun v24=>
 (S.z104 v24 .nils r19.2).bind fun r25=>
 aggK r25.1 3 fun cs26=>
 stC r25.2 p13 cs26 fun σ27=>
 some (.inr .nili,σ27))
 (ld r19.2 p12 (.V) fun v28=>
 (S.z106 v28 r19.1 r19.2).bind fun r29=>
 cond (!r29.1) (
 ld r29.2 (.ptr 2 0) (.V) fun v30=>
 stC r29.2 p13 [(.bool false),.nils,.nils] fun σ31=>
 ld σ31 (.ptr 2 0) (.V) fun v32=>
 chk ((v32:AVal)=v30) (
 some (.inr v30,σ31)))
 (some (.inl (),r29.2)))))
 (ld r19.2 p12 (.V) fun v33=>
 (S.z101 v33 p11 r19.2).bind fun r34=>
 cond r34.1.1 (
 some (.inl (),r34.2))
 (eqS r34.1.2 .nils fun b35=>
 cond (!b35) (
 ld r34.2 p12 (.V) fun v36=>
 (S.z104 v36 r34.1.2 r34.2).bind fun r37=>
 aggK r37.1 3 fun cs38=>
 stC r37.2 p13 cs38 fun σ39=>
 some (.inr .nili,σ39))
 (ld r34.2 p12 (.V) fun v40=>
 (S.z105 v40 r34.2).bind fun r41=>
 cond (!r41.1) (
 ld r41.2 p12 (.V) fun v42=>
 (S.z107 v42 r41.2).bind fun r43=>
 scal r43.1 (
 stC r43.2 p13 [(.bool true),r43.1,.nils] fun σ44=>
 some (.inr .nili,σ44)))
 (some (.inl (),r41.2))))))
def S.z99(e_ assume_:AVal)(σ:Heap):Option ((AVal×AVal)×Heap):=
 scal e_ (
 newK σ 1 [e_] fun l1 σ2=>
 newK σ2 3 [(.bool false),.nils,.nils] fun l3 σ4=>
 (S.z123 assume_ (.fn (.func 114) [] [(.ptr l1 0)]) σ4).bind fun r5=>
 cond r5.1 (
 ld r5.2 (.ptr 0 0) (.V) fun v6=>
 stC r5.2 (.ptr l3 0) [(.bool false),.nils,.nils] fun σ7=>
 ld σ7 (.ptr 0 0) (.V) fun v8=>
 chk ((v8:AVal)=v6) (
 ldG σ7 (.ptr l3 0) 3 fun g9=>
 some ((g9,v6),σ7)))
 (ld r5.2 (.ptr l1 0) (.V) fun v10=>
 (loopW (S.z99.b0 assume_ (.ptr l1 0) (.ptr l3 0)) () r5.2).bind fun r45=>
 (S.z102 v10 0 r45.2).bind fun r46=>
 ldG r46.2 (.ptr l3 0) 3 fun g47=>
 some ((g47,r45.1),r46.2)))
def W.z99:Spec:=.eff [.V,.V] fun args σ=>packs args [.V,.V] fun x=>S.z99 x.1 x.2 σ
def S.z134.b0(p7 p8:AVal)(p9 p10:AVal)(p11:Int):LT ((AVal×Int)) (AVal):=fun x12 σ13=>
 cond (decide (x12.2<p11)) (
 ixA σ13 p10 1 x12.2 fun a14=>
 ld σ13 a14 (.V) fun v15=>
 ldG σ13 p8 5 fun g16=>
 ldG σ13 p8 5 fun g17=>
 (S.z8 p9 g17 v15 σ13).bind fun r18=>
 ldG r18.2 p8 5 fun g19=>
 chk ((g19:AVal)=g16) (
 (S.z9 g16 r18.1 r18.2).bind fun r20=>
 newK r20.2 1 [(.int .i64 r20.1)] fun l21 σ22=>
 appS σ22 1 8 x12.1 (.sl l21 0 1 none) fun v23 σ24=>
 some (.inl (v23,(IntKind.i64.wrap (x12.2+1))),σ24)))
 (some (.inr x12.1,σ13))
def S.z134.b1(p42 p43:AVal)(p44:Int):LT (Int) (Unit):=fun x45 σ46=>
 cond (decide (x45<p44)) (
 ixA σ46 p43 1 x45 fun a47=>
 ld σ46 a47 (.V) fun v48=>
 (S.z96 p42 v48 σ46).bind fun r49=>
 some (.inl (IntKind.i64.wrap (x45+1)),r49.2))
 (some (.inr (),σ46))
def S.z134(p0 p1 p2:AVal)(σ:Heap):Option ((Bool×AVal)×Heap):=
 aggK p0 5 fun cs1=>
 newK σ 5 cs1 fun l2 σ3=>
 ld σ3 (.ptr l2 1) (.I .i64) fun n4=>
 (S.z20 n4 σ3).bind fun r5=>
 lenV p2 fun n6=>
 (loopW (S.z134.b0 p1 (.ptr l2 0) r5.1 p2 n6) (.nils,0) r5.2).bind fun r25=>
 (S.z16 r5.1 r25.2).bind fun r26=>
 eqI (tiOf Tryz.prog) r25.2 true r26 .nili fun b27=>
 cond (!b27) (
 some ((false,r26),r25.2))
 ((S.z15 r5.1 .nils r25.2).bind fun r28=>
 (S.z136 r28.1 r25.1 r28.2).bind fun r29=>
 newK r29.2 2 [(.int .i64 0),.nils] fun l30 σ31=>
 aggK r29.1.1 2 fun cs32=>
 stC σ31 (.ptr l30 0) cs32 fun σ33=>
 eqI (tiOf Tryz.prog) σ33 true r29.1.2 .nili fun b34=>
 cond (!b34) (
 some ((false,r29.1.2),σ33))
 (ldG σ33 (.ptr l30 0) 2 fun g35=>
 (S.z51 g35 σ33).bind fun r36=>
 eqI (tiOf Tryz.prog) r36.2 true r36.1 .nili fun b37=>
 cond (!b37) (
 some ((false,r36.1),r36.2))
 (ld r36.2 (.ptr l30 0) (.I .i64) fun n38=>
 (S.z109 n38 p1 r36.2).bind fun r39=>
 ld r39.2 (.ptr l30 1) (.V) fun v40=>
 lenV v40 fun n41=>
 (loopW (S.z134.b1 r39.1 v40 n41) 0 r39.2).bind fun r50=>
 (S.z99 r39.1 .nils r50.2).bind fun r51=>
 newK r51.2 3 [(.bool false),.nils,.nils] fun l52 σ53=>
 aggK r51.1.1 3 fun cs54=>
 stC σ53 (.ptr l52 0) cs54 fun σ55=>
 (ld σ55 (.ptr l52 0) (.B) fun b56=>
 cond (!b56) (
 eqI (tiOf Tryz.prog) σ55 true r51.1.2 .nili fun b57=>
 some (b57,r51.1.2))
 (some (false,r51.1.2))).bind fun r58=>
 some ((r58.1,r58.2),σ55))))
def W.z134:Spec:=.eff [.B,.V] fun args σ=>packs args [.V,.V,.V] fun x=>S.z134 x.1 x.2.1 x.2.2 σ
def S.z130(m_ s_ moves_:AVal)(σ:Heap):Option ((Bool×AVal)×Heap):=
 aggK m_ 5 fun cs1=>
 newK σ 5 cs1 fun l2 σ3=>
 aggK s_ 6 fun cs4=>
 newK σ3 6 cs4 fun l5 σ6=>
 ldG σ6 (.ptr l2 0) 5 fun g7=>
 (S.z133 g7 moves_ σ6).bind fun r8=>
 eqI (tiOf Tryz.prog) r8.2 true r8.1 .nili fun b9=>
 cond (!b9) (
 some ((false,r8.1),r8.2))
 (ldG r8.2 (.ptr l2 0) 5 fun g10=>
 ldG r8.2 (.ptr l5 0) 6 fun g11=>
 (S.z60 g11 r8.2).bind fun r12=>
 ldG r12.2 (.ptr l2 0) 5 fun g13=>
 chk ((g13:AVal)=g10) (
 (S.z134 g10 r12.1 moves_ r12.2).bind fun r14=>
 some ((r14.1.1,r14.1.2),r14.2)))
def W.z130:Spec:=.eff [.B,.V] fun args σ=>packs args [.V,.V,.V] fun x=>S.z130 x.1 x.2.1 x.2.2 σ
def S.z119(s_:AVal)(σ:Heap):Option (AVal×Heap):=
 eqS s_ .nils fun b1=>
 cond b1 (
 some (.nils,σ))
 (newK σ 1 [] fun l2 σ3=>
 appS σ3 1 1 (.sl l2 0 0 none) s_ fun v4 σ5=>
 some (v4,σ5))
def W.z119:Spec:=.eff [.V] fun args σ=>packs args [.V] fun x=>S.z119 x σ
def S.z131.b0(p2:AVal)(p3:Int):LT ((AVal×Int)) (AVal):=fun x4 σ5=>
 cond (decide (x4.2<p3)) (
 (ixA σ5 p2 1 x4.2 fun a6=>
 ld σ5 a6 (.V) fun v7=>
 newK σ5 1 [.nils] fun l8 σ9=>
 scal v7 (
 stC σ9 (.ptr l8 0) [v7] fun σ10=>
 (S.z122 x4.1 (.fn (.func 31) [] [(.ptr l8 0)]) σ10).bind fun r11=>
 cond (!r11.1) (
 ld r11.2 (.ptr l8 0) (.V) fun v12=>
 (S.z119 v12 r11.2).bind fun r13=>
 scal r13.1 (
 newK r13.2 1 [r13.1] fun l14 σ15=>
 appS σ15 1 24 x4.1 (.sl l14 0 1 none) fun v16 σ17=>
 some (v16,σ17)))
 (some (x4.1,r11.2)))).bind fun r18=>
 some (.inl (r18.1,(IntKind.i64.wrap (x4.2+1))),r18.2))
 (some (.inr x4.1,σ5))
def S.z131(moves_:AVal)(σ:Heap):Option (AVal×Heap):=
 lenV moves_ fun n1=>
 (loopW (S.z131.b0 moves_ n1) (.nils,0) σ).bind fun r19=>
 some (r19.1,r19.2)
def W.z131:Spec:=.eff [.V] fun args σ=>packs args [.V] fun x=>S.z131 x σ
def S.z111(σ:Heap):Option (Bool×Heap):=
 newK σ 1 [(.int .i64 0)] fun l1 σ2=>
 newK σ2 1 [] fun l3 σ4=>
 newK σ4 1 [(.sl l3 0 0 none)] fun l5 σ6=>
 (S.z130 (.agg [(.bool true),(.int .i64 0),(.int .i64 0),.nils,(.sl l1 0 1 none)]) (.agg [.nils,.nils,.nils,.nils,(.int .i64 0),(.int .i64 0)]) (.sl l5 0 1 none) σ6).bind fun r7=>
 newK r7.2 1 [(.bool true)] fun l8 σ9=>
 newK σ9 1 [(.bool true)] fun l10 σ11=>
 newK σ11 1 [(.sl l8 0 1 none),(.sl l10 0 1 none)] fun l12 σ13=>
 (S.z131 (.sl l12 0 2 none) σ13).bind fun r14=>
 (cond r7.1.1 (
 eqI (tiOf Tryz.prog) r14.2 true r7.1.2 .nili fun b15=>
 cond b15 (
 lenV r14.1 fun n16=>
 some (n16==1))
 (some false))
 (some false)).bind fun r17=>
 some (r17,r14.2)
def W.z111:Spec:=.eff [.B] fun args σ=>packs args [] fun x=>S.z111 σ
def S.z116(n_ below_:Int)(σ:Heap):Option Int:=
 if below_=0 then none else
 (cond (decide ((Int.tmod n_ below_)<0)) (
 some (IntKind.i64.wrap ((Int.tmod n_ below_)+below_)))
 (some (Int.tmod n_ below_))).bind fun r1=>
 some r1
def W.z116:Spec:=.pur [.I .i64] fun args σ=>packs args [.I .i64,.I .i64] fun x=>S.z116 x.1 x.2 σ
def S.z113.b0(p1 p2:Int):LT ((AVal×Int)) (AVal):=fun x3 σ4=>
 cond (decide (x3.2<p2)) (
 if(IntKind.u64.wrap (Int.tmod x3.2 60))<0 then none else
 newK σ4 1 [(.bool ((IntKind.i64.wrap (BitVec.toNat (BitVec.ofInt IntKind.i64.bits (Int.fdiv p1 (2 ^ (min (Int.toNat (IntKind.u64.wrap (Int.tmod x3.2 60))) IntKind.i64.bits))) &&& BitVec.ofInt IntKind.i64.bits 1)))==1))] fun l5 σ6=>
 appS σ6 1 1 x3.1 (.sl l5 0 1 none) fun v7 σ8=>
 some (.inl (v7,(IntKind.i64.wrap (x3.2+1))),σ8))
 (some (.inr x3.1,σ4))
def S.z113(n_ many_:Int)(σ:Heap):Option (AVal×Heap):=
 (loopW (S.z113.b0 n_ many_) (.nils,0) σ).bind fun r9=>
 some (r9.1,r9.2)
def W.z113:Spec:=.eff [.V] fun args σ=>packs args [.I .i64,.I .i64] fun x=>S.z113 x.1 x.2 σ
def S.z112.b0(p1:AVal)(p2:Int):LT ((AVal×Int)) (AVal):=fun x3 σ4=>
 lenV p1 fun n5=>
 cond (decide (x3.2<n5)) (
 ixA σ4 p1 1 x3.2 fun a6=>
 ld σ4 a6 (.I .i64) fun n7=>
 (S.z113 n7 p2 σ4).bind fun r8=>
 scal r8.1 (
 newK r8.2 1 [r8.1] fun l9 σ10=>
 appS σ10 1 24 x3.1 (.sl l9 0 1 none) fun v11 σ12=>
 some (.inl (v11,(IntKind.i64.wrap (x3.2+1))),σ12)))
 (some (.inr x3.1,σ4))
def S.z112(l_:AVal)(many_:Int)(σ:Heap):Option (AVal×Heap):=
 (loopW (S.z112.b0 l_ many_) (.nils,0) σ).bind fun r13=>
 some (r13.1,r13.2)
def W.z112:Spec:=.eff [.V] fun args σ=>packs args [.V,.I .i64] fun x=>S.z112 x.1 x.2 σ
def S.z114.b0(p3 p4:AVal)(σ0:Heap):Int->Option (Int⊕(Unit⊕Bool)):=fun x5=>
 lenV p3 fun n7=>
 cond (decide (x5<n7)) (
 ixA σ0 p3 1 x5 fun a8=>
 ld σ0 a8 (.B) fun b9=>
 ixA σ0 p4 1 x5 fun a10=>
 ld σ0 a10 (.B) fun b11=>
 cond (!(b9==b11)) (
 some (.inr (.inr false)))
 (some (.inl (IntKind.i64.wrap (x5+1)))))
 (some (.inr (.inl ())))
def S.z114(a_ b_:AVal)(σ:Heap):Option Bool:=
  lenV a_ fun n1=>
  lenV b_ fun n2=>
  cond (n1 != n2) (
  some false)
  ((loopP (S.z114.b0 a_ b_ σ) 0).bind fun r12=>
  (match r12 with
 | .inl y13=>some true
 | .inr y14=>some y14))
def W.z114:Spec:=.pur [.B] fun args σ=>packs args [.V,.V] fun x=>S.z114 x.1 x.2 σ
def S.z115.b0(p3 p4:AVal)(σ0:Heap):Int->Option (Int⊕(Unit⊕Bool)):=fun x5=>
 lenV p3 fun n7=>
 cond (decide (x5<n7)) (
 ixA σ0 p3 1 x5 fun a8=>
 ld σ0 a8 (.V) fun v9=>
 ixA σ0 p4 1 x5 fun a10=>
 ld σ0 a10 (.V) fun v11=>
 (S.z114 v9 v11 σ0).bind fun r12=>
 cond (!r12) (
 some (.inr (.inr false)))
 (some (.inl (IntKind.i64.wrap (x5+1)))))
 (some (.inr (.inl ())))
def S.z115(a_ b_:AVal)(σ:Heap):Option Bool:=
  lenV a_ fun n1=>
  lenV b_ fun n2=>
  cond (n1 != n2) (
  some false)
  ((loopP (S.z115.b0 a_ b_ σ) 0).bind fun r13=>
  (match r13 with
 | .inl y14=>some true
 | .inr y15=>some y15))
def W.z115:Spec:=.pur [.B] fun args σ=>packs args [.V,.V] fun x=>S.z115 x.1 x.2 σ
def S.z110.b0(p12:Bool)(p13 p14 p15:AVal)(p16:Int)(σ0:Heap):(Bool×Int)->Option ((Bool×Int)⊕Bool):=fun x17=>
 lenV p15 fun n19=>
 cond (decide (x17.2<n19)) (
 (cond x17.1 (
 some true)
 (ixA σ0 p15 1 x17.2 fun a20=>
 ld σ0 a20 (.V) fun v21=>
 ixA σ0 p13 1 p16 fun a22=>
 ld σ0 a22 (.V) fun v23=>
 (S.z114 v21 v23 σ0).bind fun r24=>
 some r24)).bind fun r25=>
 some (.inl (r25,(IntKind.i64.wrap (x17.2+1)))))
 (some (.inr x17.1))
def S.z110.b1(p6:Bool)(p7 p8:AVal):LT ((AVal×Int)) (AVal):=fun x9 σ10=>
 lenV p7 fun n11=>
 cond (decide (x9.2<n11)) (
 ((loopP (S.z110.b0 p6 p7 p8 x9.1 x9.2 σ10) (false,0)).bind fun r26=>
 cond (!r26) (
 ixA σ10 p7 1 x9.2 fun a27=>
 ld σ10 a27 (.V) fun v28=>
 scal v28 (
 newK σ10 1 [v28] fun l29 σ30=>
 appS σ30 1 24 x9.1 (.sl l29 0 1 none) fun v31 σ32=>
 some (v31,σ32)))
 (some (x9.1,σ10))).bind fun r33=>
 some (.inl (r33.1,(IntKind.i64.wrap (x9.2+1))),r33.2))
 (some (.inr x9.1,σ10))
def S.z110(p0:AVal)(p1:Int)(σ:Heap):Option (Bool×Heap):=
 (S.z111 σ).bind fun r1=>
 cond (!r1.1) (
 some (false,r1.2))
 (lenV p0 fun n2=>
 cond (decide (n2>20)) (
 some (r1.1,r1.2))
 ((S.z116 p1 5 r1.2).bind fun r3=>
 (S.z112 p0 r3 r1.2).bind fun r4=>
 (S.z131 r4.1 r4.2).bind fun r5=>
 (loopW (S.z110.b1 r1.1 r4.1 r5.1) (.nils,0) r5.2).bind fun r34=>
 (cond r1.1 (
 (S.z115 r5.1 r34.1 r34.2).bind fun r35=>
 some r35)
 (some false)).bind fun r36=>
 some (r36,r34.2)))
def W.z110:Spec:=.eff [.B] fun args σ=>packs args [.V,.I .i64] fun x=>S.z110 x.1 x.2 σ
end
end Go.Proofs.YtekehmgfedmflaaGreatDoor.A
end
