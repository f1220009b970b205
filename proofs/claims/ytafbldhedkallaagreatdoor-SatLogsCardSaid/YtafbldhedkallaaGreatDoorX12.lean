/- Parts of the proof, one behind another. -/
import Derived.Test.YtafbldhedkallaaGreatDoorX11
set_option linter.all false
noncomputable section
namespace Go.Proofs.YtafbldhedkallaaGreatDoor.A
section
open Go
theorem yv_(f:Flt):(yw_ f).length=3:=by
 match f with
 |none=>rfl
 |some (e,none)=>rfl
 |some (e,some p)=>rfl
section
variable{σ:Heap}{vars:Int}{cs:List (List Int)}{ss:List (Bool×List Int)}{x y:AVal}{bl:Bool}
def RunR(σ:Heap)(bl:Bool)(vars:Int)(cs:List (List Int))(ss:List (Bool×List Int))(r:(AVal×AVal)×Heap):Prop:=(∃f,preF vars cs ss=some f/\r.1.2=.agg (yw_ (some f)))\/(preF vars cs ss=none/\((∃k:Nat,runD bl (yb_ vars ss) 0 (cs.map normL) ss=.inl k/\r.1.2=.agg (yw_ (some (.proof,some (k:Int))))) \/
 ∃D,runD bl (yb_ vars ss) 0 (cs.map normL) ss=.inr D/\r.1.2=.agg (yw_ none)/\((yb_ vars ss).toNat:Int)=yb_ vars ss/\yb_ vars ss<=4000/\∃l T C,r.1.1=.ptr l 0/\Tn r.2 T/\RB r.2 T l (yb_ vars ss).toNat C/\C.map normL=D/\Hle σ (r.2.at T 0)))
theorem ygt_(hx:SlV vIs σ cs x)(hy:SlV vB σ ss y)(h1:cs.flatten.length<=1000000000)(h2:cs.length<=1000000000)(h3:(yk_ ss).flatten.length<=1000000000)(h4:ss.length<=700000) :
  W (S.z135 (.agg [.int .i64 vars,x]) y bl σ) fun r=>Hle σ r.2/\RunR σ bl vars cs ss r:=by
 have hn:Tn σ Tz:=Tn.tz;have hx:SlV vIs (σ.at Tz 0) cs x:=by rw[at_tz];exact hx
 have hy:SlV vB (σ.at Tz 0) ss y:=by rw[at_tz];exact hy
 have HH:Hop stI σ Tz σ Tz:=Hop.refl hn;unfold S.z135
 repeat' (with_reducible refine W.e3 ?_)
 refine W.new0 hn fun l2 τ1 _ L1 hb2 _=>?_;replace hx:=hx.hle L1;replace hy:=hy.hle L1;replace HH:=HH.hle L1;replace hn:=hn.mono L1;refine W.newT 14 hn fun l4 τ2 T2 hl4 H2 hb4 hnτ2=>?_;replace hx:=hx.hop H2;replace hy:=hy.hop H2;replace HH:=HH.hop H2;replace hb2:=hb2.hop H2;replace hn:=H2.tn
 repeat' with_reducible first|refine W.bind ?_|refine W.u1 ?_
 refine W.mono (yas_ (vars:=vars) hx.up h1 h2) fun r hr=>?_;obtain⟨v3,τ3⟩:=r;obtain⟨e3,L3⟩:=hr;dsimp only at e3 L3⊢;subst e3;replace hx:=hx.hle L3;replace hy:=hy.hle L3;replace HH:=HH.hle L3;replace hb2:=hb2.hle L3;replace hb4:=hb4.hle L3;replace hn:=hn.mono L3;refine W.newT 15 hn fun l8 τ4 T4 hl8 H4 hb8 hnτ4=>?_;replace hx:=hx.hop H4;replace hy:=hy.hop H4;replace HH:=HH.hop H4;replace hb2:=hb2.hop H4;replace hb4:=hb4.hop H4;replace hn:=H4.tn;refine W.aggK (yv_ _) ?_;refine W.st0T hb8 hn (by rw[yv_];rfl) fun τ5 H5 hb8 hn5=>?_;replace hx:=hx.hop H5;replace hy:=hy.hop H5;replace HH:=HH.hop H5;replace hb2:=hb2.hop H5;replace hb4:=hb4.hop H5;replace hn:=H5.tn;have errEnd:∀(τ:Heap) (f:Er×Option Int),Hop stI σ Tz τ T4->Loc (τ.at T4 14) l4 [.int .i64 0,.bool false,.int .i64 0]->Loc (τ.at T4 15) l8 (yw_ (some f))->preF vars cs ss=some f->∀(X:Option ((AVal×AVal)×Heap)),W (ld τ (.ptr l8 0) (.I .i64) fun n17=>cond (n17 != 0) (ldG τ (.ptr l8 0) 3 fun g18=>aggK g18 3 fun cs19=>stC τ (.ptr l4 0) cs19 fun σ20=>ldG σ20 (.ptr l4 0) 3 fun g21=>some ((AVal.nilp,g21),σ20)) X) fun r=>Hle σ r.2/\RunR σ bl vars cs ss r:=fun τ f HH hb4 hb8 hp X=>by
  obtain⟨a,p,u,e,ha⟩:=y4r_ f;rw[e]at hb8;have hn:=HH.tn
  repeat' with_reducible first|refine W.asI ?_|refine W.u0 ?_
  refine W.condT (by simpa using ha) ?_
  repeat' with_reducible first|refine W.e3 ?_|refine W.u1 ?_
  refine W.stT hb4 hn (Nat.le_of_ble_eq_true (by rfl)) fun τ6 H6 hb4 hnτ6=>?_;replace HH:=HH.hop H6
  repeat' with_reducible first|refine W.ret ?_|refine W.u1 ?_
  exact⟨y25_ HH,.inl ⟨f,hp,by rw[e];rfl⟩⟩
 cases hC:chkC vars cs with
 |some f=>
  rw[hC]at hb8;have hp:preF vars cs ss=some f:=by unfold preF;rw[hC]
  have hb8':=hb8;obtain⟨a,p,u,e,ha⟩:=y4r_ f;rw[e]at hb8'
  repeat' with_reducible first|refine W.bind ?_|refine W.asI ?_|refine W.u0 ?_
  refine W.condF (by simpa using ha) ?_;refine W.ret ?_;exact errEnd τ5 f HH hb4 hb8 hp _
 | none=>
  rw[hC]at hb8;have hb8':Loc (τ5.at T4 15) l8 [.int .i64 0,.bool false,.int .i64 0]:=hb8
  repeat' with_reducible first|refine W.bind ?_|refine W.asI ?_|refine W.u0 ?_
  refine W.condT rfl ?_
  repeat' (with_reducible refine W.bind ?_)
  refine W.mono (yc7_ hy.up h3 (by omega)) fun r hr=>?_;obtain⟨v6,τ6⟩:=r;obtain⟨e6,L6⟩:=hr;dsimp only at e6 L6⊢;subst e6;replace hx:=hx.hle L6;replace hy:=hy.hle L6;replace HH:=HH.hle L6;replace hb2:=hb2.hle L6;replace hb4:=hb4.hle L6;replace hb8:=hb8.hle L6;replace hn:=hn.mono L6;refine W.aggK (yv_ _) ?_;refine W.st0T hb8 hn (by rw[yv_];rfl) fun τ7 H7 hb8 hn7=>?_;replace hx:=hx.hop H7;replace hy:=hy.hop H7;replace HH:=HH.hop H7;replace hb2:=hb2.hop H7;replace hb4:=hb4.hop H7;replace hn:=H7.tn;refine W.ret ?_;cases hP:chkP ss with
  |some f=>
   rw[hP]at hb8;exact errEnd τ7 f HH hb4 hb8 (by unfold preF;rw[hC];exact hP) _
  | none=>
   rw[hP]at hb8;have hb8:Loc (τ7.at T4 15) l8 [.int .i64 0,.bool false,.int .i64 0]:=hb8;have hp:preF vars cs ss=none:=by unfold preF;rw[hC];exact hP
   obtain⟨g1,g2,g3,g4⟩:=ycj_ hC hP;obtain⟨c1,c2,c3,c4,c5⟩:=y66_ hC;obtain⟨p1,p2⟩:=ya9_ hP
   repeat' with_reducible first|refine W.asI ?_|refine W.u0 ?_
   refine W.condF rfl ?_
   repeat' with_reducible first|refine W.bind ?_|refine W.u1 ?_
   refine W.mono (yaq_ (vars:=vars) hy.up (fun s hs=>⟨by have:=y5b_ hs;omega,fun x hx=>by have:=p2 s hs x hx;omega⟩) (by omega)) fun r hr=>?_;obtain⟨v8,τ8⟩:=r;obtain⟨e8,L8⟩:=hr;dsimp only at e8 L8⊢;subst e8;have hb2o:=hb2;replace hx:=hx.hle L8;replace hy:=hy.hle L8;replace HH:=HH.hle L8;replace hb2:=hb2.hle L8;replace hb4:=hb4.hle L8;replace hn:=hn.mono L8;obtain⟨ws,hws,hwl,hwc⟩:=yet_ hx;have hA:AllV τ8 T4 cs ws:=⟨hwl,hwc⟩;have hn8:=hn
   repeat' with_reducible first|refine W.bind ?_|refine W.asV ?_|refine W.chk rfl ?_|refine W.u0 ?_
   refine W.mono (y4c_ hws.up (by omega) hA.scal) fun r hr=>?_;obtain⟨z,τ9⟩:=r;obtain⟨L9,hZ⟩:=hr;dsimp only at L9 hZ⊢;have hZ0:=hZ.at0F (T:=T4) y3i_ fun k hk=>hn8.z k hk;replace hy:=hy.hle L9;replace HH:=HH.hle L9;replace hb4:=hb4.hle L9;replace hA:=hA.hle L9;replace hn:=hn.mono L9;refine W.scalS hZ0.up ?_;refine W.newT 1 hn fun l27 τ10 T10 hl27 H10 hb27 hnτ10=>?_;replace hy:=hy.hop H10;replace HH:=HH.hop H10;replace hb4:=hb4.hop H10;replace hA:=hA.hop H10;replace hZ0:=hZ0.hop H10;replace hn:=H10.tn;rw[<-g1]at hb27;have hB:RB τ10 T10 l27 (yb_ vars ss).toNat cs:=⟨⟨_,ws,hb27,hZ0,hA⟩,fun c hc k hk=>by have:=c5 c hc k hk;omega,by omega,by omega,fun c hc=>by have:=y49_ hc;omega⟩;refine W.bind ?_;refine W.mono (yb0_ (bl:=bl) hB hn hb4 rfl hy (fun s hs=>⟨by have:=y5b_ hs;omega,by
    rw[List.all_eq_true];intro k hk;have:=p2 s hs k hk;simp[inB];omega⟩) (by omega)) fun r hr=>?_
   obtain⟨r,τ11⟩:=r;obtain⟨H11,hr⟩:=hr;dsimp only at H11 hr⊢;replace HH:=HH.hop H11;rw[g1]at hr;cases hrun:runD bl (yb_ vars ss) 0 (cs.map normL) ss with
   |inl k=>
    rw[hrun]at hr;obtain⟨rfl,hb4⟩:=hr;have hb4:Loc (τ11.at T10 14) l4 [.int .i64 106,.bool true,.int .i64 k]:=hb4
    repeat' with_reducible first|refine W.ret ?_|refine W.u1 ?_
    exact⟨y25_ HH,.inr ⟨hp,.inl ⟨k,hrun,rfl⟩⟩⟩
   |inr D=>
    rw[hrun]at hr;obtain⟨rfl,hb4,C',hB,hD⟩:=hr;replace hn:=H11.tn
    repeat' (with_reducible refine W.bind ?_)
    refine W.mono ybr_ fun r hr=>?_;obtain⟨v12,τ12⟩:=r;obtain⟨e12,L12⟩:=hr;dsimp only at e12 L12⊢;subst e12;replace hB:=hB.hle L12;replace hb4:=hb4.hle L12;replace HH:=HH.hle L12;replace hn:=hn.mono L12
    repeat' (with_reducible refine W.e3 ?_)
    refine W.stT hb4 hn (Nat.le_of_ble_eq_true (by rfl)) fun τ13 H13 hb4 hnτ13=>?_;replace hB:=hB.hop H13;replace HH:=HH.hop H13
    repeat' with_reducible first|refine W.ret ?_|refine W.u1 ?_
    exact⟨y25_ HH,.inr ⟨hp,.inr ⟨D,hrun,rfl,g1,g2,l27,T10,C',rfl,HH.tn,hB,hD,by have h:=HH.le (j:=0) rfl;rw[at_tz]at h;exact h⟩⟩⟩
theorem ycf_(hx:SlV vIs σ cs x)(hy:SlV vB σ ss y)(h1:cs.flatten.length<=1000000000)(h2:cs.length<=1000000000)(h3:(yk_ ss).flatten.length<=1000000000)(h4:ss.length<=700000) :
  W (S.z133 (.agg [.int .i64 vars,x]) y σ) fun r=>Hle σ r.2/\r.1=.agg (yw_ (y20_ vars cs ss)):=by
 unfold S.z133
 repeat' (with_reducible refine W.e3 ?_)
 refine W.new fun l2 τ1 hl2 L1 hb2 hnτ1=>?_;refine W.new fun l4 τ2 hl4 L2 hb4 hnτ2=>?_;replace hb2:=hb2.mono L2;have hnx:=L2.next;have LL:=L1.trans L2;replace hx:=hx.mono LL;replace hy:=hy.mono LL;have hnx:=LL.next;have hl4lt:σ.next<=l4:=by have:=L1.next;omega
 repeat' with_reducible first|refine W.bind ?_|refine W.e1 ?_
 refine W.mono (ygt_ (vars:=vars) (bl:=true) hx hy h1 h2 h3 h4) fun r hr=>?_;obtain⟨⟨vb,vf⟩,τ3⟩:=r;obtain⟨L3,hr⟩:=hr;dsimp only at L3 hr⊢;replace hb4:=hb4.mono L3;have hnx:=L3.next;replace LL:=LL.trans L3;have fin:∀(τ:Heap) (f:Flt) (l8:Nat),l8≠l4->Hle σ τ->Loc τ l4 [.int .i64 0,.bool false,.int .i64 0]->Loc τ l8 (yw_ f)->W (ldG τ (.ptr l8 0) 3 fun g19=>aggK g19 3 fun cs20=>stC τ (.ptr l4 0) cs20 fun σ21=>ldG σ21 (.ptr l4 0) 3 fun g22=>some (g22,σ21)) fun r=>Hle σ r.2/\r.1=.agg (yw_ f):=fun τ f l8 hne LL hb4 hb8=>by
  obtain⟨a,p,u,e⟩:=ygb_ f;rw[e]at hb8⊢
  repeat' with_reducible first|refine W.e3 ?_|refine W.e1 ?_
  refine W.st0 hb4 (by rfl) fun τ' L' hnτ' hb4=>?_
  repeat' with_reducible first|refine W.ret ?_|refine W.e1 ?_
  exact⟨LL.ofk hl4lt L',rfl⟩
 refine W.new fun l8 τ4 hl8 L4 hb8 hnτ4=>?_;have hl8:τ3.next=l8:=by omega
 rcases hr with ⟨f,hp,e⟩|⟨hp,⟨k,hrun,e⟩|⟨D,hrun,e,g1,g2,l,T,C,e2,hn,hB,hD,_⟩⟩
 ·dsimp only at e
  subst e;have hrf:y20_ vars cs ss=some f:=by unfold y20_;rw[hp]
  rw[hrf];refine W.aggK (yv_ _) ?_;refine W.st0 hb8 (by rw[yv_];rfl) fun τ5 L5 hn5 hb8=>?_;have L45:=L4.ofk (by omega) L5;replace hb4:=hb4.mono L45;have hnx:=L45.next;obtain⟨a,p,u,ef,ha⟩:=y4r_ f;have hb8':=hb8;rw[ef]at hb8'
  repeat' with_reducible first|refine W.bind ?_|refine W.asI ?_|refine W.e0 ?_
  refine W.condF (by simpa using ha) ?_
  repeat' with_reducible first|refine W.ret ?_|refine W.bind ?_
  refine W.condF rfl ?_;refine W.ret ?_;exact fin τ5 (some f) l8 (by have:=hb4.lt;omega) (LL.trans L45) hb4 hb8
 ·dsimp only at e
  subst e;have hrf:y20_ vars cs ss=some (.proof,some (k:Int)):=by unfold y20_;rw[hp];dsimp only;rw[hrun]
  rw[hrf];refine W.aggK (yv_ _) ?_;refine W.st0 hb8 (by rw[yv_];rfl) fun τ5 L5 hn5 hb8=>?_;have L45:=L4.ofk (by omega) L5;replace hb4:=hb4.mono L45;have hnx:=L45.next;have hb8':Loc τ5 l8 [.int .i64 106,.bool true,.int .i64 k]:=hb8
  repeat' with_reducible first|refine W.bind ?_|refine W.asI ?_|refine W.e0 ?_
  refine W.condF rfl ?_
  repeat' with_reducible first|refine W.ret ?_|refine W.bind ?_
  refine W.condF rfl ?_;refine W.ret ?_;exact fin τ5 _ l8 (by have:=hb4.lt;omega) (LL.trans L45) hb4 hb8
 ·dsimp only at e e2
  subst e e2;refine W.aggK (yv_ _) ?_;refine W.st0 hb8 (by rw[yv_];rfl) fun τ5 L5 hn5 hb8=>?_;have L45:=L4.ofk (by omega) L5;have hne:l8≠l4:=by have:=hb4.lt;omega
  replace hb4:=hb4.mono L45;have hnx:=L45.next;have hb8:Loc τ5 l8 [.int .i64 0,.bool false,.int .i64 0]:=hb8;have hB5:=hB.hle L45
  repeat' with_reducible first|refine W.bind ?_|refine W.asI ?_|refine W.e0 ?_
  refine W.condT rfl ?_
  repeat' (with_reducible refine W.bind ?_)
  refine W.mono (y1u_ hB5 (SlV.nil _ _) (by simp)) fun r hr=>?_;obtain⟨b,τ6⟩:=r;obtain⟨hb,L6⟩:=hr;dsimp only at hb L6⊢;rw[hD,g1]at hb;subst hb;replace hb4:=hb4.mono L6;replace hb8:=hb8.mono L6;have hnx:=L6.next;have hrf:y20_ vars cs ss=bif impl (yb_ vars ss) D []then none else some (.proof,none):=by unfold y20_;rw[hp];dsimp only;rw[hrun]
  rw[hrf];replace LL:=(LL.trans L45).trans L6
  repeat' with_reducible first|refine W.ret ?_|refine W.bind ?_
  (with_reducible refine W.cnd (fun hq=>?_) (fun hq=>?_)<;>(try simp only[qq,Kd.ty]at hq)<;>(try (exfalso;omega)))
  ·repeat' (with_reducible refine W.bind ?_)
   refine W.mono ybj_ fun r hr=>?_;obtain⟨v7,τ7⟩:=r;obtain⟨e7,L7⟩:=hr;dsimp only at e7 L7⊢;subst e7;replace hb4:=hb4.mono L7;replace hb8:=hb8.mono L7;have hnx:=L7.next;replace LL:=LL.trans L7
   repeat' (with_reducible refine W.e3 ?_)
   refine W.st0 hb8 (by rfl) fun τ8 L8 hnτ8 hb8=>?_;have hb4:=(hb4.kill (fun e=>hne e.symm)).mono L8
   repeat' with_reducible first|refine W.ret ?_|refine W.e3 ?_|refine W.e1 ?_
   rw[hq];dsimp only;refine W.st0 hb4 (by rfl) fun τ' L' hnτ' hb4=>?_
   repeat' with_reducible first|refine W.ret ?_|refine W.e1 ?_
   exact⟨(LL.ofk (by have:=LL.next;have:=L3.next;omega) L8).trans (.refl _) |>.ofk hl4lt L',rfl⟩
  ·repeat' with_reducible first|refine W.ret ?_|refine W.e3 ?_|refine W.e1 ?_
   rw[hq];dsimp only;refine W.st0 hb4 (by rfl) fun τ' L' hnτ' hb4=>?_
   repeat' with_reducible first|refine W.ret ?_|refine W.e1 ?_
   exact⟨LL.ofk hl4lt L',rfl⟩
end
end
section
open Go
theorem W.agI{R:Type}{Q:R->Prop}{a:Int}{cs:List AVal}{K:Int->Option R}(c:W (K a) Q):W (agS (.agg (.int .i64 a::cs)) 0 (.I .i64) K) Q:=c
section
variable{σ:Heap}{vars:Int}{cs:List (List Int)}{ss:List (Bool×List Int)}{x y:AVal}
end
end
section
open Go
section
variable{bl:Bool}{V vars:Int}{n k:Nat}{C D D0 E cs:List (List Int)}{lg lg' ss a b:List (Bool×List Int)}{c:List Int}
theorem y4k_:∀{a b:List (Bool×List Int)} {k:Nat} {D E:List (List Int)},runD bl V k D a=.inr E->runD bl V k D (a++b)=runD bl V (k+a.length) E b
 |[],b,k,D,E,h=>by rw[runD]at h;cases h;rfl
 | (true,c)::t,b,k,D,E,h=>by
  rw[List.cons_append,runD];rw[runD]at h;simp only[cond_true]at h⊢
  split at h
  ·rename_i hm
   rw[if_pos hm,y4k_ h,List.length_cons,show k+1+t.length=k+(t.length+1) by omega]
  ·cases h
 | (false,c)::t,b,k,D,E,h=>by
  rw[List.cons_append,runD];rw[runD]at h;simp only[cond_false]at h⊢;cases hm:mayC bl V D c with
  |false=>rw[hm]at h;cases h
  |true=>
   rw[hm]at h;simp only[cond_true]at h⊢;rw[y4k_ h,List.length_cons,show k+1+t.length=k+(t.length+1) by omega]
theorem yhg_(hR:ye_ V c)(hC:Conf D (negs c)):mayC bl V D c=true:=by
 have hi:impl V D c=true:=y2g_.2 ⟨hR,hC⟩;unfold mayC;cases bl with
 |false=>exact hi
 |true=>
  cases c with
  |nil=>rw[cond_true,y4s_];exact hi
  |cons p t=>rw[cond_true];exact y38_.2 (.inl hi)
theorem RunS.runD(h:RunS D0 lg D)(hR:∀s∈lg,ye_ V s.2):∀k,YtafbldhedkallaaGreatDoor.A.runD bl V k D0 lg=.inr D:=by
 induction h with
 |nil=>intro k;rw[YtafbldhedkallaaGreatDoor.A.runD]
 |@add lg D c h hC ih=>
  intro k;have ih:=ih (fun s hs=>hR s (by simp[hs])) k;rw[y4k_ ih,YtafbldhedkallaaGreatDoor.A.runD,yhg_ (hR (false,c) (by simp)) hC];simp only[cond_false,cond_true];rw[YtafbldhedkallaaGreatDoor.A.runD]
 |@del lg D c h hm ih=>
  intro k;have ih:=ih (fun s hs=>hR s (by simp[hs])) k;rw[y4k_ ih,YtafbldhedkallaaGreatDoor.A.runD];simp only[cond_true];rw[if_pos hm,YtafbldhedkallaaGreatDoor.A.runD]
theorem RunS.last(h:RunS D0 (lg++[(false,c)]) D):∃D',RunS D0 lg D'/\Conf D' (negs c)/\D=D'++[normL c]:=by
 generalize e:lg++[(false,c)]=l at h;cases h with
 |nil=>simp at e
 |add h1 h2=>
  obtain⟨rfl,e2⟩:=List.append_inj' e rfl;cases e2;exact⟨_,h1,h2,rfl⟩
 |del h1 h2=>
  obtain⟨_,e2⟩:=List.append_inj' e rfl;cases e2
theorem yij_(hl:(yk_ lg).flatten.length<=320000)(hR:∀s∈lg,ye_ 4000 s.2):chkP lg=none:=by
 unfold chkP;rw[if_neg (by omega)];have:(yk_ lg).findIdx? (badC 4000)=none:=by
  rw[List.findIdx?_eq_none_iff];intro c hc;obtain⟨s,hs,rfl⟩:=List.mem_map.1 hc;have:=y5e_.2 (hR s hs);simpa using this
 rw[this];rfl
theorem y5a_{m:Nat}:∀{lg:List (Bool×List Int)},(∀s∈lg,s.2.length<=m)->(yk_ lg).flatten.length<=m*lg.length
 |[],_=>by simp[yk_]
 |s::t,h=>by
  have ih:=y5a_ (lg:=t) fun x hx=>h x (by simp[hx]);have:=h s (by simp);show(s.2++(yk_ t).flatten).length<=_;rw[List.length_append,List.length_cons,Nat.mul_succ];omega
theorem y9t_{m:Int}:∀{c:List Int},(∀x∈c,(x.natAbs:Int)<=m)->maxV m c=m
 |[],_=>rfl
 |x::c,h=>by
  unfold maxV;rw[List.foldl_cons,if_neg (by have:=h x (by simp);omega)];exact y9t_ fun y hy=>h y (by simp[hy])
theorem y5z_{m:Int}:∀{lg:List (Bool×List Int)},(∀s∈lg,∀x∈s.2,(x.natAbs:Int)<=m)->yb_ m lg=m
 |[],_=>rfl
 |s::t,h=>by
  unfold yb_;rw[List.foldl_cons,y9t_ (h s (by simp))];exact y5z_ fun x hx=>h x (by simp[hx])
theorem RunS.refute(h:RunS (cs.map normL) (lg++[(false,[])]) D)(hc:chkC (n:Int) cs=none)(hL:LgF n (lg++[(false,[])]))(hn:n<=9):y20_ (n:Int) cs (lg++[(false,[])])=none:=by
 have hB:2 ^ n<=512:=Nat.le_trans (Nat.pow_le_pow_right (by omega) hn) (by decide);obtain⟨h1,h2⟩:=hL;have hlen:(lg++[(false,([]:List Int))]).length<=17500:=by
  have e1:=Nat.mul_le_mul (show 2 ^ n / 2<=256 by omega) (show 2 ^ n / 2 / 8+2<=34 by omega);omega
 have hR:∀s∈lg++[(false,([]:List Int))],ye_ (n:Int) s.2:=fun s hs l hl=>by
  have:=yh_.1 ((h1 s hs).2 l hl);omega
 have hfb:=y5a_ (m:=10) fun s hs=>Nat.le_trans (h1 s hs).1 (by omega);have hP:=yij_ (lg:=lg++[(false,([]:List Int))]) (by omega) fun s hs l hl=>by have:=hR s hs l hl;omega
 have hG:yb_ (n:Int) (lg++[(false,([]:List Int))])=n:=y5z_ fun s hs x hx=>by have:=hR s hs x hx;omega
 unfold y20_;have hp:preF (n:Int) cs (lg++[(false,([]:List Int))])=none:=by unfold preF;rw[hc];exact hP
 rw[hp];dsimp only;rw[hG,h.runD hR 0];dsimp only;obtain⟨D',_,_,rfl⟩:=h.last;have:impl (n:Int) (D'++[normL []]) []=true:=y2g_.2 ⟨fun l hl=>(by cases hl),.inr ⟨[],by
  have e:normL []=[]:=List.eq_nil_iff_forall_not_mem.2 fun x hx=>(by have:=y8_.1 hx;cases this);rw[e];simp,fun k hk=>(by cases hk)⟩⟩
 rw[this];rfl
end
section
variable{σ τ:Heap}{T T':Tg}{e:EnP}{n k l vars:Nat}{s:PS}{hs:List Int}{ln:List (Int×Int)}{lg:List (Bool×List Int)}{since least:Int}{x y:AVal}{C D:List (List Int)}
theorem yh8_(E:EnX σ T e n s hs ln lg since least)(hn:Tn σ T)(hl:lg.length<=1000000)(hcl:∀st∈lg,st.2.length<=1000000) :
  W (S.z92 (.ptr e.le 0) σ) fun r=>∃T',Hop (only 28) σ T r.2 T'/\SlV vB (r.2.at T' 0) lg r.1:=by
 obtain⟨h,xs,xl,xg,conf,bump,most,sv,ws,k1,kp,kh,kq,km,ks,ksl,kl,kg,ka⟩:=E
 clear kp kh kq ks kl
 have kgs:=kg.slT;have hwl:=ka.1;unfold S.z92
 repeat' with_reducible first|refine W.bind ?_|refine W.asV ?_|refine W.fldp ?_|refine W.len (by assumption) ?_|refine W.nck ?_|refine W.u0 ?_
 refine W.mono (P:=fun r=>∃T' ws',Hop (only 28) σ T r.2 T'/\Own vBR (r.2.at T' 28) ws' r.1/\AllB (r.2.at T' 0) lg ws') ?_ fun r hr=>?_
 ·refine W.loop ws.length (fun i (z:AVal×Int) τ=>z.2=(i:Int)/\∃T' ws',Hop (only 28) σ T τ T'/\Own vBR (τ.at T' 34) ws xg/\AllB (τ.at T' 0) lg ws/\Own vBR (τ.at T' 28) ws' z.1/\AllB (τ.at T' 0) (lg.take i) ws') ⟨rfl,T,[],Hop.refl hn,kg,ka,Own.nil,rfl,fun i c hc=>by simp at hc⟩ fun i z τ1 hi hI=>?_
  obtain⟨z1,z2⟩:=z;obtain⟨rfl,T1,ws',HH,kg,ka,kO,kB⟩:=hI;have wr:IntKind.i64.wrap ((i:Int)+1)=((i+1:Nat):Int):=by rw[wrapS]<;>omega
  have hwl':=kB.1;rw[List.length_take]at hwl';unfold S.z92.b0
  (with_reducible refine W.cnd (fun hlt=>?_) (fun hlt=>?_)<;>(try simp only[qq,Kd.ty]at hlt)<;>(try (exfalso;omega)))
  ·obtain⟨st,hst⟩:=y3_ (xs:=lg) (i:=i) (by omega)
   obtain⟨w,hw,hx⟩:=ka.2 i st hst;refine W.ixO kg.slT (i:=i) (by omega) ?_;refine W.ldGO kg.slT hw [.bool st.1,w] (fun bs h=>h) ?_;refine W.newA HH.tn rfl rfl fun l10 τ2 _ L2 k10 hn2=>?_;replace kg:=kg.hle L2;replace ka:=ka.hle L2;replace kO:=kO.hle L2;replace kB:=kB.hle L2;replace hx:=hx.hle L2;have k10u:=k10.up
   repeat' with_reducible first|refine W.bind ?_|refine W.asB ?_|refine W.asV ?_|refine W.e0 ?_
   refine W.mono (y9d_ hx.up (hcl st (List.mem_of_getElem? hst))) fun r hr=>?_;obtain⟨y2,τ3⟩:=r;obtain⟨hA,L3⟩:=hr;dsimp only at hA L3⊢;have hy:=hA.at0 fun k hk=>hn2.z k hk;have k10u:=k10u.mono L3;replace kg:=kg.hle L3;replace ka:=ka.hle L3;replace kO:=kO.hle L3;replace kB:=kB.hle L3;have hn3:=hn2.mono L3;have hyu:=hy.up
   repeat' with_reducible first|refine W.asB ?_|refine W.chk rfl ?_|refine W.e0 ?_|refine W.scalS (by assumption) ?_
   refine W.own_push (bytes:=32) y4g_ kO hn3 (a:=(st.1,y2)) rfl (by omega) (by omega) fun x' τ4 T4 kO H4=>?_
   repeat' (with_reducible refine W.next ?_)
   refine⟨by omega,wr,T4,ws'++[(st.1,y2)],((HH.hle L2).hle L3).trans H4,kg.hop H4,ka.hop H4,kO,?_⟩;have htk:lg.take (i+1)=lg.take i++[st]:=by rw[List.take_add_one,hst];rfl
   rw[htk];exact(kB.hop H4).push (hy.hop H4)
  ·repeat' (with_reducible refine W.stop ?_)
   rw[List.take_of_length_le (by omega)]at kB;exact⟨T1,ws',HH,kO,kB⟩
 ·obtain⟨xo,τ1⟩:=r
  obtain⟨T1,ws',HH,kO,kB⟩:=hr;dsimp only at HH kO kB⊢;obtain⟨T2,H2,hO⟩:=kO.freeze y4g_ HH.tn
  repeat' with_reducible refine W.ret ?_
  exact⟨T2,HH.trans H2,(kB.hop H2).vB hO⟩
theorem yap_(h:RB σ T l vars C)(hn:Tn σ T)(hy:SlV vB (σ.at T 0) lg y)(hrun:runD false (vars:Int) 0 (C.map normL) lg=.inr D)(hR:∀s∈lg,s.2.length<=400000/\ye_ (vars:Int) s.2)(hsz:C.length+lg.length<=800000) :
  W (S.z109 (.ptr l 0) y σ) fun r=>r.1=true:=by
 have hv4:=h.vl;unfold S.z109;refine W.bind ?_;refine W.mono (P:=fun r=>r.1=.inl ()) ?_ fun r hr=>?_
 ·refine W.loop lg.length (fun i (z:Int) τ=>z=(i:Int)/\∃C',Hop (only 1) σ T τ T/\RB τ T l vars C'/\runD false (vars:Int) i (C'.map normL) (lg.drop i)=.inr D/\C'.length<=C.length+i) ⟨rfl,C,Hop.refl hn,h,by simpa using hrun,by omega⟩ fun i z τ1 hi hI=>?_
  obtain⟨rfl,C1,HH,h,hrun,hC1⟩:=hI;have wr:IntKind.i64.wrap ((i:Int)+1)=((i+1:Nat):Int):=by rw[wrapS]<;>omega
  have hy:=hy.hop HH;have hyu:=hy.up;unfold S.z109.b0
  repeat' (with_reducible refine W.len (by assumption) ?_)
  (with_reducible refine W.cnd (fun hlt=>?_) (fun hlt=>?_)<;>(try simp only[qq,Kd.ty]at hlt)<;>(try (exfalso;omega)))
  ·obtain⟨⟨del,c⟩,hst⟩:=y3_ (xs:=lg) (i:=i) (by omega)
   obtain⟨hl1,hl2⟩:=hR _ (List.mem_of_getElem? hst);dsimp only at hl1 hl2;have hin:c.all inB=true:=by
    rw[List.all_eq_true];intro x hx;have:=hl2 x hx;simp[inB];omega
   rw[y3y_ hst]at hrun;have hrunc:runD false (vars:Int) i (C1.map normL) ((del,c)::lg.drop (i+1))=bif del then(if normL c∈C1.map normL then runD false (vars:Int) (i+1) ((C1.map normL).erase (normL c)) (lg.drop (i+1))else .inl i) else
    bif mayC false (vars:Int) (C1.map normL) c then runD false (vars:Int) (i+1) (C1.map normL++[normL c]) (lg.drop (i+1))else .inl i:=by rw[runD]
   rw[hrunc]at hrun;have hn1:=HH.tn;refine W.bind ?_;refine W.mono (P:=fun r=>r.1=.inl ()/\∃C2,Hop (only 1) τ1 T r.2 T/\RB r.2 T l vars C2/\runD false (vars:Int) (i+1) (C2.map normL) (lg.drop (i+1))=.inr D/\C2.length<=C1.length+1) ?_ fun r hr=>?_
   ·refine W.ixL hy at_le (by omega) fun p us s hs hp hr=>?_
    rw[hst]at hs;cases hs;obtain⟨w0,rfl,hw0⟩:=y15_ hr;have hp':=hp.mono (at_le (σ:=τ1) (T:=T) (i:=0))
    repeat' with_reducible first|refine W.asB ?_|refine W.fldld (by assumption) (by with_unfolding_all rfl) ?_
    cases del with
    | true=>
     simp only[cond_true]at hrun;refine W.condT rfl ?_;refine W.ixL hy at_le (by omega) fun p us s hs hp hr=>?_;rw[hst]at hs;cases hs;obtain⟨w,rfl,hw⟩:=y15_ hr;have hp':=hp.mono (at_le (σ:=τ1) (T:=T) (i:=0))
     repeat' with_reducible first|refine W.bind ?_|refine W.asV ?_|refine W.fldld (by assumption) (by with_unfolding_all rfl) ?_
     refine W.mono (yai_ (c:=c) h hn1 hw hin (by omega)) fun r hr=>?_;obtain⟨b,τ4⟩:=r;obtain⟨hbm,H4,C4,h,hm4,hl4⟩:=hr;dsimp only at hbm H4 h⊢;by_cases hm:normL c∈C1.map normL
     ·rw[hbm.2 hm]
      refine W.condF rfl ?_
      repeat' with_reducible refine W.ret ?_
      rw[if_pos hm]at hrun;exact⟨rfl,C4,H4,h,by rw[hm4];exact hrun,by omega⟩
     ·rw[if_neg hm]at hrun;cases hrun
    | false=>
     simp only[cond_false]at hrun;refine W.condF rfl ?_;cases hmay:mayC false (vars:Int) (C1.map normL) c with
     |false=>rw[hmay]at hrun;cases hrun
     | true=>
      rw[hmay]at hrun;simp only[cond_true]at hrun;refine W.bind ?_;refine W.mono (P:=fun r=>r.1=false/\Hop (only 1) τ1 T r.2 T/\RB r.2 T l vars (C1++[c])) ?_ fun r hr=>?_
      ·refine W.ixL hy at_le (by omega) fun p us s hs hp hr=>?_
       rw[hst]at hs;cases hs;obtain⟨w,rfl,hw⟩:=y15_ hr;have hp':=hp.mono (at_le (σ:=τ1) (T:=T) (i:=0))
       repeat' with_reducible first|refine W.bind ?_|refine W.asV ?_|refine W.fldld (by assumption) (by with_unfolding_all rfl) ?_
       refine W.mono (y1u_ (c:=c) h hw (by omega)) fun r hr=>?_;obtain⟨b,τ4⟩:=r;obtain⟨eb,L4⟩:=hr;dsimp only at eb L4⊢;have eb:b=true:=eb.trans hmay;subst eb;refine W.condF rfl ?_;have hy4:=hy.hle L4;have hn4:=hn1.mono L4;refine W.ixL hy4 at_le (by omega) fun p us s hs hp hr=>?_;rw[hst]at hs;cases hs;obtain⟨w,rfl,hw⟩:=y15_ hr;have hp':=hp.mono (at_le (σ:=τ4) (T:=T) (i:=0))
       repeat' with_reducible first|refine W.bind ?_|refine W.asV ?_|refine W.fldld (by assumption) (by with_unfolding_all rfl) ?_
       refine W.mono (yc1_ (c:=c) (h.hle L4) hn4 hw (by omega) (by omega)) fun r hr=>?_;obtain⟨b2,τ5⟩:=r;obtain⟨hb2,H5,_,h5⟩:=hr;dsimp only at hb2 H5 h5⊢;obtain rfl:b2=true:=hb2.2 hl2
       repeat' with_reducible refine W.ret ?_
       exact⟨rfl,(Hop.of hn1 L4).trans H5,h5 hl2⟩
      ·obtain⟨b,τ4⟩:=r
       obtain⟨eb,H4,h⟩:=hr;dsimp only at eb H4 h⊢;subst eb;refine W.condF rfl ?_
       repeat' with_reducible refine W.ret ?_
       exact⟨rfl,_,H4,h,by rw[List.map_append];exact hrun,by simp⟩
   ·obtain⟨r,τ4⟩:=r
    obtain⟨er,C2,H4,h,hrun,hl2⟩:=hr;dsimp only at er H4 h⊢;subst er
    repeat' (with_reducible refine W.next ?_)
    exact⟨by omega,wr,C2,HH.trans H4,h,hrun,by omega⟩
  ·repeat' (with_reducible refine W.stop ?_)
   rfl
 ·obtain⟨r,τ1⟩:=r
  dsimp only at hr;subst hr
  repeat' with_reducible refine W.ret ?_
  rfl
end
end
section
open Go
def AddsC(p19 p20:AVal):Int->Heap->Option ((Int⊕Unit)×Heap):=fun x21 σ22=>A.fld p19 1 fun a23=>A.ld σ22 a23 (.V) fun v24=>A.lenV v24 fun n25=>cond (decide (x21<n25)) (A.fld p19 1 fun a26=>A.ld σ22 a26 (.V) fun v27=>A.ixA σ22 v27 1 x21 fun a28=>A.ld σ22 a28 (.V) fun v29=>(S.z89 p20 v29 σ22).bind fun r30=>some (.inl (IntKind.i64.wrap (x21+1)),r30.2)) (some (.inr (),σ22))
section
variable{σ τ:Heap}{T T':Tg}{e:EnP}{n k l10:Nat}{x y:AVal}{C cs:List (List Int)}{w:Nat}{gl:Bool}{a0:AVal}{sc:(List Int×List Int×List Int×List Int)×Int×Int}
theorem yhx_(E:En gl σ T e n C w)(hn:Tn σ T)(hn4:n<=4000)(hw:w+cs.length<=900000000)(k10:Loc (σ.at T 0) l10 [a0,y])(hc:SlV vIs (σ.at T 0) cs y)(hb:∀c∈cs,c.length<=100000/\ye_ n c) :
  W (loopW (AddsC (.ptr l10 0) (.ptr e.le 0)) 0 σ) fun r=>∃T',Hop eK σ T r.2 T'/\En gl r.2 T' e n (C++cs) (w+cs.length):=by
 refine W.loop cs.length (fun i (z:Int) τ=>z=(i:Int)/\∃T',Hop eK σ T τ T'/\SlV vIs (τ.at T' 0) cs y/\Loc (τ.at T' 0) l10 [a0,y]/\En gl τ T' e n (C++cs.take i) (w+i)) ⟨rfl,T,Hop.refl hn,hc,k10,by simpa using E⟩ fun i z τ5 hi hI2=>?_;obtain⟨rfl,T5,HH,hc,k10,E⟩:=hI2;have wr:IntKind.i64.wrap ((i:Int)+1)=((i+1:Nat):Int):=by rw[wrapS]<;>omega
 have hcu:=hc.up;have k10u:=k10.up;unfold AddsC
 repeat' with_reducible first|refine W.asV ?_|refine W.fldp ?_|refine W.len (by assumption) ?_|refine W.e0 ?_
 (with_reducible refine W.cnd (fun hlt=>?_) (fun hlt=>?_)<;>(try simp only[qq,Kd.ty]at hlt)<;>(try (exfalso;omega)))
 ·obtain⟨a,ha⟩:=y3_ (xs:=cs) (i:=i) (by omega)
  have ham:=List.mem_of_getElem? ha
  repeat' with_reducible first|refine W.asV ?_|refine W.fldp ?_|refine W.e0 ?_
  refine W.ixkLS hc at_le ha fun y hy=>?_;refine W.bind ?_;refine W.mono (yde_ E HH.tn hn4 (by omega) hy (by have:=(hb a ham).1;omega) fun l hl=>y9f_ ((hb a ham).2 l hl)) fun r hr=>?_;obtain⟨r,τ6⟩:=r;obtain⟨_,T6,H6,E⟩:=hr;dsimp only at H6 E⊢
  repeat' (with_reducible refine W.next ?_)
  exact⟨by omega,wr,T6,HH.trans H6,hc.hop H6,k10.hop H6,by rw[List.take_add_one,ha,<-List.append_assoc];exact E⟩
 ·repeat' (with_reducible refine W.stop ?_)
  have:i=cs.length:=by omega
  subst this;rw[List.take_length]at E;exact⟨T5,HH,E⟩
theorem logR{lg:List (Bool×List Int)}(h:LgF 9 lg):lg.length<=17409/\(∀s∈lg,s.2.length<=10/\ye_ ((9:Nat):Int) s.2):=by
 obtain⟨h1,h2⟩:=h;have e:2*((2 ^ 9 / 2)*(2 ^ 9 / 2 / 8+2))+1=17409:=by decide
 refine⟨by omega,fun s hs=>⟨(h1 s hs).1,fun l hl=>?_⟩⟩;have:=yh_.1 ((h1 s hs).2 l hl);omega
theorem yat_{l:List Int}{xl xs:AVal}(hg:GlS [.limit,.range] σ)(hl:SlV .int σ l xl)(hsc:ScV σ xs sc)(b1:l.length<=4611686018427387904):W (S.z107 xl xs σ) fun r=>r.1=true:=by
 have hg:=hg.tz0;have hl:=hl.tz0;have hn:Tn σ Tz:=Tn.tz;obtain⟨x0,x1,x2,x3,rfl,s0,s1,s2,s3⟩:=hsc;unfold S.z107
 repeat' (with_reducible refine W.e3 ?_)
 refine W.new0 hn fun l2 τ1 _ L1 k2 hn=>?_;have hx:ScV (τ1.at Tz 0) (.agg [x0,x1,x2,x3,.int .i64 sc.2.1,.int .i64 sc.2.2]) sc:=⟨x0,x1,x2,x3,rfl,s0.tz0.hle L1,s1.tz0.hle L1,s2.tz0.hle L1,s3.tz0.hle L1⟩
 clear s0 s1 s2 s3
 replace hl:=hl.hle L1;replace hg:=hg.hle L1
 repeat' (with_reducible refine W.bind ?_)
 refine W.mono (yfi_ hg hn) fun r hr=>?_;obtain⟨r,τ2⟩:=r;obtain⟨er,T2,H2⟩:=hr;dsimp only at er H2⊢;subst er;replace hl:=hl.hop H2;replace hx:=hx.hop H2;replace k2:=k2.hop H2;replace hn:=H2.tn;have hlu:=hl.up;refine W.condF rfl ?_
 repeat' with_reducible first|refine W.bind ?_|refine W.len (by assumption) ?_
 (with_reducible refine W.cnd (fun hbig=>?_) (fun hbig=>?_)<;>(try simp only[qq,Kd.ty]at hbig)<;>(try (exfalso;omega)))
 ·repeat' with_reducible refine W.ret ?_
  refine W.condT rfl ?_
  repeat' with_reducible refine W.ret ?_
  rfl
 repeat' with_reducible first|refine W.bind ?_|refine W.u1 ?_
 refine W.mono (yia_ hx.up) fun r hr=>?_;obtain⟨r,τ3⟩:=r;obtain⟨er,L3⟩:=hr;dsimp only at er L3⊢;replace hl:=hl.hle L3;replace hx:=hx.hle L3;replace k2:=k2.hle L3;replace hn:=hn.mono L3
 repeat' with_reducible refine W.ret ?_
 by_cases hsm:¬ScS sc
 ·have:r=false:=by
   cases r
   ·rfl
   ·exact absurd (er.1 rfl) hsm
  subst this;refine W.condT rfl ?_
  repeat' with_reducible refine W.ret ?_
  rfl
 replace hsm:=Classical.not_not.1 hsm;obtain rfl:r=true:=er.2 hsm;refine W.condF rfl ?_;refine W.bind ?_;refine W.mono (cnf_w hl.up (by omega) (vars:=9) (by omega)) fun r hr=>?_;obtain⟨r,τ4⟩:=r;obtain⟨L4,y,er,hA⟩:=hr;dsimp only at L4 er hA⊢;subst er;have hcs:=hA.atF fun k hk=>hn.z k hk;replace hx:=hx.hle L4;replace k2:=k2.hle L4;replace hn:=hn.mono L4;obtain⟨ck1,ck2,ck3⟩:=y63_ l 9;have hchk:=ybl_ l (n:=9) (by omega) (by omega);have hchk:chkC ((9:Nat):Int) (y17_ l 9)=none:=hchk;generalize hcse:y17_ l 9=cs at *;refine W.newA hn rfl rfl fun l10 τ5 _ L5 k10 _=>?_;replace hx:=hx.hle L5;replace k2:=k2.hle L5;replace hcs:=hcs.hle L5;replace hn:=hn.mono L5
 repeat' with_reducible first|refine W.bind ?_|refine W.u1 ?_
 refine W.mono (yiz_ hx hn) fun r hr=>?_;obtain⟨y1,τ7⟩:=r;obtain⟨T7,H7,hy1⟩:=hr;dsimp only at H7 hy1⊢;replace hcs:=hcs.hop H7;replace k10:=k10.hop H7;replace hn:=H7.tn;refine W.bind ?_;refine W.mono (yct_ true (vars:=9) hy1 hn hsm (by simp) (by omega)) fun r hr=>?_;obtain⟨r,τ8⟩:=r;obtain⟨T8,e,er,H8,E⟩:=hr;dsimp only at er H8 E⊢;subst er;replace hcs:=hcs.hop H8;replace k10:=k10.hop H8;replace hn:=H8.tn;refine W.condF (x:=some (false,τ8)) rfl ?_;refine W.bind ?_;refine W.mono (yhx_ (n:=9) (cs:=cs) E hn (by omega) (by omega) k10 hcs fun c hc=>⟨by have:=(ck1 c hc).2.1;omega,(ck1 c hc).2.2⟩) fun r hr=>?_;obtain⟨r,τ10⟩:=r;obtain⟨T10,H10,E⟩:=hr;dsimp only at H10 E⊢;rw[List.nil_append]at E;replace hcs:=hcs.hop H10;replace k10:=k10.hop H10;replace hn:=H10.tn;have hmu9:6*mu 9<=20000000:=by decide
 refine W.bind ?_;refine W.mono (ydy_ (A:=[]) E hn (by omega) (.inl ⟨rfl,rfl⟩) (by simp) (fun l hl=>by cases hl) (by omega)) fun r hr=>?_;obtain⟨r,τ11⟩:=r;obtain⟨T11,w11,H11,_,s,hs,ln,lg,since,least,E,L,_,hLF,hso⟩:=hr;dsimp only at H11 E hso⊢;replace hcs:=hcs.hop H11;replace k10:=k10.hop H11;replace hn:=H11.tn;obtain⟨hll,hlr⟩:=logR hLF;obtain⟨D,X,hrun,_⟩:=L.lgI rfl;have finish:∀(b:Bool) (u v:AVal),r=(.agg [.bool b,u,v],.nili)->(b=false->∃lg0,lg=lg0++[(false,[])])->W ((fun r32:(AVal×AVal)×Heap=>YtafbldhedkallaaGreatDoor.A.newK r32.2 3 [.bool false,.nils,.nils] fun l33 σ34=>YtafbldhedkallaaGreatDoor.A.aggK r32.1.1 3 fun cs35=>YtafbldhedkallaaGreatDoor.A.stC σ34 (.ptr l33 0) cs35 fun σ36=>
   YtafbldhedkallaaGreatDoor.A.eqI (tiOf Tryz.prog) σ36 true r32.1.2 .nili fun b37=>cond (!b37) (some (false,σ36)) ((S.z92 (.ptr e.le 0) σ36).bind fun r38=>
   YtafbldhedkallaaGreatDoor.A.ld r38.2 (.ptr l33 0) (.B) fun b39=>cond (!b39) ((YtafbldhedkallaaGreatDoor.A.lenV r38.1 fun n40=>cond (n40==0) (some true) (YtafbldhedkallaaGreatDoor.A.lenV r38.1 fun n41=>YtafbldhedkallaaGreatDoor.A.ixA r38.2 r38.1 2 (IntKind.i64.wrap (n41-1)) fun a42=>YtafbldhedkallaaGreatDoor.A.fld a42 0 fun a43=>YtafbldhedkallaaGreatDoor.A.ld r38.2 a43 (.B) fun b44=>cond b44 (some true) (YtafbldhedkallaaGreatDoor.A.lenV r38.1 fun n45=>YtafbldhedkallaaGreatDoor.A.ixA r38.2 r38.1 2 (IntKind.i64.wrap (n45-1)) fun a46=>YtafbldhedkallaaGreatDoor.A.fld a46 1 fun a47=>YtafbldhedkallaaGreatDoor.A.ld r38.2 a47 (.V) fun v48=>YtafbldhedkallaaGreatDoor.A.lenV v48 fun n49=>some (decide (n49>0))))).bind fun r50=>cond r50 (some (false,r38.2)) ((cond true (YtafbldhedkallaaGreatDoor.A.ldG r38.2 (.ptr l10 0) 2 fun g51=>(S.z133 g51 r38.1 r38.2).bind fun r52=>YtafbldhedkallaaGreatDoor.A.agS r52.1 0 (.I .i64) fun n53=>some ((n53==0),r52.2)) (some (false,r38.2))).bind fun r54=>some (r54.1,r54.2)))
   ((cond true (YtafbldhedkallaaGreatDoor.A.ld r38.2 (.ptr l10 1) (.V) fun v55=>YtafbldhedkallaaGreatDoor.A.scal v55 (YtafbldhedkallaaGreatDoor.A.newK r38.2 2 [.int .i64 9,v55] fun l56 σ57=>(S.z109 (.ptr l56 0) r38.1 σ57).bind fun r58=>some (r58.1,r58.2))) (some (false,r38.2))).bind fun r59=>some (r59.1,r59.2)))) (r,τ11)) fun r=>r.1=true:=by
  intro b u v er hb;subst er;dsimp only;refine W.newA hn rfl rfl fun l33 τ12 _ L12 k33 _=>?_;replace hcs:=hcs.hle L12;replace k10:=k10.hle L12;replace hn:=hn.mono L12;replace E:=E.hle L12;refine W.fnil (f:=none) rfl (W.condF rfl ?_);refine W.bind ?_;refine W.mono (yh8_ E hn (by omega) fun st hst=>by have:=(hlr st hst).1;omega) fun r hr=>?_;obtain⟨xg,τ13⟩:=r;obtain⟨T13,H13,hlog⟩:=hr;dsimp only at H13 hlog⊢;replace hcs:=hcs.hop H13;replace k10:=k10.hop H13;replace k33:=k33.hop H13;replace hn:=H13.tn;have k10u:=k10.up;have k33u:=k33.up;have hlogu:=hlog.up
  repeat' with_reducible first|refine W.asB ?_|refine W.e0 ?_
  cases b with
  | false=>
   obtain⟨lg0,rfl⟩:=hb rfl;have hlen:(lg0++[(false,([]:List Int))]).length=lg0.length+1:=by simp
   have hget:(lg0++[(false,([]:List Int))])[lg0.length]?=some (false,[]):=by simp
   refine W.condT rfl ?_;refine W.bind ?_;refine W.mono (P:=fun r=>r=false) ?_ fun r hr=>?_
   ·repeat' (with_reducible refine W.len (by assumption) ?_)
    have wi:IntKind.i64.wrap (((lg0++[(false,([]:List Int))]).length:Int)-1)=(lg0.length:Int):=by rw[hlen,wrapS]<;>omega
    refine W.condF (by rw[hlen];simp;omega) ?_
    repeat' (with_reducible refine W.len (by assumption) ?_)
    rw[wi];refine W.ixL hlog at_le (by rw[hlen];omega) fun p us s hs hp hr=>?_;rw[hget]at hs;cases hs;obtain⟨w,rfl,hw⟩:=y15_ hr;have hp':=hp.mono (at_le (σ:=τ13) (T:=T13) (i:=0))
    repeat' with_reducible first|refine W.asB ?_|refine W.fldld (by assumption) (by with_unfolding_all rfl) ?_
    refine W.condF rfl ?_
    repeat' (with_reducible refine W.len (by assumption) ?_)
    rw[wi];refine W.ixL hlog at_le (by rw[hlen];omega) fun p us s hs hp hr=>?_;rw[hget]at hs;cases hs;obtain⟨w,rfl,hw⟩:=y15_ hr;have hp':=hp.mono (at_le (σ:=τ13) (T:=T13) (i:=0));have hwu:=hw.up
    repeat' with_reducible first|refine W.ret ?_|refine W.asV ?_|refine W.len (by assumption) ?_|refine W.fldld (by assumption) (by with_unfolding_all rfl) ?_
    rfl
   subst hr;refine W.condF rfl ?_;refine W.bind ?_;refine W.condT rfl ?_
   repeat' with_reducible first|refine W.bind ?_|refine W.e1 ?_
   have hfb:=y5a_ (m:=10) fun s hs=>(hlr s hs).1;refine W.mono (ycf_ (vars:=((9:Nat):Int)) hcs.up hlog.up (by omega) (by omega) (by omega) (by omega)) fun r hr=>?_;obtain⟨r,τ14⟩:=r;obtain⟨L14,er⟩:=hr;dsimp only at L14 er⊢;subst er;rw[hrun.refute hchk hLF (by omega)];refine W.agI ?_
   repeat' with_reducible refine W.ret ?_
   rfl
  |true=>
   refine W.condF rfl ?_;refine W.bind ?_;refine W.condT rfl ?_;have hcu:=hcs.up
   repeat' with_reducible first|refine W.asV ?_|refine W.e0 ?_|refine W.scalS (by assumption) ?_
   obtain⟨ws,g1,g2,g3⟩:=yet_ hcs;refine W.newT 1 hn fun l56 τ14 T14 hl56 H14 k56 hnτ14=>?_;replace hcs:=hcs.hop H14;replace hlog:=hlog.hop H14;replace hn:=H14.tn;have hRB:RB τ14 T14 l56 9 cs:=⟨⟨y,ws,k56,g1.hop H14,g2,fun i c hc=>(g3 i c hc).imp fun w hw=>⟨hw.1,hw.2.hop H14⟩⟩,fun c hc=>(ck1 c hc).2.2,by omega,by omega,fun c hc=>by have:=(ck1 c hc).2.1;omega⟩;refine W.bind ?_;refine W.mono (yap_ (D:=D) hRB hn hlog (hrun.runD (bl:=false) (fun s hs=>(hlr s hs).2) 0) (fun s hs=>⟨by have:=(hlr s hs).1;omega,(hlr s hs).2⟩) (by omega)) fun r hr=>?_;obtain⟨r,τ15⟩:=r;dsimp only at hr⊢;subst hr
   repeat' with_reducible refine W.ret ?_
   rfl
 rcases hso with ⟨y',M,er,_,_,_,_⟩|⟨y',core,lg0,er,_,hcA,_,_,hlg⟩
 ·exact finish true _ _ er fun h=>by cases h
 ·refine finish false _ _ er fun _=>⟨lg0,?_⟩
  have:core=[]:=by
   cases core with
   |nil=>rfl
   |cons a t=>exact absurd (hcA a (by simp)) (by simp)
  rw[hlg,this];rfl
end
end
end Go.Proofs.YtafbldhedkallaaGreatDoor.A
end
