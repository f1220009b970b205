/- Parts of the proof, one behind another. -/
import Derived.Test.YtekehmgfedmflaaGreatDoorX10
import Derived.Test.YtekehmgfedmflaaGreatDoorX9
set_option linter.all false
noncomputable section
namespace Go.Proofs.YtekehmgfedmflaaGreatDoor.A
section
open Go
def eI:Nat->Bool:=fun j=>decide (1<=j) && !(decide (36<=j)&&decide (j<=49))
def vLn:Vw (Int×Int):=⟨2,fun _ a us=>us=[.int .i64 a.1,.int .i64 a.2],by decide,fun h=>by rw[h];rfl,fun _ h=>h⟩
theorem y33_:vLn.Flat:=fun _ _ _ _ h=>h
structure EnP where
 le:Nat
 lp:Nat
 lh:Nat
 lq:Nat
structure EnH(σ:Heap)(T:Tg)(e:EnP)(n:Nat)(s:PS)(hs:List Int)(ln:List (Int×Int))(lg:List (Bool×List Int))(since least:Int)(h:PH)(xs xl xg:AVal)(conf bump most:Int)(sv:List Int)(ws:List (Bool×AVal)):Prop where
 obj:Loc (σ.at T 31) e.le [.ptr e.lp 0,.ptr e.lh 0,.ptr e.lq 0,xs,xl,xg,.int .i64 conf,.int .i64 bump]
 prop:PropH σ T e.lp h s
 heap:HpI σ T e.lh n hs
 pace:PcI σ T e.lq most since least
 most:most<=0
 sav:Own .int (σ.at T 32) sv xs
 svl:sv.length=n+1
 lrn:Own vLn (σ.at T 33) ln xl
 log:Own vBR (σ.at T 34) ws xg
 all:AllB (σ.at T 0) lg ws
def EnX(σ:Heap)(T:Tg)(e:EnP)(n:Nat)(s:PS)(hs:List Int)(ln:List (Int×Int))(lg:List (Bool×List Int))(since least:Int):Prop:=∃h xs xl xg conf bump most sv ws,EnH σ T e n s hs ln lg since least h xs xl xg conf bump most sv ws
section
variable{σ τ:Heap}{T T':Tg}{I:Nat->Bool}
theorem pI_e{j:Nat}(h:pI j=true):eI j=true:=by
 simp only[pI,eI,Bool.or_eq_true,Bool.and_eq_true,decide_eq_true_eq,Bool.not_eq_true',Bool.and_eq_false_iff,decide_eq_false_iff_not]at h⊢;omega
theorem Hop.pe(H:Hop pI σ T τ T'):Hop eI σ T τ T':=H.sub fun i hi=>pI_e hi
theorem Hop.je(H:Hop pJ σ T τ T'):Hop eI σ T τ T':=H.sub fun i hi=>by
 unfold pJ at hi;rcases Bool.or_eq_true_iff.1 hi with q|q
 ·exact pI_e q
 ·have:i=15:=by simpa using q
  subst this;rfl
theorem Hop.he(H:Hop hI σ T τ T'):Hop eI σ T τ T':=H.sub fun i hi=>by
 simp only[hI,eI,Bool.and_eq_true,decide_eq_true_eq,Bool.not_eq_true',Bool.and_eq_false_iff,decide_eq_false_iff_not]at hi⊢;omega
theorem Hop.hbe(H:Hop hbI σ T τ T'):Hop eI σ T τ T':=H.sub fun i hi=>by
 simp only[hbI,eI,Bool.or_eq_true,Bool.and_eq_true,decide_eq_true_eq,Bool.not_eq_true',Bool.and_eq_false_iff,decide_eq_false_iff_not]at hi⊢;omega
theorem Hop.te(H:Hop tI σ T τ T'):Hop eI σ T τ T':=H.sub fun i hi=>by
 simp only[tI,eI,Bool.and_eq_true,decide_eq_true_eq,Bool.not_eq_true',Bool.and_eq_false_iff,decide_eq_false_iff_not]at hi⊢;omega
theorem Hop.oe{t:Nat}(H:Hop (only t) σ T τ T')(ht:eI t=true:=by rfl):Hop eI σ T τ T':=H.sub fun i hi=>by
 have:i=t:=by simpa using hi
 rw[this];exact ht
theorem pI_hI{j:Nat}(h:pI j=true):hI j=false:=by
 simp only[pI,hI,Bool.or_eq_true,Bool.and_eq_true,decide_eq_true_eq,Bool.and_eq_false_iff,decide_eq_false_iff_not]at h⊢;omega
theorem hI_pI{j:Nat}(h:hI j=true):pI j=false:=by
 simp only[pI,hI,Bool.or_eq_false_iff,Bool.and_eq_true,decide_eq_true_eq,Bool.and_eq_false_iff,decide_eq_false_iff_not]at h⊢;omega
theorem PropH.hopH{lp:Nat}{h:PH}{s:PS}(p:PropH σ T lp h s)(H:Hop hI σ T τ T'):PropH τ T' lp h s:=p.hop H fun j hj=>pI_hI hj
theorem PropH.hopHB{lp:Nat}{h:PH}{s:PS}(p:PropH σ T lp h s)(H:Hop hbI σ T τ T'):PropH τ T' lp h s:=p.hop H fun j hj=>by
 simp only[pI,hbI,Bool.or_eq_true,Bool.or_eq_false_iff,Bool.and_eq_true,decide_eq_true_eq,Bool.and_eq_false_iff,decide_eq_false_iff_not]at hj⊢;omega
theorem PropH.hopO{lp:Nat}{h:PH}{s:PS}(p:PropH σ T lp h s){t:Nat}(H:Hop (only t) σ T τ T')(ht:pI t=false:=by rfl):PropH τ T' lp h s:=p.hop H fun j hj=>by
 simp only[only,beq_eq_false_iff_ne];intro e;subst e;rw[ht]at hj;cases hj
theorem HpI.hopP{lh N:Nat}{hs:List Int}(p:HpI σ T lh N hs)(H:Hop pI σ T τ T'):HpI τ T' lh N hs:=p.hop H fun j hj=>hI_pI hj
theorem HpI.hopJ{lh N:Nat}{hs:List Int}(p:HpI σ T lh N hs)(H:Hop pJ σ T τ T'):HpI τ T' lh N hs:=p.hop H fun j hj=>by
 simp only[pJ,Bool.or_eq_false_iff];refine⟨hI_pI hj,?_⟩;simp only[hI,Bool.and_eq_true,decide_eq_true_eq]at hj;simp;omega
theorem HpI.hopT{lh N:Nat}{hs:List Int}(p:HpI σ T lh N hs)(H:Hop tI σ T τ T'):HpI τ T' lh N hs:=p.hop H fun j hj=>by
 simp only[hI,tI,Bool.and_eq_true,decide_eq_true_eq,Bool.and_eq_false_iff,decide_eq_false_iff_not]at hj⊢;omega
variable{e:EnP}{n k:Nat}{s:PS}{hs:List Int}{ln:List (Int×Int)}{lg:List (Bool×List Int)}{since least:Int}{h:PH}{xs xl xg:AVal}{conf bump most:Int}{sv:List Int}{ws:List (Bool×AVal)}{gl:Bool}{C:List (List Int)}{w:Nat}
theorem EnH.hopT(E:EnH σ T e n s hs ln lg since least h xs xl xg conf bump most sv ws)(H:Hop tI σ T τ T'):EnH τ T' e n s hs ln lg since least h xs xl xg conf bump most sv ws:=
 ⟨E.obj.hop H,E.prop.hopT H,E.heap.hopT H,E.pace.hop H,E.most,E.sav.hop H,E.svl,E.lrn.hop H,E.log.hop H,E.all.hop H⟩
theorem EnH.hopE{t:Nat}(E:EnH σ T e n s hs ln lg since least h xs xl xg conf bump most sv ws)(H:Hop (only t) σ T τ T')(ht:(decide (15<=t)&&decide (t<=29))||(decide (35<=t)&&decide (t<=49))=true:=by rfl):EnH τ T' e n s hs ln lg since least h xs xl xg conf bump most sv ws:=by
 have hne:∀u,u≠t->(only t) u=false:=fun u hu=>by simpa using hu
 simp only[Bool.or_eq_true,Bool.and_eq_true,decide_eq_true_eq]at ht;exact⟨E.obj.hop H (hne _ (by omega)),E.prop.hopO H (by simp only[pI,Bool.or_eq_false_iff,Bool.and_eq_false_iff,decide_eq_false_iff_not];omega),E.heap.hopB H (by simp only[hI,Bool.and_eq_false_iff,decide_eq_false_iff_not];omega),E.pace.hop H (hne _ (by omega)) (hne _ (by omega)),E.most,E.sav.hop H (hne _ (by omega)),E.svl,E.lrn.hop H (hne _ (by omega)),E.log.hop H (hne _ (by omega)),E.all.hop H (hne _ (by omega))⟩
theorem EnH.hle(E:EnH σ T e n s hs ln lg since least h xs xl xg conf bump most sv ws)(L:Hle σ τ):EnH τ T e n s hs ln lg since least h xs xl xg conf bump most sv ws:=
 ⟨E.obj.hle L,E.prop.hle L,E.heap.hle L,E.pace.hle L,E.most,E.sav.hle L,E.svl,E.lrn.hle L,E.log.hle L,E.all.hle L⟩
theorem ycp_(ht:TrI n s):∀l∈s.sinceL k,l∈s.trail:=fun l hl=>by
 unfold PS.sinceL at hl
 split at hl
 ·exact List.mem_of_mem_drop hl
 ·cases hl
theorem y6a_(E:EnX σ T e n s hs ln lg since least)(hn:Tn σ T)(L:EnL gl n C s hs ln lg since least w)(hn4:n<=4000) :
  W (S.z102 (.ptr e.le 0) (k:Int) σ) fun r=>∃T' hs',Hop eI σ T r.2 T'/\EnX r.2 T' e n (s.backK k) hs' ln lg since least/\EnL gl n C (s.backK k) hs' ln lg since least (w+1):=by
 obtain⟨h,xs,xl,xg,conf,bump,most,sv,ws,E⟩:=E;have ht:=L.si.ti;have hlt:=ht.lenT;have k1:=E.obj;unfold S.z102
 repeat' with_reducible first|refine W.bind ?_|refine W.asV ?_|refine W.fldp ?_|refine W.nck ?_|refine W.u0 ?_
 refine W.mono (yih_ (k:=k) E.prop hn ht hn4) fun r hr=>?_;obtain⟨y,τ1⟩:=r;obtain⟨L1,hy⟩:=hr;dsimp only at L1 hy⊢;replace E:=E.hle L1;have HH:Hop eI σ T τ1 T:=Hop.of hn L1;have hyu:=hy.up
 clear k1
 have hsl:(s.sinceL k).length<=n:=by
  unfold PS.sinceL
  split
  ·simp;omega
  ·simp
 repeat' with_reducible first|refine W.bind ?_|refine W.len (by assumption) ?_
 refine W.mono (P:=fun r=>∃T' hs' sv',Hop eI σ T r.2 T'/\EnH r.2 T' e n s hs' ln lg since least h xs xl xg conf bump most sv' ws/\∀x,x∈hs'↔x∈hs\/∃l∈s.sinceL k,x=(l.natAbs:Int)) ?_ fun r hr=>?_
 ·refine W.loop (s.sinceL k).length (fun i (z:Int) τ=>z=(i:Int)/\∃T' hs' sv',Hop eI σ T τ T'/\SlV .int (τ.at T' 0) (s.sinceL k) y/\EnH τ T' e n s hs' ln lg since least h xs xl xg conf bump most sv' ws/\∀x,x∈hs'↔x∈hs\/∃l∈(s.sinceL k).take i,x=(l.natAbs:Int)) ⟨rfl,T,hs,sv,HH,hy,E,fun x=>by simp⟩ fun i z τ2 hi hI2=>?_
  obtain⟨rfl,T2,hs2,sv2,HH,hy,E,hmem⟩:=hI2;have wr:IntKind.i64.wrap ((i:Int)+1)=((i+1:Nat):Int):=by rw[wrapS]<;>omega
  unfold S.z102.b0
  (with_reducible refine W.cnd (fun hlt2=>?_) (fun hlt2=>?_)<;>(try simp only[qq,Kd.ty]at hlt2)<;>(try (exfalso;omega)))
  ·obtain⟨a,ha⟩:=y3_ (xs:=s.sinceL k) (i:=i) (by omega)
   have hat:=ycp_ ht a (List.mem_of_getElem? ha);have haL:=ht.rng a hat;have ha0:=yb_ haL;obtain⟨k1,kp,kh,kq,km,ks,ksl,kl,kg,ka⟩:=E;have hyu:=hy.up
   repeat' with_reducible first|refine W.bind ?_|refine W.e2 ?_
   refine W.to (yk_ haL hn4) ?_
   repeat' with_reducible first|refine W.ret ?_|refine W.asV ?_|refine W.fldp ?_|refine W.nck ?_|refine W.u0 ?_
   refine W.ixO ks.slT (i:=a.natAbs) (by omega) ?_;refine W.own_setI ks HH.tn (by omega) fun τ3 ks H3 _=>?_;replace HH:=HH.trans H3.oe;replace hy:=hy.hop H3;replace kp:=kp.hopO H3;replace kh:=kh.hopB H3;replace kq:=kq.hop H3;replace ka:=ka.hop H3;replace k1:=k1.hop H3;replace kl:=kl.hop H3;replace kg:=kg.hop H3;replace hn:=H3.tn;refine W.bind ?_;refine W.mono (P:=fun r=>∃sv',Hop (only 32) τ3 T2 r.2 T2/\Own .int (r.2.at T2 32) sv' xs/\sv'.length=n+1) ?_ fun r hr=>?_
   ·(with_reducible refine W.cnd (fun hp=>?_) (fun hp=>?_)<;>(try simp only[qq,Kd.ty]at hp)<;>(try (exfalso;omega)))
    ·repeat' with_reducible first|refine W.asV ?_|refine W.fldp ?_|refine W.nck ?_|refine W.u0 ?_
     refine W.ixO ks.slT (i:=a.natAbs) (by simp;omega) ?_;refine W.own_setI ks HH.tn (by simp;omega) fun τ4 ks H4 _=>?_
     repeat' with_reducible refine W.ret ?_
     exact⟨_,H4,ks,by simp[ksl]⟩
    ·repeat' with_reducible refine W.ret ?_
     exact⟨_,Hop.refl HH.tn,ks,by simp[ksl]⟩
   ·obtain⟨r,τ4⟩:=r
    obtain⟨sv4,H4,ks,ksl⟩:=hr;dsimp only at H4 ks⊢;replace HH:=HH.trans H4.oe;replace hy:=hy.hop H4;replace kp:=kp.hopO H4;replace kh:=kh.hopB H4;replace kq:=kq.hop H4;replace ka:=ka.hop H4;replace k1:=k1.hop H4;replace kl:=kl.hop H4;replace kg:=kg.hop H4;replace hn:=H4.tn
    repeat' with_reducible first|refine W.bind ?_|refine W.asV ?_|refine W.fldp ?_|refine W.nck ?_|refine W.u0 ?_
    refine W.mono (y9a_ (v:=a.natAbs) kh HH.tn hn4 (by omega) ha0.2) fun r hr=>?_;obtain⟨r,τ5⟩:=r;obtain⟨T5,hs5,H5,kh,hm5⟩:=hr;dsimp only at H5 kh⊢;replace HH:=HH.trans H5.he
    repeat' with_reducible first|refine W.next ?_|refine W.ret ?_
    refine⟨by omega,wr,T5,hs5,sv4,HH,hy.hop H5,⟨k1.hop H5,kp.hopH H5,kh,kq.hop H5,km,ks.hop H5,ksl,kl.hop H5,kg.hop H5,ka.hop H5⟩,fun x=>?_⟩;have htk:(s.sinceL k).take (i+1)=(s.sinceL k).take i++[a]:=by rw[List.take_add_one,ha];rfl
    rw[hm5,hmem,htk];constructor
    ·rintro((q|⟨l,hl,q⟩)|q)
     ·exact .inl q
     ·exact .inr ⟨l,by simp[hl],q⟩
     ·exact .inr ⟨a,by simp,q⟩
    ·rintro(q|⟨l,hl,q⟩)
     ·exact .inl (.inl q)
     ·rcases List.mem_append.1 hl with hl|hl
      ·exact .inl (.inr ⟨l,hl,q⟩)
      ·rw[List.mem_singleton.1 hl]at q;exact .inr q
  ·repeat' (with_reducible refine W.stop ?_)
   rw[List.take_of_length_le (by omega)]at hmem;exact⟨T2,hs2,sv2,HH,E,hmem⟩
 ·obtain⟨r,τ2⟩:=r
  obtain⟨T2,hs2,sv2,HH,E,hmem⟩:=hr;dsimp only at HH E⊢;obtain⟨k1,kp,kh,kq,km,ks,ksl,kl,kg,ka⟩:=E
  repeat' with_reducible first|refine W.bind ?_|refine W.asV ?_|refine W.fldp ?_|refine W.nck ?_|refine W.u0 ?_
  refine W.mono (yjl_ (k:=k) kp HH.tn L.si hn4) fun r hr=>?_;obtain⟨r,τ3⟩:=r;obtain⟨T3,h3,H3,kp⟩:=hr;dsimp only at H3 kp⊢
  repeat' with_reducible refine W.ret ?_
  refine⟨T3,hs2,HH.trans H3.pe,⟨_,_,_,_,_,_,_,_,_,k1.hop H3,kp,kh.hopP H3,kq.hop H3,km,ks.hop H3,ksl,kl.hop H3,kg.hop H3,ka.hop H3⟩,?_⟩;have hz:=L.z2;cases hm:s.marks[k]? with
  |none=>
   have e1:s.backK k=s:=by unfold PS.backK;rw[hm]
   rw[e1];exact L.step L.si (CEq.refl s) (fun v h1 h2 h3=>(hmem _).2 (.inl (L.hp v h1 h2 h3))) (by omega)
  | some a'=>
   obtain⟨a,ea,_,_⟩:=ht.mks k a' hm;subst ea;have e1:s.backK k=s.back k a:=by unfold PS.backK;rw[hm];rfl
   have e2:s.sinceL k=s.trail.drop a:=by unfold PS.sinceL;rw[hm];rfl
   obtain⟨g0,g1,g2,g3,g4,g5,g6,g7,g8,g9,g10⟩:=L.si.back hm;rw[e1];refine L.step g0 ⟨by rw[g3],fun id a b h1 h2=>by rw[g3]at h2;exact(CEq.refl s).2 id a b h1 h2⟩ (fun v h1 h2 h3=>?_) (by
    have:(s.back k a).ent=s.ent:=by simp only[PS.ent,g5]
    rw[this,g4];omega)
   rw[hmem,e2];by_cases hv:val s.vs v=0
   ·exact .inl (L.hp v h1 h2 hv)
   ·right
    have hsplit:∀y,y∈s.trail->y∈s.trail.take a\/y∈s.trail.drop a:=fun y hy=>by
     rw[<-List.take_append_drop a s.trail]at hy;exact List.mem_append.1 hy
    rw[g10]at h3;have hval:=y4c_ ht.ok (v:Int);rcases(show val s.vs v=1\/val s.vs v=2 by omega)with q|q
    ·rcases hsplit _ ((ht.tr _).1 q)with u|u
     ·rw[if_pos u]at h3;omega
     ·exact⟨_,u,by simp⟩
    ·rcases hsplit _ (ht.neg.1 q)with u|u
     ·split at h3
      ·omega
      ·omega
     ·exact⟨_,u,by simp⟩
end
end
section
open Go
section
variable{σ τ:Heap}{T T':Tg}{e:EnP}{n k:Nat}{s:PS}{hs:List Int}{ln:List (Int×Int)}{lg:List (Bool×List Int)}{since least:Int}{h:PH}{xs xl xg x:AVal}{conf bump most:Int}{sv o:List Int}{ws:List (Bool×AVal)}{gl:Bool}{C:List (List Int)}{w:Nat}
theorem yez_(E:EnX σ T e n s hs ln lg since least)(hn:Tn σ T)(hn4:n<=4000)(ho:SlV .int (σ.at T 0) o x)(hv:∀v∈o,1<=v/\v<=(n:Int))(hol:o.length<=1000000) :
  W (S.z103 (.ptr e.le 0) x σ) fun r=>∃T' hs',Hop eI σ T r.2 T'/\EnX r.2 T' e n s hs' ln lg since least/\∀x,x∈hs'↔x∈hs:=by
 obtain⟨h,xs,xl,xg,conf,bump,most,sv,ws,E⟩:=E;have hou:=ho.up;unfold S.z103
 repeat' with_reducible first|refine W.bind ?_|refine W.len (by assumption) ?_
 refine W.mono (P:=fun r=>∃T' hs',Hop eI σ T r.2 T'/\EnH r.2 T' e n s hs' ln lg since least h xs xl xg conf bump most sv ws/\∀x,x∈hs'↔x∈hs) ?_ fun r hr=>?_
 ·refine W.loop o.length (fun i (z:Int) τ=>z=(i:Int)/\∃T' hs',Hop eI σ T τ T'/\SlV .int (τ.at T' 0) o x/\EnH τ T' e n s hs' ln lg since least h xs xl xg conf bump most sv ws/\∀x,x∈hs'↔x∈hs) ⟨rfl,T,hs,Hop.refl hn,ho,E,fun _=>Iff.rfl⟩ fun i z τ1 hi hI2=>?_
  obtain⟨rfl,T1,hs1,HH,ho,E,hm1⟩:=hI2;have wr:IntKind.i64.wrap ((i:Int)+1)=((i+1:Nat):Int):=by rw[wrapS]<;>omega
  unfold S.z103.b0
  (with_reducible refine W.cnd (fun hlt=>?_) (fun hlt=>?_)<;>(try simp only[qq,Kd.ty]at hlt)<;>(try (exfalso;omega)))
  ·obtain⟨a,ha⟩:=y3_ (xs:=o) (i:=i) (by omega)
   have hav:=hv a (List.mem_of_getElem? ha);obtain⟨v,rfl⟩:∃v:Nat,a=v:=⟨a.toNat,by omega⟩;obtain⟨k1,kp,kh,kq,km,ks,ksl,kl,kg,ka⟩:=E;have hou:=ho.up
   repeat' with_reducible first|refine W.bind ?_|refine W.asI ?_|refine W.asV ?_|refine W.fldp ?_|refine W.e2 ?_|refine W.nck ?_|refine W.u0 ?_
   refine W.mono (yeg_ (v:=v) kh HH.tn hn4 (by omega) (by omega)) fun r hr=>?_;obtain⟨r,τ5⟩:=r;obtain⟨T5,hs5,H5,kh,hm5⟩:=hr;dsimp only at H5 kh⊢
   repeat' (with_reducible refine W.next ?_)
   exact⟨by omega,wr,T5,hs5,HH.trans H5.he,ho.hop H5,⟨k1.hop H5,kp.hopH H5,kh,kq.hop H5,km,ks.hop H5,ksl,kl.hop H5,kg.hop H5,ka.hop H5⟩,fun x=>by rw[hm5,hm1]⟩
  ·repeat' (with_reducible refine W.stop ?_)
   exact⟨T1,hs1,HH,E,hm1⟩
 ·obtain⟨r,τ1⟩:=r
  obtain⟨T1,hs1,HH,E,hm1⟩:=hr;dsimp only at HH E⊢;obtain⟨k1,kp,kh,kq,km,ks,ksl,kl,kg,ka⟩:=E;have hn:=HH.tn
  repeat' with_reducible first|refine W.asI ?_|refine W.fldp ?_|refine W.nck ?_|refine W.u0 ?_
  refine W.stT k1 hn (Nat.le_of_ble_eq_true (by rfl)) fun τ2 H2 k1 hnτ2=>?_;replace HH:=HH.trans H2.oe;replace kp:=kp.hopO H2;replace kh:=kh.hopB H2;replace kq:=kq.hop H2;replace ka:=ka.hop H2;replace ks:=ks.hop H2;replace kl:=kl.hop H2;replace kg:=kg.hop H2;replace hn:=H2.tn
  repeat' with_reducible first|refine W.asI ?_|refine W.fldp ?_|refine W.nck ?_|refine W.u0 ?_
  (with_reducible refine W.cnd (fun hbm=>?_) (fun hbm=>?_)<;>(try simp only[qq,Kd.ty]at hbm)<;>(try (exfalso;omega)))
  ·repeat' (with_reducible refine W.bind ?_)
   refine W.mono (P:=fun r=>∃T' hs',Hop hI τ2 T1 r.2 T'/\HpI r.2 T' e.lh n hs'/\∀x,x∈hs'↔x∈hs) ?_ fun r hr=>?_
   ·refine W.loop 20 (fun i (z:Int) τ=>z=(i:Int)/\∃T' hs',Hop hI τ2 T1 τ T'/\Loc (τ.at T' 31) e.le [.ptr e.lp 0,.ptr e.lh 0,.ptr e.lq 0,xs,xl,xg,.int .i64 conf,.int .i64 (IntKind.i64.wrap (bump+IntKind.i64.wrap (Int.tdiv bump 16)))]/\HpI τ T' e.lh n hs'/\∀x,x∈hs'↔x∈hs) ⟨rfl,T1,hs1,Hop.refl HH.tn,k1,kh,hm1⟩ fun i z τ3 hi hI2=>?_
    obtain⟨rfl,T3,hs3,H3,k1,kh,hm3⟩:=hI2;have wr:IntKind.i64.wrap ((i:Int)+1)=((i+1:Nat):Int):=by rw[wrapS]<;>omega
    unfold S.z103.b1
    (with_reducible refine W.cnd (fun hlt=>?_) (fun hlt=>?_)<;>(try simp only[qq,Kd.ty]at hlt)<;>(try (exfalso;omega)))
    ·repeat' with_reducible first|refine W.bind ?_|refine W.asV ?_|refine W.fldp ?_|refine W.nck ?_|refine W.u0 ?_
     refine W.mono (yd1_ kh H3.tn hn4) fun r hr=>?_;obtain⟨r,τ5⟩:=r;obtain⟨T5,hs5,H5,kh,hm5⟩:=hr;dsimp only at H5 kh⊢
     repeat' (with_reducible refine W.next ?_)
     exact⟨by omega,wr,T5,hs5,H3.trans H5,k1.hop H5,kh,fun x=>by rw[hm5,hm3]⟩
    ·repeat' (with_reducible refine W.stop ?_)
     exact⟨T3,hs3,H3,kh,hm3⟩
   ·obtain⟨r,τ3⟩:=r
    obtain⟨T3,hs3,H3,kh,hm3⟩:=hr;dsimp only at H3 kh⊢;replace HH:=HH.trans H3.he;replace kp:=kp.hopH H3;replace kq:=kq.hop H3;replace ka:=ka.hop H3;replace k1:=k1.hop H3;replace ks:=ks.hop H3;replace kl:=kl.hop H3;replace kg:=kg.hop H3;replace hn:=H3.tn
    repeat' with_reducible first|refine W.asI ?_|refine W.fldp ?_|refine W.nck ?_|refine W.u0 ?_
    refine W.stT k1 hn (Nat.le_of_ble_eq_true (by rfl)) fun τ4 H4 k1 hnτ4=>?_
    repeat' with_reducible refine W.ret ?_
    exact⟨T3,hs3,HH.trans H4.oe,⟨_,_,_,_,_,_,_,_,_,k1,kp.hopO H4,kh.hopB H4,kq.hop H4,km,ks.hop H4,ksl,kl.hop H4,kg.hop H4,ka.hop H4⟩,hm3⟩
  ·repeat' with_reducible refine W.ret ?_
   exact⟨T1,hs1,HH,⟨_,_,_,_,_,_,_,_,_,k1,kp,kh,kq,km,ks,ksl,kl,kg,ka⟩,hm1⟩
theorem y79_(hS:StI n s):(s.backK 0).marks=[]:=by
 unfold PS.backK;cases hm:s.marks[0]? with
 |none=>
  have:=List.getElem?_eq_none_iff.1 hm;show s.marks=[];exact List.eq_nil_of_length_eq_zero (by omega)
 |some a'=>
  obtain⟨a,ea,_,_⟩:=hS.ti.mks 0 a' hm;subst ea;exact(hS.back hm).2.1
theorem AllB.push{ss:List (Bool×List Int)}{ws:List (Bool×AVal)}{b:Bool}{c:List Int}(h:AllB (σ.at T 0) ss ws)(hx:SlV .int (σ.at T 0) c x):AllB (σ.at T 0) (ss++[(b,c)]) (ws++[(b,x)]):=h.app (AllB.one (s:=(b,c)) hx)
def LgX(n i:Nat)(lg:List (Bool×List Int))(k:Nat)(lg':List (Bool×List Int)):Prop:=∃ds:List (Bool×List Int),lg'=lg++ds/\(∀d∈ds,d.1=true/\d.2.length<=n/\∀x∈d.2,isL x n=true)/\k+ds.length<=i
theorem LgX.zero{lg:List (Bool×List Int)}:LgX n 0 lg 0 lg:=⟨[],by simp,by simp,by simp⟩
theorem LgX.stay{i:Nat}{lg':List (Bool×List Int)}(h:LgX n i lg k lg'):LgX n (i+1) lg (k+1) lg':=by
 obtain⟨ds,h1,h2,h3⟩:=h;exact⟨ds,h1,h2,by omega⟩
theorem LgX.drop{i:Nat}{lg':List (Bool×List Int)}{c:List Int}(h:LgX n i lg k lg')(hc:c.length<=n/\∀x∈c,isL x n=true):LgX n (i+1) lg k (lg'++[(true,c)]):=by
 obtain⟨ds,h1,h2,h3⟩:=h;refine⟨ds++[(true,c)],by rw[h1,List.append_assoc],fun d hd=>?_,by simp;omega⟩;rcases List.mem_append.1 hd with q|q
 ·exact h2 d q
 ·rw[List.mem_singleton.1 q];exact⟨rfl,hc⟩
theorem ydx_(E:EnX σ T e n s hs ln lg since least)(hn:Tn σ T)(L:EnL gl n C s hs ln lg since least w)(hn4:n<=4000)(hw:w<=860000000000) :
  W (S.z108 (.ptr e.le 0) σ) fun r=>∃T' s' hs' ln' lg',Hop eI σ T r.2 T'/\EnX r.2 T' e n s' hs' ln' lg' since least/\EnL gl n C s' hs' ln' lg' since least (w+1)/\s'.marks=[]/\LgX n ln.length lg ln'.length lg':=by
 unfold S.z108;refine W.bind ?_;refine W.mono (y6a_ (k:=0) E hn L hn4) fun r hr=>?_;obtain⟨r,τ1⟩:=r;obtain⟨T1,hs1,HH,E,L⟩:=hr;dsimp only at HH E⊢;have hmk:=y79_ (s:=s) (n:=n) (by
  exact ‹EnL gl n C s hs ln lg since least w›.si)
 generalize s.backK 0=s1 at E L hmk;obtain⟨h,xs,xl,xg,conf,bump,most,sv,ws,E⟩:=E;have k1:=E.obj;have kl0:=E.lrn.slT;have hll:=L.z3
 repeat' with_reducible first|refine W.bind ?_|refine W.asV ?_|refine W.fldp ?_|refine W.len (by assumption) ?_|refine W.nck ?_|refine W.u0 ?_
 refine W.mono (P:=fun r=>∃T' s' ln' lg' h' xg' ws',Hop eI σ T r.2 T'/\EnH r.2 T' e n s' hs1 ln lg' since least h' xs xl xg' conf bump most sv ws'/\Own vLn (r.2.at T' 35) ln' r.1/\EnL gl n C s' hs1 ln' lg' since least (w+1)/\s'.marks=[]/\LgX n ln.length lg ln'.length lg') ?_ fun r hr=>?_
 ·refine W.loop ln.length (fun i (z:AVal×Int) τ=>z.2=(i:Int)/\∃T' s' st lg' h' xg' ws',Hop eI σ T τ T'/\EnH τ T' e n s' hs1 ln lg' since least h' xs xl xg' conf bump most sv ws'/\Own vLn (τ.at T' 35) st z.1/\EnL gl n C s' hs1 (st++ln.drop i) lg' since least (w+1)/\s'.marks=[]/\st.length<=i/\LgX n i lg st.length lg') ⟨rfl,T1,s1,[],lg,h,xg,ws,HH,E,.nil,by simpa using L,hmk,by simp,.zero⟩ fun i z τ2 hi hI2=>?_
  obtain⟨z,zi⟩:=z;obtain⟨hz,T2,s2,st,lg2,h2,xg2,ws2,HH,E,kS,L,hmk,hst,hX⟩:=hI2;dsimp only at hz kS⊢;subst hz;have wr:IntKind.i64.wrap ((i:Int)+1)=((i+1:Nat):Int):=by rw[wrapS]<;>omega
  unfold S.z108.b0
  (with_reducible refine W.cnd (fun hlt=>?_) (fun hlt=>?_)<;>(try simp only[qq,Kd.ty]at hlt)<;>(try (exfalso;omega)))
  ·obtain⟨⟨idv,score⟩,ha⟩:=y3_ (xs:=ln) (i:=i) (by omega)
   have hdr:ln.drop i=(idv,score)::ln.drop (i+1):=by
    rw[List.drop_eq_getElem_cons (by omega)];rw[(List.getElem?_eq_some_iff.1 ha).2]
   rw[hdr]at L;obtain⟨id,c,f,eid,hc⟩:=L.lnI (idv,score) (by simp);dsimp only at eid;subst eid;have ht:=L.si.ti;have hcn:=L.si.ci.len hc;have hcL:=(L.si.ci id c f hc).1;have hlg:=L.z4;have hlgw:lg2.length<=2*w+2:=by omega
   repeat' (with_reducible refine W.bind ?_)
   refine W.ixO E.lrn.slT (i:=i) (by omega) ?_;refine W.ldGO E.lrn.slT ha [.int .i64 (id:Int),.int .i64 score] (fun bs h=>h) ?_;have hn:=HH.tn;refine W.newT 28 hn fun l12 τ3 T3 hl12 H3 k28 hnτ3=>?_;replace HH:=HH.trans H3.oe;replace E:=E.hopE H3;replace kS:=kS.hop H3
   repeat' (with_reducible refine W.e3 ?_)
   have hn:=HH.tn;refine W.stT k28 hn (Nat.le_of_ble_eq_true (by rfl)) fun τ4 H4 k28 hnτ4=>?_;replace HH:=HH.trans H4.oe;replace E:=E.hopE H4;replace kS:=kS.hop H4;obtain⟨k1,kp,kh,kq,km,ks,ksl,kl,kg,ka⟩:=E
   repeat' with_reducible first|refine W.bind ?_|refine W.asI ?_|refine W.asV ?_|refine W.fldp ?_|refine W.nck ?_|refine W.u0 ?_
   refine W.mono (y1n_ kp HH.tn hc (by omega)) fun r hr=>?_;obtain⟨y,τ5⟩:=r;obtain⟨L5,hy⟩:=hr;dsimp only at L5 hy⊢;rw[if_pos rfl]at hy;replace HH:=HH.hle L5;replace kp:=kp.hle L5;replace kh:=kh.hle L5;replace kq:=kq.hle L5;replace ka:=ka.hle L5;replace k1:=k1.hle L5;replace ks:=ks.hle L5;replace kl:=kl.hle L5;replace kg:=kg.hle L5;replace kS:=kS.hle L5;replace k28:=k28.hle L5;have hyu:=hy.up
   repeat' with_reducible first|refine W.bind ?_|refine W.asI ?_|refine W.asV ?_|refine W.fldp ?_|refine W.nck ?_|refine W.u0 ?_
   refine W.mono (yjc_ kq HH.tn) fun r hr=>?_;obtain⟨kb,τ6⟩:=r;obtain⟨H6,kq⟩:=hr;dsimp only at H6 kq⊢;replace HH:=HH.trans H6.oe;replace kp:=kp.hopO H6;replace kh:=kh.hopB H6;replace ka:=ka.hop H6;replace kS:=kS.hop H6;replace k28:=k28.hop H6;replace hy:=hy.hop H6;replace k1:=k1.hop H6;replace ks:=ks.hop H6;replace kl:=kl.hop H6;replace kg:=kg.hop H6;replace hn:=H6.tn;have hyu:=hy.up;refine W.mono (P:=fun r=>(r.1=true/\r.2=τ6)\/(r.1=false/\(∀x∈s2.trail,x∈c->s2.re x≠id)/\∃T' h',Hop pI τ6 T3 r.2 T'/\PropH r.2 T' e.lp h' (s2.dropC id f))) ?_ fun r hr=>?_
   ·cases kb with
    |true=>
     refine W.condT rfl ?_
     repeat' with_reducible refine W.ret ?_
     exact .inl ⟨rfl,rfl⟩
    | false=>
     refine W.condF rfl ?_
     repeat' (with_reducible refine W.len (by assumption) ?_)
     (with_reducible refine W.cnd (fun hl2=>?_) (fun hl2=>?_)<;>(try simp only[qq,Kd.ty]at hl2)<;>(try (exfalso;omega)))
     ·repeat' with_reducible refine W.ret ?_
      exact .inl ⟨rfl,rfl⟩
     ·repeat' with_reducible first|refine W.bind ?_|refine W.asI ?_|refine W.asV ?_|refine W.fldp ?_|refine W.nck ?_|refine W.u0 ?_
      refine W.mono (yeh_ kp HH.tn ht hn4 hc hcL (by omega)) fun r hr=>?_;rcases hr with er|⟨e1,e2,e3⟩
      ·subst er
       repeat' with_reducible refine W.ret ?_
       exact .inl ⟨rfl,rfl⟩
      ·obtain⟨r,τ7⟩:=r
       dsimp only at e1 e3⊢;subst e1
       repeat' with_reducible refine W.ret ?_
       exact .inr ⟨rfl,e2,e3⟩
   ·obtain⟨b,τ7⟩:=r
    rcases hr with ⟨e1,e2⟩|⟨e1,e2,T7,h7,H7,kp⟩
    ·dsimp only at e1 e2⊢
     subst e1 e2;refine W.condT rfl ?_
     repeat' with_reducible first|refine W.e3 ?_|refine W.putC (by with_unfolding_all rfl) ?_|refine W.u1 ?_
     refine W.own_push (bytes:=16) y33_ kS HH.tn (a:=((id:Int),score)) rfl (by omega) (by omega) fun x2 τ8 T8 kS H8=>?_
     repeat' with_reducible first|refine W.next ?_|refine W.ret ?_
     refine⟨by omega,wr,T8,s2,st++[((id:Int),score)],lg2,h2,xg2,ws2,HH.trans H8.oe,EnH.hopE ⟨k1,kp,kh,kq,km,ks,ksl,kl,kg,ka⟩ H8,kS,by rw[List.append_assoc];exact L,hmk,by simp;omega,by rw[List.length_append];exact hX.stay⟩
    ·dsimp only at e1 H7 kp⊢
     subst e1;refine W.condF rfl ?_;replace HH:=HH.trans H7.pe;replace kh:=kh.hopP H7;replace kq:=kq.hop H7;replace ka:=ka.hop H7;replace kS:=kS.hop H7;replace hy:=hy.hop H7;have hyu:=hy.up;replace k1:=k1.hop H7;replace ks:=ks.hop H7;replace kl:=kl.hop H7;replace kg:=kg.hop H7;replace hn:=H7.tn;have hwl:=ka.1
     repeat' with_reducible first|refine W.asV ?_|refine W.fldp ?_|refine W.scalS (by assumption) ?_|refine W.nck ?_|refine W.u0 ?_
     refine W.own_push (bytes:=32) y7t_ kg HH.tn (a:=(true,y)) rfl (by omega) (by omega) fun x2 τ8 T8 kg H8=>?_;replace HH:=HH.trans H8.oe;replace kp:=kp.hopO H8;replace kh:=kh.hopB H8;replace kq:=kq.hop H8;replace ka:=ka.hop H8;replace kS:=kS.hop H8;replace hy:=hy.hop H8;replace k1:=k1.hop H8;replace ks:=ks.hop H8;replace kl:=kl.hop H8;replace hn:=H8.tn
     repeat' with_reducible first|refine W.fldp ?_|refine W.nck ?_|refine W.u4 ?_
     refine W.stT k1 hn (Nat.le_of_ble_eq_true (by rfl)) fun τ9 H9 k1 hnτ9=>?_;replace HH:=HH.trans H9.oe;replace kp:=kp.hopO H9;replace kh:=kh.hopB H9;replace kq:=kq.hop H9;replace ka:=ka.hop H9;replace kS:=kS.hop H9;replace hy:=hy.hop H9;replace ks:=ks.hop H9;replace kl:=kl.hop H9;replace kg:=kg.hop H9;replace hn:=H9.tn
     repeat' with_reducible first|refine W.next ?_|refine W.ret ?_
     exact⟨by omega,wr,T8,s2.dropC id f,st,_,h7,x2,_,HH,⟨k1,kp,kh,kq,km,ks,ksl,kl,kg,ka.push hy⟩,kS,L.drop hc e2,hmk,by omega,hX.drop ⟨hcn,hcL⟩⟩
  ·repeat' (with_reducible refine W.stop ?_)
   have:i=ln.length:=by omega
   subst this;rw[List.drop_length,List.append_nil]at L;exact⟨T2,s2,st,lg2,h2,xg2,ws2,HH,E,kS,L,hmk,hX⟩
 ·obtain⟨z,τ2⟩:=r
  obtain⟨T2,s2,st,lg2,h2,xg2,ws2,HH,E,kS,L,hmk,hX⟩:=hr;dsimp only at HH E kS⊢;obtain⟨T3,H3,kS⟩:=kS.retag (u:=33) y33_ HH.tn;replace HH:=HH.trans H3.oe;obtain⟨k1,kp,kh,kq,km,ks,ksl,kl,kg,ka⟩:=E.hopE H3
  repeat' with_reducible first|refine W.fldp ?_|refine W.nck ?_|refine W.u4 ?_
  have hn:=HH.tn;refine W.stT k1 hn (Nat.le_of_ble_eq_true (by rfl)) fun τ4 H4 k1 hnτ4=>?_
  repeat' with_reducible refine W.ret ?_
  exact⟨T3,s2,hs1,st,lg2,HH.trans H4.oe,⟨_,_,_,_,_,_,_,_,_,k1,kp.hopO H4,kh.hopB H4,kq.hop H4,km,ks.hop H4,ksl,kS.hop H4,kg.hop H4,ka.hop H4⟩,L,hmk,hX⟩
end
end
section
open Go
section
variable{σ τ:Heap}{T T':Tg}{e:EnP}{n k id:Nat}{s:PS}{hs:List Int}{ln:List (Int×Int)}{lg:List (Bool×List Int)}{since least:Int}{h:PH}{xs xl xg x:AVal}{conf bump most:Int}{sv o c:List Int}{ws:List (Bool×AVal)}{gl f:Bool}{C:List (List Int)}{w:Nat}
theorem yf6_(hd:(c.map Int.natAbs).Nodup):(normL c).Perm c:=by
 have h1:c.Nodup:=by
  unfold List.Nodup at hd⊢;rw[List.pairwise_map]at hd;exact hd.imp fun hne e=>hne (by rw[e])
 exact(List.perm_ext_iff_of_nodup (ycv_ c) h1).2 fun x=>yd_
theorem yd0_(hS:StI n s)(L:Lrn n s c){b a:Nat}(hm:s.marks[b]?=some (a:Int))(h1:∀y∈c.tail,s.lv y<=b)(h2:b=0\/∃y∈c.tail,s.lv y=b):Ready ((s.back b a).addC (normL c)) s.cls.length:=by
 obtain⟨u,t,e,hu,ht⟩:=L.hd;subst e;obtain⟨g0,g1,g2,g3,g4,g5,g6,g7,g8,g9,g10⟩:=hS.back hm;have hbl:=y2_ hm;have hP:=yf6_ L.nd;have hum:u∈u::t:=by simp
 have htl:∀y∈t,-y∈s.trail.take a:=fun y hy=>by
  have h3:=L.fs y (by simp[hy]);exact(g9 _ h3.1).2 (by rw[PS.lv_neg];exact h1 y hy)
 have hvu:val (s.back b a).vs u=0:=by
  have h3:=L.fs u hum;rw[g10,if_neg fun q=>hS.ti.notBoth (List.mem_of_mem_take q) h3.1,if_neg fun q=>?_];have:=(g9 _ h3.1).1 q;rw[PS.lv_neg]at this;omega
 have hvy:∀y∈t,val (s.back b a).vs y=2:=fun y hy=>by
  have h3:=htl y hy;rw[g10,if_neg fun q=>g0.ti.notBoth (by rw[g2];exact q) (by rw[g2];exact h3),if_pos h3]
 refine⟨normL (u::t),true,?_,u,yd_.2 hum,hvu,fun y hy hne=>?_,fun hl=>?_,fun hl=>?_⟩
 ·have:=y66_ (s:=s.back b a) (c:=normL (u::t))
  rwa [g3]at this
 ·have:=yd_.1 hy
  rcases List.mem_cons.1 this with q|q
  ·exact absurd q hne
  ·exact hvy y q
 ·rw[hP.length_eq]at hl
  rcases h2 with q|⟨y,hy,q⟩
  ·exfalso
   subst q;cases t with
   |nil=>simp at hl
   |cons y t=>
    have h3:=(L.fs y (by simp)).2;have h4:=h1 y (by simp);omega
  ·refine⟨y,yd_.2 (by simp at hy⊢;exact .inr hy),fun e=>?_,?_⟩
   ·subst e
    have:=ht y hy;omega
   ·have h3:=g8 _ (htl y hy)
    rw[PS.lv_neg,PS.lv_neg]at h3;show(s.back b a).lv y=((s.back b a).marks.length:Int);rw[h3,q,g1];simp;omega
 ·rw[hP.length_eq]at hl
  have:t=[]:=by
   cases t with
   |nil=>rfl
   |cons y t=>simp at hl
  subst this;rcases h2 with q|⟨y,hy,_⟩
  ·subst q
   show(s.back 0 a).marks=[];rw[g1];simp
  ·simp at hy
def LgS(n:Nat)(ln:List (Int×Int))(lg:List (Bool×List Int))(ln':List (Int×Int))(lg':List (Bool×List Int)):Prop:=∃k:List Int,(k.length<=n/\∀x∈k,isL x n=true)/\LgX n (ln.length+1) (lg++[(false,k)]) ln'.length lg'
theorem yhe_(E:EnX σ T e n s hs ln lg since least)(hn:Tn σ T)(L:EnL gl n C s hs ln lg since least w)(hn4:n<=4000)(hw:w<=851000000000)(hm:0<s.marks.length)(hlo:s.loose=[])(hc:s.cls[id]?=some (c,true,f))(hf:∀y∈c,val s.vs y=2)(hx:∃y∈c,s.lv y=s.marks.length) :
  W (S.z106 (.ptr e.le 0) (id:Int) σ) fun r=>r.1=true/\∃T' s' hs' ln' lg' since' least',Hop eI σ T r.2 T'/\EnX r.2 T' e n s' hs' ln' lg' since' least'/\EnL gl n C s' hs' ln' lg' since' least' (w+4) /\
   ((since'=since+1/\least'=least/\∃(b a:Nat) (k:List Int),s.marks[b]?=some (a:Int)/\s'=(s.back b a).addC (normL k)/\Ready s' s.cls.length)\/(s'.marks=[]/\since'=0/\least'=least+8/\least<=since+1))/\LgS n ln lg ln' lg':=by
 have hti:=L.si.ti;have hci:=L.si.ci;have z5:=L.z5;have z6:=L.z6;obtain⟨h,xs,xl,xg,conf,bump,most,sv,ws,E⟩:=E;obtain⟨k1,kp,kh,kq,km,ks,ksl,kl,kg,ka⟩:=E;unfold S.z106
 repeat' with_reducible first|refine W.asI ?_|refine W.fldp ?_|refine W.nck ?_|refine W.u0 ?_
 refine W.stT k1 hn (Nat.le_of_ble_eq_true (by rfl)) fun τ1 H1 k1 hnτ1=>?_;have HH:Hop eI σ T τ1 T:=H1.oe;replace kp:=kp.hopO H1;replace kh:=kh.hopB H1;replace kq:=kq.hop H1;replace ka:=ka.hop H1;replace ks:=ks.hop H1;replace kl:=kl.hop H1;replace kg:=kg.hop H1;replace hn:=H1.tn
 repeat' with_reducible first|refine W.bind ?_|refine W.asV ?_|refine W.fldp ?_|refine W.nck ?_|refine W.u0 ?_
 refine W.mono (yex_ kq HH.tn km (by omega)) fun r hr=>?_;obtain⟨b,τ2⟩:=r;obtain⟨e2,H2,kq⟩:=hr;dsimp only at e2 H2 kq⊢;subst e2;replace HH:=HH.trans H2.oe;replace kp:=kp.hopO H2;replace kh:=kh.hopB H2;replace ka:=ka.hop H2;replace k1:=k1.hop H2;replace ks:=ks.hop H2;replace kl:=kl.hop H2;replace kg:=kg.hop H2;replace hn:=H2.tn;refine W.condF rfl ?_
 repeat' with_reducible first|refine W.bind ?_|refine W.asV ?_|refine W.fldp ?_|refine W.nck ?_|refine W.u0 ?_
 refine W.mono (yk0_ kp HH.tn hti hci hn4 hm hc hf hx) fun r hr=>?_;obtain⟨r,τ3⟩:=r;obtain⟨T3,xc,bk,sco,xsn,c1,o,H3,er,q1',q2',hL1,hov,hol⟩:=hr;dsimp only at er H3 q1' q2'⊢;subst er;replace HH:=HH.trans H3.te;have E3:EnH τ3 T3 e n s hs ln lg (since+1) least h xs xl xg _ bump most sv ws:=EnH.hopT ⟨k1,kp,kh,kq,km,ks,ksl,kl,kg,ka⟩ H3
 clear k1 kp kh kq ks kl kg ka
 dsimp only;have hn:=HH.tn;refine W.newT 35 hn fun l11 τ4 T4 hl11 H4 k29 hnτ4=>?_;replace HH:=HH.trans H4.oe;replace E3:=E3.hopE H4;replace q1':=q1'.hop H4;replace q2':=q2'.hop H4
 repeat' (with_reducible refine W.e3 ?_)
 have hn:=HH.tn;refine W.stT k29 hn (Nat.le_of_ble_eq_true (by rfl)) fun τ5 H5 k29 hnτ5=>?_;replace HH:=HH.trans H5.oe;replace E3:=E3.hopE H5;replace q1':=q1'.hop H5;replace q2':=q2'.hop H5;have k1:=E3.obj;refine W.condF rfl ?_
 repeat' with_reducible first|refine W.bind ?_|refine W.asV ?_|refine W.fldp ?_|refine W.nck ?_|refine W.u0 ?_
 refine W.mono (ygf_ E3.prop HH.tn hti hci hn4 hL1 q1') fun r hr=>?_;obtain⟨y,τ6⟩:=r;obtain⟨T6,k,H6,hk,hLk,_⟩:=hr;dsimp only at H6 hk⊢;obtain⟨hkL,hkn⟩:=hLk.lits hti;replace HH:=HH.trans H6.te;replace E3:=E3.hopT H6;replace q2':=q2'.hop H6;replace k29:=k29.hop H6;have k1:=E3.obj
 repeat' with_reducible first|refine W.bind ?_|refine W.asV ?_|refine W.fldp ?_|refine W.nck ?_|refine W.u0 ?_
 refine W.mono (yd5_ E3.prop hti hn4 HH.tn (t:=0) rfl hk hkL (by omega)) fun r hr=>?_;obtain⟨score,τ7⟩:=r;obtain⟨T7,H7⟩:=hr;dsimp only at H7⊢;replace HH:=HH.trans H7.oe;replace E3:=E3.hopE H7;replace q2':=q2'.hop H7;replace hk:=hk.hop H7;replace k29:=k29.hop H7;have k1:=E3.obj;have hkne:k≠[]:=by
  obtain⟨u,t,e,_⟩:=hLk.hd;rw[e];simp
 repeat' with_reducible first|refine W.bind ?_|refine W.asV ?_|refine W.fldp ?_|refine W.nck ?_|refine W.u0 ?_
 refine W.mono (y77_ E3.prop hti hn4 hk.up hkne hkL (by omega)) fun bk hbk=>?_;obtain⟨hb0,hb1,hb2⟩:=hbk;obtain⟨b,rfl⟩:∃b:Nat,bk=b:=⟨bk.toNat,by omega⟩;have hbm:b<s.marks.length:=by
  obtain⟨u,t,e,hu,ht⟩:=hLk.hd;rcases hb2 with q|⟨y,hy,q⟩
  ·omega
  ·rw[e]at hy
   have:=ht y (by simpa using hy);omega
 obtain⟨am,hma⟩:=y3_ (xs:=s.marks) (i:=b) hbm;obtain⟨a,ea,_,_⟩:=hti.mks b am hma;subst ea
 repeat' with_reducible first|refine W.bind ?_|refine W.asV ?_|refine W.u0 ?_
 have L1:EnL gl n C s hs ln lg (since+1) least (w+1):=(L.more (Nat.le_succ w)).pace (by omega) (by omega);refine W.mono (yez_ ⟨_,_,_,_,_,_,_,_,_,E3⟩ HH.tn hn4 q2' hov (by omega)) fun r hr=>?_;obtain⟨r,τ8⟩:=r;obtain⟨T8,hs8,H8,E8,hm8⟩:=hr;dsimp only at H8 E8⊢;replace HH:=HH.trans H8;replace hk:=hk.hop H8;have L8:EnL gl n C s hs8 ln lg (since+1) least (w+1):=L1.heap fun v h1 h2 h3=>(hm8 _).2 (L1.hp v h1 h2 h3);refine W.bind ?_;refine W.mono (y6a_ (k:=b) E8 HH.tn L8 hn4) fun r hr=>?_;obtain⟨r,τ9⟩:=r;obtain⟨T9,hs9,H9,E9,L9⟩:=hr;dsimp only at H9 E9⊢;replace HH:=HH.trans H9;replace hk:=hk.hop H9;have eb:s.backK b=s.back b a:=by unfold PS.backK;rw[hma];rfl
 rw[eb]at E9 L9;have hRdy:=yd0_ L.si hLk hma hb1 (hb2.imp (fun q=>by omega) fun q=>q);obtain⟨_,g1,g2,g3,g4,g5,_⟩:=L.si.back hma;have hdbE:(s.back b a).db=s.db:=by unfold PS.db;rw[g3]
 have hL10:EnL gl n C ((s.back b a).addC (normL k)) hs9 (ln++[((s.cls.length:Int),score)]) (lg++[(false,k)]) (since+1) least (w+1+1+1):=by
  have:=L9.learn hkL hLk.nd (by rw[hdbE];exact hLk.conf) (score:=score)
  rwa [g3]at this
 have z1:=L9.z1;have z2:=L9.z2;obtain⟨h9,xs9,xl9,xg9,conf9,bump9,most9,sv9,ws9,k1,kp,kh,kq,km,ks,ksl,kl,kg,ka⟩:=E9;have hwat:∀w'∈(s.back b a).wat,w'.length+10<=8700000000000:=fun w' hw'=>by
  have:=y6l_ hw';omega
 repeat' with_reducible first|refine W.bind ?_|refine W.asV ?_|refine W.fldp ?_|refine W.nck ?_|refine W.u0 ?_
 refine W.mono (yaj_ (n:=n) kp HH.tn L9.si.ti.len hn4 hk (by
  rw[List.all_eq_true];exact fun l hl=>y6r_ (hkL l hl) hn4) (by omega) (by omega) (by omega) hwat) fun r hr=>?_
 have hgood:y2f_ n k=false:=by
  unfold y2f_;rw[y8s_ hLk.nd];simp only[Bool.not_true,Bool.false_or,List.any_eq_false];intro l hl;simp[hkL l (yd_.1 hl)]
 obtain⟨r,τ10⟩:=r;obtain⟨T10,h10,H10,hr⟩:=hr;rcases hr with ⟨q,_⟩|⟨_,er,kp⟩
 ·rw[hgood]at q;cases q
 dsimp only at H10 er kp⊢;subst er;rw[ygn_]at kp;replace HH:=HH.trans H10.pe;replace hk:=hk.hop H10;replace kh:=kh.hopP H10;replace kq:=kq.hop H10;replace ka:=ka.hop H10;replace k1:=k1.hop H10;replace ks:=ks.hop H10;replace kl:=kl.hop H10;replace kg:=kg.hop H10;replace hn:=H10.tn;refine W.bind ?_;refine W.condT rfl ?_;rw[g3];have z3:=L9.z3;have z4:=L9.z4;have hwl:=ka.1
 repeat' with_reducible first|refine W.asV ?_|refine W.fldp ?_|refine W.nck ?_|refine W.u0 ?_
 refine W.own_push (bytes:=16) y33_ kl HH.tn (a:=((s.cls.length:Int),score)) rfl (by omega) (by omega) fun x2 τ11 T11 kl H11=>?_;replace HH:=HH.trans H11.oe;replace hk:=hk.hop H11;replace kp:=kp.hopO H11;replace kh:=kh.hopB H11;replace kq:=kq.hop H11;replace ka:=ka.hop H11;replace k1:=k1.hop H11;replace ks:=ks.hop H11;replace kg:=kg.hop H11;replace hn:=H11.tn
 repeat' with_reducible first|refine W.fldp ?_|refine W.nck ?_|refine W.u4 ?_
 refine W.stT k1 hn (Nat.le_of_ble_eq_true (by rfl)) fun τ12 H12 k1 hnτ12=>?_;replace HH:=HH.trans H12.oe;replace hk:=hk.hop H12;replace kp:=kp.hopO H12;replace kh:=kh.hopB H12;replace kq:=kq.hop H12;replace ka:=ka.hop H12;replace ks:=ks.hop H12;replace kl:=kl.hop H12;replace kg:=kg.hop H12;replace hn:=H12.tn;have hku:=hk.up
 repeat' with_reducible first|refine W.ret ?_|refine W.asV ?_|refine W.fldp ?_|refine W.scalS (by assumption) ?_|refine W.nck ?_|refine W.u0 ?_
 refine W.own_push (bytes:=32) y7t_ kg HH.tn (a:=(false,y)) rfl (by omega) (by omega) fun x3 τ13 T13 kg H13=>?_;replace HH:=HH.trans H13.oe;replace hk:=hk.hop H13;replace kp:=kp.hopO H13;replace kh:=kh.hopB H13;replace kq:=kq.hop H13;replace ka:=ka.hop H13;replace k1:=k1.hop H13;replace ks:=ks.hop H13;replace kl:=kl.hop H13;replace hn:=H13.tn
 repeat' with_reducible first|refine W.fldp ?_|refine W.nck ?_|refine W.u4 ?_
 refine W.stT k1 hn (Nat.le_of_ble_eq_true (by rfl)) fun τ14 H14 k1 hnτ14=>?_;replace HH:=HH.trans H14.oe;replace hk:=hk.hop H14;replace kp:=kp.hopO H14;replace kh:=kh.hopB H14;replace kq:=kq.hop H14;replace ka:=ka.hop H14;replace ks:=ks.hop H14;replace kl:=kl.hop H14;replace kg:=kg.hop H14;replace hn:=H14.tn
 repeat' with_reducible first|refine W.bind ?_|refine W.asV ?_|refine W.fldp ?_|refine W.nck ?_|refine W.u0 ?_
 refine W.mono (ygi_ kq HH.tn (by omega)) fun r hr=>?_;obtain⟨rb,τ15⟩:=r;obtain⟨since',least',H15,kq,hcase⟩:=hr;dsimp only at H15 kq hcase⊢;replace HH:=HH.trans H15.oe;have E15:EnX τ15 T13 e n ((s.back b a).addC (normL k)) hs9 (ln++[((s.cls.length:Int),score)]) (lg++[(false,k)]) since' least':=⟨_,_,_,_,_,_,_,_,_,k1.hop H15,kp.hopO H15,kh.hopB H15,kq,km,ks.hop H15,ksl,kl.hop H15,kg.hop H15,(ka.push hk).hop H15⟩;rcases hcase with ⟨er,es,el⟩|⟨er,hls,es,el⟩
 ·subst er es el
  refine W.bind ?_;refine W.condF rfl ?_
  repeat' with_reducible refine W.ret ?_
  exact⟨rfl,T13,_,hs9,_,_,_,_,HH,E15,hL10.more (by omega),.inl ⟨rfl,rfl,b,a,k,hma,rfl,hRdy⟩,k,⟨hkn,hkL⟩,[],by simp,by simp,by simp⟩
 ·subst er es el
  refine W.bind ?_;refine W.condT rfl ?_;have hL15:EnL gl n C ((s.back b a).addC (normL k)) hs9 (ln++[((s.cls.length:Int),score)]) (lg++[(false,k)]) 0 (least+8) (w+1+1+1):=hL10.pace (by omega) (by omega);refine W.bind ?_;refine W.mono (ydx_ E15 HH.tn hL15 hn4 (by omega)) fun r hr=>?_;obtain⟨r,τ16⟩:=r;obtain⟨T16,s16,hs16,ln16,lg16,H16,E16,L16,hm16,hX16⟩:=hr
  repeat' with_reducible refine W.ret ?_
  exact⟨rfl,T16,s16,hs16,ln16,lg16,_,_,HH.trans H16,E16,L16,.inr ⟨hm16,rfl,rfl,hls⟩,k,⟨hkn,hkL⟩,by rw[List.length_append]at hX16;exact hX16⟩
end
end
section
open Go
theorem yg0_{α:Type}[BEq α][LawfulBEq α]:∀{xs ys:List α},xs.Nodup->(∀x∈xs,x∈ys)->xs.length<=ys.length
 |[],ys,_,_=>by simp
 |a::t,ys,hn,h=>by
  obtain⟨h1,h2⟩:=List.nodup_cons.1 hn;have:=yg0_ (xs:=t) (ys:=ys.erase a) h2 fun x hx=>(List.mem_erase_of_ne (show x≠a from fun e=>h1 (by rw[<-e];exact hx))).2 (h x (by simp[hx]));have h3:=List.length_erase_of_mem (h a (by simp));have h4:=List.length_pos_of_mem (h a (by simp));simp;omega
theorem W.mk0T{α R:Type}{Q:R->Prop}{v:Vw α}(t:Nat){σ:Heap}{T:Tg}(hn:Tn σ T){n bytes sz:Nat}{z:List AVal}(hsz:sz=v.sz)(hb:n*bytes<=70368744177664)(hb':n<=70368744177664){K:AVal->Heap->Option R}
  (c:∀x τ T',Hop (only t) σ T τ T'->Own v (τ.at T' t) [] x->W (K x τ) Q):W (mkS σ sz bytes z 0 (n:Int) K) Q:=by
 subst hsz;have e:mkS σ v.sz bytes z 0 (n:Int) K=K (.sl σ.next 0 0 none) (σ.new (.cells .rw v.sz (rep n z))):=by
  simp only[mkS,newK];rw[if_pos ⟨by omega,by omega,by omega,by omega⟩,Int.toNat_natCast];rfl
 refine W.to e (c _ _ (T.upd σ.next t) (y28_ hn) (.inr ⟨σ.next,0,none,_,rfl,Nat.lt_succ_self _,at_of y14_ (by rw[yi_,if_pos rfl]),(fun k e=>by cases e),by simp,fun i b hi=>by simp at hi⟩))
section
variable{σ τ:Heap}{T T':Tg}{e:EnP}{n k id:Nat}{s:PS}{hs:List Int}{ln:List (Int×Int)}{lg:List (Bool×List Int)}{since least:Int}{h:PH}{xs xl xg x:AVal}{conf bump most:Int}{sv o c A core:List Int}{ws:List (Bool×AVal)}{gl f:Bool}{C:List (List Int)}{w:Nat}
theorem ybd_(E:EnX σ T e n s hs ln lg since least)(hn:Tn σ T)(L:EnL gl n C s hs ln lg since least w)(hw:w<=860000000000)(hc:SlV .int (σ.at T 0) core x)(hcl:core.length<=100000)(hcb:∀l∈core,inB l=true)(hC:Conf s.db core) :
  W (S.z104 (.ptr e.le 0) x σ) fun r=>∃T',Hop eI σ T r.2 T'/\r.1=.agg [.bool false,.nils,x]/\EnX r.2 T' e n s hs ln (lg++[(false,negs core)]) since least/\EnL gl n C s hs ln (lg++[(false,negs core)]) since least (w+1):=by
 have L':=L.final hC;have z4:=L.z4;obtain⟨h,xs,xl,xg,conf,bump,most,sv,ws,E⟩:=E;have hcu:=hc.up;unfold S.z104;refine W.newT 35 hn fun l1 τ1 T1 hl1 H1 k35 hnτ1=>?_;have HH:Hop eI σ T τ1 T1:=H1.oe;replace E:=E.hopE H1;replace hc:=hc.hop H1
 repeat' (with_reducible refine W.len (by assumption) ?_)
 refine W.mk0T (v:=.int) 28 HH.tn rfl (by omega) (by omega) fun y τ2 T2 H2 k28=>?_;replace HH:=HH.trans H2.oe;replace E:=E.hopE H2;replace hc:=hc.hop H2;replace k35:=k35.hop H2
 repeat' with_reducible first|refine W.bind ?_|refine W.len (by assumption) ?_
 refine W.mono (P:=fun r=>∃T',Hop (only 28) τ2 T2 r.2 T'/\Own .int (r.2.at T' 28) (negs core) r.1) ?_ fun r hr=>?_
 ·refine W.loop core.length (fun i (z:AVal×Int) τ=>z.2=(i:Int)/\∃T',Hop (only 28) τ2 T2 τ T'/\SlV .int (τ.at T' 0) core x/\Own .int (τ.at T' 28) (negs (core.take i)) z.1) ⟨rfl,T2,Hop.refl HH.tn,hc,k28⟩ fun i z τ3 hi hI2=>?_
  obtain⟨z,zi⟩:=z;obtain⟨hz,T3,H3,hc,k28⟩:=hI2;dsimp only at hz k28;subst hz;have wr:IntKind.i64.wrap ((i:Int)+1)=((i+1:Nat):Int):=by rw[wrapS]<;>omega
  unfold S.z104.b0
  (with_reducible refine W.cnd (fun hlt=>?_) (fun hlt=>?_)<;>(try simp only[qq,Kd.ty]at hlt)<;>(try (exfalso;omega)))
  ·obtain⟨a,ha⟩:=y3_ (xs:=core) (i:=i) (by omega)
   have hab:=hcb a (List.mem_of_getElem? ha);simp only[inB,Bool.and_eq_true,decide_eq_true_eq]at hab;have wa:IntKind.i64.wrap (0-a) = -a:=by rw[wrapS]<;>omega
   have hcu:=hc.up
   repeat' (with_reducible refine W.e2 ?_)
   rw[wa];refine W.own_push (bytes:=8) Vw.int_flat k28 H3.tn (a:=-a) rfl (by simp;omega) (by simp;omega) fun x2 τ4 T4 k28 H4=>?_
   repeat' (with_reducible refine W.next ?_)
   have htk:core.take (i+1)=core.take i++[a]:=by rw[List.take_add_one,ha];rfl
   refine⟨by omega,wr,T4,H3.trans H4,hc.hop H4,?_⟩;rw[htk,show negs (core.take i++[a])=negs (core.take i)++[-a] by simp[negs]];exact k28
  ·repeat' (with_reducible refine W.stop ?_)
   rw[List.take_of_length_le (by omega)]at k28;exact⟨T3,H3,k28⟩
 ·obtain⟨y2,τ3⟩:=r
  obtain⟨T3,H3,k28⟩:=hr;dsimp only at H3 k28⊢;replace HH:=HH.trans H3.oe;replace E:=E.hopE H3;replace hc:=hc.hop H3;replace k35:=k35.hop H3;obtain⟨T4,H4,k0⟩:=k28.retag (u:=0) Vw.int_flat HH.tn;replace HH:=HH.trans H4.oe;obtain⟨k1,kp,kh,kq,km,ks,ksl,kl,kg,ka⟩:=E.hopE H4;replace hc:=hc.hop H4;replace k35:=k35.hop H4;replace k0:=k0.sl;have k0u:=k0.up;have hwl:=ka.1
  repeat' with_reducible first|refine W.asV ?_|refine W.fldp ?_|refine W.scalS (by assumption) ?_|refine W.nck ?_|refine W.u0 ?_
  refine W.own_push (bytes:=32) y7t_ kg HH.tn (a:=(false,y2)) rfl (by omega) (by omega) fun x3 τ5 T5 kg H5=>?_;replace HH:=HH.trans H5.oe;replace hc:=hc.hop H5;replace k0:=k0.hop H5;replace k35:=k35.hop H5;replace kp:=kp.hopO H5;replace kh:=kh.hopB H5;replace kq:=kq.hop H5;replace ka:=ka.hop H5;replace k1:=k1.hop H5;replace ks:=ks.hop H5;replace kl:=kl.hop H5;replace hn:=H5.tn
  repeat' with_reducible first|refine W.fldp ?_|refine W.nck ?_|refine W.u4 ?_
  refine W.stT k1 hn (Nat.le_of_ble_eq_true (by rfl)) fun τ6 H6 k1 hnτ6=>?_;replace HH:=HH.trans H6.oe;replace hc:=hc.hop H6;replace k0:=k0.hop H6;replace k35:=k35.hop H6;replace kp:=kp.hopO H6;replace kh:=kh.hopB H6;replace kq:=kq.hop H6;replace ka:=ka.hop H6;replace ks:=ks.hop H6;replace kl:=kl.hop H6;replace kg:=kg.hop H6;replace hn:=H6.tn;have hcu:=hc.up
  repeat' (with_reducible refine W.scalS (by assumption) ?_)
  have hn:=HH.tn;refine W.stT k35 hn (Nat.le_of_ble_eq_true (by rfl)) fun τ7 H7 k35 hnτ7=>?_
  repeat' with_reducible first|refine W.ret ?_|refine W.u1 ?_
  exact⟨T5,HH.trans H7.oe,rfl,⟨_,_,_,_,_,_,_,_,_,EnH.hopE ⟨k1,kp,kh,kq,km,ks,ksl,kl,kg,ka.push k0⟩ H7⟩,L'⟩
theorem yg4_(E:EnX σ T e n s hs ln lg since least)(hn:Tn σ T)(L:EnL gl n C s hs ln lg since least w)(hn4:n<=4000)(hA:AsI s A)(hc:SlV .int (σ.at T 0) A x)(hAl:A.length<=100000)(hAL:∀l∈A,isL l n=true) :
    W (S.z101 (.ptr e.le 0) x σ) fun r=>∃T',Hop eI σ T r.2 T' /\
      ((∃l∈A,r.1=(true,.nils)/\val s.vs l=0/\isL l n=true/\AsI (s.dec l) A/\EnX r.2 T' e n (s.dec l) hs ln lg since least) \/
       (∃core y,r.1=(false,y)/\SlV .int (r.2.at T' 0) core y/\core≠[]/\(∀l∈core,l∈A)/\Conf s.db core/\core.length<=n+1/\EnX r.2 T' e n s hs ln lg since least) \/
       (r.1=(false,.nils)/\(∀l∈A,l∈s.trail)/\EnX r.2 T' e n s hs ln lg since least)):=by
  have ht:=L.si.ti;have hcu:=hc.up;unfold S.z101
  repeat' with_reducible first|refine W.bind ?_|refine W.len (by assumption) ?_
  refine W.mono (P:=fun(r:(Unit⊕(Bool×AVal))×Heap)=>∃T',Hop eI σ T r.2 T' /\
      ((∃l∈A,r.1=.inr (true,.nils)/\val s.vs l=0/\isL l n=true/\AsI (s.dec l) A/\EnX r.2 T' e n (s.dec l) hs ln lg since least) \/
       (∃core y,r.1=.inr (false,y)/\SlV .int (r.2.at T' 0) core y/\core≠[]/\(∀l∈core,l∈A)/\Conf s.db core/\core.length<=n+1/\EnX r.2 T' e n s hs ln lg since least) \/
       (r.1=.inl ()/\(∀l∈A,l∈s.trail)/\EnX r.2 T' e n s hs ln lg since least))) ?_ fun r hr=>?_
  · refine W.loop A.length (fun i (z:Int) τ=>z=(i:Int)/\τ=σ/\∀(j:Nat) l,j<i->A[j]?=some l->l∈s.trail) ⟨rfl,rfl,fun j l hj=>by omega⟩ fun i z τ hi hI2=>?_
    obtain⟨rfl,rfl,hall⟩:=hI2;have wr:IntKind.i64.wrap ((i:Int)+1)=((i+1:Nat):Int):=by rw[wrapS]<;>omega
    unfold S.z101.b0
    (with_reducible refine W.cnd (fun hlt=>?_) (fun hlt=>?_)<;>(try simp only[qq,Kd.ty]at hlt)<;>(try (exfalso;omega)))
    · obtain ⟨a,ha⟩:=y3_ (xs:=A) (i:=i) (by omega)
      have haA:=List.mem_of_getElem? ha;have haL:=hAL a haA;have hE:=E;obtain⟨h,xs,xl,xg,conf,bump,most,sv,ws,E⟩:=E;have E0:=E;obtain⟨k1,kp,kh,kq,km,ks,ksl,kl,kg,ka⟩:=E
      repeat' with_reducible first|refine W.bind ?_|refine W.asV ?_|refine W.fldp ?_|refine W.e2 ?_|refine W.nck ?_|refine W.u0 ?_
      refine W.to (y1u_ kp ht hn4 haL) ?_
      repeat' with_reducible refine W.ret ?_
      by_cases hv0:val s.vs a=0
      · refine W.condT (by simp[hv0]) ?_
        repeat' with_reducible first|refine W.bind ?_|refine W.asV ?_|refine W.fldp ?_|refine W.nck ?_|refine W.u0 ?_
        refine W.mono (y84_ kp hn ht hn4 haL hv0) fun r hr=>?_;obtain⟨b,τ1⟩:=r;obtain⟨_,T1,h1,H1,kp⟩:=hr;dsimp only at H1 kp⊢
        repeat' (with_reducible refine W.stop ?_)
        exact⟨T1,H1.pe,.inl ⟨a,haA,rfl,hv0,haL,(hA.decA ht haL hv0 haA).1,_,_,_,_,_,_,_,_,_,k1.hop H1,kp,kh.hopP H1,kq.hop H1,km,ks.hop H1,ksl,kl.hop H1,kg.hop H1,ka.hop H1⟩⟩
      · refine W.condF (by simp[hv0]) ?_
        by_cases hv2:val s.vs a=2
        · refine W.condT (by simp[hv2]) ?_
          repeat' with_reducible first|refine W.bind ?_|refine W.asV ?_|refine W.fldp ?_|refine W.nck ?_|refine W.u0 ?_
          refine W.mono (yi1_ kp hn ht L.si.ci hn4 haL hv2) fun r hr=>?_;obtain⟨y,τ1⟩:=r;obtain⟨T1,ds,H1,k20,hds,hD,hdl⟩:=hr;dsimp only at H1 k20⊢;refine W.own_push (bytes:=8) Vw.int_flat k20 H1.tn (a:=a) rfl (by omega) (by omega) fun x2 τ2 T2 k20 H2=>?_
          repeat' (with_reducible refine W.stop ?_)
          obtain⟨T3,H3,k0⟩:=k20.retag (u:=0) Vw.int_flat H2.tn;refine⟨T3,(H1.te.trans H2.oe).trans H3.oe,.inr (.inl ⟨ds++[a],x2,rfl,k0.sl,by simp,fun l hl=>?_,.inl ⟨a,.start (by simp),hD.mono (fun c hc=>⟨c,hc,fun v=>Iff.rfl⟩) fun l hl=>by simp[hl]⟩,by simp;omega,_,_,_,_,_,_,_,_,_,((E0.hopT H1).hopE H2).hopE H3⟩)⟩;rcases List.mem_append.1 hl with q|q
          · obtain⟨g1,g2⟩:=hds l q
            obtain⟨i',hi'⟩:=y9_ g1;obtain⟨kk,a1,a2,a3⟩:=hA;have hkk:kk=s.marks.length:=Decidable.byContradiction fun hne=>by
              have:=(a3 (by omega) a haA).1;exact ht.notBoth this (ht.neg.1 hv2)
            rcases ht.rs i' l hi' with ⟨_,k',b1,b2⟩|⟨id,c,f,b1,_⟩
            · exact a2 k' i' l (by have:=y2_ b2;omega) b2 hi'
            · omega
          · rw[List.mem_singleton.1 q];exact haA
        · refine W.condF (by simp[hv2]) ?_
          repeat' (with_reducible refine W.next ?_)
          have:=y4c_ ht.ok a;refine⟨by omega,wr,rfl,fun j l hj hl=>?_⟩;by_cases ej:j=i
          · subst ej;rw[ha]at hl;cases hl;exact(ht.tr a).1 (by omega)
          · exact hall j l (by omega) hl
    · repeat' (with_reducible refine W.stop ?_)
      exact⟨T,Hop.refl hn,.inr (.inr ⟨rfl,fun l hl=>by
        obtain⟨j,hj⟩:=y9_ hl;exact hall j l (by have:=y2_ hj;omega) hj,E⟩)⟩
  · obtain⟨r,τ1⟩:=r
    obtain⟨T1,H1,hr⟩:=hr;rcases hr with ⟨l,hl,er,g⟩|⟨core,y,er,g⟩|⟨er,g⟩
    · dsimp only at er⊢
      subst er
      repeat' with_reducible refine W.ret ?_
      exact⟨T1,H1,.inl ⟨l,hl,rfl,g⟩⟩
    · dsimp only at er⊢
      subst er
      repeat' with_reducible refine W.ret ?_
      exact⟨T1,H1,.inr (.inl ⟨core,y,rfl,g⟩)⟩
    · dsimp only at er⊢
      subst er
      repeat' with_reducible refine W.ret ?_
      exact⟨T1,H1,.inr (.inr ⟨rfl,g⟩)⟩
theorem yfj_(E:EnX σ T e n s hs ln lg since least)(hn:Tn σ T)(L:EnL gl n C s hs ln lg since least w)(hn4:n<=4000) :
    W (S.z105 (.ptr e.le 0) σ) fun r=>∃T' hs',Hop eI σ T r.2 T' /\
      ((r.1=true/\∃l,val s.vs l=0/\isL l n=true/\EnX r.2 T' e n (s.dec l) hs' ln lg since least/\∀v:Nat,1<=v->v<=n->val s.vs v=0->v≠l.natAbs->(v:Int)∈hs') \/
       (r.1=false/\(∀l,isL l n=true->val s.vs l≠0)/\EnX r.2 T' e n s hs' ln lg since least)):=by
  have ht:=L.si.ti;unfold S.z105;refine W.bind ?_;refine W.mono (P:=fun(r:(Unit⊕Bool)×Heap)=>∃T' hs',Hop eI σ T r.2 T' /\
      ((r.1=.inr true/\∃l,val s.vs l=0/\isL l n=true/\EnX r.2 T' e n (s.dec l) hs' ln lg since least/\∀v:Nat,1<=v->v<=n->val s.vs v=0->v≠l.natAbs->(v:Int)∈hs') \/
       (r.1=.inl ()/\(∀l,isL l n=true->val s.vs l≠0)/\EnX r.2 T' e n s hs' ln lg since least))) ?_ fun r hr=>?_
  · refine W.loopI (m:=hs.length) (fun m (_:Unit) τ=>∃(T':Tg) (hs':List Int),Hop eI σ T τ T'/\EnX τ T' e n s hs' ln lg since least/\hs'.length=m/\∀v:Nat,1<=v->v<=n->val s.vs v=0->(v:Int)∈hs') ⟨T,hs,Hop.refl hn,E,rfl,L.hp⟩ fun m _ τ hI2=>?_
    obtain⟨T1,hs1,HH,E,hm,hcov⟩:=hI2;obtain⟨h,xs,xl,xg,conf,bump,most,sv,ws,k1,kp,kh,kq,km,ks,ksl,kl,kg,ka⟩:=E;unfold S.z105.b0
    repeat' with_reducible first|refine W.bind ?_|refine W.asV ?_|refine W.fldp ?_|refine W.nck ?_|refine W.u0 ?_
    refine W.to (yek_ kh) ?_
    repeat' with_reducible refine W.ret ?_
    (with_reducible refine W.cnd (fun hpos=>?_) (fun hpos=>?_)<;>(try simp only[qq,Kd.ty]at hpos)<;>(try (exfalso;omega)))
    · have hne:hs1≠[]:=fun q=>by rw[q]at hpos;simp at hpos
      repeat' with_reducible first|refine W.bind ?_|refine W.asV ?_|refine W.fldp ?_|refine W.nck ?_|refine W.u0 ?_
      refine W.mono (tie_w kq HH.tn) fun r hr=>?_;obtain⟨tie,τ2⟩:=r;obtain⟨H2,kq⟩:=hr;dsimp only at H2 kq⊢;replace HH:=HH.trans H2.oe;replace kp:=kp.hopO H2;replace kh:=kh.hopB H2;replace ka:=ka.hop H2;replace k1:=k1.hop H2;replace ks:=ks.hop H2;replace kl:=kl.hop H2;replace kg:=kg.hop H2;replace hn:=H2.tn
      repeat' with_reducible first|refine W.bind ?_|refine W.asV ?_|refine W.chk rfl ?_|refine W.u0 ?_
      refine W.mono (yfx_ kh HH.tn hn4 hne) fun r hr=>?_;obtain⟨r,τ3⟩:=r;obtain⟨v,er,hvm,T3,hs3,H3,kh3,hm3⟩:=hr;dsimp only at er H3 kh3⊢;subst er;have hvr:=kh.rng hvm;have hvL:isL (v:Int) n=true:=ym_.2 ⟨by omega,by omega,by omega⟩;have hlen3:hs3.length<hs1.length:=by
        have hnd:hs3.Nodup:=by
          obtain⟨_,_,_,_,_,_,H,_⟩:=kh3;exact H.nod
        have hsub:∀x∈(v:Int)::hs3,x∈hs1:=fun x hx=>by
          rcases List.mem_cons.1 hx with q|q
          · rw[q];exact hvm
          · exact((hm3 x).1 q).1
        have hnd2:((v:Int)::hs3).Nodup:=List.nodup_cons.2 ⟨fun q=>((hm3 _).1 q).2 rfl,hnd⟩;have:=yg0_ hnd2 hsub;simp at this;omega
      replace HH:=HH.trans H3.hbe;replace kp:=kp.hopHB H3;replace kq:=kq.hop H3;replace ka:=ka.hop H3;replace k1:=k1.hop H3;replace ks:=ks.hop H3;replace kl:=kl.hop H3;replace kg:=kg.hop H3;replace hn:=H3.tn
      repeat' with_reducible first|refine W.bind ?_|refine W.asV ?_|refine W.fldp ?_|refine W.nck ?_|refine W.u0 ?_
      refine W.to (y1u_ kp ht hn4 hvL) ?_
      repeat' with_reducible refine W.ret ?_
      have hcov3:∀u:Nat,1<=u->u<=n->val s.vs u=0->u≠v->(u:Int)∈hs3:=fun u h1 h2 h3 h4=>(hm3 _).2 ⟨hcov u h1 h2 h3,fun q=>h4 (Int.ofNat.inj q)⟩;by_cases hv0:val s.vs v=0
      · refine W.condF (by simp[hv0]) ?_
        obtain⟨sa,hsa⟩:=y3_ (xs:=sv) (i:=v) (by omega)
        repeat' with_reducible first|refine W.bind ?_|refine W.asV ?_|refine W.fldp ?_|refine W.nck ?_|refine W.u0 ?_|refine W.u2 ?_
        refine W.mono (yjq_ kq HH.tn) fun r hr=>?_;obtain⟨sb,τ4⟩:=r;obtain⟨H4,kq⟩:=hr;dsimp only at H4 kq⊢;replace HH:=HH.trans H4.oe;replace kp:=kp.hopO H4;replace kh3:=kh3.hopB H4;replace ka:=ka.hop H4;replace k1:=k1.hop H4;replace ks:=ks.hop H4;replace kl:=kl.hop H4;replace kg:=kg.hop H4;replace hn:=H4.tn;have wn:IntKind.i64.wrap (0-(v:Int)) = -(v:Int):=by rw[wrapS]<;>omega
        cases sb with
        | true=>
          refine W.condT rfl ?_
          repeat' with_reducible first|refine W.bind ?_|refine W.asV ?_|refine W.fldp ?_|refine W.nck ?_|refine W.u0 ?_
          refine W.mono (y84_ kp HH.tn ht hn4 hvL hv0) fun r hr=>?_;obtain⟨b,τ5⟩:=r;obtain⟨eb,T5,h5,H5,kp⟩:=hr;dsimp only at eb H5 kp⊢;subst eb
          repeat' (with_reducible refine W.stop ?_)
          exact⟨T5,hs3,HH.trans H5.pe,.inl ⟨rfl,v,hv0,hvL,⟨_,_,_,_,_,_,_,_,_,k1.hop H5,kp,kh3.hopP H5,kq.hop H5,km,ks.hop H5,ksl,kl.hop H5,kg.hop H5,ka.hop H5⟩,fun u h1 h2 h3 h4=>hcov3 u h1 h2 h3 (by simpa using h4)⟩⟩
        | false=>
          have hvL':=y6z_ hvL;have hv0':val s.vs (-(v:Int))=0:=by rw[y75_ ht.ok,if_pos hv0]
          refine W.condF rfl ?_
          repeat' with_reducible first|refine W.bind ?_|refine W.asV ?_|refine W.fldp ?_|refine W.nck ?_|refine W.u0 ?_
          rw[wn];refine W.mono (y84_ kp HH.tn ht hn4 hvL' hv0') fun r hr=>?_;obtain⟨b,τ5⟩:=r;obtain⟨eb,T5,h5,H5,kp⟩:=hr;dsimp only at eb H5 kp⊢;subst eb
          repeat' (with_reducible refine W.stop ?_)
          exact⟨T5,hs3,HH.trans H5.pe,.inl ⟨rfl,-(v:Int),hv0',hvL',⟨_,_,_,_,_,_,_,_,_,k1.hop H5,kp,kh3.hopP H5,kq.hop H5,km,ks.hop H5,ksl,kl.hop H5,kg.hop H5,ka.hop H5⟩,fun u h1 h2 h3 h4=>hcov3 u h1 h2 h3 (by simpa using h4)⟩⟩
      · refine W.condT (by simp[hv0]) ?_
        repeat' (with_reducible refine W.next ?_)
        exact⟨hs3.length,by omega,T3,hs3,HH,⟨_,_,_,_,_,_,_,_,_,k1,kp,kh3,kq,km,ks,ksl,kl,kg,ka⟩,rfl,fun u h1 h2 h3=>hcov3 u h1 h2 h3 fun q=>hv0 (by rw[<-q];exact h3)⟩
    · have hnil:hs1=[]:=List.eq_nil_of_length_eq_zero (by omega)
      repeat' (with_reducible refine W.stop ?_)
      refine⟨T1,hs1,HH,.inr ⟨rfl,fun l hl hv=>?_,_,_,_,_,_,_,_,_,_,k1,kp,kh,kq,km,ks,ksl,kl,kg,ka⟩⟩;have h0:=yb_ hl;have hv':val s.vs (l.natAbs:Int)=0:=by
        rcases Int.natAbs_eq l with q|q
        · rw[<-q];exact hv
        · have:(l.natAbs:Int) = -l:=by omega
          rw[this,y75_ ht.ok,if_pos hv]
      have:=hcov l.natAbs (by omega) h0.2 hv';rw[hnil]at this;cases this
  · obtain⟨r,τ1⟩:=r
    obtain⟨T1,hs1,H1,hr⟩:=hr;rcases hr with ⟨er,g⟩|⟨er,g⟩
    · dsimp only at er⊢
      subst er
      repeat' with_reducible refine W.ret ?_
      exact⟨T1,hs1,H1,.inl ⟨rfl,g⟩⟩
    · dsimp only at er⊢
      subst er
      repeat' with_reducible refine W.ret ?_
      exact⟨T1,hs1,H1,.inr ⟨rfl,g⟩⟩
theorem ydv_(E:EnX σ T e n s hs ln lg since least)(hn:Tn σ T)(L:EnL gl n C s hs ln lg since least w)(hn4:n<=4000) :
  W (S.z107 (.ptr e.le 0) σ) fun r=>∃T' M,Hop eI σ T r.2 T'/\EnX r.2 T' e n s hs ln lg since least/\SlV .bool (r.2.at T' 0) M r.1/\M.length=n+1/\∀v:Nat,v<=n->M[v]?=some (val s.vs v==1):=by
 have ht:=L.si.ti;obtain⟨h,xs,xl,xg,conf,bump,most,sv,ws,E⟩:=E;have k1:=E.obj;have w1:IntKind.i64.wrap ((n:Int)+1)=((n+1:Nat):Int):=by rw[wrapS]<;>omega
 unfold S.z107
 repeat' with_reducible first|refine W.bind ?_|refine W.asV ?_|refine W.fldp ?_|refine W.nck ?_|refine W.u0 ?_
 refine W.to (y3e_ E.prop ht.len.vs hn4) ?_
 repeat' with_reducible refine W.ret ?_
 rw[w1];refine W.mkT (v:=Vw.bool) 28 hn false rfl (fun _=>rfl) (n:=n+1) (by omega) (by omega) rfl fun y τ1 T1 H1 k28 _=>?_;replace E:=E.hopE H1
 repeat' with_reducible first|refine W.bind ?_|refine W.u3 ?_
 refine W.mono (P:=fun r=>∃M,Hop (only 28) τ1 T1 r.2 T1/\Own .bool (r.2.at T1 28) M y/\M.length=n+1/\∀v:Nat,v<=n->M[v]?=some (val s.vs v==1)) ?_ fun r hr=>?_
 ·refine W.loop (n+1) (fun i (z:Int) τ=>z=(i:Int)/\∃M,Hop (only 28) τ1 T1 τ T1/\EnH τ T1 e n s hs ln lg since least h xs xl xg conf bump most sv ws/\Own .bool (τ.at T1 28) M y/\M.length=n+1/\∀v:Nat,v<i->M[v]?=some (val s.vs v==1)) ⟨rfl,_,Hop.refl H1.tn,E,k28,by simp,fun v hv=>by omega⟩ fun i z τ2 hi hI2=>?_
  obtain⟨rfl,M,H2,E,k28,hM,hall⟩:=hI2;have wr:IntKind.i64.wrap ((i:Int)+1)=((i+1:Nat):Int):=by rw[wrapS]<;>omega
  have k1:=E.obj;unfold S.z107.b0;simp only[List.length_replicate]
  (with_reducible refine W.cnd (fun hlt=>?_) (fun hlt=>?_)<;>(try simp only[qq,Kd.ty]at hlt)<;>(try (exfalso;omega)))
  ·have hV:S.z82 (.ptr e.lp 0) (i:Int) τ2=some (val s.vs (i:Int)):=by
    by_cases h0:i=0
    ·obtain⟨r,er,rfl⟩:W (S.z82 (.ptr e.lp 0) ((i:Nat):Int) τ2) fun r=>r=val s.vs (i:Int):=by
      have k2:=E.prop.obj;unfold S.z82
      repeat' with_reducible first|refine W.bind ?_|refine W.asV ?_|refine W.fldp ?_|refine W.nck ?_|refine W.u0 ?_
      refine W.to (y7r_ E.prop.asgv ht.ok (by have:=ht.len.vs;omega) (by have:=ht.len.vs;omega) (by simp[inB];omega)) ?_
      repeat' with_reducible refine W.ret ?_
      rfl
     exact er
    ·exact y1u_ E.prop ht hn4 (ym_.2 ⟨by omega,by omega,by omega⟩)
   repeat' with_reducible first|refine W.bind ?_|refine W.asV ?_|refine W.fldp ?_|refine W.nck ?_|refine W.u0 ?_
   refine W.to hV ?_
   repeat' with_reducible refine W.ret ?_
   refine W.ixO k28.slT (i:=i) (by omega) ?_;refine W.own_setB k28 H2.tn (by omega) fun τ3 k28 H3 _=>?_
   repeat' (with_reducible refine W.next ?_)
   refine⟨by omega,wr,_,H2.trans H3,E.hopE H3,k28,by simp[hM],fun v hv=>?_⟩;rw[List.getElem?_set];by_cases ev:i=v
   ·subst ev;rw[if_pos rfl,if_pos (by omega)]
   ·rw[if_neg ev];exact hall v (by omega)
  ·repeat' (with_reducible refine W.stop ?_)
   exact⟨M,H2,k28,hM,fun v hv=>hall v (by omega)⟩
 ·obtain⟨r,τ2⟩:=r
  obtain⟨M,H2,k28,hM,hall⟩:=hr;dsimp only at H2 k28⊢;obtain⟨T3,H3,k0⟩:=k28.retag (u:=0) Vw.bool_flat H2.tn
  repeat' with_reducible refine W.ret ?_
  exact⟨T3,M,(H1.oe.trans H2.oe).trans H3.oe,⟨_,_,_,_,_,_,_,_,_,(E.hopE H2).hopE H3⟩,k0.sl,hM,hall⟩
end
end
section
open Go
section
variable{n k a b id:Nat}{s s':PS}{A C:List (List Int)}{l x:Int}{M:List Bool}{tt uu:Nat}{c d:List Int}{f:Bool}
theorem StI.dec(P:PrI n s)(hh:s.head=s.trail.length)(hl:isL l n=true)(hv:val s.vs l=0):StI n (s.dec l):=by
 obtain⟨h,e1,e2,e3,e4⟩:=P.hd;have eh:h=s.trail.length:=by omega
 subst eh;obtain⟨z1,z2⟩:=P.ti.zero.1 hv;have hlv:∀x∈s.trail,(s.dec l).lv x=s.lv x:=fun x hx=>by
  simp only[PS.lv,PS.dec,PS.setL];rw[getD_set' (by have:=P.ti.len.lev;have:=yb_ hl;omega),if_neg fun e=>?_];rcases Int.natAbs_eq_natAbs_iff.1 e with e|e
  ·exact z1 (e▸hx)
  ·exact z2 (e▸hx)
 have htr:(s.dec l).trail=s.trail++[l]:=rfl;refine⟨P.ti.dec hl hv,P.ci,⟨P.li.nd,P.li.fl,P.li.lf⟩,P.wi,P.wr,s.trail.length,e1,by rw[htr];simp,fun m hm=>?_,fun j d hd=>?_⟩
 ·have hm:m∈s.marks++[(s.trail.length:Int)]:=hm
  rcases List.mem_append.1 hm with q|q
  ·exact e3 m q
  ·rw[List.mem_singleton.1 q];exact Int.le_refl _
 ·have J:=e4 j d hd
  refine⟨J.ne,fun x hx=>?_,fun i x y hi hx hy ⟨q,hq1,hq2⟩=>?_⟩
  ·obtain⟨g1,g2⟩:=J.one x hx
   exact⟨by rw[htr];simp[g1],by rw[hlv x g1];exact g2⟩
  ·rw[htr,List.getElem?_append_left hq1]at hq2
   obtain⟨g1,g2⟩:=J.two i x y hi hx hy ⟨q,hq1,hq2⟩;have:=hlv _ (List.mem_of_getElem? hq2);rw[PS.lv_neg,PS.lv_neg]at this;exact⟨by rw[htr];simp[g1],by rw[hlv y g1,this];exact g2⟩
theorem y5h_(ht:TrI n s){j:Nat}(hj:s.trail.length<=j):(j:Int)∉s.marks:=fun hm=>by
 obtain⟨i,hi⟩:=y9_ hm;obtain⟨a,e,⟨w,g1,_⟩,_⟩:=ht.mks i _ hi;have:=y2_ g1;omega
theorem y8a_(ht:TrI n s)(hm:s.marks[b]?=some (a:Int)):∀j:Nat,j<a->((j:Int)∈s.marks↔(j:Int)∈s.marks.take b):=fun j hj=>by
 refine⟨fun h=>?_,List.mem_of_mem_take⟩;obtain⟨i,hi⟩:=y9_ h;obtain⟨j',e,⟨w,g1,g2⟩,g3⟩:=ht.mks i _ hi;have e:j=j':=by omega
 subst e;obtain⟨a',e,_,g6⟩:=ht.mks b _ hm;have e:a=a':=by omega
 subst e;have:=g6 j w g1;have hib:i<b:=by omega
 exact List.mem_of_getElem? (i:=i) (by rw[List.getElem?_take_of_lt hib];exact hi)
def CdI(n:Nat)(s:PS)(tt uu:Nat):Prop:=(tt<=codeF n s.marks s.trail.length/\uu<=rkF n s.marks s.trail.length)\/((tt<=codeW n s.marks s.trail.length/\uu<=rkW n s.marks s.trail.length)/\∃id,s.loose=[((id:Nat):Int)]/\Ready s id)
theorem CdI.ext(h:CdI n s tt uu)(E:PEx s s')(ht:TrI n s)(ht':TrI n s'):tt<=codeW n s'.marks s'.trail.length/\uu<=rkW n s'.marks s'.trail.length:=by
 have hl:=E.lenT;have hn:=ht'.lenT;rw[E.mks];have h2:=ybr_ (n:=n) hl hn fun j hj=>y5h_ ht hj;rcases h with ⟨q,q2⟩|⟨⟨q,q2⟩,_⟩
 ·have:=y80_ (n:=n) (ms:=s.marks) hl
  have:=yc7_ (n:=n) (ms:=s.marks) hl;unfold codeW rkW;omega
 ·refine⟨by omega,?_⟩
  by_cases e:s.trail.length=s'.trail.length
  ·rw[<-e];exact q2
  ·have:=yfd_ (n:=n) (show s.trail.length<s'.trail.length by omega) hn fun j hj=>y5h_ ht hj
   unfold rkW at q2 this⊢;omega
theorem CdI.fine(h:CdI n s tt uu)(E:PEx s s')(ht:TrI n s)(P:PrI n s')(hh:s'.head=s'.trail.length):tt<=codeF n s'.marks s'.trail.length/\uu<=rkF n s'.marks s'.trail.length:=by
 have hl:=E.lenT;have hn:=P.ti.lenT;rw[E.mks];have h2:=ybr_ (n:=n) hl hn fun j hj=>y5h_ ht hj;rcases h with ⟨q,q2⟩|⟨⟨q,q2⟩,id,_,c,f,hc,l,hlc,hv,hf,_⟩
 ·have:=y80_ (n:=n) (ms:=s.marks) hl
  have:=yc7_ (n:=n) (ms:=s.marks) hl;omega
 ·obtain⟨c',f',hc',p⟩:=E.ceq.get hc
  have hm:=P.unit hh hc' (p.mem_iff.2 hlc) fun x hx hne=>by
   have:=hf x (p.mem_iff.1 hx) hne;exact P.ti.neg.2 (E.mem (ht.neg.1 this))
  have hlt:s.trail.length<s'.trail.length:=by
   refine Nat.lt_of_le_of_ne hl fun e=>?_;obtain⟨ex,he⟩:=E.tr;have:ex=[]:=by
    have:=congrArg List.length he;simp at this;exact List.eq_nil_of_length_eq_zero (by omega)
   rw[he,this,List.append_nil]at hm;exact(ht.zero.1 hv).1 hm
  have:=h2.2 hlt;have:=yfd_ (n:=n) hlt hn fun j hj=>y5h_ ht hj;omega
theorem yfg_(ht:TrI n s):codeF n (s.dec l).marks (s.dec l).trail.length=codeF n s.marks s.trail.length:=by
 have e1:(s.dec l).marks=s.marks++[(s.trail.length:Int)]:=rfl;have e2:(s.dec l).trail.length=s.trail.length+1:=by show(s.trail++[l]).length=_;simp
 rw[e1,e2];simp only[codeF];rw[if_pos (by simp)];exact y7l_ fun j hj=>by
  simp only[List.mem_append,List.mem_singleton];constructor
  ·rintro(q|q)
   ·exact q
   ·omega
  ·exact .inl
theorem yj4_(ht:TrI n s):rkF n (s.dec l).marks (s.dec l).trail.length=rkF n s.marks s.trail.length+1:=by
 have e1:(s.dec l).marks=s.marks++[(s.trail.length:Int)]:=rfl;have e2:(s.dec l).trail.length=s.trail.length+1:=by show(s.trail++[l]).length=_;simp
 rw[e1,e2];simp only[rkF];rw[if_pos (by simp)]
 congr 1
 exact yaf_ fun j hj=>by
  simp only[List.mem_append,List.mem_singleton];constructor
  ·rintro(q|q)
   ·exact q
   ·omega
  ·exact .inl
theorem PrI.two(P:PrI n s)(hc:s.cls[id]?=some (c,true,f))(hf:∀x∈c,val s.vs x=2):∀m∈s.marks,m+2<=(s.trail.length:Int):=by
 obtain⟨h,e1,e2,e3,e4⟩:=P.hd;have hg:=P.li.flag P.lo hc;subst hg;have J:=e4 id c hc;have hnd:=(P.ci id c false hc).2;intro m hm;have h3:=e3 m hm;rcases c with _|⟨a,_|⟨d,t⟩⟩
 ·exact absurd rfl J.ne
 ·have h1:=(P.ti.tr a).2 (J.one a rfl).1
  have:=hf a (by simp);omega
 ·have ha:=hf a (by simp)
  have hd:=hf d (by simp);obtain⟨i,hi⟩:=y9_ (P.ti.neg.1 ha);obtain⟨j,hj⟩:=y9_ (P.ti.neg.1 hd);have hi2:h<=i:=Decidable.byContradiction fun q=>by
   have:=(P.ti.tr d).2 (J.two 0 a d (by omega) rfl rfl ⟨i,by omega,hi⟩).1;omega
  have hj2:h<=j:=Decidable.byContradiction fun q=>by
   have:=(P.ti.tr a).2 (J.two 1 d a (by omega) rfl rfl ⟨j,by omega,hj⟩).1;omega
  have hne:i≠j:=fun e=>by
   subst e;rw[hi]at hj;have:a=d:=by have:=Option.some.inj hj;omega
   subst this;simp at hnd
  have:=y2_ hi;have:=y2_ hj;omega
theorem y8g_(ht:TrI n s)(hS:StI n s)(hm:s.marks[b]?=some (a:Int)):codeW n s.marks s.trail.length<codeW n ((s.back b a).addC c).marks ((s.back b a).addC c).trail.length/\rkW n s.marks s.trail.length<rkW n ((s.back b a).addC c).marks ((s.back b a).addC c).trail.length/\((a:Int)+2<=s.trail.length->codeW n ((s.back b a).addC c).marks ((s.back b a).addC c).trail.length % 2=0):=by
 obtain⟨_,g1,g2,_,_,_,_,g7,_⟩:=hS.back hm;have e1:((s.back b a).addC c).marks=s.marks.take b:=g1;have e2:((s.back b a).addC c).trail=s.trail.take a:=g2;rw[e1,e2];have:(s.trail.take a).length=a:=by simp;omega
 rw[this];have hlt:=ht.lenT;exact⟨yem_ (List.mem_of_getElem? hm) g7 ht.lenT (y8a_ ht hm),ygx_ (List.mem_of_getElem? hm) g7 ht.lenT (y8a_ ht hm),fun h2=>yf4_ (by omega)⟩
def mOf(M:List Bool)(v:Nat):Bool:=M.getD v false
theorem ya2_(ht:TrI n s)(hM:∀v:Nat,v<=n->M[v]?=some (val s.vs v==1))(hl:isL l n=true)(hm:l∈s.trail):holds (mOf M) l=true:=by
 have h0:=yb_ hl;have h1:=hM l.natAbs h0.2;unfold holds mOf;rw[List.getD_eq_getElem?_getD,h1];show((val s.vs (l.natAbs:Int)==1)==decide (0<l))=true;have hv:=(ht.tr l).2 hm;by_cases hp:0<l
 ·have:(l.natAbs:Int)=l:=by omega
  rw[this,hv];simp[hp]
 ·have:(l.natAbs:Int) = -l:=by omega
  rw[this,y75_ ht.ok,hv];simp[hp]
theorem EnL.model{gl:Bool}{C:List (List Int)}{hs:List Int}{ln:List (Int×Int)}{lg:List (Bool×List Int)}{since least:Int}{w:Nat}(L:EnL gl n C s hs ln lg since least w)(hlo:s.loose=[])(hh:s.head=s.trail.length)(hall:∀l,isL l n=true->val s.vs l≠0)(hM:∀v:Nat,v<=n->M[v]?=some (val s.vs v==1)):mods (mOf M) C:=fun c hc=>by
 by_cases hs:saysN c=true
 ·obtain⟨id,d,f,h1,h2,_⟩:=L.orI c hc hs
  obtain⟨x,hx,hxm⟩:=(L.si.pp hlo).full hh hall h1;exact⟨x,(h2 x).1 hx,ya2_ L.si.ti hM ((L.si.ci id d f h1).1 x hx) hxm⟩
 ·obtain⟨x,h1,h2⟩:=yfw_ (by simpa using hs)
  exact yh7_ (yb_ (L.cl c hc x h1)).1 h1 h2
theorem yjs_(ht:TrI n s)(hm:s.marks=[])(hc:s.cls[id]?=some (c,true,f))(hf:∀x∈c,val s.vs x=2):Conf s.db []:=.inr ⟨c,y32_.2 ⟨id,f,hc⟩,fun x hx=>by
 have hxm:=ht.neg.1 (hf x hx);obtain⟨i,hi⟩:=y9_ hxm;have:=ht.lv _ hxm;rw[hm]at this;simp at this;exact ht.der0 i _ hi (by omega)⟩
theorem yc0_{gl:Bool}{C:List (List Int)}{hs core:List Int}{ln:List (Int×Int)}{lg:List (Bool×List Int)}{since least:Int}{w:Nat}(L:EnL gl n C s hs ln lg since least w)(hC:Conf s.db core)(hl:∀l∈core,isL l n=true):∀m,mods m C->¬ ∀l∈core,holds m l=true:=fun m hm hall=>
 hC.false (L.snd m hm) L.si.ci.nz hall fun l h=>(yb_ (hl l h)).1
end
end
section
open Go
def eJ:Nat->Bool:=fun j=>eI j||j==37
theorem Hop.ej{σ τ:Heap}{T T':Tg}(H:Hop eI σ T τ T'):Hop eJ σ T τ T':=H.sub fun i hi=>by simp[eJ,hi]
theorem Hop.ej37{σ τ:Heap}{T T':Tg}(H:Hop (only 37) σ T τ T'):Hop eJ σ T τ T':=H.sub fun i hi=>by
 have:i=37:=by simpa using hi
 rw[this];rfl
def mu(n:Nat):Nat:=(2 ^ n / 2 / 8+2)*(2 ^ (n+1)+1)+2 ^ (n+1)
def addsL(lg:List (Bool×List Int)):Nat:=(lg.filter fun st => !st.1).length
theorem ya7_{a b:List (Bool×List Int)}:addsL (a++b)=addsL a+addsL b:=by unfold addsL;rw[List.filter_append,List.length_append]
theorem ye8_{ds:List (Bool×List Int)}(h:∀d∈ds,d.1=true):addsL ds=0:=by
 unfold addsL;rw[List.filter_eq_nil_iff.2 fun d hd=>by simp[h d hd]];rfl
def LgB(n:Nat)(ln:List (Int×Int))(lg:List (Bool×List Int))(since least:Int):Prop:=
 (∀st∈lg,st.2.length<=n/\∀x∈st.2,isL x n=true)/\lg.length+ln.length<=2*addsL lg/\8*(addsL lg:Int)<=(least-16)*(2 ^ n / 2:Nat)+8*since
theorem LgB.learn{n:Nat}{ln ln':List (Int×Int)}{lg lg':List (Bool×List Int)}{since least:Int}(h:LgB n ln lg since least)(hs:LgS n ln lg ln' lg'):LgB n ln' lg' (since+1) least:=by
 obtain⟨h1,h2,h3⟩:=h;obtain⟨k,hk,ds,rfl,hd,hl⟩:=hs;have e:addsL (lg++[(false,k)]++ds)=addsL lg+1:=by
  rw[ya7_,ya7_,ye8_ fun d hm=>(hd d hm).1];rfl
 refine⟨fun st hst=>?_,?_,?_⟩
 ·rcases List.mem_append.1 hst with q|q
  ·rcases List.mem_append.1 q with q|q
   ·exact h1 st q
   ·rw[List.mem_singleton.1 q];exact hk
  ·exact(hd st q).2
 ·rw[e];simp;omega
 ·rw[e];omega
theorem LgB.anew{n:Nat}{ln:List (Int×Int)}{lg:List (Bool×List Int)}{since least:Int}(h:LgB n ln lg since least)(hs:since<=(2 ^ n / 2:Nat)):LgB n ln lg 0 (least+8):=by
 obtain⟨h1,h2,h3⟩:=h;refine⟨h1,h2,?_⟩;generalize (2 ^ n / 2:Nat)=B at h3 hs⊢;rw[show least+8-16=(least-16)+8 by omega,Int.add_mul];omega
def LgF(n:Nat)(lg:List (Bool×List Int)):Prop:=(∀st∈lg,st.2.length<=n+1/\∀x∈st.2,isL x n=true)/\lg.length<=2*((2 ^ n / 2)*(2 ^ n / 2 / 8+2))+1
theorem LgB.fin{n:Nat}{ln:List (Int×Int)}{lg:List (Bool×List Int)}{since least:Int}(h:LgB n ln lg since least)(hs:since<=(2 ^ n / 2:Nat))(hl:least<=(2 ^ n / 2:Nat)+16){c:List Int}(hc:c.length<=n+1/\∀x∈c,isL x n=true):LgF n (lg++[(false,c)])/\LgF n lg:=by
 obtain⟨h1,h2,h3⟩:=h;have key:lg.length<=2*((2 ^ n / 2)*(2 ^ n / 2 / 8+2)):=by
  generalize (2 ^ n / 2:Nat)=B at h3 hs hl⊢;have h4:(least-16)*(B:Int)<=(B:Int)*B:=Int.mul_le_mul_of_nonneg_right (by omega) (by omega);have h6:8*(addsL lg:Int)<=(B:Int)*B+8*B:=by omega
  have h7:B*B<=B*(8*(B / 8)+7):=Nat.mul_le_mul_left _ (by omega);have h8:B*(8*(B / 8)+7)=8*(B*(B / 8))+7*B:=by rw[Nat.mul_add,Nat.mul_left_comm];omega
  have h9:B*(B / 8+2)=B*(B / 8)+2*B:=by rw[Nat.mul_add];omega
  rw[<-Int.natCast_mul]at h6;omega
 refine⟨⟨fun st hst=>?_,by simp;omega⟩,fun st hst=>⟨Nat.le_trans (h1 st hst).1 (Nat.le_succ n),(h1 st hst).2⟩,by omega⟩;rcases List.mem_append.1 hst with q|q
 ·exact⟨Nat.le_trans (h1 st q).1 (Nat.le_succ n),(h1 st q).2⟩
 ·rw[List.mem_singleton.1 q];exact hc
def SoR(σ:Heap)(T:Tg)(n:Nat)(C:List (List Int))(A:List Int)(lg:List (Bool×List Int))(r:AVal×AVal):Prop:=
 (∃y M,r=(.agg [.bool true,y,.nils],.nili)/\SlV .bool (σ.at T 0) M y/\M.length=n+1/\mods (mOf M) C/\∀a∈A,holds (mOf M) a=true) \/
 (∃y core lg0,r=(.agg [.bool false,.nils,y],.nili)/\SlV .int (σ.at T 0) core y/\(∀l∈core,l∈A)/\(∀m,mods m C->¬ ∀l∈core,holds m l=true)/\core.length<=n+1/\lg=lg0++[(false,negs core)])
section
variable{σ τ:Heap}{T T':Tg}{e:EnP}{n k id:Nat}{s:PS}{hs:List Int}{ln:List (Int×Int)}{lg:List (Bool×List Int)}{since least:Int}{x:AVal}{A:List Int}{gl:Bool}{C:List (List Int)}{w:Nat}
theorem W.eqSn{R:Type}{Q:R->Prop}{K:Bool->Option R}(c:W (K true) Q):W (eqS .nils .nils K) Q:=c
theorem id'{p:Prop}(h:p):p:=h
theorem AsI.addC{l:List Int}(h:AsI s A):AsI (s.addC l) A:=h
theorem yhq_{l1:Nat}(E:EnX σ T e n s hs ln lg since least)(hc:SlV .int (σ.at T 0) A x)(hAL:A.length<=100000)(hl1:Loc (σ.at T 0) l1 [.ptr e.le 0])(hv:s.vs.length=n+1)(hn4:n<=4000)(hAb:∀l∈A,inB l=true){f:AVal}(hf:∀l∈A,∀{Rt:Type} (K:AVal->Heap->Option Rt),callV S.z126.T f [.int .i64 l] σ K=(S.z100 l (.ptr l1 0) σ).bind fun x=>K (retV [.B] x) σ) :
  W (S.z123 x f σ) fun r=>r=(A.any fun l => !isL l n,σ):=by
 refine y1f_ (fun l => !isL l n) hc.up (by omega) fun l hl Rt K=>?_;rw[hf l hl];have e1:S.z100 l (.ptr l1 0) σ=some (!isL l n):=by
  obtain⟨r,er,rfl⟩:W (S.z100 l (.ptr l1 0) σ) fun r=>r = !isL l n:=by
   obtain⟨h,xs,xl,xg,conf,bump,most,sv,ws,E⟩:=E;have k1:=E.obj;have hlb:=hAb l hl;simp only[inB,Bool.and_eq_true,decide_eq_true_eq]at hlb;unfold S.z100
   repeat' with_reducible first|refine W.bind ?_|refine W.asV ?_|refine W.fldp ?_|refine W.nck ?_|refine W.u0 ?_
   refine W.to (y3e_ E.prop hv hn4) ?_
   repeat' with_reducible first|refine W.ret ?_|refine W.bind ?_
   refine W.to (y1o_ (by omega) (by omega)) ?_
   repeat' with_reducible refine W.ret ?_
   rfl
  exact er
 rw[e1];rfl
theorem yj2_(E:EnX σ T e n s hs ln lg since least)(hn:Tn σ T)(L:EnL gl n C s hs ln lg since least w)(hn20:n<=20)(hmk:s.marks=[])(hc:SlV .int (σ.at T 0) A x)(hAl:A.length<=100000)(hAL:∀l∈A,isL l n=true)(hw:w+6*mu n<=850000000000)(hgl:gl=true->since=0/\least=16/\LgB n ln lg since least) :
    W (S.z99 (.ptr e.le 0) x σ) fun r=>∃T' s' hs' ln' lg' since' least' w',Hop eJ σ T r.2 T'/\EnX r.2 T' e n s' hs' ln' lg' since' least'/\EnL gl n C s' hs' ln' lg' since' least' w'/\w'<=w+6*mu n+10/\s'.marks=[]/\SoR r.2 T' n C A lg' r.1/\(gl=true->LgF n lg'):=by
  have hn4:n<=4000:=by omega
  have hAb:∀l∈A,inB l=true:=fun l hl=>y6r_ (hAL l hl) hn4;unfold S.z99
  repeat' (with_reducible refine W.scP ?_)
  refine W.new0 hn fun l1 τ1 _ L1 hl1 hn1=>?_;have hE1:EnX τ1 T e n s hs ln lg since least:=by
    obtain⟨h,xs,xl,xg,conf,bump,most,sv,ws,E⟩:=E;exact⟨h,xs,xl,xg,conf,bump,most,sv,ws,E.hle L1⟩
  replace hc:=hc.hle L1;have HH:Hop eJ σ T τ1 T:=Hop.of hn L1;have hn:=hn1;refine W.newT 37 hn fun l3 τ2 T2 hl3 H2 k37 hnτ2=>?_;replace HH:=HH.trans H2.ej37;have hE2:EnX τ2 T2 e n s hs ln lg since least:=by
    obtain⟨h,xs,xl,xg,conf,bump,most,sv,ws,E⟩:=hE1;exact⟨h,xs,xl,xg,conf,bump,most,sv,ws,E.hopE H2⟩
  replace hc:=hc.hop H2;replace hl1:=hl1.hop H2;refine W.bind ?_;refine W.mono (yhq_ hE2 hc (by omega) hl1 L.si.ti.len.vs hn4 hAb (fun l hl Rt K=>rfl)) fun r hr=>?_;subst hr;dsimp only;have hany:(A.any fun l => !isL l n)=false:=by
    rw[List.any_eq_false];intro l hl;simp[hAL l hl]
  refine W.condF hany ?_
  repeat' with_reducible first|refine W.bind ?_|refine W.asV ?_|refine W.u0 ?_
  have hB1:1<=2 ^ n:=Nat.one_le_two_pow;obtain⟨B,hBd⟩:∃B,B=2 ^ n / 2:=⟨_,rfl⟩;obtain⟨M,hMd⟩:∃M,M=2 ^ (n+1):=⟨_,rfl⟩;have hmuB:mu n=(B / 8+2)*(M+1)+M:=by unfold mu;rw[hBd,hMd]
  refine W.mono (P:=fun r=>r.1=.nili/\∃T' s' hs' ln' lg' since' least' w',Hop eJ σ T r.2 T'/\EnX r.2 T' e n s' hs' ln' lg' since' least'/\EnL gl n C s' hs' ln' lg' since' least' w'/\w'<=w+6*mu n+6/\(gl=true->LgF n lg')/\∃cs,Loc (r.2.at T' 37) l3 cs/\cs.length=3/\SoR r.2 T' n C A lg' (.agg cs,.nili)) ?_ fun r hr=>?_
  · refine W.loopI (m:=mu n) (fun m (_:Unit) τ=>∃(T':Tg) (s':PS) (hs':List Int) (ln':List (Int×Int)) (lg':List (Bool×List Int)) (since' least':Int) (w' cc uu fs:Nat) (cs:List AVal),Hop eJ σ T τ T'/\EnX τ T' e n s' hs' ln' lg' since' least'/\EnL gl n C s' hs' ln' lg' since' least' w' /\
        SlV .int (τ.at T' 0) A x/\Loc (τ.at T' 0) l1 [.ptr e.le 0]/\Loc (τ.at T' 37) l3 cs/\cs.length=3/\AsI s' A/\Rd s' s'.loose (-1)/\CdI n s' (2*cc) uu/\cc<=B/\uu<=M/\fs<=1/\(fs=0->since'<=cc) /\
        (((B:Int)+8-least').toNat / 8+fs)*(M+1)+(M-uu)<=m/\w'+6*m<=w+6*mu n/\(gl=true->fs=0/\least'<=(B:Int)+16/\LgB n ln' lg' since' least')) ?_ fun m _ τ hI2=>?_
    · have z6:=L.z6
      have hR:(((B:Int)+8-least).toNat / 8+(if gl=true then 0 else 1))*(M+1)<=(B / 8+2)*(M+1):=Nat.mul_le_mul_right _ (by split<;>omega);exact⟨T2,s,hs,ln,lg,since,least,w,0,0,if gl=true then 0 else 1,_,HH,hE2,L,hc,hl1,k37,rfl,AsI.nil hmk,.inl hmk,.inl ⟨Nat.zero_le _,Nat.zero_le _⟩,Nat.zero_le _,Nat.zero_le _,by split<;>omega,fun q=>by
        split at q
        · rename_i hg
          have:=(hgl hg).1;omega
        · omega,by rw[hmuB,Nat.sub_zero];omega,by omega,fun hg=>⟨if_pos hg,by have:=(hgl hg).2.1;omega,(hgl hg).2.2⟩⟩
    · obtain ⟨T1,s1,hs1,ln1,lg1,since1,least1,w1,cc,uu,fs,cs,HH,E1,L1,hc,hl1,k37,hcs,hAs,hRd,hCd,hcc,huu,hfs,hsf,hmm,hww,hLg⟩:=hI2
      have hw1:w1<=850000000000:=by omega
      have z1:=L1.z1;have z2:=L1.z2;have z5:=L1.z5;have z6:=L1.z6;have hl1u:=hl1.up;unfold S.z99.b0
      repeat' with_reducible first|refine W.asV ?_|refine W.fldp ?_|refine W.e0 ?_|refine W.nck ?_
      obtain⟨h,xs,xl,xg,conf,bump,most,sv,ws,E1⟩:=E1;have k1:=E1.obj
      repeat' with_reducible first|refine W.bind ?_|refine W.asV ?_|refine W.u0 ?_
      refine W.mono (ych_ E1.prop HH.tn L1.si hn4 (by omega) (by omega) hRd) fun r hr=>?_;obtain⟨out,τ3⟩:=r;obtain⟨T3,h3,s3,H3,p3,ho,PR⟩:=hr;dsimp only at H3 p3 ho PR⊢;have hti3:=PR.si.ti;have hlT3:=hti3.lenT;have hlE:=PR.ex.lenT;have hen:=PR.en;have L3:EnL gl n C s3 hs1 ln1 lg1 since1 least1 (w1+1):=L1.step PR.si PR.ex.ceq (fun v h1 h2 h4=>L1.hp v h1 h2 (by
        rw[L1.si.ti.zero];rw[hti3.zero]at h4;exact⟨fun q=>h4.1 (PR.ex.mem q),fun q=>h4.2 (PR.ex.mem q)⟩)) (by omega)
      have E3:EnX τ3 T3 e n s3 hs1 ln1 lg1 since1 least1:=⟨h3,xs,xl,xg,conf,bump,most,sv,ws,E1.obj.hop H3,p3,E1.heap.hopJ H3,E1.pace.hop H3,E1.most,E1.sav.hop H3,E1.svl,E1.lrn.hop H3,E1.log.hop H3,E1.all.hop H3⟩;have hAs3:=hAs.ext L1.si.ti PR.ex;have hCW:=hCd.ext PR.ex L1.si.ti hti3;replace HH:=HH.trans H3.je.ej;replace hc:=hc.hop H3;replace hl1:=hl1.hop H3;replace k37:=k37.hop H3;have hl1u:=hl1.up
      clear k1
      (with_reducible refine W.cnd (fun hout=>?_) (fun hout=>?_)<;>(try simp only[qq,Kd.ty]at hout)<;>(try (exfalso;omega)))
      · have hne:out≠-1:=by omega
        obtain⟨id,c,fl,eid,hcl,hfl,hcx⟩:=PR.bad hne;subst eid
        repeat' with_reducible first|refine W.asV ?_|refine W.fldp ?_|refine W.e0 ?_|refine W.nck ?_
        obtain⟨h',xs',xl',xg',conf',bump',most',sv',ws',E3'⟩:=id' E3;have k1:=E3'.obj
        repeat' with_reducible first|refine W.bind ?_|refine W.asV ?_|refine W.u0 ?_
        refine W.to (y6b_ E3'.prop) ?_
        repeat' with_reducible refine W.ret ?_
        by_cases hm0:s3.marks=[]
        · refine W.condT (by simp[hm0]) ?_
          have hC0:=yjs_ hti3 hm0 hcl hfl
          repeat' with_reducible first|refine W.bind ?_|refine W.asV ?_|refine W.e0 ?_
          refine W.mono (ybd_ (core:=[]) (x:=.nils) E3 HH.tn L3 (by omega) (.inl ⟨rfl,rfl⟩) (by simp) (fun l hl=>by cases hl) hC0) fun r hr=>?_;obtain⟨r,τ4⟩:=r;obtain⟨T4,H4,er,E4,L4⟩:=hr;dsimp only at er H4 E4⊢;subst er;replace HH:=HH.trans H4.ej;replace k37:=k37.hop H4
          repeat' (with_reducible refine W.e3 ?_)
          have hn:=HH.tn;refine W.stT k37 hn (by simp[hcs]) fun τ5 H5 k37 _=>?_;have e5:cs.take 0++[.bool false,.nils,.nils]++cs.drop (0+[AVal.bool false,.nils,.nils].length)=[.bool false,.nils,.nils]:=by simp[hcs]
          rw[e5]at k37;have E5:EnX τ5 T4 e n s3 hs1 ln1 (lg1++[(false,negs [])]) since1 least1:=by
            obtain⟨h,xs,xl,xg,conf,bump,most,sv,ws,E4⟩:=E4;exact⟨h,xs,xl,xg,conf,bump,most,sv,ws,E4.hopE H5⟩
          repeat' (with_reducible refine W.stop ?_)
          exact⟨rfl,T4,s3,hs1,ln1,_,since1,least1,_,HH.trans H5.ej37,E5,L4,by omega,fun hg=>by
            obtain⟨g1,g2,g3⟩:=hLg hg;have:=hsf g1;exact(g3.fin (by omega) (by omega) (c:=negs []) ⟨by simp[negs],by simp[negs]⟩).1,_,k37,rfl,.inr ⟨.nils,[],lg1,rfl,.inl ⟨rfl,rfl⟩,(fun l hl=>by cases hl),yc0_ L3 hC0 (fun l hl=>by cases hl),by simp,rfl⟩⟩
        · have hmp:0<s3.marks.length:=List.length_pos_iff.2 hm0
          refine W.condF (by simpa using hm0) ?_
          repeat' with_reducible first|refine W.bind ?_|refine W.asV ?_|refine W.e0 ?_
          refine W.mono (yhe_ E3 HH.tn L3 hn4 (by omega) hmp (PR.lo hm0) hcl hfl (hcx hm0)) fun r hr=>?_;obtain⟨r,τ4⟩:=r;obtain⟨er,T4,s4,hs4,ln4,lg4,since4,least4,H4,E4,L4,hcase,hLS⟩:=hr;dsimp only at er H4 E4⊢;subst er;replace HH:=HH.trans H4.ej;replace hc:=hc.hop H4;replace hl1:=hl1.hop H4;replace k37:=k37.hop H4;have hlT4:=L4.si.ti.lenT;have htwo:=(PR.si.pp (PR.lo hm0)).two hcl hfl;refine W.condF rfl ?_
          repeat' (with_reducible refine W.next ?_)
          rcases hcase with ⟨es,el,b,a,k,hma,e4,hRy⟩|⟨hm4,es,el,hls⟩
          · subst es el
            obtain⟨hg1,hg2,hg3⟩:=y8g_ (c:=normL k) hti3 PR.si hma;have hg4:=hg3 (htwo _ (List.mem_of_getElem? hma));rw[<-e4]at hg1 hg2 hg4;have hmax:=yaa_ (n:=n) (ms:=s4.marks) hlT4;have hmax2:=yd8_ (n:=n) (ms:=s4.marks) hlT4;rw[<-hMd]at hmax2;have hc2:2*(cc+1)<=codeW n s4.marks s4.trail.length:=by omega
            have hlo4:s4.loose=[((s3.cls.length:Nat):Int)]:=by
              rw[e4];show(s3.back b a).loose++[((s3.back b a).cls.length:Int)]=_;obtain⟨_,_,_,g3,g4,_⟩:=PR.si.back hma;rw[g3,g4,PR.lo hm0];rfl
            refine⟨_,?_,T4,s4,hs4,ln4,lg4,_,_,w1+1+4,cc+1,uu+1,fs,cs,HH,E4,L4,hc,hl1,k37,hcs,?_,?_,.inr ⟨⟨hc2,show uu+1<=_ by omega⟩,_,hlo4,hRy⟩,by omega,by omega,hfs,fun q=>by have:=hsf q;omega,Nat.le_refl _,?_,fun hg=>⟨(hLg hg).1,(hLg hg).2.1,(hLg hg).2.2.learn hLS⟩⟩
            · omega
            · rw[e4];exact(hAs3.back PR.si hma).addC
            · rw[hlo4];exact .inr ⟨rfl,.inr ⟨_,rfl,hRy⟩⟩
            · omega
          · subst es el
            have htb:cc+1<=B:=by
              have hmp2:∃(b a:Nat),s3.marks[b]?=some (a:Int):=by
                obtain⟨m,hm⟩:=y3_ (xs:=s3.marks) (i:=0) hmp;obtain⟨a,ea,_⟩:=hti3.mks 0 m hm;exact⟨0,a,by rw[hm,ea]⟩
              obtain⟨b,a,hma⟩:=hmp2;obtain⟨hg1,_,hg3⟩:=y8g_ (c:=[]) hti3 PR.si hma;have hg4:=hg3 (htwo _ (List.mem_of_getElem? hma));have hbk:=PR.si.back hma;have hl5:((s3.back b a).addC []).trail.length<=n:=hbk.1.ti.lenT;have hmax:=yaa_ (n:=n) (ms:=((s3.back b a).addC []).marks) hl5;omega
            have hRl:((B:Int)+8-(least1+8)).toNat / 8+1<=((B:Int)+8-least1).toNat / 8+fs:=by
              by_cases hf0:fs=0
              · have:=hsf hf0
                omega
              · omega
            have hmul:=Nat.mul_le_mul_right (M+1) hRl;rw[Nat.succ_mul]at hmul;refine⟨_,?_,T4,s4,hs4,ln4,lg4,0,_,w1+1+4,0,0,0,cs,HH,E4,L4,hc,hl1,k37,hcs,AsI.nil hm4,.inl hm4,.inl ⟨Nat.zero_le _,Nat.zero_le _⟩,Nat.zero_le _,Nat.zero_le _,by omega,fun _=>by omega,Nat.le_refl _,?_,fun hg=>?_⟩
            · simp only[Nat.sub_zero,Nat.add_zero];omega
            · simp only[Nat.sub_zero,Nat.add_zero];omega
            · obtain⟨g1,g2,g3⟩:=hLg hg
              have:=hsf g1;exact⟨rfl,by omega,(g3.learn hLS).anew (by omega)⟩
      · have hne:out = -1:=by omega
        subst hne;obtain⟨hlo3,hhd3⟩:=PR.fine rfl;have hP3:=PR.si.pp hlo3;have hCF:=hCd.fine PR.ex L1.si.ti hP3 hhd3
        repeat' with_reducible first|refine W.bind ?_|refine W.asV ?_|refine W.e0 ?_
        refine W.mono (yg4_ E3 HH.tn L3 hn4 hAs3 hc hAl hAL) fun r hr=>?_;obtain⟨r,τ4⟩:=r;obtain⟨T4,H4,hcase⟩:=hr;dsimp only at H4 hcase⊢;replace HH:=HH.trans H4.ej;replace hc:=hc.hop H4;replace hl1:=hl1.hop H4;replace k37:=k37.hop H4;have hl1u:=hl1.up;have goOn:∀(τ5:Heap) (T5:Tg) (l:Int) (hs5:List Int),Hop eJ σ T τ5 T5->EnX τ5 T5 e n (s3.dec l) hs5 ln1 lg1 since1 least1->val s3.vs l=0->isL l n=true->AsI (s3.dec l) A->(∀v:Nat,1<=v->v<=n->val s3.vs v=0->v≠l.natAbs->(v:Int)∈hs5)->SlV .int (τ5.at T5 0) A x->Loc (τ5.at T5 0) l1 [.ptr e.le 0]->Loc (τ5.at T5 37) l3 cs ->
            ∃m',m'<m/\∃(T':Tg) (s':PS) (hs':List Int) (ln':List (Int×Int)) (lg':List (Bool×List Int)) (since' least':Int) (w' cc uu fs:Nat) (cs:List AVal),Hop eJ σ T τ5 T'/\EnX τ5 T' e n s' hs' ln' lg' since' least'/\EnL gl n C s' hs' ln' lg' since' least' w' /\
            SlV .int (τ5.at T' 0) A x/\Loc (τ5.at T' 0) l1 [.ptr e.le 0]/\Loc (τ5.at T' 37) l3 cs/\cs.length=3/\AsI s' A/\Rd s' s'.loose (-1)/\CdI n s' (2*cc) uu/\cc<=B/\uu<=M/\fs<=1/\(fs=0->since'<=cc) /\
            (((B:Int)+8-least').toNat / 8+fs)*(M+1)+(M-uu)<=m'/\w'+6*m'<=w+6*mu n/\(gl=true->fs=0/\least'<=(B:Int)+16/\LgB n ln' lg' since' least'):=by
          intro τ5 T5 l hs5 H5 E5 hv0 hlL hAs5 hcov hc5 hl5 hk5;have hS5:=StI.dec hP3 hhd3 hlL hv0;have htr5:(s3.dec l).trail.length=s3.trail.length+1:=by show(s3.trail++[l]).length=_;simp
          have hlT5:=hS5.ti.lenT;have L5:EnL gl n C (s3.dec l) hs5 ln1 lg1 since1 least1 (w1+1+1):=L3.step hS5 ⟨rfl,(CEq.refl s3).2⟩ (fun v h1 h2 h4=>by
            rw[hS5.ti.zero]at h4;have e5:(s3.dec l).trail=s3.trail++[l]:=rfl;rw[e5]at h4;refine hcov v h1 h2 (hti3.zero.2 ⟨fun q=>h4.1 (by simp[q]),fun q=>h4.2 (by simp[q])⟩) fun q=>?_;rcases Int.natAbs_eq l with u|u
            · exact h4.1 (by rw[q,<-u];simp)
            · exact h4.2 (by rw[q];have : -((l.natAbs:Nat):Int)=l:=by omega
                             rw[this];simp)) (by
            have e1:(s3.dec l).ent=s3.ent:=rfl;have e2:(s3.dec l).loose=s3.loose:=rfl;have:=L3.z2;rw[e1,e2];omega)
          have hmax2:=yd8_ (n:=n) (ms:=(s3.dec l).marks) hlT5;have hrk:=yj4_ (n:=n) (l:=l) hti3;rw[<-hMd]at hmax2;have huu5:uu+1<=rkF n (s3.dec l).marks (s3.dec l).trail.length:=by omega
          have huuM:uu+1<=M:=by unfold rkW at hmax2;omega
          refine⟨(((B:Int)+8-least1).toNat / 8+fs)*(M+1)+(M-(uu+1)),by omega,T5,s3.dec l,hs5,ln1,lg1,since1,least1,w1+1+1,cc,uu+1,fs,cs,H5,E5,L5,hc5,hl5,hk5,hcs,hAs5,?_,.inl ⟨by rw[yfg_ hti3];exact hCF.1,huu5⟩,hcc,huuM,hfs,hsf,Nat.le_refl _,by omega,hLg⟩;have e2:(s3.dec l).loose=s3.loose:=rfl;rw[e2,hlo3];exact .inr ⟨rfl,.inl rfl⟩
        rcases hcase with ⟨l,hlA,er,hv0,hlL,hAs5,E5⟩|⟨core,y,er,hy,hcne,hcA,hC,hcl,E5⟩|⟨er,hAt,E5⟩
        · subst er
          refine W.condT rfl ?_
          repeat' (with_reducible refine W.next ?_)
          exact goOn _ T4 l hs1 HH E5 hv0 hlL hAs5 (fun v h1 h2 h4 _=>L3.hp v h1 h2 h4) hc hl1 k37
        · subst er
          refine W.condF rfl ?_;have hyns:∃a b c d,y=.sl a b c d:=by
            rcases hy with ⟨_,q⟩|⟨a,b,c,_,_,q,_⟩
            · exact absurd q hcne
            · exact⟨_,_,_,_,q⟩
          have heq:∀(K:Bool->Option ((Unit⊕AVal)×Heap)),eqS y .nils K=K false:=by
            obtain⟨a,b,c,d,rfl⟩:=hyns;intro K;rfl
          refine W.to (heq _) ?_;refine W.condT rfl ?_
          repeat' with_reducible first|refine W.bind ?_|refine W.asV ?_|refine W.e0 ?_
          refine W.mono (ybd_ E5 HH.tn L3 (by omega) hy (by omega) (fun l hl=>hAb l (hcA l hl)) hC) fun r hr=>?_;obtain⟨r,τ5⟩:=r;obtain⟨T5,H5,er,E6,L6⟩:=hr;dsimp only at er H5 E6⊢;subst er;replace HH:=HH.trans H5.ej;replace k37:=k37.hop H5;replace hy:=hy.hop H5
          repeat' (with_reducible refine W.e3 ?_)
          have hn:=HH.tn;refine W.stT k37 hn (by simp[hcs]) fun τ6 H6 k37 _=>?_;have e5:cs.take 0++[.bool false,.nils,y]++cs.drop (0+[AVal.bool false,.nils,y].length)=[.bool false,.nils,y]:=by simp[hcs]
          rw[e5]at k37;have E7:EnX τ6 T5 e n s3 hs1 ln1 (lg1++[(false,negs core)]) since1 least1:=by
            obtain⟨h,xs,xl,xg,conf,bump,most,sv,ws,E6⟩:=E6;exact⟨h,xs,xl,xg,conf,bump,most,sv,ws,E6.hopE H6⟩
          repeat' (with_reducible refine W.stop ?_)
          exact⟨rfl,T5,s3,hs1,ln1,_,since1,least1,_,HH.trans H6.ej37,E7,L6,by omega,fun hg=>by
            obtain⟨g1,g2,g3⟩:=hLg hg;have:=hsf g1;exact(g3.fin (by omega) (by omega) (c:=negs core) ⟨by simp[negs];exact hcl,fun x hx=>by
              obtain⟨y,hy,rfl⟩:=List.mem_map.1 hx;rw[y6z_];exact hAL y (hcA y hy)⟩).1,_,k37,rfl,.inr ⟨y,core,lg1,rfl,hy.hop H6,hcA,yc0_ L3 hC (fun l hl=>hAL l (hcA l hl)),hcl,rfl⟩⟩
        · subst er
          refine W.condF rfl ?_;refine W.eqSn ?_;refine W.condF rfl ?_
          repeat' with_reducible first|refine W.bind ?_|refine W.asV ?_|refine W.e0 ?_
          refine W.mono (yfj_ E5 HH.tn L3 hn4) fun r hr=>?_;obtain⟨r,τ5⟩:=r;obtain⟨T5,hs5,H5,hcase⟩:=hr;dsimp only at H5 hcase⊢;replace HH:=HH.trans H5.ej;replace hc:=hc.hop H5;replace hl1:=hl1.hop H5;replace k37:=k37.hop H5;have hl1u:=hl1.up;rcases hcase with ⟨er,l,hv0,hlL,E6,hcov⟩|⟨er,hall,E6⟩
          · subst er
            refine W.condF rfl ?_
            repeat' (with_reducible refine W.next ?_)
            exact goOn _ T5 l hs5 HH E6 hv0 hlL (hAs3.decF hti3 hlL hv0 hAt) hcov hc hl1 k37
          · subst er
            refine W.condT rfl ?_
            repeat' with_reducible first|refine W.bind ?_|refine W.asV ?_|refine W.e0 ?_
            have L5:EnL gl n C s3 hs5 ln1 lg1 since1 least1 (w1+1):=L3.heap fun v h1 h2 h4=>absurd h4 (hall v (ym_.2 ⟨by omega,by omega,by omega⟩));refine W.mono (ydv_ E6 HH.tn L5 hn4) fun r hr=>?_;obtain⟨y,τ6⟩:=r;obtain⟨T6,Mo,H6,E7,hy,hMl,hMv⟩:=hr;dsimp only at H6 E7 hy⊢;replace HH:=HH.trans H6.ej;replace k37:=k37.hop H6;have hyu:=hy.up
            repeat' (with_reducible refine W.scalS (by assumption) ?_)
            have hn:=HH.tn;refine W.stT k37 hn (by simp[hcs]) fun τ7 H7 k37 _=>?_;have e5:cs.take 0++[.bool true,y,.nils]++cs.drop (0+[AVal.bool true,y,.nils].length)=[.bool true,y,.nils]:=by simp[hcs]
            rw[e5]at k37;have E8:EnX τ7 T6 e n s3 hs5 ln1 lg1 since1 least1:=by
              obtain⟨h,xs,xl,xg,conf,bump,most,sv,ws,E7⟩:=E7;exact⟨h,xs,xl,xg,conf,bump,most,sv,ws,E7.hopE H7⟩
            repeat' (with_reducible refine W.stop ?_)
            exact⟨rfl,T6,s3,hs5,ln1,lg1,since1,least1,_,HH.trans H7.ej37,E8,L5,by omega,fun hg=>by
              obtain⟨g1,g2,g3⟩:=hLg hg;have:=hsf g1;exact(g3.fin (by omega) (by omega) (c:=[]) ⟨by simp,by simp⟩).2,_,k37,rfl,.inl ⟨y,Mo,rfl,hy.hop H7,hMl,L3.model hlo3 hhd3 hall hMv,fun a ha=>ya2_ hti3 hMv (hAL a ha) (hAt a ha)⟩⟩
  · obtain⟨v,τ3⟩:=r
    obtain⟨ev,T3,s3,hs3,ln3,lg3,since3,least3,w3,HH,E3,L3,hw3,hLF,cs,k37,hcs,hR⟩:=hr;dsimp only at ev HH E3 k37 hR⊢;subst ev;refine W.bind ?_;refine W.mono (y6a_ (k:=0) E3 HH.tn L3 hn4) fun r hr=>?_;obtain⟨r,τ4⟩:=r;obtain⟨T4,hs4,H4,E4,L4⟩:=hr;dsimp only at H4 E4⊢;replace k37:=k37.hop H4;have hg:=k37.up;refine W.ldGL hg (by omega) ?_;have e3:(cs.drop 0).take 3=cs:=by rw[List.drop_zero,List.take_of_length_le (by omega)]
    rw[e3]
    repeat' with_reducible refine W.ret ?_
    refine⟨T4,_,hs4,ln3,lg3,since3,least3,w3+1,HH.trans H4.ej,E4,L4,by omega,y79_ L3.si,?_,hLF⟩;rcases hR with ⟨y,M,er,h1,h2⟩|⟨y,core,lg0,er,h1,h2⟩
    · exact .inl ⟨y,M,er,h1.hop H4,h2⟩
    · exact .inr ⟨y,core,lg0,er,h1.hop H4,h2⟩
end
end
section
open Go
def eK:Nat->Bool:=fun j=>eJ j||j==39
theorem Hop.ek{σ τ:Heap}{T T':Tg}(H:Hop eI σ T τ T'):Hop eK σ T τ T':=H.sub fun i hi=>by simp[eK,eJ,hi]
theorem Hop.jk{σ τ:Heap}{T T':Tg}(H:Hop eJ σ T τ T'):Hop eK σ T τ T':=H.sub fun i hi=>by simp[eK,hi]
theorem Hop.ok{σ τ:Heap}{T T':Tg}{t:Nat}(H:Hop (only t) σ T τ T')(ht:eK t=true:=by rfl):Hop eK σ T τ T':=H.sub fun i hi=>by
 have:i=t:=by simpa using hi
 rw[this];exact ht
section
variable{σ τ:Heap}{T T':Tg}{e:EnP}{n k id:Nat}{s:PS}{hs c:List Int}{ln:List (Int×Int)}{lg:List (Bool×List Int)}{since least:Int}{x:AVal}{A xs:List Int}{gl:Bool}{C:List (List Int)}{w:Nat}
theorem y3v_(h:SlV .int (σ.at T 0) xs x)(hn:Tn σ T)(hb:xs.length<=1000000):W (S.z61 x σ) fun r=>∃T' y,r.1=.agg [y,.int .i64 0]/\Hop (only 39) σ T r.2 T'/\SlV .int (r.2.at T' 0) xs y:=by
 unfold S.z61;refine W.newT 39 hn fun l1 τ1 T1 hl1 H1 k1 hnτ1=>?_;replace h:=h.hop H1;replace hn:=H1.tn;refine W.bind ?_;refine W.mono (y8r_ h hn hb) fun r hr=>?_;obtain⟨y,τ2⟩:=r;obtain⟨L2,_,hy⟩:=hr;dsimp only at L2 hy⊢;replace k1:=k1.hle L2;replace hn:=hn.mono L2;have hyu:=hy.up;refine W.scalS hyu ?_;refine W.stT k1 hn (Nat.le_of_ble_eq_true (by rfl)) fun τ3 H3 k1 hnτ3=>?_;replace hy:=hy.hop H3
 repeat' with_reducible first|refine W.ret ?_|refine W.u1 ?_
 exact⟨T1,y,rfl,(H1.trans (Hop.of H1.tn L2)).trans H3,hy⟩
def ScV(σ:Heap)(x:AVal)(s:(List Int×List Int×List Int×List Int)×Int×Int):Prop:=∃x0 x1 x2 x3,x=.agg [x0,x1,x2,x3,.int .i64 s.2.1,.int .i64 s.2.2]/\SlV .int σ s.1.1 x0/\SlV .int σ s.1.2.1 x1/\SlV .int σ s.1.2.2.1 x2/\SlV .int σ s.1.2.2.2 x3
def ScS(s:(List Int×List Int×List Int×List Int)×Int×Int):Prop:=s.1.1.length<=50/\s.1.2.1.length<=50/\s.1.2.2.1.length<=50/\s.1.2.2.2.length<=50
variable{sc:(List Int×List Int×List Int×List Int)×Int×Int}
theorem yfm_(h:ScV (σ.at T 0) x sc)(hn:Tn σ T)(hs:ScS sc):W (S.z60 x σ) fun r=>∃T' lq,r.1=.ptr lq 0/\Hop eK σ T r.2 T'/\PcI r.2 T' lq sc.2.1 0 16:=by
 obtain⟨x0,x1,x2,x3,rfl,h0,h1,h2,h3⟩:=h;obtain⟨b0,b1,b2,b3⟩:=hs;unfold S.z60
 repeat' (with_reducible refine W.e3 ?_)
 refine W.new0 hn fun l2 τ1 _ L1 k1 hn1=>?_;replace h0:=h0.hle L1;replace h1:=h1.hle L1;replace h2:=h2.hle L1;replace h3:=h3.hle L1;have HH:Hop eK σ T τ1 T:=Hop.of hn L1;have hn:=hn1
 repeat' with_reducible first|refine W.bind ?_|refine W.asV ?_|refine W.u0 ?_
 refine W.mono (y3v_ h0 hn (by omega)) fun r hr=>?_;obtain⟨r,τ2⟩:=r;obtain⟨T2,y0,er,H2,j0⟩:=hr;dsimp only at er H2 j0⊢;subst er;replace HH:=HH.trans H2.ok;have k2:=k1.hop H2;replace h1:=h1.hop H2;replace h2:=h2.hop H2;replace h3:=h3.hop H2;replace hn:=H2.tn
 repeat' with_reducible first|refine W.bind ?_|refine W.asV ?_|refine W.chk rfl ?_|refine W.u0 ?_
 refine W.mono (y3v_ h1 hn (by omega)) fun r hr=>?_;obtain⟨r,τ3⟩:=r;obtain⟨T3,y1,er,H3,j1⟩:=hr;dsimp only at er H3 j1⊢;subst er;replace HH:=HH.trans H3.ok;have k3:=k2.hop H3;replace h2:=h2.hop H3;replace h3:=h3.hop H3;replace j0:=j0.hop H3;replace hn:=H3.tn
 repeat' with_reducible first|refine W.bind ?_|refine W.asV ?_|refine W.chk rfl ?_|refine W.u0 ?_
 refine W.mono (y3v_ h2 hn (by omega)) fun r hr=>?_;obtain⟨r,τ4⟩:=r;obtain⟨T4,y2,er,H4,j2⟩:=hr;dsimp only at er H4 j2⊢;subst er;replace HH:=HH.trans H4.ok;have k4:=k3.hop H4;replace h3:=h3.hop H4;replace j0:=j0.hop H4;replace j1:=j1.hop H4;replace hn:=H4.tn
 repeat' with_reducible first|refine W.bind ?_|refine W.asV ?_|refine W.chk rfl ?_|refine W.u0 ?_
 refine W.mono (y3v_ h3 hn (by omega)) fun r hr=>?_;obtain⟨r,τ5⟩:=r;obtain⟨T5,y3,er,H5,j3⟩:=hr;dsimp only at er H5 j3⊢;subst er;replace HH:=HH.trans H5.ok;have k5:=k4.hop H5;replace j0:=j0.hop H5;replace j1:=j1.hop H5;replace j2:=j2.hop H5;replace hn:=H5.tn
 repeat' with_reducible first|refine W.asI ?_|refine W.chk rfl ?_|refine W.e3 ?_|refine W.putC (by with_unfolding_all rfl) ?_|refine W.u0 ?_
 refine W.newT 30 hn fun l34 τ6 T6 hl34 H6 k30 hnτ6=>?_;replace HH:=HH.trans H6.ok;replace j0:=j0.hop H6;replace j1:=j1.hop H6;replace j2:=j2.hop H6;replace j3:=j3.hop H6;replace hn:=H6.tn
 repeat' with_reducible refine W.ret ?_
 exact⟨T6,l34,rfl,HH,⟨y0,0,y1,0,y2,0,y3,0,0,k30,⟨_,j0,by omega,by omega,by omega⟩,⟨_,j1,by omega,by omega,by omega⟩,⟨_,j2,by omega,by omega,by omega⟩,⟨_,j3,by omega,by omega,by omega⟩⟩⟩
def EnW(σ:Heap)(T:Tg)(e:EnP)(n:Nat)(s:PS)(hs:List Int)(ln:List (Int×Int))(lg:List (Bool×List Int))(since least:Int)(k:Nat):Prop:=∃h xs xl xg conf bump most sv ws,Loc (σ.at T 31) e.le [.ptr e.lp 0,.ptr e.lh 0,.ptr e.lq 0,xs,xl,xg,.int .i64 conf,.int .i64 bump]/\PropH σ T e.lp h s/\HpI σ T e.lh n hs/\PcI σ T e.lq most since least/\most<=0/\Own .int (σ.at T 32) sv xs/\sv.length=k/\Own vLn (σ.at T 33) ln xl/\Own vBR (σ.at T 34) ws xg/\AllB (σ.at T 0) lg ws
theorem yfi_{vars:Nat}(E:EnW σ T e n s hs ln lg since least k)(hn:Tn σ T)(hL:PLen (n+1) s)(hk:k<=n+1)(hn4:n<=4000)(hv:vars<=4000) :
  W (S.z98 (.ptr e.le 0) (vars:Int) σ) fun r=>∃T' hs',Hop eI σ T r.2 T'/\EnX r.2 T' e (n+(vars-n)) (s.grow (vars-n)) hs' ln lg since least/\∀x:Int,x∈hs'↔x∈hs\/((n:Int)<x/\x<=vars):=by
 obtain⟨h,xs,xl,xg,conf,bump,most,sv,ws,k1,kp,kh,kq,km,ks,ksl,kl,kg,ka⟩:=E;unfold S.z98
 repeat' with_reducible first|refine W.bind ?_|refine W.asV ?_|refine W.fldp ?_|refine W.nck ?_|refine W.u0 ?_
 refine W.mono (y8l_ (vars:=vars) kp hn hL (by omega) hv (by omega)) fun r hr=>?_;obtain⟨r,τ1⟩:=r;obtain⟨T1,h1,H1,kp⟩:=hr;dsimp only at H1 kp⊢;rw[show vars+1-(n+1)=vars-n from by omega]at kp;replace kh:=kh.hopP H1;replace kq:=kq.hop H1;replace ka:=ka.hop H1;have HH:=H1.pe;replace k1:=k1.hop H1;replace ks:=ks.hop H1;replace kl:=kl.hop H1;replace kg:=kg.hop H1;replace hn:=H1.tn
 repeat' with_reducible first|refine W.bind ?_|refine W.asV ?_|refine W.fldp ?_|refine W.nck ?_|refine W.u0 ?_
 refine W.mono (y9h_ (vars:=vars) kh hn hn4 hv) fun r hr=>?_;obtain⟨r,τ2⟩:=r;obtain⟨T2,hs2,H2,kh,hm⟩:=hr;dsimp only at H2 kh⊢;rw[show max n vars=n+(vars-n)from by omega]at kh;replace kp:=kp.hopH H2;replace kq:=kq.hop H2;replace ka:=ka.hop H2;replace HH:=HH.trans H2.he;replace k1:=k1.hop H2;replace ks:=ks.hop H2;replace kl:=kl.hop H2;replace kg:=kg.hop H2;replace hn:=H2.tn
 repeat' (with_reducible refine W.bind ?_)
 have hvs:(s.grow (vars-n)).vs.length=n+(vars-n)+1:=by
  simp only[PS.grow,List.length_append,List.length_replicate,hL.vs];omega
 generalize hN:n+(vars-n)=N at kh hvs⊢;have hN4:N<=4000:=by omega
 generalize hS:s.grow (vars-n)=s1 at kp hvs⊢;refine W.mono (P:=fun r=>∃T',Hop eI σ T r.2 T'/\EnX r.2 T' e N s1 hs2 ln lg since least) ?_ fun r hr=>?_
 ·refine W.loopI (m:=N+1-sv.length) (fun m (_:Unit) τ=>∃(T':Tg) (sv':List Int) (xs':AVal),Hop eI σ T τ T'/\Loc (τ.at T' 31) e.le [.ptr e.lp 0,.ptr e.lh 0,.ptr e.lq 0,xs',xl,xg,.int .i64 conf,.int .i64 bump]/\PropH τ T' e.lp h1 s1/\HpI τ T' e.lh N hs2/\PcI τ T' e.lq most since least/\Own .int (τ.at T' 32) sv' xs'/\sv'.length<=N+1/\m=N+1-sv'.length/\Own vLn (τ.at T' 33) ln xl/\Own vBR (τ.at T' 34) ws xg/\AllB (τ.at T' 0) lg ws) ⟨T2,sv,xs,HH,k1,kp,kh,kq,ks,by omega,rfl,kl,kg,ka⟩ fun m _ τ hI2=>?_
  clear kp kh kq ks kl kg ka k1 HH
  obtain⟨T3,sv3,xs3,HH,k1,kp,kh,kq,ks,hsv,rfl,kl,kg,ka⟩:=hI2;unfold S.z98.b0;have ksl:=ks.slT
  repeat' with_reducible first|refine W.bind ?_|refine W.asV ?_|refine W.fldp ?_|refine W.len (by assumption) ?_|refine W.nck ?_|refine W.u0 ?_
  refine W.to (y3e_ kp hvs hN4) ?_
  repeat' with_reducible refine W.ret ?_
  (with_reducible refine W.cnd (fun hlt=>?_) (fun hlt=>?_)<;>(try simp only[qq,Kd.ty]at hlt)<;>(try (exfalso;omega)))
  ·repeat' with_reducible first|refine W.asV ?_|refine W.fldp ?_|refine W.nck ?_|refine W.u0 ?_
   refine W.own_push (bytes:=8) Vw.int_flat ks HH.tn (a:=(0:Int)) rfl (by omega) (by omega) fun x2 τ5 T5 ks H5=>?_;replace HH:=HH.trans H5.oe;replace k1:=k1.hop H5;replace kp:=kp.hopO H5;replace kh:=kh.hopB H5;replace kq:=kq.hop H5;replace kl:=kl.hop H5;replace kg:=kg.hop H5;replace ka:=ka.hop H5;have hn:=HH.tn
   repeat' with_reducible first|refine W.fldp ?_|refine W.nck ?_|refine W.u4 ?_
   refine W.stT k1 hn (Nat.le_of_ble_eq_true (by rfl)) fun τ6 H6 k1 hnτ6=>?_;replace HH:=HH.trans H6.oe;replace kp:=kp.hopO H6;replace kh:=kh.hopB H6;replace kq:=kq.hop H6;replace ka:=ka.hop H6;replace ks:=ks.hop H6;replace kl:=kl.hop H6;replace kg:=kg.hop H6;replace hn:=H6.tn
   repeat' (with_reducible refine W.next ?_)
   exact⟨N+1-(sv3++[0]).length,by simp;omega,T5,_,x2,HH,k1,kp,kh,kq,ks,by simp;omega,rfl,kl,kg,ka⟩
  ·repeat' (with_reducible refine W.stop ?_)
   exact⟨T3,HH,h1,xs3,xl,xg,conf,bump,most,sv3,ws,k1,kp,kh,kq,km,ks,by omega,kl,kg,ka⟩
 ·obtain⟨r,τ3⟩:=r
  obtain⟨T3,HH,E⟩:=hr
  repeat' with_reducible refine W.ret ?_
  exact⟨T3,hs2,HH,E,hm⟩
theorem EnL.grow{hs':List Int}(L:EnL gl n C s hs ln lg since least w)(m:Nat)(hm:∀x:Int,x∈hs'↔x∈hs\/((n:Int)<x/\x<=(n:Int)+m)):EnL gl (n+m) C (s.grow m) hs' ln lg since least w:=by
 obtain⟨S1,S2⟩:=L.si.grow m;have hv:∀v:Nat,v<=n->val (s.grow m).vs v=val s.vs v:=fun v hv=>by
  have:=L.si.ti.len.vs;unfold val PS.grow;simp only[Int.natAbs_natCast];rw[y87_ (by omega)];have e1:¬(s.vs++List.replicate m 0).length<=v:=by simp;omega
  have e2:¬s.vs.length<=v:=by omega
  simp only[e1,e2]
 refine⟨S1,fun v h1 h2 h3=>(hm v).2 ?_,L.lnI,L.lnN,L.orI,L.snd,fun c hc x hx=>ybb_ (L.cl c hc x hx) (by omega),L.lgI,L.z1,?_,L.z3,L.z4,L.z5,L.z6⟩
 ·by_cases hvn:v<=n
  ·exact .inl (L.hp v h1 hvn (by rw[<-hv v hvn];exact h3))
  ·exact .inr (by omega)
 ·have:=L.z2
  rw[S2];exact this
end
end
section
open Go
theorem StI.zero:StI 0 PS.zero:=by
 have hc:∀(id:Nat) x,¬PS.zero.cls[id]?=some x:=fun id x h=>by simp[PS.zero]at h
 have ht:∀l,¬l∈PS.zero.trail:=fun l h=>by simp[PS.zero]at h
 have htg:∀(i:Nat) l,¬PS.zero.trail[i]?=some l:=fun i l h=>by simp[PS.zero]at h
 refine⟨⟨⟨rfl,rfl,rfl,rfl⟩,?_,fun l h=>absurd h (ht l),fun l=>⟨fun h=>?_,fun h=>absurd h (ht l)⟩,by simp[PS.zero],fun l h=>absurd h (ht l),fun k m h=>by simp[PS.zero]at h,fun i l h=>absurd h (htg i l)⟩,fun id c f h=>absurd h (hc _ _),⟨by simp[PS.zero],fun x h=>by simp[PS.zero]at h,fun id c b h=>absurd h (hc _ _)⟩,fun id c f h=>absurd h (hc _ _),fun w hw e he=>?_,⟨0,rfl,Nat.zero_le _,fun m h=>by simp[PS.zero]at h,fun id c h=>absurd h (hc _ _)⟩⟩
 ·intro i x;simp[PS.zero]at x;omega
 ·exfalso
  unfold val PS.zero at h;have:([0]:List Int).getD l.natAbs 0=0:=by
   rcases hq:l.natAbs with _|k
   ·rfl
   ·simp
  rw[this]at h;simp at h
 ·simp[PS.zero]at hw
  subst hw;cases he
section
variable{σ τ:Heap}{T T':Tg}{e:EnP}{n k id:Nat}{s:PS}{hs c:List Int}{ln:List (Int×Int)}{lg:List (Bool×List Int)}{since least most:Int}{x:AVal}{A xs:List Int}{gl:Bool}{C:List (List Int)}{w:Nat}{sc:(List Int×List Int×List Int×List Int)×Int×Int}
theorem EnL.zero:EnL gl 0 [] PS.zero [] [] [] 0 16 0:=
 ⟨StI.zero,fun v h1 h2=>(by omega),fun e h=>(by cases h),List.nodup_nil,fun c h=>(by cases h),fun m h c hc=>(by simp[PS.db,PS.zero]at hc),fun c h=>(by cases h),fun _=>⟨[],[],.nil,by simp[PS.db,PS.zero]⟩,Nat.le_refl _,by decide,Nat.le_refl _,Nat.le_refl _,by omega,by omega⟩
theorem yec_{lq vars:Nat}(hq:PcI σ T lq most 0 16)(hm:most<=0)(hn:Tn σ T)(hv:vars<=4000) :
  W (S.z109 (vars:Int) (.ptr lq 0) σ) fun r=>∃T' e s hs,r.1=.ptr e.le 0/\Hop eI σ T r.2 T'/\EnX r.2 T' e vars s hs [] [] 0 16/\EnL gl vars [] s hs [] [] 0 16 0/\s.marks=[]:=by
 unfold S.z109;refine W.bind ?_;refine W.mono (yg6_ hn) fun r hr=>?_;obtain⟨r,τ1⟩:=r;obtain⟨T1,lp,h1,er,H1,kp⟩:=hr;dsimp only at er H1 kp⊢;subst er;replace hq:=hq.hop H1;have HH:=H1.pe;refine W.bind ?_;refine W.mono (yg3_ HH.tn) fun r hr=>?_;obtain⟨r,τ2⟩:=r;obtain⟨T2,lh,er,H2,kh⟩:=hr;dsimp only at er H2 kh⊢;subst er;replace hq:=hq.hop H2;replace kp:=kp.hopH H2;replace HH:=HH.trans H2.he;have hn:=HH.tn
 repeat' (with_reducible refine W.scP ?_)
 refine W.newT 31 hn fun l3 τ3 T3 hl3 H3 k1 hnτ3=>?_;replace hq:=hq.hop H3;replace kp:=kp.hopO H3;replace kh:=kh.hopB H3;replace HH:=HH.trans H3.oe;have E:EnW τ3 T3 ⟨l3,lp,lh,lq⟩ 0 PS.zero [] [] [] 0 16 0:=⟨_,_,_,_,_,_,most,[],[],k1,kp,kh,hq,hm,Own.nil,rfl,Own.nil,Own.nil,⟨rfl,fun i a y=>(by simp at y)⟩⟩;refine W.bind ?_;refine W.mono (yfi_ (vars:=vars) E HH.tn ⟨rfl,rfl,rfl,rfl⟩ (by omega) (by omega) hv) fun r hr=>?_;obtain⟨r,τ4⟩:=r;obtain⟨T4,hs4,H4,E4,hm4⟩:=hr;dsimp only at H4 E4⊢;have hL:=(EnL.zero (gl:=gl)).grow (hs':=hs4) (vars-0) (fun x=>by rw[hm4];simp);rw[show 0+(vars-0)=vars from by omega]at E4 hL
 repeat' with_reducible refine W.ret ?_
 exact⟨T4,⟨l3,lp,lh,lq⟩,_,hs4,rfl,HH.trans H4,E4,hL,rfl⟩
theorem yji_{l1 u:Nat}{y:AVal}(E:EnX σ T e n s hs ln lg since least)(hc:SlV .int (σ.at T u) A x)(hAL:A.length<=1000000)(hl1:Loc (σ.at T 0) l1 [.ptr e.le 0])(hv:s.vs.length=n+1)(hn4:n<=4000){f:AVal}(hf:∀l∈A,∀{Rt:Type} (K:AVal->Heap->Option Rt),callV S.z126.T f [.int .i64 l] σ K=(S.z97 l (.ptr l1 0) σ).bind fun x=>K (retV [.B] x) σ) :
  W (S.z123 x f σ) fun r=>r=(A.any fun l => !isL l n,σ):=by
 refine y1f_ (fun l => !isL l n) hc.up (by omega) fun l hl Rt K=>?_;rw[hf l hl];have e1:S.z97 l (.ptr l1 0) σ=some (!isL l n):=by
  obtain⟨r,er,rfl⟩:W (S.z97 l (.ptr l1 0) σ) fun r=>r = !isL l n:=by
   obtain⟨h,xs,xl,xg,conf,bump,most,sv,ws,E⟩:=E;have k1:=E.obj;unfold S.z97
   repeat' with_reducible first|refine W.bind ?_|refine W.asV ?_|refine W.fldp ?_|refine W.nck ?_|refine W.u0 ?_
   refine W.to (y3e_ E.prop hv hn4) ?_
   repeat' with_reducible first|refine W.ret ?_|refine W.bind ?_
   refine W.to (y1o_ (by omega) (by omega)) ?_
   repeat' with_reducible refine W.ret ?_
   rfl
  exact er
 rw[e1];rfl
theorem EnX.hle(E:EnX σ T e n s hs ln lg since least)(L:Hle σ τ):EnX τ T e n s hs ln lg since least:=by
 obtain⟨h,xs,xl,xg,conf,bump,most,sv,ws,E⟩:=E;exact⟨h,xs,xl,xg,conf,bump,most,sv,ws,E.hle L⟩
theorem yh2_{u:Nat}(E:EnX σ T e n s hs ln lg since least)(hn:Tn σ T)(L:EnL gl n C s hs ln lg since least w)(hn4:n<=4000)(hw:w<=1000000000)(hc:SlV .int (σ.at T u) c x)(hl:c.length<=1000000)(hb:∀l∈c,isL l n=true)(hg:gl=true->lg=[]) :
  W (S.z96 (.ptr e.le 0) x σ) fun r=>r.1=true/\∃T' s',Hop eI σ T r.2 T'/\EnX r.2 T' e n s' hs ln lg since least/\EnL gl n (C++[c]) s' hs ln lg since least (w+1)/\s'.marks=s.marks:=by
 have hL2:=L.add hb hg;unfold S.z96
 repeat' (with_reducible refine W.scP ?_)
 refine W.new0 hn fun l1 τ1 _ L1 hl1 hn1=>?_;replace E:=E.hle L1;replace hc:=hc.hle L1;have HH:Hop eI σ T τ1 T:=Hop.of hn L1;refine W.bind ?_;refine W.mono (yji_ E hc hl hl1 L.si.ti.len.vs hn4 (y:=x) (fun l hl Rt K=>rfl)) fun r hr=>?_;subst hr;dsimp only;refine W.condF (by rw[List.any_eq_false];intro l hl;simp[hb l hl]) ?_;obtain⟨h,xs,xl,xg,conf,bump,most,sv,ws,E⟩:=E;obtain⟨k1,kp,kh,kq,km,ks,ksl,kl,kg,ka⟩:=E
 repeat' with_reducible first|refine W.bind ?_|refine W.asV ?_|refine W.fldp ?_|refine W.nck ?_|refine W.u0 ?_
 have z1:=L.z1;have z2:=L.z2;refine W.mono (yaj_ (n:=n) kp hn1 L.si.ti.len hn4 hc (by
  rw[List.all_eq_true];exact fun l hl=>y6r_ (hb l hl) hn4) hl (by omega) (by omega) (fun w' hw'=>by have:=y6l_ hw';omega)) fun r hr=>?_
 obtain⟨r,τ2⟩:=r;obtain⟨T2,h2,H2,hr⟩:=hr;dsimp only at H2 hr⊢
 repeat' with_reducible refine W.ret ?_
 have hbad:y2f_ n c = !saysN c:=by
  unfold y2f_;have:((normL c).any fun l => !isL l n)=false:=by
   rw[List.any_eq_false];intro l hl;simp[hb l (yd_.1 hl)]
  rw[this];simp
 refine⟨rfl,T2,_,HH.trans H2.pe,⟨h2,xs,xl,xg,conf,bump,most,sv,ws,k1.hop H2,?_,kh.hopP H2,kq.hop H2,km,ks.hop H2,ksl,kl.hop H2,kg.hop H2,ka.hop H2⟩,hL2,?_⟩
 ·rcases hr with ⟨q,_,kp⟩|⟨q,_,kp⟩
  ·rw[hbad]at q
   rw[if_neg (by simpa using q)];exact kp
  ·rw[hbad]at q
   rw[if_pos (by simpa using q),<-ygn_];exact kp
 ·split<;>rfl
end
end
section
open Go
section
variable{σ τ:Heap}{T T':Tg}{e:EnP}{n k id:Nat}{s:PS}{hs c:List Int}{ln:List (Int×Int)}{lg:List (Bool×List Int)}{since least most:Int}{x y:AVal}{A xs:List Int}{gl:Bool}{C cs:List (List Int)}{w:Nat}{sc:(List Int×List Int×List Int×List Int)×Int×Int}
def En(gl:Bool)(σ:Heap)(T:Tg)(e:EnP)(n:Nat)(C:List (List Int))(w:Nat):Prop:=∃s hs ln lg since least,EnX σ T e n s hs ln lg since least/\EnL gl n C s hs ln lg since least w/\s.marks=[]/\(gl=true->lg=[]/\ln=[]/\since=0/\least=16)
theorem yhr_{u:Nat}(E:En gl σ T e n C w)(hn:Tn σ T)(hn4:n<=4000)(hw:w<=1000000000)(hc:SlV .int (σ.at T u) c x)(hl:c.length<=1000000)(hb:∀l∈c,isL l n=true) :
  W (S.z96 (.ptr e.le 0) x σ) fun r=>r.1=true/\∃T',Hop eI σ T r.2 T'/\En gl r.2 T' e n (C++[c]) (w+1):=by
 obtain⟨s,hs,ln,lg,since,least,E,L,hm,hg⟩:=E;exact(yh2_ E hn L hn4 hw hc hl hb fun h=>(hg h).1).mono fun r hr=>⟨hr.1,hr.2.elim fun T' hr=>hr.elim fun s' hr=>⟨T',hr.1,s',hs,ln,lg,since,least,hr.2.1,hr.2.2.1,by rw[hr.2.2.2,hm],hg⟩⟩
theorem yi3_(E:En gl σ T e n C w)(hn:Tn σ T)(hn4:n<=4000)(hw:w<=1000000000)(hc:SlV .int (σ.at T 0) c x)(hl:c.length<=1000000)(hb:∀l∈c,isL l n=true) :
  W (S.z96 (.ptr e.le 0) x σ) fun r=>r.1=true/\∃T',Hop eK σ T r.2 T'/\En gl r.2 T' e n (C++[c]) (w+1):=by
 exact(yhr_ E hn hn4 hw hc hl hb).mono fun r hr=>⟨hr.1,hr.2.elim fun T' hr=>⟨T',hr.1.ek,hr.2⟩⟩
def SoA(σ:Heap)(T:Tg)(n:Nat)(C:List (List Int))(A:List Int)(r:AVal×AVal):Prop:=
 (∃y M,r=(.agg [.bool true,y,.nils],.nili)/\SlV .bool (σ.at T 0) M y/\M.length=n+1/\mods (mOf M) C/\∀a∈A,holds (mOf M) a=true) \/
 (∃y core,r=(.agg [.bool false,.nils,y],.nili)/\SlV .int (σ.at T 0) core y/\(∀l∈core,l∈A)/\(∀m,mods m C->¬ ∀l∈core,holds m l=true)/\core.length<=n+1)
theorem yge_(E:En false σ T e n C w)(hn:Tn σ T)(hn13:n<=20)(hc:SlV .int (σ.at T 0) A x)(hAl:A.length<=100000)(hAL:∀l∈A,isL l n=true)(hw:w+6*mu n<=850000000000) :
  W (S.z99 (.ptr e.le 0) x σ) fun r=>∃T' w',Hop eK σ T r.2 T'/\En false r.2 T' e n C w'/\w'<=w+6*mu n+10/\SoA r.2 T' n C A r.1:=by
 obtain⟨s,hs,ln,lg,since,least,E,L,hm,hg'⟩:=E;refine(yj2_ E hn L hn13 hm hc hAl hAL hw fun h=>by cases h).mono fun r hr=>?_;obtain⟨T',s',hs',ln',lg',since',least',w',h1,h2,h3,h4,h5,h6,_⟩:=hr;refine⟨T',w',h1.jk,⟨s',hs',ln',lg',since',least',h2,h3,h5,fun h=>by cases h⟩,h4,?_⟩;rcases h6 with ⟨y,M,q⟩|⟨y,core,lg0,q1',q2',q3',q4',q5',_⟩
 ·exact .inl ⟨y,M,q⟩
 ·exact .inr ⟨y,core,q1',q2',q3',q4',q5'⟩
theorem ygh_{l:Int}{n:Nat}(h:l≠0/\-(n:Int)<=l/\l<=n):isL l n=true:=ym_.2 (by omega)
end
end
section
open Go
section
variable{R:Type}{Q:R->Prop}{σ τ:Heap}{T T':Tg}
theorem W.new1{α:Type}{v:Vw α}(hn:Tn σ T){u:AVal}(a:α)(hsz:v.sz=1)(hr:∀τ,Hle (σ.at T 0) τ->v.rel τ a [u]){K:Nat->Heap->Option R}
  (c:∀l τ,l=σ.next->Hle σ τ->SlV v (τ.at T 0) [a] (.sl l 0 1 none)->Tn τ T->W (K l τ) Q):W (newK σ 1 [u] K) Q:=
 have L:=(Hle.refl σ).new (.cells .rw 1 [u])
 c σ.next _ rfl L (.inr ⟨σ.next,0,none,.rw,[u],rfl,Nat.lt_succ_self _,by rw[hsz];exact at_of (hn.z _ (Nat.le_refl _)) (by rw[yi_,if_pos rfl]),by simp[hsz],fun i b hi=>by
  match i,hi with
  |0,hi=>cases hi;simp only[hsz];exact hr _ (L.ats T 0)
  |i+1,hi=>simp at hi⟩) (hn.mono L)
theorem W.newI1(hn:Tn σ T){a:Int}{K:Nat->Heap->Option R}
  (c:∀l τ,l=σ.next->Hle σ τ->SlV .int (τ.at T 0) [a] (.sl l 0 1 none)->Tn τ T->W (K l τ) Q):W (newK σ 1 [.int .i64 a] K) Q:=W.new1 hn a rfl (fun _ _=>rfl) c
theorem W.newIs(hn:Tn σ T)(zs:List Int){K:Nat->Heap->Option R}{ws:List AVal}(hws:ws=zs.map (AVal.int .i64))
  (c:∀l τ,l=σ.next->Hle σ τ->SlV .int (τ.at T 0) zs (.sl l 0 zs.length none)->Tn τ T->W (K l τ) Q):W (newK σ 1 ws K) Q:=
 have L:=(Hle.refl σ).new (.cells .rw 1 ws)
 c σ.next _ rfl L (.inr ⟨σ.next,0,none,.rw,ws,rfl,Nat.lt_succ_self _,at_of (hn.z _ (Nat.le_refl _)) (by rw[yi_,if_pos rfl];rfl),by rw[hws];simp[Vw.int],fun i b hi=>by
  rw[hws];show List.take 1 (List.drop ((0+i)*1) (zs.map (AVal.int .i64)))=[.int .i64 b];rw[Nat.zero_add,Nat.mul_one,<-List.map_drop,<-List.map_take];have:(zs.drop i).take 1=[b]:=by
   rw[List.take_one,List.head?_drop,hi];rfl
  rw[this];rfl⟩) (hn.mono L)
end
section
variable{σ τ:Heap}{T T':Tg}{e:EnP}{n k id:Nat}{x y:AVal}{A:List Int}{C cs:List (List Int)}{w:Nat}{sc:(List Int×List Int×List Int×List Int)×Int×Int}
end
end
section
open Go
theorem SlV.tz0{α:Type}{v:Vw α}{σ:Heap}{xs:List α}{x:AVal}(h:SlV v σ xs x):SlV v (σ.at Tz 0) xs x:=by rw[at_tz];exact h
theorem GlS.tz0{σ:Heap}{E:List Er}(h:GlS E σ):GlS E (σ.at Tz 0):=by rw[at_tz];exact h
section
variable{σ τ:Heap}{T T':Tg}{e:EnP}{n k id:Nat}{x y:AVal}{A:List Int}{C cs:List (List Int)}{w:Nat}{sc:(List Int×List Int×List Int×List Int)×Int×Int}
theorem W.newA{R:Type}{Q:R->Prop}(hn:Tn σ T){sz m:Nat}{zs ds:List AVal}{K:Nat->Heap->Option R}(hz:zs.length=m)(hd:ds.length=m)
  (c:∀l τ,l=σ.next->Hle σ τ->Loc (τ.at T 0) l ds->Tn τ T->W (K l τ) Q):W (YtekehmgfedmflaaGreatDoor.A.newK σ sz zs fun l σ'=>YtekehmgfedmflaaGreatDoor.A.aggK (.agg ds) m fun cs=>YtekehmgfedmflaaGreatDoor.A.stC σ' (.ptr l 0) cs (K l)) Q:=by
 refine W.newg fun l τ1 hl L1 _ g1 n1=>?_;refine W.aggK hd ?_;refine W.st0 (cs:=zs) (vs:=ds) ⟨by omega,sz,g1⟩ (by omega) fun τ2 L2 e2 h2=>?_;have L:=L1.ofk (by omega) L2;obtain⟨sz2,g2⟩:=h2.get;exact c l τ2 hl L ⟨h2.lt,sz2,at_of (hn.z _ (by omega)) g2⟩ (hn.mono L)
end
end
section
open Go
def OL(σ:Heap)(T:Tg)(t:Nat)(cs:List (List Int))(x:AVal):Prop:=∃ws,Own vRaw (σ.at T t) ws x/\ws.length=cs.length/\∀(i:Nat) c,cs[i]?=some c->∃w,ws[i]?=some w/\SlV .int (σ.at T 0) c w
section
variable{σ τ:Heap}{T T':Tg}{e:EnP}{n k id t:Nat}{x y:AVal}{A c:List Int}{C cs:List (List Int)}{w:Nat}{sc:(List Int×List Int×List Int×List Int)×Int×Int}{gl:Bool}{I:Nat->Bool}
theorem OL.hop(h:OL σ T t cs x)(H:Hop I σ T τ T')(ht:I t=false:=by rfl)(h0:I 0=false:=by rfl):OL τ T' t cs x:=by
 obtain⟨ws,h1,h2,h3⟩:=h;exact⟨ws,h1.hop H ht,h2,fun i c hi=>(h3 i c hi).imp fun w hw=>⟨hw.1,hw.2.hop H h0⟩⟩
theorem OL.hle(h:OL σ T t cs x)(L:Hle σ τ):OL τ T t cs x:=by
 obtain⟨ws,h1,h2,h3⟩:=h;exact⟨ws,h1.hle L,h2,fun i c hi=>(h3 i c hi).imp fun w hw=>⟨hw.1,hw.2.hle L⟩⟩
theorem OL.sl(h:OL σ T t cs x):SlV vIs σ cs x:=by
 obtain⟨ws,h1,h2,h3⟩:=h;rcases h1.slT with ⟨rfl,rfl⟩|⟨l,off,c,md,us,rfl,g2,g3,g4,g5⟩
 ·exact .inl ⟨rfl,List.eq_nil_of_length_eq_zero (by simpa using h2.symm)⟩
 ·refine .inr ⟨l,off,c,md,us,by rw[h2],g2,g3,by rw[<-h2];exact g4,fun i a hi=>?_⟩
  obtain⟨w,e1,e2⟩:=h3 i a hi;exact⟨w,g5 i w e1,e2.up⟩
theorem OL.nil:OL σ T t [] .nils:=⟨[],Own.nil,rfl,fun i c h=>by simp at h⟩
theorem W.ol_push{R:Type}{Q:R->Prop}(h:OL σ T t cs x)(hn:Tn σ T)(hy:SlV .int (σ.at T 0) c y)(ht:t≠0)(hb:cs.length<=1000000){K:AVal->Heap->Option R}
  (k:∀x' τ T',OL τ T' t (cs++[c]) x'->Hop (only t) σ T τ T'->W (K x' τ) Q):W (YtekehmgfedmflaaGreatDoor.A.newK σ 1 [y] fun l τ=>YtekehmgfedmflaaGreatDoor.A.appS τ 1 24 x (.sl l 0 1 none) K) Q:=by
 obtain⟨ws,h1,h2,h3⟩:=h;refine W.own_push (bytes:=24) y3m_ h1 hn (a:=y) rfl (by omega) (by omega) fun x' τ T' h1' H=>?_;have h0:(only t) 0=false:=by simp;omega
 refine k x' τ T' ⟨_,h1',by simp[h2],fun i d hi=>?_⟩ H;rcases y2k_ hi with q|⟨rfl,rfl⟩
 ·obtain⟨w,e1,e2⟩:=h3 i d q
  exact⟨w,by rw[List.getElem?_append_left (y2_ e1)];exact e1,e2.hop H h0⟩
 ·exact⟨y,by rw[<-h2];simp,hy.hop H h0⟩
end
end
section
open Go
section
variable{σ τ:Heap}{T T':Tg}{t:Nat}{x y:AVal}{xs:List Int}
theorem Own.freeze{α:Type}{v:Vw α}{zs:List α}(hf:v.Flat)(h:Own v (σ.at T t) zs x)(hn:Tn σ T):∃T',Hop (only t) σ T σ T'/\SlV v (σ.at T' 0) zs x:=by
 rcases h with ⟨rfl,rfl⟩|⟨l,off,c,cs,rfl,h1,h2,h3,h4,h5⟩
 ·exact⟨T,Hop.refl hn,.inl ⟨rfl,rfl⟩⟩
 ·obtain⟨e1,e2⟩:=ys_.1 h2
  have h1:l<σ.next:=h1;refine⟨T.upd l 0,⟨Nat.le_refl _,⟨fun k hk=>by rw[y1k_ (by omega)];exact hn.z k hk⟩,fun k _ hI=>y1k_ (fun e=>by subst e;simp[only,e1]at hI),fun k o _ _ hg=>hg⟩,.inr ⟨l,off,c,.rw,cs,rfl,h1,at_of y14_ e2,h4,fun i a hi=>hf _ _ _ _ (h5 i a hi)⟩⟩
end
end
section
open Go
section
variable{σ τ:Heap}{T T':Tg}{t:Nat}{x y:AVal}{cs:List (List Int)}{sc:(List Int×List Int×List Int×List Int)×Int×Int}
theorem OL.freeze(h:OL σ T t cs x)(hn:Tn σ T)(ht:t≠0):∃T',Hop (only t) σ T σ T'/\SlV vIs (σ.at T' 0) cs x:=by
 obtain⟨ws,h1,h2,h3⟩:=h;have h0:(only t) 0=false:=by simp;omega
 rcases h1 with ⟨rfl,rfl⟩|⟨l,off,c,us,rfl,g1,g2,g3,g4,g5⟩
 ·exact⟨T,Hop.refl hn,.inl ⟨rfl,List.eq_nil_of_length_eq_zero (by simpa using h2.symm)⟩⟩
 ·obtain⟨e1,e2⟩:=ys_.1 g2
  have g1:l<σ.next:=g1;have H:Hop (only t) σ T σ (T.upd l 0):=⟨Nat.le_refl _,⟨fun k hk=>by rw[y1k_ (by omega)];exact hn.z k hk⟩,fun k _ hI=>y1k_ (fun e=>by subst e;simp[only,e1]at hI),fun k o _ _ hg=>hg⟩;refine⟨T.upd l 0,H,.inr ⟨l,off,c,.rw,us,by rw[h2],g1,at_of y14_ e2,by rw[<-h2];exact g4,fun i a hi=>?_⟩⟩;obtain⟨w,q1',q2'⟩:=h3 i a hi;exact⟨w,g5 i w q1',q2'.hop H h0⟩
end
end
section
open Go
def notL(l:Int):Int:=if l % 2=0 then l+1 else l-1
def turnL(x l:Int):Int:=if l % 2=0 then x else notL x
theorem yi9_(n:Nat):n ^^^ 1=if n % 2=0 then n+1 else n-1:=by
 have h1:(n ^^^ 1) % 2=(n % 2) ^^^ (1 % 2):=Nat.xor_mod_two_pow (n:=1);have h2:=Nat.xor_div_two (a:=n) (b:=1);have h3:n / 2 ^^^ 1 / 2=n / 2:=by simp
 rw[h3]at h2;rcases Nat.mod_two_eq_zero_or_one n with h|h
 ·rw[h]at h1
  have h1:(n ^^^ 1) % 2=1:=h1;rw[if_pos h];omega
 ·rw[h]at h1
  have h1:(n ^^^ 1) % 2=0:=h1;rw[if_neg (by omega)];omega
theorem yf7_(n b:Nat)(h:n<4611686018427387904)(hb:b<4611686018427387904):(BitVec.ofInt 64 (n:Int) ^^^ BitVec.ofInt 64 (b:Int)).toNat=n ^^^ b:=by
 have e1:BitVec.ofInt 64 (n:Int)=BitVec.ofNat 64 n:=BitVec.ofInt_natCast ..;have e2:BitVec.ofInt 64 (b:Int)=BitVec.ofNat 64 b:=BitVec.ofInt_natCast ..;rw[e1,e2,BitVec.toNat_xor,BitVec.toNat_ofNat,BitVec.toNat_ofNat,Nat.mod_eq_of_lt (by omega),Nat.mod_eq_of_lt (by omega)]
theorem ydo_{l:Int}(h:0<=l)(h2:l<4611686018427387904):IntKind.i64.wrap ((BitVec.toNat (BitVec.ofInt IntKind.i64.bits l ^^^ BitVec.ofInt IntKind.i64.bits 1):Nat):Int)=notL l:=by
 obtain⟨n,rfl⟩:∃n:Nat,l=(n:Int):=⟨l.toNat,by omega⟩;have e1:IntKind.i64.bits=64:=rfl;rw[e1,show(1:Int)=((1:Nat):Int)from rfl,yf7_ n 1 (by omega) (by omega),yi9_,wrapS]
 ·unfold notL;split<;>split<;>omega
 ·split<;>omega
 ·split<;>omega
theorem ydr_(z:Int):IntKind.i64.wrap ((BitVec.toNat (BitVec.ofInt IntKind.i64.bits z &&& BitVec.ofInt IntKind.i64.bits 1):Nat):Int)=z % 2:=by
 have e1:IntKind.i64.bits=64:=rfl;rw[e1,BitVec.toNat_and];have e2:(BitVec.ofInt 64 1).toNat=1:=by decide
 rw[e2,Nat.and_one_is_mod,BitVec.toNat_ofInt];have h1:((z % ((2 ^ 64:Nat):Int)).toNat % 2:Nat)=(z % 2).toNat:=by
  have:((2 ^ 64:Nat):Int)=18446744073709551616:=by decide
  rw[this];omega
 rw[h1];have:((z % 2).toNat:Int)=z % 2:=by omega
 rw[this,wrapS (by omega) (by omega)]
theorem yhl_{x l:Int}(h:0<=x)(h2:x<4611686018427387904):IntKind.i64.wrap ((BitVec.toNat (BitVec.ofInt IntKind.i64.bits x ^^^ BitVec.ofInt IntKind.i64.bits (IntKind.i64.wrap ((BitVec.toNat (BitVec.ofInt IntKind.i64.bits l &&& BitVec.ofInt IntKind.i64.bits 1):Nat):Int))):Nat):Int)=turnL x l:=by
 rw[ydr_];unfold turnL;rcases(show l % 2=0\/l % 2=1 by omega)with e|e
 ·rw[e,if_pos rfl]
  obtain⟨n,rfl⟩:∃n:Nat,x=(n:Int):=⟨x.toNat,by omega⟩;have e1:IntKind.i64.bits=64:=rfl;rw[e1,show(0:Int)=((0:Nat):Int)from rfl,yf7_ n 0 (by omega) (by omega),Nat.xor_zero,wrapS]<;>omega
 ·rw[e,if_neg (by omega)]
  exact ydo_ h h2
theorem y6i_{l:Int}(h:0<=l)(h2:l<4611686018427387904):IntKind.i64.wrap (Int.tdiv l 2)=((l.toNat / 2:Nat):Int):=by
 rw[Int.tdiv_eq_ediv_of_nonneg h,wrapS]<;>omega
def gIdx(a b:Int):List (Int×Int)->Option Nat
 |[]=>none
 |x::xs=>if a=x.1/\b=x.2 then some 0 else(gIdx a b xs).map (· + 1)
def okN(l:Int)(n:Nat):Bool:=decide (0<=l)&&decide (l<=2*(n:Int)+1)
def hiL(a b:Int):Int:=if b>a then b else a
def loL(a b:Int):Int:=if b<a then b else a
def gAnd(N:Nat)(gs:List (Int×Int))(a b:Int):Int×List (Int×Int)×Option Er:=
 if okN (hiL a b) (N+gs.length)=false\/okN (loL a b) (N+gs.length)=false then(0,gs,some .range)
 else if loL a b=0 then(0,gs,none)
 else if loL a b=1\/hiL a b=loL a b then(hiL a b,gs,none)
 else if hiL a b=notL (loL a b) then(0,gs,none)
 else match gIdx (hiL a b) (loL a b) gs with
  |some i=>(2*((N+i+1:Nat):Int),gs,none)
  |none=>if 8000<=N+gs.length then(0,gs,some .limit) else(2*((N+gs.length+1:Nat):Int),gs++[(hiL a b,loL a b)],none)
def entsF:Nat->List (Int×Int)->List (AVal×AVal)
 |_,[]=>[]
 |k,x::xs=>(.agg [.int .i64 x.1,.int .i64 x.2],.int .i64 (2*((k+1:Nat):Int)))::entsF (k+1) xs
theorem yf9_{gs:List (Int×Int)}{x:Int×Int}:∀{k:Nat},entsF k (gs++[x])=entsF k gs++[(.agg [.int .i64 x.1,.int .i64 x.2],.int .i64 (2*((k+gs.length+1:Nat):Int)))]:=by
 induction gs with
 |nil=>intro k;rfl
 |cons y ys ih=>
  intro k;simp only[List.cons_append,entsF,ih,List.length_cons]
  congr 6;omega
theorem y4z_{a b:Int}:∀{gs:List (Int×Int)} {k i:Nat},y2d_ a b (entsF k gs) i=some ((gIdx a b gs).map (· + i))
 |[],k,i=>rfl
 | x::xs,k,i=>by
  simp only[entsF,y2d_,gIdx]
  split
  ·simp
  ·rw[y4z_]
   cases gIdx a b xs with
   |none=>rfl
   |some j=>simp;omega
theorem yam_{a b:Int}:∀{gs:List (Int×Int)} {k j:Nat},gIdx a b gs=some j->(entsF k gs)[j]?=some (.agg [.int .i64 a,.int .i64 b],.int .i64 (2*((k+j+1:Nat):Int)))
 |[],k,j,h=>by cases h
 | x::xs,k,j,h=>by
  simp only[gIdx]at h
  split at h
  ·rename_i e
   cases h;obtain⟨rfl,rfl⟩:=e;rfl
  ·cases hx:gIdx a b xs with
   |none=>rw[hx]at h;cases h
   |some i=>
    rw[hx]at h;cases h;simp only[entsF,List.getElem?_cons_succ];rw[yam_ hx]
    congr 6;omega
theorem yc4_{a b:Int}:∀{gs:List (Int×Int)} {j:Nat},gIdx a b gs=some j->gs[j]?=some (a,b)
 |[],j,h=>by cases h
 | x::xs,j,h=>by
  simp only[gIdx]at h
  split at h
  ·rename_i e
   cases h;obtain⟨rfl,rfl⟩:=e;rfl
  ·cases hx:gIdx a b xs with
   |none=>rw[hx]at h;cases h
   |some i=>
    rw[hx]at h;cases h;simpa using yc4_ hx
def MapP(σ:Heap)(l:Nat)(es:List (AVal×AVal)):Prop:=l<σ.next/\σ.get l=some (.map es)
section
variable{R:Type}{Q:R->Prop}{σ τ:Heap}{T T':Tg}{t l:Nat}{gs:List (Int×Int)}{N:Nat}{a b:Int}{es:List (AVal×AVal)}{I:Nat->Bool}
theorem MapP.mono(h:MapP σ l es)(L:Hle σ τ):MapP τ l es:=⟨Nat.lt_of_lt_of_le h.1 L.next,L.get _ _ h.1 h.2⟩
theorem MapP.hop(h:MapP (σ.at T t) l es)(H:Hop I σ T τ T')(hI:I t=false:=by rfl):MapP (τ.at T' t) l es:=h.mono (H.le hI)
theorem MapP.hle(h:MapP (σ.at T t) l es)(L:Hle σ τ):MapP (τ.at T t) l es:=h.mono (L.ats T t)
theorem W.mget2(h:MapP (σ.at T t) l (entsF N gs)){z:AVal}{K:AVal->Bool->Option R}(c:W (match gIdx a b gs with
  |some i=>K (.int .i64 (2*((N+i+1:Nat):Int))) true
  |none=>K z false) Q):W (y2b_ σ (.map l) a b z K) Q:=by
 refine W.to ?_ c;have hg:=(ys_.1 h.2).2;simp only[y2b_,y2u_,hg,y4z_];cases hx:gIdx a b gs with
 |none=>rfl
 |some i=>
  simp only[Option.map_some,Nat.add_zero];rw[yam_ hx]
theorem W.mput2(h:MapP (σ.at T t) l (entsF N gs))(hn:Tn σ T)(hx:gIdx a b gs=none){K:Heap->Option R}
  (c:∀τ,MapP (τ.at T t) l (entsF N (gs++[(a,b)]))->Hop (only t) σ T τ T->W (K τ) Q):W (y1y_ σ (.map l) a b (.int .i64 (2*((N+gs.length+1:Nat):Int))) K) Q:=by
 obtain⟨h1,h2⟩:=ys_.1 h.2;refine W.to ?_ (c (σ.set l (.map (entsF N (gs++[(a,b)])))) ⟨h.1,at_of h1 (by rw[y1r_,if_pos rfl])⟩ (y2p_ hn h1));simp only[y1y_,h2,y4z_,hx,Option.map_none,yf9_]
theorem W.newMP(t:Nat)(hn:Tn σ T){K:Nat->Heap->Option R}(c:∀l τ T',l=σ.next->Hop (only t) σ T τ T'->MapP (τ.at T' t) l []->W (K l τ) Q):W (A.newM σ K) Q:=
 W.newMT t hn fun l τ T' e H h _=>c l τ T' e H ⟨h.lt,h.get⟩
end
structure GrH(σ:Heap)(T:Tg)(lg N:Nat)(gs:List (Int×Int))(er:Option Er)(lm:Nat):Prop where
 obj:∃xa ev,Loc (σ.at T 43) lg [.int .i64 N,xa,.map lm,ev]/\Own vLn (σ.at T 44) gs xa/\IsF (σ.at T 0) ev (er.map fun e=>(e,none))
 map:MapP (σ.at T 45) lm (entsF N gs)
def gI:Nat->Bool:=fun j=>j==43||j==44||j==45
section
variable{σ τ:Heap}{T T':Tg}{lg N lm n:Nat}{gs:List (Int×Int)}{er:Option Er}{a b l:Int}{x v:AVal}{I:Nat->Bool}{e:Er}
theorem Hop.g43(H:Hop (only 43) σ T τ T'):Hop gI σ T τ T':=H.sub fun i hi=>by simp[gI]at hi⊢;simp[hi]
theorem Hop.g44(H:Hop (only 44) σ T τ T'):Hop gI σ T τ T':=H.sub fun i hi=>by simp[gI]at hi⊢;simp[hi]
theorem Hop.g45(H:Hop (only 45) σ T τ T'):Hop gI σ T τ T':=H.sub fun i hi=>by simp[gI]at hi⊢;simp[hi]
theorem GrH.hop(h:GrH σ T lg N gs er lm)(H:Hop I σ T τ T')(h1:I 43=false:=by rfl)(h2:I 44=false:=by rfl)(h3:I 45=false:=by rfl)(h0:I 0=false:=by rfl):GrH τ T' lg N gs er lm:=by
 obtain⟨⟨xa,ev,k1,k2,k3⟩,k4⟩:=h;exact⟨⟨xa,ev,k1.hop H h1,k2.hop H h2,k3.mono (H.le h0)⟩,k4.hop H h3⟩
theorem GrH.hle(h:GrH σ T lg N gs er lm)(L:Hle σ τ):GrH τ T lg N gs er lm:=by
 obtain⟨⟨xa,ev,k1,k2,k3⟩,k4⟩:=h;exact⟨⟨xa,ev,k1.hle L,k2.hle L,k3.mono (L.ats T 0)⟩,k4.hle L⟩
theorem y1m_(h:0<=l)(h2:l<4611686018427387904):S.z21 l σ=some (notL l):=by
 unfold S.z21;rw[ydo_ h h2]
theorem y3h_(hn:n<=1000000):W (S.z22 l n σ) fun r=>r=okN l n:=by
 have w1:IntKind.i64.wrap (2*(n:Int))=2*n:=by rw[wrapS]<;>omega
 have w2:IntKind.i64.wrap (2*(n:Int)+1)=2*n+1:=by rw[wrapS]<;>omega
 unfold S.z22;rw[w1,w2];refine W.bind ?_;refine W.mono (P:=fun r=>r=okN l n) ?_ fun r hr=>W.ret hr;by_cases h:0<=l
 ·refine W.condT (by simpa using h) (W.ret ?_)
  simp[okN,h]
 ·refine W.condF (by simpa using h) (W.ret ?_)
  simp[okN,h]
theorem y8m_(h:GrH σ T lg N gs er lm)(hb:N+gs.length<=1000000):W (S.z18 (.ptr lg 0) σ) fun r=>r=((N+gs.length:Nat):Int):=by
 obtain⟨⟨xa,ev,k1,k2,k3⟩,k4⟩:=h;unfold S.z18
 repeat' with_reducible first|refine W.ret ?_|refine W.asI ?_|refine W.asV ?_|refine W.fldp ?_|refine W.nck ?_|refine W.u0 ?_|refine W.u3 ?_
 rw[wrapS]<;>omega
theorem y7m_(h:GrH σ T lg N gs er lm)(hn:Tn σ T)(hv:IsE (σ.at T 0) v e):W (S.z19 (.ptr lg 0) v σ) fun r=>r.1=0/\Hop (only 43) σ T r.2 T/\GrH r.2 T lg N gs (er.or (some e)) lm:=by
 obtain⟨⟨xa,ev,k1,k2,k3⟩,k4⟩:=h;unfold S.z19
 repeat' with_reducible first|refine W.asV ?_|refine W.fldp ?_|refine W.nck ?_|refine W.u0 ?_
 refine W.fnil (k3.mono at_le) ?_;refine W.bind ?_;cases er with
 |none=>
  refine W.condT rfl ?_
  repeat' with_reducible first|refine W.fldp ?_|refine W.nck ?_
  refine W.escal (hv.mono at_le) ?_;refine W.stT k1 hn (Nat.le_of_ble_eq_true (by rfl)) fun τ1 H1 k1 hnτ1=>?_;replace k2:=k2.hop H1;replace k4:=k4.hop H1;replace hn:=H1.tn
  repeat' with_reducible refine W.ret ?_
  exact⟨rfl,H1,⟨xa,v,k1,k2,hv.mono (H1.le rfl)⟩,k4⟩
 |some e'=>
  refine W.condF rfl ?_
  repeat' with_reducible refine W.ret ?_
  exact⟨rfl,Hop.refl hn,⟨xa,ev,k1,k2,k3⟩,k4⟩
theorem yed_{i:Int}(hn:Tn σ T)(h0:0<=i)(h1:i<=8000):W (S.z20 i σ) fun r=>∃lg lm T',r.1=.ptr lg 0/\Hop gI σ T r.2 T'/\GrH r.2 T' lg i.toNat [] none lm:=by
 have e1:(if 8000<(if 0>i then 0 else i)then 8000 else(if 0>i then 0 else i))=((i.toNat:Nat):Int):=by
  rw[if_neg (show¬0>i by omega),if_neg (by omega)];omega
 unfold S.z20;rw[e1];refine W.newMP 45 hn fun lm τ1 T1 _ H1 k4=>?_;replace hn:=H1.tn;refine W.newT 43 hn fun lg τ2 T2 hlg H2 k1 hnτ2=>?_;replace k4:=k4.hop H2
 repeat' with_reducible refine W.ret ?_
 exact⟨lg,lm,T2,rfl,H1.g45.trans H2.g43,⟨.nils,.nili,k1,Own.nil,rfl⟩,k4⟩
theorem yc8_{i:Nat}(h:GrH σ T lg N gs er lm)(hi:i<N)(hN:N<=8000):W (S.z17 (.ptr lg 0) (i:Int) σ) fun r=>r=(2*((i+1:Nat):Int),σ):=by
 obtain⟨⟨xa,ev,k1,k2,k3⟩,k4⟩:=h;have w1:IntKind.i64.wrap ((i:Int)+1)=((i+1:Nat):Int):=by rw[wrapS]<;>omega
 have w2:IntKind.i64.wrap (2*((i+1:Nat):Int))=2*((i+1:Nat):Int):=by rw[wrapS]<;>omega
 unfold S.z17;rw[w1,w2];refine W.bind ?_;refine W.mono (P:=fun r=>r=false) ?_ fun r hr=>?_
 ·refine W.condF (by simp) ?_
  repeat' with_reducible first|refine W.ret ?_|refine W.asI ?_|refine W.fldp ?_|refine W.nck ?_|refine W.u0 ?_
  simp;omega
 subst hr;refine W.condF rfl ?_
 repeat' with_reducible refine W.ret ?_
 rfl
end
end
section
open Go
section
variable{σ τ:Heap}{T T':Tg}{lg N lm n:Nat}{gs:List (Int×Int)}{er:Option Er}{a b l:Int}{x v:AVal}{I:Nat->Bool}{e:Er}{R:Type}{Q:R->Prop}
theorem W.globT{E:List Er}(h:GlS E (σ.at T 0))(e:Er){K:AVal->Option R}(c:∀v,IsE (σ.at T 0) v e->W (K v) Q){g:Nat}(hg:g=e.g:=by rfl)(he:e∈E:=by decide):W (ld σ (.ptr g 0) .V K) Q:=by
 subst hg;obtain⟨v,hv⟩:=h e he;exact W.ld0 (IsE.mono hv at_le).at rfl (c v hv)
theorem y7b_{xa ev m:AVal}(k1:Loc σ lg [.int .i64 N,xa,m,ev])(k2:SlV vLn σ gs xa)(hb:N+gs.length<=1000000):W (S.z18 (.ptr lg 0) σ) fun r=>r=((N+gs.length:Nat):Int):=by
 unfold S.z18
 repeat' with_reducible first|refine W.ret ?_|refine W.asI ?_|refine W.asV ?_|refine W.fldp ?_|refine W.len (by assumption) ?_|refine W.e0 ?_|refine W.nck ?_
 rw[wrapS]<;>omega
theorem ye2_(hg:GlS [.range,.limit] (σ.at T 0))(h:GrH σ T lg N gs er lm)(hn:Tn σ T)(hb:N+gs.length<=8000) :
  W (S.z14 (.ptr lg 0) a b σ) fun r=>∃T',r.1=(gAnd N gs a b).1/\Hop gI σ T r.2 T'/\GrH r.2 T' lg N (gAnd N gs a b).2.1 (er.or (gAnd N gs a b).2.2) lm:=by
 have e1:(if b>a then b else a)=hiL a b:=rfl;have e2:(if b<a then b else a)=loL a b:=rfl;unfold S.z14;rw[e1,e2];obtain⟨hi,ehi⟩:∃hi,hiL a b=hi:=⟨_,rfl⟩;obtain⟨lo,elo⟩:∃lo,loL a b=lo:=⟨_,rfl⟩;have hGd:gAnd N gs a b=if okN hi (N+gs.length)=false\/okN lo (N+gs.length)=false then(0,gs,some .range)
   else if lo=0 then(0,gs,none)
   else if lo=1\/hi=lo then(hi,gs,none)
   else if hi=notL lo then(0,gs,none)
   else match gIdx hi lo gs with
    |some i=>(2*((N+i+1:Nat):Int),gs,none)
    |none=>if 8000<=N+gs.length then(0,gs,some .limit) else(2*((N+gs.length+1:Nat):Int),gs++[(hi,lo)],none):=by
  unfold gAnd;rw[ehi,elo]<;>(cases gIdx hi lo gs<;>rfl)
 rw[ehi,elo];refine W.bind ?_;refine W.mono (P:=fun r=>r=(!okN hi (N+gs.length) || !okN lo (N+gs.length))) ?_ fun r hr=>?_
 ·refine W.bind ?_
  refine W.mono (y8m_ h (by omega)) fun r hr=>?_;subst hr;refine W.bind ?_;refine W.mono (y3h_ (by omega)) fun r hr=>?_;subst hr;cases hc:okN hi (N+gs.length) with
  |false=>exact W.condT rfl (W.ret rfl)
  |true=>
   refine W.condF rfl ?_;refine W.bind ?_;refine W.mono (y8m_ h (by omega)) fun r hr=>?_;subst hr;refine W.bind ?_;refine W.mono (y3h_ (by omega)) fun r hr=>?_;subst hr;exact W.ret rfl
 subst hr;by_cases hbad:okN hi (N+gs.length)=false\/okN lo (N+gs.length)=false
 ·have hG:gAnd N gs a b=(0,gs,some .range):=by rw[hGd,if_pos hbad]
  rw[hG];refine W.condT (by rcases hbad with q|q<;>simp[q]) ?_;refine W.globT hg .range fun v hv=>?_;refine W.bind ?_;refine W.mono (y7m_ h hn hv) fun r hr=>?_;obtain⟨q1',q2',q3'⟩:=hr;exact W.ret ⟨T,q1',q2'.g43,q3'⟩
 rw[if_neg hbad]at hGd;have hok1:okN hi (N+gs.length)=true:=by cases hc:okN hi (N+gs.length);exact absurd (.inl hc) hbad;rfl
 have hok2:okN lo (N+gs.length)=true:=by cases hc:okN lo (N+gs.length);exact absurd (.inr hc) hbad;rfl
 refine W.condF (by simp[hok1,hok2]) ?_;have hlo:=hok2;simp only[okN,Bool.and_eq_true,decide_eq_true_eq]at hlo;by_cases h0:lo=0
 ·have hG:gAnd N gs a b=(0,gs,none):=by rw[hGd,if_pos h0]
  rw[hG];refine W.condT (by simp[h0]) ?_;exact W.ret ⟨T,rfl,Hop.refl hn,by simpa using h⟩
 rw[if_neg h0]at hGd;refine W.condF (by simp[h0]) ?_;refine W.bind ?_;refine W.mono (P:=fun r=>r=decide (lo=1\/hi=lo)) ?_ fun r hr=>?_
 ·by_cases h1:lo=1
  ·refine W.condT (by simp[h1]) (W.ret ?_)
   simp[h1]
  ·refine W.condF (by simp[h1]) (W.ret ?_)
   simp[h1];rfl
 subst hr;by_cases h1:lo=1\/hi=lo
 ·have hG:gAnd N gs a b=(hi,gs,none):=by rw[hGd,if_pos h1]
  rw[hG];refine W.condT (by simpa using h1) ?_;exact W.ret ⟨T,rfl,Hop.refl hn,by simpa using h⟩
 rw[if_neg h1]at hGd;refine W.condF (by simpa using h1) ?_;refine W.bind ?_;refine W.to (y1m_ (by omega) (by omega)) ?_;refine W.ret ?_;by_cases h2:hi=notL lo
 ·have hG:gAnd N gs a b=(0,gs,none):=by rw[hGd,if_pos h2]
  rw[hG];refine W.condT (by simp[h2]) ?_;exact W.ret ⟨T,rfl,Hop.refl hn,by simpa using h⟩
 rw[if_neg h2]at hGd;refine W.condF (by simp[h2]) ?_;obtain⟨⟨xa,ev,k1,k2,k3⟩,k4⟩:=h
 repeat' with_reducible first|refine W.asV ?_|refine W.fldp ?_|refine W.nck ?_|refine W.u0 ?_
 refine W.mget2 k4 ?_;cases hx:gIdx hi lo gs with
 |some i=>
  rw[hx]at hGd;dsimp only at hGd⊢;rw[hGd]
  repeat' (with_reducible refine W.asI ?_)
  refine W.condT rfl ?_;exact W.ret ⟨T,rfl,Hop.refl hn,⟨xa,ev,k1,k2,by simpa using k3⟩,k4⟩
 | none=>
  rw[hx]at hGd;dsimp only at hGd⊢
  repeat' (with_reducible refine W.asI ?_)
  refine W.condF rfl ?_;have k2s:=k2.slT;refine W.bind ?_;refine W.mono (y7b_ k1.up k2s (by omega)) fun r hr=>?_;subst hr;by_cases h3:8000<=N+gs.length
  ·have hG:gAnd N gs a b=(0,gs,some .limit):=by rw[hGd,if_pos h3]
   rw[hG];refine W.condT (by simp;omega) ?_;refine W.globT hg .limit fun v hv=>?_;refine W.bind ?_;refine W.mono (y7m_ ⟨⟨xa,ev,k1,k2,k3⟩,k4⟩ hn hv) fun r hr=>?_;obtain⟨q1',q2',q3'⟩:=hr;exact W.ret ⟨T,q1',q2'.g43,q3'⟩
  ·rw[if_neg h3]at hGd
   rw[hGd];refine W.condF (by simp;omega) ?_
   repeat' with_reducible first|refine W.asV ?_|refine W.fldp ?_|refine W.nck ?_|refine W.u0 ?_
   refine W.own_push (bytes:=16) y33_ k2 hn (a:=(hi,lo)) rfl (by omega) (by omega) fun x' τ1 T1 k2 H1=>?_;replace k1:=k1.hop H1;replace k4:=k4.hop H1;replace k3:=k3.mono (H1.le (by rfl));replace hn:=H1.tn
   repeat' with_reducible first|refine W.fldp ?_|refine W.nck ?_|refine W.u4 ?_
   refine W.stT k1 hn (Nat.le_of_ble_eq_true (by rfl)) fun τ2 H2 k1 hnτ2=>?_;replace k2:=k2.hop H2;replace k4:=k4.hop H2;replace hn:=H2.tn;replace k3:=k3.mono (H2.le (by rfl));have k2s:=k2.slT;refine W.bind ?_;refine W.mono (y7b_ k1.up k2s (by rw[List.length_append,List.length_singleton];omega)) fun r hr=>?_;subst hr;have wl:IntKind.i64.wrap (2*((N+(gs++[(hi,lo)]).length:Nat):Int))=2*((N+gs.length+1:Nat):Int):=by
    rw[List.length_append,List.length_singleton,wrapS]<;>omega
   rw[wl]
   repeat' with_reducible first|refine W.asV ?_|refine W.fldp ?_|refine W.nck ?_|refine W.u0 ?_
   refine W.mput2 k4 hn hx fun τ3 k4 H3=>?_;replace k1:=k1.hop H3;replace k2:=k2.hop H3;replace hn:=H3.tn;replace k3:=k3.mono (H3.le (by rfl));exact W.ret ⟨T1,rfl,(H1.g44.trans H2.g43).trans H3.g45,⟨x',ev,k1,k2,by simpa using k3⟩,k4⟩
end
def vL(v:List Bool)(l:Int):Bool:=v.getD (l.toNat / 2) false != decide (l % 2=1)
def y15_(v:List Bool)(gs:List (Int×Int)):List Bool:=gs.foldl (fun v x=>v++[vL v x.1&&vL v x.2]) v
def inpV(N:Nat)(inp:Nat->Bool):List Bool:=false::(List.range N).map inp
def nodes(N:Nat)(inp:Nat->Bool)(gs:List (Int×Int)):List Bool:=y15_ (inpV N inp) gs
def WFg(N:Nat)(gs:List (Int×Int)):Prop:=∀(i:Nat) a b,gs[i]?=some (a,b)->0<=b/\b<=a/\a<=2*((N+i:Nat):Int)+1
section
variable{N:Nat}{gs:List (Int×Int)}{a b l:Int}{v w:List Bool}{inp:Nat->Bool}
theorem y73_(h:0<=l):vL v (notL l) = !vL v l:=by
 have h1:(notL l).toNat / 2=l.toNat / 2:=by unfold notL;split<;>omega
 have h2:decide (notL l % 2=1) = !decide (l % 2=1):=by
  unfold notL
  split
  ·have:(l+1) % 2=1:=by omega
   have:¬l % 2=1:=by omega
   simp[*]
  ·have:¬(l-1) % 2=1:=by omega
   have:l % 2=1:=by omega
   simp[*]
 unfold vL;rw[h1,h2];cases v.getD (l.toNat / 2) false<;>cases decide (l % 2=1)<;>rfl
theorem ybl_(h:l.toNat / 2<v.length):vL (v++w) l=vL v l:=by
 unfold vL;rw[List.getD_eq_getElem?_getD,List.getElem?_append_left h,List.getD_eq_getElem?_getD]
theorem yet_{x:Int×Int}:y15_ v (gs++[x])=y15_ v gs++[vL (y15_ v gs) x.1&&vL (y15_ v gs) x.2]:=by
 unfold y15_;rw[List.foldl_append];rfl
theorem ye4_:(y15_ v gs).length=v.length+gs.length:=by
 unfold y15_
 induction gs generalizing v with
 |nil=>rfl
 |cons x xs ih=>rw[List.foldl_cons,ih];simp;omega
theorem y6h_:(nodes N inp gs).length=N+gs.length+1:=by
 unfold nodes;rw[ye4_];simp[inpV];omega
theorem y3z_:∀{gs:List (Int×Int)} {v:List Bool},∃w,y15_ v gs=v++w
 |[],v=>⟨[],by simp[y15_]⟩
 |x::xs,v=>by
  obtain⟨w,hw⟩:=y3z_ (gs:=xs) (v:=v++[vL v x.1&&vL v x.2]);exact⟨(vL v x.1&&vL v x.2)::w,by unfold y15_ at hw⊢;rw[List.foldl_cons,hw];simp⟩
theorem y9v_{x:Int×Int}:nodes N inp (gs++[x])=nodes N inp gs++[vL (nodes N inp gs) x.1&&vL (nodes N inp gs) x.2]:=yet_
theorem ya_{n:Nat}:okN l n=true↔0<=l/\l<=2*(n:Int)+1:=by simp[okN]
theorem yca_{n:Nat}(h:okN l n=true):l.toNat / 2<n+1:=by
 have:=ya_.1 h;omega
theorem y9k_{n m:Nat}(h:okN l n=true)(hm:n<=m):okN l m=true:=by
 have:=ya_.1 h;exact ya_.2 (by omega)
theorem yj0_{n:Nat}(h:okN l n=true):okN (notL l) n=true:=by
 have:=ya_.1 h;refine ya_.2 ?_;unfold notL;split<;>omega
theorem y38_{x:Int×Int}(h:okN l (N+gs.length)=true):vL (nodes N inp (gs++[x])) l=vL (nodes N inp gs) l:=by
 rw[y9v_];exact ybl_ (by rw[y6h_];exact yca_ h)
theorem y42_:vL (nodes N inp gs) 0=false:=by
 obtain⟨w,hw⟩:=y3z_ (gs:=gs) (v:=inpV N inp);unfold nodes;rw[hw];rfl
theorem yf8_:vL (nodes N inp gs) 1=true:=by
 have h:=y73_ (v:=nodes N inp gs) (l:=0) (by omega);rw[y42_]at h;exact h
theorem ybi_{i:Nat}(hi:i<N):vL (nodes N inp gs) (2*((i+1:Nat):Int))=inp i:=by
 obtain⟨w,hw⟩:=y3z_ (gs:=gs) (v:=inpV N inp);unfold nodes;rw[hw,ybl_ (by simp[inpV];omega)];unfold vL;have h1:(2*((i+1:Nat):Int)).toNat / 2=i+1:=by omega
 have h2:¬(2*((i+1:Nat):Int)) % 2=1:=by omega
 rw[h1];simp[inpV,hi,h2]
theorem y9l_(hW:WFg N gs){i:Nat}(h:gs[i]?=some (a,b)):vL (nodes N inp gs) (2*((N+i+1:Nat):Int))=(vL (nodes N inp gs) a&&vL (nodes N inp gs) b):=by
 have key:∀(n:Nat) (gs:List (Int×Int)),gs.length=n->WFg N gs->∀(i:Nat) a b,gs[i]?=some (a,b)->vL (nodes N inp gs) (2*((N+i+1:Nat):Int))=(vL (nodes N inp gs) a&&vL (nodes N inp gs) b):=by
  intro n
  induction n with
  |zero=>intro gs hl _ i a b h;have:=(List.getElem?_eq_some_iff.1 h).1;omega
  |succ n ih=>
  intro gs hl hW i a b h;have hne:gs≠[]:=fun e=>by rw[e]at hl;cases hl
  obtain⟨gs',x,rfl⟩:∃gs' x,gs=gs'++[x]:=⟨gs.dropLast,gs.getLast hne,(List.dropLast_concat_getLast hne).symm⟩;rename_i gs0
  clear gs0
  generalize gs'=gs at *;have hl:gs.length=n:=by simpa using hl
  have hW':WFg N gs:=fun i a b h=>hW i a b (by rw[List.getElem?_append_left (List.getElem?_eq_some_iff.1 h).1];exact h);obtain⟨h1,h2,h3⟩:=hW i a b h;by_cases hi:i<gs.length
  ·rw[List.getElem?_append_left hi]at h
   have ha:okN a (N+gs.length)=true:=ya_.2 (by omega);have hb:okN b (N+gs.length)=true:=ya_.2 (by omega);have hl2:okN (2*((N+i+1:Nat):Int)) (N+gs.length)=true:=ya_.2 (by omega);rw[y38_ ha,y38_ hb,y38_ hl2];exact ih gs hl hW' i a b h
  ·have hlt:=(List.getElem?_eq_some_iff.1 h).1
   have hi':i=gs.length:=by simp at hlt;omega
   subst hi';simp at h;subst h;have ha:okN a (N+gs.length)=true:=ya_.2 (by omega);have hb:okN b (N+gs.length)=true:=ya_.2 (by omega);rw[y38_ ha,y38_ hb];rw[y9v_];unfold vL;have e1:(2*((N+gs.length+1:Nat):Int)).toNat / 2=(nodes N inp gs).length:=by rw[y6h_];omega
   have e2:¬(2*((N+gs.length+1:Nat):Int)) % 2=1:=by omega
   rw[e1];simp[e2]
 exact key _ gs rfl hW i a b h
theorem hilo:(hiL a b=a/\loL a b=b)\/(hiL a b=b/\loL a b=a):=by unfold hiL loL;split<;>split<;>omega
theorem yir_:(vL v (hiL a b)&&vL v (loL a b))=(vL v a&&vL v b):=by
 rcases hilo (a:=a) (b:=b)with ⟨h1,h2⟩|⟨h1,h2⟩
 ·rw[h1,h2]
 ·rw[h1,h2,Bool.and_comm]
theorem ygz_(hW:WFg N gs)(hb:N+gs.length<=8000){r:Int×List (Int×Int)×Option Er}(hr:gAnd N gs a b=r)(he:r.2.2=none) :
  WFg N r.2.1/\(r.2.1=gs\/∃x,r.2.1=gs++[x])/\N+r.2.1.length<=8000/\okN r.1 (N+r.2.1.length)=true/\okN a (N+gs.length)=true/\okN b (N+gs.length)=true/\∀inp,vL (nodes N inp r.2.1) r.1=(vL (nodes N inp gs) a&&vL (nodes N inp gs) b):=by
 subst hr;unfold gAnd at he⊢;by_cases hbad:okN (hiL a b) (N+gs.length)=false\/okN (loL a b) (N+gs.length)=false
 ·rw[if_pos hbad]at he;cases he
 rw[if_neg hbad]at he⊢;have hok1:okN (hiL a b) (N+gs.length)=true:=by cases hc:okN (hiL a b) (N+gs.length);exact absurd (.inl hc) hbad;rfl
 have hok2:okN (loL a b) (N+gs.length)=true:=by cases hc:okN (loL a b) (N+gs.length);exact absurd (.inr hc) hbad;rfl
 have hab:okN a (N+gs.length)=true/\okN b (N+gs.length)=true:=by
  rcases hilo (a:=a) (b:=b)with ⟨h1,h2⟩|⟨h1,h2⟩
  ·rw[h1]at hok1;rw[h2]at hok2;exact⟨hok1,hok2⟩
  ·rw[h1]at hok1;rw[h2]at hok2;exact⟨hok2,hok1⟩
 have hlh:loL a b<=hiL a b:=by unfold hiL loL;split<;>split<;>omega
 have hlv:=fun inp=>yir_ (a:=a) (b:=b) (v:=nodes N inp gs);generalize hiL a b=hi at *;generalize loL a b=lo at *;have h1':=ya_.1 hok1;have h2':=ya_.1 hok2;by_cases h0:lo=0
 ·rw[if_pos h0]
  exact⟨hW,.inl rfl,hb,ya_.2 (by omega),hab.1,hab.2,fun inp=>by rw[<-hlv,h0,y42_,Bool.and_false]⟩
 rw[if_neg h0]at he⊢;by_cases h1:lo=1\/hi=lo
 ·rw[if_pos h1]
  refine⟨hW,.inl rfl,hb,hok1,hab.1,hab.2,fun inp=>?_⟩;rw[<-hlv];rcases h1 with h1|h1
  ·rw[h1,yf8_,Bool.and_true]
  ·rw[h1,Bool.and_self]
 rw[if_neg h1]at he⊢;by_cases h2:hi=notL lo
 ·rw[if_pos h2]
  refine⟨hW,.inl rfl,hb,ya_.2 (by omega),hab.1,hab.2,fun inp=>?_⟩;rw[<-hlv,h2,y73_ (by omega),y42_];cases vL (nodes N inp gs) lo<;>rfl
 rw[if_neg h2]at he⊢;cases hx:gIdx hi lo gs with
 |some i=>
  have hg:=yc4_ hx;have hi':=(List.getElem?_eq_some_iff.1 hg).1;exact⟨hW,.inl rfl,hb,ya_.2 (by dsimp only;omega),hab.1,hab.2,fun inp=>by rw[<-hlv];exact y9l_ hW hg⟩
 | none=>
  rw[hx]at he;dsimp only at he⊢;by_cases h3:8000<=N+gs.length
  ·rw[if_pos h3]at he;cases he
  rw[if_neg h3];have hW2:WFg N (gs++[(hi,lo)]):=fun i a b h=>by
   by_cases hi2:i<gs.length
   ·rw[List.getElem?_append_left hi2]at h
    exact hW i a b h
   ·have hlt:=(List.getElem?_eq_some_iff.1 h).1
    have hi':i=gs.length:=by simp at hlt;omega
    subst hi';simp at h;obtain⟨rfl,rfl⟩:=h;exact⟨by omega,hlh,by omega⟩
  have hget:(gs++[(hi,lo)])[gs.length]?=some (hi,lo):=by simp
  refine⟨hW2,.inr ⟨_,rfl⟩,by rw[List.length_append,List.length_singleton];omega,ya_.2 (by rw[List.length_append,List.length_singleton];omega),hab.1,hab.2,fun inp=>?_⟩;rw[y9l_ hW2 hget,y38_ hok1,y38_ hok2,hlv]
end
end
section
open Go
def y1l_(n:Nat)(x:Int×Int):Bool:=!okN x.1 n||(!okN x.2 n||decide (x.1<x.2))
def y25_(N:Nat)(gs:List (Int×Int)):Bool:=(List.range gs.length).all fun i => !y1l_ (N+i) (gs.getD i (0,0))
def yt_(N:Int)(gs:List (Int×Int))(os:List Int):Option Er:=
 if N<0\/N>8000\/N+gs.length>8000 then some .limit
 else if y25_ N.toNat gs=false then some .range
 else if(os.all fun l=>okN l (N.toNat+gs.length))=false then some .range
 else none
theorem yw_{N:Nat}{gs:List (Int×Int)}{os:List Int}:yt_ (N:Int) gs os=none↔N+gs.length<=8000/\y25_ N gs=true/\(os.all fun l=>okN l (N+gs.length))=true:=by
 unfold yt_;rw[Int.toNat_natCast];by_cases h1:(N:Int)<0\/(N:Int)>8000\/(N:Int)+gs.length>8000
 ·rw[if_pos h1]
  exact⟨fun h=>(by cases h),fun h=>(by omega)⟩
 rw[if_neg h1];cases h2:y25_ N gs with
 |false=>simp
 |true=>
  rw[if_neg (by simp)];cases h3:(os.all fun l=>okN l (N+gs.length)) with
  |false=>simp
  |true=>rw[if_neg (by simp)];exact⟨fun _=>⟨by omega,rfl,rfl⟩,fun _=>rfl⟩
theorem y50_{N:Nat}{gs:List (Int×Int)}:y25_ N gs=true↔∀(i:Nat) x,gs[i]?=some x->y1l_ (N+i) x=false:=by
 unfold y25_;rw[List.all_eq_true];refine⟨fun h i x hx=>?_,fun h i hi=>?_⟩
 ·have hl:=(List.getElem?_eq_some_iff.1 hx).1
  have:=h i (by simpa using hl);rw[List.getD_eq_getElem?_getD,hx]at this;simpa using this
 ·obtain⟨x,hx⟩:=y3_ (xs:=gs) (i:=i) (by simpa using hi)
  rw[List.getD_eq_getElem?_getD,hx];simp[h i x hx]
theorem y3q_{N:Nat}{gs:List (Int×Int)}:y25_ N gs=true↔WFg N gs:=by
 rw[y50_];refine⟨fun h i a b hx=>?_,fun h i x hx=>?_⟩
 ·have:=h i _ hx
  simp only[y1l_,Bool.or_eq_false_iff,Bool.not_eq_false',decide_eq_false_iff_not]at this;obtain⟨h1,h2,h3⟩:=this;have:=ya_.1 h1;have:=ya_.1 h2;omega
 ·obtain⟨a,b⟩:=x
  have:=h i a b hx;simp only[y1l_,Bool.or_eq_false_iff,Bool.not_eq_false',decide_eq_false_iff_not];exact⟨ya_.2 (by omega),ya_.2 (by omega),by omega⟩
section
variable{σ τ:Heap}{T T':Tg}{lg N lm n:Nat}{gs:List (Int×Int)}{os:List Int}{er:Option Er}{a b l:Int}{x v xa xo:AVal}{I:Nat->Bool}{e:Er}{R:Type}{Q:R->Prop}
theorem W.ixP0{l:Nat}{K:AVal->Option R}(c:W (K (.ptr l 0)) Q):W (YtekehmgfedmflaaGreatDoor.A.ixP (.ptr l 0) 2 1 0 K) Q:=c
theorem W.ixP1{l:Nat}{K:AVal->Option R}(c:W (K (.ptr l 1)) Q):W (YtekehmgfedmflaaGreatDoor.A.ixP (.ptr l 0) 2 1 1 K) Q:=c
theorem W.pair{i:Nat}(hn:Tn σ T)(h:SlV vLn σ gs x)(hi:gs[i]?=some (a,b)){K:Nat->Heap->Option R}(c:∀l τ,Hle σ τ->Loc (τ.at T 0) l [.int .i64 a,.int .i64 b]->Tn τ T->W (K l τ) Q) :
  W (YtekehmgfedmflaaGreatDoor.A.ixA σ x 2 (i:Int) fun p=>YtekehmgfedmflaaGreatDoor.A.ldG σ p 2 fun g=>YtekehmgfedmflaaGreatDoor.A.newK σ 2 [.int .i64 0,.int .i64 0] fun l σ'=>YtekehmgfedmflaaGreatDoor.A.aggK g 2 fun cs=>YtekehmgfedmflaaGreatDoor.A.stC σ' (.ptr l 0) cs (K l)) Q:=by
 refine W.ixO h (y2_ hi) ?_;refine W.ldGO h hi [.int .i64 a,.int .i64 b] (fun bs hb=>hb) ?_;exact W.newA hn rfl rfl fun l τ _ L k hn=>c l τ L k hn
theorem y4h_{N:Int}(hg:GlS [.range,.limit] (σ.at T 0))(hn:Tn σ T)(hc:SlV vLn (σ.at T 0) gs xa)(ho:SlV .int (σ.at T 0) os xo)(b1:gs.length<=4611686018427387904)(b2:os.length<=4611686018427387904) :
  W (S.z13 (.agg [.int .i64 N,xa,xo]) σ) fun r=>Hle σ r.2/\IsF (r.2.at T 0) r.1 ((yt_ N gs os).map fun e=>(e,none)):=by
 unfold S.z13
 repeat' (with_reducible refine W.e3 ?_)
 refine W.new0 hn fun l2 τ1 _ L1 k2 hn1=>?_;replace hc:=hc.hle L1;replace ho:=ho.hle L1;replace hn:=hn.mono L1;replace hg:=hg.mono (L1.ats T 0);have hcu:=hc.up;have k2u:=k2.up;refine W.bind ?_;refine W.mono (P:=fun r=>r=decide (N<0\/N>8000\/N+gs.length>8000)) ?_ fun r hr=>?_
 ·repeat' with_reducible first|refine W.asI ?_|refine W.e0 ?_
  (with_reducible refine W.cnd (fun h0=>?_) (fun h0=>?_)<;>(try simp only[qq,Kd.ty]at h0)<;>(try (exfalso;omega)))
  ·repeat' with_reducible refine W.ret ?_
   simp;omega
  repeat' with_reducible first|refine W.asI ?_|refine W.e0 ?_
  (with_reducible refine W.cnd (fun h1=>?_) (fun h1=>?_)<;>(try simp only[qq,Kd.ty]at h1)<;>(try (exfalso;omega)))
  ·repeat' with_reducible refine W.ret ?_
   simp;omega
  repeat' with_reducible first|refine W.ret ?_|refine W.asI ?_|refine W.asV ?_|refine W.len (by assumption) ?_|refine W.e0 ?_
  have:IntKind.i64.wrap (N+(gs.length:Int))=N+gs.length:=by rw[wrapS]<;>omega
  rw[this];have h3:¬N<0:=by omega
  have h4:¬N>8000:=by omega
  simp[h3,h4]
 subst hr;by_cases hbig:N<0\/N>8000\/N+gs.length>8000
 ·have hR:yt_ N gs os=some .limit:=by unfold yt_;rw[if_pos hbig]
  rw[hR];refine W.condT (by simpa using hbig) ?_;refine W.globT hg .limit fun v hv=>?_;exact W.ret ⟨L1,hv⟩
 obtain⟨M,rfl⟩:∃M:Nat,N=(M:Int):=⟨N.toNat,by omega⟩;refine W.condF (by simpa using hbig) ?_
 repeat' with_reducible first|refine W.bind ?_|refine W.asV ?_|refine W.len (by assumption) ?_|refine W.e0 ?_
 refine W.mono (P:=fun r=>Hle τ1 r.2/\((y25_ M gs=true/\r.1=.inl ())\/(y25_ M gs=false/\∃v,r.1=.inr v/\IsE (r.2.at T 0) v .range))) ?_ fun r hr=>?_
 ·refine W.loop gs.length (fun i (z:Int) τ=>z=(i:Int)/\Hle τ1 τ/\∀(j:Nat) y,j<i->gs[j]?=some y->y1l_ (M+j) y=false) ⟨rfl,Hle.refl _,fun j y hj=>by omega⟩ fun i z τ2 hi hI=>?_
  obtain⟨rfl,L2,hall⟩:=hI;have wr:IntKind.i64.wrap ((i:Int)+1)=((i+1:Nat):Int):=by rw[wrapS]<;>omega
  have hc2:=hc.hle L2;have hg2:=hg.mono (L2.ats T 0);have hn2:=hn.mono L2;have k22:=k2.hle L2;unfold S.z13.b0
  (with_reducible refine W.cnd (fun hlt=>?_) (fun hlt=>?_)<;>(try simp only[qq,Kd.ty]at hlt)<;>(try (exfalso;omega)))
  ·obtain⟨⟨a,b⟩,hab⟩:=y3_ (xs:=gs) (i:=i) (by omega)
   refine W.pair hn2 hc2.up hab fun l20 τ3 L3 k20 hn3=>?_;replace k22:=k22.hle L3;have k22u:=k22.up;have k20u:=k20.up;have wi:IntKind.i64.wrap ((M:Int)+(i:Int))=((M+i:Nat):Int):=by rw[wrapS]<;>omega
   repeat' with_reducible first|refine W.bind ?_|refine W.asI ?_|refine W.fldp ?_|refine W.e0 ?_
   rw[wi];refine W.mono (P:=fun r=>r=y1l_ (M+i) (a,b)) ?_ fun r hr=>?_
   ·refine W.ixP0 ?_
    repeat' with_reducible first|refine W.bind ?_|refine W.asI ?_|refine W.e0 ?_
    refine W.mono (y3h_ (by omega)) fun r hr=>?_;subst hr;cases h1:okN a (M+i) with
    |false=>
     refine W.condT rfl (W.ret ?_);simp[y1l_,h1]
    | true=>
     refine W.condF rfl ?_;refine W.ixP1 ?_
     repeat' with_reducible first|refine W.bind ?_|refine W.asI ?_|refine W.e0 ?_
     refine W.mono (y3h_ (by omega)) fun r hr=>?_;subst hr;cases h2:okN b (M+i) with
     |false=>
      refine W.condT rfl (W.ret ?_);simp[y1l_,h1,h2]
     |true=>
      refine W.condF rfl ?_;refine W.ixP0 ?_
      repeat' with_reducible first|refine W.asI ?_|refine W.e0 ?_
      refine W.ixP1 ?_
      repeat' with_reducible first|refine W.ret ?_|refine W.asI ?_|refine W.e0 ?_
      simp[y1l_,h1,h2]
   subst hr;cases hbd:y1l_ (M+i) (a,b) with
   |true=>
    refine W.condT rfl ?_;refine W.globT (hg2.mono (L3.ats T 0)) .range fun v hv=>?_;refine W.ret ⟨L2.trans L3,.inr ⟨?_,v,rfl,hv⟩⟩;cases hq:y25_ M gs with
    |false=>rfl
    |true=>rw[y50_.1 hq i _ hab]at hbd;cases hbd
   | false=>
    refine W.condF rfl ?_
    repeat' (with_reducible refine W.next ?_)
    refine⟨by omega,wr,L2.trans L3,fun j y hj hy=>?_⟩;by_cases e:j=i
    ·subst e
     rw[hab]at hy;cases hy;exact hbd
    ·exact hall j y (by omega) hy
  ·repeat' (with_reducible refine W.stop ?_)
   have:i=gs.length:=by omega
   subst this;exact⟨L2,.inl ⟨y50_.2 fun j y hy=>hall j y (y2_ hy) hy,rfl⟩⟩
 obtain⟨r,τ2⟩:=r;obtain⟨L2,hcase⟩:=hr;dsimp only at L2 hcase⊢;replace hg:=hg.mono (L2.ats T 0);replace hc:=hc.hle L2;replace ho:=ho.hle L2;replace k2:=k2.hle L2;rcases hcase with ⟨hok,rfl⟩|⟨hbd,v,rfl,hv⟩
 ·dsimp only
  have k2u:=k2.up;have hou:=ho.up;have hcu:=hc.up
  repeat' with_reducible first|refine W.bind ?_|refine W.asV ?_|refine W.len (by assumption) ?_|refine W.e0 ?_
  refine W.mono (P:=fun r=>((os.all fun l=>okN l (M+gs.length))=true/\r=.inl ())\/((os.all fun l=>okN l (M+gs.length))=false/\∃v,r=.inr v/\IsE (τ2.at T 0) v .range)) ?_ fun r hr=>?_
  ·refine W.loopP os.length (fun i z=>z=(i:Int)/\((os.take i).all fun l=>okN l (M+gs.length))=true) ⟨rfl,rfl⟩ fun i z hi hI=>?_
   obtain⟨rfl,hall⟩:=hI;have wr:IntKind.i64.wrap ((i:Int)+1)=((i+1:Nat):Int):=by rw[wrapS]<;>omega
   have wi:IntKind.i64.wrap ((M:Int)+(gs.length:Int))=((M+gs.length:Nat):Int):=by rw[wrapS]<;>omega
   unfold S.z13.b1
   (with_reducible refine W.cnd (fun hlt=>?_) (fun hlt=>?_)<;>(try simp only[qq,Kd.ty]at hlt)<;>(try (exfalso;omega)))
   ·obtain⟨a,ha⟩:=y3_ (xs:=os) (i:=i) (by omega)
    have htk:os.take (i+1)=os.take i++[a]:=by rw[List.take_add_one,ha];rfl
    repeat' with_reducible first|refine W.bind ?_|refine W.asI ?_|refine W.asV ?_|refine W.fldp ?_|refine W.len (by assumption) ?_|refine W.e0 ?_|refine W.e2 ?_
    rw[wi];refine W.mono (y3h_ (by omega)) fun r hr=>?_;subst hr;cases hbd:okN a (M+gs.length) with
    |false=>
     refine W.condT rfl ?_;refine W.globT hg .range fun v hv=>?_;exact W.ret (.inr ⟨by rw[List.all_eq_false];exact⟨a,List.mem_of_getElem? ha,by simp[hbd]⟩,v,rfl,hv⟩)
    |true=>
     refine W.condF rfl ?_
     repeat' (with_reducible refine W.nextP ?_)
     exact⟨by omega,wr,by rw[htk,List.all_append,hall];simp[hbd]⟩
   ·repeat' (with_reducible refine W.stopP ?_)
    have:i=os.length:=by omega
    subst this;rw[List.take_length]at hall;exact .inl ⟨hall,rfl⟩
  rcases hr with ⟨hall,rfl⟩|⟨hall,v,rfl,hv⟩
  ·have hR:yt_ (M:Int) gs os=none:=yw_.2 ⟨by omega,hok,hall⟩
   rw[hR];exact W.ret ⟨L1.trans L2,rfl⟩
  ·have hR:yt_ (M:Int) gs os=some .range:=by
    unfold yt_;rw[if_neg hbig,Int.toNat_natCast,if_neg (by simp[hok]),if_pos hall]
   rw[hR];exact W.ret ⟨L1.trans L2,hv⟩
 ·dsimp only
  have hR:yt_ (M:Int) gs os=some .range:=by
   unfold yt_;rw[if_neg hbig,Int.toNat_natCast,if_pos hbd]
  rw[hR];exact W.ret ⟨L1.trans L2,hv⟩
end
end
section
open Go
section
variable{α:Type}{v:Vw α}{σ τ:Heap}{T T':Tg}{t:Nat}{xs ys:List α}{x y:AVal}{R:Type}{Q:R->Prop}
theorem W.own_copy(hf:v.Flat)(h1:v.sz=1)(h:Own v (σ.at T t) xs x)(hn:Tn σ T)(hy:SlV v σ ys y){lo hi:Nat}(hl:lo<=hi)(hh:hi<=xs.length){z:Option Int}(hz:z=some (hi:Int)\/(z=none/\hi=xs.length)){K:Nat->Heap->Option R}
  (c:∀τ,Own v (τ.at T t) (xs.take lo++(ys.take (min ys.length (hi-lo))++xs.drop (lo+min ys.length (hi-lo)))) x->Hop (only t) σ T τ T->W (K (min ys.length (hi-lo)) τ) Q) :
  W (YtekehmgfedmflaaGreatDoor.A.slS σ 1 x (lo:Int) z none fun d=>YtekehmgfedmflaaGreatDoor.A.copyK σ 1 d y K) Q:=by
 have same:min ys.length (hi-lo)=0->xs.take lo++(ys.take (min ys.length (hi-lo))++xs.drop (lo+min ys.length (hi-lo)))=xs:=fun e=>by
  rw[e];simp
 rcases h with ⟨rfl,rfl⟩|⟨l,off,cp,cs,rfl,k2,k3,k6,k4,k5⟩
 ·simp at hh
  subst hh;obtain rfl:lo=0:=by omega
  have hm:min ys.length (0-0)=0:=by omega
  have hc:=c σ (by rw[same hm];exact Own.nil) (Hop.refl hn);rw[hm]at hc;refine W.to ?_ hc;have e1:∀K':AVal->Option R,YtekehmgfedmflaaGreatDoor.A.slS σ 1 .nils ((0:Nat):Int) z none K'=K' .nils:=fun K'=>by
   rcases hz with rfl|⟨rfl,_⟩<;>simp[YtekehmgfedmflaaGreatDoor.A.slS]
  rw[e1];rcases hy with ⟨rfl,rfl⟩|⟨l2,off2,c2,md2,cs2,rfl,_⟩
  ·rfl
  ·rfl
 ·obtain ⟨g1,g2⟩:=ys_.1 k3
  rw[h1]at g2;simp only[h1,Nat.mul_one]at k4 k5 k6;have e1:∀K':AVal->Option R,YtekehmgfedmflaaGreatDoor.A.slS σ 1 (.sl l off xs.length cp) (lo:Int) z none K'=K' (.sl l (off+lo) (hi-lo) (y19_ none cp lo)):=fun K'=>by
   rcases hz with rfl|⟨rfl,e⟩
   ·simp only[YtekehmgfedmflaaGreatDoor.A.slS,g2]
    rw[if_pos ⟨trivial,by omega,by simp;omega,by simp;omega,by simp,by simp⟩];simp
   ·subst e
    simp only[YtekehmgfedmflaaGreatDoor.A.slS,g2];rw[if_pos ⟨trivial,by omega,by simp;omega,by simp,by simp,by simp⟩];simp
  refine W.to (e1 _) ?_;have quiet:min ys.length (hi-lo)=0->(∀K':Nat->Heap->Option R,YtekehmgfedmflaaGreatDoor.A.copyK σ 1 (.sl l (off+lo) (hi-lo) (y19_ none cp lo)) y K'=K' 0 σ)->W (YtekehmgfedmflaaGreatDoor.A.copyK σ 1 (.sl l (off+lo) (hi-lo) (y19_ none cp lo)) y K) Q:=fun hm e=>by
   have hc:=c σ (by rw[same hm];exact .inr ⟨l,off,cp,cs,rfl,k2,k3,by simpa[h1]using k6,by simpa[h1]using k4,by simpa[h1]using k5⟩) (Hop.refl hn);rw[hm]at hc;exact W.to (e _) hc
  rcases hy with ⟨rfl,rfl⟩|⟨l2,off2,c2,md2,cs2,rfl,y2,y3,y4,y5⟩
  ·exact quiet (by simp) fun K'=>rfl
  ·rw[h1]at y3
   simp only[h1,Nat.mul_one]at y4 y5;obtain⟨m,hm⟩:∃m,m=min ys.length (hi-lo):=⟨_,rfl⟩;have hmle:m<=ys.length/\m<=hi-lo:=by omega
   have hc0:(True/\(off2+min ys.length (hi-lo))*1<=cs2.length):=⟨trivial,by omega⟩;by_cases hm0:min ys.length (hi-lo)=0
   ·refine quiet hm0 fun K'=>?_
    simp only[YtekehmgfedmflaaGreatDoor.A.copyK,y3];rw[if_pos hc0,if_pos hm0]
   ·have hzl:((cs2.drop (off2*1)).take (min ys.length (hi-lo)*1)).length=m:=by simp;omega
    obtain⟨zs,hzs⟩:∃zs,zs=(cs2.drop (off2*1)).take (min ys.length (hi-lo)*1):=⟨_,rfl⟩;rw[<-hzs]at hzl;refine W.to (o':=K (min ys.length (hi-lo)) (σ.set l (.cells .rw 1 (cs.take (off+lo)++zs++cs.drop (off+lo+m))))) ?_ ?_
    ·simp only[YtekehmgfedmflaaGreatDoor.A.copyK,y3]
     rw[if_pos hc0,if_neg hm0];simp only[g2,if_true,YtekehmgfedmflaaGreatDoor.A.stC];rw[<-hzs,if_pos (by rw[hzl];omega),hzl];simp
    ·refine c _ (.inr ⟨l,off,cp,cs.take (off+lo)++zs++cs.drop (off+lo+m),?_,k2,by rw[h1];exact at_of g1 (by rw[y1r_,if_pos rfl]),fun k e=>?_,?_,fun i a ha=>?_⟩) (y2p_ hn g1)
     ·congr 1
      simp only[List.length_append,List.length_take,List.length_drop];omega
     ·have:=k6 k e
      simp only[h1,List.length_append,List.length_take,List.length_drop,hzl];omega
     ·simp only[h1,List.length_append,List.length_take,List.length_drop,hzl];omega
     ·simp only[h1,Nat.mul_one]
      rw[<-hm]at ha;refine hf σ _ _ _ ?_;by_cases q1:i<lo
      ·rw[List.getElem?_append_left (by simp;omega),List.getElem?_take_of_lt q1]at ha
       have:=k5 i a ha;have e:((cs.take (off+lo)++zs++cs.drop (off+lo+m)).drop (off+i)).take 1=(cs.drop (off+i)).take 1:=by
        apply List.ext_getElem?;intro j;by_cases hj:j=0
        ·subst hj
         simp only[List.getElem?_take,List.getElem?_drop];rw[List.append_assoc,List.getElem?_append_left (by simp;omega),List.getElem?_take_of_lt (by omega)]
        ·simp only[List.getElem?_take]
         rw[if_neg (by omega),if_neg (by omega)]
       rw[e];exact hf _ _ _ _ this
      ·rw[List.getElem?_append_right (by simp;omega)]at ha
       have hlt:(xs.take lo).length=lo:=by simp;omega
       rw[hlt]at ha;by_cases q2:i<lo+m
       ·rw[List.getElem?_append_left (by simp;omega),List.getElem?_take_of_lt (by omega)]at ha
        have:=y5 (i-lo) a ha;have e:((cs.take (off+lo)++zs++cs.drop (off+lo+m)).drop (off+i)).take 1=(cs2.drop (off2+(i-lo))).take 1:=by
         apply List.ext_getElem?;intro j;by_cases hj:j=0
         ·subst hj
          simp only[List.getElem?_take,List.getElem?_drop];rw[List.getElem?_append_left (by simp[hzl];omega),List.getElem?_append_right (by simp;omega),hzs];have e3:off+i+0-(cs.take (off+lo)).length=i-lo:=by simp;omega
          rw[e3,List.getElem?_take_of_lt (by omega),List.getElem?_drop];simp
         ·simp only[List.getElem?_take]
          rw[if_neg (by omega),if_neg (by omega)]
        rw[e];exact this
       ·have hyl:(ys.take m).length=m:=by simp;omega
        rw[List.getElem?_append_right (by rw[hyl];omega),hyl,List.getElem?_drop,show lo+m+(i-lo-m)=i by omega]at ha;have:=k5 i a ha;have e:((cs.take (off+lo)++zs++cs.drop (off+lo+m)).drop (off+i)).take 1=(cs.drop (off+i)).take 1:=by
         apply List.ext_getElem?;intro j;by_cases hj:j=0
         ·subst hj
          simp only[List.getElem?_take,List.getElem?_drop];rw[List.getElem?_append_right (by simp[hzl];omega),List.getElem?_drop];have e3:off+lo+m+(off+i+0-(cs.take (off+lo)++zs).length)=off+i+0:=by simp[hzl];omega
          rw[e3]
         ·simp only[List.getElem?_take]
          rw[if_neg (by omega),if_neg (by omega)]
        rw[e];exact hf _ _ _ _ this
end
end
section
open Go
def Shut(N:Nat)(gs:List (Int×Int))(is:List Bool)(k:Nat):Prop:=∀(i:Nat) a b,gs[i]?=some (a,b)->k<=N+i->is.getD (N+i+1) false=true->is.getD (a.toNat / 2) false=true/\is.getD (b.toNat / 2) false=true
section
variable{σ τ:Heap}{T T':Tg}{N n k:Nat}{gs:List (Int×Int)}{os:List Int}{a b l:Int}{x v xa xo:AVal}{is:List Bool}
theorem setT{p q:Nat}(hp:p<is.length):(is.set p true).getD q false=if q=p then true else is.getD q false:=getD_set' hp
theorem y20_{p q:Nat}(hp:p<is.length)(h:is.getD q false=true):(is.set p true).getD q false=true:=by
 rw[setT hp];split
 ·rfl
 ·exact h
theorem yj5_(hg:GlS [.range,.limit] (σ.at T 0))(hn:Tn σ T)(hc:SlV vLn (σ.at T 0) gs xa)(ho:SlV .int (σ.at T 0) os xo)(hok:yt_ (N:Int) gs os=none)(hl:okN l (N+gs.length)=true)(b2:os.length<=1000000) :
  W (S.z59 (.agg [.int .i64 N,xa,xo]) l σ) fun r=>∃T' is,Hop (only 28) σ T r.2 T'/\SlV .bool (r.2.at T' 0) is r.1/\is.length=N+gs.length+1/\is.getD (l.toNat / 2) false=true/\Shut N gs is N:=by
 obtain⟨c1,c2,c3⟩:=yw_.1 hok;have hwf:=y3q_.1 c2;have hl':=ya_.1 hl;unfold S.z59
 repeat' (with_reducible refine W.e3 ?_)
 have hn0:=hn;refine W.new0 hn fun l2 τ1 _ L1 k2 hn1=>?_;replace hc:=hc.hle L1;replace ho:=ho.hle L1;replace hn:=hn.mono L1;replace hg:=hg.mono (L1.ats T 0);have hcu:=hc.up;have k2u:=k2.up
 repeat' with_reducible first|refine W.bind ?_|refine W.asI ?_|refine W.asV ?_|refine W.len (by assumption) ?_|refine W.e0 ?_|refine W.e1 ?_
 refine W.mono (y4h_ hg hn1 hc ho (by omega) (by omega)) fun r hr=>?_;obtain⟨r,τ2⟩:=r;obtain⟨L2,hF⟩:=hr;dsimp only at L2 hF⊢;rw[hok]at hF;refine W.fnil (hF.mono at_le) ?_;refine W.condF rfl ?_;refine W.condF (by simp;omega) ?_;have w1:IntKind.i64.wrap (1+(N:Int))=((1+N:Nat):Int):=by rw[wrapS]<;>omega
 have w2:IntKind.i64.wrap (((1+N:Nat):Int)+(gs.length:Int))=((1+N+gs.length:Nat):Int):=by rw[wrapS]<;>omega
 have w3:IntKind.i64.wrap (2*((1+N+gs.length:Nat):Int))=2*((1+N+gs.length:Nat):Int):=by rw[wrapS]<;>omega
 have w4:IntKind.i64.wrap (((1+N+gs.length:Nat):Int)-1)=((N+gs.length:Nat):Int):=by rw[wrapS]<;>omega
 rw[w1,w2,w3,w4,y6i_ (by omega) (by omega)];replace hc:=hc.hle L2;replace k2:=k2.hle L2;replace hn:=hn.mono L2;refine W.ret ?_;refine W.condF (by simp;omega) ?_;have HH:Hop (only 28) σ T τ2 T:=Hop.of hn0 (L1.trans L2);refine W.mkT (v:=Vw.bool) 28 hn false rfl (fun _=>rfl) (n:=1+N+gs.length) (by omega) (by omega) rfl fun y τ3 T3 H3 k28 _=>?_;replace hc:=hc.hop H3;replace k2:=k2.hop H3;replace hn:=H3.tn;replace HH:=HH.trans H3;refine W.ixO k28.slT (i:=l.toNat / 2) (by rw[List.length_replicate];omega) ?_;refine W.own_setB k28 hn (a:=true) (by rw[List.length_replicate];omega) fun τ4 k28 H4 _=>?_;replace hc:=hc.hop H4;replace k2:=k2.hop H4;replace hn:=H4.tn;replace HH:=HH.trans H4;refine W.bind ?_;refine W.mono (P:=fun r=>∃is,Hop (only 28) τ4 T3 r.2 T3/\Own .bool (r.2.at T3 28) is y/\is.length=1+N+gs.length/\is.getD (l.toNat / 2) false=true/\Shut N gs is N) ?_ fun r hr=>?_
 ·refine W.loopI (m:=gs.length) (fun m (z:Int) τ=>z=((N+m:Nat):Int)/\m<=gs.length/\∃is,Hop (only 28) τ4 T3 τ T3/\SlV vLn (τ.at T3 0) gs xa/\Loc (τ.at T3 0) l2 [.int .i64 N,xa,xo]/\Own .bool (τ.at T3 28) is y/\is.length=1+N+gs.length/\is.getD (l.toNat / 2) false=true/\Shut N gs is (N+m)) ⟨rfl,Nat.le_refl _,_,Hop.refl hn,hc,k2,k28,by simp,by rw[setT (by rw[List.length_replicate];omega),if_pos rfl],fun i a b h hk=>by have:=y2_ h;omega⟩ fun m z τ5 hI=>?_
  obtain⟨rfl,hm,is,H5,hc,k2,k28,hil,hit,hsh⟩:=hI;have hn:=H5.tn;have k2u:=k2.up;have hcu:=hc.up;have k28u:=k28.slT;unfold S.z59.b0
  repeat' with_reducible first|refine W.asI ?_|refine W.fldp ?_|refine W.e0 ?_
  by_cases hm0:m=0
  ·subst hm0
   refine W.condF (by simp) ?_
   repeat' (with_reducible refine W.stop ?_)
   exact⟨is,H5,k28,hil,hit,hsh⟩
  refine W.condT (by simp;omega) ?_;have wm:IntKind.i64.wrap (((N+m:Nat):Int)-1)=((N+(m-1):Nat):Int):=by rw[wrapS]<;>omega
  have wj:IntKind.i64.wrap (((N+(m-1):Nat):Int)-(N:Int))=((m-1:Nat):Int):=by rw[wrapS]<;>omega
  obtain⟨bk,hbk⟩:=y3_ (xs:=is) (i:=N+m) (by omega);obtain⟨⟨a,b⟩,hab⟩:=y3_ (xs:=gs) (i:=m-1) (by omega);obtain⟨h1,h2,h3⟩:=hwf _ _ _ hab;have hbd:is.getD (N+m) false=bk:=by rw[List.getD_eq_getElem?_getD,hbk];rfl
  rw[wm];refine W.bind ?_;refine W.mono (P:=fun r=>∃is',Hop (only 28) τ5 T3 r.2 T3/\Own .bool (r.2.at T3 28) is' y/\is'.length=1+N+gs.length/\is'.getD (l.toNat / 2) false=true/\Shut N gs is' (N+(m-1))) ?_ fun r hr=>?_
  ·repeat' (with_reducible refine W.ixBc (by assumption) (by assumption) ?_)
   cases bk with
   |false=>
    refine W.condF rfl ?_;refine W.ret ⟨is,Hop.refl hn,k28,hil,hit,fun i a' b' hi hk hm1=>?_⟩;by_cases e:N+i+1=N+m
    ·rw[e,hbd]at hm1;cases hm1
    ·exact hsh i a' b' hi (by omega) hm1
   | true=>
    refine W.condT rfl ?_
    repeat' with_reducible first|refine W.asI ?_|refine W.asV ?_|refine W.fldp ?_|refine W.e0 ?_
    rw[wj];refine W.pair hn hcu hab fun l29 τ6 L6 k29 hn6=>?_;replace k28:=k28.hle L6;have k29u:=k29.up;refine W.ixP0 ?_
    repeat' with_reducible first|refine W.asI ?_|refine W.e0 ?_
    refine W.ixP1 ?_
    repeat' with_reducible first|refine W.asI ?_|refine W.e0 ?_
    rw[y6i_ (by omega) (by omega),y6i_ (by omega) (by omega)];refine W.ixO k28.slT (i:=a.toNat / 2) (by omega) ?_;refine W.own_setB k28 hn6 (a:=true) (by omega) fun τ7 k28 H7 _=>?_;replace k29:=k29.hop H7;have k29u:=k29.up
    repeat' with_reducible first|refine W.asI ?_|refine W.chk rfl ?_|refine W.e0 ?_
    refine W.ixP1 ?_
    repeat' (with_reducible refine W.chk rfl ?_)
    refine W.ixO k28.slT (i:=b.toNat / 2) (by rw[List.length_set];omega) ?_;refine W.own_setB k28 H7.tn (a:=true) (by rw[List.length_set];omega) fun τ8 k28 H8 _=>?_
    repeat' with_reducible refine W.ret ?_
    have hp1:a.toNat / 2<is.length:=by omega
    have hp2:b.toNat / 2<(is.set (a.toNat / 2) true).length:=by rw[List.length_set];omega
    refine⟨_,((Hop.of hn L6).trans H7).trans H8,k28,by simp[hil],y20_ hp2 (y20_ hp1 hit),fun i a' b' hi hk hm1=>?_⟩;by_cases e:i=m-1
    ·subst e
     rw[hab]at hi;cases hi;exact⟨y20_ hp2 (by rw[setT hp1,if_pos rfl]),by rw[setT hp2,if_pos rfl]⟩
    ·rw[setT hp2,if_neg (by omega),setT hp1,if_neg (by omega)]at hm1
     obtain⟨q1',q2'⟩:=hsh i a' b' hi (by omega) hm1;exact⟨y20_ hp2 (y20_ hp1 q1'),y20_ hp2 (y20_ hp1 q2')⟩
  ·obtain⟨r,τ6⟩:=r
   obtain⟨is',H6,k28,hil,hit,hsh⟩:=hr;dsimp only at H6 k28⊢
   repeat' (with_reducible refine W.next ?_)
   exact⟨m-1,by omega,rfl,by omega,is',H5.trans H6,hc.hop H6,k2.hop H6,k28,hil,hit,hsh⟩
 ·obtain⟨r,τ5⟩:=r
  obtain⟨is,H5,k28,hil,hit,hsh⟩:=hr;dsimp only at H5 k28⊢;obtain⟨T6,H6,hfr⟩:=k28.freeze Vw.bool_flat H5.tn
  repeat' with_reducible refine W.ret ?_
  exact⟨T6,is,(HH.trans H5).trans H6,hfr,by omega,hit,hsh⟩
end
end
section
open Go
section
variable{N M n:Nat}{gs g0 ext:List (Int×Int)}{a b l x:Int}{v w:List Bool}{inp:Nat->Bool}
theorem ydu_:y15_ v (gs++ext)=y15_ (y15_ v gs) ext:=by unfold y15_;rw[List.foldl_append]
theorem yfr_(h:okN l (N+gs.length)=true):vL (nodes N inp (gs++ext)) l=vL (nodes N inp gs) l:=by
 unfold nodes;rw[ydu_];obtain⟨w,hw⟩:=y3z_ (gs:=ext) (v:=y15_ (inpV N inp) gs);rw[hw];exact ybl_ (by have:=y6h_ (N:=N) (inp:=inp) (gs:=gs);unfold nodes at this;rw[this];exact yca_ h)
theorem y9o_{j:Nat}:vL v (2*(j:Int))=v.getD j false:=by
 unfold vL;have h1:(2*(j:Int)).toNat / 2=j:=by omega
 have h2:¬(2*(j:Int)) % 2=1:=by omega
 rw[h1];simp[h2]
theorem yj9_(h:0<=x):vL v (turnL x l)=(vL v x != decide (l % 2=1)):=by
 unfold turnL
 split
 ·have:¬l % 2=1:=by omega
  simp[this]
 ·have:l % 2=1:=by omega
  rw[y73_ h];simp[this]
theorem ygs_(h:okN x n=true):okN (turnL x l) n=true:=by
 unfold turnL;split
 ·exact h
 ·exact yj0_ h
theorem yif_(h:N+gs.length<8000)(ha:okN a (N+gs.length)=true)(hb:okN b (N+gs.length)=true):(gAnd N gs a b).2.2=none:=by
 have h1:okN (hiL a b) (N+gs.length)=true/\okN (loL a b) (N+gs.length)=true:=by
  rcases hilo (a:=a) (b:=b)with ⟨h1,h2⟩|⟨h1,h2⟩
  ·rw[h1,h2];exact⟨ha,hb⟩
  ·rw[h1,h2];exact⟨hb,ha⟩
 unfold gAnd;rw[if_neg (by simp[h1.1,h1.2])]
 split
 ·rfl
 split
 ·rfl
 split
 ·rfl
 split
 ·rfl
 ·rw[if_neg (by omega)]
def MadeI(M N:Nat)(g0 gs:List (Int×Int))(bys:List Int)(is:List Bool)(k:Nat)(ats:List Int)(g:List (Int×Int)):Prop:=
 ∀j,j<k->(j<=N\/is.getD j false=true)->okN (ats.getD j 0) (M+g.length)=true/\∀inp,vL (nodes M inp g) (ats.getD j 0)=(nodes N (fun i=>vL (nodes M inp g0) (bys.getD i 0)) gs).getD j false
theorem MadeI.lit{bys ats:List Int}{is:List Bool}{k:Nat}{g:List (Int×Int)}(h:MadeI M N g0 gs bys is k ats g)(hl:l.toNat / 2<k)(hm:l.toNat / 2<=N\/is.getD (l.toNat / 2) false=true):okN (turnL (ats.getD (l.toNat / 2) 0) l) (M+g.length)=true/\∀inp,vL (nodes M inp g) (turnL (ats.getD (l.toNat / 2) 0) l)=vL (nodes N (fun i=>vL (nodes M inp g0) (bys.getD i 0)) gs) l:=by
 obtain⟨h1,h2⟩:=h _ hl hm;refine⟨ygs_ h1,fun inp=>?_⟩;rw[yj9_ (ya_.1 h1).1,h2];rfl
end
def cpI:Nat->Bool:=fun j=>gI j||(j==26||j==27||j==28)
section
variable{σ τ:Heap}{T T':Tg}{N M n k lg lm l10:Nat}{gs g0:List (Int×Int)}{os ats bys:List Int}{a b l:Int}{x y v xa xo yb:AVal}{is:List Bool}
theorem Hop.cg(H:Hop gI σ T τ T'):Hop cpI σ T τ T':=H.sub fun i hi=>by simp[cpI,hi]
theorem Hop.c26(H:Hop (only 26) σ T τ T'):Hop cpI σ T τ T':=H.sub fun i hi=>by simp[cpI]at hi⊢;simp[hi]
theorem Hop.c27(H:Hop (only 27) σ T τ T'):Hop cpI σ T τ T':=H.sub fun i hi=>by simp[cpI]at hi⊢;simp[hi]
theorem Hop.c28(H:Hop (only 28) σ T τ T'):Hop cpI σ T τ T':=H.sub fun i hi=>by simp[cpI]at hi⊢;simp[hi]
theorem y6t_(k26:Loc σ l10 [y])(k27:SlV .int σ ats y)(h0:0<=l)(h1:l<1000000)(hl:l.toNat / 2<ats.length)(ha:okN (ats.getD (l.toNat / 2) 0) 1000000=true):W (S.z58 l (.ptr l10 0) σ) fun r=>r=turnL (ats.getD (l.toNat / 2) 0) l:=by
 have ha:=ya_.1 ha;obtain⟨z,hz⟩:=y3_ (xs:=ats) (i:=l.toNat / 2) hl;have hz2:ats.getD (l.toNat / 2) 0=z:=by rw[List.getD_eq_getElem?_getD,hz];rfl
 rw[hz2]at ha⊢;unfold S.z58
 repeat' with_reducible first|refine W.asV ?_|refine W.e0 ?_
 rw[y6i_ h0 (by omega)]
 repeat' with_reducible first|refine W.ret ?_|refine W.e2 ?_
 rw[yhl_ ha.1 (by omega)]
theorem yk2_(hg:GlS [.range,.limit] (σ.at T 0))(h:GrH σ T lg M g0 none lm)(hn:Tn σ T)(hW0:WFg M g0)(hc:SlV vLn (σ.at T 0) gs xa)(ho:SlV .int (σ.at T 0) os xo)(hok:yt_ (N:Int) gs os=none)(hl:okN l (N+gs.length)=true)(b2:os.length<=1000000)
  (hby:SlV .int (σ.at T 25) bys yb) (hbl:bys.length=N) (hbo:∀b∈bys,okN b (M+g0.length)=true) (hM:M+g0.length+gs.length<=7999) :
  W (S.z57 (.ptr lg 0) (.agg [.int .i64 N,xa,xo]) l yb σ) fun r=>∃T' g,Hop cpI σ T r.2 T'/\GrH r.2 T' lg M g none lm/\WFg M g/\(∃ext,g=g0++ext)/\g.length<=g0.length+gs.length/\okN r.1 (M+g.length)=true/\∀inp,vL (nodes M inp g) r.1=vL (nodes N (fun i=>vL (nodes M inp g0) (bys.getD i 0)) gs) l:=by
 have hn0:=hn;obtain⟨c1,c2,c3⟩:=yw_.1 hok;have hwf:=y3q_.1 c2;have hl':=ya_.1 hl;unfold S.z57
 repeat' (with_reducible refine W.e3 ?_)
 refine W.new0 hn fun l2 τ1 _ L1 k2 hn1=>?_;replace h:=h.hle L1;replace hc:=hc.hle L1;replace ho:=ho.hle L1;replace hby:=hby.hle L1;replace hn:=hn.mono L1;replace hg:=hg.mono (L1.ats T 0);have k2u:=k2.up
 repeat' with_reducible first|refine W.bind ?_|refine W.e1 ?_
 refine W.mono (yj5_ hg hn1 hc ho hok hl b2) fun r hr=>?_;obtain⟨ym,τ2⟩:=r;obtain⟨T2,is,H2,hm,hml,hmt,hsh⟩:=hr;dsimp only at H2 hm⊢;replace h:=h.hop H2;replace hc:=hc.hop H2;replace hby:=hby.hop H2;replace k2:=k2.hop H2;replace hn:=H2.tn;replace hg:=hg.mono (H2.le (by rfl));have HH:Hop cpI σ T τ2 T2:=(Hop.of hn0 L1).trans H2.c28;have hns:∃a b c d,ym=.sl a b c d:=by
  rcases hm with ⟨_,q⟩|⟨a,b,c,_,_,q,_⟩
  ·rw[q]at hml;simp at hml
  ·exact⟨_,_,_,_,q⟩
 have heq:∀{R:Type} (K:Bool->Option R),eqS ym .nils K=K false:=by
  obtain⟨a,b,c,d,rfl⟩:=hns;intro R K;rfl
 refine W.to (heq _) ?_;refine W.condF rfl ?_;have hmu:=hm.up
 repeat' (with_reducible refine W.len (by assumption) ?_)
 refine W.mkT (v:=Vw.int) 27 hn 0 rfl (fun _=>rfl) (n:=is.length) (by omega) (by omega) rfl fun y τ3 T3 H3 k27 _=>?_;replace h:=h.hop H3;replace hc:=hc.hop H3;replace hby:=hby.hop H3;replace k2:=k2.hop H3;replace hm:=hm.hop H3;replace hn:=H3.tn;replace hg:=hg.mono (H3.le (by rfl));replace HH:=HH.trans H3.c27;refine W.newT 26 hn fun l10 τ4 T4 hl10 H4 k26 hnτ4=>?_;replace h:=h.hop H4;replace hc:=hc.hop H4;replace hby:=hby.hop H4;replace k2:=k2.hop H4;replace hm:=hm.hop H4;replace k27:=k27.hop H4;replace hn:=H4.tn;replace hg:=hg.mono (H4.le (by rfl));replace HH:=HH.trans H4.c26;have k27u:=k27.slT
 repeat' (with_reducible refine W.scalS (by assumption) ?_)
 refine W.stT k26 hn (Nat.le_of_ble_eq_true (by rfl)) fun τ5 H5 k26 hnτ5=>?_;replace h:=h.hop H5;replace hc:=hc.hop H5;replace hby:=hby.hop H5;replace k2:=k2.hop H5;replace hm:=hm.hop H5;replace k27:=k27.hop H5;replace hn:=H5.tn;replace hg:=hg.mono (H5.le (by rfl));replace HH:=HH.trans H5.c26;have k26u:=k26.up;have k2u:=k2.up
 repeat' with_reducible first|refine W.asI ?_|refine W.asV ?_|refine W.e0 ?_
 have w1:IntKind.i64.wrap (1+(N:Int))=((1+N:Nat):Int):=by rw[wrapS]<;>omega
 rw[w1];refine W.own_copy (lo:=1) (hi:=1+N) Vw.int_flat rfl k27 hn hby.up (by omega) (by rw[List.length_replicate];omega) (.inl rfl) fun τ6 k27 H6=>?_;have hmin:min bys.length (1+N-1)=N:=by omega
 rw[hmin]at k27;replace h:=h.hop H6;replace hc:=hc.hop H6;replace hby:=hby.hop H6;replace k2:=k2.hop H6;replace hm:=hm.hop H6;replace k26:=k26.hop H6;replace hn:=H6.tn;replace hg:=hg.mono (H6.le (by rfl));replace HH:=HH.trans H6.c27;have hbt:bys.take N=bys:=List.take_of_length_le (by omega);rw[hbt]at k27;have hlist:List.take 1 (List.replicate is.length (0:Int))++(bys++List.drop (1+N) (List.replicate is.length (0:Int)))=0::(bys++List.replicate gs.length 0):=by
  rw[hml,List.take_replicate,List.drop_replicate];have e1:min 1 (N+gs.length+1)=1:=by omega
  have e2:N+gs.length+1-(1+N)=gs.length:=by omega
  rw[e1,e2];rfl
 rw[hlist]at k27;have k2u:=k2.up
 repeat' with_reducible first|refine W.bind ?_|refine W.asI ?_|refine W.e0 ?_
 rw[w1];have hM0:MadeI M N g0 gs bys is (1+N) (0::(bys++List.replicate gs.length 0)) g0:=fun j hj _=>by
  match j,hj with
  |0,_=>
   refine⟨ya_.2 (by simp;omega),fun inp=>?_⟩;have e1:(0::(bys++List.replicate gs.length 0)).getD 0 0=0:=rfl;rw[e1,y42_];have:=y42_ (N:=N) (inp:=fun i=>vL (nodes M inp g0) (bys.getD i 0)) (gs:=gs);have h2:=y9o_ (v:=nodes N (fun i=>vL (nodes M inp g0) (bys.getD i 0)) gs) (j:=0);rw[<-h2];exact this.symm
  | j+1,hj=>
   have e1:(0::(bys++List.replicate gs.length 0)).getD (j+1) 0=bys.getD j 0:=by
    rw[List.getD_cons_succ,List.getD_eq_getElem?_getD,List.getElem?_append_left (by omega),List.getD_eq_getElem?_getD]
   obtain⟨z,hz⟩:=y3_ (xs:=bys) (i:=j) (by omega);have e2:bys.getD j 0=z:=by rw[List.getD_eq_getElem?_getD,hz];rfl
   rw[e1];refine⟨by rw[e2];exact hbo z (List.mem_of_getElem? hz),fun inp=>?_⟩;rw[<-y9o_];rw[ybi_ (N:=N) (i:=j) (by omega)]
 refine W.mono (P:=fun r=>∃T' g ats,Hop cpI σ T r.2 T'/\GrH r.2 T' lg M g none lm/\WFg M g/\(∃ext,g=g0++ext)/\g.length<=g0.length+gs.length/\Loc (r.2.at T' 26) l10 [y]/\Own .int (r.2.at T' 27) ats y/\ats.length=is.length/\MadeI M N g0 gs bys is is.length ats g) ?_ fun r hr=>?_
 ·refine W.loopI (m:=gs.length) (fun m (z:Int) τ=>∃i,z=((1+N+i:Nat):Int)/\m+i=gs.length/\∃T' g ats,Hop cpI σ T τ T'/\GrH τ T' lg M g none lm/\WFg M g/\(∃ext,g=g0++ext)/\g.length<=g0.length+i/\GlS [.range,.limit] (τ.at T' 0)/\SlV vLn (τ.at T' 0) gs xa/\Loc (τ.at T' 0) l2 [.int .i64 N,xa,xo]/\SlV .bool (τ.at T' 0) is ym/\Loc (τ.at T' 26) l10 [y]/\Own .int (τ.at T' 27) ats y/\ats.length=is.length/\MadeI M N g0 gs bys is (1+N+i) ats g)
   ⟨0,rfl,rfl,_,g0,_,HH,h,hW0,⟨[],by simp⟩,Nat.le_refl _,hg,hc,k2,hm,k26,k27,by simp[hml];omega,hM0⟩ fun m z τ7 hI=>?_
  obtain⟨i,rfl,hmi,T7,g,ats,HH,h,hW,⟨ext,hext⟩,hgl,hg,hc,k2,hm,k26,k27,hal,hMI⟩:=hI;have hn:=HH.tn;have hmu:=hm.up;have k2u:=k2.up;have hcu:=hc.up;have wr:IntKind.i64.wrap (((1+N+i:Nat):Int)+1)=((1+N+(i+1):Nat):Int):=by rw[wrapS]<;>omega
  unfold S.z57.b0
  repeat' (with_reducible refine W.len (by assumption) ?_)
  (with_reducible refine W.cnd (fun hlt=>?_) (fun hlt=>?_)<;>(try simp only[qq,Kd.ty]at hlt)<;>(try (exfalso;omega)))
  ·obtain⟨bk,hbk⟩:=y3_ (xs:=is) (i:=1+N+i) (by omega)
   obtain⟨⟨a,b⟩,hab⟩:=y3_ (xs:=gs) (i:=i) (by omega);obtain⟨h1,h2,h3⟩:=hwf _ _ _ hab;have hbd:is.getD (1+N+i) false=bk:=by rw[List.getD_eq_getElem?_getD,hbk];rfl
   refine W.bind ?_;refine W.mono (P:=fun r=>∃T' g' ats',Hop cpI τ7 T7 r.2 T'/\GrH r.2 T' lg M g' none lm/\WFg M g'/\(∃ext,g'=g++ext)/\g'.length<=g.length+1/\Loc (r.2.at T' 26) l10 [y]/\Own .int (r.2.at T' 27) ats' y/\ats'.length=is.length/\MadeI M N g0 gs bys is (1+N+(i+1)) ats' g') ?_ fun r hr=>?_
   ·repeat' (with_reducible refine W.ixBc (by assumption) (by assumption) ?_)
    cases bk with
    | false=>
     refine W.condF rfl ?_;refine W.ret ⟨T7,g,ats,Hop.refl hn,h,hW,⟨[],by simp⟩,Nat.le_succ _,k26,k27,hal,fun j hj hm1=>?_⟩;by_cases e:j=1+N+i
     ·subst e
      rcases hm1 with q|q
      ·omega
      ·rw[hbd]at q;cases q
     ·exact hMI j (by omega) hm1
    | true=>
     refine W.condT rfl ?_
     repeat' with_reducible first|refine W.asI ?_|refine W.asV ?_|refine W.fldp ?_|refine W.e0 ?_
     have wj1:IntKind.i64.wrap (((1+N+i:Nat):Int)-1)=((N+i:Nat):Int):=by rw[wrapS]<;>omega
     have wj2:IntKind.i64.wrap (((N+i:Nat):Int)-(N:Int))=(i:Int):=by rw[wrapS]<;>omega
     rw[wj1,wj2];refine W.pair hn hcu hab fun l35 τ8 L8 k35 hn8=>?_;replace h:=h.hle L8;replace k26:=k26.hle L8;replace k27:=k27.hle L8;replace hg:=hg.mono (L8.ats T7 0);have k35u:=k35.up;have k26u:=k26.up;have k27u:=k27.slT;have hba:a.toNat / 2<1+N+i:=by omega
     have hbb:b.toNat / 2<1+N+i:=by omega
     have hmk:is.getD (N+i+1) false=true:=by rw[<-hbd];congr 1;omega
     obtain⟨q1',q2'⟩:=hsh i a b hab (by omega) hmk;obtain⟨oa,sa⟩:=hMI _ hba (.inr q1');obtain⟨ob,sb⟩:=hMI _ hbb (.inr q2');obtain⟨ta,ua⟩:=hMI.lit hba (.inr q1');obtain⟨tb,ub⟩:=hMI.lit hbb (.inr q2')
     repeat' with_reducible first|refine W.asV ?_|refine W.e0 ?_
     refine W.ixP0 ?_
     repeat' with_reducible first|refine W.bind ?_|refine W.asI ?_|refine W.e0 ?_
     refine W.mono (y6t_ k26u k27u (by omega) (by omega) (by omega) (y9k_ oa (by omega))) fun r hr=>?_;subst hr
     repeat' with_reducible first|refine W.asV ?_|refine W.chk rfl ?_|refine W.e0 ?_
     refine W.ixP1 ?_;refine W.ixP1 ?_
     repeat' with_reducible first|refine W.bind ?_|refine W.asI ?_|refine W.chk rfl ?_|refine W.e0 ?_
     refine W.mono (y6t_ k26u k27u (by omega) (by omega) (by omega) (y9k_ ob (by omega))) fun r hr=>?_;subst hr
     repeat' with_reducible first|refine W.bind ?_|refine W.asV ?_|refine W.chk rfl ?_|refine W.e0 ?_
     refine W.mono (ye2_ hg h hn8 (by omega)) fun r hr=>?_;obtain⟨r,τ9⟩:=r;obtain⟨T9,er,H9,h⟩:=hr;dsimp only at er H9 h⊢;have hno:=yif_ (N:=M) (gs:=g) (by omega) ta tb;obtain⟨s1,s2,s3,s4,_,_,s7⟩:=ygz_ hW (by omega) rfl hno;rw[hno]at h;obtain⟨g',hg'⟩:∃g',g'=(gAnd M g (turnL (ats.getD (a.toNat / 2) 0) a) (turnL (ats.getD (b.toNat / 2) 0) b)).2.1:=⟨_,rfl⟩;rw[<-hg']at h s1 s2 s3 s4 s7;obtain⟨rr,hrr⟩:∃rr,rr=(gAnd M g (turnL (ats.getD (a.toNat / 2) 0) a) (turnL (ats.getD (b.toNat / 2) 0) b)).1:=⟨_,rfl⟩;rw[<-hrr]at er s4 s7;subst er;replace k26:=k26.hop H9;replace k27:=k27.hop H9;have k26u:=k26.up
     repeat' with_reducible first|refine W.asV ?_|refine W.chk rfl ?_|refine W.e0 ?_
     refine W.ixO k27.slT (i:=1+N+i) (by omega) ?_;refine W.own_setI k27 H9.tn (by omega) fun τ10 k27 H10 _=>?_;replace k26:=k26.hop H10;replace h:=h.hop H10
     repeat' with_reducible refine W.ret ?_
     have hx:∃ext,g'=g++ext:=by
      rcases s2 with e|⟨x,e⟩
      ·exact⟨[],by rw[e];simp⟩
      ·exact⟨[x],e⟩
     have hle:g.length<=g'.length/\g'.length<=g.length+1:=by
      rcases s2 with e|⟨x,e⟩<;>rw[e]<;>simp
     refine⟨T9,g',_,((Hop.of hn L8).trans H9.cg).trans H10.c27,h,s1,hx,hle.2,k26,k27,by rw[List.length_set];exact hal,fun j hj hm1=>?_⟩;rw[getD_set' (by omega)];by_cases e:j=1+N+i
     ·rw[if_pos e]
      subst e;refine⟨s4,fun inp=>?_⟩;rw[s7,ua,ub];have hgt:=y9l_ (inp:=fun i=>vL (nodes M inp g0) (bys.getD i 0)) hwf hab;rw[y9o_]at hgt;rw[<-hgt]
      congr 1;omega
     ·rw[if_neg e]
      obtain⟨o1,o2⟩:=hMI j (by omega) hm1;obtain⟨ext',hext'⟩:=hx;refine⟨y9k_ o1 (by omega),fun inp=>?_⟩;rw[hext',yfr_ o1];exact o2 inp
   ·obtain⟨r,τ8⟩:=r
    obtain⟨T8,g',ats',H8,h,hW',⟨ext',hext'⟩,hgl',k26,k27,hal',hMI'⟩:=hr;dsimp only at H8 h k26 k27⊢
    repeat' (with_reducible refine W.next ?_)
    exact⟨m-1,by omega,i+1,wr,by omega,T8,g',ats',HH.trans H8,h,hW',⟨ext++ext',by rw[hext',hext];simp⟩,by omega,hg.mono (H8.le (by rfl)),hc.hop H8,k2.hop H8,hm.hop H8,k26,k27,hal',hMI'⟩
  ·repeat' (with_reducible refine W.stop ?_)
   have:1+N+i=is.length:=by omega
   rw[this]at hMI;exact⟨T7,g,ats,HH,h,hW,⟨ext,hext⟩,by omega,k26,k27,hal,hMI⟩
 ·obtain⟨r,τ7⟩:=r
  obtain⟨T7,g,ats,HH,h,hW,hext,hgl,k26,k27,hal,hMI⟩:=hr;dsimp only at HH h k26 k27⊢;have hlb:l.toNat / 2<is.length:=by omega
  obtain⟨o1,_⟩:=hMI _ hlb (.inr hmt);obtain⟨t1,u1⟩:=hMI.lit hlb (.inr hmt);refine W.bind ?_;refine W.mono (y6t_ k26.up k27.slT (by omega) (by omega) (by omega) (y9k_ o1 (by omega))) fun r hr=>?_;subst hr;exact W.ret ⟨T7,g,HH,h,hW,hext,hgl,t1,u1⟩
end
end
section
open Go
abbrev vBs:Vw (List Bool):=Vw.sl Vw.bool
def OB(σ:Heap)(T:Tg)(t:Nat)(cs:List (List Bool))(x:AVal):Prop:=∃ws,Own vRaw (σ.at T t) ws x/\ws.length=cs.length/\∀(i:Nat) c,cs[i]?=some c->∃w,ws[i]?=some w/\SlV .bool (σ.at T 0) c w
section
variable{σ τ:Heap}{T T':Tg}{t n:Nat}{x y:AVal}{c:List Bool}{cs:List (List Bool)}{I:Nat->Bool}
theorem OB.hop(h:OB σ T t cs x)(H:Hop I σ T τ T')(ht:I t=false:=by rfl)(h0:I 0=false:=by rfl):OB τ T' t cs x:=by
 obtain⟨ws,h1,h2,h3⟩:=h;exact⟨ws,h1.hop H ht,h2,fun i c hi=>(h3 i c hi).imp fun w hw=>⟨hw.1,hw.2.hop H h0⟩⟩
theorem OB.sl(h:OB σ T t cs x):SlV vBs σ cs x:=by
 obtain⟨ws,h1,h2,h3⟩:=h;rcases h1.slT with ⟨rfl,rfl⟩|⟨l,off,c,md,us,rfl,g2,g3,g4,g5⟩
 ·exact .inl ⟨rfl,List.eq_nil_of_length_eq_zero (by simpa using h2.symm)⟩
 ·refine .inr ⟨l,off,c,md,us,by rw[h2],g2,g3,by rw[<-h2];exact g4,fun i a hi=>?_⟩
  obtain⟨w,e1,e2⟩:=h3 i a hi;exact⟨w,g5 i w e1,e2.up⟩
theorem OB.nil:OB σ T t [] .nils:=⟨[],Own.nil,rfl,fun i c h=>by simp at h⟩
theorem W.ob_push{R:Type}{Q:R->Prop}(h:OB σ T t cs x)(hn:Tn σ T)(hy:SlV .bool (σ.at T 0) c y)(ht:t≠0)(hb:cs.length<=1000000){K:AVal->Heap->Option R}
  (k:∀x' τ T',OB τ T' t (cs++[c]) x'->Hop (only t) σ T τ T'->W (K x' τ) Q):W (YtekehmgfedmflaaGreatDoor.A.newK σ 1 [y] fun l τ=>YtekehmgfedmflaaGreatDoor.A.appS τ 1 24 x (.sl l 0 1 none) K) Q:=by
 obtain⟨ws,h1,h2,h3⟩:=h;refine W.own_push (bytes:=24) y3m_ h1 hn (a:=y) rfl (by omega) (by omega) fun x' τ T' h1' H=>?_;have h0:(only t) 0=false:=by simp;omega
 refine k x' τ T' ⟨_,h1',by simp[h2],fun i d hi=>?_⟩ H;rcases y2k_ hi with q|⟨rfl,rfl⟩
 ·obtain⟨w,e1,e2⟩:=h3 i d q
  exact⟨w,by rw[List.getElem?_append_left (y2_ e1)];exact e1,e2.hop H h0⟩
 ·exact⟨y,by rw[<-h2];simp,hy.hop H h0⟩
theorem OB.freeze(h:OB σ T t cs x)(hn:Tn σ T)(ht:t≠0):∃T',Hop (only t) σ T σ T'/\SlV vBs (σ.at T' 0) cs x:=by
 obtain⟨ws,h1,h2,h3⟩:=h;have h0:(only t) 0=false:=by simp;omega
 rcases h1 with ⟨rfl,rfl⟩|⟨l,off,c,us,rfl,g1,g2,g3,g4,g5⟩
 ·exact⟨T,Hop.refl hn,.inl ⟨rfl,List.eq_nil_of_length_eq_zero (by simpa using h2.symm)⟩⟩
 ·obtain⟨e1,e2⟩:=ys_.1 g2
  have g1:l<σ.next:=g1;have H:Hop (only t) σ T σ (T.upd l 0):=⟨Nat.le_refl _,⟨fun k hk=>by rw[y1k_ (by omega)];exact hn.z k hk⟩,fun k _ hI=>y1k_ (fun e=>by subst e;simp[only,e1]at hI),fun k o _ _ hg=>hg⟩;refine⟨T.upd l 0,H,.inr ⟨l,off,c,.rw,us,by rw[h2],g1,at_of y14_ e2,by rw[<-h2];exact g4,fun i a hi=>?_⟩⟩;obtain⟨w,q1',q2'⟩:=h3 i a hi;exact⟨w,g5 i w q1',q2'.hop H h0⟩
end
section
variable{σ τ:Heap}{T T':Tg}{u t n:Nat}{x y f:AVal}{α:Type}{v:Vw α}{c:List Bool}{cs:List (List Bool)}{xs:List α}{I:Nat->Bool}
def y8j_(sz bytes:Nat)(s:AVal)(σ:Heap):Option (AVal×Heap):=eqS s .nils fun b1=>cond b1 (some (.nils,σ)) (newK σ sz [] fun l2 σ3=>appS σ3 sz bytes (.sl l2 0 0 none) s fun v4 σ5=>some (v4,σ5))
theorem yc5_(t:Nat){bytes:Nat}(hf:v.Flat)(h:SlV v σ xs x)(hn:Tn σ T)(hb:xs.length*bytes<=70368744177664)(hb':xs.length<=70368744177664) :
  W (y8j_ v.sz bytes x σ) fun r=>∃T',Hop (only t) σ T r.2 T'/\Own v (r.2.at T' t) xs r.1:=by
 unfold y8j_;rcases h with ⟨rfl,rfl⟩|⟨l,off,c,md,us,rfl,h2,h3,h4,h5⟩
 ·exact W.ret ⟨T,Hop.refl hn,Own.nil⟩
 ·have h:SlV v σ xs (.sl l off xs.length c):=.inr ⟨l,off,c,md,us,rfl,h2,h3,h4,h5⟩
  have e:∀K:Bool->Option (AVal×Heap),eqS (.sl l off xs.length c) .nils K=K false:=fun K=>rfl;rw[e];refine W.condF rfl ?_;have L1:=(Hle.refl σ).new (.cells .rw v.sz []);have hO:Own v ((σ.new (.cells .rw v.sz [])).at (T.upd σ.next t) t) [] (.sl σ.next 0 0 none):=.inr ⟨σ.next,0,none,[],rfl,Nat.lt_succ_self _,at_of y14_ (by rw[yi_,if_pos rfl]),(fun k e=>by cases e),by simp,fun i b hi=>by simp at hi⟩;have H1:Hop (only t) σ T (σ.new (.cells .rw v.sz [])) (T.upd σ.next t):=y28_ hn;refine W.own_app (bytes:=bytes) hf hO H1.tn (h.mono L1) (by simpa using hb) (by simpa using hb') fun x' τ T2 hO2 H2=>?_;exact W.ret ⟨T2,H1.trans H2,by simpa using hO2⟩
theorem yhf_(t:Nat)(h:SlV .bool σ c x)(hn:Tn σ T)(hb:c.length<=1000000):W (S.z119 x σ) fun r=>∃T',Hop (only t) σ T r.2 T'/\Own .bool (r.2.at T' t) c r.1:=by
 have e:S.z119 x σ=y8j_ Vw.bool.sz 1 x σ:=rfl;rw[e];exact yc5_ t Vw.bool_flat h hn (by omega) (by omega)
theorem ybc_{p:List Bool->Bool}(hx:SlV vBs σ cs x)(hb:cs.length<=4611686018427387904)
  (hf:∀c∈cs,∀y,SlV .bool σ c y->∀{Rt:Type} (K:AVal->Heap->Option Rt),callV S.z125.T f [y] σ K=K (.bool (p c)) σ) :
  W (S.z125 x f σ) fun r=>r.2=σ/\((r.1 = -1/\cs.any p=false)\/(0<=r.1/\cs.any p=true)):=by
 unfold S.z125
 repeat' with_reducible first|refine W.bind ?_|refine W.len (by assumption) ?_
 refine W.mono (P:=fun r=>r.2=σ/\((r.1=.inl ()/\cs.any p=false)\/(∃i:Nat,r.1=.inr (i:Int)/\cs.any p=true))) ?_ fun r hr=>?_
 ·refine W.loop cs.length (fun i z τ=>z=(i:Int)/\σ=τ/\(cs.take i).any p=false) ⟨rfl,rfl,rfl⟩ fun i z τ hi hI=>?_
  obtain⟨rfl,rfl,hI⟩:=hI;have wr:IntKind.i64.wrap ((i:Int)+1)=((i+1:Nat):Int):=by rw[wrapS]<;>omega
  unfold S.z125.b0
  (with_reducible refine W.cnd (fun hlt=>?_) (fun hlt=>?_)<;>(try simp only[qq,Kd.ty]at hlt)<;>(try (exfalso;omega)))
  ·obtain⟨a,ha⟩:=y3_ (xs:=cs) (i:=i) (by omega)
   have htk:cs.take (i+1)=cs.take i++[a]:=by rw[List.take_add_one,ha];rfl
   refine W.ixkLS hx (Hle.refl _) ha fun y hy=>?_;refine W.to (hf a (List.mem_of_getElem? ha) y hy _) ?_
   repeat' (with_reducible refine W.asB ?_)
   cases hp:p a with
   |true=>
    refine W.condT rfl ?_
    repeat' (with_reducible refine W.stop ?_)
    exact⟨rfl,.inr ⟨i,rfl,List.any_eq_true.2 ⟨a,List.mem_of_getElem? ha,hp⟩⟩⟩
   |false=>
    refine W.condF rfl ?_
    repeat' (with_reducible refine W.next ?_)
    exact⟨by omega,wr,rfl,by rw[htk,List.any_append,hI];simp[hp]⟩
  ·repeat' (with_reducible refine W.stop ?_)
   have:i=cs.length:=by omega
   subst this;rw[List.take_length]at hI;exact⟨rfl,.inl ⟨rfl,hI⟩⟩
 ·obtain⟨r,τ⟩:=r
  obtain⟨rfl,⟨rfl,h⟩|⟨i,rfl,h⟩⟩:=hr
  ·exact W.ret ⟨rfl,.inl ⟨rfl,h⟩⟩
  ·exact W.ret ⟨rfl,.inr ⟨by dsimp only;omega,h⟩⟩
theorem y4n_{p:List Bool->Bool}(hx:SlV vBs σ cs x)(hb:cs.length<=4611686018427387904)
  (hf:∀c∈cs,∀y,SlV .bool σ c y->∀{Rt:Type} (K:AVal->Heap->Option Rt),callV S.z125.T f [y] σ K=K (.bool (p c)) σ) :
  W (S.z122 x f σ) fun r=>r=(cs.any p,σ):=by
 unfold S.z122;refine W.bind ?_;refine W.mono (ybc_ hx hb hf) fun r hr=>?_;obtain⟨r,τ⟩:=r;obtain⟨rfl,⟨h1,h2⟩|⟨h1,h2⟩⟩:=hr
 ·dsimp only at h1;subst h1;rw[h2];exact W.ret rfl
 ·dsimp only at h1
  rw[h2];refine W.ret ?_;simp[h1]
theorem y7g_{a b:List Bool}(hx:SlV .bool σ a x)(hy:SlV .bool σ b y)(hb:a.length<=1000000):W (S.z114 x y σ) fun r=>r=decide (a=b):=by
 unfold S.z114
 repeat' (with_reducible refine W.len (by assumption) ?_)
 by_cases hl:a.length=b.length
 ·refine W.condF (by simp[hl]) ?_
  refine W.bind ?_;refine W.mono (P:=fun r=>(r=.inl ()/\a=b)\/(r=.inr false/\a≠b)) ?_ fun r hr=>?_
  ·refine W.loopP a.length (fun i z=>z=(i:Int)/\a.take i=b.take i) ⟨rfl,rfl⟩ fun i z hi hI=>?_
   obtain⟨rfl,hI⟩:=hI;have wr:IntKind.i64.wrap ((i:Int)+1)=((i+1:Nat):Int):=by rw[wrapS]<;>omega
   unfold S.z114.b0
   repeat' (with_reducible refine W.len (by assumption) ?_)
   (with_reducible refine W.cnd (fun hlt=>?_) (fun hlt=>?_)<;>(try simp only[qq,Kd.ty]at hlt)<;>(try (exfalso;omega)))
   ·obtain⟨p,hp⟩:=y3_ (xs:=a) (i:=i) (by omega)
    obtain⟨q,hq⟩:=y3_ (xs:=b) (i:=i) (by omega)
    repeat' (with_reducible refine W.ixBc (by assumption) (by assumption) ?_)
    by_cases hpq:p=q
    ·subst hpq
     refine W.condF (by simp) ?_
     repeat' (with_reducible refine W.nextP ?_)
     exact⟨by omega,wr,by rw[List.take_add_one,List.take_add_one,hI,hp,hq]⟩
    ·refine W.condT (by simpa using hpq) ?_
     repeat' (with_reducible refine W.stopP ?_)
     refine .inr ⟨rfl,fun e=>?_⟩;subst e;rw[hp]at hq;cases hq;exact hpq rfl
   ·repeat' (with_reducible refine W.stopP ?_)
    have:i=a.length:=by omega
    subst this;rw[List.take_length,hl,List.take_length]at hI;exact .inl ⟨rfl,hI⟩
  ·rcases hr with ⟨rfl,e⟩|⟨rfl,e⟩
   ·exact W.ret (by simp[e])
   ·exact W.ret (by simp[e])
 ·refine W.condT (by simp;omega) ?_
  refine W.ret ?_;have:a≠b:=fun e=>hl (by rw[e]);simp[this]
theorem yho_{a b:List Bool}(hx:SlV .bool σ a x)(hy:SlV .bool σ b y)(hb:a.length<=1000000):W (S.z124 x y σ) fun r=>r=decide (a=b):=by
 unfold S.z124
 repeat' (with_reducible refine W.len (by assumption) ?_)
 by_cases hl:a.length=b.length
 ·refine W.condF (by simp[hl]) ?_
  repeat' with_reducible first|refine W.bind ?_|refine W.len (by assumption) ?_
  refine W.mono (P:=fun r=>(r=.inl ()/\a=b)\/(r=.inr false/\a≠b)) ?_ fun r hr=>?_
  ·refine W.loopP a.length (fun i z=>z=(i:Int)/\a.take i=b.take i) ⟨rfl,rfl⟩ fun i z hi hI=>?_
   obtain⟨rfl,hI⟩:=hI;have wr:IntKind.i64.wrap ((i:Int)+1)=((i+1:Nat):Int):=by rw[wrapS]<;>omega
   unfold S.z124.b0
   (with_reducible refine W.cnd (fun hlt=>?_) (fun hlt=>?_)<;>(try simp only[qq,Kd.ty]at hlt)<;>(try (exfalso;omega)))
   ·obtain⟨p,hp⟩:=y3_ (xs:=a) (i:=i) (by omega)
    obtain⟨q,hq⟩:=y3_ (xs:=b) (i:=i) (by omega)
    repeat' (with_reducible refine W.ixBc (by assumption) (by assumption) ?_)
    by_cases hpq:p=q
    ·subst hpq
     refine W.condF (by simp) ?_
     repeat' (with_reducible refine W.nextP ?_)
     exact⟨by omega,wr,by rw[List.take_add_one,List.take_add_one,hI,hp,hq]⟩
    ·refine W.condT (by simpa using hpq) ?_
     repeat' (with_reducible refine W.stopP ?_)
     refine .inr ⟨rfl,fun e=>?_⟩;subst e;rw[hp]at hq;cases hq;exact hpq rfl
   ·repeat' (with_reducible refine W.stopP ?_)
    have:i=a.length:=by omega
    subst this;rw[List.take_length,hl,List.take_length]at hI;exact .inl ⟨rfl,hI⟩
  ·rcases hr with ⟨rfl,e⟩|⟨rfl,e⟩
   ·exact W.ret (by simp[e])
   ·exact W.ret (by simp[e])
 ·refine W.condT (by simp;omega) ?_
  refine W.ret ?_;have:a≠b:=fun e=>hl (by rw[e]);simp[this]
theorem ycx_{a b:List (List Bool)}(hx:SlV vBs σ a x)(hy:SlV vBs σ b y)(hb:a.length<=1000000)(hc:∀c∈a,c.length<=1000000):W (S.z115 x y σ) fun r=>r=decide (a=b):=by
 unfold S.z115
 repeat' (with_reducible refine W.len (by assumption) ?_)
 by_cases hl:a.length=b.length
 ·refine W.condF (by simp[hl]) ?_
  refine W.bind ?_;refine W.mono (P:=fun r=>(r=.inl ()/\a=b)\/(r=.inr false/\a≠b)) ?_ fun r hr=>?_
  ·refine W.loopP a.length (fun i z=>z=(i:Int)/\a.take i=b.take i) ⟨rfl,rfl⟩ fun i z hi hI=>?_
   obtain⟨rfl,hI⟩:=hI;have wr:IntKind.i64.wrap ((i:Int)+1)=((i+1:Nat):Int):=by rw[wrapS]<;>omega
   unfold S.z115.b0
   repeat' (with_reducible refine W.len (by assumption) ?_)
   (with_reducible refine W.cnd (fun hlt=>?_) (fun hlt=>?_)<;>(try simp only[qq,Kd.ty]at hlt)<;>(try (exfalso;omega)))
   ·obtain⟨p,hp⟩:=y3_ (xs:=a) (i:=i) (by omega)
    obtain⟨q,hq⟩:=y3_ (xs:=b) (i:=i) (by omega);refine W.ixkLS hx (Hle.refl _) hp fun yp hyp=>?_;refine W.ixkLS hy (Hle.refl _) hq fun yq hyq=>?_;refine W.bind ?_;refine W.mono (y7g_ hyp hyq (hc p (List.mem_of_getElem? hp))) fun r hr=>?_;subst hr;by_cases hpq:p=q
    ·subst hpq
     refine W.condF (by simp) ?_
     repeat' (with_reducible refine W.nextP ?_)
     exact⟨by omega,wr,by rw[List.take_add_one,List.take_add_one,hI,hp,hq]⟩
    ·refine W.condT (by simpa using hpq) ?_
     repeat' (with_reducible refine W.stopP ?_)
     refine .inr ⟨rfl,fun e=>?_⟩;subst e;rw[hp]at hq;cases hq;exact hpq rfl
   ·repeat' (with_reducible refine W.stopP ?_)
    have:i=a.length:=by omega
    subst this;rw[List.take_length,hl,List.take_length]at hI;exact .inl ⟨rfl,hI⟩
  ·rcases hr with ⟨rfl,e⟩|⟨rfl,e⟩
   ·exact W.ret (by simp[e])
   ·exact W.ret (by simp[e])
 ·refine W.condT (by simp;omega) ?_
  refine W.ret ?_;have:a≠b:=fun e=>hl (by rw[e]);simp[this]
end
end
section
open Go
def yv_(n:Int)(many:Nat):List Bool:=(List.range many).map fun i=>bitZ n (i % 60)
def dedup(v:List (List Bool)):List (List Bool):=v.foldl (fun out x=>if(out.any fun y=>decide (x=y))=true then out else out++[x]) []
theorem y4p_{v:List (List Bool)}{x:List Bool}:dedup (v++[x])=if((dedup v).any fun y=>decide (x=y))=true then dedup v else dedup v++[x]:=by unfold dedup;rw[List.foldl_append];rfl
theorem y6v_:∀(n:Nat) (v:List (List Bool)),v.length=n->(dedup v).length<=n:=by
 intro n
 induction n with
 |zero=>intro v h;rw[List.eq_nil_of_length_eq_zero h];simp[dedup]
 |succ n ih=>
  intro v h;have hne:v≠[]:=fun e=>by rw[e]at h;cases h
  obtain⟨v',x,rfl⟩:∃v' x,v=v'++[x]:=⟨v.dropLast,v.getLast hne,(List.dropLast_concat_getLast hne).symm⟩;have h':v'.length=n:=by simpa using h
  have:=ih v' h';rw[y4p_]
  split
  ·omega
  ·simp;omega
def onI:Nat->Bool:=fun j=>j==29||j==41
section
variable{σ τ:Heap}{T T':Tg}{u t n l8:Nat}{x y f xv:AVal}{c a:List Bool}{cs ms:List (List Bool)}{I:Nat->Bool}{l:List Int}
theorem ygm_{z:Int}{many:Nat}(hn:Tn σ T)(hm:many<=100000):W (S.z113 z (many:Int) σ) fun r=>∃T',Hop (only 29) σ T r.2 T'/\SlV .bool (r.2.at T' 0) (yv_ z many) r.1:=by
 unfold S.z113;refine W.bind ?_;refine W.mono (P:=fun r=>∃T',Hop (only 29) σ T r.2 T'/\Own .bool (r.2.at T' 29) (yv_ z many) r.1) ?_ fun r hr=>?_
 ·refine W.loop many (fun i (u:AVal×Int) τ=>u.2=(i:Int)/\∃T',Hop (only 29) σ T τ T'/\Own .bool (τ.at T' 29) (yv_ z i) u.1) ⟨rfl,T,Hop.refl hn,Own.nil⟩ fun i u τ1 hi hI=>?_
  obtain⟨u1,u2⟩:=u;obtain⟨rfl,T1,HH,kO⟩:=hI;dsimp only at kO;have wr:IntKind.i64.wrap ((i:Int)+1)=((i+1:Nat):Int):=by rw[wrapS]<;>omega
  unfold S.z113.b0
  (with_reducible refine W.cnd (fun hlt=>?_) (fun hlt=>?_)<;>(try simp only[qq,Kd.ty]at hlt)<;>(try (exfalso;omega)))
  ·have e1:Int.tmod (i:Int) 60=((i % 60:Nat):Int):=by rw[Int.tmod_eq_emod_of_nonneg (by omega)];omega
   have e2:IntKind.u64.wrap ((i % 60:Nat):Int)=((i % 60:Nat):Int):=u64w (by omega);rw[e1,e2,Int.toNat_natCast];have e3:min (i % 60) IntKind.i64.bits=i % 60:=by
    have:IntKind.i64.bits=64:=rfl;omega
   rw[e3,bit1];rw[if_neg (by omega)];have hvl:(yv_ z i).length=i:=by simp[yv_]
   refine W.own_push (bytes:=1) Vw.bool_flat kO HH.tn (a:=bitZ z (i % 60)) rfl (by omega) (by omega) fun x2 τ2 T2 kO H2=>?_
   repeat' (with_reducible refine W.next ?_)
   refine⟨by omega,wr,T2,HH.trans H2,?_⟩;have:yv_ z (i+1)=yv_ z i++[bitZ z (i % 60)]:=by unfold yv_;rw[List.range_succ,List.map_append];rfl
   rw[this];exact kO
  ·repeat' (with_reducible refine W.stop ?_)
   have:i=many:=by omega
   subst this;exact⟨T1,HH,kO⟩
 ·obtain⟨r,τ1⟩:=r
  obtain⟨T1,HH,kO⟩:=hr;obtain⟨T2,H2,hf⟩:=kO.freeze Vw.bool_flat HH.tn;exact W.ret ⟨T2,HH.trans H2,hf⟩
def mvI:Nat->Bool:=fun j=>j==29||j==40
theorem yi7_{many:Nat}(hl:SlV .int (σ.at T 0) l x)(hn:Tn σ T)(hm:many<=100000)(hb:l.length<=100000):W (S.z112 x (many:Int) σ) fun r=>∃T',Hop mvI σ T r.2 T'/\SlV vBs (r.2.at T' 0) (l.map fun z=>yv_ z many) r.1:=by
 unfold S.z112;refine W.bind ?_;refine W.mono (P:=fun r=>∃T',Hop mvI σ T r.2 T'/\OB r.2 T' 40 (l.map fun z=>yv_ z many) r.1) ?_ fun r hr=>?_
 ·refine W.loop l.length (fun i (u:AVal×Int) τ=>u.2=(i:Int)/\∃T',Hop mvI σ T τ T'/\SlV .int (τ.at T' 0) l x/\OB τ T' 40 ((l.take i).map fun z=>yv_ z many) u.1) ⟨rfl,T,Hop.refl hn,hl,OB.nil⟩ fun i u τ1 hi hI=>?_
  obtain⟨u1,u2⟩:=u;obtain⟨rfl,T1,HH,hl,hO⟩:=hI;dsimp only at hO;have hlu:=hl.up;have wr:IntKind.i64.wrap ((i:Int)+1)=((i+1:Nat):Int):=by rw[wrapS]<;>omega
  unfold S.z112.b0
  repeat' (with_reducible refine W.len (by assumption) ?_)
  (with_reducible refine W.cnd (fun hlt=>?_) (fun hlt=>?_)<;>(try simp only[qq,Kd.ty]at hlt)<;>(try (exfalso;omega)))
  ·obtain⟨z,hz⟩:=y3_ (xs:=l) (i:=i) (by omega)
   have htk:l.take (i+1)=l.take i++[z]:=by rw[List.take_add_one,hz];rfl
   repeat' with_reducible first|refine W.bind ?_|refine W.e2 ?_
   refine W.mono (ygm_ HH.tn hm) fun r hr=>?_;obtain⟨yv,τ2⟩:=r;obtain⟨T2,H2,hv⟩:=hr;dsimp only at H2 hv⊢;refine W.scalS hv.up ?_;refine W.ob_push (hO.hop H2) H2.tn hv (by decide) (by rw[List.length_map,List.length_take];omega) fun x' τ3 T3 hO H3=>?_
   repeat' (with_reducible refine W.next ?_)
   refine⟨by omega,wr,T3,(HH.trans (H2.sub fun i hi=>by simp[mvI]at hi⊢;exact .inl hi)).trans (H3.sub fun i hi=>by simp[mvI]at hi⊢;exact .inr hi),(hl.hop H2).hop H3,?_⟩;rw[htk,List.map_append];exact hO
  ·repeat' (with_reducible refine W.stop ?_)
   have:i=l.length:=by omega
   subst this;rw[List.take_length]at hO;exact⟨T1,HH,hO⟩
 ·obtain⟨r,τ1⟩:=r
  obtain⟨T1,HH,hO⟩:=hr;obtain⟨T2,H2,hf⟩:=hO.freeze HH.tn (by decide);exact W.ret ⟨T2,HH.trans (H2.sub fun i hi=>by simp[mvI]at hi⊢;exact .inr hi),hf⟩
theorem yfc_(hx:SlV vBs (σ.at T 0) ms x)(hn:Tn σ T)(hb:ms.length<=100000)(hc:∀c∈ms,c.length<=1000000):W (S.z131 x σ) fun r=>∃T',Hop onI σ T r.2 T'/\OB r.2 T' 41 (dedup ms) r.1:=by
 have hxu:=hx.up;unfold S.z131
 repeat' with_reducible first|refine W.bind ?_|refine W.len (by assumption) ?_
 refine W.mono (P:=fun r=>∃T',Hop onI σ T r.2 T'/\OB r.2 T' 41 (dedup ms) r.1) ?_ fun r hr=>W.ret hr;refine W.loop ms.length (fun i (u:AVal×Int) τ=>u.2=(i:Int)/\∃T',Hop onI σ T τ T'/\SlV vBs (τ.at T' 0) ms x/\OB τ T' 41 (dedup (ms.take i)) u.1) ⟨rfl,T,Hop.refl hn,hx,OB.nil⟩ fun i u τ1 hi hI=>?_;obtain⟨u1,u2⟩:=u;obtain⟨rfl,T1,HH,hx,hO⟩:=hI;dsimp only at hO;have hn:=HH.tn;have wr:IntKind.i64.wrap ((i:Int)+1)=((i+1:Nat):Int):=by rw[wrapS]<;>omega
 have hdl:=y6v_ i (ms.take i) (by rw[List.length_take];omega);unfold S.z131.b0
 (with_reducible refine W.cnd (fun hlt=>?_) (fun hlt=>?_)<;>(try simp only[qq,Kd.ty]at hlt)<;>(try (exfalso;omega)))
 ·obtain⟨a,ha⟩:=y3_ (xs:=ms) (i:=i) (by omega)
  have htk:ms.take (i+1)=ms.take i++[a]:=by rw[List.take_add_one,ha];rfl
  have hal:=hc a (List.mem_of_getElem? ha);refine W.bind ?_;refine W.mono (P:=fun r=>∃T',Hop onI τ1 T1 r.2 T'/\OB r.2 T' 41 (dedup (ms.take (i+1))) r.1) ?_ fun r hr=>?_
  ·refine W.ixkLS hx at_le ha fun v hv=>?_
   refine W.newT 29 hn fun l8 τ2 T2 hl8 H2 k29 hnτ2=>?_;replace hv:=hv.hop H2;replace hO:=hO.hop H2;replace hn:=H2.tn;refine W.scalS hv.up ?_;refine W.stT k29 hn (Nat.le_of_ble_eq_true (by rfl)) fun τ3 H3 k29 hnτ3=>?_;replace hv:=hv.hop H3;replace hO:=hO.hop H3;replace hn:=H3.tn;have k29u:=k29.up;refine W.bind ?_;refine W.mono (y4n_ (p:=fun c=>decide (a=c)) hO.sl (by omega) fun c _ y hy Rt K=>?_) fun r hr=>?_
   ·have e:callV S.z125.T (.fn (.func 31) [] [.ptr l8 0]) [y] τ3 K=(S.z132 y (.ptr l8 0) τ3).bind fun x=>K (retV [.B] x) τ3:=rfl
    rw[e];have e1:S.z132 y (.ptr l8 0) τ3=some (decide (a=c)):=by
     obtain⟨r,er,rfl⟩:W (S.z132 y (.ptr l8 0) τ3) fun r=>r=decide (a=c):=by
      unfold S.z132
      repeat' with_reducible first|refine W.bind ?_|refine W.asV ?_|refine W.e0 ?_
      unfold S.z135
      repeat' (with_reducible refine W.bind ?_)
      refine W.mono (yho_ hv.up hy hal) fun r hr=>?_;subst hr
      repeat' with_reducible refine W.ret ?_
      rfl
     exact er
    rw[e1];rfl
   subst hr;dsimp only;rw[htk,y4p_];cases hany:(dedup (ms.take i)).any fun c=>decide (a=c) with
   |true=>
    refine W.condF rfl ?_;rw[if_pos rfl];exact W.ret ⟨T2,(H2.sub fun i hi=>by simp[onI]at hi⊢;exact .inl hi).trans (H3.sub fun i hi=>by simp[onI]at hi⊢;exact .inl hi),hO⟩
   |false=>
    refine W.condT rfl ?_;rw[if_neg (by simp)]
    repeat' with_reducible first|refine W.bind ?_|refine W.asV ?_|refine W.e0 ?_
    refine W.mono (yhf_ 29 hv.up hn hal) fun r hr=>?_;obtain⟨yc,τ4⟩:=r;obtain⟨T4,H4,hcl⟩:=hr;dsimp only at H4 hcl⊢;obtain⟨T5,H5,hfr⟩:=hcl.freeze Vw.bool_flat H4.tn;refine W.scalS hfr.up ?_;refine W.ob_push ((hO.hop H4).hop H5) H5.tn hfr (by decide) (by omega) fun x' τ6 T6 hO H6=>?_;exact W.ret ⟨T6,(((H2.trans H3).trans (H4.trans H5)).sub fun i hi=>by simp[onI]at hi⊢;exact .inl hi).trans (H6.sub fun i hi=>by simp[onI]at hi⊢;exact .inr hi),hO⟩
  ·obtain⟨r,τ2⟩:=r
   obtain⟨T2,H2,hO⟩:=hr;dsimp only at H2 hO⊢
   repeat' (with_reducible refine W.next ?_)
   exact⟨by omega,wr,T2,HH.trans H2,hx.hop H2,hO⟩
 ·repeat' (with_reducible refine W.stop ?_)
  have:i=ms.length:=by omega
  subst this;rw[List.take_length]at hO;exact⟨T1,HH,hO⟩
theorem ycr_{m:Int}(hl:SlV .int σ l x)(b1:l.length<=4611686018427387904)(hfirst:W (S.z111 σ) fun r=>r.1=true/\∃T',Hop (fun j=>decide (1<=j)) σ Tz r.2 T'):W (S.z110 x m σ) fun r=>r.1=true:=by
 have hl:=hl.tz0;unfold S.z110;refine W.bind ?_;refine W.mono hfirst fun r hr=>?_;obtain⟨r,τ1⟩:=r;obtain⟨er,T1,H1⟩:=hr;dsimp only at er H1⊢;subst er;replace hl:=hl.hop H1;have hn:=H1.tn;have hlu:=hl.up;refine W.condF rfl ?_
 repeat' (with_reducible refine W.len (by assumption) ?_)
 (with_reducible refine W.cnd (fun hbig=>?_) (fun hbig=>?_)<;>(try simp only[qq,Kd.ty]at hbig)<;>(try (exfalso;omega)))
 ·repeat' with_reducible refine W.ret ?_
  rfl
 repeat' (with_reducible refine W.bind ?_)
 refine W.to (yg7_ (by decide) (by decide)) ?_;obtain⟨q,hq⟩:∃q:Nat,m % 5=(q:Int):=⟨(m % 5).toNat,by omega⟩;have hq2:q<5:=by omega
 rw[hq];refine W.ret ?_;refine W.bind ?_;refine W.mono (yi7_ hl hn (by omega) (by omega)) fun r hr=>?_;obtain⟨xv,τ2⟩:=r;obtain⟨T2,H2,hv⟩:=hr;dsimp only at H2 hv⊢;have hn:=H2.tn;have hvl:∀c∈l.map fun z=>yv_ z q,c.length<=1000000:=fun c hc=>by
  obtain⟨z,_,rfl⟩:=List.mem_map.1 hc;simp[yv_];omega
 have hml:(l.map fun z=>yv_ z q).length<=20:=by rw[List.length_map];omega
 generalize (l.map fun z=>yv_ z q)=ms at *;refine W.bind ?_;refine W.mono (yfc_ hv hn (by omega) hvl) fun r hr=>?_;obtain⟨xt,τ3⟩:=r;obtain⟨T3,H3,hO⟩:=hr;dsimp only at H3 hO⊢;replace hv:=hv.hop H3;replace hn:=H3.tn;have hdl:=fun i (hi:i<=ms.length)=>y6v_ i (ms.take i) (by rw[List.length_take];omega);have hdc:∀(k:Nat) (v:List (List Bool)),v.length=k->∀c∈dedup v,c∈v:=by
  intro k
  induction k with
  |zero=>intro v h c hc;rw[List.eq_nil_of_length_eq_zero h]at hc;simp[dedup]at hc
  | succ k ih=>
   intro v h c hc;have hne:v≠[]:=fun e=>by rw[e]at h;cases h
   obtain⟨v',x,rfl⟩:∃v' x,v=v'++[x]:=⟨v.dropLast,v.getLast hne,(List.dropLast_concat_getLast hne).symm⟩;rw[y4p_]at hc
   split at hc
   ·exact List.mem_append_left _ (ih v' (by simpa using h) c hc)
   ·rcases List.mem_append.1 hc with q|q
    ·exact List.mem_append_left _ (ih v' (by simpa using h) c q)
    ·exact List.mem_append_right _ q
 refine W.bind ?_;refine W.mono (P:=fun r=>∃T',Hop (only 42) τ3 T3 r.2 T'/\OB r.2 T' 42 (dedup ms) r.1) ?_ fun r hr=>?_
 ·refine W.loop ms.length (fun i (u:AVal×Int) τ=>u.2=(i:Int)/\∃T',Hop (only 42) τ3 T3 τ T'/\SlV vBs (τ.at T' 0) ms xv/\OB τ T' 42 (dedup (ms.take i)) u.1) ⟨rfl,T3,Hop.refl hn,hv,OB.nil⟩ fun i u τ4 hi hI=>?_
  obtain⟨u1,u2⟩:=u;obtain⟨rfl,T4,HH,hv,hW⟩:=hI;dsimp only at hW;have wr:IntKind.i64.wrap ((i:Int)+1)=((i+1:Nat):Int):=by rw[wrapS]<;>omega
  have hvu:=hv.up;unfold S.z110.b1
  repeat' (with_reducible refine W.len (by assumption) ?_)
  (with_reducible refine W.cnd (fun hlt=>?_) (fun hlt=>?_)<;>(try simp only[qq,Kd.ty]at hlt)<;>(try (exfalso;omega)))
  ·obtain⟨a,ha⟩:=y3_ (xs:=ms) (i:=i) (by omega)
   have htk:ms.take (i+1)=ms.take i++[a]:=by rw[List.take_add_one,ha];rfl
   have hdi:=hdl i (by omega);refine W.bind ?_;refine W.mono (P:=fun r=>∃T',Hop (only 42) τ4 T4 r.2 T'/\OB r.2 T' 42 (dedup (ms.take (i+1))) r.1) ?_ fun r hr=>?_
   ·refine W.bind ?_
    have hWs:=hW.sl;refine W.mono (P:=fun r=>r=(dedup (ms.take i)).any fun c=>decide (a=c)) ?_ fun r hr=>?_
    ·refine W.loopP (dedup (ms.take i)).length (fun j (z:Bool×Int)=>z.2=(j:Int)/\z.1=((dedup (ms.take i)).take j).any fun c=>decide (a=c)) ⟨rfl,rfl⟩ fun j z hj hI=>?_
     obtain⟨z1,z2⟩:=z;obtain⟨rfl,rfl⟩:=hI;have wj:IntKind.i64.wrap ((j:Int)+1)=((j+1:Nat):Int):=by rw[wrapS]<;>omega
     unfold S.z110.b0
     repeat' (with_reducible refine W.len (by assumption) ?_)
     (with_reducible refine W.cnd (fun hlt2=>?_) (fun hlt2=>?_)<;>(try simp only[qq,Kd.ty]at hlt2)<;>(try (exfalso;omega)))
     ·obtain⟨c,hc⟩:=y3_ (xs:=dedup (ms.take i)) (i:=j) (by omega)
      have htj:(dedup (ms.take i)).take (j+1)=(dedup (ms.take i)).take j++[c]:=by rw[List.take_add_one,hc];rfl
      have hcm:c∈ms:=List.mem_of_mem_take (hdc _ _ rfl c (List.mem_of_getElem? hc));refine W.bind ?_;refine W.mono (P:=fun r=>r=((dedup (ms.take i)).take (j+1)).any fun c=>decide (a=c)) ?_ fun r hr=>?_
      ·rw[htj,List.any_append]
       cases hs:((dedup (ms.take i)).take j).any fun c=>decide (a=c) with
       |true=>exact W.condT rfl (W.ret rfl)
       |false=>
        refine W.condF rfl ?_;refine W.ixkLS hWs (Hle.refl _) hc fun yc hyc=>?_;refine W.ixkLS hvu (Hle.refl _) ha fun ya hya=>?_;refine W.bind ?_;refine W.mono (y7g_ hyc hya (hvl c hcm)) fun r hr=>?_;subst hr;refine W.ret ?_;simp[eq_comm]
      subst hr
      repeat' (with_reducible refine W.nextP ?_)
      exact⟨by omega,wj,rfl⟩
     ·repeat' (with_reducible refine W.stopP ?_)
      have:j=(dedup (ms.take i)).length:=by omega
      subst this;rw[List.take_length]
    subst hr;rw[htk,y4p_];cases hany:(dedup (ms.take i)).any fun c=>decide (a=c) with
    |true=>
     refine W.condF rfl ?_;rw[if_pos rfl];exact W.ret ⟨T4,Hop.refl HH.tn,hW⟩
    |false=>
     refine W.condT rfl ?_;rw[if_neg (by simp)];refine W.ixkLS hv at_le ha fun ya hya=>?_;refine W.scalS hya.up ?_;refine W.ob_push hW HH.tn hya (by decide) (by omega) fun x' τ5 T5 hW H5=>?_;exact W.ret ⟨T5,H5,hW⟩
   ·obtain⟨r,τ5⟩:=r
    obtain⟨T5,H5,hW⟩:=hr;dsimp only at H5 hW⊢
    repeat' (with_reducible refine W.next ?_)
    exact⟨by omega,wr,T5,HH.trans H5,hv.hop H5,hW⟩
  ·repeat' (with_reducible refine W.stop ?_)
   have:i=ms.length:=by omega
   subst this;rw[List.take_length]at hW;exact⟨T4,HH,hW⟩
 obtain⟨r,τ4⟩:=r;obtain⟨T4,H4,hW⟩:=hr;dsimp only at H4 hW⊢;replace hO:=hO.hop H4;have hdl2:=y6v_ _ ms rfl;refine W.bind ?_;refine W.mono (P:=fun r=>r=true) ?_ fun r hr=>W.ret hr;refine W.condT rfl ?_;refine W.bind ?_;refine W.mono (ycx_ hO.sl hW.sl (by omega) fun c hc=>hvl c (hdc _ _ rfl c hc)) fun r hr=>?_;subst hr;exact W.ret (by simp)
end
end
section
open Go
def bysF(Ou:Nat)(mv:List Bool)(k:Nat):Int:=if k<Ou then 2*((k+1:Nat):Int)else if mv.getD (k-Ou) false=true then 1 else 0
def mixI(Ou:Nat)(inp:Nat->Bool)(mv:List Bool)(i:Nat):Bool:=if i<Ou then inp i else mv.getD (i-Ou) false
theorem yf3_{N:Nat}{f g:Nat->Bool}(h:∀i,i<N->f i=g i):inpV N f=inpV N g:=by
 unfold inpV
 congr 1
 exact List.map_congr_left fun i hi=>h i (List.mem_range.1 hi)
theorem yce_{N:Nat}{f g:Nat->Bool}{gs:List (Int×Int)}(h:∀i,i<N->f i=g i):nodes N f gs=nodes N g gs:=by unfold nodes;rw[yf3_ h]
def y2m_(Ou N:Int)(gs:List (Int×Int))(os:List Int):Option Er:=match yt_ N gs os with
 |some e=>some e
 |none=>if os.length≠1\/Ou<0\/Ou>N then some .range else none
def mI:Nat->Bool:=fun j=>cpI j||j==25
section
variable{σ τ:Heap}{T T':Tg}{u t n lg lm M N Ou:Nat}{x y f xa xo xmv:AVal}{ms:List (List Bool)}{I:Nat->Bool}{gs g0:List (Int×Int)}{os:List Int}{o:Int}{ex:Bool}{mv:List Bool}
theorem Hop.m25(H:Hop (only 25) σ T τ T'):Hop mI σ T τ T':=H.sub fun i hi=>by simp[mI]at hi⊢;simp[hi]
theorem Hop.mc(H:Hop cpI σ T τ T'):Hop mI σ T τ T':=H.sub fun i hi=>by simp[mI,hi]
theorem yje_{m:AVal}{a b c d:AVal}(hn:Tn σ T)(h0:0<=o)(h1:o<1000000):W (S.z9 (.agg [.bool ex,a,b,c,d]) o σ) fun r=>r.1=(if ex=true then o else notL o)/\Hle σ r.2:=by
 unfold S.z9
 repeat' (with_reducible refine W.e3 ?_)
 refine W.new0 hn fun l2 τ1 _ L1 k2 hn1=>?_;have k2u:=k2.up
 repeat' with_reducible first|refine W.asB ?_|refine W.e0 ?_
 cases ex with
 |true=>
  refine W.condT rfl ?_;exact W.ret ⟨rfl,L1⟩
 |false=>
  refine W.condF rfl ?_;refine W.bind ?_;refine W.to (y1m_ h0 (by omega)) ?_;refine W.ret ?_;exact W.ret ⟨rfl,L1⟩
theorem yc9_{Ou N:Int}(hg:GlS [.range,.limit] (σ.at T 0))(hn:Tn σ T)(hc:SlV vLn (σ.at T 0) gs xa)(ho:SlV .int (σ.at T 0) os xo)(b1:gs.length<=4611686018427387904)(b2:os.length<=4611686018427387904) :
  W (S.z7 (.agg [.bool ex,.int .i64 Ou,.int .i64 N,xa,xo]) σ) fun r=>Hle σ r.2/\IsF (r.2.at T 0) r.1 ((y2m_ Ou N gs os).map fun e=>(e,none)):=by
 unfold S.z7
 repeat' (with_reducible refine W.e3 ?_)
 refine W.new0 hn fun l2 τ1 _ L1 k2 hn1=>?_;replace hc:=hc.hle L1;replace ho:=ho.hle L1;replace hn:=hn.mono L1;replace hg:=hg.mono (L1.ats T 0);have k2u:=k2.up
 repeat' with_reducible first|refine W.bind ?_|refine W.e1 ?_
 refine W.mono (y4h_ hg hn1 hc ho b1 b2) fun r hr=>?_;obtain⟨v,τ2⟩:=r;obtain⟨L2,hF⟩:=hr;dsimp only at L2 hF⊢;replace hg:=hg.mono (L2.ats T 0);replace ho:=ho.hle L2;replace k2:=k2.hle L2;replace hn:=hn.mono L2;refine W.fnil (hF.mono at_le) ?_;unfold y2m_;cases hck:yt_ N gs os with
 |some e=>
  rw[hck]at hF;refine W.condT rfl ?_;exact W.ret ⟨L1.trans L2,hF⟩
 | none=>
  refine W.condF rfl ?_;have k2u:=k2.up;have hou:=ho.up;refine W.bind ?_;refine W.mono (P:=fun r=>r=decide (os.length≠1\/Ou<0\/Ou>N)) ?_ fun r hr=>?_
  ·repeat' with_reducible first|refine W.asV ?_|refine W.len (by assumption) ?_|refine W.e0 ?_
   by_cases h1:os.length=1
   ·refine W.condF (by simp[h1]) ?_
    repeat' with_reducible first|refine W.asI ?_|refine W.e0 ?_
    (with_reducible refine W.cnd (fun h2=>?_) (fun h2=>?_)<;>(try simp only[qq,Kd.ty]at h2)<;>(try (exfalso;omega)))
    ·repeat' with_reducible refine W.ret ?_
     simp;omega
    repeat' with_reducible first|refine W.ret ?_|refine W.asI ?_|refine W.e0 ?_
    have h3:¬Ou<0:=by omega
    simp[h1,h3]
   ·refine W.condT (by simp;omega) ?_
    repeat' with_reducible refine W.ret ?_
    simp[h1]
  subst hr;dsimp only;by_cases hb:os.length≠1\/Ou<0\/Ou>N
  ·rw[if_pos hb]
   refine W.condT (by simpa using hb) ?_;refine W.globT hg .range fun v hv=>?_;exact W.ret ⟨L1.trans L2,hv⟩
  ·rw[if_neg hb]
   refine W.condF (by simpa using hb) ?_;exact W.ret ⟨L1.trans L2,rfl⟩
theorem yco_{N Ou:Int}{a xa xo:AVal}(hn:Tn σ T)(hm:SlV vBs (σ.at T 0) ms x)(hb:ms.length<=1000000)(h0:0<=Ou/\Ou<=8000)(h1:0<=N/\N<=8000) :
  W (S.z49 (.agg [a,.int .i64 Ou,.int .i64 N,xa,xo]) x σ) fun r=>∃T',Hop (only 28) σ T r.2 T'/\r.1=ms.all fun c=>decide ((c.length:Int)=N-Ou):=by
 have w1:IntKind.i64.wrap (N-Ou)=N-Ou:=by rw[wrapS]<;>omega
 have hn0:=hn;unfold S.z49
 repeat' (with_reducible refine W.e3 ?_)
 refine W.new0 hn fun l2 τ1 _ L1 k2 hn1=>?_;replace hm:=hm.hle L1;have k2u:=k2.up
 repeat' with_reducible first|refine W.asI ?_|refine W.e0 ?_
 rw[w1];have hn:=hn1;refine W.newT 28 hn fun l6 τ2 T2 hl6 H2 k6 hnτ2=>?_;replace hm:=hm.hop H2;replace hn:=H2.tn;refine W.stT k6 hn (Nat.le_of_ble_eq_true (by rfl)) fun τ3 H3 k6 hnτ3=>?_;replace hm:=hm.hop H3;replace hn:=H3.tn;have k6u:=k6.up;refine W.bind ?_;refine W.mono (y4n_ (p:=fun c => !decide ((c.length:Int)=N-Ou)) hm.up (by omega) fun c _ y hy Rt K=>?_) fun r hr=>?_
 ·have e:callV S.z125.T (.fn (.func 99) [] [.ptr l6 0]) [y] τ3 K=(S.z50 y (.ptr l6 0) τ3).bind fun x=>K (retV [.B] x) τ3:=rfl
  rw[e];have e1:S.z50 y (.ptr l6 0) τ3=some (!decide ((c.length:Int)=N-Ou)):=by
   obtain⟨r,er,rfl⟩:W (S.z50 y (.ptr l6 0) τ3) fun r=>r = !decide ((c.length:Int)=N-Ou):=by
    unfold S.z50
    repeat' with_reducible first|refine W.ret ?_|refine W.asI ?_|refine W.len (by assumption) ?_|refine W.e0 ?_
    by_cases e:(c.length:Int)=N-Ou
    ·simp[e]
    ·simp[e]
   exact er
  rw[e1];rfl
 subst hr;refine W.ret ⟨T2,((Hop.of hn0 L1).trans H2).trans H3,?_⟩;dsimp only;rw[List.all_eq_not_any_not]
theorem yjh_{a:AVal}(hg:GlS [.range,.limit] (σ.at T 0))(h:GrH σ T lg Ou g0 none lm)(hn:Tn σ T)(hW0:WFg Ou g0)(hc:SlV vLn (σ.at T 0) gs xa)(ho:SlV .int (σ.at T 0) [o] xo)(hok:yt_ (N:Int) gs [o]=none)(hOu:Ou<=N)(hmv:SlV .bool (σ.at T 0) mv xmv)(hmb:mv.length<=100000)(hM:Ou+g0.length+gs.length<=7999) :
  W (S.z8 (.ptr lg 0) (.agg [a,.int .i64 Ou,.int .i64 N,xa,xo]) xmv σ) fun r=>∃T' g,Hop mI σ T r.2 T'/\GrH r.2 T' lg Ou g none lm/\WFg Ou g/\(∃ext,g=g0++ext)/\g.length<=g0.length+gs.length/\okN r.1 (Ou+g.length)=true/\∀inp,vL (nodes Ou inp g) r.1=vL (nodes N (mixI Ou inp mv) gs) o:=by
 have hn0:=hn;obtain⟨c1,c2,c3⟩:=yw_.1 hok;have hoo:okN o (N+gs.length)=true:=by simpa using c3
 unfold S.z8
 repeat' (with_reducible refine W.e3 ?_)
 refine W.new0 hn fun l2 τ1 _ L1 k2 hn1=>?_;replace h:=h.hle L1;replace hc:=hc.hle L1;replace ho:=ho.hle L1;replace hmv:=hmv.hle L1;replace hn:=hn.mono L1;replace hg:=hg.mono (L1.ats T 0);have k2u:=k2.up
 repeat' with_reducible first|refine W.asI ?_|refine W.e0 ?_
 refine W.mkT (v:=Vw.int) 25 hn1 0 rfl (fun _=>rfl) (n:=N) (by omega) (by omega) rfl fun y τ2 T2 H2 k25 _=>?_;replace h:=h.hop H2;replace hc:=hc.hop H2;replace ho:=ho.hop H2;replace hmv:=hmv.hop H2;replace k2:=k2.hop H2;replace hn:=H2.tn;replace hg:=hg.mono (H2.le (by rfl));have HH:Hop (only 25) σ T τ2 T2:=(Hop.of hn0 L1).trans H2;have k25u:=k25.slT
 repeat' with_reducible first|refine W.bind ?_|refine W.len (by assumption) ?_
 refine W.mono (P:=fun r=>∃bys,Hop (only 25) τ2 T2 r.2 T2/\Own .int (r.2.at T2 25) bys y/\bys.length=N/\∀j,j<N->bys.getD j 0=bysF Ou mv j) ?_ fun r hr=>?_
 ·refine W.loop N (fun i (z:Int) τ=>z=(i:Int)/\∃bys,Hop (only 25) τ2 T2 τ T2/\GrH τ T2 lg Ou g0 none lm/\Loc (τ.at T2 0) l2 [a,.int .i64 Ou,.int .i64 N,xa,xo]/\SlV .bool (τ.at T2 0) mv xmv/\Own .int (τ.at T2 25) bys y/\bys.length=N/\∀j,j<N->bys.getD j 0=if j<i then bysF Ou mv j else 0) ⟨rfl,_,Hop.refl hn,h,k2,hmv,k25,by simp,fun j hj=>by
   rw[if_neg (by omega),List.getD_eq_getElem?_getD,List.getElem?_replicate];split<;>rfl⟩ fun i z τ3 hi hI=>?_
  obtain⟨rfl,bys,H3,h,k2,hmv,k25,hbl,hbv⟩:=hI;have hn:=H3.tn;have k2u:=k2.up;have hmu:=hmv.up;have wr:IntKind.i64.wrap ((i:Int)+1)=((i+1:Nat):Int):=by rw[wrapS]<;>omega
  unfold S.z8.b0;simp only[List.length_replicate]
  (with_reducible refine W.cnd (fun hlt=>?_) (fun hlt=>?_)<;>(try simp only[qq,Kd.ty]at hlt)<;>(try (exfalso;omega)))
  ·refine W.bind ?_
   refine W.mono (P:=fun r=>∃bys,Hop (only 25) τ3 T2 r.2 T2/\Own .int (r.2.at T2 25) bys y/\bys.length=N/\∀j,j<N->bys.getD j 0=if j<i+1 then bysF Ou mv j else 0) ?_ fun r hr=>?_
   ·have fin:∀z:Int,bysF Ou mv i=z->∀j,j<N->(bys.set i z).getD j 0=if j<i+1 then bysF Ou mv j else 0:=fun z hz j hj=>by
     rw[getD_set' (by omega)];by_cases e:j=i
     ·subst e;rw[if_pos rfl,if_pos (by omega)];exact hz.symm
     ·rw[if_neg e,hbv j hj]
      by_cases q:j<i
      ·rw[if_pos q,if_pos (by omega)]
      ·rw[if_neg q,if_neg (by omega)]
    repeat' with_reducible first|refine W.asI ?_|refine W.fldp ?_|refine W.e0 ?_
    by_cases hiO:i<Ou
    ·refine W.condT (by simp;omega) ?_
     refine W.bind ?_;refine W.mono (yc8_ h hiO (by omega)) fun r hr=>?_;subst hr;refine W.ixO k25.slT (i:=i) (by omega) ?_;refine W.own_setI k25 hn (by omega) fun τ4 k25 H4 _=>?_;exact W.ret ⟨_,H4,k25,by rw[List.length_set];exact hbl,fin _ (by unfold bysF;rw[if_pos hiO])⟩
    ·refine W.condF (by simp;omega) ?_
     have wi:IntKind.i64.wrap ((i:Int)-(Ou:Int))=((i-Ou:Nat):Int):=by rw[wrapS]<;>omega
     refine W.bind ?_;refine W.mono (P:=fun r=>r=mv.getD (i-Ou) false) ?_ fun r hr=>?_
     ·repeat' with_reducible first|refine W.asI ?_|refine W.fldp ?_|refine W.len (by assumption) ?_|refine W.e0 ?_
      rw[wi]
      (with_reducible refine W.cnd (fun hml=>?_) (fun hml=>?_)<;>(try simp only[qq,Kd.ty]at hml)<;>(try (exfalso;omega)))
      ·obtain⟨bv,hbv'⟩:=y3_ (xs:=mv) (i:=i-Ou) (by omega)
       repeat' with_reducible first|refine W.asI ?_|refine W.fldp ?_|refine W.e0 ?_
       rw[wi]
       repeat' with_reducible first|refine W.ret ?_|refine W.ixBc (by assumption) (by assumption) ?_
       rw[List.getD_eq_getElem?_getD,hbv'];rfl
      ·repeat' with_reducible refine W.ret ?_
       rw[List.getD_eq_getElem?_getD,List.getElem?_eq_none (by omega)];rfl
     subst hr;cases hbt:mv.getD (i-Ou) false with
     |true=>
      refine W.condT rfl ?_;refine W.ixO k25.slT (i:=i) (by omega) ?_;refine W.own_setI k25 hn (by omega) fun τ4 k25 H4 _=>?_;exact W.ret ⟨_,H4,k25,by rw[List.length_set];exact hbl,fin _ (by unfold bysF;rw[if_neg hiO,if_pos hbt])⟩
     | false=>
      refine W.condF rfl ?_;refine W.ret ⟨bys,Hop.refl hn,k25,hbl,fun j hj=>?_⟩;rw[hbv j hj];by_cases e:j=i
      ·subst e
       rw[if_neg (by omega),if_pos (by omega)];unfold bysF;rw[if_neg hiO,if_neg (by rw[hbt];simp)]
      ·by_cases q:j<i
       ·rw[if_pos q,if_pos (by omega)]
       ·rw[if_neg q,if_neg (by omega)]
   ·obtain⟨r,τ4⟩:=r
    obtain⟨bys',H4,k25,hbl',hbv'⟩:=hr;dsimp only at H4 k25⊢
    repeat' (with_reducible refine W.next ?_)
    exact⟨by omega,wr,bys',H3.trans H4,h.hop H4,k2.hop H4,hmv.hop H4,k25,hbl',hbv'⟩
  ·repeat' (with_reducible refine W.stop ?_)
   exact⟨bys,H3,k25,hbl,fun j hj=>by rw[hbv j hj,if_pos (by omega)]⟩
 ·obtain⟨r,τ3⟩:=r
  obtain⟨bys,H3,k25,hbl,hbv⟩:=hr;dsimp only at H3 k25⊢;replace h:=h.hop H3;replace hc:=hc.hop H3;replace ho:=ho.hop H3;replace k2:=k2.hop H3;replace hn:=H3.tn;replace hg:=hg.mono (H3.le (by rfl));have k2u:=k2.up;have hou:=ho.up;have hbo:∀b∈bys,okN b (Ou+g0.length)=true:=fun b hb=>by
   obtain⟨j,hj⟩:=List.mem_iff_getElem?.1 hb;have hjl:=y2_ hj;have:=hbv j (by omega);rw[List.getD_eq_getElem?_getD,hj]at this;have this:b=bysF Ou mv j:=this;rw[this];unfold bysF;refine ya_.2 ?_
   split
   ·omega
   ·split<;>omega
  have ho0:[o][0]?=some o:=rfl
  repeat' with_reducible first|refine W.asV ?_|refine W.e0 ?_|refine W.e1 ?_
  refine W.ixIc (i:=0) hou ho0 ?_;refine W.bind ?_;refine W.mono (yk2_ hg h hn hW0 hc ho hok hoo (by simp) k25.sl hbl hbo hM) fun r hr=>?_;obtain⟨r,τ4⟩:=r;obtain⟨T4,g,H4,h,hW,hext,hgl,hro,hrv⟩:=hr;dsimp only at H4 h hro hrv⊢;refine W.ret ⟨T4,g,((HH.trans H3).m25).trans H4.mc,h,hW,hext,hgl,hro,fun inp=>?_⟩;dsimp only;rw[hrv];rw[yce_ fun i hi=>?_];rw[hbv i hi];unfold bysF mixI;by_cases hiO:i<Ou
  ·rw[if_pos hiO,if_pos hiO,ybi_ hiO]
  ·rw[if_neg hiO,if_neg hiO]
   cases mv.getD (i-Ou) false with
   |true=>rw[if_pos rfl,yf8_]
   |false=>rw[if_neg (by simp),y42_]
end
end
section
open Go
def litT(l:Int):Int:=if l<2 then 0 else if l % 2=1 then -((l.toNat / 2:Nat):Int) else((l.toNat / 2:Nat):Int)
def yo_(ls:List Int):Option (List Int):=if 1∈ls then none else some ((ls.filter fun l=>decide (l>1)).map litT)
def gateT(n:Int)(x:Int×Int):List (List Int):=[[notL n,x.1],[notL n,x.2],[n,notL x.1,notL x.2]].filterMap yo_
def y30_(N:Nat)(gs:List (Int×Int))(k:Nat):List (List Int):=((List.range k).map fun i=>gateT (2*((N+i+1:Nat):Int)) (gs.getD i (0,0))).flatten
def encT(N:Nat)(gs:List (Int×Int))(fs:List Int):List (List Int):=y30_ N gs gs.length++fs.filterMap fun l=>yo_ [l]
theorem y7e_{N:Nat}{gs:List (Int×Int)}{k:Nat}:y30_ N gs (k+1)=y30_ N gs k++gateT (2*((N+k+1:Nat):Int)) (gs.getD k (0,0)):=by
 unfold y30_;rw[List.range_succ,List.map_append,List.flatten_append];simp
theorem yab_{n:Int}{x:Int×Int}:(gateT n x).length<=3:=by
 have:=List.length_filterMap_le yo_ [[notL n,x.1],[notL n,x.2],[n,notL x.1,notL x.2]];exact this
theorem y3s_{N:Nat}{gs:List (Int×Int)}:∀k,(y30_ N gs k).length<=3*k
 |0=>by simp[y30_]
 |k+1=>by
  have h1:=y3s_ (N:=N) (gs:=gs) k;have h2:=yab_ (n:=2*((N+k+1:Nat):Int)) (x:=gs.getD k (0,0));rw[y7e_,List.length_append];omega
def vT:Nat->Bool:=fun j=>j==28||j==29
def uT:Nat->Bool:=fun j=>decide (25<=j)&&decide (j<=29)
section
variable{σ τ:Heap}{T T':Tg}{u t n lg lm M N Ou:Nat}{x y f xa xo xf:AVal}{I:Nat->Bool}{gs g0:List (Int×Int)}{os fs ls c:List Int}{o a b l:Int}{cs:List (List Int)}
theorem Hop.ot{u:Nat}(H:Hop (only u) σ T τ T')(hu:uT u=true:=by rfl):Hop uT σ T τ T':=H.sub fun i hi=>by
 have:i=u:=by simpa using hi
 rw[this];exact hu
theorem Hop.ovt{u:Nat}(H:Hop (only u) σ T τ T')(hu:vT u=true:=by rfl):Hop vT σ T τ T':=H.sub fun i hi=>by
 have:i=u:=by simpa using hi
 rw[this];exact hu
theorem yjt_(h0:0<=l)(h1:l<1000000):W (S.z138 l σ) fun r=>r=litT l:=by
 unfold S.z138;rw[ydr_,y6i_ h0 (by omega)];unfold litT;by_cases h2:l<2
 ·rw[if_pos h2]
  exact W.condT (by simpa using h2) (W.ret rfl)
 rw[if_neg h2];refine W.condF (by simpa using h2) ?_;by_cases h3:l % 2=1
 ·rw[if_pos h3]
  refine W.condT (by simp[h3]) (W.ret ?_);rw[wrapS]<;>omega
 ·rw[if_neg h3]
  exact W.condF (by simp;omega) (W.ret rfl)
theorem yay_(h:SlV .int (σ.at T 0) ls x)(hn:Tn σ T)(hb:ls.length<=100000)(hl:∀l∈ls,0<=l/\l<1000000) :
  W (S.z139 x σ) fun r=>∃T',Hop (only 28) σ T r.2 T'/\((∃c,yo_ ls=some c/\r.1.2=true/\SlV .int (r.2.at T' 0) c r.1.1)\/(yo_ ls=none/\r.1=(.nils,false))):=by
 have hu:=h.up;unfold S.z139
 repeat' (with_reducible refine W.len (by assumption) ?_)
 refine W.mk0T (v:=.int) 28 hn rfl (by omega) (by omega) fun z τ1 T1 H1 k1=>?_;replace h:=h.hop H1;have hu:=h.up
 repeat' with_reducible first|refine W.bind ?_|refine W.len (by assumption) ?_
 refine W.mono (P:=fun r=>∃T',Hop (only 28) σ T r.2 T'/\((1∉ls/\∃z',r.1=.inl z'/\Own .int (r.2.at T' 28) ((ls.filter fun l=>decide (l>1)).map litT) z')\/(1∈ls/\r.1=.inr (.nils,false)))) ?_ fun r hr=>?_
 ·refine W.loop ls.length (fun i (u:AVal×Int) τ=>u.2=(i:Int)/\∃T',Hop (only 28) σ T τ T'/\SlV .int (τ.at T' 0) ls x/\Own .int (τ.at T' 28) (((ls.take i).filter fun l=>decide (l>1)).map litT) u.1/\1∉ls.take i) ⟨rfl,T1,H1,h,k1,by simp⟩ fun i u τ2 hi hI=>?_
  obtain⟨u1,u2⟩:=u;obtain⟨rfl,T2,HH,h,kO,hno⟩:=hI;dsimp only at kO;have wr:IntKind.i64.wrap ((i:Int)+1)=((i+1:Nat):Int):=by rw[wrapS]<;>omega
  have hu:=h.up;have hfl:(((ls.take i).filter fun l=>decide (l>1)).map litT).length<=100000:=by
   rw[List.length_map];have:=List.length_filter_le (fun l=>decide (l>1)) (ls.take i);rw[List.length_take]at this;omega
  unfold S.z139.b0
  (with_reducible refine W.cnd (fun hlt=>?_) (fun hlt=>?_)<;>(try simp only[qq,Kd.ty]at hlt)<;>(try (exfalso;omega)))
  ·obtain⟨a,ha⟩:=y3_ (xs:=ls) (i:=i) (by omega)
   have ham:=hl a (List.mem_of_getElem? ha);have htk:ls.take (i+1)=ls.take i++[a]:=by rw[List.take_add_one,ha];rfl
   refine W.bind ?_;refine W.mono (P:=fun r=>(a=1/\r=(.inr (.nils,false),τ2))\/(a≠1/\∃z' T',r.1=.inl z'/\Hop (only 28) τ2 T2 r.2 T'/\Own .int (r.2.at T' 28) (((ls.take (i+1)).filter fun l=>decide (l>1)).map litT) z')) ?_ fun r hr=>?_
   ·repeat' (with_reducible refine W.e2 ?_)
    by_cases h1:a=1
    ·refine W.condT (by simp[h1]) ?_
     repeat' with_reducible refine W.ret ?_
     exact .inl ⟨h1,rfl⟩
    refine W.condF (by simp[h1]) ?_;by_cases h2:a>1
    ·refine W.condT (by simpa using h2) ?_
     repeat' (with_reducible refine W.bind ?_)
     refine W.mono (yjt_ ham.1 ham.2) fun r hr=>?_;subst hr;refine W.own_push (bytes:=8) Vw.int_flat kO HH.tn (a:=litT a) rfl (by omega) (by omega) fun x2 τ3 T3 kO H3=>?_
     repeat' with_reducible refine W.ret ?_
     refine .inr ⟨h1,x2,T3,rfl,H3,?_⟩;rw[htk,List.filter_append,List.map_append];simpa[h2]using kO
    ·refine W.condF (by simpa using h2) ?_
     repeat' with_reducible refine W.ret ?_
     refine .inr ⟨h1,u1,T2,rfl,Hop.refl HH.tn,?_⟩;rw[htk,List.filter_append,List.map_append];simpa[h2]using kO
   ·rcases hr with ⟨h1,rfl⟩|⟨h1,z',T3,er,H3,kO⟩
    ·dsimp only
     repeat' (with_reducible refine W.stop ?_)
     exact⟨T2,HH,.inr ⟨by rw[<-h1];exact List.mem_of_getElem? ha,rfl⟩⟩
    ·obtain⟨r,τ3⟩:=r
     dsimp only at er H3 kO⊢;subst er;dsimp only
     repeat' (with_reducible refine W.next ?_)
     refine⟨by omega,wr,T3,HH.trans H3,h.hop H3,kO,?_⟩;rw[htk,List.mem_append];rintro(q|q)
     ·exact hno q
     ·exact h1 (List.mem_singleton.1 q).symm
  ·repeat' (with_reducible refine W.stop ?_)
   have:i=ls.length:=by omega
   subst this;rw[List.take_length]at kO hno;exact⟨T2,HH,.inl ⟨hno,u1,rfl,kO⟩⟩
 ·obtain⟨r,τ2⟩:=r
  obtain⟨T2,HH,hcase⟩:=hr;dsimp only at HH hcase⊢;rcases hcase with ⟨hno,z',rfl,kO⟩|⟨hin,rfl⟩
  ·dsimp only
   repeat' with_reducible refine W.ret ?_
   obtain⟨T3,H3,hz⟩:=kO.freeze Vw.int_flat HH.tn;exact⟨T3,HH.trans H3,.inl ⟨_,by unfold yo_;rw[if_neg hno],rfl,hz⟩⟩
  ·dsimp only
   repeat' with_reducible refine W.ret ?_
   exact⟨T2,HH,.inr ⟨by unfold yo_;rw[if_pos hin],rfl⟩⟩
theorem W.new3{R:Type}{Q:R->Prop}(hn:Tn σ T){a b d:List Int}{u v w:AVal}(ha:SlV .int (σ.at T 0) a u)(hb:SlV .int (σ.at T 0) b v)(hd:SlV .int (σ.at T 0) d w){K:Nat->Heap->Option R}
  (c:∀l τ,l=σ.next->Hle σ τ->SlV vIs (τ.at T 0) [a,b,d] (.sl l 0 3 none)->Tn τ T->W (K l τ) Q):W (YtekehmgfedmflaaGreatDoor.A.newK σ 1 [u,v,w] K) Q:=by
 refine W.newg fun l τ hl L _ g1 n1=>?_;refine c l τ hl L (.inr ⟨l,0,none,.rw,_,rfl,by show l<τ.next;omega,at_of (hn.z _ (by omega)) g1,Nat.le_of_ble_eq_true rfl,fun i z hi=>?_⟩) (hn.mono L)
 match i,hi with
 |0,hi=>cases hi;exact⟨_,rfl,ha.hle L⟩
 |1,hi=>cases hi;exact⟨_,rfl,hb.hle L⟩
 |2,hi=>cases hi;exact⟨_,rfl,hd.hle L⟩
 |i+3,hi=>simp at hi
theorem yil_(hn:Tn σ T)(h0:0<=l/\l<100000)(ha:0<=a/\a<100000)(hb:0<=b/\b<100000):W (S.z137 l (.agg [.int .i64 a,.int .i64 b]) σ) fun r=>∃T',Hop vT σ T r.2 T'/\OL r.2 T' 29 (gateT l (a,b)) r.1:=by
 have hn0:=hn;have nb:∀z:Int,0<=z/\z<100000->0<=notL z/\notL z<1000000:=fun z hz=>by unfold notL;split<;>omega
 unfold S.z137
 repeat' (with_reducible refine W.e3 ?_)
 refine W.new0 hn fun l2 τ1 _ L1 k2 hn=>?_;have k2u:=k2.up;refine W.bind ?_;refine W.to (y1m_ h0.1 (by omega)) ?_;refine W.ret ?_;refine W.ixP0 ?_
 repeat' with_reducible first|refine W.asI ?_|refine W.e0 ?_
 refine W.newIs hn [notL l,a] rfl fun l7 τ2 _ L2 k7 hn=>?_;refine W.bind ?_;refine W.to (y1m_ h0.1 (by omega)) ?_;refine W.ret ?_;refine W.ixP1 ?_
 repeat' with_reducible first|refine W.asI ?_|refine W.e0 ?_
 refine W.newIs hn [notL l,b] rfl fun l12 τ3 _ L3 k12 hn=>?_;replace k7:=k7.hle L3;refine W.ixP0 ?_
 repeat' with_reducible first|refine W.bind ?_|refine W.asI ?_|refine W.e0 ?_
 refine W.to (y1m_ ha.1 (by omega)) ?_;refine W.ret ?_;refine W.ixP1 ?_
 repeat' with_reducible first|refine W.bind ?_|refine W.asI ?_|refine W.e0 ?_
 refine W.to (y1m_ hb.1 (by omega)) ?_;refine W.ret ?_;refine W.newIs hn [l,notL a,notL b] rfl fun l20 τ4 _ L4 k20 hn=>?_;replace k7:=k7.hle L4;replace k12:=k12.hle L4;refine W.new3 hn k7 k12 k20 fun l22 τ5 _ L5 k22 hn=>?_;have L:=((L1.trans L2).trans L3).trans (L4.trans L5);have hcl:∀c∈[[notL l,a],[notL l,b],[l,notL a,notL b]],c.length<=100000/\∀z∈c,0<=z/\z<1000000:=fun c hc=>by
  have q1':=nb l h0;have q2':=nb a ha;have q3':=nb b hb;simp only[List.mem_cons,List.not_mem_nil,or_false]at hc;rcases hc with rfl|rfl|rfl
  ·exact⟨by simp,fun z hz=>by
    simp only[List.mem_cons,List.not_mem_nil,or_false]at hz;rcases hz with rfl|rfl<;>omega⟩
  ·exact⟨by simp,fun z hz=>by
    simp only[List.mem_cons,List.not_mem_nil,or_false]at hz;rcases hz with rfl|rfl<;>omega⟩
  ·exact⟨by simp,fun z hz=>by
    simp only[List.mem_cons,List.not_mem_nil,or_false]at hz;rcases hz with rfl|rfl|rfl<;>omega⟩
 have hl3:[[notL l,a],[notL l,b],[l,notL a,notL b]].length=3:=rfl;have hgt:gateT l (a,b)=[[notL l,a],[notL l,b],[l,notL a,notL b]].filterMap yo_:=rfl;rw[hgt];generalize [[notL l,a],[notL l,b],[l,notL a,notL b]]=CL at *;have k22u:=k22.up;rw[<-hl3]at k22 k22u⊢
 repeat' with_reducible first|refine W.bind ?_|refine W.len (by assumption) ?_
 refine W.mono (P:=fun r=>∃T',Hop vT τ5 T r.2 T'/\OL r.2 T' 29 (CL.filterMap yo_) r.1) ?_ fun r hr=>?_
 ·refine W.loop CL.length (fun i (u:AVal×Int) τ=>u.2=(i:Int)/\∃T',Hop vT τ5 T τ T'/\SlV vIs (τ.at T' 0) CL (.sl l22 0 CL.length none)/\OL τ T' 29 ((CL.take i).filterMap yo_) u.1) ⟨rfl,T,Hop.refl hn,k22,OL.nil⟩ fun i u τ6 hi hI=>?_
  obtain⟨u1,u2⟩:=u;obtain⟨rfl,T6,HH,k22,hO⟩:=hI;dsimp only at hO;have wr:IntKind.i64.wrap ((i:Int)+1)=((i+1:Nat):Int):=by rw[wrapS]<;>omega
  have hfl:=List.length_filterMap_le yo_ (CL.take i);rw[List.length_take]at hfl;unfold S.z137.b0
  (with_reducible refine W.cnd (fun hlt=>?_) (fun hlt=>?_)<;>(try simp only[qq,Kd.ty]at hlt)<;>(try (exfalso;omega)))
  ·obtain⟨c,hc⟩:=y3_ (xs:=CL) (i:=i) (by omega)
   have htk:CL.take (i+1)=CL.take i++[c]:=by rw[List.take_add_one,hc];rfl
   have hcm:=hcl c (List.mem_of_getElem? hc);refine W.bind ?_;refine W.mono (P:=fun r=>∃T',Hop vT τ6 T6 r.2 T'/\OL r.2 T' 29 ((CL.take (i+1)).filterMap yo_) r.1) ?_ fun r hr=>?_
   ·refine W.ixkLS k22 at_le hc fun v hv=>?_
    refine W.bind ?_;refine W.mono (yay_ hv HH.tn hcm.1 hcm.2) fun r hr=>?_;obtain⟨⟨r1,r2⟩,τ7⟩:=r;obtain⟨T7,H7,hcase⟩:=hr;dsimp only at H7 hcase⊢;replace hO:=hO.hop H7;rw[htk,List.filterMap_append];rcases hcase with ⟨d,hd,rfl,hz⟩|⟨hd,er⟩
    ·refine W.condT rfl ?_
     refine W.scalS hz.up ?_;refine W.ol_push hO H7.tn hz (by decide) (by omega) fun x' τ8 T8 hO H8=>?_;refine W.ret ⟨T8,H7.ovt.trans H8.ovt,?_⟩;simpa[hd]using hO
    ·cases er
     refine W.condF rfl ?_;refine W.ret ⟨T7,H7.ovt,?_⟩;simpa[hd]using hO
   ·obtain⟨r,τ7⟩:=r
    obtain⟨T7,H7,hO⟩:=hr;dsimp only at H7 hO⊢
    repeat' (with_reducible refine W.next ?_)
    exact⟨by omega,wr,T7,HH.trans H7,k22.hop H7,hO⟩
  ·repeat' (with_reducible refine W.stop ?_)
   have:i=CL.length:=by omega
   subst this;rw[List.take_length]at hO;exact⟨T6,HH,hO⟩
 ·obtain⟨r,τ6⟩:=r
  obtain⟨T6,HH,hO⟩:=hr;exact W.ret ⟨T6,(Hop.of hn0 L).trans HH,hO⟩
theorem yfb_{er:Option Er}(h:GrH σ T lg N gs er lm)(hn:Tn σ T)(hN:N+gs.length<=8000):W (S.z15 (.ptr lg 0) .nils σ) fun r=>∃T' xa',r.1=.agg [.int .i64 N,xa',.nils]/\Hop uT σ T r.2 T'/\SlV vLn (r.2.at T' 0) gs xa':=by
 unfold S.z15;refine W.newT 26 hn fun l1 τ1 T1 hl1 H1 k26 hnτ1=>?_;obtain⟨⟨xa,ev,k1,k2,k3⟩,k4⟩:=h.hop H1;have k1u:=k1.up
 repeat' with_reducible first|refine W.bind ?_|refine W.asI ?_|refine W.asV ?_|refine W.fldp ?_|refine W.e0 ?_|refine W.nck ?_
 have ec:S.z118 xa τ1=y8j_ vLn.sz 16 xa τ1:=rfl;rw[ec];refine W.mono (yc5_ 27 (bytes:=16) y33_ k2.slT H1.tn (by omega) (by omega)) fun r hr=>?_;obtain⟨xc,τ2⟩:=r;obtain⟨T2,H2,hO⟩:=hr;dsimp only at H2 hO⊢;obtain⟨T3,H3,hfr⟩:=hO.freeze y33_ H2.tn;replace k1:=(k1.hop H2).hop H3;replace k26:=(k26.hop H2).hop H3;have hn:=H3.tn;have k1u:=k1.up;have hfu:=hfr.up
 repeat' with_reducible first|refine W.bind ?_|refine W.asI ?_|refine W.chk rfl ?_|refine W.e0 ?_
 have en:S.z120 .nils τ2=some (.nils,τ2):=rfl;refine W.to en ?_
 repeat' with_reducible first|refine W.ret ?_|refine W.asI ?_|refine W.chk rfl ?_|refine W.e0 ?_|refine W.scalS (by assumption) ?_|refine W.scN ?_
 refine W.stT k26 hn (Nat.le_of_ble_eq_true (by rfl)) fun τ4 H4 k26 hnτ4=>?_;replace hfr:=hfr.hop H4
 repeat' with_reducible first|refine W.ret ?_|refine W.u1 ?_
 exact⟨T3,xc,rfl,(((H1.ot).trans H2.ot).trans H3.ot).trans H4.ot,hfr⟩
end
end
section
open Go
theorem SlV.toRaw{σ:Heap}{ds:List (List Int)}{y:AVal}(h:SlV vIs σ ds y):∃vs,vs.length=ds.length/\SlV vRaw σ vs y/\∀(i:Nat) c,ds[i]?=some c->∃w,vs[i]?=some w/\SlV .int σ c w:=by
 rcases h with ⟨rfl,rfl⟩|⟨l,off,k,md,us,rfl,g2,g3,g4,g5⟩
 ·exact⟨[],rfl,.inl ⟨rfl,rfl⟩,fun i c h=>by simp at h⟩
 ·have g4:(off+ds.length)*1<=us.length:=g4
  have hl:((us.drop off).take ds.length).length=ds.length:=by simp;omega
  refine⟨(us.drop off).take ds.length,hl,.inr ⟨l,off,k,md,us,by rw[hl],g2,g3,by rw[hl];exact g4,fun i a hi=>?_⟩,fun i c hi=>?_⟩
  ·show List.take 1 (List.drop ((off+i)*1) us)=[a]
   rw[List.getElem?_take]at hi
   split at hi
   ·rw[List.getElem?_drop]at hi
    rw[Nat.mul_one,List.take_one,List.head?_drop,hi];rfl
   ·cases hi
  ·obtain⟨w,e1,e2⟩:=g5 i c hi
   have e1:List.take 1 (List.drop ((off+i)*1) us)=[w]:=e1;have hil:=y2_ hi;refine⟨w,?_,e2⟩;rw[List.getElem?_take_of_lt hil,List.getElem?_drop];rw[Nat.mul_one,List.take_one,List.head?_drop]at e1;cases hu:us[off+i]? with
   |none=>rw[hu]at e1;cases e1
   |some v=>rw[hu]at e1;cases e1;rfl
section
variable{σ τ:Heap}{T T':Tg}{e:EnP}{t n li:Nat}{x y xc:AVal}{cs ds C:List (List Int)}{w:Nat}
theorem W.ol_app{R:Type}{Q:R->Prop}(h:OL σ T t cs x)(hn:Tn σ T)(hy:SlV vIs (σ.at T 0) ds y)(ht:t≠0)(hb:cs.length+ds.length<=1000000){K:AVal->Heap->Option R}
  (k:∀x' τ T',OL τ T' t (cs++ds) x'->Hop (only t) σ T τ T'->W (K x' τ) Q):W (YtekehmgfedmflaaGreatDoor.A.appS σ 1 24 x y K) Q:=by
 obtain⟨ws,h1,h2,h3⟩:=h;obtain⟨vs,g1,g2,g3⟩:=hy.toRaw;have h0:(only t) 0=false:=by simp;omega
 refine W.own_app (bytes:=24) y3m_ h1 hn g2.up (by omega) (by omega) fun x' τ T' h1' H=>?_;refine k x' τ T' ⟨_,h1',by simp[h2,g1],fun i d hi=>?_⟩ H;by_cases hlt:i<cs.length
 ·rw[List.getElem?_append_left hlt]at hi
  obtain⟨w,e1,e2⟩:=h3 i d hi;exact⟨w,by rw[List.getElem?_append_left (by omega)];exact e1,e2.hop H h0⟩
 ·rw[List.getElem?_append_right (by omega)]at hi
  obtain⟨w,e1,e2⟩:=g3 _ d hi;exact⟨w,by rw[List.getElem?_append_right (by omega),h2];exact e1,e2.hop H h0⟩
end
end
section
open Go
section
variable{σ τ:Heap}{T T':Tg}{u t n lg lm M N Ou:Nat}{x y f xa xo xf:AVal}{I:Nat->Bool}{gs g0:List (Int×Int)}{os fs ls c:List Int}{o a b l:Int}{cs:List (List Int)}
theorem Hop.vu(H:Hop vT σ T τ T'):Hop uT σ T τ T':=H.sub fun i hi=>by simp only[vT,uT,Bool.or_eq_true,beq_iff_eq,Bool.and_eq_true,decide_eq_true_eq]at hi⊢;omega
theorem yh4_(hg:GlS [.range,.limit] (σ.at T 0))(hn:Tn σ T)(hc:SlV vLn (σ.at T 0) gs xa)(ho:SlV .int (σ.at T 0) os xo)(hok:yt_ (N:Int) gs os=none)(b2:os.length<=1000000)(hf:SlV .int (σ.at T 0) fs xf)(hfb:fs.length<=1000)(hfo:∀l∈fs,okN l (N+gs.length)=true) :
  W (S.z136 (.agg [.int .i64 N,xa,xo]) xf σ) fun r=>∃T' y,r.1=(.agg [.int .i64 ((N+gs.length:Nat):Int),y],.nili)/\Hop uT σ T r.2 T'/\SlV vIs (r.2.at T' 0) (encT N gs fs) y:=by
 have hn0:=hn;obtain⟨c1,c2,c3⟩:=yw_.1 hok;have hwf:=y3q_.1 c2;unfold S.z136
 repeat' (with_reducible refine W.e3 ?_)
 refine W.new0 hn fun l2 τ1 _ L1 k2 hn1=>?_;replace hc:=hc.hle L1;replace ho:=ho.hle L1;replace hf:=hf.hle L1;replace hn:=hn.mono L1;replace hg:=hg.mono (L1.ats T 0);have hn:=hn1;refine W.newT 25 hn fun l4 τ2 T2 hl4 H2 k4 hnτ2=>?_;replace hc:=hc.hop H2;replace ho:=ho.hop H2;replace hf:=hf.hop H2;replace k2:=k2.hop H2;replace hn:=H2.tn;replace hg:=hg.mono (H2.le (by rfl));have HH:Hop uT σ T τ2 T2:=(Hop.of hn0 L1).trans H2.ot;have k2u:=k2.up
 repeat' with_reducible first|refine W.bind ?_|refine W.e1 ?_
 refine W.mono (y4h_ hg hn hc ho (by omega) (by omega)) fun r hr=>?_;obtain⟨v,τ3⟩:=r;obtain⟨L3,hF⟩:=hr;dsimp only at L3 hF⊢;rw[hok]at hF;replace hc:=hc.hle L3;replace hf:=hf.hle L3;replace k2:=k2.hle L3;replace k4:=k4.hle L3;replace hn:=hn.mono L3;replace HH:=HH.hle L3;refine W.fnil (hF.mono at_le) ?_;refine W.condF rfl ?_;have k2u:=k2.up;have hcu:=hc.up
 repeat' with_reducible first|refine W.asI ?_|refine W.asV ?_|refine W.len (by assumption) ?_|refine W.e0 ?_
 have wV:IntKind.i64.wrap ((N:Int)+(gs.length:Int))=((N+gs.length:Nat):Int):=by rw[wrapS]<;>omega
 have wV2:IntKind.i64.wrap (2*((N+gs.length:Nat):Int))=2*((N+gs.length:Nat):Int):=by rw[wrapS]<;>omega
 have wV3:IntKind.i64.wrap (2*((N+gs.length:Nat):Int)+1)=2*((N+gs.length:Nat):Int)+1:=by rw[wrapS]<;>omega
 rw[wV];refine W.newT 26 hn fun l14 τ4 T4 hl14 H4 k14 hnτ4=>?_;replace hc:=hc.hop H4;replace hf:=hf.hop H4;replace k2:=k2.hop H4;replace k4:=k4.hop H4;replace hn:=H4.tn;replace HH:=HH.trans H4.ot;refine W.stT k14 hn (Nat.le_of_ble_eq_true (by rfl)) fun τ5 H5 k14 hnτ5=>?_;replace hc:=hc.hop H5;replace hf:=hf.hop H5;replace k2:=k2.hop H5;replace k4:=k4.hop H5;replace hn:=H5.tn;replace HH:=HH.trans H5.ot;have hfu:=hf.up
 repeat' with_reducible first|refine W.bind ?_|refine W.len (by assumption) ?_
 refine W.mono (P:=fun r=>r=(.inl (),τ5)) ?_ fun r hr=>?_
 ·refine W.loop fs.length (fun i (z:Int) τ=>z=(i:Int)/\τ=τ5) ⟨rfl,rfl⟩ fun i z τ6 hi hI=>?_
  obtain⟨rfl,rfl⟩:=hI;have wr:IntKind.i64.wrap ((i:Int)+1)=((i+1:Nat):Int):=by rw[wrapS]<;>omega
  have k14u:=k14.up;unfold S.z136.b0
  (with_reducible refine W.cnd (fun hlt=>?_) (fun hlt=>?_)<;>(try simp only[qq,Kd.ty]at hlt)<;>(try (exfalso;omega)))
  ·obtain⟨z,hz⟩:=y3_ (xs:=fs) (i:=i) (by omega)
   have hzo:=ya_.1 (hfo z (List.mem_of_getElem? hz))
   repeat' with_reducible first|refine W.bind ?_|refine W.e2 ?_
   refine W.condF (by simp;omega) ?_
   repeat' with_reducible first|refine W.ret ?_|refine W.asI ?_|refine W.fldp ?_|refine W.e0 ?_
   rw[wV2,wV3];refine W.condF (by simp;omega) ?_
   repeat' (with_reducible refine W.next ?_)
   exact⟨by omega,wr,rfl⟩
  ·repeat' (with_reducible refine W.stop ?_)
   rfl
 subst hr;dsimp only;have k2u:=k2.up;have hcu:=hc.up
 repeat' with_reducible first|refine W.bind ?_|refine W.asV ?_|refine W.len (by assumption) ?_|refine W.e0 ?_
 refine W.mono (P:=fun r=>∃T' y,Hop uT σ T r.2 T'/\SlV .int (r.2.at T' 0) fs xf/\Loc (r.2.at T' 25) l4 [.int .i64 0,.nils]/\Loc (r.2.at T' 26) l14 [.int .i64 ((N+gs.length:Nat):Int),y]/\OL r.2 T' 27 (y30_ N gs gs.length) y) ?_ fun r hr=>?_
 ·refine W.loop gs.length (fun i (z:Int) τ=>z=(i:Int)/\∃T' y,Hop uT σ T τ T'/\SlV vLn (τ.at T' 0) gs xa/\SlV .int (τ.at T' 0) fs xf/\Loc (τ.at T' 0) l2 [.int .i64 N,xa,xo]/\Loc (τ.at T' 25) l4 [.int .i64 0,.nils]/\Loc (τ.at T' 26) l14 [.int .i64 ((N+gs.length:Nat):Int),y]/\OL τ T' 27 (y30_ N gs i) y) ⟨rfl,T4,.nils,HH,hc,hf,k2,k4,k14,OL.nil⟩ fun i z τ6 hi hI=>?_
  obtain⟨rfl,T6,y,HH,hc,hf,k2,k4,k14,hO⟩:=hI;have hn:=HH.tn;have wr:IntKind.i64.wrap ((i:Int)+1)=((i+1:Nat):Int):=by rw[wrapS]<;>omega
  have hgl:=y3s_ (N:=N) (gs:=gs) i;unfold S.z136.b1
  (with_reducible refine W.cnd (fun hlt=>?_) (fun hlt=>?_)<;>(try simp only[qq,Kd.ty]at hlt)<;>(try (exfalso;omega)))
  ·obtain⟨⟨a,b⟩,hab⟩:=y3_ (xs:=gs) (i:=i) (by omega)
   obtain⟨h1,h2,h3⟩:=hwf _ _ _ hab;refine W.pair hn hc.up hab fun l48 τ7 L7 k48 hn7=>?_;replace hc:=hc.hle L7;replace hf:=hf.hle L7;replace k2:=k2.hle L7;replace k4:=k4.hle L7;replace k14:=k14.hle L7;replace hO:=hO.hle L7;replace hn:=hn.mono L7;replace HH:=HH.hle L7;have k48u:=k48.up;have k2u:=k2.up;have k14u:=k14.up
   repeat' with_reducible first|refine W.bind ?_|refine W.asI ?_|refine W.asV ?_|refine W.fldp ?_|refine W.e0 ?_|refine W.e1 ?_
   have wi1:IntKind.i64.wrap ((N:Int)+(i:Int))=((N+i:Nat):Int):=by rw[wrapS]<;>omega
   have wi2:IntKind.i64.wrap (((N+i:Nat):Int)+1)=((N+i+1:Nat):Int):=by rw[wrapS]<;>omega
   have wi3:IntKind.i64.wrap (2*((N+i+1:Nat):Int))=2*((N+i+1:Nat):Int):=by rw[wrapS]<;>omega
   rw[wi1,wi2,wi3];refine W.mono (yil_ (l:=2*((N+i+1:Nat):Int)) hn7 (by omega) (by omega) (by omega)) fun r hr=>?_;obtain⟨yg,τ8⟩:=r;obtain⟨T8,H8,hG⟩:=hr;dsimp only at H8 hG⊢;replace hc:=hc.hop H8;replace hf:=hf.hop H8;replace k2:=k2.hop H8;replace k4:=k4.hop H8;replace k14:=k14.hop H8;replace hO:=hO.hop H8;replace hn:=H8.tn;replace HH:=HH.trans H8.vu;obtain⟨T9,H9,hGf⟩:=hG.freeze hn (by decide);replace hc:=hc.hop H9;replace hf:=hf.hop H9;replace k2:=k2.hop H9;replace k4:=k4.hop H9;replace k14:=k14.hop H9;replace hO:=hO.hop H9;replace hn:=H9.tn;replace HH:=HH.trans H9.ot;have k14u:=k14.up;have hgtl:=yab_ (n:=2*((N+i+1:Nat):Int)) (x:=(a,b))
   repeat' with_reducible first|refine W.asV ?_|refine W.chk rfl ?_|refine W.e0 ?_
   refine W.ol_app hO hn hGf (by decide) (by omega) fun y' τ10 T10 hO H10=>?_;replace hc:=hc.hop H10;replace hf:=hf.hop H10;replace k2:=k2.hop H10;replace k4:=k4.hop H10;replace k14:=k14.hop H10;replace hn:=H10.tn;replace HH:=HH.trans H10.ot;have hOs:=hO.sl
   repeat' with_reducible first|refine W.fldp ?_|refine W.scalS (by assumption) ?_
   refine W.stT k14 hn (Nat.le_of_ble_eq_true (by rfl)) fun τ11 H11 k14 hnτ11=>?_;replace hc:=hc.hop H11;replace hf:=hf.hop H11;replace k2:=k2.hop H11;replace k4:=k4.hop H11;replace hO:=hO.hop H11;replace hn:=H11.tn;replace HH:=HH.trans H11.ot
   repeat' (with_reducible refine W.next ?_)
   have hgd:gs.getD i (0,0)=(a,b):=by rw[List.getD_eq_getElem?_getD,hab];rfl
   exact⟨by omega,wr,T10,y',HH,hc,hf,k2,k4,k14,by rw[y7e_,hgd];exact hO⟩
  ·repeat' (with_reducible refine W.stop ?_)
   have:i=gs.length:=by omega
   subst this;exact⟨T6,y,HH,hf,k4,k14,hO⟩
 obtain⟨r,τ6⟩:=r;obtain⟨T6,y,HH,hf,k4,k14,hO⟩:=hr;dsimp only at HH hf k4 k14 hO⊢;have hfu:=hf.up;have hgl:=y3s_ (N:=N) (gs:=gs) gs.length
 repeat' with_reducible first|refine W.bind ?_|refine W.len (by assumption) ?_
 refine W.mono (P:=fun r=>∃T' y,Hop uT σ T r.2 T'/\Loc (r.2.at T' 25) l4 [.int .i64 0,.nils]/\Loc (r.2.at T' 26) l14 [.int .i64 ((N+gs.length:Nat):Int),y]/\OL r.2 T' 27 (encT N gs fs) y) ?_ fun r hr=>?_
 ·refine W.loop fs.length (fun i (z:Int) τ=>z=(i:Int)/\∃T' y,Hop uT σ T τ T'/\SlV .int (τ.at T' 0) fs xf/\Loc (τ.at T' 25) l4 [.int .i64 0,.nils]/\Loc (τ.at T' 26) l14 [.int .i64 ((N+gs.length:Nat):Int),y]/\OL τ T' 27 (encT N gs (fs.take i)) y) ⟨rfl,T6,y,HH,hf,k4,k14,by simpa[encT]using hO⟩ fun i z τ7 hi hI=>?_
  obtain⟨rfl,T7,y,HH,hf,k4,k14,hO⟩:=hI;have hn:=HH.tn;have wr:IntKind.i64.wrap ((i:Int)+1)=((i+1:Nat):Int):=by rw[wrapS]<;>omega
  have hfu:=hf.up;have hel:(encT N gs (fs.take i)).length<=100000:=by
   unfold encT;have:=List.length_filterMap_le (fun l=>yo_ [l]) (fs.take i);rw[List.length_take]at this;rw[List.length_append];omega
  unfold S.z136.b2
  (with_reducible refine W.cnd (fun hlt=>?_) (fun hlt=>?_)<;>(try simp only[qq,Kd.ty]at hlt)<;>(try (exfalso;omega)))
  ·obtain⟨z,hz⟩:=y3_ (xs:=fs) (i:=i) (by omega)
   have hzo:=ya_.1 (hfo z (List.mem_of_getElem? hz));have htk:fs.take (i+1)=fs.take i++[z]:=by rw[List.take_add_one,hz];rfl
   have het:encT N gs (fs.take (i+1))=encT N gs (fs.take i)++[z].filterMap fun l=>yo_ [l]:=by
    rw[htk];unfold encT;rw[List.filterMap_append,List.append_assoc]
   refine W.bind ?_;refine W.mono (P:=fun r=>∃T' y,Hop uT σ T r.2 T'/\SlV .int (r.2.at T' 0) fs xf/\Loc (r.2.at T' 25) l4 [.int .i64 0,.nils]/\Loc (r.2.at T' 26) l14 [.int .i64 ((N+gs.length:Nat):Int),y]/\OL r.2 T' 27 (encT N gs (fs.take (i+1))) y) ?_ fun r hr=>?_
   ·repeat' (with_reducible refine W.e2 ?_)
    refine W.newI1 hn fun l73 τ8 _ L8 k73 hn8=>?_;replace hf:=hf.hle L8;replace k4:=k4.hle L8;replace k14:=k14.hle L8;replace hO:=hO.hle L8;replace hn:=hn.mono L8;replace HH:=HH.hle L8;refine W.bind ?_;refine W.mono (yay_ k73 hn8 (by simp) (fun l hl=>by rw[List.mem_singleton.1 hl];omega)) fun r hr=>?_;obtain⟨⟨r1,r2⟩,τ9⟩:=r;obtain⟨T9,H9,hcase⟩:=hr;dsimp only at H9 hcase⊢;replace hf:=hf.hop H9;replace k4:=k4.hop H9;replace k14:=k14.hop H9;replace hO:=hO.hop H9;replace hn:=H9.tn;replace HH:=HH.trans H9.ot;rw[het];rcases hcase with ⟨d,hd,rfl,hz2⟩|⟨hd,er⟩
    ·refine W.condT rfl ?_
     have k14u:=k14.up;have hz2u:=hz2.up
     repeat' with_reducible first|refine W.asV ?_|refine W.fldp ?_|refine W.e0 ?_|refine W.scalS (by assumption) ?_
     refine W.ol_push hO hn hz2 (by decide) (by omega) fun y' τ10 T10 hO H10=>?_;replace hf:=hf.hop H10;replace k4:=k4.hop H10;replace k14:=k14.hop H10;replace hn:=H10.tn;replace HH:=HH.trans H10.ot;have hOs:=hO.sl
     repeat' with_reducible first|refine W.fldp ?_|refine W.scalS (by assumption) ?_
     refine W.stT k14 hn (Nat.le_of_ble_eq_true (by rfl)) fun τ11 H11 k14 hnτ11=>?_;replace hf:=hf.hop H11;replace k4:=k4.hop H11;replace hO:=hO.hop H11;replace hn:=H11.tn;replace HH:=HH.trans H11.ot
     repeat' with_reducible refine W.ret ?_
     exact⟨T10,y',HH,hf,k4,k14,by simpa[hd]using hO⟩
    ·cases er
     refine W.condF rfl ?_;exact W.ret ⟨T9,y,HH,hf,k4,k14,by simpa[hd]using hO⟩
   ·obtain⟨r,τ8⟩:=r
    obtain⟨T8,y',HH,hf,k4,k14,hO⟩:=hr;dsimp only at HH hf k4 k14 hO⊢
    repeat' (with_reducible refine W.next ?_)
    exact⟨by omega,wr,T8,y',HH,hf,k4,k14,hO⟩
  ·repeat' (with_reducible refine W.stop ?_)
   have:i=fs.length:=by omega
   subst this;rw[List.take_length]at hO;exact⟨T7,y,HH,k4,k14,hO⟩
 obtain⟨r,τ7⟩:=r;obtain⟨T7,y,HH,k4,k14,hO⟩:=hr;dsimp only at HH k4 k14 hO⊢;have k14u:=k14.up
 repeat' with_reducible first|refine W.e3 ?_|refine W.e1 ?_
 have hn:=HH.tn;refine W.stT k4 hn (Nat.le_of_ble_eq_true (by rfl)) fun τ8 H8 k4 hnτ8=>?_;replace hO:=hO.hop H8;replace hn:=H8.tn;replace HH:=HH.trans H8.ot;have k4u:=k4.up
 repeat' with_reducible first|refine W.ret ?_|refine W.e1 ?_
 obtain⟨T9,H9,hz⟩:=hO.freeze hn (by decide);exact⟨T9,y,rfl,HH.trans H9.ot,hz⟩
end
end
end Go.Proofs.YtekehmgfedmflaaGreatDoor.A
end
