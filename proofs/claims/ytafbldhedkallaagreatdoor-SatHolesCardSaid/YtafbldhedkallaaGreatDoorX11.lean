/- Parts of the proof, one behind another. -/
import Derived.Test.YtafbldhedkallaaGreatDoorX10
import Derived.Test.YtafbldhedkallaaGreatDoorX9
set_option linter.all false
noncomputable section
namespace Go.Proofs.YtafbldhedkallaaGreatDoor.A
section
open Go
def eI:Nat->Bool:=fun j=>decide (1<=j) && !(decide (36<=j)&&decide (j<=39))
def vLn:Vw (Int×Int):=⟨2,fun _ a us=>us=[.int .i64 a.1,.int .i64 a.2],by decide,fun h=>by rw[h];rfl,fun _ h=>h⟩
theorem y6y_:vLn.Flat:=fun _ _ _ _ h=>h
structure EnP where
 le:Nat
 lp:Nat
 lh:Nat
 lq:Nat
structure EnH(σ:Heap)(T:Tg)(e:EnP)(n:Nat)(s:PS)(hs:List Int)(ln:List (Int×Int))(lg:List (Bool×List Int))(since least:Int)(h:PH)(xs xl xg:AVal)(conf bump most:Int)(sv:List Int)(ws:List (Bool×AVal)):Prop where
 obj:Loc (σ.at T 31) e.le [.ptr e.lp 0,.ptr e.lh 0,.ptr e.lq 0,xs,xl,xg,.int .i64 conf,.int .i64 bump]
 prop:PropH σ T e.lp h s
 heap:HpI σ T e.lh n hs
 pace:PcI σ T e.lq most since least
 most:most<=0
 sav:Own .int (σ.at T 32) sv xs
 svl:sv.length=n+1
 lrn:Own vLn (σ.at T 33) ln xl
 log:Own vBR (σ.at T 34) ws xg
 all:AllB (σ.at T 0) lg ws
def EnX(σ:Heap)(T:Tg)(e:EnP)(n:Nat)(s:PS)(hs:List Int)(ln:List (Int×Int))(lg:List (Bool×List Int))(since least:Int):Prop:=∃h xs xl xg conf bump most sv ws,EnH σ T e n s hs ln lg since least h xs xl xg conf bump most sv ws
section
variable{σ τ:Heap}{T T':Tg}{I:Nat->Bool}
theorem pI_e{j:Nat}(h:pI j=true):eI j=true:=by
 simp only[pI,eI,Bool.or_eq_true,Bool.and_eq_true,decide_eq_true_eq,Bool.not_eq_true',Bool.and_eq_false_iff,decide_eq_false_iff_not]at h⊢;omega
theorem Hop.pe(H:Hop pI σ T τ T'):Hop eI σ T τ T':=H.sub fun i hi=>pI_e hi
theorem Hop.je(H:Hop pJ σ T τ T'):Hop eI σ T τ T':=H.sub fun i hi=>by
 unfold pJ at hi;rcases Bool.or_eq_true_iff.1 hi with q|q
 ·exact pI_e q
 ·have:i=15:=by simpa using q
  subst this;rfl
theorem Hop.he(H:Hop hI σ T τ T'):Hop eI σ T τ T':=H.sub fun i hi=>by
 simp only[hI,eI,Bool.and_eq_true,decide_eq_true_eq,Bool.not_eq_true',Bool.and_eq_false_iff,decide_eq_false_iff_not]at hi⊢;omega
theorem Hop.hbe(H:Hop hbI σ T τ T'):Hop eI σ T τ T':=H.sub fun i hi=>by
 simp only[hbI,eI,Bool.or_eq_true,Bool.and_eq_true,decide_eq_true_eq,Bool.not_eq_true',Bool.and_eq_false_iff,decide_eq_false_iff_not]at hi⊢;omega
theorem Hop.te(H:Hop tI σ T τ T'):Hop eI σ T τ T':=H.sub fun i hi=>by
 simp only[tI,eI,Bool.and_eq_true,decide_eq_true_eq,Bool.not_eq_true',Bool.and_eq_false_iff,decide_eq_false_iff_not]at hi⊢;omega
theorem Hop.oe{t:Nat}(H:Hop (only t) σ T τ T')(ht:eI t=true:=by rfl):Hop eI σ T τ T':=H.sub fun i hi=>by
 have:i=t:=by simpa using hi
 rw[this];exact ht
theorem pI_hI{j:Nat}(h:pI j=true):hI j=false:=by
 simp only[pI,hI,Bool.or_eq_true,Bool.and_eq_true,decide_eq_true_eq,Bool.and_eq_false_iff,decide_eq_false_iff_not]at h⊢;omega
theorem hI_pI{j:Nat}(h:hI j=true):pI j=false:=by
 simp only[pI,hI,Bool.or_eq_false_iff,Bool.and_eq_true,decide_eq_true_eq,Bool.and_eq_false_iff,decide_eq_false_iff_not]at h⊢;omega
theorem PropH.hopH{lp:Nat}{h:PH}{s:PS}(p:PropH σ T lp h s)(H:Hop hI σ T τ T'):PropH τ T' lp h s:=p.hop H fun j hj=>pI_hI hj
theorem PropH.hopHB{lp:Nat}{h:PH}{s:PS}(p:PropH σ T lp h s)(H:Hop hbI σ T τ T'):PropH τ T' lp h s:=p.hop H fun j hj=>by
 simp only[pI,hbI,Bool.or_eq_true,Bool.or_eq_false_iff,Bool.and_eq_true,decide_eq_true_eq,Bool.and_eq_false_iff,decide_eq_false_iff_not]at hj⊢;omega
theorem PropH.hopO{lp:Nat}{h:PH}{s:PS}(p:PropH σ T lp h s){t:Nat}(H:Hop (only t) σ T τ T')(ht:pI t=false:=by rfl):PropH τ T' lp h s:=p.hop H fun j hj=>by
 simp only[only,beq_eq_false_iff_ne];intro e;subst e;rw[ht]at hj;cases hj
theorem HpI.hopP{lh N:Nat}{hs:List Int}(p:HpI σ T lh N hs)(H:Hop pI σ T τ T'):HpI τ T' lh N hs:=p.hop H fun j hj=>hI_pI hj
theorem HpI.hopJ{lh N:Nat}{hs:List Int}(p:HpI σ T lh N hs)(H:Hop pJ σ T τ T'):HpI τ T' lh N hs:=p.hop H fun j hj=>by
 simp only[pJ,Bool.or_eq_false_iff];refine⟨hI_pI hj,?_⟩;simp only[hI,Bool.and_eq_true,decide_eq_true_eq]at hj;simp;omega
theorem HpI.hopT{lh N:Nat}{hs:List Int}(p:HpI σ T lh N hs)(H:Hop tI σ T τ T'):HpI τ T' lh N hs:=p.hop H fun j hj=>by
 simp only[hI,tI,Bool.and_eq_true,decide_eq_true_eq,Bool.and_eq_false_iff,decide_eq_false_iff_not]at hj⊢;omega
variable{e:EnP}{n k:Nat}{s:PS}{hs:List Int}{ln:List (Int×Int)}{lg:List (Bool×List Int)}{since least:Int}{h:PH}{xs xl xg:AVal}{conf bump most:Int}{sv:List Int}{ws:List (Bool×AVal)}{gl:Bool}{C:List (List Int)}{w:Nat}
theorem EnH.hopT(E:EnH σ T e n s hs ln lg since least h xs xl xg conf bump most sv ws)(H:Hop tI σ T τ T'):EnH τ T' e n s hs ln lg since least h xs xl xg conf bump most sv ws:=
 ⟨E.obj.hop H,E.prop.hopT H,E.heap.hopT H,E.pace.hop H,E.most,E.sav.hop H,E.svl,E.lrn.hop H,E.log.hop H,E.all.hop H⟩
theorem EnH.hopE{t:Nat}(E:EnH σ T e n s hs ln lg since least h xs xl xg conf bump most sv ws)(H:Hop (only t) σ T τ T')(ht:(decide (15<=t)&&decide (t<=29))||(decide (35<=t)&&decide (t<=39))=true:=by rfl):EnH τ T' e n s hs ln lg since least h xs xl xg conf bump most sv ws:=by
 have hne:∀u,u≠t->(only t) u=false:=fun u hu=>by simpa using hu
 simp only[Bool.or_eq_true,Bool.and_eq_true,decide_eq_true_eq]at ht;exact⟨E.obj.hop H (hne _ (by omega)),E.prop.hopO H (by simp only[pI,Bool.or_eq_false_iff,Bool.and_eq_false_iff,decide_eq_false_iff_not];omega),E.heap.hopB H (by simp only[hI,Bool.and_eq_false_iff,decide_eq_false_iff_not];omega),E.pace.hop H (hne _ (by omega)) (hne _ (by omega)),E.most,E.sav.hop H (hne _ (by omega)),E.svl,E.lrn.hop H (hne _ (by omega)),E.log.hop H (hne _ (by omega)),E.all.hop H (hne _ (by omega))⟩
theorem EnH.hle(E:EnH σ T e n s hs ln lg since least h xs xl xg conf bump most sv ws)(L:Hle σ τ):EnH τ T e n s hs ln lg since least h xs xl xg conf bump most sv ws:=
 ⟨E.obj.hle L,E.prop.hle L,E.heap.hle L,E.pace.hle L,E.most,E.sav.hle L,E.svl,E.lrn.hle L,E.log.hle L,E.all.hle L⟩
theorem yas_(ht:TrI n s):∀l∈s.sinceL k,l∈s.trail:=fun l hl=>by
 unfold PS.sinceL at hl
 split at hl
 ·exact List.mem_of_mem_drop hl
 ·cases hl
theorem y52_(E:EnX σ T e n s hs ln lg since least)(hn:Tn σ T)(L:EnL gl n C s hs ln lg since least w)(hn4:n<=4000) :
  W (S.z95 (.ptr e.le 0) (k:Int) σ) fun r=>∃T' hs',Hop eI σ T r.2 T'/\EnX r.2 T' e n (s.backK k) hs' ln lg since least/\EnL gl n C (s.backK k) hs' ln lg since least (w+1):=by
 obtain⟨h,xs,xl,xg,conf,bump,most,sv,ws,E⟩:=E;have ht:=L.si.ti;have hlt:=ht.lenT;have k1:=E.obj;unfold S.z95
 repeat' with_reducible first|refine W.bind ?_|refine W.asV ?_|refine W.fldp ?_|refine W.nck ?_|refine W.u0 ?_
 refine W.mono (yg5_ (k:=k) E.prop hn ht hn4) fun r hr=>?_;obtain⟨y,τ1⟩:=r;obtain⟨L1,hy⟩:=hr;dsimp only at L1 hy⊢;replace E:=E.hle L1;have HH:Hop eI σ T τ1 T:=Hop.of hn L1;have hyu:=hy.up
 clear k1
 have hsl:(s.sinceL k).length<=n:=by
  unfold PS.sinceL
  split
  ·simp;omega
  ·simp
 repeat' with_reducible first|refine W.bind ?_|refine W.len (by assumption) ?_
 refine W.mono (P:=fun r=>∃T' hs' sv',Hop eI σ T r.2 T'/\EnH r.2 T' e n s hs' ln lg since least h xs xl xg conf bump most sv' ws/\∀x,x∈hs'↔x∈hs\/∃l∈s.sinceL k,x=(l.natAbs:Int)) ?_ fun r hr=>?_
 ·refine W.loop (s.sinceL k).length (fun i (z:Int) τ=>z=(i:Int)/\∃T' hs' sv',Hop eI σ T τ T'/\SlV .int (τ.at T' 0) (s.sinceL k) y/\EnH τ T' e n s hs' ln lg since least h xs xl xg conf bump most sv' ws/\∀x,x∈hs'↔x∈hs\/∃l∈(s.sinceL k).take i,x=(l.natAbs:Int)) ⟨rfl,T,hs,sv,HH,hy,E,fun x=>by simp⟩ fun i z τ2 hi hI2=>?_
  obtain⟨rfl,T2,hs2,sv2,HH,hy,E,hmem⟩:=hI2;have wr:IntKind.i64.wrap ((i:Int)+1)=((i+1:Nat):Int):=by rw[wrapS]<;>omega
  unfold S.z95.b0
  (with_reducible refine W.cnd (fun hlt2=>?_) (fun hlt2=>?_)<;>(try simp only[qq,Kd.ty]at hlt2)<;>(try (exfalso;omega)))
  ·obtain⟨a,ha⟩:=y3_ (xs:=s.sinceL k) (i:=i) (by omega)
   have hat:=yas_ ht a (List.mem_of_getElem? ha);have haL:=ht.rng a hat;have ha0:=yb_ haL;obtain⟨k1,kp,kh,kq,km,ks,ksl,kl,kg,ka⟩:=E;have hyu:=hy.up
   repeat' with_reducible first|refine W.bind ?_|refine W.e2 ?_
   refine W.to (yi_ haL hn4) ?_
   repeat' with_reducible first|refine W.ret ?_|refine W.asV ?_|refine W.fldp ?_|refine W.nck ?_|refine W.u0 ?_
   refine W.ixO ks.slT (i:=a.natAbs) (by omega) ?_;refine W.own_setI ks HH.tn (by omega) fun τ3 ks H3 _=>?_;replace HH:=HH.trans H3.oe;replace hy:=hy.hop H3;replace kp:=kp.hopO H3;replace kh:=kh.hopB H3;replace kq:=kq.hop H3;replace ka:=ka.hop H3;replace k1:=k1.hop H3;replace kl:=kl.hop H3;replace kg:=kg.hop H3;replace hn:=H3.tn;refine W.bind ?_;refine W.mono (P:=fun r=>∃sv',Hop (only 32) τ3 T2 r.2 T2/\Own .int (r.2.at T2 32) sv' xs/\sv'.length=n+1) ?_ fun r hr=>?_
   ·(with_reducible refine W.cnd (fun hp=>?_) (fun hp=>?_)<;>(try simp only[qq,Kd.ty]at hp)<;>(try (exfalso;omega)))
    ·repeat' with_reducible first|refine W.asV ?_|refine W.fldp ?_|refine W.nck ?_|refine W.u0 ?_
     refine W.ixO ks.slT (i:=a.natAbs) (by simp;omega) ?_;refine W.own_setI ks HH.tn (by simp;omega) fun τ4 ks H4 _=>?_
     repeat' with_reducible refine W.ret ?_
     exact⟨_,H4,ks,by simp[ksl]⟩
    ·repeat' with_reducible refine W.ret ?_
     exact⟨_,Hop.refl HH.tn,ks,by simp[ksl]⟩
   ·obtain⟨r,τ4⟩:=r
    obtain⟨sv4,H4,ks,ksl⟩:=hr;dsimp only at H4 ks⊢;replace HH:=HH.trans H4.oe;replace hy:=hy.hop H4;replace kp:=kp.hopO H4;replace kh:=kh.hopB H4;replace kq:=kq.hop H4;replace ka:=ka.hop H4;replace k1:=k1.hop H4;replace kl:=kl.hop H4;replace kg:=kg.hop H4;replace hn:=H4.tn
    repeat' with_reducible first|refine W.bind ?_|refine W.asV ?_|refine W.fldp ?_|refine W.nck ?_|refine W.u0 ?_
    refine W.mono (y7h_ (v:=a.natAbs) kh HH.tn hn4 (by omega) ha0.2) fun r hr=>?_;obtain⟨r,τ5⟩:=r;obtain⟨T5,hs5,H5,kh,hm5⟩:=hr;dsimp only at H5 kh⊢;replace HH:=HH.trans H5.he
    repeat' with_reducible first|refine W.next ?_|refine W.ret ?_
    refine⟨by omega,wr,T5,hs5,sv4,HH,hy.hop H5,⟨k1.hop H5,kp.hopH H5,kh,kq.hop H5,km,ks.hop H5,ksl,kl.hop H5,kg.hop H5,ka.hop H5⟩,fun x=>?_⟩;have htk:(s.sinceL k).take (i+1)=(s.sinceL k).take i++[a]:=by rw[List.take_add_one,ha];rfl
    rw[hm5,hmem,htk];constructor
    ·rintro((q|⟨l,hl,q⟩)|q)
     ·exact .inl q
     ·exact .inr ⟨l,by simp[hl],q⟩
     ·exact .inr ⟨a,by simp,q⟩
    ·rintro(q|⟨l,hl,q⟩)
     ·exact .inl (.inl q)
     ·rcases List.mem_append.1 hl with hl|hl
      ·exact .inl (.inr ⟨l,hl,q⟩)
      ·rw[List.mem_singleton.1 hl]at q;exact .inr q
  ·repeat' (with_reducible refine W.stop ?_)
   rw[List.take_of_length_le (by omega)]at hmem;exact⟨T2,hs2,sv2,HH,E,hmem⟩
 ·obtain⟨r,τ2⟩:=r
  obtain⟨T2,hs2,sv2,HH,E,hmem⟩:=hr;dsimp only at HH E⊢;obtain⟨k1,kp,kh,kq,km,ks,ksl,kl,kg,ka⟩:=E
  repeat' with_reducible first|refine W.bind ?_|refine W.asV ?_|refine W.fldp ?_|refine W.nck ?_|refine W.u0 ?_
  refine W.mono (ygm_ (k:=k) kp HH.tn L.si hn4) fun r hr=>?_;obtain⟨r,τ3⟩:=r;obtain⟨T3,h3,H3,kp⟩:=hr;dsimp only at H3 kp⊢
  repeat' with_reducible refine W.ret ?_
  refine⟨T3,hs2,HH.trans H3.pe,⟨_,_,_,_,_,_,_,_,_,k1.hop H3,kp,kh.hopP H3,kq.hop H3,km,ks.hop H3,ksl,kl.hop H3,kg.hop H3,ka.hop H3⟩,?_⟩;have hz:=L.z2;cases hm:s.marks[k]? with
  |none=>
   have e1:s.backK k=s:=by unfold PS.backK;rw[hm]
   rw[e1];exact L.step L.si (CEq.refl s) (fun v h1 h2 h3=>(hmem _).2 (.inl (L.hp v h1 h2 h3))) (by omega)
  | some a'=>
   obtain⟨a,ea,_,_⟩:=ht.mks k a' hm;subst ea;have e1:s.backK k=s.back k a:=by unfold PS.backK;rw[hm];rfl
   have e2:s.sinceL k=s.trail.drop a:=by unfold PS.sinceL;rw[hm];rfl
   obtain⟨g0,g1,g2,g3,g4,g5,g6,g7,g8,g9,g10⟩:=L.si.back hm;rw[e1];refine L.step g0 ⟨by rw[g3],fun id a b h1 h2=>by rw[g3]at h2;exact(CEq.refl s).2 id a b h1 h2⟩ (fun v h1 h2 h3=>?_) (by
    have:(s.back k a).ent=s.ent:=by simp only[PS.ent,g5]
    rw[this,g4];omega)
   rw[hmem,e2];by_cases hv:val s.vs v=0
   ·exact .inl (L.hp v h1 h2 hv)
   ·right
    have hsplit:∀y,y∈s.trail->y∈s.trail.take a\/y∈s.trail.drop a:=fun y hy=>by
     rw[<-List.take_append_drop a s.trail]at hy;exact List.mem_append.1 hy
    rw[g10]at h3;have hval:=y3q_ ht.ok (v:Int);rcases(show val s.vs v=1\/val s.vs v=2 by omega)with q|q
    ·rcases hsplit _ ((ht.tr _).1 q)with u|u
     ·rw[if_pos u]at h3;omega
     ·exact⟨_,u,by simp⟩
    ·rcases hsplit _ (ht.neg.1 q)with u|u
     ·split at h3
      ·omega
      ·omega
     ·exact⟨_,u,by simp⟩
end
end
section
open Go
section
variable{σ τ:Heap}{T T':Tg}{e:EnP}{n k:Nat}{s:PS}{hs:List Int}{ln:List (Int×Int)}{lg:List (Bool×List Int)}{since least:Int}{h:PH}{xs xl xg x:AVal}{conf bump most:Int}{sv o:List Int}{ws:List (Bool×AVal)}{gl:Bool}{C:List (List Int)}{w:Nat}
theorem ycb_(E:EnX σ T e n s hs ln lg since least)(hn:Tn σ T)(hn4:n<=4000)(ho:SlV .int (σ.at T 0) o x)(hv:∀v∈o,1<=v/\v<=(n:Int))(hol:o.length<=1000000) :
  W (S.z96 (.ptr e.le 0) x σ) fun r=>∃T' hs',Hop eI σ T r.2 T'/\EnX r.2 T' e n s hs' ln lg since least/\∀x,x∈hs'↔x∈hs:=by
 obtain⟨h,xs,xl,xg,conf,bump,most,sv,ws,E⟩:=E;have hou:=ho.up;unfold S.z96
 repeat' with_reducible first|refine W.bind ?_|refine W.len (by assumption) ?_
 refine W.mono (P:=fun r=>∃T' hs',Hop eI σ T r.2 T'/\EnH r.2 T' e n s hs' ln lg since least h xs xl xg conf bump most sv ws/\∀x,x∈hs'↔x∈hs) ?_ fun r hr=>?_
 ·refine W.loop o.length (fun i (z:Int) τ=>z=(i:Int)/\∃T' hs',Hop eI σ T τ T'/\SlV .int (τ.at T' 0) o x/\EnH τ T' e n s hs' ln lg since least h xs xl xg conf bump most sv ws/\∀x,x∈hs'↔x∈hs) ⟨rfl,T,hs,Hop.refl hn,ho,E,fun _=>Iff.rfl⟩ fun i z τ1 hi hI2=>?_
  obtain⟨rfl,T1,hs1,HH,ho,E,hm1⟩:=hI2;have wr:IntKind.i64.wrap ((i:Int)+1)=((i+1:Nat):Int):=by rw[wrapS]<;>omega
  unfold S.z96.b0
  (with_reducible refine W.cnd (fun hlt=>?_) (fun hlt=>?_)<;>(try simp only[qq,Kd.ty]at hlt)<;>(try (exfalso;omega)))
  ·obtain⟨a,ha⟩:=y3_ (xs:=o) (i:=i) (by omega)
   have hav:=hv a (List.mem_of_getElem? ha);obtain⟨v,rfl⟩:∃v:Nat,a=v:=⟨a.toNat,by omega⟩;obtain⟨k1,kp,kh,kq,km,ks,ksl,kl,kg,ka⟩:=E;have hou:=ho.up
   repeat' with_reducible first|refine W.bind ?_|refine W.asI ?_|refine W.asV ?_|refine W.fldp ?_|refine W.e2 ?_|refine W.nck ?_|refine W.u0 ?_
   refine W.mono (yc4_ (v:=v) kh HH.tn hn4 (by omega) (by omega)) fun r hr=>?_;obtain⟨r,τ5⟩:=r;obtain⟨T5,hs5,H5,kh,hm5⟩:=hr;dsimp only at H5 kh⊢
   repeat' (with_reducible refine W.next ?_)
   exact⟨by omega,wr,T5,hs5,HH.trans H5.he,ho.hop H5,⟨k1.hop H5,kp.hopH H5,kh,kq.hop H5,km,ks.hop H5,ksl,kl.hop H5,kg.hop H5,ka.hop H5⟩,fun x=>by rw[hm5,hm1]⟩
  ·repeat' (with_reducible refine W.stop ?_)
   exact⟨T1,hs1,HH,E,hm1⟩
 ·obtain⟨r,τ1⟩:=r
  obtain⟨T1,hs1,HH,E,hm1⟩:=hr;dsimp only at HH E⊢;obtain⟨k1,kp,kh,kq,km,ks,ksl,kl,kg,ka⟩:=E;have hn:=HH.tn
  repeat' with_reducible first|refine W.asI ?_|refine W.fldp ?_|refine W.nck ?_|refine W.u0 ?_
  refine W.stT k1 hn (Nat.le_of_ble_eq_true (by rfl)) fun τ2 H2 k1 hnτ2=>?_;replace HH:=HH.trans H2.oe;replace kp:=kp.hopO H2;replace kh:=kh.hopB H2;replace kq:=kq.hop H2;replace ka:=ka.hop H2;replace ks:=ks.hop H2;replace kl:=kl.hop H2;replace kg:=kg.hop H2;replace hn:=H2.tn
  repeat' with_reducible first|refine W.asI ?_|refine W.fldp ?_|refine W.nck ?_|refine W.u0 ?_
  (with_reducible refine W.cnd (fun hbm=>?_) (fun hbm=>?_)<;>(try simp only[qq,Kd.ty]at hbm)<;>(try (exfalso;omega)))
  ·repeat' (with_reducible refine W.bind ?_)
   refine W.mono (P:=fun r=>∃T' hs',Hop hI τ2 T1 r.2 T'/\HpI r.2 T' e.lh n hs'/\∀x,x∈hs'↔x∈hs) ?_ fun r hr=>?_
   ·refine W.loop 20 (fun i (z:Int) τ=>z=(i:Int)/\∃T' hs',Hop hI τ2 T1 τ T'/\Loc (τ.at T' 31) e.le [.ptr e.lp 0,.ptr e.lh 0,.ptr e.lq 0,xs,xl,xg,.int .i64 conf,.int .i64 (IntKind.i64.wrap (bump+IntKind.i64.wrap (Int.tdiv bump 16)))]/\HpI τ T' e.lh n hs'/\∀x,x∈hs'↔x∈hs) ⟨rfl,T1,hs1,Hop.refl HH.tn,k1,kh,hm1⟩ fun i z τ3 hi hI2=>?_
    obtain⟨rfl,T3,hs3,H3,k1,kh,hm3⟩:=hI2;have wr:IntKind.i64.wrap ((i:Int)+1)=((i+1:Nat):Int):=by rw[wrapS]<;>omega
    unfold S.z96.b1
    (with_reducible refine W.cnd (fun hlt=>?_) (fun hlt=>?_)<;>(try simp only[qq,Kd.ty]at hlt)<;>(try (exfalso;omega)))
    ·repeat' with_reducible first|refine W.bind ?_|refine W.asV ?_|refine W.fldp ?_|refine W.nck ?_|refine W.u0 ?_
     refine W.mono (yam_ kh H3.tn hn4) fun r hr=>?_;obtain⟨r,τ5⟩:=r;obtain⟨T5,hs5,H5,kh,hm5⟩:=hr;dsimp only at H5 kh⊢
     repeat' (with_reducible refine W.next ?_)
     exact⟨by omega,wr,T5,hs5,H3.trans H5,k1.hop H5,kh,fun x=>by rw[hm5,hm3]⟩
    ·repeat' (with_reducible refine W.stop ?_)
     exact⟨T3,hs3,H3,kh,hm3⟩
   ·obtain⟨r,τ3⟩:=r
    obtain⟨T3,hs3,H3,kh,hm3⟩:=hr;dsimp only at H3 kh⊢;replace HH:=HH.trans H3.he;replace kp:=kp.hopH H3;replace kq:=kq.hop H3;replace ka:=ka.hop H3;replace k1:=k1.hop H3;replace ks:=ks.hop H3;replace kl:=kl.hop H3;replace kg:=kg.hop H3;replace hn:=H3.tn
    repeat' with_reducible first|refine W.asI ?_|refine W.fldp ?_|refine W.nck ?_|refine W.u0 ?_
    refine W.stT k1 hn (Nat.le_of_ble_eq_true (by rfl)) fun τ4 H4 k1 hnτ4=>?_
    repeat' with_reducible refine W.ret ?_
    exact⟨T3,hs3,HH.trans H4.oe,⟨_,_,_,_,_,_,_,_,_,k1,kp.hopO H4,kh.hopB H4,kq.hop H4,km,ks.hop H4,ksl,kl.hop H4,kg.hop H4,ka.hop H4⟩,hm3⟩
  ·repeat' with_reducible refine W.ret ?_
   exact⟨T1,hs1,HH,⟨_,_,_,_,_,_,_,_,_,k1,kp,kh,kq,km,ks,ksl,kl,kg,ka⟩,hm1⟩
theorem y60_(hS:StI n s):(s.backK 0).marks=[]:=by
 unfold PS.backK;cases hm:s.marks[0]? with
 |none=>
  have:=List.getElem?_eq_none_iff.1 hm;show s.marks=[];exact List.eq_nil_of_length_eq_zero (by omega)
 |some a'=>
  obtain⟨a,ea,_,_⟩:=hS.ti.mks 0 a' hm;subst ea;exact(hS.back hm).2.1
theorem AllB.push{ss:List (Bool×List Int)}{ws:List (Bool×AVal)}{b:Bool}{c:List Int}(h:AllB (σ.at T 0) ss ws)(hx:SlV .int (σ.at T 0) c x):AllB (σ.at T 0) (ss++[(b,c)]) (ws++[(b,x)]):=h.app (AllB.one (s:=(b,c)) hx)
def LgX(n i:Nat)(lg:List (Bool×List Int))(k:Nat)(lg':List (Bool×List Int)):Prop:=∃ds:List (Bool×List Int),lg'=lg++ds/\(∀d∈ds,d.1=true/\d.2.length<=n)/\k+ds.length<=i
theorem LgX.zero{lg:List (Bool×List Int)}:LgX n 0 lg 0 lg:=⟨[],by simp,by simp,by simp⟩
theorem LgX.stay{i:Nat}{lg':List (Bool×List Int)}(h:LgX n i lg k lg'):LgX n (i+1) lg (k+1) lg':=by
 obtain⟨ds,h1,h2,h3⟩:=h;exact⟨ds,h1,h2,by omega⟩
theorem LgX.drop{i:Nat}{lg':List (Bool×List Int)}{c:List Int}(h:LgX n i lg k lg')(hc:c.length<=n):LgX n (i+1) lg k (lg'++[(true,c)]):=by
 obtain⟨ds,h1,h2,h3⟩:=h;refine⟨ds++[(true,c)],by rw[h1,List.append_assoc],fun d hd=>?_,by simp;omega⟩;rcases List.mem_append.1 hd with q|q
 ·exact h2 d q
 ·rw[List.mem_singleton.1 q];exact⟨rfl,hc⟩
theorem yco_(E:EnX σ T e n s hs ln lg since least)(hn:Tn σ T)(L:EnL gl n C s hs ln lg since least w)(hn4:n<=4000)(hw:w<=860000000000) :
  W (S.z101 (.ptr e.le 0) σ) fun r=>∃T' s' hs' ln' lg',Hop eI σ T r.2 T'/\EnX r.2 T' e n s' hs' ln' lg' since least/\EnL gl n C s' hs' ln' lg' since least (w+1)/\s'.marks=[]/\LgX n ln.length lg ln'.length lg':=by
 unfold S.z101;refine W.bind ?_;refine W.mono (y52_ (k:=0) E hn L hn4) fun r hr=>?_;obtain⟨r,τ1⟩:=r;obtain⟨T1,hs1,HH,E,L⟩:=hr;dsimp only at HH E⊢;have hmk:=y60_ (s:=s) (n:=n) (by
  exact ‹EnL gl n C s hs ln lg since least w›.si)
 generalize s.backK 0=s1 at E L hmk;obtain⟨h,xs,xl,xg,conf,bump,most,sv,ws,E⟩:=E;have k1:=E.obj;have kl0:=E.lrn.slT;have hll:=L.z3
 repeat' with_reducible first|refine W.bind ?_|refine W.asV ?_|refine W.fldp ?_|refine W.len (by assumption) ?_|refine W.nck ?_|refine W.u0 ?_
 refine W.mono (P:=fun r=>∃T' s' ln' lg' h' xg' ws',Hop eI σ T r.2 T'/\EnH r.2 T' e n s' hs1 ln lg' since least h' xs xl xg' conf bump most sv ws'/\Own vLn (r.2.at T' 35) ln' r.1/\EnL gl n C s' hs1 ln' lg' since least (w+1)/\s'.marks=[]/\LgX n ln.length lg ln'.length lg') ?_ fun r hr=>?_
 ·refine W.loop ln.length (fun i (z:AVal×Int) τ=>z.2=(i:Int)/\∃T' s' st lg' h' xg' ws',Hop eI σ T τ T'/\EnH τ T' e n s' hs1 ln lg' since least h' xs xl xg' conf bump most sv ws'/\Own vLn (τ.at T' 35) st z.1/\EnL gl n C s' hs1 (st++ln.drop i) lg' since least (w+1)/\s'.marks=[]/\st.length<=i/\LgX n i lg st.length lg') ⟨rfl,T1,s1,[],lg,h,xg,ws,HH,E,.nil,by simpa using L,hmk,by simp,.zero⟩ fun i z τ2 hi hI2=>?_
  obtain⟨z,zi⟩:=z;obtain⟨hz,T2,s2,st,lg2,h2,xg2,ws2,HH,E,kS,L,hmk,hst,hX⟩:=hI2;dsimp only at hz kS⊢;subst hz;have wr:IntKind.i64.wrap ((i:Int)+1)=((i+1:Nat):Int):=by rw[wrapS]<;>omega
  unfold S.z101.b0
  (with_reducible refine W.cnd (fun hlt=>?_) (fun hlt=>?_)<;>(try simp only[qq,Kd.ty]at hlt)<;>(try (exfalso;omega)))
  ·obtain⟨⟨idv,score⟩,ha⟩:=y3_ (xs:=ln) (i:=i) (by omega)
   have hdr:ln.drop i=(idv,score)::ln.drop (i+1):=by
    rw[List.drop_eq_getElem_cons (by omega)];rw[(List.getElem?_eq_some_iff.1 ha).2]
   rw[hdr]at L;obtain⟨id,c,f,eid,hc⟩:=L.lnI (idv,score) (by simp);dsimp only at eid;subst eid;have ht:=L.si.ti;have hcn:=L.si.ci.len hc;have hcL:=(L.si.ci id c f hc).1;have hlg:=L.z4;have hlgw:lg2.length<=2*w+2:=by omega
   repeat' (with_reducible refine W.bind ?_)
   refine W.ixO E.lrn.slT (i:=i) (by omega) ?_;refine W.ldGO E.lrn.slT ha [.int .i64 (id:Int),.int .i64 score] (fun bs h=>h) ?_;have hn:=HH.tn;refine W.newT 28 hn fun l12 τ3 T3 hl12 H3 k28 hnτ3=>?_;replace HH:=HH.trans H3.oe;replace E:=E.hopE H3;replace kS:=kS.hop H3
   repeat' (with_reducible refine W.e3 ?_)
   have hn:=HH.tn;refine W.stT k28 hn (Nat.le_of_ble_eq_true (by rfl)) fun τ4 H4 k28 hnτ4=>?_;replace HH:=HH.trans H4.oe;replace E:=E.hopE H4;replace kS:=kS.hop H4;obtain⟨k1,kp,kh,kq,km,ks,ksl,kl,kg,ka⟩:=E
   repeat' with_reducible first|refine W.bind ?_|refine W.asI ?_|refine W.asV ?_|refine W.fldp ?_|refine W.nck ?_|refine W.u0 ?_
   refine W.mono (y1o_ kp HH.tn hc (by omega)) fun r hr=>?_;obtain⟨y,τ5⟩:=r;obtain⟨L5,hy⟩:=hr;dsimp only at L5 hy⊢;rw[if_pos rfl]at hy;replace HH:=HH.hle L5;replace kp:=kp.hle L5;replace kh:=kh.hle L5;replace kq:=kq.hle L5;replace ka:=ka.hle L5;replace k1:=k1.hle L5;replace ks:=ks.hle L5;replace kl:=kl.hle L5;replace kg:=kg.hle L5;replace kS:=kS.hle L5;replace k28:=k28.hle L5;have hyu:=hy.up
   repeat' with_reducible first|refine W.bind ?_|refine W.asI ?_|refine W.asV ?_|refine W.fldp ?_|refine W.nck ?_|refine W.u0 ?_
   refine W.mono (ygu_ kq HH.tn) fun r hr=>?_;obtain⟨kb,τ6⟩:=r;obtain⟨H6,kq⟩:=hr;dsimp only at H6 kq⊢;replace HH:=HH.trans H6.oe;replace kp:=kp.hopO H6;replace kh:=kh.hopB H6;replace ka:=ka.hop H6;replace kS:=kS.hop H6;replace k28:=k28.hop H6;replace hy:=hy.hop H6;replace k1:=k1.hop H6;replace ks:=ks.hop H6;replace kl:=kl.hop H6;replace kg:=kg.hop H6;replace hn:=H6.tn;have hyu:=hy.up;refine W.mono (P:=fun r=>(r.1=true/\r.2=τ6)\/(r.1=false/\(∀x∈s2.trail,x∈c->s2.re x≠id)/\∃T' h',Hop pI τ6 T3 r.2 T'/\PropH r.2 T' e.lp h' (s2.dropC id f))) ?_ fun r hr=>?_
   ·cases kb with
    |true=>
     refine W.condT rfl ?_
     repeat' with_reducible refine W.ret ?_
     exact .inl ⟨rfl,rfl⟩
    | false=>
     refine W.condF rfl ?_
     repeat' (with_reducible refine W.len (by assumption) ?_)
     (with_reducible refine W.cnd (fun hl2=>?_) (fun hl2=>?_)<;>(try simp only[qq,Kd.ty]at hl2)<;>(try (exfalso;omega)))
     ·repeat' with_reducible refine W.ret ?_
      exact .inl ⟨rfl,rfl⟩
     ·repeat' with_reducible first|refine W.bind ?_|refine W.asI ?_|refine W.asV ?_|refine W.fldp ?_|refine W.nck ?_|refine W.u0 ?_
      refine W.mono (ycu_ kp HH.tn ht hn4 hc hcL (by omega)) fun r hr=>?_;rcases hr with er|⟨e1,e2,e3⟩
      ·subst er
       repeat' with_reducible refine W.ret ?_
       exact .inl ⟨rfl,rfl⟩
      ·obtain⟨r,τ7⟩:=r
       dsimp only at e1 e3⊢;subst e1
       repeat' with_reducible refine W.ret ?_
       exact .inr ⟨rfl,e2,e3⟩
   ·obtain⟨b,τ7⟩:=r
    rcases hr with ⟨e1,e2⟩|⟨e1,e2,T7,h7,H7,kp⟩
    ·dsimp only at e1 e2⊢
     subst e1 e2;refine W.condT rfl ?_
     repeat' with_reducible first|refine W.e3 ?_|refine W.putC (by with_unfolding_all rfl) ?_|refine W.u1 ?_
     refine W.own_push (bytes:=16) y6y_ kS HH.tn (a:=((id:Int),score)) rfl (by omega) (by omega) fun x2 τ8 T8 kS H8=>?_
     repeat' with_reducible first|refine W.next ?_|refine W.ret ?_
     refine⟨by omega,wr,T8,s2,st++[((id:Int),score)],lg2,h2,xg2,ws2,HH.trans H8.oe,EnH.hopE ⟨k1,kp,kh,kq,km,ks,ksl,kl,kg,ka⟩ H8,kS,by rw[List.append_assoc];exact L,hmk,by simp;omega,by rw[List.length_append];exact hX.stay⟩
    ·dsimp only at e1 H7 kp⊢
     subst e1;refine W.condF rfl ?_;replace HH:=HH.trans H7.pe;replace kh:=kh.hopP H7;replace kq:=kq.hop H7;replace ka:=ka.hop H7;replace kS:=kS.hop H7;replace hy:=hy.hop H7;have hyu:=hy.up;replace k1:=k1.hop H7;replace ks:=ks.hop H7;replace kl:=kl.hop H7;replace kg:=kg.hop H7;replace hn:=H7.tn;have hwl:=ka.1
     repeat' with_reducible first|refine W.asV ?_|refine W.fldp ?_|refine W.scalS (by assumption) ?_|refine W.nck ?_|refine W.u0 ?_
     refine W.own_push (bytes:=32) y6u_ kg HH.tn (a:=(true,y)) rfl (by omega) (by omega) fun x2 τ8 T8 kg H8=>?_;replace HH:=HH.trans H8.oe;replace kp:=kp.hopO H8;replace kh:=kh.hopB H8;replace kq:=kq.hop H8;replace ka:=ka.hop H8;replace kS:=kS.hop H8;replace hy:=hy.hop H8;replace k1:=k1.hop H8;replace ks:=ks.hop H8;replace kl:=kl.hop H8;replace hn:=H8.tn
     repeat' with_reducible first|refine W.fldp ?_|refine W.nck ?_|refine W.u4 ?_
     refine W.stT k1 hn (Nat.le_of_ble_eq_true (by rfl)) fun τ9 H9 k1 hnτ9=>?_;replace HH:=HH.trans H9.oe;replace kp:=kp.hopO H9;replace kh:=kh.hopB H9;replace kq:=kq.hop H9;replace ka:=ka.hop H9;replace kS:=kS.hop H9;replace hy:=hy.hop H9;replace ks:=ks.hop H9;replace kl:=kl.hop H9;replace kg:=kg.hop H9;replace hn:=H9.tn
     repeat' with_reducible first|refine W.next ?_|refine W.ret ?_
     exact⟨by omega,wr,T8,s2.dropC id f,st,_,h7,x2,_,HH,⟨k1,kp,kh,kq,km,ks,ksl,kl,kg,ka.push hy⟩,kS,L.drop hc e2,hmk,by omega,hX.drop hcn⟩
  ·repeat' (with_reducible refine W.stop ?_)
   have:i=ln.length:=by omega
   subst this;rw[List.drop_length,List.append_nil]at L;exact⟨T2,s2,st,lg2,h2,xg2,ws2,HH,E,kS,L,hmk,hX⟩
 ·obtain⟨z,τ2⟩:=r
  obtain⟨T2,s2,st,lg2,h2,xg2,ws2,HH,E,kS,L,hmk,hX⟩:=hr;dsimp only at HH E kS⊢;obtain⟨T3,H3,kS⟩:=kS.retag (u:=33) y6y_ HH.tn;replace HH:=HH.trans H3.oe;obtain⟨k1,kp,kh,kq,km,ks,ksl,kl,kg,ka⟩:=E.hopE H3
  repeat' with_reducible first|refine W.fldp ?_|refine W.nck ?_|refine W.u4 ?_
  have hn:=HH.tn;refine W.stT k1 hn (Nat.le_of_ble_eq_true (by rfl)) fun τ4 H4 k1 hnτ4=>?_
  repeat' with_reducible refine W.ret ?_
  exact⟨T3,s2,hs1,st,lg2,HH.trans H4.oe,⟨_,_,_,_,_,_,_,_,_,k1,kp.hopO H4,kh.hopB H4,kq.hop H4,km,ks.hop H4,ksl,kS.hop H4,kg.hop H4,ka.hop H4⟩,L,hmk,hX⟩
end
end
section
open Go
section
variable{σ τ:Heap}{T T':Tg}{e:EnP}{n k id:Nat}{s:PS}{hs:List Int}{ln:List (Int×Int)}{lg:List (Bool×List Int)}{since least:Int}{h:PH}{xs xl xg x:AVal}{conf bump most:Int}{sv o c:List Int}{ws:List (Bool×AVal)}{gl f:Bool}{C:List (List Int)}{w:Nat}
theorem ydd_(hd:(c.map Int.natAbs).Nodup):(normL c).Perm c:=by
 have h1:c.Nodup:=by
  unfold List.Nodup at hd⊢;rw[List.pairwise_map]at hd;exact hd.imp fun hne e=>hne (by rw[e])
 exact(List.perm_ext_iff_of_nodup (yat_ c) h1).2 fun x=>yc_
theorem yaq_(hS:StI n s)(L:Lrn n s c){b a:Nat}(hm:s.marks[b]?=some (a:Int))(h1:∀y∈c.tail,s.lv y<=b)(h2:b=0\/∃y∈c.tail,s.lv y=b):Ready ((s.back b a).addC (normL c)) s.cls.length:=by
 obtain⟨u,t,e,hu,ht⟩:=L.hd;subst e;obtain⟨g0,g1,g2,g3,g4,g5,g6,g7,g8,g9,g10⟩:=hS.back hm;have hbl:=y2_ hm;have hP:=ydd_ L.nd;have hum:u∈u::t:=by simp
 have htl:∀y∈t,-y∈s.trail.take a:=fun y hy=>by
  have h3:=L.fs y (by simp[hy]);exact(g9 _ h3.1).2 (by rw[PS.lv_neg];exact h1 y hy)
 have hvu:val (s.back b a).vs u=0:=by
  have h3:=L.fs u hum;rw[g10,if_neg fun q=>hS.ti.notBoth (List.mem_of_mem_take q) h3.1,if_neg fun q=>?_];have:=(g9 _ h3.1).1 q;rw[PS.lv_neg]at this;omega
 have hvy:∀y∈t,val (s.back b a).vs y=2:=fun y hy=>by
  have h3:=htl y hy;rw[g10,if_neg fun q=>g0.ti.notBoth (by rw[g2];exact q) (by rw[g2];exact h3),if_pos h3]
 refine⟨normL (u::t),true,?_,u,yc_.2 hum,hvu,fun y hy hne=>?_,fun hl=>?_,fun hl=>?_⟩
 ·have:=y5r_ (s:=s.back b a) (c:=normL (u::t))
  rwa [g3]at this
 ·have:=yc_.1 hy
  rcases List.mem_cons.1 this with q|q
  ·exact absurd q hne
  ·exact hvy y q
 ·rw[hP.length_eq]at hl
  rcases h2 with q|⟨y,hy,q⟩
  ·exfalso
   subst q;cases t with
   |nil=>simp at hl
   |cons y t=>
    have h3:=(L.fs y (by simp)).2;have h4:=h1 y (by simp);omega
  ·refine⟨y,yc_.2 (by simp at hy⊢;exact .inr hy),fun e=>?_,?_⟩
   ·subst e
    have:=ht y hy;omega
   ·have h3:=g8 _ (htl y hy)
    rw[PS.lv_neg,PS.lv_neg]at h3;show(s.back b a).lv y=((s.back b a).marks.length:Int);rw[h3,q,g1];simp;omega
 ·rw[hP.length_eq]at hl
  have:t=[]:=by
   cases t with
   |nil=>rfl
   |cons y t=>simp at hl
  subst this;rcases h2 with q|⟨y,hy,_⟩
  ·subst q
   show(s.back 0 a).marks=[];rw[g1];simp
  ·simp at hy
def LgS(n:Nat)(ln:List (Int×Int))(lg:List (Bool×List Int))(ln':List (Int×Int))(lg':List (Bool×List Int)):Prop:=∃k:List Int,k.length<=n/\LgX n (ln.length+1) (lg++[(false,k)]) ln'.length lg'
theorem yf2_(E:EnX σ T e n s hs ln lg since least)(hn:Tn σ T)(L:EnL gl n C s hs ln lg since least w)(hn4:n<=4000)(hw:w<=851000000000)(hm:0<s.marks.length)(hlo:s.loose=[])(hc:s.cls[id]?=some (c,true,f))(hf:∀y∈c,val s.vs y=2)(hx:∃y∈c,s.lv y=s.marks.length) :
  W (S.z99 (.ptr e.le 0) (id:Int) σ) fun r=>r.1=true/\∃T' s' hs' ln' lg' since' least',Hop eI σ T r.2 T'/\EnX r.2 T' e n s' hs' ln' lg' since' least'/\EnL gl n C s' hs' ln' lg' since' least' (w+4) /\
   ((since'=since+1/\least'=least/\∃(b a:Nat) (k:List Int),s.marks[b]?=some (a:Int)/\s'=(s.back b a).addC (normL k)/\Ready s' s.cls.length)\/(s'.marks=[]/\since'=0/\least'=least+8/\least<=since+1))/\LgS n ln lg ln' lg':=by
 have hti:=L.si.ti;have hci:=L.si.ci;have z5:=L.z5;have z6:=L.z6;obtain⟨h,xs,xl,xg,conf,bump,most,sv,ws,E⟩:=E;obtain⟨k1,kp,kh,kq,km,ks,ksl,kl,kg,ka⟩:=E;unfold S.z99
 repeat' with_reducible first|refine W.asI ?_|refine W.fldp ?_|refine W.nck ?_|refine W.u0 ?_
 refine W.stT k1 hn (Nat.le_of_ble_eq_true (by rfl)) fun τ1 H1 k1 hnτ1=>?_;have HH:Hop eI σ T τ1 T:=H1.oe;replace kp:=kp.hopO H1;replace kh:=kh.hopB H1;replace kq:=kq.hop H1;replace ka:=ka.hop H1;replace ks:=ks.hop H1;replace kl:=kl.hop H1;replace kg:=kg.hop H1;replace hn:=H1.tn
 repeat' with_reducible first|refine W.bind ?_|refine W.asV ?_|refine W.fldp ?_|refine W.nck ?_|refine W.u0 ?_
 refine W.mono (ycg_ kq HH.tn km (by omega)) fun r hr=>?_;obtain⟨b,τ2⟩:=r;obtain⟨e2,H2,kq⟩:=hr;dsimp only at e2 H2 kq⊢;subst e2;replace HH:=HH.trans H2.oe;replace kp:=kp.hopO H2;replace kh:=kh.hopB H2;replace ka:=ka.hop H2;replace k1:=k1.hop H2;replace ks:=ks.hop H2;replace kl:=kl.hop H2;replace kg:=kg.hop H2;replace hn:=H2.tn;refine W.condF rfl ?_
 repeat' with_reducible first|refine W.bind ?_|refine W.asV ?_|refine W.fldp ?_|refine W.nck ?_|refine W.u0 ?_
 refine W.mono (ygr_ kp HH.tn hti hci hn4 hm hc hf hx) fun r hr=>?_;obtain⟨r,τ3⟩:=r;obtain⟨T3,xc,bk,sco,xsn,c1,o,H3,er,q1',q2',hL1,hov,hol⟩:=hr;dsimp only at er H3 q1' q2'⊢;subst er;replace HH:=HH.trans H3.te;have E3:EnH τ3 T3 e n s hs ln lg (since+1) least h xs xl xg _ bump most sv ws:=EnH.hopT ⟨k1,kp,kh,kq,km,ks,ksl,kl,kg,ka⟩ H3
 clear k1 kp kh kq ks kl kg ka
 dsimp only;have hn:=HH.tn;refine W.newT 35 hn fun l11 τ4 T4 hl11 H4 k29 hnτ4=>?_;replace HH:=HH.trans H4.oe;replace E3:=E3.hopE H4;replace q1':=q1'.hop H4;replace q2':=q2'.hop H4
 repeat' (with_reducible refine W.e3 ?_)
 have hn:=HH.tn;refine W.stT k29 hn (Nat.le_of_ble_eq_true (by rfl)) fun τ5 H5 k29 hnτ5=>?_;replace HH:=HH.trans H5.oe;replace E3:=E3.hopE H5;replace q1':=q1'.hop H5;replace q2':=q2'.hop H5;have k1:=E3.obj;refine W.condF rfl ?_
 repeat' with_reducible first|refine W.bind ?_|refine W.asV ?_|refine W.fldp ?_|refine W.nck ?_|refine W.u0 ?_
 refine W.mono (ye9_ E3.prop HH.tn hti hci hn4 hL1 q1') fun r hr=>?_;obtain⟨y,τ6⟩:=r;obtain⟨T6,k,H6,hk,hLk,_⟩:=hr;dsimp only at H6 hk⊢;obtain⟨hkL,hkn⟩:=hLk.lits hti;replace HH:=HH.trans H6.te;replace E3:=E3.hopT H6;replace q2':=q2'.hop H6;replace k29:=k29.hop H6;have k1:=E3.obj
 repeat' with_reducible first|refine W.bind ?_|refine W.asV ?_|refine W.fldp ?_|refine W.nck ?_|refine W.u0 ?_
 refine W.mono (ybd_ E3.prop hti hn4 HH.tn (t:=0) rfl hk hkL (by omega)) fun r hr=>?_;obtain⟨score,τ7⟩:=r;obtain⟨T7,H7⟩:=hr;dsimp only at H7⊢;replace HH:=HH.trans H7.oe;replace E3:=E3.hopE H7;replace q2':=q2'.hop H7;replace hk:=hk.hop H7;replace k29:=k29.hop H7;have k1:=E3.obj;have hkne:k≠[]:=by
  obtain⟨u,t,e,_⟩:=hLk.hd;rw[e];simp
 repeat' with_reducible first|refine W.bind ?_|refine W.asV ?_|refine W.fldp ?_|refine W.nck ?_|refine W.u0 ?_
 refine W.mono (y67_ E3.prop hti hn4 hk.up hkne hkL (by omega)) fun bk hbk=>?_;obtain⟨hb0,hb1,hb2⟩:=hbk;obtain⟨b,rfl⟩:∃b:Nat,bk=b:=⟨bk.toNat,by omega⟩;have hbm:b<s.marks.length:=by
  obtain⟨u,t,e,hu,ht⟩:=hLk.hd;rcases hb2 with q|⟨y,hy,q⟩
  ·omega
  ·rw[e]at hy
   have:=ht y (by simpa using hy);omega
 obtain⟨am,hma⟩:=y3_ (xs:=s.marks) (i:=b) hbm;obtain⟨a,ea,_,_⟩:=hti.mks b am hma;subst ea
 repeat' with_reducible first|refine W.bind ?_|refine W.asV ?_|refine W.u0 ?_
 have L1:EnL gl n C s hs ln lg (since+1) least (w+1):=(L.more (Nat.le_succ w)).pace (by omega) (by omega);refine W.mono (ycb_ ⟨_,_,_,_,_,_,_,_,_,E3⟩ HH.tn hn4 q2' hov (by omega)) fun r hr=>?_;obtain⟨r,τ8⟩:=r;obtain⟨T8,hs8,H8,E8,hm8⟩:=hr;dsimp only at H8 E8⊢;replace HH:=HH.trans H8;replace hk:=hk.hop H8;have L8:EnL gl n C s hs8 ln lg (since+1) least (w+1):=L1.heap fun v h1 h2 h3=>(hm8 _).2 (L1.hp v h1 h2 h3);refine W.bind ?_;refine W.mono (y52_ (k:=b) E8 HH.tn L8 hn4) fun r hr=>?_;obtain⟨r,τ9⟩:=r;obtain⟨T9,hs9,H9,E9,L9⟩:=hr;dsimp only at H9 E9⊢;replace HH:=HH.trans H9;replace hk:=hk.hop H9;have eb:s.backK b=s.back b a:=by unfold PS.backK;rw[hma];rfl
 rw[eb]at E9 L9;have hRdy:=yaq_ L.si hLk hma hb1 (hb2.imp (fun q=>by omega) fun q=>q);obtain⟨_,g1,g2,g3,g4,g5,_⟩:=L.si.back hma;have hdbE:(s.back b a).db=s.db:=by unfold PS.db;rw[g3]
 have hL10:EnL gl n C ((s.back b a).addC (normL k)) hs9 (ln++[((s.cls.length:Int),score)]) (lg++[(false,k)]) (since+1) least (w+1+1+1):=by
  have:=L9.learn hkL hLk.nd (by rw[hdbE];exact hLk.conf) (score:=score)
  rwa [g3]at this
 have z1:=L9.z1;have z2:=L9.z2;obtain⟨h9,xs9,xl9,xg9,conf9,bump9,most9,sv9,ws9,k1,kp,kh,kq,km,ks,ksl,kl,kg,ka⟩:=E9;have hwat:∀w'∈(s.back b a).wat,w'.length+10<=8700000000000:=fun w' hw'=>by
  have:=y5e_ hw';omega
 repeat' with_reducible first|refine W.bind ?_|refine W.asV ?_|refine W.fldp ?_|refine W.nck ?_|refine W.u0 ?_
 refine W.mono (y8v_ (n:=n) kp HH.tn L9.si.ti.len hn4 hk (by
  rw[List.all_eq_true];exact fun l hl=>y50_ (hkL l hl) hn4) (by omega) (by omega) (by omega) hwat) fun r hr=>?_
 have hgood:y1w_ n k=false:=by
  unfold y1w_;rw[y71_ hLk.nd];simp only[Bool.not_true,Bool.false_or,List.any_eq_false];intro l hl;simp[hkL l (yc_.1 hl)]
 obtain⟨r,τ10⟩:=r;obtain⟨T10,h10,H10,hr⟩:=hr;rcases hr with ⟨q,_⟩|⟨_,er,kp⟩
 ·rw[hgood]at q;cases q
 dsimp only at H10 er kp⊢;subst er;rw[ycx_]at kp;replace HH:=HH.trans H10.pe;replace hk:=hk.hop H10;replace kh:=kh.hopP H10;replace kq:=kq.hop H10;replace ka:=ka.hop H10;replace k1:=k1.hop H10;replace ks:=ks.hop H10;replace kl:=kl.hop H10;replace kg:=kg.hop H10;replace hn:=H10.tn;refine W.bind ?_;refine W.condT rfl ?_;rw[g3];have z3:=L9.z3;have z4:=L9.z4;have hwl:=ka.1
 repeat' with_reducible first|refine W.asV ?_|refine W.fldp ?_|refine W.nck ?_|refine W.u0 ?_
 refine W.own_push (bytes:=16) y6y_ kl HH.tn (a:=((s.cls.length:Int),score)) rfl (by omega) (by omega) fun x2 τ11 T11 kl H11=>?_;replace HH:=HH.trans H11.oe;replace hk:=hk.hop H11;replace kp:=kp.hopO H11;replace kh:=kh.hopB H11;replace kq:=kq.hop H11;replace ka:=ka.hop H11;replace k1:=k1.hop H11;replace ks:=ks.hop H11;replace kg:=kg.hop H11;replace hn:=H11.tn
 repeat' with_reducible first|refine W.fldp ?_|refine W.nck ?_|refine W.u4 ?_
 refine W.stT k1 hn (Nat.le_of_ble_eq_true (by rfl)) fun τ12 H12 k1 hnτ12=>?_;replace HH:=HH.trans H12.oe;replace hk:=hk.hop H12;replace kp:=kp.hopO H12;replace kh:=kh.hopB H12;replace kq:=kq.hop H12;replace ka:=ka.hop H12;replace ks:=ks.hop H12;replace kl:=kl.hop H12;replace kg:=kg.hop H12;replace hn:=H12.tn;have hku:=hk.up
 repeat' with_reducible first|refine W.ret ?_|refine W.asV ?_|refine W.fldp ?_|refine W.scalS (by assumption) ?_|refine W.nck ?_|refine W.u0 ?_
 refine W.own_push (bytes:=32) y6u_ kg HH.tn (a:=(false,y)) rfl (by omega) (by omega) fun x3 τ13 T13 kg H13=>?_;replace HH:=HH.trans H13.oe;replace hk:=hk.hop H13;replace kp:=kp.hopO H13;replace kh:=kh.hopB H13;replace kq:=kq.hop H13;replace ka:=ka.hop H13;replace k1:=k1.hop H13;replace ks:=ks.hop H13;replace kl:=kl.hop H13;replace hn:=H13.tn
 repeat' with_reducible first|refine W.fldp ?_|refine W.nck ?_|refine W.u4 ?_
 refine W.stT k1 hn (Nat.le_of_ble_eq_true (by rfl)) fun τ14 H14 k1 hnτ14=>?_;replace HH:=HH.trans H14.oe;replace hk:=hk.hop H14;replace kp:=kp.hopO H14;replace kh:=kh.hopB H14;replace kq:=kq.hop H14;replace ka:=ka.hop H14;replace ks:=ks.hop H14;replace kl:=kl.hop H14;replace kg:=kg.hop H14;replace hn:=H14.tn
 repeat' with_reducible first|refine W.bind ?_|refine W.asV ?_|refine W.fldp ?_|refine W.nck ?_|refine W.u0 ?_
 refine W.mono (yda_ kq HH.tn (by omega)) fun r hr=>?_;obtain⟨rb,τ15⟩:=r;obtain⟨since',least',H15,kq,hcase⟩:=hr;dsimp only at H15 kq hcase⊢;replace HH:=HH.trans H15.oe;have E15:EnX τ15 T13 e n ((s.back b a).addC (normL k)) hs9 (ln++[((s.cls.length:Int),score)]) (lg++[(false,k)]) since' least':=⟨_,_,_,_,_,_,_,_,_,k1.hop H15,kp.hopO H15,kh.hopB H15,kq,km,ks.hop H15,ksl,kl.hop H15,kg.hop H15,(ka.push hk).hop H15⟩;rcases hcase with ⟨er,es,el⟩|⟨er,hls,es,el⟩
 ·subst er es el
  refine W.bind ?_;refine W.condF rfl ?_
  repeat' with_reducible refine W.ret ?_
  exact⟨rfl,T13,_,hs9,_,_,_,_,HH,E15,hL10.more (by omega),.inl ⟨rfl,rfl,b,a,k,hma,rfl,hRdy⟩,k,hkn,[],by simp,by simp,by simp⟩
 ·subst er es el
  refine W.bind ?_;refine W.condT rfl ?_;have hL15:EnL gl n C ((s.back b a).addC (normL k)) hs9 (ln++[((s.cls.length:Int),score)]) (lg++[(false,k)]) 0 (least+8) (w+1+1+1):=hL10.pace (by omega) (by omega);refine W.bind ?_;refine W.mono (yco_ E15 HH.tn hL15 hn4 (by omega)) fun r hr=>?_;obtain⟨r,τ16⟩:=r;obtain⟨T16,s16,hs16,ln16,lg16,H16,E16,L16,hm16,hX16⟩:=hr
  repeat' with_reducible refine W.ret ?_
  exact⟨rfl,T16,s16,hs16,ln16,lg16,_,_,HH.trans H16,E16,L16,.inr ⟨hm16,rfl,rfl,hls⟩,k,hkn,by rw[List.length_append]at hX16;exact hX16⟩
end
end
section
open Go
theorem ya1_{α:Type}[BEq α][LawfulBEq α]:∀{xs ys:List α},xs.Nodup->(∀x∈xs,x∈ys)->xs.length<=ys.length
 |[],ys,_,_=>by simp
 |a::t,ys,hn,h=>by
  obtain⟨h1,h2⟩:=List.nodup_cons.1 hn;have:=ya1_ (xs:=t) (ys:=ys.erase a) h2 fun x hx=>(List.mem_erase_of_ne (show x≠a from fun e=>h1 (by rw[<-e];exact hx))).2 (h x (by simp[hx]));have h3:=List.length_erase_of_mem (h a (by simp));have h4:=List.length_pos_of_mem (h a (by simp));simp;omega
theorem W.mk0T{α R:Type}{Q:R->Prop}{v:Vw α}(t:Nat){σ:Heap}{T:Tg}(hn:Tn σ T){n bytes sz:Nat}{z:List AVal}(hsz:sz=v.sz)(hb:n*bytes<=70368744177664)(hb':n<=70368744177664){K:AVal->Heap->Option R}
  (c:∀x τ T',Hop (only t) σ T τ T'->Own v (τ.at T' t) [] x->W (K x τ) Q):W (mkS σ sz bytes z 0 (n:Int) K) Q:=by
 subst hsz;have e:mkS σ v.sz bytes z 0 (n:Int) K=K (.sl σ.next 0 0 none) (σ.new (.cells .rw v.sz (rep n z))):=by
  simp only[mkS,newK];rw[if_pos ⟨by omega,by omega,by omega,by omega⟩,Int.toNat_natCast];rfl
 refine W.to e (c _ _ (T.upd σ.next t) (y27_ hn) (.inr ⟨σ.next,0,none,_,rfl,Nat.lt_succ_self _,at_of y14_ (by rw[yk_,if_pos rfl]),(fun k e=>by cases e),by simp,fun i b hi=>by simp at hi⟩))
section
variable{σ τ:Heap}{T T':Tg}{e:EnP}{n k id:Nat}{s:PS}{hs:List Int}{ln:List (Int×Int)}{lg:List (Bool×List Int)}{since least:Int}{h:PH}{xs xl xg x:AVal}{conf bump most:Int}{sv o c A core:List Int}{ws:List (Bool×AVal)}{gl f:Bool}{C:List (List Int)}{w:Nat}
theorem ya4_(E:EnX σ T e n s hs ln lg since least)(hn:Tn σ T)(L:EnL gl n C s hs ln lg since least w)(hw:w<=860000000000)(hc:SlV .int (σ.at T 0) core x)(hcl:core.length<=100000)(hcb:∀l∈core,inB l=true)(hC:Conf s.db core) :
  W (S.z97 (.ptr e.le 0) x σ) fun r=>∃T',Hop eI σ T r.2 T'/\r.1=.agg [.bool false,.nils,x]/\EnX r.2 T' e n s hs ln (lg++[(false,negs core)]) since least/\EnL gl n C s hs ln (lg++[(false,negs core)]) since least (w+1):=by
 have L':=L.final hC;have z4:=L.z4;obtain⟨h,xs,xl,xg,conf,bump,most,sv,ws,E⟩:=E;have hcu:=hc.up;unfold S.z97;refine W.newT 35 hn fun l1 τ1 T1 hl1 H1 k35 hnτ1=>?_;have HH:Hop eI σ T τ1 T1:=H1.oe;replace E:=E.hopE H1;replace hc:=hc.hop H1
 repeat' (with_reducible refine W.len (by assumption) ?_)
 refine W.mk0T (v:=.int) 28 HH.tn rfl (by omega) (by omega) fun y τ2 T2 H2 k28=>?_;replace HH:=HH.trans H2.oe;replace E:=E.hopE H2;replace hc:=hc.hop H2;replace k35:=k35.hop H2
 repeat' with_reducible first|refine W.bind ?_|refine W.len (by assumption) ?_
 refine W.mono (P:=fun r=>∃T',Hop (only 28) τ2 T2 r.2 T'/\Own .int (r.2.at T' 28) (negs core) r.1) ?_ fun r hr=>?_
 ·refine W.loop core.length (fun i (z:AVal×Int) τ=>z.2=(i:Int)/\∃T',Hop (only 28) τ2 T2 τ T'/\SlV .int (τ.at T' 0) core x/\Own .int (τ.at T' 28) (negs (core.take i)) z.1) ⟨rfl,T2,Hop.refl HH.tn,hc,k28⟩ fun i z τ3 hi hI2=>?_
  obtain⟨z,zi⟩:=z;obtain⟨hz,T3,H3,hc,k28⟩:=hI2;dsimp only at hz k28;subst hz;have wr:IntKind.i64.wrap ((i:Int)+1)=((i+1:Nat):Int):=by rw[wrapS]<;>omega
  unfold S.z97.b0
  (with_reducible refine W.cnd (fun hlt=>?_) (fun hlt=>?_)<;>(try simp only[qq,Kd.ty]at hlt)<;>(try (exfalso;omega)))
  ·obtain⟨a,ha⟩:=y3_ (xs:=core) (i:=i) (by omega)
   have hab:=hcb a (List.mem_of_getElem? ha);simp only[inB,Bool.and_eq_true,decide_eq_true_eq]at hab;have wa:IntKind.i64.wrap (0-a) = -a:=by rw[wrapS]<;>omega
   have hcu:=hc.up
   repeat' (with_reducible refine W.e2 ?_)
   rw[wa];refine W.own_push (bytes:=8) Vw.int_flat k28 H3.tn (a:=-a) rfl (by simp;omega) (by simp;omega) fun x2 τ4 T4 k28 H4=>?_
   repeat' (with_reducible refine W.next ?_)
   have htk:core.take (i+1)=core.take i++[a]:=by rw[List.take_add_one,ha];rfl
   refine⟨by omega,wr,T4,H3.trans H4,hc.hop H4,?_⟩;rw[htk,show negs (core.take i++[a])=negs (core.take i)++[-a] by simp[negs]];exact k28
  ·repeat' (with_reducible refine W.stop ?_)
   rw[List.take_of_length_le (by omega)]at k28;exact⟨T3,H3,k28⟩
 ·obtain⟨y2,τ3⟩:=r
  obtain⟨T3,H3,k28⟩:=hr;dsimp only at H3 k28⊢;replace HH:=HH.trans H3.oe;replace E:=E.hopE H3;replace hc:=hc.hop H3;replace k35:=k35.hop H3;obtain⟨T4,H4,k0⟩:=k28.retag (u:=0) Vw.int_flat HH.tn;replace HH:=HH.trans H4.oe;obtain⟨k1,kp,kh,kq,km,ks,ksl,kl,kg,ka⟩:=E.hopE H4;replace hc:=hc.hop H4;replace k35:=k35.hop H4;replace k0:=k0.sl;have k0u:=k0.up;have hwl:=ka.1
  repeat' with_reducible first|refine W.asV ?_|refine W.fldp ?_|refine W.scalS (by assumption) ?_|refine W.nck ?_|refine W.u0 ?_
  refine W.own_push (bytes:=32) y6u_ kg HH.tn (a:=(false,y2)) rfl (by omega) (by omega) fun x3 τ5 T5 kg H5=>?_;replace HH:=HH.trans H5.oe;replace hc:=hc.hop H5;replace k0:=k0.hop H5;replace k35:=k35.hop H5;replace kp:=kp.hopO H5;replace kh:=kh.hopB H5;replace kq:=kq.hop H5;replace ka:=ka.hop H5;replace k1:=k1.hop H5;replace ks:=ks.hop H5;replace kl:=kl.hop H5;replace hn:=H5.tn
  repeat' with_reducible first|refine W.fldp ?_|refine W.nck ?_|refine W.u4 ?_
  refine W.stT k1 hn (Nat.le_of_ble_eq_true (by rfl)) fun τ6 H6 k1 hnτ6=>?_;replace HH:=HH.trans H6.oe;replace hc:=hc.hop H6;replace k0:=k0.hop H6;replace k35:=k35.hop H6;replace kp:=kp.hopO H6;replace kh:=kh.hopB H6;replace kq:=kq.hop H6;replace ka:=ka.hop H6;replace ks:=ks.hop H6;replace kl:=kl.hop H6;replace kg:=kg.hop H6;replace hn:=H6.tn;have hcu:=hc.up
  repeat' (with_reducible refine W.scalS (by assumption) ?_)
  have hn:=HH.tn;refine W.stT k35 hn (Nat.le_of_ble_eq_true (by rfl)) fun τ7 H7 k35 hnτ7=>?_
  repeat' with_reducible first|refine W.ret ?_|refine W.u1 ?_
  exact⟨T5,HH.trans H7.oe,rfl,⟨_,_,_,_,_,_,_,_,_,EnH.hopE ⟨k1,kp,kh,kq,km,ks,ksl,kl,kg,ka.push k0⟩ H7⟩,L'⟩
theorem ycv_(E:EnX σ T e n s hs ln lg since least)(hn:Tn σ T)(L:EnL gl n C s hs ln lg since least w)(hn4:n<=4000)(hA:AsI s A)(hc:SlV .int (σ.at T 0) A x)(hAl:A.length<=100000)(hAL:∀l∈A,isL l n=true) :
    W (S.z94 (.ptr e.le 0) x σ) fun r=>∃T',Hop eI σ T r.2 T' /\
      ((∃l∈A,r.1=(true,.nils)/\val s.vs l=0/\isL l n=true/\AsI (s.dec l) A/\EnX r.2 T' e n (s.dec l) hs ln lg since least) \/
       (∃core y,r.1=(false,y)/\SlV .int (r.2.at T' 0) core y/\core≠[]/\(∀l∈core,l∈A)/\Conf s.db core/\core.length<=n+1/\EnX r.2 T' e n s hs ln lg since least) \/
       (r.1=(false,.nils)/\(∀l∈A,l∈s.trail)/\EnX r.2 T' e n s hs ln lg since least)):=by
  have ht:=L.si.ti;have hcu:=hc.up;unfold S.z94
  repeat' with_reducible first|refine W.bind ?_|refine W.len (by assumption) ?_
  refine W.mono (P:=fun(r:(Unit⊕(Bool×AVal))×Heap)=>∃T',Hop eI σ T r.2 T' /\
      ((∃l∈A,r.1=.inr (true,.nils)/\val s.vs l=0/\isL l n=true/\AsI (s.dec l) A/\EnX r.2 T' e n (s.dec l) hs ln lg since least) \/
       (∃core y,r.1=.inr (false,y)/\SlV .int (r.2.at T' 0) core y/\core≠[]/\(∀l∈core,l∈A)/\Conf s.db core/\core.length<=n+1/\EnX r.2 T' e n s hs ln lg since least) \/
       (r.1=.inl ()/\(∀l∈A,l∈s.trail)/\EnX r.2 T' e n s hs ln lg since least))) ?_ fun r hr=>?_
  · refine W.loop A.length (fun i (z:Int) τ=>z=(i:Int)/\τ=σ/\∀(j:Nat) l,j<i->A[j]?=some l->l∈s.trail) ⟨rfl,rfl,fun j l hj=>by omega⟩ fun i z τ hi hI2=>?_
    obtain⟨rfl,rfl,hall⟩:=hI2;have wr:IntKind.i64.wrap ((i:Int)+1)=((i+1:Nat):Int):=by rw[wrapS]<;>omega
    unfold S.z94.b0
    (with_reducible refine W.cnd (fun hlt=>?_) (fun hlt=>?_)<;>(try simp only[qq,Kd.ty]at hlt)<;>(try (exfalso;omega)))
    · obtain ⟨a,ha⟩:=y3_ (xs:=A) (i:=i) (by omega)
      have haA:=List.mem_of_getElem? ha;have haL:=hAL a haA;have hE:=E;obtain⟨h,xs,xl,xg,conf,bump,most,sv,ws,E⟩:=E;have E0:=E;obtain⟨k1,kp,kh,kq,km,ks,ksl,kl,kg,ka⟩:=E
      repeat' with_reducible first|refine W.bind ?_|refine W.asV ?_|refine W.fldp ?_|refine W.e2 ?_|refine W.nck ?_|refine W.u0 ?_
      refine W.to (y1l_ kp ht hn4 haL) ?_
      repeat' with_reducible refine W.ret ?_
      by_cases hv0:val s.vs a=0
      · refine W.condT (by simp[hv0]) ?_
        repeat' with_reducible first|refine W.bind ?_|refine W.asV ?_|refine W.fldp ?_|refine W.nck ?_|refine W.u0 ?_
        refine W.mono (y6d_ kp hn ht hn4 haL hv0) fun r hr=>?_;obtain⟨b,τ1⟩:=r;obtain⟨_,T1,h1,H1,kp⟩:=hr;dsimp only at H1 kp⊢
        repeat' (with_reducible refine W.stop ?_)
        exact⟨T1,H1.pe,.inl ⟨a,haA,rfl,hv0,haL,(hA.decA ht haL hv0 haA).1,_,_,_,_,_,_,_,_,_,k1.hop H1,kp,kh.hopP H1,kq.hop H1,km,ks.hop H1,ksl,kl.hop H1,kg.hop H1,ka.hop H1⟩⟩
      · refine W.condF (by simp[hv0]) ?_
        by_cases hv2:val s.vs a=2
        · refine W.condT (by simp[hv2]) ?_
          repeat' with_reducible first|refine W.bind ?_|refine W.asV ?_|refine W.fldp ?_|refine W.nck ?_|refine W.u0 ?_
          refine W.mono (yff_ kp hn ht L.si.ci hn4 haL hv2) fun r hr=>?_;obtain⟨y,τ1⟩:=r;obtain⟨T1,ds,H1,k20,hds,hD,hdl⟩:=hr;dsimp only at H1 k20⊢;refine W.own_push (bytes:=8) Vw.int_flat k20 H1.tn (a:=a) rfl (by omega) (by omega) fun x2 τ2 T2 k20 H2=>?_
          repeat' (with_reducible refine W.stop ?_)
          obtain⟨T3,H3,k0⟩:=k20.retag (u:=0) Vw.int_flat H2.tn;refine⟨T3,(H1.te.trans H2.oe).trans H3.oe,.inr (.inl ⟨ds++[a],x2,rfl,k0.sl,by simp,fun l hl=>?_,.inl ⟨a,.start (by simp),hD.mono (fun c hc=>⟨c,hc,fun v=>Iff.rfl⟩) fun l hl=>by simp[hl]⟩,by simp;omega,_,_,_,_,_,_,_,_,_,((E0.hopT H1).hopE H2).hopE H3⟩)⟩;rcases List.mem_append.1 hl with q|q
          · obtain⟨g1,g2⟩:=hds l q
            obtain⟨i',hi'⟩:=y9_ g1;obtain⟨kk,a1,a2,a3⟩:=hA;have hkk:kk=s.marks.length:=Decidable.byContradiction fun hne=>by
              have:=(a3 (by omega) a haA).1;exact ht.notBoth this (ht.neg.1 hv2)
            rcases ht.rs i' l hi' with ⟨_,k',b1,b2⟩|⟨id,c,f,b1,_⟩
            · exact a2 k' i' l (by have:=y2_ b2;omega) b2 hi'
            · omega
          · rw[List.mem_singleton.1 q];exact haA
        · refine W.condF (by simp[hv2]) ?_
          repeat' (with_reducible refine W.next ?_)
          have:=y3q_ ht.ok a;refine⟨by omega,wr,rfl,fun j l hj hl=>?_⟩;by_cases ej:j=i
          · subst ej;rw[ha]at hl;cases hl;exact(ht.tr a).1 (by omega)
          · exact hall j l (by omega) hl
    · repeat' (with_reducible refine W.stop ?_)
      exact⟨T,Hop.refl hn,.inr (.inr ⟨rfl,fun l hl=>by
        obtain⟨j,hj⟩:=y9_ hl;exact hall j l (by have:=y2_ hj;omega) hj,E⟩)⟩
  · obtain⟨r,τ1⟩:=r
    obtain⟨T1,H1,hr⟩:=hr;rcases hr with ⟨l,hl,er,g⟩|⟨core,y,er,g⟩|⟨er,g⟩
    · dsimp only at er⊢
      subst er
      repeat' with_reducible refine W.ret ?_
      exact⟨T1,H1,.inl ⟨l,hl,rfl,g⟩⟩
    · dsimp only at er⊢
      subst er
      repeat' with_reducible refine W.ret ?_
      exact⟨T1,H1,.inr (.inl ⟨core,y,rfl,g⟩)⟩
    · dsimp only at er⊢
      subst er
      repeat' with_reducible refine W.ret ?_
      exact⟨T1,H1,.inr (.inr ⟨rfl,g⟩)⟩
theorem ydv_(E:EnX σ T e n s hs ln lg since least)(hn:Tn σ T)(L:EnL gl n C s hs ln lg since least w)(hn4:n<=4000) :
    W (S.z98 (.ptr e.le 0) σ) fun r=>∃T' hs',Hop eI σ T r.2 T' /\
      ((r.1=true/\∃l,val s.vs l=0/\isL l n=true/\EnX r.2 T' e n (s.dec l) hs' ln lg since least/\∀v:Nat,1<=v->v<=n->val s.vs v=0->v≠l.natAbs->(v:Int)∈hs') \/
       (r.1=false/\(∀l,isL l n=true->val s.vs l≠0)/\EnX r.2 T' e n s hs' ln lg since least)):=by
  have ht:=L.si.ti;unfold S.z98;refine W.bind ?_;refine W.mono (P:=fun(r:(Unit⊕Bool)×Heap)=>∃T' hs',Hop eI σ T r.2 T' /\
      ((r.1=.inr true/\∃l,val s.vs l=0/\isL l n=true/\EnX r.2 T' e n (s.dec l) hs' ln lg since least/\∀v:Nat,1<=v->v<=n->val s.vs v=0->v≠l.natAbs->(v:Int)∈hs') \/
       (r.1=.inl ()/\(∀l,isL l n=true->val s.vs l≠0)/\EnX r.2 T' e n s hs' ln lg since least))) ?_ fun r hr=>?_
  · refine W.loopI (m:=hs.length) (fun m (_:Unit) τ=>∃(T':Tg) (hs':List Int),Hop eI σ T τ T'/\EnX τ T' e n s hs' ln lg since least/\hs'.length=m/\∀v:Nat,1<=v->v<=n->val s.vs v=0->(v:Int)∈hs') ⟨T,hs,Hop.refl hn,E,rfl,L.hp⟩ fun m _ τ hI2=>?_
    obtain⟨T1,hs1,HH,E,hm,hcov⟩:=hI2;obtain⟨h,xs,xl,xg,conf,bump,most,sv,ws,k1,kp,kh,kq,km,ks,ksl,kl,kg,ka⟩:=E;unfold S.z98.b0
    repeat' with_reducible first|refine W.bind ?_|refine W.asV ?_|refine W.fldp ?_|refine W.nck ?_|refine W.u0 ?_
    refine W.to (ycl_ kh) ?_
    repeat' with_reducible refine W.ret ?_
    (with_reducible refine W.cnd (fun hpos=>?_) (fun hpos=>?_)<;>(try simp only[qq,Kd.ty]at hpos)<;>(try (exfalso;omega)))
    · have hne:hs1≠[]:=fun q=>by rw[q]at hpos;simp at hpos
      repeat' with_reducible first|refine W.bind ?_|refine W.asV ?_|refine W.fldp ?_|refine W.nck ?_|refine W.u0 ?_
      refine W.mono (tie_w kq HH.tn) fun r hr=>?_;obtain⟨tie,τ2⟩:=r;obtain⟨H2,kq⟩:=hr;dsimp only at H2 kq⊢;replace HH:=HH.trans H2.oe;replace kp:=kp.hopO H2;replace kh:=kh.hopB H2;replace ka:=ka.hop H2;replace k1:=k1.hop H2;replace ks:=ks.hop H2;replace kl:=kl.hop H2;replace kg:=kg.hop H2;replace hn:=H2.tn
      repeat' with_reducible first|refine W.bind ?_|refine W.asV ?_|refine W.chk rfl ?_|refine W.u0 ?_
      refine W.mono (yd1_ kh HH.tn hn4 hne) fun r hr=>?_;obtain⟨r,τ3⟩:=r;obtain⟨v,er,hvm,T3,hs3,H3,kh3,hm3⟩:=hr;dsimp only at er H3 kh3⊢;subst er;have hvr:=kh.rng hvm;have hvL:isL (v:Int) n=true:=ym_.2 ⟨by omega,by omega,by omega⟩;have hlen3:hs3.length<hs1.length:=by
        have hnd:hs3.Nodup:=by
          obtain⟨_,_,_,_,_,_,H,_⟩:=kh3;exact H.nod
        have hsub:∀x∈(v:Int)::hs3,x∈hs1:=fun x hx=>by
          rcases List.mem_cons.1 hx with q|q
          · rw[q];exact hvm
          · exact((hm3 x).1 q).1
        have hnd2:((v:Int)::hs3).Nodup:=List.nodup_cons.2 ⟨fun q=>((hm3 _).1 q).2 rfl,hnd⟩;have:=ya1_ hnd2 hsub;simp at this;omega
      replace HH:=HH.trans H3.hbe;replace kp:=kp.hopHB H3;replace kq:=kq.hop H3;replace ka:=ka.hop H3;replace k1:=k1.hop H3;replace ks:=ks.hop H3;replace kl:=kl.hop H3;replace kg:=kg.hop H3;replace hn:=H3.tn
      repeat' with_reducible first|refine W.bind ?_|refine W.asV ?_|refine W.fldp ?_|refine W.nck ?_|refine W.u0 ?_
      refine W.to (y1l_ kp ht hn4 hvL) ?_
      repeat' with_reducible refine W.ret ?_
      have hcov3:∀u:Nat,1<=u->u<=n->val s.vs u=0->u≠v->(u:Int)∈hs3:=fun u h1 h2 h3 h4=>(hm3 _).2 ⟨hcov u h1 h2 h3,fun q=>h4 (Int.ofNat.inj q)⟩;by_cases hv0:val s.vs v=0
      · refine W.condF (by simp[hv0]) ?_
        obtain⟨sa,hsa⟩:=y3_ (xs:=sv) (i:=v) (by omega)
        repeat' with_reducible first|refine W.bind ?_|refine W.asV ?_|refine W.fldp ?_|refine W.nck ?_|refine W.u0 ?_|refine W.u2 ?_
        refine W.mono (yh1_ kq HH.tn) fun r hr=>?_;obtain⟨sb,τ4⟩:=r;obtain⟨H4,kq⟩:=hr;dsimp only at H4 kq⊢;replace HH:=HH.trans H4.oe;replace kp:=kp.hopO H4;replace kh3:=kh3.hopB H4;replace ka:=ka.hop H4;replace k1:=k1.hop H4;replace ks:=ks.hop H4;replace kl:=kl.hop H4;replace kg:=kg.hop H4;replace hn:=H4.tn;have wn:IntKind.i64.wrap (0-(v:Int)) = -(v:Int):=by rw[wrapS]<;>omega
        cases sb with
        | true=>
          refine W.condT rfl ?_
          repeat' with_reducible first|refine W.bind ?_|refine W.asV ?_|refine W.fldp ?_|refine W.nck ?_|refine W.u0 ?_
          refine W.mono (y6d_ kp HH.tn ht hn4 hvL hv0) fun r hr=>?_;obtain⟨b,τ5⟩:=r;obtain⟨eb,T5,h5,H5,kp⟩:=hr;dsimp only at eb H5 kp⊢;subst eb
          repeat' (with_reducible refine W.stop ?_)
          exact⟨T5,hs3,HH.trans H5.pe,.inl ⟨rfl,v,hv0,hvL,⟨_,_,_,_,_,_,_,_,_,k1.hop H5,kp,kh3.hopP H5,kq.hop H5,km,ks.hop H5,ksl,kl.hop H5,kg.hop H5,ka.hop H5⟩,fun u h1 h2 h3 h4=>hcov3 u h1 h2 h3 (by simpa using h4)⟩⟩
        | false=>
          have hvL':=y8e_ hvL;have hv0':val s.vs (-(v:Int))=0:=by rw[y5v_ ht.ok,if_pos hv0]
          refine W.condF rfl ?_
          repeat' with_reducible first|refine W.bind ?_|refine W.asV ?_|refine W.fldp ?_|refine W.nck ?_|refine W.u0 ?_
          rw[wn];refine W.mono (y6d_ kp HH.tn ht hn4 hvL' hv0') fun r hr=>?_;obtain⟨b,τ5⟩:=r;obtain⟨eb,T5,h5,H5,kp⟩:=hr;dsimp only at eb H5 kp⊢;subst eb
          repeat' (with_reducible refine W.stop ?_)
          exact⟨T5,hs3,HH.trans H5.pe,.inl ⟨rfl,-(v:Int),hv0',hvL',⟨_,_,_,_,_,_,_,_,_,k1.hop H5,kp,kh3.hopP H5,kq.hop H5,km,ks.hop H5,ksl,kl.hop H5,kg.hop H5,ka.hop H5⟩,fun u h1 h2 h3 h4=>hcov3 u h1 h2 h3 (by simpa using h4)⟩⟩
      · refine W.condT (by simp[hv0]) ?_
        repeat' (with_reducible refine W.next ?_)
        exact⟨hs3.length,by omega,T3,hs3,HH,⟨_,_,_,_,_,_,_,_,_,k1,kp,kh3,kq,km,ks,ksl,kl,kg,ka⟩,rfl,fun u h1 h2 h3=>hcov3 u h1 h2 h3 fun q=>hv0 (by rw[<-q];exact h3)⟩
    · have hnil:hs1=[]:=List.eq_nil_of_length_eq_zero (by omega)
      repeat' (with_reducible refine W.stop ?_)
      refine⟨T1,hs1,HH,.inr ⟨rfl,fun l hl hv=>?_,_,_,_,_,_,_,_,_,_,k1,kp,kh,kq,km,ks,ksl,kl,kg,ka⟩⟩;have h0:=yb_ hl;have hv':val s.vs (l.natAbs:Int)=0:=by
        rcases Int.natAbs_eq l with q|q
        · rw[<-q];exact hv
        · have:(l.natAbs:Int) = -l:=by omega
          rw[this,y5v_ ht.ok,if_pos hv]
      have:=hcov l.natAbs (by omega) h0.2 hv';rw[hnil]at this;cases this
  · obtain⟨r,τ1⟩:=r
    obtain⟨T1,hs1,H1,hr⟩:=hr;rcases hr with ⟨er,g⟩|⟨er,g⟩
    · dsimp only at er⊢
      subst er
      repeat' with_reducible refine W.ret ?_
      exact⟨T1,hs1,H1,.inl ⟨rfl,g⟩⟩
    · dsimp only at er⊢
      subst er
      repeat' with_reducible refine W.ret ?_
      exact⟨T1,hs1,H1,.inr ⟨rfl,g⟩⟩
theorem yc6_(E:EnX σ T e n s hs ln lg since least)(hn:Tn σ T)(L:EnL gl n C s hs ln lg since least w)(hn4:n<=4000) :
  W (S.z100 (.ptr e.le 0) σ) fun r=>∃T' M,Hop eI σ T r.2 T'/\EnX r.2 T' e n s hs ln lg since least/\SlV .bool (r.2.at T' 0) M r.1/\M.length=n+1/\∀v:Nat,v<=n->M[v]?=some (val s.vs v==1):=by
 have ht:=L.si.ti;obtain⟨h,xs,xl,xg,conf,bump,most,sv,ws,E⟩:=E;have k1:=E.obj;have w1:IntKind.i64.wrap ((n:Int)+1)=((n+1:Nat):Int):=by rw[wrapS]<;>omega
 unfold S.z100
 repeat' with_reducible first|refine W.bind ?_|refine W.asV ?_|refine W.fldp ?_|refine W.nck ?_|refine W.u0 ?_
 refine W.to (y2r_ E.prop ht.len.vs hn4) ?_
 repeat' with_reducible refine W.ret ?_
 rw[w1];refine W.mkT (v:=Vw.bool) 28 hn false rfl (fun _=>rfl) (n:=n+1) (by omega) (by omega) rfl fun y τ1 T1 H1 k28 _=>?_;replace E:=E.hopE H1
 repeat' with_reducible first|refine W.bind ?_|refine W.u3 ?_
 refine W.mono (P:=fun r=>∃M,Hop (only 28) τ1 T1 r.2 T1/\Own .bool (r.2.at T1 28) M y/\M.length=n+1/\∀v:Nat,v<=n->M[v]?=some (val s.vs v==1)) ?_ fun r hr=>?_
 ·refine W.loop (n+1) (fun i (z:Int) τ=>z=(i:Int)/\∃M,Hop (only 28) τ1 T1 τ T1/\EnH τ T1 e n s hs ln lg since least h xs xl xg conf bump most sv ws/\Own .bool (τ.at T1 28) M y/\M.length=n+1/\∀v:Nat,v<i->M[v]?=some (val s.vs v==1)) ⟨rfl,_,Hop.refl H1.tn,E,k28,by simp,fun v hv=>by omega⟩ fun i z τ2 hi hI2=>?_
  obtain⟨rfl,M,H2,E,k28,hM,hall⟩:=hI2;have wr:IntKind.i64.wrap ((i:Int)+1)=((i+1:Nat):Int):=by rw[wrapS]<;>omega
  have k1:=E.obj;unfold S.z100.b0;simp only[List.length_replicate]
  (with_reducible refine W.cnd (fun hlt=>?_) (fun hlt=>?_)<;>(try simp only[qq,Kd.ty]at hlt)<;>(try (exfalso;omega)))
  ·have hV:S.z65 (.ptr e.lp 0) (i:Int) τ2=some (val s.vs (i:Int)):=by
    by_cases h0:i=0
    ·obtain⟨r,er,rfl⟩:W (S.z65 (.ptr e.lp 0) ((i:Nat):Int) τ2) fun r=>r=val s.vs (i:Int):=by
      have k2:=E.prop.obj;unfold S.z65
      repeat' with_reducible first|refine W.bind ?_|refine W.asV ?_|refine W.fldp ?_|refine W.nck ?_|refine W.u0 ?_
      refine W.to (y6h_ E.prop.asgv ht.ok (by have:=ht.len.vs;omega) (by have:=ht.len.vs;omega) (by simp[inB];omega)) ?_
      repeat' with_reducible refine W.ret ?_
      rfl
     exact er
    ·exact y1l_ E.prop ht hn4 (ym_.2 ⟨by omega,by omega,by omega⟩)
   repeat' with_reducible first|refine W.bind ?_|refine W.asV ?_|refine W.fldp ?_|refine W.nck ?_|refine W.u0 ?_
   refine W.to hV ?_
   repeat' with_reducible refine W.ret ?_
   refine W.ixO k28.slT (i:=i) (by omega) ?_;refine W.own_setB k28 H2.tn (by omega) fun τ3 k28 H3 _=>?_
   repeat' (with_reducible refine W.next ?_)
   refine⟨by omega,wr,_,H2.trans H3,E.hopE H3,k28,by simp[hM],fun v hv=>?_⟩;rw[List.getElem?_set];by_cases ev:i=v
   ·subst ev;rw[if_pos rfl,if_pos (by omega)]
   ·rw[if_neg ev];exact hall v (by omega)
  ·repeat' (with_reducible refine W.stop ?_)
   exact⟨M,H2,k28,hM,fun v hv=>hall v (by omega)⟩
 ·obtain⟨r,τ2⟩:=r
  obtain⟨M,H2,k28,hM,hall⟩:=hr;dsimp only at H2 k28⊢;obtain⟨T3,H3,k0⟩:=k28.retag (u:=0) Vw.bool_flat H2.tn
  repeat' with_reducible refine W.ret ?_
  exact⟨T3,M,(H1.oe.trans H2.oe).trans H3.oe,⟨_,_,_,_,_,_,_,_,_,(E.hopE H2).hopE H3⟩,k0.sl,hM,hall⟩
end
end
section
open Go
section
variable{n k a b id:Nat}{s s':PS}{A C:List (List Int)}{l x:Int}{M:List Bool}{tt uu:Nat}{c d:List Int}{f:Bool}
theorem StI.dec(P:PrI n s)(hh:s.head=s.trail.length)(hl:isL l n=true)(hv:val s.vs l=0):StI n (s.dec l):=by
 obtain⟨h,e1,e2,e3,e4⟩:=P.hd;have eh:h=s.trail.length:=by omega
 subst eh;obtain⟨z1,z2⟩:=P.ti.zero.1 hv;have hlv:∀x∈s.trail,(s.dec l).lv x=s.lv x:=fun x hx=>by
  simp only[PS.lv,PS.dec,PS.setL];rw[getD_set' (by have:=P.ti.len.lev;have:=yb_ hl;omega),if_neg fun e=>?_];rcases Int.natAbs_eq_natAbs_iff.1 e with e|e
  ·exact z1 (e▸hx)
  ·exact z2 (e▸hx)
 have htr:(s.dec l).trail=s.trail++[l]:=rfl;refine⟨P.ti.dec hl hv,P.ci,⟨P.li.nd,P.li.fl,P.li.lf⟩,P.wi,P.wr,s.trail.length,e1,by rw[htr];simp,fun m hm=>?_,fun j d hd=>?_⟩
 ·have hm:m∈s.marks++[(s.trail.length:Int)]:=hm
  rcases List.mem_append.1 hm with q|q
  ·exact e3 m q
  ·rw[List.mem_singleton.1 q];exact Int.le_refl _
 ·have J:=e4 j d hd
  refine⟨J.ne,fun x hx=>?_,fun i x y hi hx hy ⟨q,hq1,hq2⟩=>?_⟩
  ·obtain⟨g1,g2⟩:=J.one x hx
   exact⟨by rw[htr];simp[g1],by rw[hlv x g1];exact g2⟩
  ·rw[htr,List.getElem?_append_left hq1]at hq2
   obtain⟨g1,g2⟩:=J.two i x y hi hx hy ⟨q,hq1,hq2⟩;have:=hlv _ (List.mem_of_getElem? hq2);rw[PS.lv_neg,PS.lv_neg]at this;exact⟨by rw[htr];simp[g1],by rw[hlv y g1,this];exact g2⟩
theorem y4p_(ht:TrI n s){j:Nat}(hj:s.trail.length<=j):(j:Int)∉s.marks:=fun hm=>by
 obtain⟨i,hi⟩:=y9_ hm;obtain⟨a,e,⟨w,g1,_⟩,_⟩:=ht.mks i _ hi;have:=y2_ g1;omega
theorem y7y_(ht:TrI n s)(hm:s.marks[b]?=some (a:Int)):∀j:Nat,j<a->((j:Int)∈s.marks↔(j:Int)∈s.marks.take b):=fun j hj=>by
 refine⟨fun h=>?_,List.mem_of_mem_take⟩;obtain⟨i,hi⟩:=y9_ h;obtain⟨j',e,⟨w,g1,g2⟩,g3⟩:=ht.mks i _ hi;have e:j=j':=by omega
 subst e;obtain⟨a',e,_,g6⟩:=ht.mks b _ hm;have e:a=a':=by omega
 subst e;have:=g6 j w g1;have hib:i<b:=by omega
 exact List.mem_of_getElem? (i:=i) (by rw[List.getElem?_take_of_lt hib];exact hi)
def CdI(n:Nat)(s:PS)(tt uu:Nat):Prop:=(tt<=codeF n s.marks s.trail.length/\uu<=rkF n s.marks s.trail.length)\/((tt<=codeW n s.marks s.trail.length/\uu<=rkW n s.marks s.trail.length)/\∃id,s.loose=[((id:Nat):Int)]/\Ready s id)
theorem CdI.ext(h:CdI n s tt uu)(E:PEx s s')(ht:TrI n s)(ht':TrI n s'):tt<=codeW n s'.marks s'.trail.length/\uu<=rkW n s'.marks s'.trail.length:=by
 have hl:=E.lenT;have hn:=ht'.lenT;rw[E.mks];have h2:=ya8_ (n:=n) hl hn fun j hj=>y4p_ ht hj;rcases h with ⟨q,q2⟩|⟨⟨q,q2⟩,_⟩
 ·have:=y6i_ (n:=n) (ms:=s.marks) hl
  have:=y9q_ (n:=n) (ms:=s.marks) hl;unfold codeW rkW;omega
 ·refine⟨by omega,?_⟩
  by_cases e:s.trail.length=s'.trail.length
  ·rw[<-e];exact q2
  ·have:=ye0_ (n:=n) (show s.trail.length<s'.trail.length by omega) hn fun j hj=>y4p_ ht hj
   unfold rkW at q2 this⊢;omega
theorem CdI.fine(h:CdI n s tt uu)(E:PEx s s')(ht:TrI n s)(P:PrI n s')(hh:s'.head=s'.trail.length):tt<=codeF n s'.marks s'.trail.length/\uu<=rkF n s'.marks s'.trail.length:=by
 have hl:=E.lenT;have hn:=P.ti.lenT;rw[E.mks];have h2:=ya8_ (n:=n) hl hn fun j hj=>y4p_ ht hj;rcases h with ⟨q,q2⟩|⟨⟨q,q2⟩,id,_,c,f,hc,l,hlc,hv,hf,_⟩
 ·have:=y6i_ (n:=n) (ms:=s.marks) hl
  have:=y9q_ (n:=n) (ms:=s.marks) hl;omega
 ·obtain⟨c',f',hc',p⟩:=E.ceq.get hc
  have hm:=P.unit hh hc' (p.mem_iff.2 hlc) fun x hx hne=>by
   have:=hf x (p.mem_iff.1 hx) hne;exact P.ti.neg.2 (E.mem (ht.neg.1 this))
  have hlt:s.trail.length<s'.trail.length:=by
   refine Nat.lt_of_le_of_ne hl fun e=>?_;obtain⟨ex,he⟩:=E.tr;have:ex=[]:=by
    have:=congrArg List.length he;simp at this;exact List.eq_nil_of_length_eq_zero (by omega)
   rw[he,this,List.append_nil]at hm;exact(ht.zero.1 hv).1 hm
  have:=h2.2 hlt;have:=ye0_ (n:=n) hlt hn fun j hj=>y4p_ ht hj;omega
theorem ydz_(ht:TrI n s):codeF n (s.dec l).marks (s.dec l).trail.length=codeF n s.marks s.trail.length:=by
 have e1:(s.dec l).marks=s.marks++[(s.trail.length:Int)]:=rfl;have e2:(s.dec l).trail.length=s.trail.length+1:=by show(s.trail++[l]).length=_;simp
 rw[e1,e2];simp only[codeF];rw[if_pos (by simp)];exact y62_ fun j hj=>by
  simp only[List.mem_append,List.mem_singleton];constructor
  ·rintro(q|q)
   ·exact q
   ·omega
  ·exact .inl
theorem yg1_(ht:TrI n s):rkF n (s.dec l).marks (s.dec l).trail.length=rkF n s.marks s.trail.length+1:=by
 have e1:(s.dec l).marks=s.marks++[(s.trail.length:Int)]:=rfl;have e2:(s.dec l).trail.length=s.trail.length+1:=by show(s.trail++[l]).length=_;simp
 rw[e1,e2];simp only[rkF];rw[if_pos (by simp)]
 congr 1
 exact y9f_ fun j hj=>by
  simp only[List.mem_append,List.mem_singleton];constructor
  ·rintro(q|q)
   ·exact q
   ·omega
  ·exact .inl
theorem PrI.two(P:PrI n s)(hc:s.cls[id]?=some (c,true,f))(hf:∀x∈c,val s.vs x=2):∀m∈s.marks,m+2<=(s.trail.length:Int):=by
 obtain⟨h,e1,e2,e3,e4⟩:=P.hd;have hg:=P.li.flag P.lo hc;subst hg;have J:=e4 id c hc;have hnd:=(P.ci id c false hc).2;intro m hm;have h3:=e3 m hm;rcases c with _|⟨a,_|⟨d,t⟩⟩
 ·exact absurd rfl J.ne
 ·have h1:=(P.ti.tr a).2 (J.one a rfl).1
  have:=hf a (by simp);omega
 ·have ha:=hf a (by simp)
  have hd:=hf d (by simp);obtain⟨i,hi⟩:=y9_ (P.ti.neg.1 ha);obtain⟨j,hj⟩:=y9_ (P.ti.neg.1 hd);have hi2:h<=i:=Decidable.byContradiction fun q=>by
   have:=(P.ti.tr d).2 (J.two 0 a d (by omega) rfl rfl ⟨i,by omega,hi⟩).1;omega
  have hj2:h<=j:=Decidable.byContradiction fun q=>by
   have:=(P.ti.tr a).2 (J.two 1 d a (by omega) rfl rfl ⟨j,by omega,hj⟩).1;omega
  have hne:i≠j:=fun e=>by
   subst e;rw[hi]at hj;have:a=d:=by have:=Option.some.inj hj;omega
   subst this;simp at hnd
  have:=y2_ hi;have:=y2_ hj;omega
theorem y7r_(ht:TrI n s)(hS:StI n s)(hm:s.marks[b]?=some (a:Int)):codeW n s.marks s.trail.length<codeW n ((s.back b a).addC c).marks ((s.back b a).addC c).trail.length/\rkW n s.marks s.trail.length<rkW n ((s.back b a).addC c).marks ((s.back b a).addC c).trail.length/\((a:Int)+2<=s.trail.length->codeW n ((s.back b a).addC c).marks ((s.back b a).addC c).trail.length % 2=0):=by
 obtain⟨_,g1,g2,_,_,_,_,g7,_⟩:=hS.back hm;have e1:((s.back b a).addC c).marks=s.marks.take b:=g1;have e2:((s.back b a).addC c).trail=s.trail.take a:=g2;rw[e1,e2];have:(s.trail.take a).length=a:=by simp;omega
 rw[this];have hlt:=ht.lenT;exact⟨yc8_ (List.mem_of_getElem? hm) g7 ht.lenT (y7y_ ht hm),yek_ (List.mem_of_getElem? hm) g7 ht.lenT (y7y_ ht hm),fun h2=>yca_ (by omega)⟩
def mOf(M:List Bool)(v:Nat):Bool:=M.getD v false
theorem y97_(ht:TrI n s)(hM:∀v:Nat,v<=n->M[v]?=some (val s.vs v==1))(hl:isL l n=true)(hm:l∈s.trail):holds (mOf M) l=true:=by
 have h0:=yb_ hl;have h1:=hM l.natAbs h0.2;unfold holds mOf;rw[List.getD_eq_getElem?_getD,h1];show((val s.vs (l.natAbs:Int)==1)==decide (0<l))=true;have hv:=(ht.tr l).2 hm;by_cases hp:0<l
 ·have:(l.natAbs:Int)=l:=by omega
  rw[this,hv];simp[hp]
 ·have:(l.natAbs:Int) = -l:=by omega
  rw[this,y5v_ ht.ok,hv];simp[hp]
theorem EnL.model{gl:Bool}{C:List (List Int)}{hs:List Int}{ln:List (Int×Int)}{lg:List (Bool×List Int)}{since least:Int}{w:Nat}(L:EnL gl n C s hs ln lg since least w)(hlo:s.loose=[])(hh:s.head=s.trail.length)(hall:∀l,isL l n=true->val s.vs l≠0)(hM:∀v:Nat,v<=n->M[v]?=some (val s.vs v==1)):mods (mOf M) C:=fun c hc=>by
 by_cases hs:saysN c=true
 ·obtain⟨id,d,f,h1,h2,_⟩:=L.orI c hc hs
  obtain⟨x,hx,hxm⟩:=(L.si.pp hlo).full hh hall h1;exact⟨x,(h2 x).1 hx,y97_ L.si.ti hM ((L.si.ci id d f h1).1 x hx) hxm⟩
 ·obtain⟨x,h1,h2⟩:=ye3_ (by simpa using hs)
  exact yet_ (yb_ (L.cl c hc x h1)).1 h1 h2
theorem ygo_(ht:TrI n s)(hm:s.marks=[])(hc:s.cls[id]?=some (c,true,f))(hf:∀x∈c,val s.vs x=2):Conf s.db []:=.inr ⟨c,y28_.2 ⟨id,f,hc⟩,fun x hx=>by
 have hxm:=ht.neg.1 (hf x hx);obtain⟨i,hi⟩:=y9_ hxm;have:=ht.lv _ hxm;rw[hm]at this;simp at this;exact ht.der0 i _ hi (by omega)⟩
theorem ya0_{gl:Bool}{C:List (List Int)}{hs core:List Int}{ln:List (Int×Int)}{lg:List (Bool×List Int)}{since least:Int}{w:Nat}(L:EnL gl n C s hs ln lg since least w)(hC:Conf s.db core)(hl:∀l∈core,isL l n=true):∀m,mods m C->¬ ∀l∈core,holds m l=true:=fun m hm hall=>
 hC.false (L.snd m hm) L.si.ci.nz hall fun l h=>(yb_ (hl l h)).1
end
end
section
open Go
def eJ:Nat->Bool:=fun j=>eI j||j==37
theorem Hop.ej{σ τ:Heap}{T T':Tg}(H:Hop eI σ T τ T'):Hop eJ σ T τ T':=H.sub fun i hi=>by simp[eJ,hi]
theorem Hop.ej37{σ τ:Heap}{T T':Tg}(H:Hop (only 37) σ T τ T'):Hop eJ σ T τ T':=H.sub fun i hi=>by
 have:i=37:=by simpa using hi
 rw[this];rfl
def mu(n:Nat):Nat:=(2 ^ n / 2 / 8+2)*(2 ^ (n+1)+1)+2 ^ (n+1)
def addsL(lg:List (Bool×List Int)):Nat:=(lg.filter fun st => !st.1).length
theorem y9h_{a b:List (Bool×List Int)}:addsL (a++b)=addsL a+addsL b:=by unfold addsL;rw[List.filter_append,List.length_append]
theorem yc7_{ds:List (Bool×List Int)}(h:∀d∈ds,d.1=true):addsL ds=0:=by
 unfold addsL;rw[List.filter_eq_nil_iff.2 fun d hd=>by simp[h d hd]];rfl
def LgB(n:Nat)(ln:List (Int×Int))(lg:List (Bool×List Int))(since least:Int):Prop:=
 (∀st∈lg,st.2.length<=n)/\lg.length+ln.length<=2*addsL lg/\8*(addsL lg:Int)<=(least-16)*(2 ^ n / 2:Nat)+8*since
theorem LgB.learn{n:Nat}{ln ln':List (Int×Int)}{lg lg':List (Bool×List Int)}{since least:Int}(h:LgB n ln lg since least)(hs:LgS n ln lg ln' lg'):LgB n ln' lg' (since+1) least:=by
 obtain⟨h1,h2,h3⟩:=h;obtain⟨k,hk,ds,rfl,hd,hl⟩:=hs;have e:addsL (lg++[(false,k)]++ds)=addsL lg+1:=by
  rw[y9h_,y9h_,yc7_ fun d hm=>(hd d hm).1];rfl
 refine⟨fun st hst=>?_,?_,?_⟩
 ·rcases List.mem_append.1 hst with q|q
  ·rcases List.mem_append.1 q with q|q
   ·exact h1 st q
   ·rw[List.mem_singleton.1 q];exact hk
  ·exact(hd st q).2
 ·rw[e];simp;omega
 ·rw[e];omega
theorem LgB.anew{n:Nat}{ln:List (Int×Int)}{lg:List (Bool×List Int)}{since least:Int}(h:LgB n ln lg since least)(hs:since<=(2 ^ n / 2:Nat)):LgB n ln lg 0 (least+8):=by
 obtain⟨h1,h2,h3⟩:=h;refine⟨h1,h2,?_⟩;generalize (2 ^ n / 2:Nat)=B at h3 hs⊢;rw[show least+8-16=(least-16)+8 by omega,Int.add_mul];omega
def LgF(n:Nat)(lg:List (Bool×List Int)):Prop:=(∀st∈lg,st.2.length<=n+1)/\lg.length<=2*((2 ^ n / 2)*(2 ^ n / 2 / 8+2))+1
theorem LgB.fin{n:Nat}{ln:List (Int×Int)}{lg:List (Bool×List Int)}{since least:Int}(h:LgB n ln lg since least)(hs:since<=(2 ^ n / 2:Nat))(hl:least<=(2 ^ n / 2:Nat)+16){c:List Int}(hc:c.length<=n+1):LgF n (lg++[(false,c)])/\LgF n lg:=by
 obtain⟨h1,h2,h3⟩:=h;have key:lg.length<=2*((2 ^ n / 2)*(2 ^ n / 2 / 8+2)):=by
  generalize (2 ^ n / 2:Nat)=B at h3 hs hl⊢;have h4:(least-16)*(B:Int)<=(B:Int)*B:=Int.mul_le_mul_of_nonneg_right (by omega) (by omega);have h6:8*(addsL lg:Int)<=(B:Int)*B+8*B:=by omega
  have h7:B*B<=B*(8*(B / 8)+7):=Nat.mul_le_mul_left _ (by omega);have h8:B*(8*(B / 8)+7)=8*(B*(B / 8))+7*B:=by rw[Nat.mul_add,Nat.mul_left_comm];omega
  have h9:B*(B / 8+2)=B*(B / 8)+2*B:=by rw[Nat.mul_add];omega
  rw[<-Int.natCast_mul]at h6;omega
 refine⟨⟨fun st hst=>?_,by simp;omega⟩,fun st hst=>Nat.le_trans (h1 st hst) (Nat.le_succ n),by omega⟩;rcases List.mem_append.1 hst with q|q
 ·exact Nat.le_trans (h1 st q) (Nat.le_succ n)
 ·rw[List.mem_singleton.1 q];exact hc
def SoR(σ:Heap)(T:Tg)(n:Nat)(C:List (List Int))(A:List Int)(lg:List (Bool×List Int))(r:AVal×AVal):Prop:=
 (∃y M,r=(.agg [.bool true,y,.nils],.nili)/\SlV .bool (σ.at T 0) M y/\M.length=n+1/\mods (mOf M) C/\∀a∈A,holds (mOf M) a=true) \/
 (∃y core lg0,r=(.agg [.bool false,.nils,y],.nili)/\SlV .int (σ.at T 0) core y/\(∀l∈core,l∈A)/\(∀m,mods m C->¬ ∀l∈core,holds m l=true)/\core.length<=n+1/\lg=lg0++[(false,negs core)])
section
variable{σ τ:Heap}{T T':Tg}{e:EnP}{n k id:Nat}{s:PS}{hs:List Int}{ln:List (Int×Int)}{lg:List (Bool×List Int)}{since least:Int}{x:AVal}{A:List Int}{gl:Bool}{C:List (List Int)}{w:Nat}
theorem W.eqSn{R:Type}{Q:R->Prop}{K:Bool->Option R}(c:W (K true) Q):W (eqS .nils .nils K) Q:=c
theorem id'{p:Prop}(h:p):p:=h
theorem AsI.addC{l:List Int}(h:AsI s A):AsI (s.addC l) A:=h
theorem yez_{l1:Nat}(E:EnX σ T e n s hs ln lg since least)(hc:SlV .int (σ.at T 0) A x)(hAL:A.length<=100000)(hl1:Loc (σ.at T 0) l1 [.ptr e.le 0])(hv:s.vs.length=n+1)(hn4:n<=4000)(hAb:∀l∈A,inB l=true){f:AVal}(hf:∀l∈A,∀{Rt:Type} (K:AVal->Heap->Option Rt),callV S.z119.T f [.int .i64 l] σ K=(S.z93 l (.ptr l1 0) σ).bind fun x=>K (retV [.B] x) σ) :
  W (S.z116 x f σ) fun r=>r=(A.any fun l => !isL l n,σ):=by
 refine y16_ (fun l => !isL l n) hc.up (by omega) fun l hl Rt K=>?_;rw[hf l hl];have e1:S.z93 l (.ptr l1 0) σ=some (!isL l n):=by
  obtain⟨r,er,rfl⟩:W (S.z93 l (.ptr l1 0) σ) fun r=>r = !isL l n:=by
   obtain⟨h,xs,xl,xg,conf,bump,most,sv,ws,E⟩:=E;have k1:=E.obj;have hlb:=hAb l hl;simp only[inB,Bool.and_eq_true,decide_eq_true_eq]at hlb;unfold S.z93
   repeat' with_reducible first|refine W.bind ?_|refine W.asV ?_|refine W.fldp ?_|refine W.nck ?_|refine W.u0 ?_
   refine W.to (y2r_ E.prop hv hn4) ?_
   repeat' with_reducible first|refine W.ret ?_|refine W.bind ?_
   refine W.to (y1j_ (by omega) (by omega)) ?_
   repeat' with_reducible refine W.ret ?_
   rfl
  exact er
 rw[e1];rfl
theorem yf9_(E:EnX σ T e n s hs ln lg since least)(hn:Tn σ T)(L:EnL gl n C s hs ln lg since least w)(hn20:n<=20)(hmk:s.marks=[])(hc:SlV .int (σ.at T 0) A x)(hAl:A.length<=100000)(hAL:∀l∈A,isL l n=true)(hw:w+6*mu n<=850000000000)(hgl:gl=true->since=0/\least=16/\LgB n ln lg since least) :
    W (S.z92 (.ptr e.le 0) x σ) fun r=>∃T' s' hs' ln' lg' since' least' w',Hop eJ σ T r.2 T'/\EnX r.2 T' e n s' hs' ln' lg' since' least'/\EnL gl n C s' hs' ln' lg' since' least' w'/\w'<=w+6*mu n+10/\s'.marks=[]/\SoR r.2 T' n C A lg' r.1/\(gl=true->LgF n lg'):=by
  have hn4:n<=4000:=by omega
  have hAb:∀l∈A,inB l=true:=fun l hl=>y50_ (hAL l hl) hn4;unfold S.z92
  repeat' (with_reducible refine W.scP ?_)
  refine W.new0 hn fun l1 τ1 _ L1 hl1 hn1=>?_;have hE1:EnX τ1 T e n s hs ln lg since least:=by
    obtain⟨h,xs,xl,xg,conf,bump,most,sv,ws,E⟩:=E;exact⟨h,xs,xl,xg,conf,bump,most,sv,ws,E.hle L1⟩
  replace hc:=hc.hle L1;have HH:Hop eJ σ T τ1 T:=Hop.of hn L1;have hn:=hn1;refine W.newT 37 hn fun l3 τ2 T2 hl3 H2 k37 hnτ2=>?_;replace HH:=HH.trans H2.ej37;have hE2:EnX τ2 T2 e n s hs ln lg since least:=by
    obtain⟨h,xs,xl,xg,conf,bump,most,sv,ws,E⟩:=hE1;exact⟨h,xs,xl,xg,conf,bump,most,sv,ws,E.hopE H2⟩
  replace hc:=hc.hop H2;replace hl1:=hl1.hop H2;refine W.bind ?_;refine W.mono (yez_ hE2 hc (by omega) hl1 L.si.ti.len.vs hn4 hAb (fun l hl Rt K=>rfl)) fun r hr=>?_;subst hr;dsimp only;have hany:(A.any fun l => !isL l n)=false:=by
    rw[List.any_eq_false];intro l hl;simp[hAL l hl]
  refine W.condF hany ?_
  repeat' with_reducible first|refine W.bind ?_|refine W.asV ?_|refine W.u0 ?_
  have hB1:1<=2 ^ n:=Nat.one_le_two_pow;obtain⟨B,hBd⟩:∃B,B=2 ^ n / 2:=⟨_,rfl⟩;obtain⟨M,hMd⟩:∃M,M=2 ^ (n+1):=⟨_,rfl⟩;have hmuB:mu n=(B / 8+2)*(M+1)+M:=by unfold mu;rw[hBd,hMd]
  refine W.mono (P:=fun r=>r.1=.nili/\∃T' s' hs' ln' lg' since' least' w',Hop eJ σ T r.2 T'/\EnX r.2 T' e n s' hs' ln' lg' since' least'/\EnL gl n C s' hs' ln' lg' since' least' w'/\w'<=w+6*mu n+6/\(gl=true->LgF n lg')/\∃cs,Loc (r.2.at T' 37) l3 cs/\cs.length=3/\SoR r.2 T' n C A lg' (.agg cs,.nili)) ?_ fun r hr=>?_
  · refine W.loopI (m:=mu n) (fun m (_:Unit) τ=>∃(T':Tg) (s':PS) (hs':List Int) (ln':List (Int×Int)) (lg':List (Bool×List Int)) (since' least':Int) (w' cc uu fs:Nat) (cs:List AVal),Hop eJ σ T τ T'/\EnX τ T' e n s' hs' ln' lg' since' least'/\EnL gl n C s' hs' ln' lg' since' least' w' /\
        SlV .int (τ.at T' 0) A x/\Loc (τ.at T' 0) l1 [.ptr e.le 0]/\Loc (τ.at T' 37) l3 cs/\cs.length=3/\AsI s' A/\Rd s' s'.loose (-1)/\CdI n s' (2*cc) uu/\cc<=B/\uu<=M/\fs<=1/\(fs=0->since'<=cc) /\
        (((B:Int)+8-least').toNat / 8+fs)*(M+1)+(M-uu)<=m/\w'+6*m<=w+6*mu n/\(gl=true->fs=0/\least'<=(B:Int)+16/\LgB n ln' lg' since' least')) ?_ fun m _ τ hI2=>?_
    · have z6:=L.z6
      have hR:(((B:Int)+8-least).toNat / 8+(if gl=true then 0 else 1))*(M+1)<=(B / 8+2)*(M+1):=Nat.mul_le_mul_right _ (by split<;>omega);exact⟨T2,s,hs,ln,lg,since,least,w,0,0,if gl=true then 0 else 1,_,HH,hE2,L,hc,hl1,k37,rfl,AsI.nil hmk,.inl hmk,.inl ⟨Nat.zero_le _,Nat.zero_le _⟩,Nat.zero_le _,Nat.zero_le _,by split<;>omega,fun q=>by
        split at q
        · rename_i hg
          have:=(hgl hg).1;omega
        · omega,by rw[hmuB,Nat.sub_zero];omega,by omega,fun hg=>⟨if_pos hg,by have:=(hgl hg).2.1;omega,(hgl hg).2.2⟩⟩
    · obtain ⟨T1,s1,hs1,ln1,lg1,since1,least1,w1,cc,uu,fs,cs,HH,E1,L1,hc,hl1,k37,hcs,hAs,hRd,hCd,hcc,huu,hfs,hsf,hmm,hww,hLg⟩:=hI2
      have hw1:w1<=850000000000:=by omega
      have z1:=L1.z1;have z2:=L1.z2;have z5:=L1.z5;have z6:=L1.z6;have hl1u:=hl1.up;unfold S.z92.b0
      repeat' with_reducible first|refine W.asV ?_|refine W.fldp ?_|refine W.e0 ?_|refine W.nck ?_
      obtain⟨h,xs,xl,xg,conf,bump,most,sv,ws,E1⟩:=E1;have k1:=E1.obj
      repeat' with_reducible first|refine W.bind ?_|refine W.asV ?_|refine W.u0 ?_
      refine W.mono (yax_ E1.prop HH.tn L1.si hn4 (by omega) (by omega) hRd) fun r hr=>?_;obtain⟨out,τ3⟩:=r;obtain⟨T3,h3,s3,H3,p3,ho,PR⟩:=hr;dsimp only at H3 p3 ho PR⊢;have hti3:=PR.si.ti;have hlT3:=hti3.lenT;have hlE:=PR.ex.lenT;have hen:=PR.en;have L3:EnL gl n C s3 hs1 ln1 lg1 since1 least1 (w1+1):=L1.step PR.si PR.ex.ceq (fun v h1 h2 h4=>L1.hp v h1 h2 (by
        rw[L1.si.ti.zero];rw[hti3.zero]at h4;exact⟨fun q=>h4.1 (PR.ex.mem q),fun q=>h4.2 (PR.ex.mem q)⟩)) (by omega)
      have E3:EnX τ3 T3 e n s3 hs1 ln1 lg1 since1 least1:=⟨h3,xs,xl,xg,conf,bump,most,sv,ws,E1.obj.hop H3,p3,E1.heap.hopJ H3,E1.pace.hop H3,E1.most,E1.sav.hop H3,E1.svl,E1.lrn.hop H3,E1.log.hop H3,E1.all.hop H3⟩;have hAs3:=hAs.ext L1.si.ti PR.ex;have hCW:=hCd.ext PR.ex L1.si.ti hti3;replace HH:=HH.trans H3.je.ej;replace hc:=hc.hop H3;replace hl1:=hl1.hop H3;replace k37:=k37.hop H3;have hl1u:=hl1.up
      clear k1
      (with_reducible refine W.cnd (fun hout=>?_) (fun hout=>?_)<;>(try simp only[qq,Kd.ty]at hout)<;>(try (exfalso;omega)))
      · have hne:out≠-1:=by omega
        obtain⟨id,c,fl,eid,hcl,hfl,hcx⟩:=PR.bad hne;subst eid
        repeat' with_reducible first|refine W.asV ?_|refine W.fldp ?_|refine W.e0 ?_|refine W.nck ?_
        obtain⟨h',xs',xl',xg',conf',bump',most',sv',ws',E3'⟩:=id' E3;have k1:=E3'.obj
        repeat' with_reducible first|refine W.bind ?_|refine W.asV ?_|refine W.u0 ?_
        refine W.to (y56_ E3'.prop) ?_
        repeat' with_reducible refine W.ret ?_
        by_cases hm0:s3.marks=[]
        · refine W.condT (by simp[hm0]) ?_
          have hC0:=ygo_ hti3 hm0 hcl hfl
          repeat' with_reducible first|refine W.bind ?_|refine W.asV ?_|refine W.e0 ?_
          refine W.mono (ya4_ (core:=[]) (x:=.nils) E3 HH.tn L3 (by omega) (.inl ⟨rfl,rfl⟩) (by simp) (fun l hl=>by cases hl) hC0) fun r hr=>?_;obtain⟨r,τ4⟩:=r;obtain⟨T4,H4,er,E4,L4⟩:=hr;dsimp only at er H4 E4⊢;subst er;replace HH:=HH.trans H4.ej;replace k37:=k37.hop H4
          repeat' (with_reducible refine W.e3 ?_)
          have hn:=HH.tn;refine W.stT k37 hn (by simp[hcs]) fun τ5 H5 k37 _=>?_;have e5:cs.take 0++[.bool false,.nils,.nils]++cs.drop (0+[AVal.bool false,.nils,.nils].length)=[.bool false,.nils,.nils]:=by simp[hcs]
          rw[e5]at k37;have E5:EnX τ5 T4 e n s3 hs1 ln1 (lg1++[(false,negs [])]) since1 least1:=by
            obtain⟨h,xs,xl,xg,conf,bump,most,sv,ws,E4⟩:=E4;exact⟨h,xs,xl,xg,conf,bump,most,sv,ws,E4.hopE H5⟩
          repeat' (with_reducible refine W.stop ?_)
          exact⟨rfl,T4,s3,hs1,ln1,_,since1,least1,_,HH.trans H5.ej37,E5,L4,by omega,fun hg=>by
            obtain⟨g1,g2,g3⟩:=hLg hg;have:=hsf g1;exact(g3.fin (by omega) (by omega) (c:=negs []) (by simp[negs])).1,_,k37,rfl,.inr ⟨.nils,[],lg1,rfl,.inl ⟨rfl,rfl⟩,(fun l hl=>by cases hl),ya0_ L3 hC0 (fun l hl=>by cases hl),by simp,rfl⟩⟩
        · have hmp:0<s3.marks.length:=List.length_pos_iff.2 hm0
          refine W.condF (by simpa using hm0) ?_
          repeat' with_reducible first|refine W.bind ?_|refine W.asV ?_|refine W.e0 ?_
          refine W.mono (yf2_ E3 HH.tn L3 hn4 (by omega) hmp (PR.lo hm0) hcl hfl (hcx hm0)) fun r hr=>?_;obtain⟨r,τ4⟩:=r;obtain⟨er,T4,s4,hs4,ln4,lg4,since4,least4,H4,E4,L4,hcase,hLS⟩:=hr;dsimp only at er H4 E4⊢;subst er;replace HH:=HH.trans H4.ej;replace hc:=hc.hop H4;replace hl1:=hl1.hop H4;replace k37:=k37.hop H4;have hlT4:=L4.si.ti.lenT;have htwo:=(PR.si.pp (PR.lo hm0)).two hcl hfl;refine W.condF rfl ?_
          repeat' (with_reducible refine W.next ?_)
          rcases hcase with ⟨es,el,b,a,k,hma,e4,hRy⟩|⟨hm4,es,el,hls⟩
          · subst es el
            obtain⟨hg1,hg2,hg3⟩:=y7r_ (c:=normL k) hti3 PR.si hma;have hg4:=hg3 (htwo _ (List.mem_of_getElem? hma));rw[<-e4]at hg1 hg2 hg4;have hmax:=y93_ (n:=n) (ms:=s4.marks) hlT4;have hmax2:=ybe_ (n:=n) (ms:=s4.marks) hlT4;rw[<-hMd]at hmax2;have hc2:2*(cc+1)<=codeW n s4.marks s4.trail.length:=by omega
            have hlo4:s4.loose=[((s3.cls.length:Nat):Int)]:=by
              rw[e4];show(s3.back b a).loose++[((s3.back b a).cls.length:Int)]=_;obtain⟨_,_,_,g3,g4,_⟩:=PR.si.back hma;rw[g3,g4,PR.lo hm0];rfl
            refine⟨_,?_,T4,s4,hs4,ln4,lg4,_,_,w1+1+4,cc+1,uu+1,fs,cs,HH,E4,L4,hc,hl1,k37,hcs,?_,?_,.inr ⟨⟨hc2,show uu+1<=_ by omega⟩,_,hlo4,hRy⟩,by omega,by omega,hfs,fun q=>by have:=hsf q;omega,Nat.le_refl _,?_,fun hg=>⟨(hLg hg).1,(hLg hg).2.1,(hLg hg).2.2.learn hLS⟩⟩
            · omega
            · rw[e4];exact(hAs3.back PR.si hma).addC
            · rw[hlo4];exact .inr ⟨rfl,.inr ⟨_,rfl,hRy⟩⟩
            · omega
          · subst es el
            have htb:cc+1<=B:=by
              have hmp2:∃(b a:Nat),s3.marks[b]?=some (a:Int):=by
                obtain⟨m,hm⟩:=y3_ (xs:=s3.marks) (i:=0) hmp;obtain⟨a,ea,_⟩:=hti3.mks 0 m hm;exact⟨0,a,by rw[hm,ea]⟩
              obtain⟨b,a,hma⟩:=hmp2;obtain⟨hg1,_,hg3⟩:=y7r_ (c:=[]) hti3 PR.si hma;have hg4:=hg3 (htwo _ (List.mem_of_getElem? hma));have hbk:=PR.si.back hma;have hl5:((s3.back b a).addC []).trail.length<=n:=hbk.1.ti.lenT;have hmax:=y93_ (n:=n) (ms:=((s3.back b a).addC []).marks) hl5;omega
            have hRl:((B:Int)+8-(least1+8)).toNat / 8+1<=((B:Int)+8-least1).toNat / 8+fs:=by
              by_cases hf0:fs=0
              · have:=hsf hf0
                omega
              · omega
            have hmul:=Nat.mul_le_mul_right (M+1) hRl;rw[Nat.succ_mul]at hmul;refine⟨_,?_,T4,s4,hs4,ln4,lg4,0,_,w1+1+4,0,0,0,cs,HH,E4,L4,hc,hl1,k37,hcs,AsI.nil hm4,.inl hm4,.inl ⟨Nat.zero_le _,Nat.zero_le _⟩,Nat.zero_le _,Nat.zero_le _,by omega,fun _=>by omega,Nat.le_refl _,?_,fun hg=>?_⟩
            · simp only[Nat.sub_zero,Nat.add_zero];omega
            · simp only[Nat.sub_zero,Nat.add_zero];omega
            · obtain⟨g1,g2,g3⟩:=hLg hg
              have:=hsf g1;exact⟨rfl,by omega,(g3.learn hLS).anew (by omega)⟩
      · have hne:out = -1:=by omega
        subst hne;obtain⟨hlo3,hhd3⟩:=PR.fine rfl;have hP3:=PR.si.pp hlo3;have hCF:=hCd.fine PR.ex L1.si.ti hP3 hhd3
        repeat' with_reducible first|refine W.bind ?_|refine W.asV ?_|refine W.e0 ?_
        refine W.mono (ycv_ E3 HH.tn L3 hn4 hAs3 hc hAl hAL) fun r hr=>?_;obtain⟨r,τ4⟩:=r;obtain⟨T4,H4,hcase⟩:=hr;dsimp only at H4 hcase⊢;replace HH:=HH.trans H4.ej;replace hc:=hc.hop H4;replace hl1:=hl1.hop H4;replace k37:=k37.hop H4;have hl1u:=hl1.up;have goOn:∀(τ5:Heap) (T5:Tg) (l:Int) (hs5:List Int),Hop eJ σ T τ5 T5->EnX τ5 T5 e n (s3.dec l) hs5 ln1 lg1 since1 least1->val s3.vs l=0->isL l n=true->AsI (s3.dec l) A->(∀v:Nat,1<=v->v<=n->val s3.vs v=0->v≠l.natAbs->(v:Int)∈hs5)->SlV .int (τ5.at T5 0) A x->Loc (τ5.at T5 0) l1 [.ptr e.le 0]->Loc (τ5.at T5 37) l3 cs ->
            ∃m',m'<m/\∃(T':Tg) (s':PS) (hs':List Int) (ln':List (Int×Int)) (lg':List (Bool×List Int)) (since' least':Int) (w' cc uu fs:Nat) (cs:List AVal),Hop eJ σ T τ5 T'/\EnX τ5 T' e n s' hs' ln' lg' since' least'/\EnL gl n C s' hs' ln' lg' since' least' w' /\
            SlV .int (τ5.at T' 0) A x/\Loc (τ5.at T' 0) l1 [.ptr e.le 0]/\Loc (τ5.at T' 37) l3 cs/\cs.length=3/\AsI s' A/\Rd s' s'.loose (-1)/\CdI n s' (2*cc) uu/\cc<=B/\uu<=M/\fs<=1/\(fs=0->since'<=cc) /\
            (((B:Int)+8-least').toNat / 8+fs)*(M+1)+(M-uu)<=m'/\w'+6*m'<=w+6*mu n/\(gl=true->fs=0/\least'<=(B:Int)+16/\LgB n ln' lg' since' least'):=by
          intro τ5 T5 l hs5 H5 E5 hv0 hlL hAs5 hcov hc5 hl5 hk5;have hS5:=StI.dec hP3 hhd3 hlL hv0;have htr5:(s3.dec l).trail.length=s3.trail.length+1:=by show(s3.trail++[l]).length=_;simp
          have hlT5:=hS5.ti.lenT;have L5:EnL gl n C (s3.dec l) hs5 ln1 lg1 since1 least1 (w1+1+1):=L3.step hS5 ⟨rfl,(CEq.refl s3).2⟩ (fun v h1 h2 h4=>by
            rw[hS5.ti.zero]at h4;have e5:(s3.dec l).trail=s3.trail++[l]:=rfl;rw[e5]at h4;refine hcov v h1 h2 (hti3.zero.2 ⟨fun q=>h4.1 (by simp[q]),fun q=>h4.2 (by simp[q])⟩) fun q=>?_;rcases Int.natAbs_eq l with u|u
            · exact h4.1 (by rw[q,<-u];simp)
            · exact h4.2 (by rw[q];have : -((l.natAbs:Nat):Int)=l:=by omega
                             rw[this];simp)) (by
            have e1:(s3.dec l).ent=s3.ent:=rfl;have e2:(s3.dec l).loose=s3.loose:=rfl;have:=L3.z2;rw[e1,e2];omega)
          have hmax2:=ybe_ (n:=n) (ms:=(s3.dec l).marks) hlT5;have hrk:=yg1_ (n:=n) (l:=l) hti3;rw[<-hMd]at hmax2;have huu5:uu+1<=rkF n (s3.dec l).marks (s3.dec l).trail.length:=by omega
          have huuM:uu+1<=M:=by unfold rkW at hmax2;omega
          refine⟨(((B:Int)+8-least1).toNat / 8+fs)*(M+1)+(M-(uu+1)),by omega,T5,s3.dec l,hs5,ln1,lg1,since1,least1,w1+1+1,cc,uu+1,fs,cs,H5,E5,L5,hc5,hl5,hk5,hcs,hAs5,?_,.inl ⟨by rw[ydz_ hti3];exact hCF.1,huu5⟩,hcc,huuM,hfs,hsf,Nat.le_refl _,by omega,hLg⟩;have e2:(s3.dec l).loose=s3.loose:=rfl;rw[e2,hlo3];exact .inr ⟨rfl,.inl rfl⟩
        rcases hcase with ⟨l,hlA,er,hv0,hlL,hAs5,E5⟩|⟨core,y,er,hy,hcne,hcA,hC,hcl,E5⟩|⟨er,hAt,E5⟩
        · subst er
          refine W.condT rfl ?_
          repeat' (with_reducible refine W.next ?_)
          exact goOn _ T4 l hs1 HH E5 hv0 hlL hAs5 (fun v h1 h2 h4 _=>L3.hp v h1 h2 h4) hc hl1 k37
        · subst er
          refine W.condF rfl ?_;have hyns:∃a b c d,y=.sl a b c d:=by
            rcases hy with ⟨_,q⟩|⟨a,b,c,_,_,q,_⟩
            · exact absurd q hcne
            · exact⟨_,_,_,_,q⟩
          have heq:∀(K:Bool->Option ((Unit⊕AVal)×Heap)),eqS y .nils K=K false:=by
            obtain⟨a,b,c,d,rfl⟩:=hyns;intro K;rfl
          refine W.to (heq _) ?_;refine W.condT rfl ?_
          repeat' with_reducible first|refine W.bind ?_|refine W.asV ?_|refine W.e0 ?_
          refine W.mono (ya4_ E5 HH.tn L3 (by omega) hy (by omega) (fun l hl=>hAb l (hcA l hl)) hC) fun r hr=>?_;obtain⟨r,τ5⟩:=r;obtain⟨T5,H5,er,E6,L6⟩:=hr;dsimp only at er H5 E6⊢;subst er;replace HH:=HH.trans H5.ej;replace k37:=k37.hop H5;replace hy:=hy.hop H5
          repeat' (with_reducible refine W.e3 ?_)
          have hn:=HH.tn;refine W.stT k37 hn (by simp[hcs]) fun τ6 H6 k37 _=>?_;have e5:cs.take 0++[.bool false,.nils,y]++cs.drop (0+[AVal.bool false,.nils,y].length)=[.bool false,.nils,y]:=by simp[hcs]
          rw[e5]at k37;have E7:EnX τ6 T5 e n s3 hs1 ln1 (lg1++[(false,negs core)]) since1 least1:=by
            obtain⟨h,xs,xl,xg,conf,bump,most,sv,ws,E6⟩:=E6;exact⟨h,xs,xl,xg,conf,bump,most,sv,ws,E6.hopE H6⟩
          repeat' (with_reducible refine W.stop ?_)
          exact⟨rfl,T5,s3,hs1,ln1,_,since1,least1,_,HH.trans H6.ej37,E7,L6,by omega,fun hg=>by
            obtain⟨g1,g2,g3⟩:=hLg hg;have:=hsf g1;exact(g3.fin (by omega) (by omega) (c:=negs core) (by simp[negs];exact hcl)).1,_,k37,rfl,.inr ⟨y,core,lg1,rfl,hy.hop H6,hcA,ya0_ L3 hC (fun l hl=>hAL l (hcA l hl)),hcl,rfl⟩⟩
        · subst er
          refine W.condF rfl ?_;refine W.eqSn ?_;refine W.condF rfl ?_
          repeat' with_reducible first|refine W.bind ?_|refine W.asV ?_|refine W.e0 ?_
          refine W.mono (ydv_ E5 HH.tn L3 hn4) fun r hr=>?_;obtain⟨r,τ5⟩:=r;obtain⟨T5,hs5,H5,hcase⟩:=hr;dsimp only at H5 hcase⊢;replace HH:=HH.trans H5.ej;replace hc:=hc.hop H5;replace hl1:=hl1.hop H5;replace k37:=k37.hop H5;have hl1u:=hl1.up;rcases hcase with ⟨er,l,hv0,hlL,E6,hcov⟩|⟨er,hall,E6⟩
          · subst er
            refine W.condF rfl ?_
            repeat' (with_reducible refine W.next ?_)
            exact goOn _ T5 l hs5 HH E6 hv0 hlL (hAs3.decF hti3 hlL hv0 hAt) hcov hc hl1 k37
          · subst er
            refine W.condT rfl ?_
            repeat' with_reducible first|refine W.bind ?_|refine W.asV ?_|refine W.e0 ?_
            have L5:EnL gl n C s3 hs5 ln1 lg1 since1 least1 (w1+1):=L3.heap fun v h1 h2 h4=>absurd h4 (hall v (ym_.2 ⟨by omega,by omega,by omega⟩));refine W.mono (yc6_ E6 HH.tn L5 hn4) fun r hr=>?_;obtain⟨y,τ6⟩:=r;obtain⟨T6,Mo,H6,E7,hy,hMl,hMv⟩:=hr;dsimp only at H6 E7 hy⊢;replace HH:=HH.trans H6.ej;replace k37:=k37.hop H6;have hyu:=hy.up
            repeat' (with_reducible refine W.scalS (by assumption) ?_)
            have hn:=HH.tn;refine W.stT k37 hn (by simp[hcs]) fun τ7 H7 k37 _=>?_;have e5:cs.take 0++[.bool true,y,.nils]++cs.drop (0+[AVal.bool true,y,.nils].length)=[.bool true,y,.nils]:=by simp[hcs]
            rw[e5]at k37;have E8:EnX τ7 T6 e n s3 hs5 ln1 lg1 since1 least1:=by
              obtain⟨h,xs,xl,xg,conf,bump,most,sv,ws,E7⟩:=E7;exact⟨h,xs,xl,xg,conf,bump,most,sv,ws,E7.hopE H7⟩
            repeat' (with_reducible refine W.stop ?_)
            exact⟨rfl,T6,s3,hs5,ln1,lg1,since1,least1,_,HH.trans H7.ej37,E8,L5,by omega,fun hg=>by
              obtain⟨g1,g2,g3⟩:=hLg hg;have:=hsf g1;exact(g3.fin (by omega) (by omega) (c:=[]) (by simp)).2,_,k37,rfl,.inl ⟨y,Mo,rfl,hy.hop H7,hMl,L3.model hlo3 hhd3 hall hMv,fun a ha=>y97_ hti3 hMv (hAL a ha) (hAt a ha)⟩⟩
  · obtain⟨v,τ3⟩:=r
    obtain⟨ev,T3,s3,hs3,ln3,lg3,since3,least3,w3,HH,E3,L3,hw3,hLF,cs,k37,hcs,hR⟩:=hr;dsimp only at ev HH E3 k37 hR⊢;subst ev;refine W.bind ?_;refine W.mono (y52_ (k:=0) E3 HH.tn L3 hn4) fun r hr=>?_;obtain⟨r,τ4⟩:=r;obtain⟨T4,hs4,H4,E4,L4⟩:=hr;dsimp only at H4 E4⊢;replace k37:=k37.hop H4;have hg:=k37.up;refine W.ldGL hg (by omega) ?_;have e3:(cs.drop 0).take 3=cs:=by rw[List.drop_zero,List.take_of_length_le (by omega)]
    rw[e3]
    repeat' with_reducible refine W.ret ?_
    refine⟨T4,_,hs4,ln3,lg3,since3,least3,w3+1,HH.trans H4.ej,E4,L4,by omega,y60_ L3.si,?_,hLF⟩;rcases hR with ⟨y,M,er,h1,h2⟩|⟨y,core,lg0,er,h1,h2⟩
    · exact .inl ⟨y,M,er,h1.hop H4,h2⟩
    · exact .inr ⟨y,core,lg0,er,h1.hop H4,h2⟩
end
end
section
open Go
def eK:Nat->Bool:=fun j=>eJ j||j==39
theorem Hop.ek{σ τ:Heap}{T T':Tg}(H:Hop eI σ T τ T'):Hop eK σ T τ T':=H.sub fun i hi=>by simp[eK,eJ,hi]
theorem Hop.jk{σ τ:Heap}{T T':Tg}(H:Hop eJ σ T τ T'):Hop eK σ T τ T':=H.sub fun i hi=>by simp[eK,hi]
theorem Hop.ok{σ τ:Heap}{T T':Tg}{t:Nat}(H:Hop (only t) σ T τ T')(ht:eK t=true:=by rfl):Hop eK σ T τ T':=H.sub fun i hi=>by
 have:i=t:=by simpa using hi
 rw[this];exact ht
section
variable{σ τ:Heap}{T T':Tg}{e:EnP}{n k id:Nat}{s:PS}{hs c:List Int}{ln:List (Int×Int)}{lg:List (Bool×List Int)}{since least:Int}{x:AVal}{A xs:List Int}{gl:Bool}{C:List (List Int)}{w:Nat}
theorem y37_(h:SlV .int (σ.at T 0) xs x)(hn:Tn σ T)(hb:xs.length<=1000000):W (S.z44 x σ) fun r=>∃T' y,r.1=.agg [y,.int .i64 0]/\Hop (only 39) σ T r.2 T'/\SlV .int (r.2.at T' 0) xs y:=by
 unfold S.z44;refine W.newT 39 hn fun l1 τ1 T1 hl1 H1 k1 hnτ1=>?_;replace h:=h.hop H1;replace hn:=H1.tn;refine W.bind ?_;refine W.mono (y83_ h hn hb) fun r hr=>?_;obtain⟨y,τ2⟩:=r;obtain⟨L2,_,hy⟩:=hr;dsimp only at L2 hy⊢;replace k1:=k1.hle L2;replace hn:=hn.mono L2;have hyu:=hy.up;refine W.scalS hyu ?_;refine W.stT k1 hn (Nat.le_of_ble_eq_true (by rfl)) fun τ3 H3 k1 hnτ3=>?_;replace hy:=hy.hop H3
 repeat' with_reducible first|refine W.ret ?_|refine W.u1 ?_
 exact⟨T1,y,rfl,(H1.trans (Hop.of H1.tn L2)).trans H3,hy⟩
def ScV(σ:Heap)(x:AVal)(s:(List Int×List Int×List Int×List Int)×Int×Int):Prop:=∃x0 x1 x2 x3,x=.agg [x0,x1,x2,x3,.int .i64 s.2.1,.int .i64 s.2.2]/\SlV .int σ s.1.1 x0/\SlV .int σ s.1.2.1 x1/\SlV .int σ s.1.2.2.1 x2/\SlV .int σ s.1.2.2.2 x3
def ScS(s:(List Int×List Int×List Int×List Int)×Int×Int):Prop:=s.1.1.length<=50/\s.1.2.1.length<=50/\s.1.2.2.1.length<=50/\s.1.2.2.2.length<=50
variable{sc:(List Int×List Int×List Int×List Int)×Int×Int}
theorem ScV.hop{I:Nat->Bool}(h:ScV (σ.at T 0) x sc)(H:Hop I σ T τ T')(h0:I 0=false:=by rfl):ScV (τ.at T' 0) x sc:=by
 obtain⟨x0,x1,x2,x3,e,h1,h2,h3,h4⟩:=h;exact⟨x0,x1,x2,x3,e,h1.hop H h0,h2.hop H h0,h3.hop H h0,h4.hop H h0⟩
theorem ScV.hle(h:ScV (σ.at T 0) x sc)(L:Hle σ τ):ScV (τ.at T 0) x sc:=by
 obtain⟨x0,x1,x2,x3,e,h1,h2,h3,h4⟩:=h;exact⟨x0,x1,x2,x3,e,h1.hle L,h2.hle L,h3.hle L,h4.hle L⟩
theorem ye2_(h:ScV (σ.at T 0) x sc)(hn:Tn σ T)(hs:ScS sc):W (S.z43 x σ) fun r=>∃T' lq,r.1=.ptr lq 0/\Hop eK σ T r.2 T'/\PcI r.2 T' lq sc.2.1 0 16:=by
 obtain⟨x0,x1,x2,x3,rfl,h0,h1,h2,h3⟩:=h;obtain⟨b0,b1,b2,b3⟩:=hs;unfold S.z43
 repeat' (with_reducible refine W.e3 ?_)
 refine W.new0 hn fun l2 τ1 _ L1 k1 hn1=>?_;replace h0:=h0.hle L1;replace h1:=h1.hle L1;replace h2:=h2.hle L1;replace h3:=h3.hle L1;have HH:Hop eK σ T τ1 T:=Hop.of hn L1;have hn:=hn1
 repeat' with_reducible first|refine W.bind ?_|refine W.asV ?_|refine W.u0 ?_
 refine W.mono (y37_ h0 hn (by omega)) fun r hr=>?_;obtain⟨r,τ2⟩:=r;obtain⟨T2,y0,er,H2,j0⟩:=hr;dsimp only at er H2 j0⊢;subst er;replace HH:=HH.trans H2.ok;have k2:=k1.hop H2;replace h1:=h1.hop H2;replace h2:=h2.hop H2;replace h3:=h3.hop H2;replace hn:=H2.tn
 repeat' with_reducible first|refine W.bind ?_|refine W.asV ?_|refine W.chk rfl ?_|refine W.u0 ?_
 refine W.mono (y37_ h1 hn (by omega)) fun r hr=>?_;obtain⟨r,τ3⟩:=r;obtain⟨T3,y1,er,H3,j1⟩:=hr;dsimp only at er H3 j1⊢;subst er;replace HH:=HH.trans H3.ok;have k3:=k2.hop H3;replace h2:=h2.hop H3;replace h3:=h3.hop H3;replace j0:=j0.hop H3;replace hn:=H3.tn
 repeat' with_reducible first|refine W.bind ?_|refine W.asV ?_|refine W.chk rfl ?_|refine W.u0 ?_
 refine W.mono (y37_ h2 hn (by omega)) fun r hr=>?_;obtain⟨r,τ4⟩:=r;obtain⟨T4,y2,er,H4,j2⟩:=hr;dsimp only at er H4 j2⊢;subst er;replace HH:=HH.trans H4.ok;have k4:=k3.hop H4;replace h3:=h3.hop H4;replace j0:=j0.hop H4;replace j1:=j1.hop H4;replace hn:=H4.tn
 repeat' with_reducible first|refine W.bind ?_|refine W.asV ?_|refine W.chk rfl ?_|refine W.u0 ?_
 refine W.mono (y37_ h3 hn (by omega)) fun r hr=>?_;obtain⟨r,τ5⟩:=r;obtain⟨T5,y3,er,H5,j3⟩:=hr;dsimp only at er H5 j3⊢;subst er;replace HH:=HH.trans H5.ok;have k5:=k4.hop H5;replace j0:=j0.hop H5;replace j1:=j1.hop H5;replace j2:=j2.hop H5;replace hn:=H5.tn
 repeat' with_reducible first|refine W.asI ?_|refine W.chk rfl ?_|refine W.e3 ?_|refine W.putC (by with_unfolding_all rfl) ?_|refine W.u0 ?_
 refine W.newT 30 hn fun l34 τ6 T6 hl34 H6 k30 hnτ6=>?_;replace HH:=HH.trans H6.ok;replace j0:=j0.hop H6;replace j1:=j1.hop H6;replace j2:=j2.hop H6;replace j3:=j3.hop H6;replace hn:=H6.tn
 repeat' with_reducible refine W.ret ?_
 exact⟨T6,l34,rfl,HH,⟨y0,0,y1,0,y2,0,y3,0,0,k30,⟨_,j0,by omega,by omega,by omega⟩,⟨_,j1,by omega,by omega,by omega⟩,⟨_,j2,by omega,by omega,by omega⟩,⟨_,j3,by omega,by omega,by omega⟩⟩⟩
def EnW(σ:Heap)(T:Tg)(e:EnP)(n:Nat)(s:PS)(hs:List Int)(ln:List (Int×Int))(lg:List (Bool×List Int))(since least:Int)(k:Nat):Prop:=∃h xs xl xg conf bump most sv ws,Loc (σ.at T 31) e.le [.ptr e.lp 0,.ptr e.lh 0,.ptr e.lq 0,xs,xl,xg,.int .i64 conf,.int .i64 bump]/\PropH σ T e.lp h s/\HpI σ T e.lh n hs/\PcI σ T e.lq most since least/\most<=0/\Own .int (σ.at T 32) sv xs/\sv.length=k/\Own vLn (σ.at T 33) ln xl/\Own vBR (σ.at T 34) ws xg/\AllB (σ.at T 0) lg ws
theorem ye1_{vars:Nat}(E:EnW σ T e n s hs ln lg since least k)(hn:Tn σ T)(hL:PLen (n+1) s)(hk:k<=n+1)(hn4:n<=4000)(hv:vars<=4000) :
  W (S.z91 (.ptr e.le 0) (vars:Int) σ) fun r=>∃T' hs',Hop eI σ T r.2 T'/\EnX r.2 T' e (n+(vars-n)) (s.grow (vars-n)) hs' ln lg since least/\∀x:Int,x∈hs'↔x∈hs\/((n:Int)<x/\x<=vars):=by
 obtain⟨h,xs,xl,xg,conf,bump,most,sv,ws,k1,kp,kh,kq,km,ks,ksl,kl,kg,ka⟩:=E;unfold S.z91
 repeat' with_reducible first|refine W.bind ?_|refine W.asV ?_|refine W.fldp ?_|refine W.nck ?_|refine W.u0 ?_
 refine W.mono (y75_ (vars:=vars) kp hn hL (by omega) hv (by omega)) fun r hr=>?_;obtain⟨r,τ1⟩:=r;obtain⟨T1,h1,H1,kp⟩:=hr;dsimp only at H1 kp⊢;rw[show vars+1-(n+1)=vars-n from by omega]at kp;replace kh:=kh.hopP H1;replace kq:=kq.hop H1;replace ka:=ka.hop H1;have HH:=H1.pe;replace k1:=k1.hop H1;replace ks:=ks.hop H1;replace kl:=kl.hop H1;replace kg:=kg.hop H1;replace hn:=H1.tn
 repeat' with_reducible first|refine W.bind ?_|refine W.asV ?_|refine W.fldp ?_|refine W.nck ?_|refine W.u0 ?_
 refine W.mono (y70_ (vars:=vars) kh hn hn4 hv) fun r hr=>?_;obtain⟨r,τ2⟩:=r;obtain⟨T2,hs2,H2,kh,hm⟩:=hr;dsimp only at H2 kh⊢;rw[show max n vars=n+(vars-n)from by omega]at kh;replace kp:=kp.hopH H2;replace kq:=kq.hop H2;replace ka:=ka.hop H2;replace HH:=HH.trans H2.he;replace k1:=k1.hop H2;replace ks:=ks.hop H2;replace kl:=kl.hop H2;replace kg:=kg.hop H2;replace hn:=H2.tn
 repeat' (with_reducible refine W.bind ?_)
 have hvs:(s.grow (vars-n)).vs.length=n+(vars-n)+1:=by
  simp only[PS.grow,List.length_append,List.length_replicate,hL.vs];omega
 generalize hN:n+(vars-n)=N at kh hvs⊢;have hN4:N<=4000:=by omega
 generalize hS:s.grow (vars-n)=s1 at kp hvs⊢;refine W.mono (P:=fun r=>∃T',Hop eI σ T r.2 T'/\EnX r.2 T' e N s1 hs2 ln lg since least) ?_ fun r hr=>?_
 ·refine W.loopI (m:=N+1-sv.length) (fun m (_:Unit) τ=>∃(T':Tg) (sv':List Int) (xs':AVal),Hop eI σ T τ T'/\Loc (τ.at T' 31) e.le [.ptr e.lp 0,.ptr e.lh 0,.ptr e.lq 0,xs',xl,xg,.int .i64 conf,.int .i64 bump]/\PropH τ T' e.lp h1 s1/\HpI τ T' e.lh N hs2/\PcI τ T' e.lq most since least/\Own .int (τ.at T' 32) sv' xs'/\sv'.length<=N+1/\m=N+1-sv'.length/\Own vLn (τ.at T' 33) ln xl/\Own vBR (τ.at T' 34) ws xg/\AllB (τ.at T' 0) lg ws) ⟨T2,sv,xs,HH,k1,kp,kh,kq,ks,by omega,rfl,kl,kg,ka⟩ fun m _ τ hI2=>?_
  clear kp kh kq ks kl kg ka k1 HH
  obtain⟨T3,sv3,xs3,HH,k1,kp,kh,kq,ks,hsv,rfl,kl,kg,ka⟩:=hI2;unfold S.z91.b0;have ksl:=ks.slT
  repeat' with_reducible first|refine W.bind ?_|refine W.asV ?_|refine W.fldp ?_|refine W.len (by assumption) ?_|refine W.nck ?_|refine W.u0 ?_
  refine W.to (y2r_ kp hvs hN4) ?_
  repeat' with_reducible refine W.ret ?_
  (with_reducible refine W.cnd (fun hlt=>?_) (fun hlt=>?_)<;>(try simp only[qq,Kd.ty]at hlt)<;>(try (exfalso;omega)))
  ·repeat' with_reducible first|refine W.asV ?_|refine W.fldp ?_|refine W.nck ?_|refine W.u0 ?_
   refine W.own_push (bytes:=8) Vw.int_flat ks HH.tn (a:=(0:Int)) rfl (by omega) (by omega) fun x2 τ5 T5 ks H5=>?_;replace HH:=HH.trans H5.oe;replace k1:=k1.hop H5;replace kp:=kp.hopO H5;replace kh:=kh.hopB H5;replace kq:=kq.hop H5;replace kl:=kl.hop H5;replace kg:=kg.hop H5;replace ka:=ka.hop H5;have hn:=HH.tn
   repeat' with_reducible first|refine W.fldp ?_|refine W.nck ?_|refine W.u4 ?_
   refine W.stT k1 hn (Nat.le_of_ble_eq_true (by rfl)) fun τ6 H6 k1 hnτ6=>?_;replace HH:=HH.trans H6.oe;replace kp:=kp.hopO H6;replace kh:=kh.hopB H6;replace kq:=kq.hop H6;replace ka:=ka.hop H6;replace ks:=ks.hop H6;replace kl:=kl.hop H6;replace kg:=kg.hop H6;replace hn:=H6.tn
   repeat' (with_reducible refine W.next ?_)
   exact⟨N+1-(sv3++[0]).length,by simp;omega,T5,_,x2,HH,k1,kp,kh,kq,ks,by simp;omega,rfl,kl,kg,ka⟩
  ·repeat' (with_reducible refine W.stop ?_)
   exact⟨T3,HH,h1,xs3,xl,xg,conf,bump,most,sv3,ws,k1,kp,kh,kq,km,ks,by omega,kl,kg,ka⟩
 ·obtain⟨r,τ3⟩:=r
  obtain⟨T3,HH,E⟩:=hr
  repeat' with_reducible refine W.ret ?_
  exact⟨T3,hs2,HH,E,hm⟩
theorem EnL.grow{hs':List Int}(L:EnL gl n C s hs ln lg since least w)(m:Nat)(hm:∀x:Int,x∈hs'↔x∈hs\/((n:Int)<x/\x<=(n:Int)+m)):EnL gl (n+m) C (s.grow m) hs' ln lg since least w:=by
 obtain⟨S1,S2⟩:=L.si.grow m;have hv:∀v:Nat,v<=n->val (s.grow m).vs v=val s.vs v:=fun v hv=>by
  have:=L.si.ti.len.vs;unfold val PS.grow;simp only[Int.natAbs_natCast];rw[y6q_ (by omega)];have e1:¬(s.vs++List.replicate m 0).length<=v:=by simp;omega
  have e2:¬s.vs.length<=v:=by omega
  simp only[e1,e2]
 refine⟨S1,fun v h1 h2 h3=>(hm v).2 ?_,L.lnI,L.lnN,L.orI,L.snd,fun c hc x hx=>yai_ (L.cl c hc x hx) (by omega),L.lgI,L.z1,?_,L.z3,L.z4,L.z5,L.z6⟩
 ·by_cases hvn:v<=n
  ·exact .inl (L.hp v h1 hvn (by rw[<-hv v hvn];exact h3))
  ·exact .inr (by omega)
 ·have:=L.z2
  rw[S2];exact this
end
end
section
open Go
theorem StI.zero:StI 0 PS.zero:=by
 have hc:∀(id:Nat) x,¬PS.zero.cls[id]?=some x:=fun id x h=>by simp[PS.zero]at h
 have ht:∀l,¬l∈PS.zero.trail:=fun l h=>by simp[PS.zero]at h
 have htg:∀(i:Nat) l,¬PS.zero.trail[i]?=some l:=fun i l h=>by simp[PS.zero]at h
 refine⟨⟨⟨rfl,rfl,rfl,rfl⟩,?_,fun l h=>absurd h (ht l),fun l=>⟨fun h=>?_,fun h=>absurd h (ht l)⟩,by simp[PS.zero],fun l h=>absurd h (ht l),fun k m h=>by simp[PS.zero]at h,fun i l h=>absurd h (htg i l)⟩,fun id c f h=>absurd h (hc _ _),⟨by simp[PS.zero],fun x h=>by simp[PS.zero]at h,fun id c b h=>absurd h (hc _ _)⟩,fun id c f h=>absurd h (hc _ _),fun w hw e he=>?_,⟨0,rfl,Nat.zero_le _,fun m h=>by simp[PS.zero]at h,fun id c h=>absurd h (hc _ _)⟩⟩
 ·intro i x;simp[PS.zero]at x;omega
 ·exfalso
  unfold val PS.zero at h;have:([0]:List Int).getD l.natAbs 0=0:=by
   rcases hq:l.natAbs with _|k
   ·rfl
   ·simp
  rw[this]at h;simp at h
 ·simp[PS.zero]at hw
  subst hw;cases he
section
variable{σ τ:Heap}{T T':Tg}{e:EnP}{n k id:Nat}{s:PS}{hs c:List Int}{ln:List (Int×Int)}{lg:List (Bool×List Int)}{since least most:Int}{x:AVal}{A xs:List Int}{gl:Bool}{C:List (List Int)}{w:Nat}{sc:(List Int×List Int×List Int×List Int)×Int×Int}
theorem EnL.zero:EnL gl 0 [] PS.zero [] [] [] 0 16 0:=
 ⟨StI.zero,fun v h1 h2=>(by omega),fun e h=>(by cases h),List.nodup_nil,fun c h=>(by cases h),fun m h c hc=>(by simp[PS.db,PS.zero]at hc),fun c h=>(by cases h),fun _=>⟨[],[],.nil,by simp[PS.db,PS.zero]⟩,Nat.le_refl _,by decide,Nat.le_refl _,Nat.le_refl _,by omega,by omega⟩
theorem ybt_{lq vars:Nat}(hq:PcI σ T lq most 0 16)(hm:most<=0)(hn:Tn σ T)(hv:vars<=4000) :
  W (S.z104 (vars:Int) (.ptr lq 0) σ) fun r=>∃T' e s hs,r.1=.ptr e.le 0/\Hop eI σ T r.2 T'/\EnX r.2 T' e vars s hs [] [] 0 16/\EnL gl vars [] s hs [] [] 0 16 0/\s.marks=[]:=by
 unfold S.z104;refine W.bind ?_;refine W.mono (ye5_ hn) fun r hr=>?_;obtain⟨r,τ1⟩:=r;obtain⟨T1,lp,h1,er,H1,kp⟩:=hr;dsimp only at er H1 kp⊢;subst er;replace hq:=hq.hop H1;have HH:=H1.pe;refine W.bind ?_;refine W.mono (ydr_ HH.tn) fun r hr=>?_;obtain⟨r,τ2⟩:=r;obtain⟨T2,lh,er,H2,kh⟩:=hr;dsimp only at er H2 kh⊢;subst er;replace hq:=hq.hop H2;replace kp:=kp.hopH H2;replace HH:=HH.trans H2.he;have hn:=HH.tn
 repeat' (with_reducible refine W.scP ?_)
 refine W.newT 31 hn fun l3 τ3 T3 hl3 H3 k1 hnτ3=>?_;replace hq:=hq.hop H3;replace kp:=kp.hopO H3;replace kh:=kh.hopB H3;replace HH:=HH.trans H3.oe;have E:EnW τ3 T3 ⟨l3,lp,lh,lq⟩ 0 PS.zero [] [] [] 0 16 0:=⟨_,_,_,_,_,_,most,[],[],k1,kp,kh,hq,hm,Own.nil,rfl,Own.nil,Own.nil,⟨rfl,fun i a y=>(by simp at y)⟩⟩;refine W.bind ?_;refine W.mono (ye1_ (vars:=vars) E HH.tn ⟨rfl,rfl,rfl,rfl⟩ (by omega) (by omega) hv) fun r hr=>?_;obtain⟨r,τ4⟩:=r;obtain⟨T4,hs4,H4,E4,hm4⟩:=hr;dsimp only at H4 E4⊢;have hL:=(EnL.zero (gl:=gl)).grow (hs':=hs4) (vars-0) (fun x=>by rw[hm4];simp);rw[show 0+(vars-0)=vars from by omega]at E4 hL
 repeat' with_reducible refine W.ret ?_
 exact⟨T4,⟨l3,lp,lh,lq⟩,_,hs4,rfl,HH.trans H4,E4,hL,rfl⟩
theorem yem_{vars:Nat}(h:ScV (σ.at T 0) x sc)(hn:Tn σ T)(hs:ScS sc)(hm:sc.2.1<=0)(hv:vars<=4000) :
  W (S.z102 (vars:Int) x σ) fun r=>∃T' e s hs,r.1=.ptr e.le 0/\Hop eK σ T r.2 T'/\EnX r.2 T' e vars s hs [] [] 0 16/\EnL gl vars [] s hs [] [] 0 16 0/\s.marks=[]:=by
 obtain⟨x0,x1,x2,x3,rfl,h0,h1,h2,h3⟩:=h;unfold S.z102
 repeat' (with_reducible refine W.e3 ?_)
 refine W.new0 hn fun l2 τ1 _ L1 k1 hn1=>?_;have hx:ScV (τ1.at T 0) (.agg [x0,x1,x2,x3,.int .i64 sc.2.1,.int .i64 sc.2.2]) sc:=⟨x0,x1,x2,x3,rfl,h0.hle L1,h1.hle L1,h2.hle L1,h3.hle L1⟩;have HH:Hop eK σ T τ1 T:=Hop.of hn L1
 repeat' with_reducible first|refine W.bind ?_|refine W.u1 ?_
 refine W.mono (ye2_ hx hn1 hs) fun r hr=>?_;obtain⟨r,τ2⟩:=r;obtain⟨T2,lq,er,H2,hq⟩:=hr;dsimp only at er H2 hq⊢;subst er;replace HH:=HH.trans H2
 repeat' (with_reducible refine W.bind ?_)
 refine W.mono (ybt_ (gl:=gl) (vars:=vars) hq hm HH.tn hv) fun r hr=>?_;obtain⟨r,τ3⟩:=r;obtain⟨T3,e,s,hs,er,H3,hE,hL,hmk⟩:=hr;dsimp only at er H3 hE⊢;subst er
 repeat' with_reducible refine W.ret ?_
 exact⟨T3,e,s,hs,rfl,HH.trans H3.ek,hE,hL,hmk⟩
theorem ygt_{l1 u:Nat}{y:AVal}(E:EnX σ T e n s hs ln lg since least)(hc:SlV .int (σ.at T u) A x)(hAL:A.length<=1000000)(hl1:Loc (σ.at T 0) l1 [.ptr e.le 0])(hv:s.vs.length=n+1)(hn4:n<=4000){f:AVal}(hf:∀l∈A,∀{Rt:Type} (K:AVal->Heap->Option Rt),callV S.z119.T f [.int .i64 l] σ K=(S.z90 l (.ptr l1 0) σ).bind fun x=>K (retV [.B] x) σ) :
  W (S.z116 x f σ) fun r=>r=(A.any fun l => !isL l n,σ):=by
 refine y16_ (fun l => !isL l n) hc.up (by omega) fun l hl Rt K=>?_;rw[hf l hl];have e1:S.z90 l (.ptr l1 0) σ=some (!isL l n):=by
  obtain⟨r,er,rfl⟩:W (S.z90 l (.ptr l1 0) σ) fun r=>r = !isL l n:=by
   obtain⟨h,xs,xl,xg,conf,bump,most,sv,ws,E⟩:=E;have k1:=E.obj;unfold S.z90
   repeat' with_reducible first|refine W.bind ?_|refine W.asV ?_|refine W.fldp ?_|refine W.nck ?_|refine W.u0 ?_
   refine W.to (y2r_ E.prop hv hn4) ?_
   repeat' with_reducible first|refine W.ret ?_|refine W.bind ?_
   refine W.to (y1j_ (by omega) (by omega)) ?_
   repeat' with_reducible refine W.ret ?_
   rfl
  exact er
 rw[e1];rfl
theorem EnX.hle(E:EnX σ T e n s hs ln lg since least)(L:Hle σ τ):EnX τ T e n s hs ln lg since least:=by
 obtain⟨h,xs,xl,xg,conf,bump,most,sv,ws,E⟩:=E;exact⟨h,xs,xl,xg,conf,bump,most,sv,ws,E.hle L⟩
theorem yep_{u:Nat}(E:EnX σ T e n s hs ln lg since least)(hn:Tn σ T)(L:EnL gl n C s hs ln lg since least w)(hn4:n<=4000)(hw:w<=1000000000)(hc:SlV .int (σ.at T u) c x)(hl:c.length<=1000000)(hb:∀l∈c,isL l n=true)(hg:gl=true->lg=[]) :
  W (S.z89 (.ptr e.le 0) x σ) fun r=>r.1=true/\∃T' s',Hop eI σ T r.2 T'/\EnX r.2 T' e n s' hs ln lg since least/\EnL gl n (C++[c]) s' hs ln lg since least (w+1)/\s'.marks=s.marks:=by
 have hL2:=L.add hb hg;unfold S.z89
 repeat' (with_reducible refine W.scP ?_)
 refine W.new0 hn fun l1 τ1 _ L1 hl1 hn1=>?_;replace E:=E.hle L1;replace hc:=hc.hle L1;have HH:Hop eI σ T τ1 T:=Hop.of hn L1;refine W.bind ?_;refine W.mono (ygt_ E hc hl hl1 L.si.ti.len.vs hn4 (y:=x) (fun l hl Rt K=>rfl)) fun r hr=>?_;subst hr;dsimp only;refine W.condF (by rw[List.any_eq_false];intro l hl;simp[hb l hl]) ?_;obtain⟨h,xs,xl,xg,conf,bump,most,sv,ws,E⟩:=E;obtain⟨k1,kp,kh,kq,km,ks,ksl,kl,kg,ka⟩:=E
 repeat' with_reducible first|refine W.bind ?_|refine W.asV ?_|refine W.fldp ?_|refine W.nck ?_|refine W.u0 ?_
 have z1:=L.z1;have z2:=L.z2;refine W.mono (y8v_ (n:=n) kp hn1 L.si.ti.len hn4 hc (by
  rw[List.all_eq_true];exact fun l hl=>y50_ (hb l hl) hn4) hl (by omega) (by omega) (fun w' hw'=>by have:=y5e_ hw';omega)) fun r hr=>?_
 obtain⟨r,τ2⟩:=r;obtain⟨T2,h2,H2,hr⟩:=hr;dsimp only at H2 hr⊢
 repeat' with_reducible refine W.ret ?_
 have hbad:y1w_ n c = !saysN c:=by
  unfold y1w_;have:((normL c).any fun l => !isL l n)=false:=by
   rw[List.any_eq_false];intro l hl;simp[hb l (yc_.1 hl)]
  rw[this];simp
 refine⟨rfl,T2,_,HH.trans H2.pe,⟨h2,xs,xl,xg,conf,bump,most,sv,ws,k1.hop H2,?_,kh.hopP H2,kq.hop H2,km,ks.hop H2,ksl,kl.hop H2,kg.hop H2,ka.hop H2⟩,hL2,?_⟩
 ·rcases hr with ⟨q,_,kp⟩|⟨q,_,kp⟩
  ·rw[hbad]at q
   rw[if_neg (by simpa using q)];exact kp
  ·rw[hbad]at q
   rw[if_pos (by simpa using q),<-ycx_];exact kp
 ·split<;>rfl
end
end
section
open Go
section
variable{σ τ:Heap}{T T':Tg}{e:EnP}{n k id:Nat}{s:PS}{hs c:List Int}{ln:List (Int×Int)}{lg:List (Bool×List Int)}{since least most:Int}{x y:AVal}{A xs:List Int}{gl:Bool}{C cs:List (List Int)}{w:Nat}{sc:(List Int×List Int×List Int×List Int)×Int×Int}
def En(gl:Bool)(σ:Heap)(T:Tg)(e:EnP)(n:Nat)(C:List (List Int))(w:Nat):Prop:=∃s hs ln lg since least,EnX σ T e n s hs ln lg since least/\EnL gl n C s hs ln lg since least w/\s.marks=[]/\(gl=true->lg=[])
theorem yfr_(gl:Bool){vars:Nat}(h:ScV (σ.at T 0) x sc)(hn:Tn σ T)(hs:ScS sc)(hm:sc.2.1<=0)(hv:vars<=4000) :
  W (S.z102 (vars:Int) x σ) fun r=>∃T' e,r.1=.ptr e.le 0/\Hop eK σ T r.2 T'/\En gl r.2 T' e vars [] 0:=
 (yem_ (gl:=gl) h hn hs hm hv).mono fun r hr=>by
  obtain⟨T',e,s,hs,h1,h2,h3,h4,h5⟩:=hr;exact⟨T',e,h1,h2,s,hs,[],[],0,16,h3,h4,h5,fun _=>rfl⟩
theorem yey_{u:Nat}(E:En gl σ T e n C w)(hn:Tn σ T)(hn4:n<=4000)(hw:w<=1000000000)(hc:SlV .int (σ.at T u) c x)(hl:c.length<=1000000)(hb:∀l∈c,isL l n=true) :
  W (S.z89 (.ptr e.le 0) x σ) fun r=>r.1=true/\∃T',Hop eI σ T r.2 T'/\En gl r.2 T' e n (C++[c]) (w+1):=by
 obtain⟨s,hs,ln,lg,since,least,E,L,hm,hg⟩:=E;exact(yep_ E hn L hn4 hw hc hl hb hg).mono fun r hr=>⟨hr.1,hr.2.elim fun T' hr=>hr.elim fun s' hr=>⟨T',hr.1,s',hs,ln,lg,since,least,hr.2.1,hr.2.2.1,by rw[hr.2.2.2,hm],hg⟩⟩
theorem yfv_(E:En gl σ T e n C w)(hn:Tn σ T)(hn4:n<=4000)(hw:w<=1000000000)(hc:SlV .int (σ.at T 0) c x)(hl:c.length<=1000000)(hb:∀l∈c,isL l n=true) :
  W (S.z89 (.ptr e.le 0) x σ) fun r=>r.1=true/\∃T',Hop eK σ T r.2 T'/\En gl r.2 T' e n (C++[c]) (w+1):=by
 exact(yey_ E hn hn4 hw hc hl hb).mono fun r hr=>⟨hr.1,hr.2.elim fun T' hr=>⟨T',hr.1.ek,hr.2⟩⟩
def SoA(σ:Heap)(T:Tg)(n:Nat)(C:List (List Int))(A:List Int)(r:AVal×AVal):Prop:=
 (∃y M,r=(.agg [.bool true,y,.nils],.nili)/\SlV .bool (σ.at T 0) M y/\M.length=n+1/\mods (mOf M) C/\∀a∈A,holds (mOf M) a=true) \/
 (∃y core,r=(.agg [.bool false,.nils,y],.nili)/\SlV .int (σ.at T 0) core y/\(∀l∈core,l∈A)/\(∀m,mods m C->¬ ∀l∈core,holds m l=true)/\core.length<=n+1)
theorem ydc_(E:En false σ T e n C w)(hn:Tn σ T)(hn13:n<=20)(hc:SlV .int (σ.at T 0) A x)(hAl:A.length<=100000)(hAL:∀l∈A,isL l n=true)(hw:w+6*mu n<=850000000000) :
  W (S.z92 (.ptr e.le 0) x σ) fun r=>∃T' w',Hop eK σ T r.2 T'/\En false r.2 T' e n C w'/\w'<=w+6*mu n+10/\SoA r.2 T' n C A r.1:=by
 obtain⟨s,hs,ln,lg,since,least,E,L,hm,hg'⟩:=E;refine(yf9_ E hn L hn13 hm hc hAl hAL hw fun h=>by cases h).mono fun r hr=>?_;obtain⟨T',s',hs',ln',lg',since',least',w',h1,h2,h3,h4,h5,h6,_⟩:=hr;refine⟨T',w',h1.jk,⟨s',hs',ln',lg',since',least',h2,h3,h5,fun h=>by cases h⟩,h4,?_⟩;rcases h6 with ⟨y,M,q⟩|⟨y,core,lg0,q1',q2',q3',q4',q5',_⟩
 ·exact .inl ⟨y,M,q⟩
 ·exact .inr ⟨y,core,q1',q2',q3',q4',q5'⟩
theorem ydy_{l:Int}{n:Nat}(h:l≠0/\-(n:Int)<=l/\l<=n):isL l n=true:=ym_.2 (by omega)
theorem yge_(hg:GlS [.limit,.range] σ)(hc:SlV vIs (σ.at T 0) cs x)(hsc:ScV (σ.at T 0) y sc)(hn:Tn σ T)(hs:ScS sc)(hm:sc.2.1<=0)(hok:chkC n cs=none) :
  W (S.z103 (.agg [.int .i64 n,x]) y σ) fun r=>∃T' e,r.1=(.ptr e.le 0,.nili)/\Hop eK σ T r.2 T'/\En gl r.2 T' e n cs cs.length:=by
 obtain⟨c1,c2,c3,c4,c5⟩:=ydg_ hok;have hfl:∀c∈cs,c.length<=80000:=fun c hm=>Nat.le_trans (y9n_ hm) c4;unfold S.z103
 repeat' (with_reducible refine W.e3 ?_)
 refine W.new0 hn fun l2 τ1 _ L1 k1 hn1=>?_;obtain⟨x0,x1,x2,x3,rfl,h0,h1,h2,h3⟩:=hsc
 repeat' (with_reducible refine W.e3 ?_)
 refine W.new0 hn1 fun l5 τ2 _ L2 k2 hn2=>?_;have L12:=L1.trans L2;replace hc:=hc.hle L12;have hx:ScV (τ2.at T 0) (.agg [x0,x1,x2,x3,.int .i64 sc.2.1,.int .i64 sc.2.2]) sc:=⟨x0,x1,x2,x3,rfl,h0.hle L12,h1.hle L12,h2.hle L12,h3.hle L12⟩;replace k1:=k1.hle L2
 repeat' with_reducible first|refine W.bind ?_|refine W.u1 ?_
 refine W.mono (yan_ (hg.mono L12) hc.up (by omega) (by omega)) fun r hr=>?_;obtain⟨v,τ3⟩:=r;obtain⟨hF,L3⟩:=hr;dsimp only at hF L3⊢;rw[hok]at hF;refine W.fnil hF ?_;refine W.condF rfl ?_;replace hc:=hc.hle L3;replace k1:=k1.hle L3;replace k2:=k2.hle L3;have hx:ScV (τ3.at T 0) (.agg [x0,x1,x2,x3,.int .i64 sc.2.1,.int .i64 sc.2.2]) sc:=hx.hle L3;have HH:Hop eK σ T τ3 T:=Hop.of hn (L12.trans L3)
 repeat' with_reducible first|refine W.bind ?_|refine W.asI ?_|refine W.u0 ?_|refine W.u1 ?_
 refine W.mono (yfr_ gl (vars:=n) hx HH.tn hs hm (by omega)) fun r hr=>?_;obtain⟨r,τ4⟩:=r;obtain⟨T4,e,er,H4,E⟩:=hr;dsimp only at er H4 E⊢;subst er;replace HH:=HH.trans H4;replace hc:=hc.hop H4;replace k1:=k1.hop H4;have hcu:=hc.up
 repeat' with_reducible first|refine W.bind ?_|refine W.asV ?_|refine W.len (by assumption) ?_|refine W.u0 ?_
 refine W.mono (P:=fun r=>∃T',Hop eK σ T r.2 T'/\En gl r.2 T' e n cs cs.length) ?_ fun r hr=>?_
 ·refine W.loop cs.length (fun i (z:Int) τ=>z=(i:Int)/\∃T',Hop eK σ T τ T'/\SlV vIs (τ.at T' 0) cs x/\En gl τ T' e n (cs.take i) i) ⟨rfl,T4,HH,hc,by simpa using E⟩ fun i z τ5 hi hI2=>?_
  obtain⟨rfl,T5,HH,hc,E⟩:=hI2;have wr:IntKind.i64.wrap ((i:Int)+1)=((i+1:Nat):Int):=by rw[wrapS]<;>omega
  unfold S.z103.b0
  (with_reducible refine W.cnd (fun hlt=>?_) (fun hlt=>?_)<;>(try simp only[qq,Kd.ty]at hlt)<;>(try (exfalso;omega)))
  ·obtain⟨a,ha⟩:=y3_ (xs:=cs) (i:=i) (by omega)
   have ham:=List.mem_of_getElem? ha;refine W.ixkLS hc at_le ha fun y hy=>?_;refine W.bind ?_;refine W.mono (yfv_ E HH.tn (by omega) (by omega) hy (by have:=hfl a ham;omega) fun l hl=>ydy_ (c5 a ham l hl)) fun r hr=>?_;obtain⟨r,τ6⟩:=r;obtain⟨_,T6,H6,E⟩:=hr;dsimp only at H6 E⊢
   repeat' (with_reducible refine W.next ?_)
   exact⟨by omega,wr,T6,HH.trans H6,hc.hop H6,by rw[List.take_add_one,ha];exact E⟩
  ·repeat' (with_reducible refine W.stop ?_)
   have:i=cs.length:=by omega
   subst this;rw[List.take_length]at E;exact⟨T5,HH,E⟩
 ·obtain⟨r,τ5⟩:=r
  obtain⟨T5,HH,E⟩:=hr
  repeat' with_reducible refine W.ret ?_
  exact⟨T5,e,rfl,HH,E⟩
end
end
section
open Go
def eL:Nat->Bool:=fun j=>eK j||j==38
theorem Hop.kl{σ τ:Heap}{T T':Tg}(H:Hop eK σ T τ T'):Hop eL σ T τ T':=H.sub fun i hi=>by simp[eL,hi]
theorem Hop.ol{σ τ:Heap}{T T':Tg}{t:Nat}(H:Hop (only t) σ T τ T')(ht:eL t=true:=by rfl):Hop eL σ T τ T':=H.sub fun i hi=>by
 have:i=t:=by simpa using hi
 rw[this];exact ht
section
variable{R:Type}{Q:R->Prop}{σ τ:Heap}{T T':Tg}
theorem W.new1{α:Type}{v:Vw α}(hn:Tn σ T){u:AVal}(a:α)(hsz:v.sz=1)(hr:∀τ,Hle (σ.at T 0) τ->v.rel τ a [u]){K:Nat->Heap->Option R}
  (c:∀l τ,l=σ.next->Hle σ τ->SlV v (τ.at T 0) [a] (.sl l 0 1 none)->Tn τ T->W (K l τ) Q):W (newK σ 1 [u] K) Q:=
 have L:=(Hle.refl σ).new (.cells .rw 1 [u])
 c σ.next _ rfl L (.inr ⟨σ.next,0,none,.rw,[u],rfl,Nat.lt_succ_self _,by rw[hsz];exact at_of (hn.z _ (Nat.le_refl _)) (by rw[yk_,if_pos rfl]),by simp[hsz],fun i b hi=>by
  match i,hi with
  |0,hi=>cases hi;simp only[hsz];exact hr _ (L.ats T 0)
  |i+1,hi=>simp at hi⟩) (hn.mono L)
theorem W.newI1(hn:Tn σ T){a:Int}{K:Nat->Heap->Option R}
  (c:∀l τ,l=σ.next->Hle σ τ->SlV .int (τ.at T 0) [a] (.sl l 0 1 none)->Tn τ T->W (K l τ) Q):W (newK σ 1 [.int .i64 a] K) Q:=W.new1 hn a rfl (fun _ _=>rfl) c
theorem W.newIs(hn:Tn σ T)(zs:List Int){K:Nat->Heap->Option R}{ws:List AVal}(hws:ws=zs.map (AVal.int .i64))
  (c:∀l τ,l=σ.next->Hle σ τ->SlV .int (τ.at T 0) zs (.sl l 0 zs.length none)->Tn τ T->W (K l τ) Q):W (newK σ 1 ws K) Q:=
 have L:=(Hle.refl σ).new (.cells .rw 1 ws)
 c σ.next _ rfl L (.inr ⟨σ.next,0,none,.rw,ws,rfl,Nat.lt_succ_self _,at_of (hn.z _ (Nat.le_refl _)) (by rw[yk_,if_pos rfl];rfl),by rw[hws];simp[Vw.int],fun i b hi=>by
  rw[hws];show List.take 1 (List.drop ((0+i)*1) (zs.map (AVal.int .i64)))=[.int .i64 b];rw[Nat.zero_add,Nat.mul_one,<-List.map_drop,<-List.map_take];have:(zs.drop i).take 1=[b]:=by
   rw[List.take_one,List.head?_drop,hi];rfl
  rw[this];rfl⟩) (hn.mono L)
end
section
variable{σ τ:Heap}{T T':Tg}{e:EnP}{n k id:Nat}{x y:AVal}{A:List Int}{C cs:List (List Int)}{w:Nat}{sc:(List Int×List Int×List Int×List Int)×Int×Int}
theorem SoA.agg{r:AVal×AVal}(h:SoA σ T n C A r):r.2=.nili/\∃b u v,r.1=.agg [.bool b,u,v]:=by
 rcases h with ⟨y,M,rfl,_⟩|⟨y,core,rfl,_⟩
 ·exact⟨rfl,_,_,_,rfl⟩
 ·exact⟨rfl,_,_,_,rfl⟩
theorem SoA.hop{I:Nat->Bool}{r:AVal×AVal}(h:SoA σ T n C A r)(H:Hop I σ T τ T')(h0:I 0=false:=by rfl):SoA τ T' n C A r:=by
 rcases h with ⟨y,M,e,h1,h2⟩|⟨y,core,e,h1,h2⟩
 ·exact .inl ⟨y,M,e,h1.hop H h0,h2⟩
 ·exact .inr ⟨y,core,e,h1.hop H h0,h2⟩
theorem SoA.hle{r:AVal×AVal}(h:SoA σ T n C A r)(L:Hle σ τ):SoA τ T n C A r:=by
 rcases h with ⟨y,M,e,h1,h2⟩|⟨y,core,e,h1,h2⟩
 ·exact .inl ⟨y,M,e,h1.hle L,h2⟩
 ·exact .inr ⟨y,core,e,h1.hle L,h2⟩
theorem y80_(hg:GlS [.limit,.range] (σ.at T 0))(hc:SlV vIs (σ.at T 0) cs x)(hsc:ScV (σ.at T 0) y sc)(hn:Tn σ T)(hs:ScS sc)(hm:sc.2.1<=0)(hok:chkC n cs=none)(hn13:n<=20)(hw:cs.length+6*mu n<=850000000000) :
  W (S.z105 (.agg [.int .i64 n,x]) y σ) fun r=>∃T',Hop eL σ T r.2 T'/\SoA r.2 T' n cs [] r.1:=by
 unfold S.z105
 repeat' (with_reducible refine W.e3 ?_)
 refine W.new0 hn fun l2 τ1 _ L1 k1 hn1=>?_;obtain⟨x0,x1,x2,x3,rfl,h0,h1,h2,h3⟩:=hsc
 repeat' (with_reducible refine W.e3 ?_)
 refine W.new0 hn1 fun l5 τ2 _ L2 k2 hn2=>?_;have L12:=L1.trans L2;replace hc:=hc.hle L12;replace hg:=hg.hle L12;have hx:ScV (τ2.at T 0) (.agg [x0,x1,x2,x3,.int .i64 sc.2.1,.int .i64 sc.2.2]) sc:=⟨x0,x1,x2,x3,rfl,h0.hle L12,h1.hle L12,h2.hle L12,h3.hle L12⟩;replace k1:=k1.hle L2;have hn:=hn2;refine W.newT 38 hn fun l7 τ3 T3 hl7 H3 k3 hnτ3=>?_;have HH:Hop eL σ T τ3 T3:=(Hop.of ‹Tn σ T› L12).trans H3.ol;replace hc:=hc.hop H3;replace hg:=hg.hop H3;replace hx:=hx.hop H3;replace k1:=k1.hop H3;replace k2:=k2.hop H3
 repeat' with_reducible first|refine W.bind ?_|refine W.u1 ?_
 refine W.mono (yge_ (gl:=false) (n:=n) (hg.mono at_le) hc hx HH.tn hs hm hok) fun r hr=>?_;obtain⟨r,τ4⟩:=r;obtain⟨T4,e,er,H4,E⟩:=hr;dsimp only at er H4 E⊢;subst er;replace HH:=HH.trans H4.kl;replace k3:=k3.hop H4
 repeat' (with_reducible refine W.nnil ?_)
 refine W.condF rfl ?_
 repeat' (with_reducible refine W.bind ?_)
 refine W.mono (ydc_ (A:=[]) E HH.tn hn13 (.inl ⟨rfl,rfl⟩) (by simp) (fun l hl=>by cases hl) hw) fun r hr=>?_;obtain⟨r,τ5⟩:=r;obtain⟨T5,w',H5,E,_,hso⟩:=hr;dsimp only at H5 E hso⊢;replace HH:=HH.trans H5.kl;replace k3:=k3.hop H5;obtain⟨e2,b,u,v,e1⟩:=hso.agg;obtain⟨r1,r2⟩:=r;dsimp only at e1 e2⊢;subst e1 e2
 repeat' (with_reducible refine W.e3 ?_)
 have hn:=HH.tn;refine W.stT k3 hn (Nat.le_of_ble_eq_true (by rfl)) fun τ6 H6 k3 hnτ6=>?_
 repeat' with_reducible first|refine W.ret ?_|refine W.u1 ?_
 exact⟨T5,HH.trans H6.ol,hso.hop H6⟩
theorem yfo_(h:ScV σ y sc):W (S.z109 y σ) fun r=>(r.1=true↔ScS sc)/\Hle σ r.2:=by
 obtain⟨x0,x1,x2,x3,rfl,h0,h1,h2,h3⟩:=h;unfold S.z109
 repeat' (with_reducible refine W.e3 ?_)
 refine W.new fun l2 τ1 hl2 L1 k1 hnτ1=>?_;replace h0:=h0.mono L1;replace h1:=h1.mono L1;replace h2:=h2.mono L1;replace h3:=h3.mono L1
 repeat' with_reducible first|refine W.bind ?_|refine W.asV ?_|refine W.len (by assumption) ?_|refine W.e0 ?_
 have hh:(decide ((sc.1.1.length:Int)<=50)&&decide ((sc.1.2.1.length:Int)<=50)&&decide ((sc.1.2.2.1.length:Int)<=50)&&decide ((sc.1.2.2.2.length:Int)<=50))=true↔ScS sc:=by
  unfold ScS;simp only[Bool.and_eq_true,decide_eq_true_eq];omega
 (with_reducible refine W.cnd (fun hq1=>?_) (fun hq1=>?_)<;>(try simp only[qq,Kd.ty]at hq1)<;>(try (exfalso;omega)))
 ·repeat' with_reducible first|refine W.asV ?_|refine W.len (by assumption) ?_|refine W.e0 ?_
  (with_reducible refine W.cnd (fun hq2=>?_) (fun hq2=>?_)<;>(try simp only[qq,Kd.ty]at hq2)<;>(try (exfalso;omega)))
  ·repeat' with_reducible first|refine W.asV ?_|refine W.len (by assumption) ?_|refine W.e0 ?_
   (with_reducible refine W.cnd (fun hq3=>?_) (fun hq3=>?_)<;>(try simp only[qq,Kd.ty]at hq3)<;>(try (exfalso;omega)))
   ·repeat' with_reducible first|refine W.ret ?_|refine W.asV ?_|refine W.len (by assumption) ?_|refine W.e0 ?_
    refine⟨?_,L1⟩;rw[<-hh];simp[hq1,hq2,hq3]
   ·repeat' with_reducible refine W.ret ?_
    exact⟨⟨fun h=>(by cases h),fun h=>(by unfold ScS at h;omega)⟩,L1⟩
  ·repeat' with_reducible refine W.ret ?_
   exact⟨⟨fun h=>(by cases h),fun h=>(by unfold ScS at h;omega)⟩,L1⟩
 ·repeat' with_reducible refine W.ret ?_
  exact⟨⟨fun h=>(by cases h),fun h=>(by unfold ScS at h;omega)⟩,L1⟩
def frL:Nat->Bool:=fun j=>j==38||j==39
theorem yh0_(h:ScV (σ.at T 0) y sc)(hn:Tn σ T):W (S.z108 y σ) fun r=>∃T',Hop frL σ T r.2 T'/\ScV (r.2.at T' 0) r.1 (sc.1,0,0):=by
 obtain⟨x0,x1,x2,x3,rfl,h0,h1,h2,h3⟩:=h;unfold S.z108
 repeat' (with_reducible refine W.e3 ?_)
 refine W.newT 38 hn fun l2 τ1 T1 hl2 H1 k1 hnτ1=>?_;replace h0:=h0.hop H1;replace h1:=h1.hop H1;replace h2:=h2.hop H1;replace h3:=h3.hop H1;replace hn:=H1.tn;refine W.newT 39 hn fun l4 τ2 T2 hl4 H2 k2 hnτ2=>?_;replace h0:=h0.hop H2;replace h1:=h1.hop H2;replace h2:=h2.hop H2;replace h3:=h3.hop H2;replace k1:=k1.hop H2;replace hn:=H2.tn;refine W.stT k1 hn (Nat.le_of_ble_eq_true (by rfl)) fun τ3 H3 k1 hnτ3=>?_;replace h0:=h0.hop H3;replace h1:=h1.hop H3;replace h2:=h2.hop H3;replace h3:=h3.hop H3;replace k2:=k2.hop H3;replace hn:=H3.tn;refine W.stT k1 hn (Nat.le_of_ble_eq_true (by rfl)) fun τ4 H4 k1 hnτ4=>?_;replace h0:=h0.hop H4;replace h1:=h1.hop H4;replace h2:=h2.hop H4;replace h3:=h3.hop H4;replace k2:=k2.hop H4;replace hn:=H4.tn
 repeat' with_reducible first|refine W.e3 ?_|refine W.u1 ?_
 refine W.stT k2 hn (Nat.le_of_ble_eq_true (by rfl)) fun τ5 H5 k2 hnτ5=>?_;replace h0:=h0.hop H5;replace h1:=h1.hop H5;replace h2:=h2.hop H5;replace h3:=h3.hop H5;replace hn:=H5.tn
 repeat' with_reducible first|refine W.ret ?_|refine W.u1 ?_
 have f8:∀{σ τ:Heap} {T T':Tg},Hop (only 38) σ T τ T'->Hop frL σ T τ T':=fun H=>H.sub fun i hi=>by simp[frL]at hi⊢;omega
 have f9:∀{σ τ:Heap} {T T':Tg},Hop (only 39) σ T τ T'->Hop frL σ T τ T':=fun H=>H.sub fun i hi=>by simp[frL]at hi⊢;omega
 exact⟨T2,((((f8 H1).trans (f9 H2)).trans (f8 H3)).trans (f8 H4)).trans (f9 H5),x0,x1,x2,x3,rfl,h0,h1,h2,h3⟩
theorem ydi_(hg:GlS [.limit,.range] (σ.at T 0))(hn:Tn σ T):W (S.z107 σ) fun r=>r.1=true/\∃T',Hop eL σ T r.2 T':=by
 unfold S.z107;refine W.newI1 hn fun l1 τ1 _ L1 h1 hn1=>?_;refine W.new1 (v:=vIs) hn1 [-1] rfl (fun τ L=>⟨_,rfl,h1.mono L⟩) fun l3 τ2 _ L2 h2 hn2=>?_;have L:=L1.trans L2;refine W.bind ?_;refine W.mono (y80_ (n:=1) (cs:=[[-1]]) (sc:=(([],[],[],[]),0,0)) (hg.hle L) h2 ⟨_,_,_,_,rfl,.inl ⟨rfl,rfl⟩,.inl ⟨rfl,rfl⟩,.inl ⟨rfl,rfl⟩,.inl ⟨rfl,rfl⟩⟩ hn2 ⟨by simp,by simp,by simp,by simp⟩ (Int.le_refl _) (by decide) (by omega) (by decide)) fun r hr=>?_;obtain⟨r,τ3⟩:=r;obtain⟨T3,H3,hso⟩:=hr;dsimp only at H3 hso⊢;have HH:Hop eL σ T τ3 T3:=(Hop.of hn L).trans H3;have hn:=HH.tn;rcases hso with ⟨y,M,rfl,hM,hMl,hmo,_⟩|⟨y,core,rfl,_,hA,hno,_⟩
 ·refine W.newT 38 hn fun l6 τ4 T4 hl6 H4 k6 hnτ4=>?_
  replace HH:=HH.trans H4.ol;replace hM:=hM.hop H4
  repeat' (with_reducible refine W.e3 ?_)
  have hn:=HH.tn;refine W.stT k6 hn (Nat.le_of_ble_eq_true (by rfl)) fun τ5 H5 k6 hnτ5=>?_;replace HH:=HH.trans H5.ol;replace hM:=hM.hop H5;have hMu:=hM.up;obtain⟨b,hb⟩:=y3_ (xs:=M) (i:=1) (by omega);have hbf:b=false:=by
   obtain⟨l,hl,ht⟩:=hmo [-1] (by simp);have:l = -1:=by simpa using hl
   subst this;have e:mOf M 1=b:=by unfold mOf;rw[List.getD_eq_getElem?_getD,hb];rfl
   have ht:(mOf M 1==decide ((0:Int) < -1))=true:=ht;rw[e]at ht;simpa using ht
  subst hbf
  repeat' with_reducible first|refine W.bind ?_|refine W.asB ?_|refine W.u0 ?_
  refine W.condT rfl ?_
  repeat' (with_reducible refine W.nnil ?_)
  refine W.condT rfl ?_
  repeat' with_reducible first|refine W.asV ?_|refine W.len (by assumption) ?_|refine W.u0 ?_
  refine W.condT (by simp[hMl]) ?_
  repeat' with_reducible first|refine W.asV ?_|refine W.u0 ?_
  refine W.ixBc hMu hb ?_
  repeat' with_reducible refine W.ret ?_
  exact⟨rfl,T4,HH⟩
 ·exact absurd (fun l hl=>absurd (hA l hl) (by simp)) (hno (fun _=>false) fun c hc=>by
   have:c=[-1]:=by simpa using hc
   subst this;exact⟨-1,by simp,rfl⟩)
end
end
section
open Go
theorem ydw_{vars:Int}{cs:List (List Int)}(h0:0<=vars)(h1:vars<=4000)(h2:cs.length<=20000)(h3:cs.flatten.length<=80000)(h4:∀c∈cs,y5h_ vars c):chkC vars cs=none:=by
 unfold chkC;rw[if_neg (by omega)];have:cs.findIdx? (badC vars)=none:=by
  rw[List.findIdx?_eq_none_iff];intro c hc;have:=ya2_.2 (h4 c hc);simpa using this
 rw[this];rfl
theorem SlV.tz0{α:Type}{v:Vw α}{σ:Heap}{xs:List α}{x:AVal}(h:SlV v σ xs x):SlV v (σ.at Tz 0) xs x:=by rw[at_tz];exact h
theorem GlS.tz0{σ:Heap}{E:List Er}(h:GlS E σ):GlS E (σ.at Tz 0):=by rw[at_tz];exact h
section
variable{σ τ:Heap}{T T':Tg}{e:EnP}{n k id:Nat}{x y:AVal}{A:List Int}{C cs:List (List Int)}{w:Nat}{sc:(List Int×List Int×List Int×List Int)×Int×Int}
theorem ScV.up(h:ScV (σ.at T 0) x sc):ScV σ x sc:=by
 obtain⟨x0,x1,x2,x3,e,h1,h2,h3,h4⟩:=h;exact⟨x0,x1,x2,x3,e,h1.up,h2.up,h3.up,h4.up⟩
theorem W.newA{R:Type}{Q:R->Prop}(hn:Tn σ T){sz m:Nat}{zs ds:List AVal}{K:Nat->Heap->Option R}(hz:zs.length=m)(hd:ds.length=m)
  (c:∀l τ,l=σ.next->Hle σ τ->Loc (τ.at T 0) l ds->Tn τ T->W (K l τ) Q):W (YtafbldhedkallaaGreatDoor.A.newK σ sz zs fun l σ'=>YtafbldhedkallaaGreatDoor.A.aggK (.agg ds) m fun cs=>YtafbldhedkallaaGreatDoor.A.stC σ' (.ptr l 0) cs (K l)) Q:=by
 refine W.newg fun l τ1 hl L1 _ g1 n1=>?_;refine W.aggK hd ?_;refine W.st0 (cs:=zs) (vs:=ds) ⟨by omega,sz,g1⟩ (by omega) fun τ2 L2 e2 h2=>?_;have L:=L1.ofk (by omega) L2;obtain⟨sz2,g2⟩:=h2.get;exact c l τ2 hl L ⟨h2.lt,sz2,at_of (hn.z _ (by omega)) g2⟩ (hn.mono L)
end
end
section
open Go
def OL(σ:Heap)(T:Tg)(t:Nat)(cs:List (List Int))(x:AVal):Prop:=∃ws,Own vRaw (σ.at T t) ws x/\ws.length=cs.length/\∀(i:Nat) c,cs[i]?=some c->∃w,ws[i]?=some w/\SlV .int (σ.at T 0) c w
section
variable{σ τ:Heap}{T T':Tg}{e:EnP}{n k id t:Nat}{x y:AVal}{A c:List Int}{C cs:List (List Int)}{w:Nat}{sc:(List Int×List Int×List Int×List Int)×Int×Int}{gl:Bool}{I:Nat->Bool}
theorem OL.hop(h:OL σ T t cs x)(H:Hop I σ T τ T')(ht:I t=false:=by rfl)(h0:I 0=false:=by rfl):OL τ T' t cs x:=by
 obtain⟨ws,h1,h2,h3⟩:=h;exact⟨ws,h1.hop H ht,h2,fun i c hi=>(h3 i c hi).imp fun w hw=>⟨hw.1,hw.2.hop H h0⟩⟩
theorem OL.hle(h:OL σ T t cs x)(L:Hle σ τ):OL τ T t cs x:=by
 obtain⟨ws,h1,h2,h3⟩:=h;exact⟨ws,h1.hle L,h2,fun i c hi=>(h3 i c hi).imp fun w hw=>⟨hw.1,hw.2.hle L⟩⟩
theorem OL.sl(h:OL σ T t cs x):SlV vIs σ cs x:=by
 obtain⟨ws,h1,h2,h3⟩:=h;rcases h1.slT with ⟨rfl,rfl⟩|⟨l,off,c,md,us,rfl,g2,g3,g4,g5⟩
 ·exact .inl ⟨rfl,List.eq_nil_of_length_eq_zero (by simpa using h2.symm)⟩
 ·refine .inr ⟨l,off,c,md,us,by rw[h2],g2,g3,by rw[<-h2];exact g4,fun i a hi=>?_⟩
  obtain⟨w,e1,e2⟩:=h3 i a hi;exact⟨w,g5 i w e1,e2.up⟩
theorem OL.nil:OL σ T t [] .nils:=⟨[],Own.nil,rfl,fun i c h=>by simp at h⟩
theorem W.ol_push{R:Type}{Q:R->Prop}(h:OL σ T t cs x)(hn:Tn σ T)(hy:SlV .int (σ.at T 0) c y)(ht:t≠0)(hb:cs.length<=1000000){K:AVal->Heap->Option R}
  (k:∀x' τ T',OL τ T' t (cs++[c]) x'->Hop (only t) σ T τ T'->W (K x' τ) Q):W (YtafbldhedkallaaGreatDoor.A.newK σ 1 [y] fun l τ=>YtafbldhedkallaaGreatDoor.A.appS τ 1 24 x (.sl l 0 1 none) K) Q:=by
 obtain⟨ws,h1,h2,h3⟩:=h;refine W.own_push (bytes:=24) y53_ h1 hn (a:=y) rfl (by omega) (by omega) fun x' τ T' h1' H=>?_;have h0:(only t) 0=false:=by simp;omega
 refine k x' τ T' ⟨_,h1',by simp[h2],fun i d hi=>?_⟩ H;rcases y2l_ hi with q|⟨rfl,rfl⟩
 ·obtain⟨w,e1,e2⟩:=h3 i d q
  exact⟨w,by rw[List.getElem?_append_left (y2_ e1)];exact e1,e2.hop H h0⟩
 ·exact⟨y,by rw[<-h2];simp,hy.hop H h0⟩
end
end
section
open Go
section
variable{σ τ:Heap}{T T':Tg}{t:Nat}{x y:AVal}{xs:List Int}
theorem Own.freeze{α:Type}{v:Vw α}{zs:List α}(hf:v.Flat)(h:Own v (σ.at T t) zs x)(hn:Tn σ T):∃T',Hop (only t) σ T σ T'/\SlV v (σ.at T' 0) zs x:=by
 rcases h with ⟨rfl,rfl⟩|⟨l,off,c,cs,rfl,h1,h2,h3,h4,h5⟩
 ·exact⟨T,Hop.refl hn,.inl ⟨rfl,rfl⟩⟩
 ·obtain⟨e1,e2⟩:=y10_.1 h2
  have h1:l<σ.next:=h1;refine⟨T.upd l 0,⟨Nat.le_refl _,⟨fun k hk=>by rw[y1z_ (by omega)];exact hn.z k hk⟩,fun k _ hI=>y1z_ (fun e=>by subst e;simp[only,e1]at hI),fun k o _ _ hg=>hg⟩,.inr ⟨l,off,c,.rw,cs,rfl,h1,at_of y14_ e2,h4,fun i a hi=>hf _ _ _ _ (h5 i a hi)⟩⟩
end
end
section
open Go
section
variable{σ τ:Heap}{T T':Tg}{t:Nat}{x y:AVal}{cs:List (List Int)}{sc:(List Int×List Int×List Int×List Int)×Int×Int}
theorem OL.freeze(h:OL σ T t cs x)(hn:Tn σ T)(ht:t≠0):∃T',Hop (only t) σ T σ T'/\SlV vIs (σ.at T' 0) cs x:=by
 obtain⟨ws,h1,h2,h3⟩:=h;have h0:(only t) 0=false:=by simp;omega
 rcases h1 with ⟨rfl,rfl⟩|⟨l,off,c,us,rfl,g1,g2,g3,g4,g5⟩
 ·exact⟨T,Hop.refl hn,.inl ⟨rfl,List.eq_nil_of_length_eq_zero (by simpa using h2.symm)⟩⟩
 ·obtain⟨e1,e2⟩:=y10_.1 g2
  have g1:l<σ.next:=g1;have H:Hop (only t) σ T σ (T.upd l 0):=⟨Nat.le_refl _,⟨fun k hk=>by rw[y1z_ (by omega)];exact hn.z k hk⟩,fun k _ hI=>y1z_ (fun e=>by subst e;simp[only,e1]at hI),fun k o _ _ hg=>hg⟩;refine⟨T.upd l 0,H,.inr ⟨l,off,c,.rw,us,by rw[h2],g1,at_of y14_ e2,by rw[<-h2];exact g4,fun i a hi=>?_⟩⟩;obtain⟨w,q1',q2'⟩:=h3 i a hi;exact⟨w,g5 i w q1',q2'.hop H h0⟩
end
end
section
open Go
def pl(n i h:Nat):Int:=((i*n+h:Nat):Int)
def pc(n i h k:Nat):List Int:=[-pl n i h,-pl n k h]
def ph(n i h:Nat):List (List Int):=(List.range i).map (pc n i h)
def pD(n i j:Nat):List Int:=(List.range j).map fun j=>pl n i (j+1)
def pJ'(n i j:Nat):List (List Int):=((List.range j).map fun j=>ph n i (j+1)).flatten
def pi'(n i:Nat):List (List Int):=pJ' n i n++[pD n i n]
def php(n b:Nat):List (List Int):=((List.range b).map (pi' n)).flatten
theorem y9r_(n b:Nat):php n (b+1)=php n b++pi' n b:=by unfold php;rw[List.range_succ,List.map_append,List.flatten_append];simp
theorem yb9_(n i j:Nat):pJ' n i (j+1)=pJ' n i j++ph n i (j+1):=by unfold pJ';rw[List.range_succ,List.map_append,List.flatten_append];simp
theorem yfq_(n i j:Nat):pD n i (j+1)=pD n i j++[pl n i (j+1)]:=by unfold pD;rw[List.range_succ,List.map_append];rfl
theorem ydm_(n i j:Nat):(pD n i j).length=j:=by simp[pD]
theorem y73_(n i:Nat):∀j,(pJ' n i j).length=i*j
 |0=>rfl
 |j+1=>by
  rw[yb9_,List.length_append,y73_ n i j,Nat.mul_succ];simp[ph]
theorem y87_(n:Nat)(hn:n<=4):∀b,b<=5->(php n b).length<=21*b
 |0,_=>by simp[php]
 | b+1,hb=>by
  have ih:=y87_ n hn b (by omega);have:(pi' n b).length<=21:=by
   unfold pi';rw[List.length_append,y73_];have:=Nat.mul_le_mul (show b<=4 by omega) hn;simp;omega
  rw[y9r_,List.length_append];omega
theorem y5u_{n b:Nat}{c:List Int}:c∈php n b↔∃i,i<b/\((∃j k,j<n/\k<i/\c=pc n i (j+1) k)\/c=pD n i n):=by
 unfold php pi' pJ' ph;simp only[List.mem_flatten,List.mem_map,List.mem_range];constructor
 ·rintro⟨d,⟨i,hi,rfl⟩,hc⟩
  refine⟨i,hi,?_⟩;rcases List.mem_append.1 hc with q|q
  ·obtain⟨x,hx,hcx⟩:=List.mem_flatten.1 q
   obtain⟨j,hj,rfl⟩:=List.mem_map.1 hx;obtain⟨k,hk,rfl⟩:=List.mem_map.1 hcx;exact .inl ⟨j,k,List.mem_range.1 hj,List.mem_range.1 hk,rfl⟩
  ·exact .inr (List.mem_singleton.1 q)
 ·rintro⟨i,hi,q⟩
  refine⟨_,⟨i,hi,rfl⟩,?_⟩;rcases q with ⟨j,k,hj,hk,rfl⟩|rfl
  ·exact List.mem_append.2 (.inl (List.mem_flatten.2 ⟨_,List.mem_map.2 ⟨j,List.mem_range.2 hj,rfl⟩,List.mem_map.2 ⟨k,List.mem_range.2 hk,rfl⟩⟩))
  ·simp
theorem y9y_{n b i j:Nat}(hi:i<b)(hj:j<n):1<=pl n i (j+1)/\pl n i (j+1)<=((b*n:Nat):Int):=by
 have h:=Nat.mul_le_mul_right n (show i+1<=b by omega);rw[Nat.succ_mul]at h;unfold pl;omega
theorem ye8_{n b:Nat}:∀c∈php n b,y5h_ ((b*n:Nat):Int) c:=fun c hc=>by
 obtain⟨i,hi,q⟩:=y5u_.1 hc;intro l hl;rcases q with ⟨j,k,hj,hk,rfl⟩|rfl
 ·have h1:=y9y_ (b:=b) hi hj
  have h2:=y9y_ (b:=b) (show k<b by omega) hj;simp only[pc,List.mem_cons,List.not_mem_nil,or_false]at hl;rcases hl with rfl|rfl<;>omega
 ·obtain⟨j,hj,rfl⟩:=List.mem_map.1 hl
  have h1:=y9y_ (b:=b) hi (List.mem_range.1 hj);omega
theorem yeg_{n b:Nat}(hn:n<=4):∀c∈php n b,c.length<=4:=fun c hc=>by
 obtain⟨i,hi,q⟩:=y5u_.1 hc;rcases q with ⟨j,k,hj,hk,rfl⟩|rfl
 ·simp[pc]
 ·rw[ydm_];exact hn
theorem ygx_(n:Nat)(m:Nat->Bool):¬mods m (php n (n+1)):=fun h=>by
 have key:∀i,i<n+1->∃j,j<n/\holds m (pl n i (j+1))=true:=fun i hi=>by
  obtain⟨l,hl,hh⟩:=h _ (y5u_.2 ⟨i,hi,.inr rfl⟩);obtain⟨j,hj,rfl⟩:=List.mem_map.1 hl;exact⟨j,List.mem_range.1 hj,hh⟩
 obtain⟨f,hf⟩:∃f:Nat->Nat,∀i,i<n+1->f i<n/\holds m (pl n i (f i+1))=true:=⟨fun i=>if q:i<n+1 then(key i q).choose else 0,fun i hi=>by
  simp only[dif_pos hi];exact(key i hi).choose_spec⟩
 have hne:∀i k,k<i->i<n+1->f i≠f k:=fun i k hk hi e=>by
  obtain⟨l,hl,hh⟩:=h _ (y5u_.2 ⟨i,hi,.inl ⟨f i,k,(hf i hi).1,hk,rfl⟩⟩);have h1:=(hf i hi).2;have h2:=(hf k (by omega)).2;rw[<-e]at h2;have p1:pl n i (f i+1)≠0:=by unfold pl;omega
  have p2:pl n k (f i+1)≠0:=by unfold pl;omega
  simp only[pc,List.mem_cons,List.not_mem_nil,or_false]at hl;rcases hl with rfl|rfl
  ·rw[y1g_ p1,h1]at hh;cases hh
  ·rw[y1g_ p2,h2]at hh;cases hh
 have hnd:((List.range (n+1)).map f).Nodup:=by
  unfold List.Nodup;rw[List.pairwise_map];refine(List.pairwise_lt_range (n:=n+1)).imp_of_mem fun {a b} ha hb hlt=>?_;exact fun e=>hne b a hlt (List.mem_range.1 hb) e.symm
 have:=ya1_ (ys:=List.range n) hnd fun x hx=>by
  obtain⟨i,hi,rfl⟩:=List.mem_map.1 hx;exact List.mem_range.2 (hf i (List.mem_range.1 hi)).1
 simp at this;omega
def pM(n:Nat)(v:Nat):Bool:=(List.range n).any fun i=>v==i*n+(i+1)
theorem yg0_{n:Nat}(hn:n<=4):mods (pM n) (php n n):=by
 have key:∀n:Fin 5,((php n.1 n.1).all fun c=>c.any fun l=>holds (pM n.1) l)=true:=by decide
 have h:=key ⟨n,by omega⟩;intro c hc;have:=List.all_eq_true.1 h c hc;obtain⟨l,hl,hh⟩:=List.any_eq_true.1 this;exact⟨l,hl,hh⟩
theorem mu20:∀b n:Nat,n<=4->b<=n+1->b*n<=20/\6*mu (b*n)<=840000000000:=fun b n hn hb=>by
 have h:∀n:Fin 5,∀b:Fin 6,b.1<=n.1+1->b.1*n.1<=20/\6*mu (b.1*n.1)<=840000000000:=by decide
 exact h ⟨n,by omega⟩ ⟨b,by omega⟩ hb
end
section
open Go
section
variable{σ τ:Heap}{T T':Tg}{l9 n i h j:Nat}{x y:AVal}{C:List (List Int)}{N:Int}{sc:(List Int×List Int×List Int×List Int)×Int×Int}
def hoI:Nat->Bool:=fun j=>j==36||j==38||j==39
theorem Hop.ho{u:Nat}(H:Hop (only u) σ T τ T')(hu:hoI u=true:=by rfl):Hop hoI σ T τ T':=H.sub fun i hi=>by
 have:i=u:=by simpa using hi
 rw[this];exact hu
def HoI(σ:Heap)(T:Tg)(l9:Nat)(N:Int)(C:List (List Int)):Prop:=∃x,Loc (σ.at T 36) l9 [.int .i64 N,x]/\OL σ T 38 C x
theorem HoI.hop{u:Nat}(h:HoI σ T l9 N C)(H:Hop (only u) σ T τ T')(h1:(only u) 36=false:=by rfl)(h2:(only u) 38=false:=by rfl)(h0:(only u) 0=false:=by rfl):HoI τ T' l9 N C:=by
 obtain⟨x,k1,k2⟩:=h;exact⟨x,k1.hop H h1,k2.hop H h2 h0⟩
theorem wl(hn:n<=4)(hi:i<=5)(hh:h<=5):IntKind.i64.wrap (IntKind.i64.wrap ((i:Int)*(n:Int))+(h:Int))=pl n i h:=by
 have h1:=Nat.mul_le_mul hi hn;have e:(i:Int)*(n:Int)=((i*n:Nat):Int):=by simp
 rw[e];have w1:IntKind.i64.wrap ((i*n:Nat):Int)=((i*n:Nat):Int):=by rw[wrapS]<;>omega
 rw[w1];unfold pl;rw[wrapS]<;>omega
theorem wn(hn:n<=4)(hi:i<=5)(hh:h<=5):IntKind.i64.wrap (0-pl n i h) = -pl n i h:=by
 have h1:=Nat.mul_le_mul hi hn;unfold pl;rw[wrapS]<;>omega
theorem ho0_w{p21 p23:Bool}{p22 p40:AVal}{p37:Int}(hH:HoI σ T l9 N C)(hT:Tn σ T)(hn:n<=4)(hi:i<=4)(hh:h<=4)(hC:C.length<=1000) :
  W (loopW (S.z106.b0 (n:Int) p21 p22 p23 p37 (.ptr l9 0) (i:Int) p40 (h:Int)) 0 σ) fun r=>∃T',Hop hoI σ T r.2 T'/\(∀{u:Nat} {xs:List Int} {z:AVal},u=39->Own .int (σ.at T u) xs z->Own .int (r.2.at T' u) xs z)/\HoI r.2 T' l9 N (C++ph n i h):=by
 refine W.loop i (fun k (z:Int) τ=>z=(k:Int)/\∃T',Hop hoI σ T τ T'/\(∀{u:Nat} {xs:List Int} {z:AVal},u=39->Own .int (σ.at T u) xs z->Own .int (τ.at T' u) xs z)/\HoI τ T' l9 N (C++(List.range k).map (pc n i h))) ⟨rfl,T,Hop.refl hT,fun _ h=>h,by simpa using hH⟩ fun k z τ1 hk hI=>?_;obtain⟨rfl,T1,HH,hO39,x,k9,hO⟩:=hI;have wr:IntKind.i64.wrap ((k:Int)+1)=((k+1:Nat):Int):=by rw[wrapS]<;>omega
 have k9u:=k9.up;unfold S.z106.b0
 (with_reducible refine W.cnd (fun hlt=>?_) (fun hlt=>?_)<;>(try simp only[qq,Kd.ty]at hlt)<;>(try (exfalso;omega)))
 ·repeat' with_reducible first|refine W.asV ?_|refine W.fldp ?_|refine W.e0 ?_
  rw[wl hn (by omega) (by omega),wl hn (by omega) (by omega),wn hn (by omega) (by omega),wn hn (by omega) (by omega)];refine W.newIs HH.tn (pc n i h k) rfl fun l46 τ2 _ L2 hc hn2=>?_;replace k9:=k9.hle L2;replace hO:=hO.hle L2;refine W.ol_push hO hn2 hc (by decide) (by simp;omega) fun x' τ3 T3 hO H3=>?_;replace k9:=k9.hop H3;have hOs:=hO.sl
  repeat' with_reducible first|refine W.fldp ?_|refine W.scalS (by assumption) ?_
  have hn:=H3.tn;refine W.stT k9 hn (Nat.le_of_ble_eq_true (by rfl)) fun τ4 H4 k9 hnτ4=>?_
  repeat' (with_reducible refine W.next ?_)
  refine⟨by omega,wr,T3,((HH.hle L2).trans H3.ho).trans H4.ho,fun e h=>?_,x',k9,?_⟩
  ·subst e
   exact(((hO39 rfl h).hle L2).hop H3).hop H4
  ·rw[List.range_succ,List.map_append,<-List.append_assoc]
   exact hO.hop H4
 ·repeat' (with_reducible refine W.stop ?_)
  have:k=i:=by omega
  subst this;exact⟨T1,HH,hO39,x,k9,hO⟩
theorem ho1_w{p21 p23:Bool}{p22:AVal}{p24:Int}(hH:HoI σ T l9 N C)(hT:Tn σ T)(hn:n<=4)(hi:i<=4)(hC:C.length<=500) :
  W (loopW (S.z106.b1 (n:Int) p21 p22 p23 p24 (.ptr l9 0) (i:Int)) (.nils,1) σ) fun r=>∃T',Hop hoI σ T r.2 T'/\HoI r.2 T' l9 N (C++pJ' n i n)/\Own .int (r.2.at T' 39) (pD n i n) r.1:=by
 refine W.loop n (fun j (z:AVal×Int) τ=>z.2=((j+1:Nat):Int)/\∃T',Hop hoI σ T τ T'/\HoI τ T' l9 N (C++pJ' n i j)/\Own .int (τ.at T' 39) (pD n i j) z.1) ⟨rfl,T,Hop.refl hT,by simpa[pJ']using hH,Own.nil⟩ fun j z τ1 hj hI=>?_;obtain⟨z1,z2⟩:=z;obtain⟨rfl,T1,HH,hH,kD⟩:=hI;have wr:IntKind.i64.wrap (((j+1:Nat):Int)+1)=((j+1+1:Nat):Int):=by rw[wrapS]<;>omega
 have hjl:=y73_ n i j;have hmm:=Nat.mul_le_mul hi (show j<=4 by omega);have hdl:=ydm_ n i j;unfold S.z106.b1
 (with_reducible refine W.cnd (fun hlt=>?_) (fun hlt=>?_)<;>(try simp only[qq,Kd.ty]at hlt)<;>(try (exfalso;omega)))
 ·dsimp only
  rw[wl hn (by omega) (by omega)];refine W.own_push (bytes:=8) Vw.int_flat kD HH.tn (a:=pl n i (j+1)) rfl (by omega) (by omega) fun x2 τ2 T2 kD H2=>?_;replace hH:=hH.hop H2;refine W.bind ?_;refine W.mono (ho0_w hH H2.tn hn hi (h:=j+1) (by omega) (by simp;omega)) fun r hr=>?_;obtain⟨r,τ3⟩:=r;obtain⟨T3,H3,h39,hH⟩:=hr;dsimp only at H3 hH⊢
  repeat' (with_reducible refine W.next ?_)
  refine⟨by omega,wr,T3,(HH.trans H2.ho).trans H3,?_,?_⟩
  ·rw[yb9_,<-List.append_assoc];exact hH
  ·rw[yfq_];exact h39 rfl kD
 ·repeat' (with_reducible refine W.stop ?_)
  have:j=n:=by omega
  subst this;exact⟨T1,HH,hH,kD⟩
theorem ho2_w{b:Nat}{p13 p15:Bool}{p14:AVal}(hH:HoI σ T l9 N [])(hT:Tn σ T)(hn:n<=4)(hb:b<=5) :
  W (loopW (S.z106.b2 (n:Int) p13 p14 p15 (b:Int) (.ptr l9 0)) 0 σ) fun r=>∃T',Hop hoI σ T r.2 T'/\HoI r.2 T' l9 N (php n b):=by
 refine W.loop b (fun i (z:Int) τ=>z=(i:Int)/\∃T',Hop hoI σ T τ T'/\HoI τ T' l9 N (php n i)) ⟨rfl,T,Hop.refl hT,by simpa[php]using hH⟩ fun i z τ1 hi hI=>?_;obtain⟨rfl,T1,HH,hH⟩:=hI;have wr:IntKind.i64.wrap ((i:Int)+1)=((i+1:Nat):Int):=by rw[wrapS]<;>omega
 unfold S.z106.b2
 (with_reducible refine W.cnd (fun hlt=>?_) (fun hlt=>?_)<;>(try simp only[qq,Kd.ty]at hlt)<;>(try (exfalso;omega)))
 ·have hpl:=y87_ n hn i (by omega)
  have hjl:=y73_ n i n;have hmm:=Nat.mul_le_mul (show i<=4 by omega) hn;refine W.bind ?_;refine W.mono (ho1_w hH HH.tn hn (by omega) (by omega)) fun r hr=>?_;obtain⟨xd,τ2⟩:=r;obtain⟨T2,H2,⟨x,k9,hO⟩,kD⟩:=hr;dsimp only at H2 k9 hO kD⊢;replace HH:=HH.trans H2;obtain⟨T3,H3,hD⟩:=kD.freeze Vw.int_flat HH.tn;replace HH:=HH.trans H3.ho;replace k9:=k9.hop H3;replace hO:=hO.hop H3;have k9u:=k9.up;have hDu:=hD.up
  repeat' with_reducible first|refine W.asV ?_|refine W.fldp ?_|refine W.e0 ?_|refine W.scalS (by assumption) ?_
  refine W.ol_push hO HH.tn hD (by decide) (by simp;omega) fun x' τ4 T4 hO H4=>?_;replace HH:=HH.trans H4.ho;replace k9:=k9.hop H4;have hOs:=hO.sl
  repeat' with_reducible first|refine W.fldp ?_|refine W.scalS (by assumption) ?_
  have hn:=HH.tn;refine W.stT k9 hn (Nat.le_of_ble_eq_true (by rfl)) fun τ5 H5 k9 hnτ5=>?_
  repeat' (with_reducible refine W.next ?_)
  refine⟨by omega,wr,T4,HH.trans H5.ho,x',k9,?_⟩;rw[y9r_];unfold pi';rw[<-List.append_assoc];exact hO.hop H5
 ·repeat' (with_reducible refine W.stop ?_)
  have:i=b:=by omega
  subst this;exact⟨T1,HH,hH⟩
theorem y8d_{p0:Int}{room:Bool}{xs:AVal}(hg:GlS [.limit,.range] σ)(hsc:ScV σ xs sc):W (S.z106 p0 xs room σ) fun r=>r.1=true:=by
 have hg:=hg.tz0;have hn:Tn σ Tz:=Tn.tz;obtain⟨x0,x1,x2,x3,rfl,s0,s1,s2,s3⟩:=hsc;unfold S.z106
 repeat' (with_reducible refine W.e3 ?_)
 refine W.new0 hn fun l2 τ1 _ L1 k2 hn=>?_;have hx:ScV (τ1.at Tz 0) (.agg [x0,x1,x2,x3,.int .i64 sc.2.1,.int .i64 sc.2.2]) sc:=⟨x0,x1,x2,x3,rfl,s0.tz0.hle L1,s1.tz0.hle L1,s2.tz0.hle L1,s3.tz0.hle L1⟩
 clear s0 s1 s2 s3
 replace hg:=hg.hle L1
 repeat' (with_reducible refine W.bind ?_)
 refine W.mono (ydi_ hg hn) fun r hr=>?_;obtain⟨r,τ2⟩:=r;obtain⟨er,T2,H2⟩:=hr;dsimp only at er H2⊢;subst er;replace hg:=hg.hop H2;replace hx:=hx.hop H2;replace k2:=k2.hop H2;replace hn:=H2.tn;refine W.condF rfl ?_
 repeat' with_reducible first|refine W.bind ?_|refine W.u1 ?_
 refine W.mono (yfo_ hx.up) fun r hr=>?_;obtain⟨r,τ3⟩:=r;obtain⟨er,L3⟩:=hr;dsimp only at er L3⊢;replace hg:=hg.hle L3;replace hx:=hx.hle L3;replace k2:=k2.hle L3;replace hn:=hn.mono L3;by_cases hsm:¬ScS sc
 ·have:r=false:=by
   cases r
   ·rfl
   ·exact absurd (er.1 rfl) hsm
  subst this;refine W.condT rfl ?_
  repeat' with_reducible refine W.ret ?_
  rfl
 replace hsm:=Classical.not_not.1 hsm;obtain rfl:r=true:=er.2 hsm;refine W.condF rfl ?_;refine W.bind ?_;refine W.to (ydu_ (by decide) (by decide)) ?_;have m0:=Int.emod_nonneg p0 (show(4:Int)≠0 by decide);have m1:=Int.emod_lt_of_pos p0 (show(0:Int)<4 by decide);obtain⟨n,hnn⟩:∃n:Nat,p0 % 4+1=n:=⟨(p0 % 4+1).toNat,by omega⟩;have w1:IntKind.i64.wrap (p0 % 4+1)=(n:Int):=by rw[wrapS]<;>omega
 have w2:IntKind.i64.wrap ((n:Int)+1)=((n+1:Nat):Int):=by rw[wrapS]<;>omega
 refine W.ret ?_;rw[w1,w2];have hn4:n<=4:=by omega
 obtain⟨b,hb⟩:∃b:Nat,b=if room then n else n+1:=⟨_,rfl⟩
 have hb1:b<=n+1:=by rw[hb];split<;>omega
 refine W.bind ?_;refine W.mono (P:=fun r=>r=(b:Int)) ?_ fun r hr=>?_
 ·cases room with
  |true=>
   refine W.condT rfl ?_
   repeat' with_reducible refine W.ret ?_
   rw[hb];rfl
  |false=>
   refine W.condF rfl ?_
   repeat' with_reducible refine W.ret ?_
   rw[hb];rfl
 subst hr;obtain⟨hbn,hmu⟩:=mu20 b n hn4 hb1;have wN:IntKind.i64.wrap ((b:Int)*(n:Int))=((b*n:Nat):Int):=by
  have e:(b:Int)*(n:Int)=((b*n:Nat):Int):=by simp
  rw[e,wrapS]<;>omega
 rw[wN];refine W.newT 36 hn fun l9 τ4 T4 hl9 H4 k9 hnτ4=>?_;replace hg:=hg.hop H4;replace hx:=hx.hop H4;replace k2:=k2.hop H4;replace hn:=H4.tn;refine W.stT k9 hn (Nat.le_of_ble_eq_true (by rfl)) fun τ5 H5 k9 hnτ5=>?_;replace hg:=hg.hop H5;replace hx:=hx.hop H5;replace k2:=k2.hop H5;replace hn:=H5.tn;refine W.bind ?_;refine W.mono (ho2_w (N:=((b*n:Nat):Int)) (n:=n) (b:=b) ⟨.nils,k9,OL.nil⟩ hn hn4 (by omega)) fun r hr=>?_;obtain⟨r,τ6⟩:=r;obtain⟨T6,H6,x,k9,hO⟩:=hr;dsimp only at H6 k9 hO⊢;replace hg:=hg.hop H6;replace hx:=hx.hop H6;replace k2:=k2.hop H6;replace hn:=H6.tn;obtain⟨T7,H7,hcs⟩:=hO.freeze hn (by decide);replace hg:=hg.hop H7;replace hx:=hx.hop H7;replace k2:=k2.hop H7;replace k9:=k9.hop H7;replace hn:=H7.tn;have k9u:=k9.up;have k2u:=k2.up
 repeat' with_reducible first|refine W.bind ?_|refine W.e1 ?_
 refine W.mono (yh0_ hx hn) fun r hr=>?_;obtain⟨y1,τ8⟩:=r;obtain⟨T8,H8,hy1⟩:=hr;dsimp only at H8 hy1⊢;replace hg:=hg.hop H8;replace k9:=k9.hop H8;replace hcs:=hcs.hop H8;replace hn:=H8.tn;have k9u:=k9.up
 repeat' with_reducible first|refine W.bind ?_|refine W.chk rfl ?_|refine W.e1 ?_
 have hcl:=y87_ n hn4 b (by omega);have hcc:=yeg_ (n:=n) (b:=b) hn4;have hR:=ye8_ (n:=n) (b:=b);have hfl:(php n b).flatten.length<=80000:=by
  have key:∀cs:List (List Int),(∀c∈cs,c.length<=4)->cs.flatten.length<=4*cs.length:=by
   intro cs
   induction cs with
   |nil=>intro _;simp
   |cons c cs ih=>
    intro h;have h1:=ih fun d hd=>h d (by simp[hd]);have h2:=h c (by simp);rw[List.flatten_cons,List.length_append,List.length_cons];omega
  have:=key _ hcc;omega
 have hchk:chkC ((b*n:Nat):Int) (php n b)=none:=ydw_ (by omega) (by omega) (by omega) hfl hR;refine W.mono (y80_ (n:=b*n) hg hcs hy1 hn hsm (by simp) hchk hbn (by omega)) fun r hr=>?_;obtain⟨r,τ9⟩:=r;obtain⟨T9,H9,hso⟩:=hr;dsimp only at H9 hso⊢;replace k9:=k9.hop H9;replace hcs:=hcs.hop H9;replace hn:=H9.tn;obtain⟨e2,bb,u,v,e1⟩:=hso.agg;obtain⟨r1,r2⟩:=r;dsimp only at e1 e2⊢;subst e1 e2;refine W.newA hn rfl rfl fun l70 τ10 _ L10 k70 _=>?_;replace k9:=k9.hle L10;replace hcs:=hcs.hle L10;replace hn:=hn.mono L10;replace hso:=hso.hle L10;have k9u:=k9.up;have k70u:=k70.up;refine W.bind ?_;refine W.mono (P:=fun r=>r=true) ?_ fun r hr=>W.ret hr;refine W.condT rfl ?_;refine W.fnil (f:=none) rfl (W.condT rfl ?_)
 repeat' with_reducible first|refine W.asB ?_|refine W.e0 ?_
 rcases hso with ⟨_,M,e,hM,hMl,hmo,_⟩|⟨_,core,e,hC,hA,hno,_⟩
 ·cases e
  have hMu:=hM.up;obtain rfl:room=true:=by
   cases room with
   |true=>rfl
   |false=>
    rw[hb]at hmo;exact absurd hmo (ygx_ n _)
  refine W.condT rfl ?_;refine W.condF rfl ?_
  repeat' with_reducible first|refine W.bind ?_|refine W.asV ?_|refine W.e0 ?_
  refine W.mono (of_w hcs.up hMu (by omega) fun c hc=>⟨by have:=hcc c hc;omega,fun l hl=>by have:=hR c hc l hl;simp[inB];omega⟩) fun r hr=>?_;subst hr;refine W.condT ((yen_ fun c hc l hl=>by have:=hR c hc l hl;rw[hMl];omega).2 hmo) ?_;refine W.condT rfl ?_
  repeat' with_reducible refine W.ret ?_
  rfl
 ·cases e
  have hCu:=hC.up;obtain rfl:room=false:=by
   cases room with
   |false=>rfl
   |true=>
    rw[hb]at hno;exact absurd (fun l hl=>absurd (hA l hl) (by simp)) (hno _ (yg0_ hn4))
  obtain rfl:core=[]:=by
   cases core with
   |nil=>rfl
   |cons a t=>exact absurd (hA a (by simp)) (by simp)
  refine W.condT rfl ?_;refine W.condT rfl ?_;refine W.condF rfl ?_
  repeat' with_reducible first|refine W.ret ?_|refine W.asV ?_|refine W.len (by assumption) ?_|refine W.e0 ?_
  rfl
end
end
end Go.Proofs.YtafbldhedkallaaGreatDoor.A
end
