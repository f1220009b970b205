/- Parts of the proof, one behind another. -/
import Derived.Test.YtekehmgfedmflaaGreatDoorX9
set_option linter.all false
noncomputable section
namespace Go.Proofs.YtekehmgfedmflaaGreatDoor.A
section
open Go
def ANR(s:PS)(id:Nat)(c':List Int)(s1 s2:PS)(r:Bool×Bool):Prop:=
 (r=(true,true)/\s2=s1/\∀x∈c',val s.vs x=2) \/
 (r=(false,false)/\s2=s1/\2<=c'.length/\∀i x,i<2->c'[i]?=some x->val s.vs x≠2) \/
 (∃x,c'[0]?=some x/\val s.vs x≠2/\(∀y,c'[1]?=some y->val s.vs y=2)/\((val s.vs x=0/\s2=s1.setL x id)\/(val s.vs x=1/\s2=s1))/\∃below,(c'.length=1->below=0)/\(∀y,c'[1]?=some y->below=s2.lv y)/\r=(false,decide (s2.lv x>below)))
section
variable{σ τ:Heap}{T T':Tg}{lp n id:Nat}{h:PH}{s s1:PS}{l:Int}{c c':List Int}{b f:Bool}
theorem yfa_(ht:TrI n s)(hB:Bst s c){x:Int}(hx:c[0]?=some x)(h2:val s.vs x=2):∀y∈c,val s.vs y=2:=fun y hy=>by
 obtain⟨k,hk⟩:=y9_ hy;have h1:=hB 0 k x y (by omega) (Nat.zero_le _) hx hk;obtain⟨g1,g2,g3⟩:=ht.rank_le h2;refine Decidable.byContradiction fun hne=>?_;have:=yc1_ (s:=s) hne;omega
theorem yjk_(p:PropH σ T lp h s)(hn:Tn σ T)(ht:TrI n s)(hn4:n<=4000)(hL:∀x∈c,isL x n=true)(hc:s.cls[id]?=some (c,b,f))(hcl:c.length<=1000000)(hcc:s.cls.length<=1000000000000)(hb:s.ent+4<=8700000000000) :
  W (S.z85 (.ptr lp 0) (id:Int) σ) fun r=>∃T' h' c' nw s1 s2,Hop pI σ T r.2 T'/\PropH r.2 T' lp h' s2/\c'.Perm c/\Bst s c'/\WaX (s.putC id c' b f) s1 id nw/\(nw≠[]->2<=c.length)/\nw.length<=2/\(∀x∈c'.take 2,x∈nw\/x∈c.take 2)/\ANR s id c' s1 s2 r.1:=by
 obtain⟨y,hy,hO⟩:=p.cget hc;have hlt:=y2_ hc;have hclen:=p.clen;have p0:=p;have k1:=p.obj;have k8:=p.cls;unfold S.z85
 repeat' with_reducible first|refine W.asV ?_|refine W.fldp ?_|refine W.nck ?_|refine W.u0 ?_
 refine W.ixO k8.slT (i:=id) (by omega) ?_;refine W.fldO k8.slT (i:=id) (k:=0) (j:=0) (by omega) ?_;refine W.ldO k8.slT hy (u:=y) (fun us h=>by rw[show us=[y,.bool b,.bool f]from h];rfl) ?_
 repeat' with_reducible first|refine W.bind ?_|refine W.asV ?_
 refine W.mono (yg8_ p0 hn ht hn4 hL hc hcl hcc hb) fun r hr=>?_;obtain⟨r,τ1⟩:=r;obtain⟨T1,h1,c',nw,s1,H1,p1,⟨y',hy0,hy1⟩,hp,hB,X,hnw,hnl,htk⟩:=hr;dsimp only at H1 p1⊢;have:y'=y:=by rw[hy]at hy0;injection hy0 with hy0;exact(congrArg (·.1) hy0).symm
 subst this
 clear hO k1 k8
 have hlen:=hp.length_eq;have e1:s1={ s.putC id c' b f with wat:=s1.wat }:=X.eq;have hc1:s1.cls[id]?=some (c',b,f):=by rw[e1];exact y1i_ hc
 have evs:s1.vs=s.vs:=by rw[e1];rfl
 have hE1:CEq s s1:=by
  have:=CEq.put (f':=f) hc hp;exact⟨by rw[e1];exact this.1,fun j a d g1 g2=>this.2 j a d g1 (by rw[e1]at g2;exact g2)⟩
 have ht1:TrI n s1:=ht.same hE1 evs (by rw[e1];rfl) (by rw[e1];rfl) (by rw[e1];rfl) (by rw[e1];rfl) (by rw[X.len];rfl);obtain⟨y2,hy2,hO⟩:=p1.cget hc1;have:y2=y':=by rw[hy1]at hy2;injection hy2 with hy2;exact(congrArg (·.1) hy2).symm
 subst this;have hL':∀x∈c',isL x n=true:=fun x hx=>hL x (hp.mem_iff.1 hx);have k1:=p1.obj;have hmono:∀r s2 τ2,ANR s id c' s1 s2 r->(∃T' h',Hop pI τ1 T1 τ2 T'/\PropH τ2 T' lp h' s2)->∃T' h' c' nw s1 s2,Hop pI σ T τ2 T'/\PropH τ2 T' lp h' s2/\c'.Perm c/\Bst s c'/\WaX (s.putC id c' b f) s1 id nw/\(nw≠[]->2<=c.length)/\nw.length<=2/\(∀x∈c'.take 2,x∈nw\/x∈c.take 2)/\ANR s id c' s1 s2 r:=fun r s2 τ2 hA ⟨T2,h2,H2,p2⟩=>⟨T2,h2,c',nw,s1,s2,H1.trans H2,p2,hp,hB,X,hnw,hnl,htk,hA⟩;by_cases h0:c'.length=0
 ·repeat' with_reducible first|refine W.bind ?_|refine W.u3 ?_
  refine W.condT (by simp[h0]) ?_
  repeat' with_reducible refine W.ret ?_
  refine W.condT rfl ?_
  repeat' with_reducible refine W.ret ?_
  refine hmono _ s1 _ (.inl ⟨rfl,rfl,fun x hx=>?_⟩) ⟨T1,h1,Hop.refl H1.tn,p1⟩;rw[List.eq_nil_of_length_eq_zero h0]at hx;cases hx
 ·obtain⟨x,hx⟩:=y3_ (xs:=c') (i:=0) (by omega)
  have hxl:=hL' x (List.mem_of_getElem? hx)
  repeat' with_reducible first|refine W.bind ?_|refine W.u3 ?_
  refine W.condF (by simpa using h0) ?_
  repeat' with_reducible first|refine W.asV ?_|refine W.fldp ?_|refine W.nck ?_|refine W.u0 ?_
  refine W.ixIc (i:=0) hO.slT hx ?_;refine W.bind ?_;refine W.to (p1.val ht1 hn4 hxl) ?_
  repeat' with_reducible refine W.ret ?_
  rw[evs];by_cases h2:val s.vs x=2
  ·refine W.condT (by simp[h2]) ?_
   repeat' with_reducible refine W.ret ?_
   exact hmono _ s1 _ (.inl ⟨rfl,rfl,yfa_ ht hB hx h2⟩) ⟨T1,h1,Hop.refl H1.tn,p1⟩
  ·refine W.condF (by simp[h2]) ?_
   repeat' with_reducible first|refine W.bind ?_|refine W.u3 ?_
   refine W.mono (P:=fun r=>r=(decide (2<=c'.length/\∀z,c'[1]?=some z->val s.vs z≠2):Bool)) ?_ fun r hr=>?_
   ·skip
    (with_reducible refine W.cnd (fun hl=>?_) (fun hl=>?_)<;>(try simp only[qq,Kd.ty]at hl)<;>(try (exfalso;omega)))
    ·obtain⟨z,hz⟩:=y3_ (xs:=c') (i:=1) (by omega)
     repeat' with_reducible first|refine W.asV ?_|refine W.fldp ?_|refine W.nck ?_|refine W.u0 ?_
     refine W.ixIc (i:=1) hO.slT hz ?_;refine W.bind ?_;refine W.to (p1.val ht1 hn4 (hL' z (List.mem_of_getElem? hz))) ?_
     repeat' with_reducible refine W.ret ?_
     rw[evs];have:(2<=c'.length/\∀z,c'[1]?=some z->val s.vs z≠2)↔val s.vs z≠2:=⟨fun q=>q.2 z hz,fun q=>⟨by omega,fun w hw=>by rw[hz]at hw;cases hw;exact q⟩⟩;by_cases hv:val s.vs z=2
     ·rw[decide_eq_false (fun q=>this.1 q hv)];simp[hv]
     ·rw[decide_eq_true (this.2 hv)];simp[hv]
    ·repeat' with_reducible refine W.ret ?_
     rw[decide_eq_false (by omega)]
   subst hr;by_cases hq:2<=c'.length/\∀z,c'[1]?=some z->val s.vs z≠2
   ·refine W.condT (decide_eq_true hq) ?_
    repeat' with_reducible refine W.ret ?_
    refine hmono _ s1 _ (.inr (.inl ⟨rfl,rfl,hq.1,fun i w hi hw=>?_⟩)) ⟨T1,h1,Hop.refl H1.tn,p1⟩
    match i,hi with
    |0,_=>rw[hx]at hw;cases hw;exact h2
    |1,_=>exact hq.2 w hw
   ·refine W.condF (decide_eq_false hq) ?_
    have hq2:∀z,c'[1]?=some z->val s.vs z=2:=fun z hz=>Decidable.byContradiction fun hne=>hq ⟨by have:=y2_ hz;omega,fun w hw=>by rw[hz]at hw;cases hw;exact hne⟩
    repeat' with_reducible first|refine W.asV ?_|refine W.fldp ?_|refine W.nck ?_|refine W.u0 ?_
    refine W.ixIc (i:=0) hO.slT hx ?_;refine W.bind ?_;refine W.to (p1.val ht1 hn4 hxl) ?_
    repeat' with_reducible refine W.ret ?_
    rw[evs];refine W.mono (P:=fun(r:(Unit⊕(Bool×Bool))×Heap)=>∃u s2,r.1=.inl u/\((val s.vs x=0/\s2=s1.setL x id)\/(val s.vs x=1/\s2=s1))/\∃T' h',Hop pI τ1 T1 r.2 T'/\PropH r.2 T' lp h' s2/\h'.cs=h1.cs) ?_ fun r hr=>?_
    ·by_cases hv:val s.vs x=0
     ·refine W.condT (by simp[hv]) ?_
      skip
      refine W.ixIc (i:=0) hO.slT hx ?_;refine W.bind ?_;refine W.mono (yad_ p1 H1.tn ht1 hn4 hxl (by rw[evs];exact h2) (mk:=s1.marks) rfl (by have:=ht1.lenM;have:=ht1.lenT;omega)) fun r hr=>?_;obtain⟨T2,h2',H2,p2,e2⟩:=hr
      repeat' with_reducible refine W.ret ?_
      exact⟨(),_,rfl,.inl ⟨hv,rfl⟩,T2,h2',H2,p2,e2⟩
     ·refine W.condF (by simp[hv]) ?_
      repeat' with_reducible refine W.ret ?_
      have:=y4c_ ht.ok x;exact⟨(),s1,rfl,.inr ⟨by omega,rfl⟩,T1,h1,Hop.refl H1.tn,p1,rfl⟩
    ·obtain⟨r,τ2⟩:=r
     obtain⟨u,s2,e,hs2,T2,h2',H2,p2,e2⟩:=hr;dsimp only at e H2 p2⊢;subst e;have hc2:s2.cls[id]?=some (c',b,f):=by
      rcases hs2 with ⟨_,e⟩|⟨_,e⟩<;>rw[e]<;>exact hc1
     have ht2:s2.lev.length=n+1:=by
      rcases hs2 with ⟨_,e⟩|⟨_,e⟩<;>rw[e]
      ·simp[PS.setL,ht1.len.lev]
      ·exact ht1.len.lev
     have hget:∀z,isL z n=true->s2.lev[z.natAbs]?=some (s2.lv z):=fun z hz=>by
      have:=yb_ hz;unfold PS.lv;rw[List.getD_eq_getElem?_getD,List.getElem?_eq_getElem (by omega)];rfl
     obtain⟨y3,hy3,hO2⟩:=p2.cget hc2;have:y3=y2:=by rw[e2,hy1]at hy3;injection hy3 with hy3;exact(congrArg (·.1) hy3).symm
     subst this
     clear hO k1
     have k1:=p2.obj;have k4:=p2.lev
     repeat' with_reducible first|refine W.bind ?_|refine W.u3 ?_
     refine W.mono (P:=fun below=>(c'.length=1->below=0)/\∀y,c'[1]?=some y->below=s2.lv y) ?_ fun below hbl=>?_
     ·(with_reducible refine W.cnd (fun hl=>?_) (fun hl=>?_)<;>(try simp only[qq,Kd.ty]at hl)<;>(try (exfalso;omega)))
      ·obtain⟨z,hz⟩:=y3_ (xs:=c') (i:=1) (by omega)
       have hzl:=hL' z (List.mem_of_getElem? hz);have hg:=hget z hzl
       repeat' with_reducible first|refine W.asV ?_|refine W.fldp ?_|refine W.nck ?_|refine W.u0 ?_
       refine W.ixIc (i:=1) hO2.slT hz ?_;refine W.bind ?_;refine W.to (yk_ hzl hn4) ?_
       repeat' with_reducible first|refine W.ret ?_|refine W.u2 ?_
       exact⟨fun q=>by omega,fun w hw=>by rw[hz]at hw;cases hw;rfl⟩
      ·repeat' with_reducible refine W.ret ?_
       exact⟨fun _=>rfl,fun w hw=>by have:=y2_ hw;omega⟩
     ·have hg:=hget x hxl
      repeat' with_reducible first|refine W.asV ?_|refine W.fldp ?_|refine W.nck ?_|refine W.u0 ?_
      refine W.ixIc (i:=0) hO2.slT hx ?_;refine W.bind ?_;refine W.to (yk_ hxl hn4) ?_
      repeat' with_reducible first|refine W.ret ?_|refine W.u2 ?_
      exact hmono _ s2 _ (.inr (.inr ⟨x,hx,h2,hq2,hs2,below,hbl.1,hbl.2,rfl⟩)) ⟨T2,h2',H2,p2⟩
end
end
section
open Go
def Rd(s:PS)(P:List Int)(out:Int):Prop:=s.marks=[]\/(out = -1/\(P=[]\/∃id:Nat,P=[(id:Int)]/\Ready s id))
section
variable{n id:Nat}{s s0 s1 s2:PS}{x out:Int}{c c' nw P:List Int}{b f:Bool}{r:Bool×Bool}
theorem AgI.start(S:StI n s):AgI n s { s with loose:=[] } s.loose (-1):=by
 obtain⟨h,e1,e2,e3,e4⟩:=S.hd;have hE:CEq s { s with loose:=[] }:=⟨rfl,(CEq.refl s).2⟩;refine⟨S.ti.same hE rfl rfl rfl rfl rfl rfl,S.ci,⟨by simpa using S.li.nd,fun x hx=>S.li.fl x (by simpa using hx),fun j d b hj=>by simpa using S.li.lf j d b hj⟩,S.wi,fun w hw e he=>(S.wr w hw e he).ceq hE,rfl,fun k hk=>?_,PEx.same hE rfl rfl rfl,?_,fun _=>rfl,fun q=>absurd rfl q⟩
 ·have:k=h:=by omega
  subst this;exact⟨e2,fun j d hd=>⟨(e4 j d hd).ne,(e4 j d hd).one,(e4 j d hd).two⟩⟩
 ·show s.ent+2*(s.loose.length+0)<=_
  rw[if_pos rfl];omega
theorem AgI.gone(A:AgI n s0 s ((id:Int)::P) out)(hc:s.cls[id]?=some (c,false,true)):AgI n s0 (s.putC id c false false) P out:=by
 have hE:CEq s (s.putC id c false false):=CEq.put hc (.refl c);have hid:=y1i_ hc (c':=c) (b':=false) (f':=false);have hoth:∀j,j≠id->(s.putC id c false false).cls[j]?=s.cls[j]?:=fun j hj=>by show(s.cls.set id _)[j]?=_;rw[List.getElem?_set,if_neg fun e=>hj e.symm]
 have hEx:PEx s (s.putC id c false false):=PEx.same hE rfl rfl rfl;have hnd:=A.li.nd;rw[List.cons_append,List.nodup_cons]at hnd;refine⟨A.ti.same hE rfl rfl rfl rfl rfl rfl,A.ci.ceq hE,⟨hnd.2,fun x hx=>?_,fun j d b hj=>?_⟩,?_,fun w hw e he=>(A.wr w hw e he).ceq hE,A.hd,fun k hk=>⟨(A.ji k hk).1,?_⟩,A.ex.trans hEx,?_,A.o1,fun q=>?_⟩
 ·obtain⟨j,d,b,e,h2⟩:=A.li.fl x (by simp at hx⊢;exact .inr hx)
  have hne:j≠id:=fun q=>hnd.1 (by rw[<-q,<-e];exact hx);exact⟨j,d,b,e,by rw[hoth j hne];exact h2⟩
 ·by_cases e:j=id
  ·subst e;rw[hid]at hj;cases hj
  ·rw[hoth j e]at hj
   have:=A.li.lf j d b hj;rw[List.cons_append,List.mem_cons]at this;exact this.resolve_left fun q=>e (Int.ofNat.inj q)
 ·refine A.wi.upd (id:=id) hoth (fun x e he=>he) (fun x j _ q=>q.elim) fun d f hd hl i x hi hx=>?_
  rw[hid]at hd;cases hd
 ·refine(A.ji k hk).2.upd (id:=id) hEx (Nat.le_trans (A.ji k hk).1 A.ex.lenT) hoth fun d hd=>?_
  rw[hid]at hd;cases hd
 ·have:=A.en
  have e:(s.putC id c false false).ent=s.ent:=rfl;have e2:(s.putC id c false false).loose=s.loose:=rfl;rw[e,e2];simp at this⊢;omega
 ·obtain⟨h1,j,d,g,h2,h3,h4⟩:=A.o2 q
  obtain⟨d',g',h5,pm⟩:=hE.get h3;exact⟨h1,j,d',g',h2,h5,fun x hx=>h4 x (pm.mem_iff.1 hx)⟩
theorem AgI.keep(A:AgI n s0 s ((id:Int)::P) out):AgI n s0 { s with loose:=s.loose++[(id:Int)] } P out\/out = -1:=by
 by_cases ho:out = -1
 ·exact .inr ho
 left;have hE:CEq s { s with loose:=s.loose++[(id:Int)] }:=⟨rfl,(CEq.refl s).2⟩;have hEx:PEx s { s with loose:=s.loose++[(id:Int)] }:=PEx.same hE rfl rfl rfl;have hmem:∀x,x∈P++(s.loose++[(id:Int)])↔x∈(id:Int)::P++s.loose:=fun x=>by
  simp only[List.mem_append,List.mem_cons,List.mem_singleton,List.cons_append,List.not_mem_nil,or_false];constructor
  ·rintro(h|h|h)
   ·exact .inr (.inl h)
   ·exact .inr (.inr h)
   ·exact .inl h
  ·rintro(h|h|h)
   ·exact .inr (.inr h)
   ·exact .inl h
   ·exact .inr (.inl h)
 refine⟨A.ti.same hE rfl rfl rfl rfl rfl rfl,A.ci.ceq hE,⟨?_,fun x hx=>A.li.fl x ((hmem x).1 hx),fun j d b hj=>(hmem _).2 (A.li.lf j d b hj)⟩,A.wi,fun w hw e he=>(A.wr w hw e he).ceq hE,A.hd,fun k hk=>⟨(A.ji k hk).1,fun j d hd=>((A.ji k hk).2 j d hd).ext hEx (Nat.le_trans (A.ji k hk).1 A.ex.lenT)⟩,A.ex.trans hEx,?_,fun q=>absurd q ho,A.o2⟩
 ·have hnd:=A.li.nd
  have hp:(P++(s.loose++[(id:Int)])).Perm ((id:Int)::P++s.loose):=by
   rw[<-List.append_assoc,List.cons_append];exact List.perm_append_singleton _ _
  exact hp.nodup_iff.2 hnd
 ·have:=A.en
  have e:PS.ent { s with loose:=s.loose++[(id:Int)] }=s.ent:=rfl;rw[e];simp at this⊢;omega
theorem ye3_(ht:TrI n s)(hB:Bst s c)(hx:c[0]?=some x)(h2:∀y,c[1]?=some y->val s.vs y=2):∀y∈c,y≠x->val s.vs y=2:=fun y hy hne=>by
 obtain⟨k,hk⟩:=y9_ hy;have hk1:1<=k:=Nat.pos_of_ne_zero fun e=>by subst e;rw[hx]at hk;exact hne (Option.some.inj hk).symm
 have hkl:=y2_ hk;obtain⟨z,hz⟩:=y3_ (xs:=c) (i:=1) (by omega);have h1:=hB 1 k z y (by omega) hk1 hz hk;obtain⟨g1,g2,g3⟩:=ht.rank_le (h2 z hz);refine Decidable.byContradiction fun hne=>?_;have:=yc1_ (s:=s) hne;omega
theorem AgI.look(A:AgI n s0 s ((id:Int)::P) (-1))(hR:Rd s ((id:Int)::P) (-1))(h:AnI s s1 id c c' nw)(hA:ANR (s.putC id c true false) id c' s1 s2 r) :
  (r=(true,true)/\s2=s1/\s.marks=[]/\AgI n s0 (s1.look id) P id)\/(r=(false,false)/\AgI n s0 s2 P (-1)/\Rd s2 P (-1)):=by
 obtain⟨f1,f2,f3,f4,f5,f6,f7,f8,f9⟩:=h.ff;obtain⟨b1,b2,b3,b4,b5,b6,b7,b8,b9,b10,b11,b12⟩:=h.base A;have hfv:∀x,val (s.putC id c true false).vs x=val s.vs x:=fun x=>rfl;have hRP:∀s':PS,s'.marks=s.marks->Rd s' P (-1):=fun s' e=>by
  rcases hR with q|⟨_,q|⟨j,q,_⟩⟩
  ·exact .inl (by rw[e];exact q)
  ·cases q
  ·refine .inr ⟨rfl,.inl ?_⟩
   have:=congrArg List.tail q;simpa using this
 have hrdy:s.marks=[]\/Ready s id:=by
  rcases hR with q|⟨_,q|⟨j,q,w⟩⟩
  ·exact .inl q
  ·cases q
  ·have:j=id:=by have:=(List.cons.inj q).1;omega
   subst this;exact .inr w
 rcases hA with ⟨e1,e2,e3⟩|⟨e1,e2,e3,e4⟩|⟨x,hx,hx2,hy2,hs2,below,hb1,hb2,er⟩
 ·left
  have hm:s.marks=[]:=by
   rcases hrdy with q|⟨d,g,hd,l,hl,hl0,hl1,hl2,hl3⟩
   ·exact q
   ·rw[h.hc]at hd;cases hd
    have:=e3 l (h.pm.mem_iff.2 hl);rw[hfv]at this;omega
  exact⟨e1,e2,hm,A.bad h hm e3⟩
 ·right
  subst e2;refine⟨e1,A.good h (PEx.refl _) b1 rfl rfl rfl rfl fun k _=>JuC.top b1 e3 fun i x hi hx=>?_,hRP s2 f5⟩;rw[f1];exact e4 i x hi hx
 ·right
  have hbf:=ye3_ A.ti h.bst hx hy2;have hxc:=List.mem_of_getElem? hx;have hxl:=(b2 id c' false b8).1 x hxc;have hv1:∀y,val s1.vs y=val s.vs y:=fun y=>by rw[f1]
  have hlv1:∀y,s1.lv y=s.lv y:=fun y=>by simp[PS.lv,f2]
  have key:TrI n s2/\PEx s1 s2/\s2.cls=s1.cls/\s2.wat=s1.wat/\s2.head=s1.head/\s2.loose=s1.loose/\x∈s2.trail/\(val s.vs x=0->s2.lv x=s.marks.length):=by
   rcases hs2 with ⟨e0,e⟩|⟨e0,e⟩
   ·rw[hfv]at e0
    rw[<-hv1]at e0;subst e;exact⟨b1.set b8 hxc hxl e0 fun y hy hne=>by rw[hv1];exact hbf y hy hne,PEx.setL b1 hxl e0 _,rfl,rfl,rfl,rfl,by simp[PS.setL],fun _=>by rw[(y72_ b1 hxl e0).2,f5]⟩
   ·rw[hfv]at e0
    subst e;exact⟨b1,PEx.refl _,rfl,rfl,rfl,rfl,(b1.tr x).1 (by rw[hv1];exact e0),fun q=>by omega⟩
  obtain⟨t2,E2,g1,g2,g3,g4,g5,g6⟩:=key;have hm2:s2.marks=s.marks:=E2.mks.trans f5;have hlx:=t2.lv x g5;have hbelow:0<=below/\∀y,c'[1]?=some y->s2.lv y=s.lv y:=by
   have hyy:∀y,c'[1]?=some y->s2.lv y=s.lv y:=fun y hy=>by
    have hm:=A.ti.neg.1 (hy2 y hy);have:=E2.lv (-y) (by rw[f4];exact hm);rw[PS.lv_neg,PS.lv_neg,hlv1]at this;exact this
   refine⟨?_,hyy⟩;cases hq:c'[1]? with
   |none=>
    have h1:=y2_ hx;have h2:=List.getElem?_eq_none_iff.1 hq;have:=hb1 (by omega);omega
   |some y=>
    rw[hb2 y hq,hyy y hq];exact(A.ti.rank_le (hy2 y hq)).2.1
  have hle:s2.lv x<=below:=by
   rcases hrdy with q|⟨d,g,hd,l,hl,hl0,hl1,hl2,hl3⟩
   ·rw[hm2,q]at hlx
    have:=hlx.2;simp at this;omega
   ·rw[h.hc]at hd;cases hd
    have exl:x=l:=Decidable.byContradiction fun hne=>hx2 (hl1 x (h.pm.mem_iff.1 hxc) hne);subst exl;rw[g6 hl0];by_cases hlen:c'.length=1
    ·rw[hb1 hlen]
     have:=hl3 (by rw[<-h.pm.length_eq];exact hlen);rw[this];simp
    ·have h1:=y2_ hx
     obtain⟨y,hy⟩:=y3_ (xs:=c') (i:=1) (by omega);obtain⟨z,hz1,hz2,hz3⟩:=hl2 (by rw[<-h.pm.length_eq];omega);obtain⟨k,hk⟩:=y9_ (h.pm.mem_iff.2 hz1);have hk1:1<=k:=Nat.pos_of_ne_zero fun e=>by subst e;rw[hx]at hk;exact hz2 (Option.some.inj hk).symm
     have h2:=h.bst 1 k y z (by omega) hk1 hy hk;have h3:=(A.ti.rank_le (hl1 z hz1 hz2)).1;have h4:=(A.ti.rank_le (hy2 y hy)).1;rw[hb2 y hy,hbelow.2 y hy];omega
  refine⟨by rw[er,decide_eq_false (by omega)],A.good h E2 t2 g1 g2 g3 g4 fun k _=>JuC.sat t2 hx g5 (fun hlen=>?_) fun y hy=>?_,hRP s2 hm2⟩
  ·have:=hb1 hlen;omega
  ·rw[<-hb2 y hy];exact hle
end
end
section
open Go
theorem Own.retag{α:Type}{v:Vw α}{σ:Heap}{T:Tg}{t u:Nat}{xs:List α}{x:AVal}(h:Own v (σ.at T t) xs x)(hf:v.Flat)(hn:Tn σ T):∃T',Hop (only t) σ T σ T'/\Own v (σ.at T' u) xs x:=by
 rcases h with ⟨rfl,rfl⟩|⟨l,off,c,cs,rfl,h2,h3,h4,h5,h6⟩
 ·exact⟨T,Hop.refl hn,.nil⟩
 ·obtain⟨e1,e2⟩:=ys_.1 h3
  have h2:l<σ.next:=h2;refine⟨T.upd l u,⟨Nat.le_refl _,⟨fun k hk=>by rw[y1k_ (by omega)];exact hn.z k hk⟩,fun k hk hI=>y1k_ fun e=>by subst e;simp[only,e1]at hI,fun k o hk hI hg=>hg⟩,.inr ⟨l,off,c,cs,rfl,h2,at_of y14_ e2,h4,h5,fun i a ha=>hf _ _ _ _ (h6 i a ha)⟩⟩
section
variable{σ τ:Heap}{T T':Tg}{lp n id:Nat}{h:PH}{s s1:PS}{l:Int}{c c':List Int}{b f:Bool}
theorem ClI.len(h:ClI n s)(hc:s.cls[id]?=some (c,true,f)):c.length<=n:=by
 obtain⟨h1,h2⟩:=h id c f hc;have:=y2j_ n (c.map Int.natAbs) h2 fun x hx=>by
  obtain⟨l,hl,rfl⟩:=List.mem_map.1 hx;have:=yb_ (h1 l hl);omega
 simpa using this
theorem yia_(p:PropH σ T lp h s)(hn:Tn σ T)(hS:StI n s)(hn4:n<=4000)(hb:s.ent+2*s.loose.length+10<=8700000000000)(hcc:s.cls.length<=1000000000000)(hR:Rd s s.loose (-1)) :
  W (S.z84 (.ptr lp 0) σ) fun r=>∃T' h' s',Hop pI σ T r.2 T'/\PropH r.2 T' lp h' s'/\AgI n s s' [] r.1/\-1<=r.1:=by
 have hll:s.loose.length<=8700000000000:=by omega
 have hsl:∀x∈s.loose,∃j:Nat,x=j:=fun x hx=>by
  obtain⟨j,_,_,e,_⟩:=hS.li.fl x (by simpa using hx);exact⟨j,e⟩
 obtain⟨k1,k2,k3,k4,k5,k6,k7,k8,k9,k10,k11,k12,k13⟩:=p;unfold S.z84
 repeat' with_reducible first|refine W.asV ?_|refine W.fldp ?_|refine W.nck ?_|refine W.u0 ?_
 obtain⟨T1,HR,kS⟩:=k10.retag (u:=0) Vw.int_flat hn;have HH:Hop pI σ T σ T1:=(Hop.refl hn).inP HR;replace k1:=k1.hop HR;replace k2:=k2.hop HR;replace k3:=k3.hop HR;replace k4:=k4.hop HR;replace k5:=k5.hop HR;replace k6:=k6.hop HR;replace k7:=k7.hop HR;replace k8:=k8.hop HR;replace k9:=k9.hop HR;replace k11:=k11.hop HR;replace k13:=k13.hop HR;replace hn:=HR.tn;have kS:=kS.sl;refine W.stT k1 hn (Nat.le_of_ble_eq_true (by rfl)) fun τ1 H1 k1 hnτ1=>?_;replace HH:=HH.inP H1;replace kS:=kS.hop H1;replace k2:=k2.hop H1;replace k3:=k3.hop H1;replace k4:=k4.hop H1;replace k5:=k5.hop H1;replace k6:=k6.hop H1;replace k7:=k7.hop H1;replace k8:=k8.hop H1;replace k9:=k9.hop H1;replace k11:=k11.hop H1;replace k13:=k13.hop H1;replace hn:=H1.tn;have p1:PropH τ1 T1 lp { h with xo:=.nils } { s with loose:=[] }:=⟨k1,k2,k3,k4,k5,k6,k7,k8,k9,.nil,k11,k12,k13⟩
 repeat' with_reducible first|refine W.bind ?_|refine W.len (by assumption) ?_
 refine W.mono (P:=fun r=>∃T' h' s',Hop pI σ T r.2 T'/\PropH r.2 T' lp h' s'/\AgI n s s' [] r.1/\-1<=r.1) ?_ fun r hr=>W.ret hr;refine W.loop s.loose.length (fun i (x:Int×Int) τ=>x.2=(i:Int)/\∃T' h' s',Hop pI σ T τ T'/\SlV .int (τ.at T' 0) s.loose h.xo/\PropH τ T' lp h' s'/\AgI n s s' (s.loose.drop i) x.1/\-1<=x.1/\Rd s' (s.loose.drop i) x.1) ⟨rfl,T1,_,_,HH,kS,p1,AgI.start hS,by omega,?_⟩ fun i x τ hi hI=>?_
 ·rcases hR with q|⟨q1,q2|⟨j,q2,q3⟩⟩
  ·exact .inl q
  ·exact .inr ⟨rfl,.inl q2⟩
  ·exact .inr ⟨rfl,.inr ⟨j,q2,q3⟩⟩
 obtain⟨out,z⟩:=x;obtain⟨hz,T2,h2,s2,H2,kS,p2,A,ho,hR2⟩:=hI;dsimp only at hz A ho hR2⊢;subst hz;have hn2:=H2.tn;unfold S.z84.b0
 (with_reducible refine W.cnd (fun hlt=>?_) (fun hlt=>?_)<;>(try simp only[qq,Kd.ty]at hlt)<;>(try (exfalso;omega)))
 ·obtain⟨a,ha⟩:=y3_ (xs:=s.loose) (i:=i) (by omega)
  obtain⟨id,rfl⟩:=hsl a (List.mem_of_getElem? ha);have hdr:s.loose.drop i=(id:Int)::s.loose.drop (i+1):=by
   rw[List.drop_eq_getElem_cons (by omega)];rw[(List.getElem?_eq_some_iff.1 ha).2]
  rw[hdr]at A hR2;obtain⟨j,c,b,ej,hc⟩:=A.li.fl (id:Int) (by simp);have:id=j:=Int.ofNat.inj ej;subst this;have hlc:=y2_ hc;have hclen:=p2.clen;have hcl2:s2.cls.length=s.cls.length:=A.ex.ceq.1;obtain⟨y,hy,hO⟩:=p2.cget hc;obtain⟨k1,k2,k3,k4,k5,k6,k7,k8,k9,k10,k11,k12,k13⟩:=p2;have w:IntKind.i64.wrap ((i:Int)+1)=((i+1:Nat):Int):=by rw[wrapS]<;>omega
  repeat' with_reducible first|refine W.bind ?_|refine W.asV ?_|refine W.fldp ?_|refine W.nck ?_|refine W.u0 ?_|refine W.ixIc (SlV.up (by assumption)) (by assumption) ?_
  refine W.ixO k8.slT (i:=id) (by omega) ?_;refine W.fldO k8.slT (i:=id) (k:=0) (j:=2) (by omega) ?_;refine W.own_set y5t_ k8 hn2 hy (k:=2) [y,.bool b,.bool true] (y,b,false) (by decide) (fun bs h=>h) (fun _=>rfl) fun τ3 k8 H3 _=>?_;replace H2:=H2.inP H3;replace kS:=kS.hop H3;replace k1:=k1.hop H3;replace k2:=k2.hop H3;replace k3:=k3.hop H3;replace k4:=k4.hop H3;replace k5:=k5.hop H3;replace k6:=k6.hop H3;replace k7:=k7.hop H3;replace k9:=k9.hop H3;replace k10:=k10.hop H3;replace k11:=k11.hop H3;replace k13:=k13.hop H3;replace hn:=H3.tn;have p3:PropH τ3 T2 lp { h2 with cs:=h2.cs.set id (y,b,false) } (s2.putC id c b false):=⟨k1,k2,k3,k4,k5,k6,k7,k8,k9,k10,by
   show Fam τ3 T2 50 ((s2.cls.set id (c,b,false)).map (·.1)) ((h2.cs.set id (y,b,false)).map (·.1));rw[y1e_ (f:=(·.1)) (b:=(c,b,false)) hc rfl,y1e_ (f:=(·.1)) (b:=(y,b,false)) hy rfl];exact k11,by
   show(h2.cs.set id (y,b,false)).map (·.2)=(s2.cls.set id (c,b,false)).map (·.2);rw[List.map_set,List.map_set,k12],k13⟩
  have hy3:(h2.cs.set id (y,b,false))[id]?=some (y,b,false):=by rw[List.getElem?_set,if_pos rfl,if_pos (y2_ hy)]
  have hl3:(h2.cs.set id (y,b,false)).length=h2.cs.length:=by simp
  repeat' with_reducible first|refine W.asV ?_|refine W.fldp ?_|refine W.nck ?_|refine W.u0 ?_
  refine W.ixO k8.slT (i:=id) (by omega) ?_;refine W.fldO k8.slT (i:=id) (k:=0) (j:=1) (by omega) ?_;refine W.ldO k8.slT hy3 (u:=.bool b) (fun us h=>by rw[show us=[y,.bool b,.bool false]from h];rfl) ?_
  repeat' (with_reducible refine W.asB ?_)
  have hc3:=y1i_ hc (c':=c) (b':=b) (f':=false);have hen:s2.ent+2*s2.loose.length<=s.ent+2*s.loose.length+2:=by
   have:=A.en;simp at this
   split at this<;>omega
  have hmk:s2.marks=s.marks:=A.ex.mks;have hRk:∀s':PS,s'.marks=s2.marks->Rd s2 ((id:Int)::s.loose.drop (i+1)) out->out≠-1->∀P o,Rd s' P o:=fun s' e hR ho P o=>by
   rcases hR with q|⟨q,_⟩
   ·exact .inl (by rw[e];exact q)
   ·exact absurd q ho
  cases b with
  | false=>
   refine W.condT rfl ?_
   repeat' with_reducible first|refine W.next ?_|refine W.ret ?_
   refine⟨by omega,w,T2,_,_,H2,kS,p3,A.gone hc,ho,?_⟩;rcases hR2 with q|⟨q1,q|⟨j,q,w⟩⟩
   ·exact .inl q
   ·cases q
   ·obtain⟨d,g,hd,_⟩:=w
    have:id=j:=by have:=(List.cons.inj q).1;omega
    subst this;rw[hc]at hd;cases hd
  | true=>
   refine W.condF rfl ?_
   (with_reducible refine W.cnd (fun hout=>?_) (fun hout=>?_)<;>(try simp only[qq,Kd.ty]at hout)<;>(try (exfalso;omega)))
   ·have ho1:out≠-1:=by omega
    repeat' (with_reducible refine W.bind ?_)
    refine W.mono (y5q_ p3 H2.tn (id:=id) (by simpa[PS.putC]using hlc) (by show s2.loose.length<=_;omega) (by simp[PS.putC];omega)) fun r hr=>?_;obtain⟨r,τ4⟩:=r;obtain⟨T4,h4,H4,p4⟩:=hr
    repeat' with_reducible first|refine W.next ?_|refine W.ret ?_
    have e:(s2.putC id c true false).look id={ s2 with loose:=s2.loose++[(id:Int)] }:=by
     unfold PS.look;rw[hc3];have:=y6u_ hc;simp only[PS.putC]at this⊢;rw[List.set_set];have e2:=congrArg PS.cls this;simp only at e2;rw[e2]
    rw[e]at p4;refine⟨by omega,w,T4,h4,_,H2.trans H4,kS.hop H4,p4,(A.keep).resolve_right ho1,ho,hRk _ rfl hR2 ho1 _ _⟩
   ·have ho1:out = -1:=by omega
    subst ho1;have hE3:CEq s2 (s2.putC id c true false):=CEq.put hc (.refl c);have ht3:TrI n (s2.putC id c true false):=A.ti.same hE3 rfl rfl rfl rfl rfl rfl
    repeat' (with_reducible refine W.bind ?_)
    refine W.mono (yjk_ p3 H2.tn ht3 hn4 (A.ci id c true hc).1 hc3 (by have:=A.ci.len hc;omega) (by simp[PS.putC];omega) (by show s2.ent+4<=_;omega)) fun r hr=>?_;obtain⟨⟨bad,more⟩,τ4⟩:=r;obtain⟨T4,h4,c',nw,s4,s5,H4,p4,hp,hB,X,hnw,hnl,htk,hA⟩:=hr;dsimp only at H4 p4 hA⊢;rw[y85_]at X;have hAN:AnI s2 s4 id c c' nw:=⟨hc,hp,hB,X,hnw,hnl,htk⟩;rcases A.look hR2 hAN hA with ⟨e1,e2,e3,e4⟩|⟨e1,e2,e3⟩
    ·cases e1
     subst e2;refine W.bind ?_;refine W.condT rfl ?_
     repeat' with_reducible refine W.ret ?_
     refine W.condT rfl ?_;have f7:=hAN.ff.2.2.2.2.2.2.1;have f8:=hAN.ff.2.2.2.2.2.2.2.1;have hx:=X.ent;have hx2:(s2.putC id c' true false).ent=s2.ent:=rfl;refine W.bind ?_;refine W.mono (y5q_ p4 H4.tn (id:=id) (by rw[f8];simpa using hlc) (by rw[f7];omega) (by rw[f8];simp;omega)) fun r hr=>?_;obtain⟨r,τ5⟩:=r;obtain⟨T5,h5,H5,p5⟩:=hr
     repeat' with_reducible first|refine W.next ?_|refine W.ret ?_
     exact⟨by omega,w,T5,h5,_,(H2.trans H4).trans H5,(kS.hop H4).hop H5,p5,e4,by omega,.inl (by
      have f5:=hAN.ff.2.2.2.2.1;have:(s5.look id).marks=s5.marks:=by
       unfold PS.look
       split<;>rfl
      rw[this,f5];exact e3)⟩
    ·cases e1
     refine W.bind ?_;refine W.condF rfl ?_
     repeat' with_reducible refine W.ret ?_
     refine W.condF rfl ?_
     repeat' with_reducible first|refine W.next ?_|refine W.ret ?_
     refine⟨by omega,w,T4,h4,s5,H2.trans H4,kS.hop H4,p4,e2,ho,e3⟩
 ·repeat' (with_reducible refine W.stop ?_)
  have:i=s.loose.length:=by omega
  subst this;rw[List.drop_length]at A;exact⟨T2,h2,s2,H2,p2,A,ho⟩
end
end
section
open Go
def VisR(s:PS)(id:Nat)(f:Int)(r:Bool×Bool)(s':PS):Prop:=
  (r=(false,false)/\s'=s/\∀c fl,s.cls[id]?=some (c,true,fl)->∀i,i<2->c[i]?≠some f) \/
  ∃c c' y,s.cls[id]?=some (c,true,false)/\(c'=c\/c'=swapL c 0 1)/\c'[0]?=some y/\c'[1]?=some f /\
    ((val s.vs y=1/\r=(true,false)/\s'=s.putC id c' true false) \/
     (∃k z,2<=k/\c'[k]?=some z/\val s.vs z≠2/\r=(false,false)/\s'=(s.putC id (swapL c' 1 k) true false).watch z id) \/
     ((∀(k:Nat) z,2<=k->c'[k]?=some z->val s.vs z=2)/\val s.vs y=2/\r=(true,true)/\s'=s.putC id c' true false) \/
     ((∀(k:Nat) z,2<=k->c'[k]?=some z->val s.vs z=2)/\val s.vs y=0/\r=(true,false)/\s'=(s.putC id c' true false).setL y id))
section
variable{n h id:Nat}{s s0 s':PS}{x f out:Int}{c c' stay R:List Int}{b:Bool}{r:Bool×Bool}
theorem FaI.visit(A:FaI n s0 s h f stay ((id:Int)::R) (-1))(V:VisR s id f r s'):FaI n s0 s' h f (if r.1 then stay++[(id:Int)]else stay) R (if r.2 then(id:Int)else -1):=by
 rcases V with ⟨e1,e2,e3⟩|⟨c,c',y,hc,hcc,hy,hf,V⟩
 ·subst e1 e2
  exact A.skip e3
 have hl2:2<=c.length:=by
  have h1:=y2_ hf;rcases hcc with e|e
  ·rw[e]at h1;omega
  ·rw[e,y2o_]at h1;omega
 have hp:c'.Perm c:=by
  rcases hcc with e|e
  ·rw[e]
  ·rw[e];exact y16_ (by omega) (by omega)
 have hlen:=hp.length_eq;have hJ0:JuC s h c':=by
  have:=A.ji id c hc;rcases hcc with e|e
  ·rw[e];exact this
  ·rw[e];exact this.swap hl2
 have hci:=A.ci id c false hc;have hnd:(c'.map Int.natAbs).Nodup:=(hp.map _).nodup_iff.2 hci.2;have hyc:=List.mem_of_getElem? hy;have hfc:=List.mem_of_getElem? hf;have hyl:=hci.1 y (hp.mem_iff.1 hyc);have hdiff:∀(i j:Nat) a,c'[i]?=some a->c'[j]?=some a->i=j:=fun i j a h1 h2=>nd_ix (xs:=c'.map Int.natAbs) hnd (a:=a.natAbs) (by simp[h1]) (by simp[h2]);have hyf:y≠f:=fun e=>by have:=hdiff 0 1 y hy (by rw[e];exact hf);omega
 have hfv:=A.fv;have hwold:∀x,(x=y\/x=f)->(id:Int)∈s.wat.getD (wAt x) []\/(x=f/\(id:Int)∈stay++(id:Int)::R):=fun x hx=>by
  have:∃i,i<2/\c[i]?=some x:=by
   have key:∀i:Nat,i<2->c'[i]?=some x->∃i:Nat,i<2/\c[i]?=some x:=fun i hi hx=>by
    rcases hcc with e|e
    ·rw[e]at hx;exact⟨i,hi,hx⟩
    ·rw[e,yy_ (by omega) (by omega)]at hx
     split at hx
     ·exact⟨0,by omega,hx⟩
     ·split at hx
      ·exact⟨1,by omega,hx⟩
      ·exact⟨i,hi,hx⟩
   rcases hx with e|e
   ·exact key 0 (by omega) (by rw[hy,e])
   ·exact key 1 (by omega) (by rw[hf,e])
  obtain⟨i,hi,hx⟩:=this;exact A.wi id c false hc hl2 i x hi hx
 have hE1:CEq s (s.putC id c' true false):=CEq.put hc hp;have ht1:TrI n (s.putC id c' true false):=A.ti.same hE1 rfl rfl rfl rfl rfl rfl;have hEx1:PEx s (s.putC id c' true false):=PEx.same hE1 rfl rfl rfl;have hw01:∀i x,i<2->c'[i]?=some x->x=y\/x=f:=fun i x hi hx=>by
  match i,hi with
  |0,_=>rw[hy]at hx;exact .inl (Option.some.inj hx).symm
  |1,_=>rw[hf]at hx;exact .inr (Option.some.inj hx).symm
 have hki:∀(i:Nat) z,i<2->c'[i]?=some f->c'[1-i]?=some z->z=y:=fun i z hi h1 h2=>by
  have:=hdiff i 1 f h1 hf;subst this;rw[show(1-1:Nat)=0 from rfl,hy]at h2;exact(Option.some.inj h2).symm
 have hwiY:∀s2:PS,s2.wat=s.wat->∀st:List Int,(id:Int)∈st->∀i x,i<2->c'[i]?=some x->(id:Int)∈s2.wat.getD (wAt x) []\/(x=f/\(id:Int)∈st):=fun s2 e st hst i x hi hx=>by
  rcases hw01 i x hi hx with q|q
  ·rcases hwold x (.inl q)with w|w
   ·exact .inl (by rw[e];exact w)
   ·exact absurd (q.symm.trans w.1) hyf
  ·exact .inr ⟨q,hst⟩
 have hR1:∀s2:PS,CEq s s2->s2.wat=s.wat->WaR s2:=fun s2 hE e w hw x hx=>by
  rw[e]at hw;exact(A.wr w hw x hx).ceq hE
 rcases V with ⟨v1,e1,e2⟩|⟨k,z,hk,hz,v1,e1,e2⟩|⟨hall,v1,e1,e2⟩|⟨hall,v1,e1,e2⟩
 ·subst e1 e2
  have hym:=(A.ti.tr y).1 v1;have hylv:=A.ti.lv y hym;refine A.upd hc hp hEx1 ht1 rfl rfl rfl (fun _ _ h=>h) (hR1 _ hE1 rfl) (.inr rfl) (hwiY _ rfl _ (by simp)) ?_ (fun _ i w hi h1 h2=>?_) (by simp[PS.putC,PS.ent];omega) (fun q=>absurd rfl q)
  ·refine JuC.sat ht1 hy hym (fun e=>by omega) fun w hw=>?_
   rw[hf]at hw;cases hw;show s.lv y<=s.lv f;rw[A.fl];exact hylv.2
  ·have:=hki i w hi h1 h2
   subst this;exact⟨hym,by show s.lv w<=s.lv f;rw[A.fl];exact hylv.2⟩
 ·subst e1 e2
  have hkl:=y2_ hz;have hp2:(swapL c' 1 k).Perm c:=(y16_ (by omega) hkl).trans hp;have hE2:CEq s (s.putC id (swapL c' 1 k) true false):=CEq.put hc hp2;have hzl:=hci.1 z (hp.mem_iff.1 (List.mem_of_getElem? hz));have hwz:wAt z<(s.putC id (swapL c' 1 k) true false).wat.length:=by
   show _<s.wat.length;rw[A.ti.len.wat];exact y56_ hzl
  have hE3:CEq s ((s.putC id (swapL c' 1 k) true false).watch z id):=hE2.trans ⟨rfl,(CEq.refl _).2⟩;have hlt:=y2_ hc;have g0:(swapL c' 1 k)[0]?=some y:=by rw[yy_ (by omega) hkl,if_neg (by omega),if_neg (by omega),hy]
  have g1:(swapL c' 1 k)[1]?=some z:=by rw[yy_ (by omega) hkl,if_neg (by omega),if_pos rfl,hz]
  have hyv:¬ ∃j,j<h/\s.trail[j]?=some (-y):=fun q=>by
   obtain⟨w1,w2⟩:=hJ0.two 0 y f (by omega) hy hf q;exact A.ti.notBoth w1 (List.mem_of_getElem? A.fh)
  have hzf:z≠f:=fun e=>v1 (by rw[e];exact hfv);refine A.upd hc hp2 (PEx.same hE3 rfl rfl rfl) (A.ti.same hE3 rfl rfl rfl rfl rfl (by simp[PS.watch,PS.putC])) rfl rfl rfl (fun x e he=>(y4q_ hwz).2 (.inl he)) ?_ (.inl rfl) (fun i x hi hx=>?_) ⟨fun e=>(by rw[e]at g0;cases g0),fun w e=>(by rw[e]at g1;cases g1),fun i x w hi hx hw hj=>?_⟩ (fun _ i w hi h1 h2=>?_) ?_ (fun q=>absurd rfl q)
  ·exact WaR.watch (fun w hw x hx=>(A.wr w hw x hx).ceq hE2) ⟨id,_,true,false,rfl,y1i_ hc,fun _=>by rw[y2o_];omega⟩
  ·match i,hi with
   |0,_=>
    rw[g0]at hx;cases hx;rcases hwold y (.inl rfl)with w|w
    ·exact .inl ((y4q_ hwz).2 (.inl w))
    ·exact absurd w.1 hyf
   |1,_=>
    rw[g1]at hx;cases hx;exact .inl ((y4q_ hwz).2 (.inr ⟨rfl,rfl⟩))
  ·match i,hi with
   |0,_=>rw[g0]at hx;cases hx;exact absurd hj hyv
   |1,_=>
    rw[g1]at hx;cases hx;obtain⟨j,hj1,hj2⟩:=hj;exact absurd (A.ti.neg.2 (List.mem_of_getElem? hj2)) v1
  ·match i,hi with
   |0,_=>rw[g0]at h1;exact absurd (Option.some.inj h1) hyf
   |1,_=>rw[g1]at h1;exact absurd (Option.some.inj h1) hzf
  ·rw[y9z_ hwz]
   show s.ent+1+stay.length<=_;omega
 ·subst e1 e2
  refine A.upd hc hp hEx1 ht1 rfl rfl rfl (fun _ _ h=>h) (hR1 _ hE1 rfl) (.inr rfl) (hwiY _ rfl _ (by simp)) (hJ0.ext hEx1 (Nat.le_of_lt (y2_ A.fh))) (fun q=>?_) (by simp[PS.putC,PS.ent];omega) (fun _=>⟨rfl,hfc,fun x hx=>?_⟩)
  ·simp at q
  ·show val s.vs x=2
   obtain⟨k,hk⟩:=y9_ hx
   match k,hk with
   |0,hk=>rw[hy]at hk;cases hk;exact v1
   |1,hk=>rw[hf]at hk;cases hk;exact hfv
   |k+2,hk=>exact hall (k+2) x (by omega) hk
 ·subst e1 e2
  have hyl':isL y n=true:=hyl;have hc1:=y1i_ hc (c':=c') (b':=true) (f':=false);have hEx2:=PEx.setL ht1 hyl' v1 (id:Int);have htt:TrI n ((s.putC id c' true false).setL y id):=ht1.set hc1 hyc hyl' v1 fun x hx hne=>by
   obtain⟨k,hk⟩:=y9_ hx
   match k,hk with
   |0,hk=>rw[hy]at hk;cases hk;exact absurd rfl hne
   |1,hk=>rw[hf]at hk;cases hk;exact hfv
   |k+2,hk=>exact hall (k+2) x (by omega) hk
  have hlvy:=(y72_ ht1 hyl' v1 (r:=(id:Int))).2;have hlvf:((s.putC id c' true false).setL y id).lv f=s.lv f:=by
   have:=(hEx1.trans hEx2).lv _ (List.mem_of_getElem? A.fh)
   rwa [PS.lv_neg,PS.lv_neg]at this
  have hym:y∈((s.putC id c' true false).setL y id).trail:=by simp[PS.setL]
  have hle:((s.putC id c' true false).setL y id).lv y<=((s.putC id c' true false).setL y id).lv f:=by
   rw[hlvy,hlvf,A.fl];exact Int.le_refl _
  refine A.upd hc hp (hEx1.trans hEx2) htt rfl rfl rfl (fun _ _ h=>h) (hR1 _ (hE1.trans hEx2.ceq) rfl) (.inr rfl) (hwiY _ rfl _ (by simp)) ?_ (fun _ i w hi h1 h2=>?_) (by simp[PS.putC,PS.setL,PS.ent];omega) (fun q=>absurd rfl q)
  ·refine JuC.sat htt hy hym (fun e=>by omega) fun w hw=>?_
   rw[hf]at hw;cases hw;exact hle
  ·have:=hki i w hi h1 h2
   subst this;exact⟨hym,hle⟩
end
end
section
open Go
section
variable{σ τ:Heap}{T T':Tg}{lp n id:Nat}{h:PH}{s s1:PS}{l f:Int}{c c':List Int}{b g:Bool}
theorem yi0_(p:PropH σ T lp h s)(hn:Tn σ T)(ht:TrI n s)(hn4:n<=4000)(hL:∀x∈c,isL x n=true)(hc:s.cls[id]?=some (c,b,g))(hl2:2<=c.length)(hcl:c.length<=1000000)(hb:s.ent+1<=8700000000000) :
  W (S.z90 (.ptr lp 0) (id:Int) σ) fun r=>(r.1=true/\∃k z,2<=k/\c[k]?=some z/\val s.vs z≠2/\∃T' h',Hop pI σ T r.2 T'/\PropH r.2 T' lp h' ((s.putC id (swapL c 1 k) b g).watch z id)) \/
   (r=(false,σ)/\∀(k:Nat) z,2<=k->c[k]?=some z->val s.vs z=2):=by
 obtain⟨y,hy,hO⟩:=p.cget hc;have hlt:=y2_ hc;have hclen:=p.clen;have p0:=p;have k1:=p.obj;have k8:=p.cls;unfold S.z90
 repeat' with_reducible first|refine W.asV ?_|refine W.fldp ?_|refine W.nck ?_|refine W.u0 ?_
 refine W.ixO k8.slT (i:=id) (by omega) ?_;refine W.fldO k8.slT (i:=id) (k:=0) (j:=0) (by omega) ?_;refine W.ldO k8.slT hy (u:=y) (fun us h=>by rw[show us=[y,.bool b,.bool g]from h];rfl) ?_
 repeat' with_reducible first|refine W.bind ?_|refine W.asV ?_
 have hS:=hO.slT;refine W.mono (P:=fun r=>(r.1=.inr true/\∃k z,2<=k/\c[k]?=some z/\val s.vs z≠2/\∃T' h',Hop pI σ T r.2 T'/\PropH r.2 T' lp h' ((s.putC id (swapL c 1 k) b g).watch z id)) \/
   (r=(.inl (),σ)/\∀(k:Nat) z,2<=k->c[k]?=some z->val s.vs z=2)) ?_ fun r hr=>?_
 ·refine W.loop (c.length-2) (fun i (x:Int) τ=>x=((2+i:Nat):Int)/\τ=σ/\∀(k:Nat) z,2<=k->k<2+i->c[k]?=some z->val s.vs z=2) ⟨rfl,rfl,fun k z h1 h2=>by omega⟩ fun i x τ hi hI=>?_
  obtain⟨rfl,rfl,hall⟩:=hI;have w:IntKind.i64.wrap (((2+i:Nat):Int)+1)=((2+(i+1):Nat):Int):=by rw[wrapS]<;>omega
  unfold S.z90.b0
  repeat' (with_reducible refine W.len (by assumption) ?_)
  (with_reducible refine W.cnd (fun hlt2=>?_) (fun hlt2=>?_)<;>(try simp only[qq,Kd.ty]at hlt2)<;>(try (exfalso;omega)))
  ·obtain⟨z,hz⟩:=y3_ (xs:=c) (i:=2+i) (by omega)
   obtain⟨a1,ha1⟩:=y3_ (xs:=c) (i:=1) (by omega);have hzl:=hL z (List.mem_of_getElem? hz);have hz0:=yb_ hzl
   repeat' with_reducible first|refine W.bind ?_|refine W.asV ?_|refine W.fldp ?_|refine W.e2 ?_|refine W.nck ?_|refine W.u0 ?_
   refine W.to (p0.val ht hn4 hzl) ?_
   repeat' with_reducible refine W.ret ?_
   by_cases hv:val s.vs z=2
   ·refine W.condF (by simp[hv]) ?_
    repeat' (with_reducible refine W.next ?_)
    refine⟨by omega,w,rfl,fun k x h1 h2 h3=>?_⟩;by_cases e:k=2+i
    ·subst e;rw[hz]at h3;cases h3;exact hv
    ·exact hall k x h1 (by omega) h3
   ·refine W.condT (by simp[hv]) ?_
    repeat' (with_reducible refine W.e2 ?_)
    refine W.ixIc (i:=1) hS ha1 ?_;refine ybx_ (i:=1) (j:=2+i) p0 hn hc hy (by omega) (by omega) hz ha1 fun τ1 H1 p1=>?_;have k1:=p1.obj;have hc1:=y1i_ hc (c':=swapL c 1 (2+i)) (b':=b) (f':=g);have g1:(swapL c 1 (2+i))[1]?=some z:=by rw[yy_ (by omega) (by omega),if_neg (by omega),if_pos rfl,hz]
    obtain⟨y1,hy1,hO1⟩:=p1.cget hc1;have:y1=y:=by rw[hy]at hy1;injection hy1 with hy1;exact(congrArg (·.1) hy1).symm
    subst this
    repeat' with_reducible first|refine W.asV ?_|refine W.fldp ?_|refine W.nck ?_|refine W.u0 ?_
    refine W.ixIc (i:=1) hO1.slT g1 ?_;refine W.bind ?_;refine W.to (at_eq (by omega)) ?_
    repeat' with_reducible first|refine W.ret ?_|refine W.asV ?_|refine W.fldp ?_|refine W.nck ?_|refine W.u0 ?_
    refine W.ixIc (i:=1) hO1.slT g1 ?_;refine W.bind ?_;refine W.to (at_eq (by omega)) ?_
    repeat' with_reducible refine W.ret ?_
    refine yaw_ p1 H1.tn (by show _<s.wat.length;rw[ht.len.wat];exact y56_ hzl) (by exact hb) fun τ2 T2 h2 H2 p2 _=>?_
    repeat' (with_reducible refine W.stop ?_)
    exact .inl ⟨rfl,2+i,z,by omega,hz,hv,T2,h2,H1.trans (H2.sub fun j hj=>by simp[pI]at hj⊢;omega),p2⟩
  ·repeat' (with_reducible refine W.stop ?_)
   exact .inr ⟨rfl,fun k z h1 h2=>hall k z h1 (by have:=y2_ h2;omega) h2⟩
 ·obtain⟨r,τ1⟩:=r
  rcases hr with ⟨e,hr⟩|⟨e,hr⟩
  ·dsimp only at e hr⊢
   subst e
   repeat' with_reducible refine W.ret ?_
   exact .inl ⟨rfl,hr⟩
  ·cases e
   repeat' with_reducible refine W.ret ?_
   exact .inr ⟨rfl,hr⟩
theorem yi5_(p:PropH σ T lp h s)(hn:Tn σ T)(ht:TrI n s)(hci:ClI n s)(hfl:∀(j:Nat) d g,s.cls[j]?=some (d,true,g)->g=false)(hn4:n<=4000)(hw:WaE s id)(hfL:isL f n=true)(hfv:val s.vs f=2)(hfm:s.lv f=s.marks.length)(hcc:s.cls.length<=1000000000000)(hb:s.ent+4<=8700000000000) :
  W (S.z93 (.ptr lp 0) (id:Int) f σ) fun r=>∃T' h' s',Hop pI σ T r.2 T'/\PropH r.2 T' lp h' s'/\VisR s id f r.1 s':=by
 obtain⟨id',c,b,g,e,hc,hbl⟩:=hw;have:id=id':=Int.ofNat.inj e;subst this;obtain⟨y,hy,hO⟩:=p.cget hc;have hlt:=y2_ hc;have hclen:=p.clen;have p0:=p;have k1:=p.obj;have k8:=p.cls;unfold S.z93
 repeat' with_reducible first|refine W.asV ?_|refine W.fldp ?_|refine W.nck ?_|refine W.u0 ?_
 refine W.ixO k8.slT (i:=id) (by omega) ?_;refine W.fldO k8.slT (i:=id) (k:=0) (j:=0) (by omega) ?_;refine W.ldO k8.slT hy (u:=y) (fun us h=>by rw[show us=[y,.bool b,.bool g]from h];rfl) ?_
 repeat' with_reducible first|refine W.bind ?_|refine W.asV ?_|refine W.fldp ?_|refine W.nck ?_|refine W.u0 ?_
 refine W.ixO k8.slT (i:=id) (by omega) ?_;refine W.fldO k8.slT (i:=id) (k:=0) (j:=1) (by omega) ?_;refine W.ldO k8.slT hy (u:=.bool b) (fun us h=>by rw[show us=[y,.bool b,.bool g]from h];rfl) ?_
 repeat' (with_reducible refine W.asB ?_)
 cases b with
 |false=>
  refine W.condT rfl ?_
  repeat' with_reducible refine W.ret ?_
  refine W.condT rfl ?_
  repeat' with_reducible refine W.ret ?_
  exact⟨T,h,s,Hop.refl hn,p0,.inl ⟨rfl,rfl,fun d fl hd=>by rw[hc]at hd;cases hd⟩⟩
 | true=>
  have hg:=hfl id c g hc;subst hg;have hl2:=hbl rfl;have hS:=hO.slT;have hcL:=(hci id c false hc).1;have hcn:=hci.len hc;obtain⟨a0,ha0⟩:=y3_ (xs:=c) (i:=0) (by omega);obtain⟨a1,ha1⟩:=y3_ (xs:=c) (i:=1) (by omega);refine W.condF rfl ?_;refine W.ixIc (i:=0) hS ha0 ?_;refine W.mono (P:=fun r=>r=decide (a0≠f/\a1≠f)) ?_ fun r hr=>?_
  ·by_cases e0:a0=f
   ·refine W.condF (by simp[e0]) ?_
    refine W.ret ?_;simp[e0]
   ·refine W.condT (by simp[e0]) ?_
    refine W.ixIc (i:=1) hS ha1 ?_;refine W.ret ?_;by_cases e1:a1=f<;>simp[e0,e1]
  subst hr;by_cases hq:a0≠f/\a1≠f
  ·refine W.condT (decide_eq_true hq) ?_
   repeat' with_reducible refine W.ret ?_
   refine⟨T,h,s,Hop.refl hn,p0,.inl ⟨rfl,rfl,fun d fl hd i hi hx=>?_⟩⟩;rw[hc]at hd;cases hd
   match i,hi with
   |0,_=>rw[ha0]at hx;exact hq.1 (Option.some.inj hx)
   |1,_=>rw[ha1]at hx;exact hq.2 (Option.some.inj hx)
  ·refine W.condF (decide_eq_false hq) ?_
   refine W.ixIc (i:=0) hS ha0 ?_;refine W.bind ?_;refine W.mono (P:=fun r=>∃c' z,(c'=c\/c'=swapL c 0 1)/\c'[0]?=some z/\c'[1]?=some f/\Hop pI σ T r.2 T/\PropH r.2 T lp h (s.putC id c' true false)) ?_ fun r hr=>?_
   ·by_cases e0:a0=f
    ·refine W.condT (by simp[e0]) ?_
     refine W.ixIc (i:=1) hS ha1 ?_;refine W.ixIc (i:=0) hS ha0 ?_;refine ybx_ (i:=0) (j:=1) p0 hn hc hy (by omega) (by omega) ha1 ha0 fun τ1 H1 p1=>?_
     repeat' with_reducible refine W.ret ?_
     refine⟨_,a1,.inr rfl,?_,?_,H1,p1⟩
     ·rw[yy_ (by omega) (by omega),if_neg (by omega),if_pos rfl,ha1]
     ·rw[yy_ (by omega) (by omega),if_pos rfl,ha0,e0]
    ·refine W.condF (by simp[e0]) ?_
     repeat' with_reducible refine W.ret ?_
     have e1:a1=f:=Decidable.byContradiction fun e1=>hq ⟨e0,e1⟩;exact⟨c,a0,.inl rfl,ha0,by rw[ha1,e1],Hop.refl hn,by rw[y6u_ hc];exact p0⟩
   ·obtain⟨r,τ1⟩:=r
    obtain⟨c',z,hcc',hz,hf1,H1,p1⟩:=hr;dsimp only at H1 p1⊢;have hp:c'.Perm c:=by
     rcases hcc' with e|e
     ·rw[e]
     ·rw[e];exact y16_ (by omega) (by omega)
    have hlen:=hp.length_eq;have hc1:=y1i_ hc (c':=c') (b':=true) (f':=false);have hE1:CEq s (s.putC id c' true false):=CEq.put hc hp;have ht1:TrI n (s.putC id c' true false):=ht.same hE1 rfl rfl rfl rfl rfl rfl;obtain⟨y1,hy1,hO1⟩:=p1.cget hc1;have:y1=y:=by rw[hy]at hy1;injection hy1 with hy1;exact(congrArg (·.1) hy1).symm
    subst this
    clear hO hS k1 k8
    have hL':∀x∈c',isL x n=true:=fun x hx=>hcL x (hp.mem_iff.1 hx);have hzl:=hL' z (List.mem_of_getElem? hz);have k1:=p1.obj
    repeat' with_reducible first|refine W.asV ?_|refine W.fldp ?_|refine W.nck ?_|refine W.u0 ?_
    refine W.ixIc (i:=0) hO1.slT hz ?_;refine W.bind ?_;refine W.to (p1.val ht1 hn4 hzl) ?_;refine W.ret ?_;show W _ _;have hvz:val (s.putC id c' true false).vs z=val s.vs z:=rfl;rw[hvz];have fin:∀(s':PS) (τ':Heap) (T':Tg) (h':PH),PropH τ' T' lp h' s'->Hop pI τ1 T τ' T'->h'.cs[id]?=some (y1,true,false)->TrI n s'->s'.cls[id]?=some (c',true,false)->z∈s'.trail->s'.marks=s.marks->s'.lv f=s.lv f ->
      VisR s id f (true,false) s'->W (nilck (.ptr lp 0) (fld (.ptr lp 0) 1 fun a44=>ld τ' a44 (.V) fun v45=>ixA τ' y1 1 0 fun a46=>ld τ' a46 (.I .i64) fun n47=>(S.z55 n47 τ').bind fun r48=>ixA τ' v45 1 r48 fun a49=>ld τ' a49 (.I .i64) fun n50=>nilck (.ptr lp 0) (fld (.ptr lp 0) 1 fun a51=>ld τ' a51 (.V) fun v52=>(S.z55 f τ').bind fun r53=>ixA τ' v52 1 r53 fun a54=>ld τ' a54 (.I .i64) fun n55=>
       (cond (decide (n50>n55)) ((S.z89 (.ptr lp 0) (id:Int) τ').bind fun r56=>some ((),r56.2)) (some ((),τ'))).bind fun r57=>some ((true,false),r57.2)))) fun r=>∃T' h' s',Hop pI σ T r.2 T'/\PropH r.2 T' lp h' s'/\VisR s id f r.1 s':=by
     intro s' τ' T' h' p' H' hy' ht' hc' hzm hm hlf hV;have k1:=p'.obj;have k4:=p'.lev;have hg1:=ht'.lget hzl;have hg2:=ht'.lget hfL;have hl1:=ht'.lv z hzm;obtain⟨y3,hy3,hO3⟩:=p'.cget hc';have:y3=y1:=by rw[hy']at hy3;injection hy3 with hy3;exact(congrArg (·.1) hy3).symm
     subst this
     repeat' with_reducible first|refine W.asV ?_|refine W.fldp ?_|refine W.nck ?_|refine W.u0 ?_
     refine W.ixIc (i:=0) hO3.slT hz ?_;refine W.bind ?_;refine W.to (yk_ hzl hn4) ?_
     repeat' with_reducible first|refine W.ret ?_|refine W.bind ?_|refine W.asV ?_|refine W.fldp ?_|refine W.nck ?_|refine W.u0 ?_|refine W.u2 ?_
     refine W.to (yk_ hfL hn4) ?_
     repeat' with_reducible first|refine W.ret ?_|refine W.bind ?_|refine W.u2 ?_
     have hle:s'.lv z<=s'.lv f:=by rw[hlf,hfm,<-hm];exact hl1.2
     refine W.condF (decide_eq_false (Int.not_lt.2 hle)) ?_
     repeat' with_reducible refine W.ret ?_
     exact⟨T',h',s',H1.trans H',p',hV⟩
    by_cases hv1:val s.vs z=1
    ·refine W.bind ?_
     refine W.condF (by simp[hv1]) ?_;refine W.ret ?_;exact fin _ τ1 T h p1 (Hop.refl H1.tn) hy ht1 hc1 ((ht.tr z).1 hv1) rfl rfl (.inr ⟨c,c',z,hc,hcc',hz,hf1,.inl ⟨hv1,rfl,rfl⟩⟩)
    ·refine W.bind ?_
     refine W.condT (by simp[hv1]) ?_;refine W.bind ?_;refine W.mono (yi0_ p1 H1.tn ht1 hn4 hL' hc1 (by omega) (by omega) (by show s.ent+1<=_;omega)) fun r hr=>?_;obtain⟨r,τ2⟩:=r;rcases hr with ⟨e,k,x,hk,hx,hvx,T2,h2,H2,p2⟩|⟨e,hall⟩
     ·dsimp only at e H2 p2⊢
      subst e;refine W.condT rfl ?_
      repeat' with_reducible refine W.ret ?_
      rw[y85_]at p2;exact⟨T2,h2,_,H1.trans H2,p2,.inr ⟨c,c',z,hc,hcc',hz,hf1,.inr (.inl ⟨k,x,hk,hx,hvx,rfl,rfl⟩)⟩⟩
     ·cases e
      refine W.condF rfl ?_
      repeat' with_reducible first|refine W.asV ?_|refine W.fldp ?_|refine W.nck ?_|refine W.u0 ?_
      refine W.ixIc (i:=0) hO1.slT hz ?_;refine W.bind ?_;refine W.to (p1.val ht1 hn4 hzl) ?_;refine W.ret ?_;show W _ _;rw[hvz];by_cases hv2:val s.vs z=2
      ·refine W.condT (by simp[hv2]) ?_
       repeat' with_reducible refine W.ret ?_
       exact⟨T,h,_,H1,p1,.inr ⟨c,c',z,hc,hcc',hz,hf1,.inr (.inr (.inl ⟨hall,hv2,rfl,rfl⟩))⟩⟩
      ·have hv0:val s.vs z=0:=by have:=y4c_ ht.ok z;omega
       refine W.condF (by simp[hv2]) ?_;refine W.ixIc (i:=0) hO1.slT hz ?_;refine W.bind ?_;refine W.mono (yad_ p1 H1.tn ht1 hn4 hzl hv2 (mk:=s.marks) rfl (by have:=ht.lenM;have:=ht.lenT;omega)) fun r hr=>?_;obtain⟨r,τ3⟩:=r;obtain⟨T3,h3,H3,p3,e3⟩:=hr;refine W.ret ?_;have htt:TrI n ((s.putC id c' true false).setL z id):=ht1.set hc1 (List.mem_of_getElem? hz) hzl hv0 fun x hx hne=>by
        obtain⟨k,hk⟩:=y9_ hx
        match k,hk with
        |0,hk=>rw[hz]at hk;cases hk;exact absurd rfl hne
        |1,hk=>rw[hf1]at hk;cases hk;exact hfv
        |k+2,hk=>exact hall (k+2) x (by omega) hk
       refine fin _ τ3 T3 h3 p3 H3 (by rw[e3];exact hy) htt hc1 (by simp[PS.setL]) rfl ?_ (.inr ⟨c,c',z,hc,hcc',hz,hf1,.inr (.inr (.inr ⟨hall,hv0,rfl,rfl⟩))⟩);have:=(y72_ ht1 hzl hv0 (r:=(id:Int))).1 (-f) (ht.neg.1 hfv);rw[PS.lv_neg,PS.lv_neg]at this;exact this
end
end
section
open Go
def pJ:Nat->Bool:=fun j=>pI j||j==15
theorem Hop.inJ{σ0 σ τ:Heap}{T0 T T':Tg}(h:Hop pJ σ0 T0 σ T)(H:Hop pI σ T τ T'):Hop pJ σ0 T0 τ T':=h.trans (H.sub fun i hi=>by simp[pJ,hi])
theorem Hop.in15{σ0 σ τ:Heap}{T0 T T':Tg}(h:Hop pJ σ0 T0 σ T)(H:Hop (only 15) σ T τ T'):Hop pJ σ0 T0 τ T':=h.trans (H.sub fun i hi=>by simp at hi;subst hi;rfl)
section
variable{σ τ:Heap}{T T':Tg}{lp n id:Nat}{h:PH}{s s1 s':PS}{l f x:Int}{c c':List Int}{b g:Bool}
theorem PropH.hop15(p:PropH σ T lp h s)(H:Hop (only 15) σ T τ T'):PropH τ T' lp h s:=p.hop H fun j hj=>by
 simp only[only,beq_eq_false_iff_ne];intro e;subst e;cases hj
theorem PropH.setW{k:Nat}{w:List Int}{x2:AVal}(p:PropH σ T lp h s)(hO:Own .int (σ.at T (51+2*k)) w x2)(hk:k<s.wat.length)(H:Hop (only 9) σ T τ T)(hW:Own vRaw (τ.at T 9) (h.ws.set k x2) h.xw):PropH τ T lp { h with ws:=h.ws.set k x2 } { s with wat:=s.wat.set k w }:=by
 obtain⟨k1,k2,k3,k4,k5,k6,k7,k8,k9,k10,k11,k12,k13⟩:=p;have hn:=H.tn;replace hO:=hO.hop H (by simp;omega);replace k1:=k1.hop H;replace k2:=k2.hop H;replace k3:=k3.hop H;replace k4:=k4.hop H;replace k5:=k5.hop H;replace k6:=k6.hop H;replace k7:=k7.hop H;replace k8:=k8.hop H;replace k10:=k10.hop H;replace k11:=k11.hop H;replace k13:=k13.hop H;replace hn:=H.tn;refine⟨k1,k2,k3,k4,k5,k6,k7,k8,hW,k10,k11,k12,by simp[k13.1],fun i a y h1 h2=>?_⟩;by_cases e:k=i
 ·subst e
  rw[List.getElem?_set,if_pos rfl,if_pos hk]at h1;rw[List.getElem?_set,if_pos rfl,if_pos (by rw[k13.1];exact hk)]at h2;cases h1;cases h2;exact hO
 ·rw[List.getElem?_set_ne e]at h1 h2
  exact k13.2 i a y h1 h2
theorem yik_{hd:Nat}(p:PropH σ T lp h s)(hn:Tn σ T)(hP:PrI n s)(hn4:n<=4000)(hh:s.head=(hd:Int))(hf:s.trail[hd]?=some (-f))(hcc:s.cls.length<=1000000000000)(hb:s.ent+10<=8700000000000) :
  W (S.z86 (.ptr lp 0) f σ) fun r=>∃T' h' s',Hop pJ σ T r.2 T'/\PropH r.2 T' lp h' s'/\-1<=r.1/\s'.head=hd/\(r.1 = -1->PrI n { s' with head:=(hd:Int)+1 }) /\
   (r.1≠-1->PrI n s'/\∃(id:Nat) (c:List Int) (fl:Bool),r.1=id/\s'.cls[id]?=some (c,true,fl)/\(∀x∈c,val s'.vs x=2)/\∃x∈c,s'.lv x=s'.marks.length)/\PEx s s'/\s'.ent<=s.ent:=by
 have hfl:isL f n=true:=by
  have:=y6z_ (hP.ti.rng _ (List.mem_of_getElem? hf))
  rwa [Int.neg_neg]at this
 have hf0:=yb_ hfl;have hwb:wAt f<s.wat.length:=by rw[hP.ti.len.wat];exact y56_ hfl
 obtain⟨xs,z,hx,hz,hO⟩:=p.wf.get (k:=wAt f) hwb;have hmx:=y6l_ (List.mem_of_getElem? hx);have hgd:s.wat.getD (wAt f) []=xs:=by rw[List.getD_eq_getElem?_getD,hx];rfl
 have hlw:=p.wf.1;have k1:=p.obj;have k9:=p.wat;unfold S.z86
 repeat' with_reducible first|refine W.bind ?_|refine W.asV ?_|refine W.fldp ?_|refine W.nck ?_|refine W.u0 ?_
 refine W.to (at_eq (by omega)) ?_
 repeat' with_reducible refine W.ret ?_
 refine W.ixV k9.slT hz ?_
 repeat' with_reducible first|refine W.bind ?_|refine W.asV ?_|refine W.fldp ?_|refine W.nck ?_|refine W.u0 ?_
 refine W.to (at_eq (by omega)) ?_
 repeat' with_reducible refine W.ret ?_
 refine W.ixO k9.slT (i:=wAt f) (by omega) ?_;refine W.own_setV k9 hn (a:=.nils) (by omega) fun τ1 k9 H1 _=>?_;have p1:=p.setW (w:=[]) (x2:=.nils) .nil hwb H1 k9;replace hO:=hO.hop H1 (by simp;omega);obtain⟨T1,HR,kS⟩:=hO.retag (u:=0) Vw.int_flat H1.tn;have HH:Hop pI σ T τ1 T1:=((Hop.refl hn).inP H1).inP HR (by simp[pI];omega);have p2:PropH τ1 T1 lp { h with ws:=h.ws.set (wAt f) .nils } { s with wat:=s.wat.set (wAt f) [] }:=by
  have h1:=p1.hopW HR (k:=wAt f) (w:=[]) (x2:=.nils) .nil (by simpa using hwb);have h2:=h1.2.2 τ1 (Hop.refl HR.tn) (by simpa using h1.2.1);simpa using h2
 have kS:=kS.sl
 repeat' with_reducible first|refine W.bind ?_|refine W.len (by assumption) ?_
 have hA:=FaI.start hP hh hf hwb;rw[hgd]at hA;refine W.mono (P:=fun r=>∃T' h' s' stay,Hop pJ σ T r.2 T'/\Own .int (r.2.at T' 15) stay r.1.1/\PropH r.2 T' lp h' s'/\FaI n s s' hd f stay [] r.1.2/\-1<=r.1.2) ?_ fun r hr=>?_
 ·refine W.loop xs.length (fun i (x:AVal×Int×Int) τ=>x.2.2=(i:Int)/\∃T' h' s' stay,Hop pJ σ T τ T'/\SlV .int (τ.at T' 0) xs z/\Own .int (τ.at T' 15) stay x.1/\PropH τ T' lp h' s'/\FaI n s s' hd f stay (xs.drop i) x.2.1/\-1<=x.2.1)
   ⟨rfl,T1,_,_,[],(Hop.refl hn).inJ HH,kS,.nil,p2,by rw[List.drop_zero];exact⟨hA.ti,hA.ci,hA.li,hA.lo,hA.wi,hA.wr,hA.sr,hA.hd,hA.fh,hA.fl,hA.ji,hA.ki,hA.o2,hA.ex,by
    have:=hA.en;have h2:=y6y_ (w:=[]) hwb;rw[hgd]at h2;simp only[PS.ent]at this h2⊢;simp at this h2⊢;omega⟩,by simp⟩ fun i x τ hi hI=>?_
  obtain⟨stv,out,zi⟩:=x;obtain⟨hz0,T2,h2,s2,stay,H2,kS,kY,p2,A,ho⟩:=hI;dsimp only at hz0 kY A ho⊢;subst hz0;have hn2:=H2.tn;have w:IntKind.i64.wrap ((i:Int)+1)=((i+1:Nat):Int):=by rw[wrapS]<;>omega
  unfold S.z86.b0
  (with_reducible refine W.cnd (fun hlt=>?_) (fun hlt=>?_)<;>(try simp only[qq,Kd.ty]at hlt)<;>(try (exfalso;omega)))
  ·obtain⟨a,ha⟩:=y3_ (xs:=xs) (i:=i) (by omega)
   have hdr:xs.drop i=a::xs.drop (i+1):=by
    rw[List.drop_eq_getElem_cons (by omega)];rw[(List.getElem?_eq_some_iff.1 ha).2]
   rw[hdr]at A;have hW:=A.sr a (by simp);obtain⟨id,c,b,g,e,hc,hbl⟩:=id hW;subst e;have hen:=A.en;simp at hen
   repeat' with_reducible first|refine W.bind ?_|refine W.ixIc (SlV.up (by assumption)) (by assumption) ?_
   (with_reducible refine W.cnd (fun hout=>?_) (fun hout=>?_)<;>(try simp only[qq,Kd.ty]at hout)<;>(try (exfalso;omega)))
   ·have ho1:out≠-1:=by omega
    skip
    refine W.own_push (bytes:=8) Vw.int_flat kY hn2 (a:=(id:Int)) rfl (by omega) (by omega) fun x2 τ3 T3 kY H3=>?_
    repeat' with_reducible first|refine W.next ?_|refine W.ret ?_
    exact⟨by omega,w,T3,h2,s2,stay++[(id:Int)],H2.in15 H3,kS.hop H3,kY,p2.hop15 H3,A.rest ho1,ho⟩
   ·have ho1:out = -1:=by omega
    subst ho1
    repeat' (with_reducible refine W.bind ?_)
    refine W.mono (yi5_ p2 hn2 A.ti A.ci (fun j d g hd=>A.li.flag A.lo hd) hn4 hW hfl A.fv A.fl (by rw[A.ex.ceq.1];exact hcc) (by omega)) fun r hr=>?_;obtain⟨⟨here,bad⟩,τ3⟩:=r;obtain⟨T3,h3,s3,H3,p3,hV⟩:=hr;dsimp only at H3 p3 hV⊢;have A3:=A.visit hV;have kS3:=kS.hop H3;have kY3:=kY.hop H3;refine W.bind ?_;refine W.mono (P:=fun r=>∃T',Hop (only 15) τ3 T3 r.2 T'/\Own .int (r.2.at T' 15) (if here then stay++[(id:Int)]else stay) r.1) ?_ fun r hr=>?_
    ·cases here with
     |true=>
      refine W.condT rfl ?_;refine W.own_push (bytes:=8) Vw.int_flat kY3 H3.tn (a:=(id:Int)) rfl (by omega) (by omega) fun x2 τ4 T4 kY H4=>?_
      repeat' with_reducible refine W.ret ?_
      exact⟨T4,H4,kY⟩
     |false=>
      refine W.condF rfl ?_
      repeat' with_reducible refine W.ret ?_
      exact⟨T3,Hop.refl H3.tn,kY3⟩
    ·obtain⟨v,τ4⟩:=r
     obtain⟨T4,H4,kY⟩:=hr;dsimp only at H4 kY⊢;cases bad with
     |true=>
      refine W.condT rfl ?_
      repeat' with_reducible first|refine W.next ?_|refine W.ret ?_
      exact⟨by omega,w,T4,h3,s3,_,(H2.inJ H3).in15 H4,kS3.hop H4,kY,p3.hop15 H4,A3,by show(-1:Int)<=(id:Int);omega⟩
     |false=>
      refine W.condF rfl ?_
      repeat' with_reducible first|refine W.next ?_|refine W.ret ?_
      exact⟨by omega,w,T4,h3,s3,_,(H2.inJ H3).in15 H4,kS3.hop H4,kY,p3.hop15 H4,A3,ho⟩
  ·repeat' (with_reducible refine W.stop ?_)
   have:i=xs.length:=by omega
   subst this;rw[List.drop_length]at A;exact⟨T2,h2,s2,stay,H2,kY,p2,A,ho⟩
 ·obtain⟨⟨stv,out⟩,τ2⟩:=r
  obtain⟨T2,h2,s2,stay,H2,kY,p2,A,ho⟩:=hr;dsimp only at H2 kY p2 A ho⊢;have hwb2:wAt f<s2.wat.length:=by rw[A.ti.len.wat];exact y56_ hfl
  obtain⟨ys,z2,hy,hz2,hO2⟩:=p2.wf.get (k:=wAt f) hwb2;have hgd2:s2.wat.getD (wAt f) []=ys:=by rw[List.getD_eq_getElem?_getD,hy];rfl
  have hmy:=y6l_ (List.mem_of_getElem? hy);have hlw2:=p2.wf.1;have hen:=A.en;simp at hen
  clear k1 k9
  have k1:=p2.obj;have k9:=p2.wat
  repeat' with_reducible first|refine W.bind ?_|refine W.asV ?_|refine W.fldp ?_|refine W.nck ?_|refine W.u0 ?_
  refine W.to (at_eq (by omega)) ?_
  repeat' with_reducible first|refine W.ret ?_|refine W.bind ?_|refine W.asV ?_|refine W.fldp ?_|refine W.nck ?_|refine W.u0 ?_
  refine W.to (at_eq (by omega)) ?_
  repeat' with_reducible refine W.ret ?_
  refine W.ixV k9.slT hz2 ?_
  skip
  refine W.own_app (bytes:=8) Vw.int_flat kY H2.tn hO2.slT (by omega) (by omega) fun x2 τ3 T3 kY H3=>?_;have p3:=p2.hop15 H3;obtain⟨T4,H4,kO⟩:=kY.retag (u:=51+2*wAt f) Vw.int_flat H3.tn;have p4:=p3.hop15 H4;have k1:=p4.obj;have k9:=p4.wat
  repeat' with_reducible first|refine W.asV ?_|refine W.chk rfl ?_|refine W.u0 ?_
  refine W.ixO k9.slT (i:=wAt f) (by omega) ?_
  repeat' (with_reducible refine W.u4 ?_)
  refine W.own_setV k9 H4.tn (a:=x2) (by omega) fun τ5 k9 H5 _=>?_;have p5:=p4.setW kO hwb2 H5 k9
  repeat' with_reducible refine W.ret ?_
  obtain⟨g1,g2,g3,g4⟩:=A.fin hP hh hwb2 (s':={ s2 with wat:=s2.wat.set (wAt f) (stay++ys) }) (by rw[hgd2]);exact⟨T4,_,_,(((H2.in15 H3).in15 H4).inJ ((Hop.refl H4.tn).inP H5)),p5,ho,by show s2.head=_;rw[A.hd];exact hh,g1,g2,g3,g4⟩
end
end
section
open Go
structure PRes(n:Nat)(s s':PS)(out:Int):Prop where
 ex:PEx s s'
 en:s'.ent+2*s'.loose.length<=s.ent+2*s.loose.length+2
 si:StI n s'
 lo:s'.marks≠[]->s'.loose=[]
 fine:out = -1->s'.loose=[]/\s'.head=s'.trail.length
 bad:out≠-1->∃(id:Nat) (c:List Int) (fl:Bool),out=id/\s'.cls[id]?=some (c,true,fl)/\(∀x∈c,val s'.vs x=2)/\(s'.marks≠[]->∃x∈c,s'.lv x=s'.marks.length)
section
variable{σ τ:Heap}{T T':Tg}{lp n id:Nat}{h:PH}{s s1 s':PS}{l f x out:Int}{c c':List Int}{b g:Bool}
theorem PrI.look(P:PrI n s)(hh:s.head=s.trail.length)(hc:s.cls[id]?=some (c,true,g)):c≠[]/\(∀x,c=[x]->x∈s.trail)/\∀(i:Nat) x y,i<2->c[i]?=some x->c[1-i]?=some y->val s.vs x=2->y∈s.trail:=by
 obtain⟨k,e1,e2,e3,e4⟩:=P.hd;have e5:k=s.trail.length:=by omega
 subst e5;have hg:=P.li.flag P.lo hc;subst hg;have J:=e4 id c hc;refine⟨J.ne,fun x hx=>(J.one x hx).1,fun i x y hi hx hy hv=>?_⟩;obtain⟨j,hj⟩:=y9_ (P.ti.neg.1 hv);exact(J.two i x y hi hx hy ⟨j,y2_ hj,hj⟩).1
theorem PrI.unit(P:PrI n s)(hh:s.head=s.trail.length)(hc:s.cls[id]?=some (c,true,g))(hl:l∈c)(hf:∀x∈c,x≠l->val s.vs x=2):l∈s.trail:=by
 obtain⟨h1,h2,h3⟩:=P.look hh hc;obtain⟨i,hi⟩:=y9_ hl;have hnd:=(P.ci id c g hc).2
 match c,h1 with
 |[a],_=>
  have:l=a:=by simpa using hl
  subst this;exact h2 _ rfl
 | a::d::t,_=>
  by_cases ea:a=l
  ·subst ea
   have hne:d≠a:=fun e=>by subst e;simp at hnd
   exact h3 1 d a (by omega) rfl rfl (hf d (by simp) hne)
  ·have hva:=hf a (by simp) ea
   have hd:=h3 0 a d (by omega) rfl rfl hva;by_cases ed:d=l
   ·rw[<-ed];exact hd
   ·have:=hf d (by simp) ed
    rw[<-P.ti.tr]at hd;omega
theorem PrI.full(P:PrI n s)(hh:s.head=s.trail.length)(hall:∀x,isL x n=true->val s.vs x≠0)(hc:s.cls[id]?=some (c,true,g)):∃x∈c,x∈s.trail:=by
 obtain⟨h1,h2,h3⟩:=P.look hh hc;have hcL:=(P.ci id c g hc).1
 match c,h1 with
 |[a],_=>exact⟨a,by simp,h2 a rfl⟩
 | a::d::t,_=>
  by_cases ha:val s.vs a=1
  ·exact⟨a,by simp,(P.ti.tr a).1 ha⟩
  ·have:=y4c_ P.ti.ok a
   have:=hall a (hcL a (by simp));exact⟨d,by simp,h3 0 a d (by omega) rfl rfl (by omega)⟩
theorem ych_(p:PropH σ T lp h s)(hn:Tn σ T)(hS:StI n s)(hn4:n<=4000)(hb:s.ent+2*s.loose.length+20<=8700000000000)(hcc:s.cls.length<=1000000000000)(hR:Rd s s.loose (-1)) :
  W (S.z78 (.ptr lp 0) σ) fun r=>∃T' h' s',Hop pJ σ T r.2 T'/\PropH r.2 T' lp h' s'/\-1<=r.1/\PRes n s s' r.1:=by
 unfold S.z78;refine W.bind ?_;refine W.mono (yia_ p hn hS hn4 (by omega) hcc hR) fun r hr=>?_;obtain⟨out,τ1⟩:=r;obtain⟨T1,h1,s1,H1,p1,A,ho⟩:=hr;dsimp only at H1 p1 A ho⊢;obtain⟨hd,d1,d2,d3,d4⟩:=hS.hd;have hJ:=A.ji hd d1;have hS1:StI n s1:=⟨A.ti,A.ci,A.li,A.wi,A.wr,hd,by rw[A.hd];exact d1,Nat.le_trans hJ.1 A.ex.lenT,fun m hm=>d3 m (by rw[<-A.ex.mks];exact hm),hJ.2⟩;have hen:=A.en;simp only[List.length_nil,Nat.zero_add]at hen
 (with_reducible refine W.cnd (fun hout=>?_) (fun hout=>?_)<;>(try simp only[qq,Kd.ty]at hout)<;>(try (exfalso;omega)))
 ·have ho1:out≠-1:=by omega
  obtain⟨q1,j,d,g,q2,q3,q4⟩:=A.o2 ho1;rw[if_neg ho1]at hen
  repeat' with_reducible refine W.ret ?_
  exact⟨T1,h1,s1,(Hop.refl hn).inJ H1,p1,ho,⟨A.ex,by omega,hS1,fun w=>absurd q1 w,fun w=>absurd w ho1,fun _=>⟨j,d,g,q2,q3,q4,fun w=>absurd q1 w⟩⟩⟩
 ·have ho1:out = -1:=by omega
  subst ho1;have hlo:=A.o1 rfl;rw[if_pos rfl]at hen;have hP1:=hS1.pp hlo;refine W.bind ?_;refine W.mono (P:=fun r=>∃T' h' s' o,Hop pJ σ T r.2 T'/\PropH r.2 T' lp h' s'/\((r.1=.inl ()/\o = -1)\/r.1=.inr o)/\-1<=o/\PRes n s s' o) ?_ fun r hr=>?_
  ·refine W.loopI (m:=n-hd) (fun m (_:Unit) τ=>∃(T':Tg) (h':PH) (s':PS) (hd':Nat),Hop pJ σ T τ T'/\PropH τ T' lp h' s'/\PrI n s'/\s'.head=(hd':Int)/\hd'<=s'.trail.length/\m=n-hd'/\PEx s s'/\s'.ent<=s1.ent) ⟨T1,h1,s1,hd,(Hop.refl hn).inJ H1,p1,hP1,by rw[A.hd];exact d1,Nat.le_trans hJ.1 A.ex.lenT,rfl,A.ex,Nat.le_refl _⟩ fun m _ τ hI=>?_
   obtain⟨T2,h2,s2,hd2,H2,p2,P2,e1,e2,e3,E2,en2⟩:=hI;have k1:=p2.obj;have k6:=p2.trail;have hlT:=P2.ti.lenT;unfold S.z78.b0
   repeat' with_reducible first|refine W.asI ?_|refine W.asV ?_|refine W.fldp ?_|refine W.nck ?_|refine W.u0 ?_|refine W.u3 ?_
   rw[e1]
   (with_reducible refine W.cnd (fun hlt=>?_) (fun hlt=>?_)<;>(try simp only[qq,Kd.ty]at hlt)<;>(try (exfalso;omega)))
   ·obtain⟨a,ha⟩:=y3_ (xs:=s2.trail) (i:=hd2) (by omega)
    have hal:=P2.ti.rng a (List.mem_of_getElem? ha);have ha0:=ym_.1 hal
    repeat' with_reducible first|refine W.asI ?_|refine W.asV ?_|refine W.fldp ?_|refine W.nck ?_|refine W.u0 ?_
    rw[e1];refine W.ixIc (i:=hd2) k6.slT ha ?_;have w:IntKind.i64.wrap (0-a) = -a:=by rw[wrapS]<;>omega
    rw[w];refine W.bind ?_;refine W.mono (yik_ (f:=-a) p2 H2.tn P2 hn4 e1 (by rw[Int.neg_neg];exact ha) (by rw[E2.ceq.1];exact hcc) (by omega)) fun r hr=>?_;obtain⟨o,τ3⟩:=r;obtain⟨T3,h3,s3,H3,p3,ho3,hd3,g1,g2,g3,g4⟩:=hr;dsimp only at H3 p3 ho3 g1 g2⊢;have HH3:Hop pJ σ T τ3 T3:=H2.trans H3
    (with_reducible refine W.cnd (fun hout3=>?_) (fun hout3=>?_)<;>(try simp only[qq,Kd.ty]at hout3)<;>(try (exfalso;omega)))
    ·have hne:o≠-1:=by omega
     obtain⟨P3,j,d,fl,q1,q2,q3,q4⟩:=g2 hne
     repeat' (with_reducible refine W.stop ?_)
     refine⟨T3,h3,s3,o,HH3,p3,.inr rfl,ho3,⟨E2.trans g3,?_,P3.si,fun _=>P3.lo,fun w=>absurd w hne,fun _=>⟨j,d,fl,q1,q2,q3,fun _=>q4⟩⟩⟩;rw[P3.lo];simp;omega
    ·have hne:o = -1:=by omega
     have P3:=g1 hne;obtain⟨k1,k2,k3,k4,k5,k6,k7,k8,k9,k10,k11,k12,k13⟩:=p3;rw[hd3]at k1
     repeat' with_reducible first|refine W.asI ?_|refine W.fldp ?_|refine W.nck ?_|refine W.u0 ?_
     have w2:IntKind.i64.wrap ((hd2:Int)+1)=(hd2:Int)+1:=by rw[wrapS]<;>omega
     rw[w2];have hn:=H3.tn;refine W.stT k1 hn (Nat.le_of_ble_eq_true (by rfl)) fun τ4 H4 k1 hnτ4=>?_;have HH4:=HH3.inJ ((Hop.refl H3.tn).inP H4);replace k2:=k2.hop H4;replace k3:=k3.hop H4;replace k4:=k4.hop H4;replace k5:=k5.hop H4;replace k6:=k6.hop H4;replace k7:=k7.hop H4;replace k8:=k8.hop H4;replace k9:=k9.hop H4;replace k10:=k10.hop H4;replace k11:=k11.hop H4;replace k13:=k13.hop H4;replace hn:=H4.tn
     repeat' (with_reducible refine W.next ?_)
     have hl3:=g3.lenT;have f1:m-1<m:=by clear g1 g2;omega
     have f2:m-1=n-(hd2+1):=by clear g1 g2;omega
     have f3:hd2+1<=s3.trail.length:=by clear g1 g2;omega
     have f4:s3.ent<=s1.ent:=by clear g1 g2;omega
     refine⟨m-1,f1,T3,h3,{ s3 with head:=(hd2:Int)+1 },hd2+1,HH4,⟨k1,k2,k3,k4,k5,k6,k7,k8,k9,k10,k11,k12,k13⟩,P3,by simp,f3,f2,?_,f4⟩;exact(E2.trans g3).trans (PEx.same ⟨rfl,(CEq.refl s3).2⟩ rfl rfl rfl)
   ·repeat' (with_reducible refine W.stop ?_)
    have:hd2=s2.trail.length:=by omega
    refine⟨T2,h2,s2,-1,H2,p2,.inl ⟨rfl,rfl⟩,by omega,⟨E2,?_,P2.si,fun _=>P2.lo,fun _=>⟨P2.lo,by rw[e1,this]⟩,fun w=>absurd rfl w⟩⟩;rw[P2.lo];simp;omega
  ·obtain⟨r,τ2⟩:=r
   obtain⟨T2,h2,s2,o,H2,p2,hr,ho2,hres⟩:=hr;dsimp only at hr H2 p2⊢;rcases hr with ⟨hr,e⟩|hr
   ·subst hr e
    repeat' with_reducible refine W.ret ?_
    exact⟨T2,h2,s2,H2,p2,by omega,hres⟩
   ·subst hr
    repeat' with_reducible refine W.ret ?_
    exact⟨T2,h2,s2,H2,p2,ho2,hres⟩
end
end
section
open Go
theorem y8r_{σ:Heap}{T:Tg}{t:Nat}{xs:List Int}{x:AVal}(h:SlV .int (σ.at T t) xs x)(hn:Tn σ T)(hb:xs.length<=1000000):W (S.z120 x σ) fun r=>Hle σ r.2/\Acc .int σ.next r.2 xs r.1/\SlV .int (r.2.at T 0) xs r.1:=
 W.mono (ydh_ h.up hb) fun _ hr=>⟨hr.2,hr.1,hr.1.at0 hn.z⟩
def PS.sinceL(s:PS)(k:Nat):List Int:=match s.marks[k]? with
 |some a=>s.trail.drop a.toNat
 |none=>[]
section
variable{σ τ:Heap}{T T':Tg}{lp n id k:Nat}{h:PH}{s s1 s':PS}{l f x out:Int}{c c':List Int}{b g:Bool}
theorem y6b_(p:PropH σ T lp h s):S.z76 (.ptr lp 0) σ=some (s.marks.length:Int):=by
 obtain⟨r,e,rfl⟩:W (S.z76 (.ptr lp 0) σ) fun r=>r=(s.marks.length:Int):=by
  have k1:=p.obj;have k7:=p.marks;unfold S.z76
  repeat' with_reducible first|refine W.ret ?_|refine W.asV ?_|refine W.fldp ?_|refine W.nck ?_|refine W.u0 ?_|refine W.u3 ?_
  rfl
 exact e
theorem y3e_(p:PropH σ T lp h s)(hv:s.vs.length=n+1)(hn:n<=4000):S.z83 (.ptr lp 0) σ=some (n:Int):=by
 obtain⟨r,e,rfl⟩:W (S.z83 (.ptr lp 0) σ) fun r=>r=(n:Int):=by
  have k1:=p.obj;unfold S.z83
  repeat' with_reducible first|refine W.bind ?_|refine W.asV ?_|refine W.fldp ?_|refine W.nck ?_|refine W.u0 ?_
  refine W.to (y3y_ p.asg p.vs (by omega)) ?_
  repeat' with_reducible refine W.ret ?_
  omega
 exact e
theorem y2t_(p:PropH σ T lp h s)(ht:TrI n s)(hl:isL l n=true):S.z77 (.ptr lp 0) (l.natAbs:Int) σ=some (s.lv l):=by
 obtain⟨r,e,rfl⟩:W (S.z77 (.ptr lp 0) (l.natAbs:Int) σ) fun r=>r=s.lv l:=by
  have k1:=p.obj;have k4:=p.lev;have h0:=yb_ hl;have hg:=ht.lget hl;have h2:=ht.len.lev;unfold S.z77
  repeat' (with_reducible refine W.bind ?_)
  refine W.condF (by simp;omega) ?_
  repeat' with_reducible first|refine W.ret ?_|refine W.asV ?_|refine W.fldp ?_|refine W.nck ?_|refine W.u0 ?_|refine W.u3 ?_
  refine W.condF (by simp;omega) ?_
  repeat' with_reducible first|refine W.ret ?_|refine W.asV ?_|refine W.fldp ?_|refine W.nck ?_|refine W.u0 ?_|refine W.u2 ?_
  rfl
 exact e
theorem y6d_(p:PropH σ T lp h s)(ht:TrI n s)(hl:isL l n=true):S.z79 (.ptr lp 0) (l.natAbs:Int) σ=some (s.re l):=by
 obtain⟨r,e,rfl⟩:W (S.z79 (.ptr lp 0) (l.natAbs:Int) σ) fun r=>r=s.re l:=by
  have k1:=p.obj;have k4:=p.rea;have h0:=yb_ hl;have hg:=ht.rget hl;have h2:=ht.len.rea;unfold S.z79
  repeat' (with_reducible refine W.bind ?_)
  refine W.condF (by simp;omega) ?_
  repeat' with_reducible first|refine W.ret ?_|refine W.asV ?_|refine W.fldp ?_|refine W.nck ?_|refine W.u0 ?_|refine W.u3 ?_
  refine W.condF (by simp;omega) ?_
  repeat' with_reducible first|refine W.ret ?_|refine W.asV ?_|refine W.fldp ?_|refine W.nck ?_|refine W.u0 ?_|refine W.u2 ?_
  rfl
 exact e
theorem ydn_(p:PropH σ T lp h s)(hn:Tn σ T)(ht:TrI n s)(hn4:n<=4000):W (S.z81 (.ptr lp 0) σ) fun r=>Hle σ r.2/\SlV .int (r.2.at T 0) s.trail r.1:=by
 have k1:=p.obj;have hl:=ht.lenT;unfold S.z81
 repeat' with_reducible first|refine W.bind ?_|refine W.asV ?_|refine W.fldp ?_|refine W.nck ?_|refine W.u0 ?_
 refine W.mono (y8r_ p.trail.sl hn (by omega)) fun r hr=>?_
 repeat' with_reducible refine W.ret ?_
 exact⟨hr.1,hr.2.2⟩
theorem yih_(p:PropH σ T lp h s)(hn:Tn σ T)(ht:TrI n s)(hn4:n<=4000):W (S.z80 (.ptr lp 0) (k:Int) σ) fun r=>Hle σ r.2/\SlV .int (r.2.at T 0) (s.sinceL k) r.1:=by
 have k1:=p.obj;have k6:=p.trail;have k7:=p.marks;have hl:=ht.lenT;unfold S.z80 PS.sinceL
 repeat' (with_reducible refine W.bind ?_)
 refine W.condF (by simp) ?_
 repeat' with_reducible first|refine W.ret ?_|refine W.asV ?_|refine W.fldp ?_|refine W.nck ?_|refine W.u0 ?_|refine W.u3 ?_
 by_cases hk:k<s.marks.length
 ·obtain⟨m,hm⟩:=y3_ (xs:=s.marks) (i:=k) hk
  obtain⟨a,e,⟨w,g1,g2⟩,_⟩:=ht.mks k m hm;subst e;have hal:=y2_ g1;rw[hm];refine W.condF (by simp;omega) ?_
  repeat' with_reducible first|refine W.asV ?_|refine W.fldp ?_|refine W.nck ?_|refine W.u0 ?_|refine W.u2 ?_
  obtain⟨y,e5,hy⟩:=k6.slice (lo:=a) (hi:=s.trail.length) (by omega) (Nat.le_refl _);rw[List.take_length]at hy;refine W.to ((e5 (at_le (σ:=σ) (T:=T) (i:=6)) _).2 rfl) ?_;refine W.bind ?_;refine W.mono (y8r_ hy.sl hn (by simp;omega)) fun r hr=>?_
  repeat' with_reducible refine W.ret ?_
  exact⟨hr.1,hr.2.2⟩
 ·rw[List.getElem?_eq_none (by omega)]
  refine W.condT (by simp;omega) ?_
  repeat' with_reducible refine W.ret ?_
  exact⟨Hle.refl _,.inl ⟨rfl,rfl⟩⟩
theorem yai_(p:PropH σ T lp h s)(hc:s.cls[id]?=some (c,b,g)):S.z88 (.ptr lp 0) (id:Int) σ=some b:=by
 obtain⟨r,e,rfl⟩:W (S.z88 (.ptr lp 0) (id:Int) σ) fun r=>r=b:=by
  obtain⟨y,hy,hO⟩:=p.cget hc;have hlt:=y2_ hc;have hclen:=p.clen;have k1:=p.obj;have k8:=p.cls;unfold S.z88
  repeat' (with_reducible refine W.bind ?_)
  refine W.condT (by simp) ?_
  repeat' with_reducible first|refine W.asV ?_|refine W.fldp ?_|refine W.nck ?_|refine W.u0 ?_|refine W.u3 ?_
  refine W.condT (by simp;omega) ?_
  repeat' with_reducible first|refine W.asV ?_|refine W.fldp ?_|refine W.nck ?_|refine W.u0 ?_
  refine W.ixO k8.slT (i:=id) (by omega) ?_;refine W.fldO k8.slT (i:=id) (k:=0) (j:=1) (by omega) ?_;refine W.ldO k8.slT hy (u:=.bool b) (fun us h=>by rw[show us=[y,.bool b,.bool g]from h];rfl) ?_
  repeat' with_reducible first|refine W.ret ?_|refine W.asB ?_
  rfl
 exact e
theorem y1n_(p:PropH σ T lp h s)(hn:Tn σ T)(hc:s.cls[id]?=some (c,b,g))(hcl:c.length<=1000000):W (S.z72 (.ptr lp 0) (id:Int) σ) fun r=>Hle σ r.2/\SlV .int (r.2.at T 0) (if b then c else[]) r.1:=by
 obtain⟨y,hy,hO⟩:=p.cget hc;have hlt:=y2_ hc;have hclen:=p.clen;have k1:=p.obj;have k8:=p.cls;unfold S.z72;refine W.bind ?_;refine W.to (yai_ p hc) ?_
 repeat' with_reducible refine W.ret ?_
 cases b with
 |false=>
  refine W.condT rfl ?_
  repeat' with_reducible refine W.ret ?_
  exact⟨Hle.refl _,.inl ⟨rfl,rfl⟩⟩
 |true=>
  refine W.condF rfl ?_
  repeat' with_reducible first|refine W.asV ?_|refine W.fldp ?_|refine W.nck ?_|refine W.u0 ?_
  refine W.ixO k8.slT (i:=id) (by omega) ?_;refine W.fldO k8.slT (i:=id) (k:=0) (j:=0) (by omega) ?_;refine W.ldO k8.slT hy (u:=y) (fun us h=>by rw[show us=[y,.bool true,.bool g]from h];rfl) ?_
  repeat' with_reducible first|refine W.bind ?_|refine W.asV ?_
  refine W.mono (y8r_ hO.sl hn hcl) fun r hr=>?_
  repeat' with_reducible refine W.ret ?_
  exact⟨hr.1,hr.2.2⟩
theorem y84_(p:PropH σ T lp h s)(hn:Tn σ T)(ht:TrI n s)(hn4:n<=4000)(hl:isL l n=true)(hv:val s.vs l=0):W (S.z73 (.ptr lp 0) l σ) fun r=>r.1=true/\∃T' h',Hop pI σ T r.2 T'/\PropH r.2 T' lp h' (s.dec l):=by
 have hlv:=ht.len.vs;have hlt:=ht.lenT;have hlm:=ht.lenM;have h0:=yb_ hl;have hV:=p.val ht hn4 hl;obtain⟨k1,k2,k3,k4,k5,k6,k7,k8,k9,k10,k11,k12,k13⟩:=p;unfold S.z73
 repeat' with_reducible first|refine W.bind ?_|refine W.asV ?_|refine W.fldp ?_|refine W.nck ?_|refine W.u0 ?_
 refine W.to (y3y_ k2 k3 (by omega)) ?_
 repeat' with_reducible first|refine W.ret ?_|refine W.bind ?_
 rw[show(s.vs.length:Int)-1=(n:Int) by omega];refine W.to (y1o_ (by omega) (by omega)) ?_
 repeat' with_reducible refine W.ret ?_
 refine W.condF (by simp[hl]) ?_
 repeat' with_reducible first|refine W.bind ?_|refine W.asV ?_|refine W.fldp ?_|refine W.nck ?_|refine W.u0 ?_
 refine W.to hV ?_
 repeat' with_reducible refine W.ret ?_
 refine W.condF (by simp[hv]) ?_
 repeat' with_reducible first|refine W.asV ?_|refine W.fldp ?_|refine W.nck ?_|refine W.u0 ?_|refine W.u3 ?_
 refine W.own_push (bytes:=8) Vw.int_flat k7 hn (a:=(s.trail.length:Int)) rfl (by omega) (by omega) fun x2 τ2 T2 k7 H2=>?_;have HH:Hop pI σ T τ2 T2:=(Hop.refl hn).inP H2;replace k1:=k1.hop H2;replace k2:=k2.hop H2;replace k3:=k3.hop H2;replace k4:=k4.hop H2;replace k5:=k5.hop H2;replace k6:=k6.hop H2;replace k8:=k8.hop H2;replace k9:=k9.hop H2;replace k10:=k10.hop H2;replace k11:=k11.hop H2;replace k13:=k13.hop H2;replace hn:=H2.tn
 repeat' with_reducible first|refine W.fldp ?_|refine W.nck ?_|refine W.u4 ?_
 refine W.stT k1 hn (Nat.le_of_ble_eq_true (by rfl)) fun τ3 H3 k1 hnτ3=>?_;replace HH:=HH.inP H3;replace k2:=k2.hop H3;replace k3:=k3.hop H3;replace k4:=k4.hop H3;replace k5:=k5.hop H3;replace k6:=k6.hop H3;replace k7:=k7.hop H3;replace k8:=k8.hop H3;replace k9:=k9.hop H3;replace k10:=k10.hop H3;replace k11:=k11.hop H3;replace k13:=k13.hop H3;replace hn:=H3.tn;have p3:PropH τ3 T2 lp { h with xm:=x2 } { s with marks:=s.marks++[(s.trail.length:Int)] }:=⟨k1,k2,k3,k4,k5,k6,k7,k8,k9,k10,k11,k12,k13⟩;refine W.bind ?_;refine W.mono (yb3_ (r:=-1) p3 hn ⟨ht.len.vs,ht.len.lev,ht.len.rea,ht.len.wat⟩ ht.ok (by show s.trail.length<=_;omega) hn4 hl (by show val s.vs l≠2;omega) (mk:=s.marks++[(s.trail.length:Int)]) rfl (by simp;omega)) fun r hr=>?_;obtain⟨r,τ4⟩:=r;obtain⟨T4,h4,H4,p4,_⟩:=hr
 repeat' with_reducible refine W.ret ?_
 exact⟨rfl,T4,h4,HH.trans H4,p4⟩
theorem yg2_{t u la:Nat}{xa:AVal}{vs:List Int}(h1:Loc (σ.at T t) la [xa])(h2:Own .i8 (σ.at T u) vs xa)(hn:Tn σ T){v:Nat}(hv:0<v)(hvl:v<vs.length) :
  W (S.z2 (.ptr la 0) (v:Int) σ) fun r=>Own .i8 (r.2.at T u) (vs.set v 0) xa/\Hop (only u) σ T r.2 T:=by
 unfold S.z2
 repeat' (with_reducible refine W.bind ?_)
 refine W.condT (by simp;omega) ?_
 repeat' with_reducible first|refine W.ret ?_|refine W.asV ?_|refine W.fldp ?_|refine W.nck ?_|refine W.u0 ?_|refine W.u3 ?_
 refine W.condT (by simp;omega) ?_
 repeat' with_reducible first|refine W.asV ?_|refine W.fldp ?_|refine W.nck ?_|refine W.u0 ?_
 refine W.ixO h2.slT (i:=v) hvl ?_;refine W.own_set Vw.i8_flat h2 hn (List.getElem?_eq_getElem hvl) (k:=0) [.int .i8 vs[v]] (0:Int) (Nat.le_refl _) (fun _ h=>h) (fun _=>rfl) fun τ h2 H _=>?_
 repeat' with_reducible refine W.ret ?_
 exact⟨h2,H⟩
theorem yei_(s:PS):∀xs:List Int,(xs.foldl PS.unsetL s).trail=s.trail/\(xs.foldl PS.unsetL s).vs.length=s.vs.length/\(xs.foldl PS.unsetL s).lev.length=s.lev.length/\(xs.foldl PS.unsetL s).rea.length=s.rea.length:=by
 intro xs
 induction xs generalizing s with
 |nil=>exact⟨rfl,rfl,rfl,rfl⟩
 |cons a t ih=>
  obtain⟨h1,h2,h3,h4⟩:=ih (s.unsetL a);exact⟨h1,by rw[List.foldl_cons,h2];simp[PS.unsetL],by rw[List.foldl_cons,h3];simp[PS.unsetL],by rw[List.foldl_cons,h4];simp[PS.unsetL]⟩
def PS.backK(s:PS)(k:Nat):PS:=match s.marks[k]? with
 |some a=>s.back k a.toNat
 |none=>s
theorem yjl_(p:PropH σ T lp h s)(hn:Tn σ T)(hS:StI n s)(hn4:n<=4000):W (S.z71 (.ptr lp 0) (k:Int) σ) fun r=>∃T' h',Hop pI σ T r.2 T'/\PropH r.2 T' lp h' (s.backK k):=by
 have ht:=hS.ti;have hlt:=ht.lenT;have hl1:=ht.len.vs;have hl2:=ht.len.lev;have hl3:=ht.len.rea;have p0:=p;obtain⟨k1,k2,k3,k4,k5,k6,k7,k8,k9,k10,k11,k12,k13⟩:=p;have em:(if(0:Int)>(k:Int)then 0 else(k:Int))=(k:Int):=if_neg (by omega);unfold S.z71 PS.backK;rw[em]
 repeat' with_reducible first|refine W.asV ?_|refine W.fldp ?_|refine W.nck ?_|refine W.u0 ?_|refine W.u3 ?_
 by_cases hk:k<s.marks.length
 ·obtain⟨m,hm⟩:=y3_ (xs:=s.marks) (i:=k) hk
  obtain⟨a,e,⟨w,g1,g2⟩,_⟩:=ht.mks k m hm;subst e;have hal:=y2_ g1;rw[hm];refine W.condF (by simp;omega) ?_
  repeat' with_reducible first|refine W.asV ?_|refine W.fldp ?_|refine W.nck ?_|refine W.u0 ?_|refine W.u2 ?_
  obtain⟨y,e5,hy⟩:=k6.slice (lo:=a) (hi:=s.trail.length) (by omega) (Nat.le_refl _);rw[List.take_length]at hy;refine W.to ((e5 (at_le (σ:=σ) (T:=T) (i:=6)) _).2 rfl) ?_;have hys:=hy.sl;have hyl:(s.trail.drop a).length=s.trail.length-a:=by simp
  repeat' with_reducible first|refine W.bind ?_|refine W.len (by assumption) ?_
  refine W.mono (P:=fun r=>Hop pI σ T r.2 T/\PropH r.2 T lp h ((s.trail.drop a).foldl PS.unsetL s)) ?_ fun r hr=>?_
  ·refine W.loop (s.trail.drop a).length (fun i (x:Int) τ=>x=(i:Int)/\Hop pI σ T τ T/\SlV .int (τ.at T 6) (s.trail.drop a) y/\PropH τ T lp h (((s.trail.drop a).take i).foldl PS.unsetL s)) ⟨rfl,Hop.refl hn,hys,p0⟩ fun i x τ hi hI=>?_
   obtain⟨rfl,H1,hys,p1⟩:=hI;have wr:IntKind.i64.wrap ((i:Int)+1)=((i+1:Nat):Int):=by rw[wrapS]<;>omega
   unfold S.z71.b0
   (with_reducible refine W.cnd (fun hlt2=>?_) (fun hlt2=>?_)<;>(try simp only[qq,Kd.ty]at hlt2)<;>(try (exfalso;omega)))
   ·obtain⟨l,hl⟩:=y3_ (xs:=s.trail.drop a) (i:=i) (by omega)
    have hlL:=ht.rng l (List.mem_of_mem_drop (List.mem_of_getElem? hl));have hl0:=yb_ hlL;have htk:(s.trail.drop a).take (i+1)=(s.trail.drop a).take i++[l]:=by rw[List.take_add_one,hl];rfl
    rw[htk,List.foldl_append];obtain⟨_,f1,f2,f3⟩:=yei_ s ((s.trail.drop a).take i);generalize ((s.trail.drop a).take i).foldl PS.unsetL s=s1 at p1 f1 f2 f3⊢;obtain⟨k1,k2,k3,k4,k5,k6,k7,k8,k9,k10,k11,k12,k13⟩:=p1
    repeat' with_reducible first|refine W.bind ?_|refine W.ixIc (SlV.up (by assumption)) (by assumption) ?_
    refine W.to (yk_ hlL hn4) ?_
    repeat' with_reducible first|refine W.ret ?_|refine W.bind ?_|refine W.asV ?_|refine W.fldp ?_|refine W.nck ?_|refine W.u0 ?_
    refine W.mono (yg2_ k2 k3 H1.tn (v:=l.natAbs) (by omega) (by omega)) fun r hr=>?_;obtain⟨r,τ2⟩:=r;obtain⟨k3,H2⟩:=hr;dsimp only at k3 H2⊢;replace H1:=H1.inP H2;replace hys:=hys.hop H2;replace k1:=k1.hop H2;replace k2:=k2.hop H2;replace k4:=k4.hop H2;replace k5:=k5.hop H2;replace k6:=k6.hop H2;replace k7:=k7.hop H2;replace k8:=k8.hop H2;replace k9:=k9.hop H2;replace k10:=k10.hop H2;replace k11:=k11.hop H2;replace k13:=k13.hop H2;replace hn:=H2.tn
    repeat' with_reducible first|refine W.asV ?_|refine W.fldp ?_|refine W.nck ?_|refine W.u0 ?_
    refine W.ixO k4.slT (i:=l.natAbs) (by omega) ?_;refine W.own_setI k4 H1.tn (by omega) fun τ3 k4 H3 _=>?_;replace H1:=H1.inP H3;replace hys:=hys.hop H3;replace k1:=k1.hop H3;replace k2:=k2.hop H3;replace k3:=k3.hop H3;replace k5:=k5.hop H3;replace k6:=k6.hop H3;replace k7:=k7.hop H3;replace k8:=k8.hop H3;replace k9:=k9.hop H3;replace k10:=k10.hop H3;replace k11:=k11.hop H3;replace k13:=k13.hop H3;replace hn:=H3.tn;refine W.ixO k5.slT (i:=l.natAbs) (by omega) ?_;refine W.own_setI k5 H1.tn (by omega) fun τ4 k5 H4 _=>?_;replace H1:=H1.inP H4;replace hys:=hys.hop H4;replace k1:=k1.hop H4;replace k2:=k2.hop H4;replace k3:=k3.hop H4;replace k4:=k4.hop H4;replace k6:=k6.hop H4;replace k7:=k7.hop H4;replace k8:=k8.hop H4;replace k9:=k9.hop H4;replace k10:=k10.hop H4;replace k11:=k11.hop H4;replace k13:=k13.hop H4;replace hn:=H4.tn
    repeat' (with_reducible refine W.next ?_)
    exact⟨by omega,wr,H1,hys,k1,k2,k3,k4,k5,k6,k7,k8,k9,k10,k11,k12,k13⟩
   ·repeat' (with_reducible refine W.stop ?_)
    rw[List.take_of_length_le (by omega)]at p1;exact⟨H1,p1⟩
  ·obtain⟨r,τ1⟩:=r
   obtain⟨H1,p1⟩:=hr;dsimp only at H1 p1⊢;have U:=UnX.fold (s:=s) (xs:=s.trail.drop a) fun l hl=>ht.in (List.mem_of_mem_drop hl);have g1:((s.trail.drop a).foldl PS.unsetL s).trail=s.trail:=by rw[U.eq]
   have g2:((s.trail.drop a).foldl PS.unsetL s).marks=s.marks:=by rw[U.eq]
   have g3:((s.trail.drop a).foldl PS.unsetL s).head=s.head:=by rw[U.eq]
   clear k1 k2 k3 k4 k5 k6 k7 k8 k9 k10 k11 k12 k13
   have hb:s.back k a={ (s.trail.drop a).foldl PS.unsetL s with trail:=s.trail.take a,marks:=s.marks.take k,head:=min s.head a }:=rfl;rw[show((a:Int)).toNat=a from rfl,hb];generalize (s.trail.drop a).foldl PS.unsetL s=s1 at p1 g1 g2 g3⊢;obtain⟨k1,k2,k3,k4,k5,k6,k7,k8,k9,k10,k11,k12,k13⟩:=p1;have hn:=H1.tn;obtain⟨y6,e6,hy6⟩:=k6.slice (lo:=0) (hi:=a) (by omega) (by rw[g1];omega);obtain⟨y7,e7,hy7⟩:=k7.slice (lo:=0) (hi:=k) (by omega) (by rw[g2];omega);rw[List.drop_zero]at hy6 hy7;rw[g1]at hy6;rw[g2]at hy7;have L6:=at_le (σ:=τ1) (T:=T) (i:=6);have L7:=at_le (σ:=τ1) (T:=T) (i:=7)
   repeat' with_reducible first|refine W.asV ?_|refine W.fldp ?_|refine W.nck ?_|refine W.u0 ?_
   refine W.to ((e6 L6 _).1) ?_
   repeat' with_reducible first|refine W.asV ?_|refine W.fldp ?_|refine W.nck ?_|refine W.u0 ?_
   refine W.to ((e7 L7 _).1) ?_
   repeat' with_reducible first|refine W.fldp ?_|refine W.nck ?_|refine W.u4 ?_
   refine W.stT k1 hn (Nat.le_of_ble_eq_true (by rfl)) fun τ2 H2 k1 hnτ2=>?_;replace H1:=H1.inP H2;replace L7:Hle (τ1.at T 7) τ2:=(H2.le (by rfl)).trans at_le;replace hy6:=hy6.hop H2;replace hy7:=hy7.hop H2;replace k2:=k2.hop H2;replace k3:=k3.hop H2;replace k4:=k4.hop H2;replace k5:=k5.hop H2;replace k6:=k6.hop H2;replace k7:=k7.hop H2;replace k8:=k8.hop H2;replace k9:=k9.hop H2;replace k10:=k10.hop H2;replace k11:=k11.hop H2;replace k13:=k13.hop H2;replace hn:=H2.tn;refine W.to ((e7 L7 _).1) ?_
   repeat' with_reducible first|refine W.chk rfl ?_|refine W.fldp ?_|refine W.nck ?_|refine W.u4 ?_
   refine W.stT k1 hn (Nat.le_of_ble_eq_true (by rfl)) fun τ3 H3 k1 hnτ3=>?_;replace H1:=H1.inP H3;replace hy6:=hy6.hop H3;replace hy7:=hy7.hop H3;replace k2:=k2.hop H3;replace k3:=k3.hop H3;replace k4:=k4.hop H3;replace k5:=k5.hop H3;replace k8:=k8.hop H3;replace k9:=k9.hop H3;replace k10:=k10.hop H3;replace k11:=k11.hop H3;replace k13:=k13.hop H3;replace hn:=H3.tn
   repeat' with_reducible first|refine W.asI ?_|refine W.fldp ?_|refine W.nck ?_|refine W.u0 ?_
   rw[g3];refine W.stT k1 hn (Nat.le_of_ble_eq_true (by rfl)) fun τ4 H4 k1 hnτ4=>?_;replace H1:=H1.inP H4;replace hy6:=hy6.hop H4;replace hy7:=hy7.hop H4;replace k2:=k2.hop H4;replace k3:=k3.hop H4;replace k4:=k4.hop H4;replace k5:=k5.hop H4;replace k8:=k8.hop H4;replace k9:=k9.hop H4;replace k10:=k10.hop H4;replace k11:=k11.hop H4;replace k13:=k13.hop H4;replace hn:=H4.tn
   repeat' with_reducible refine W.ret ?_
   have ehd:(if(a:Int)<s.head then(a:Int)else s.head)=min s.head a:=by
    rw[Int.min_def];split<;>split<;>omega
   rw[ehd]at k1;exact⟨T,{ h with xt:=y6,xm:=y7 },H1,k1,k2,k3,k4,k5,hy6,hy7,k8,k9,k10,k11,k12,k13⟩
 ·rw[List.getElem?_eq_none (by omega)]
  refine W.condT (by simp;omega) ?_
  repeat' with_reducible refine W.ret ?_
  exact⟨T,h,Hop.refl hn,p0⟩
theorem yeh_(p:PropH σ T lp h s)(hn:Tn σ T)(ht:TrI n s)(hn4:n<=4000)(hc:s.cls[id]?=some (c,true,g))(hL:∀x∈c,isL x n=true)(hcl:c.length<=1000000) :
  W (S.z74 (.ptr lp 0) (id:Int) σ) fun r=>r=(false,σ)\/(r.1=true/\(∀x∈s.trail,x∈c->s.re x≠id)/\∃T' h',Hop pI σ T r.2 T'/\PropH r.2 T' lp h' (s.dropC id g)):=by
 obtain⟨y,hy,hO⟩:=p.cget hc;have hlt:=y2_ hc;have hclen:=p.clen;have p0:=p;have k1:=p.obj;have k8:=p.cls;have k5:=p.rea;have hS:=hO.slT;unfold S.z74;refine W.bind ?_;refine W.to (yai_ p hc) ?_
 repeat' with_reducible refine W.ret ?_
 refine W.condF rfl ?_
 repeat' with_reducible first|refine W.asV ?_|refine W.fldp ?_|refine W.nck ?_|refine W.u0 ?_
 refine W.ixO k8.slT (i:=id) (by omega) ?_;refine W.fldO k8.slT (i:=id) (k:=0) (j:=0) (by omega) ?_;refine W.ldO k8.slT hy (u:=y) (fun us h=>by rw[show us=[y,.bool true,.bool g]from h];rfl) ?_
 repeat' with_reducible first|refine W.bind ?_|refine W.asV ?_|refine W.len (by assumption) ?_
 refine W.mono (P:=fun r=>r=.inr false\/(r=.inl ()/\∀x∈c,x∈s.trail->s.re x≠id)) ?_ fun r hr=>?_
 ·refine W.loopP c.length (fun i (x:Int)=>x=(i:Int)/\∀(j:Nat) x,j<i->c[j]?=some x->x∈s.trail->s.re x≠id) ⟨rfl,fun j x hj=>by omega⟩ fun i x hi hI=>?_
  obtain⟨rfl,hall⟩:=hI;have w:IntKind.i64.wrap ((i:Int)+1)=((i+1:Nat):Int):=by rw[wrapS]<;>omega
  unfold S.z74.b0
  (with_reducible refine W.cnd (fun hlt2=>?_) (fun hlt2=>?_)<;>(try simp only[qq,Kd.ty]at hlt2)<;>(try (exfalso;omega)))
  ·obtain⟨a,ha⟩:=y3_ (xs:=c) (i:=i) (by omega)
   have haL:=hL a (List.mem_of_getElem? ha);have hg:=ht.rget haL
   repeat' with_reducible first|refine W.bind ?_|refine W.asV ?_|refine W.fldp ?_|refine W.e2 ?_|refine W.nck ?_|refine W.u0 ?_
   refine W.to (p0.val ht hn4 haL) ?_
   repeat' with_reducible refine W.ret ?_
   refine W.mono (P:=fun r=>r=decide (val s.vs a=1/\s.re a=id)) ?_ fun r hr=>?_
   ·by_cases hv:val s.vs a=1
    ·refine W.condT (by simp[hv]) ?_
     repeat' with_reducible first|refine W.bind ?_|refine W.asV ?_|refine W.fldp ?_|refine W.nck ?_|refine W.u0 ?_
     refine W.to (yk_ haL hn4) ?_
     repeat' with_reducible first|refine W.ret ?_|refine W.u2 ?_
     by_cases e:s.re a=id<;>simp[hv,e]
    ·refine W.condF (by simp[hv]) ?_
     repeat' with_reducible refine W.ret ?_
     simp[hv]
   subst hr;by_cases hq:val s.vs a=1/\s.re a=id
   ·refine W.condT (decide_eq_true hq) ?_
    repeat' (with_reducible refine W.stopP ?_)
    exact .inl rfl
   ·refine W.condF (decide_eq_false hq) ?_
    repeat' (with_reducible refine W.nextP ?_)
    refine⟨by omega,w,fun j x hj hx hm=>?_⟩;by_cases e:j=i
    ·subst e;rw[ha]at hx;cases hx
     exact fun q=>hq ⟨(ht.tr a).2 hm,q⟩
    ·exact hall j x (by omega) hx hm
  ·repeat' (with_reducible refine W.stopP ?_)
   exact .inr ⟨rfl,fun x hx=>by
    obtain⟨j,hj⟩:=y9_ hx;exact hall j x (by have:=y2_ hj;omega) hj⟩
 ·rcases hr with e|⟨e,hall⟩
  ·subst e
   repeat' with_reducible refine W.ret ?_
   exact .inl rfl
  ·subst e
   obtain⟨k1,k2,k3,k4,k5,k6,k7,k8,k9,k10,k11,k12,k13⟩:=p0
   repeat' with_reducible first|refine W.asV ?_|refine W.fldp ?_|refine W.nck ?_|refine W.u0 ?_
   refine W.ixO k8.slT (i:=id) (by omega) ?_;refine W.fldO k8.slT (i:=id) (k:=0) (j:=2) (by omega) ?_;refine W.ldO k8.slT hy (u:=.bool g) (fun us h=>by rw[show us=[y,.bool true,.bool g]from h];rfl) ?_
   repeat' (with_reducible refine W.asB ?_)
   refine W.ixO k8.slT (i:=id) (by omega) ?_;refine W.own_set y5t_ k8 hn hy (k:=0) [y,.bool true,.bool g] (.nils,false,g) (Nat.le_of_ble_eq_true rfl) (fun bs h=>h) (fun _=>rfl) fun τ3 k8 H3 _=>?_;have HH:Hop pI σ T τ3 T:=(Hop.refl hn).inP H3;replace k1:=k1.hop H3;replace k2:=k2.hop H3;replace k3:=k3.hop H3;replace k4:=k4.hop H3;replace k5:=k5.hop H3;replace k6:=k6.hop H3;replace k7:=k7.hop H3;replace k9:=k9.hop H3;replace k10:=k10.hop H3;replace k11:=k11.hop H3;replace k13:=k13.hop H3;replace hn:=H3.tn
   repeat' with_reducible refine W.ret ?_
   refine .inr ⟨rfl,fun x hx hxc=>hall x hxc hx,T,{ h with cs:=h.cs.set id (.nils,false,g) },HH,k1,k2,k3,k4,k5,k6,k7,k8,k9,k10,?_,?_,k13⟩
   ·show Fam τ3 T 50 ((s.cls.set id ([],false,g)).map (·.1)) ((h.cs.set id (.nils,false,g)).map (·.1))
    rw[List.map_set,List.map_set];exact k11.hopAt (Hop.refl hn) .nil
   ·show(h.cs.set id (.nils,false,g)).map (·.2)=(s.cls.set id ([],false,g)).map (·.2)
    rw[List.map_set,List.map_set,k12]
end
end
section
open Go
def PS.db(s:PS):List (List Int):=(s.cls.filter fun x=>x.2.1).map (·.1)
theorem y32_{s:PS}{c:List Int}:c∈s.db↔∃(id:Nat) (f:Bool),s.cls[id]?=some (c,true,f):=by
 unfold PS.db;simp only[List.mem_map,List.mem_filter];constructor
 ·rintro⟨⟨d,b,f⟩,⟨h1,h2⟩,rfl⟩
  obtain⟨id,hid⟩:=y9_ h1;dsimp only at h2;subst h2;exact⟨id,f,hid⟩
 ·rintro⟨id,f,h⟩
  exact⟨(c,true,f),⟨List.mem_of_getElem? h,rfl⟩,rfl⟩
theorem Der.cut{C:List (List Int)}{s t:List Int}{l:Int}(h:Der C s l)(k:∀x∈s,Der C t x):Der C t l:=by
 induction h with
 |start h=>exact k _ h
 |unit hc hl _ ih=>exact .unit hc hl ih
theorem Conf.cut{C:List (List Int)}{s t:List Int}(h:Conf C s)(k:∀x∈s,Der C t x):Conf C t:=by
 rcases h with ⟨l,h1,h2⟩|⟨c,hc,h⟩
 ·exact .inl ⟨l,h1.cut k,h2.cut k⟩
 ·exact .inr ⟨c,hc,fun x hx=>(h x hx).cut k⟩
theorem y9j_{α:Type}[BEq α][LawfulBEq α]{p q:α->Bool}{a:α}:∀{xs:List α},xs.Nodup->a∈xs->p a=true->q a=false->(∀x∈xs,x≠a->p x=q x)->xs.countP p=xs.countP q+1
 | x::t,hn,ha,hp,hq,he=>by
  obtain⟨h1,h2⟩:=List.nodup_cons.1 hn;rcases List.mem_cons.1 ha with e|ha
  ·subst e
   rw[List.countP_cons_of_pos hp,List.countP_cons_of_neg (by simp[hq])]
   congr 1
   refine List.countP_congr fun y hy=>?_;rw[he y (by simp[hy]) fun e=>h1 (e▸hy)]
  ·have ih:=y9j_ h2 ha hp hq fun y hy hne=>he y (by simp[hy]) hne
   have hxa:x≠a:=fun e=>h1 (e▸ha);have:=he x (by simp) hxa;rw[List.countP_cons,List.countP_cons,ih,this];omega
section
variable{n:Nat}{s:PS}{l x:Int}{A:List Int}
theorem TrI.der0(h:TrI n s):∀(i:Nat) l,s.trail[i]?=some l->s.lv l=0->Der s.db A l:=by
 intro i
 induction i using Nat.strongRecOn with
 | ind i ih=>
  intro l hl h0;rcases h.rs i l hl with ⟨_,k,h1,_⟩|⟨id,c,f,_,h2,h3,h4⟩
  ·omega
  ·refine .unit (y32_.2 ⟨id,f,h2⟩) h3 fun x hx hne=>?_
   obtain⟨j,hj,hx2⟩:=h4 x hx hne;have h5:=h.mono (Nat.le_of_lt hj) hx2 hl;have h6:=h.lv _ (List.mem_of_getElem? hx2);exact ih j hj _ hx2 (by omega)
def bef(s:PS)(k:Nat)(v:Int):Bool:=(s.trail.take k).any fun l=>((l.natAbs:Nat):Int)==v
def topP(s:PS)(k:Nat)(v:Int):Bool:=(s.lev.getD v.toNat 0==(s.marks.length:Int))&&bef s k v
theorem yj7_{k:Nat}{v:Int}:bef s k v=true↔∃j l,j<k/\s.trail[j]?=some l/\(l.natAbs:Int)=v:=by
 unfold bef;simp only[List.any_eq_true,beq_iff_eq];constructor
 ·rintro⟨l,hl,e⟩
  obtain⟨j,hj⟩:=y9_ hl;have hjk:j<k:=by have:=y2_ hj;simp at this;omega
  exact⟨j,l,hjk,by rwa [List.getElem?_take_of_lt hjk]at hj,e⟩
 ·rintro⟨j,l,hj,hl,e⟩
  exact⟨l,List.mem_of_getElem? (i:=j) (by rw[List.getElem?_take_of_lt hj];exact hl),e⟩
theorem y13_{k:Nat}{v:Int}:topP s k v=true↔∃j l,j<k/\s.trail[j]?=some l/\(l.natAbs:Int)=v/\s.lv l=s.marks.length:=by
 unfold topP;rw[Bool.and_eq_true,beq_iff_eq,yj7_];constructor
 ·rintro⟨h1,j,l,h2,h3,h4⟩
  subst h4;exact⟨j,l,h2,h3,rfl,h1⟩
 ·rintro⟨j,l,h2,h3,h4,h5⟩
  subst h4;exact⟨h5,j,l,h2,h3,rfl⟩
structure LF(n:Nat)(s:PS)(k:Nat)(o rest:List Int)(many:Int):Prop where
 nd:o.Nodup
 on:∀v∈o,∃x,x∈s.trail/\(x.natAbs:Int)=v/\0<s.lv x
 rs:∀x∈rest,-x∈s.trail/\0<s.lv x/\s.lv x<s.marks.length/\(x.natAbs:Int)∈o
 rn:(rest.map Int.natAbs).Nodup
 cov:∀x∈s.trail,(x.natAbs:Int)∈o->s.lv x=s.marks.length∨-x∈rest
 many:many=(o.countP (topP s k):Nat)
def LImp(s:PS)(k:Nat)(o rest:List Int):Prop:=∀A,(∀x∈rest,Der s.db A (-x))->(∀(j:Nat) l,j<k->s.trail[j]?=some l->(l.natAbs:Int)∈o->s.lv l=s.marks.length->Der s.db A l)->Conf s.db A
def tkS(s:PS)(but:Int)(q:List Int×List Int×Int)(l:Int):List Int×List Int×Int:=
 if l=but\/(l.natAbs:Int)∈q.1\/s.lv l=0 then q else(q.1++[(l.natAbs:Int)],if s.lv l=s.marks.length then q.2.1 else q.2.1++[l],if s.lv l=s.marks.length then q.2.2+1 else q.2.2)
def tkF(s:PS)(but:Int)(c:List Int)(q:List Int×List Int×Int):List Int×List Int×Int:=c.foldl (tkS s but) q
theorem yiz_(h:TrI n s){k:Nat}{but:Int}{q:List Int×List Int×Int}(L:LF n s k q.1 q.2.1 q.2.2)(hl:l≠but->∃j,j<k/\s.trail[j]?=some (-l)) :
  LF n s k (tkS s but q l).1 (tkS s but q l).2.1 (tkS s but q l).2.2/\(∀v∈q.1,v∈(tkS s but q l).1)/\(∀x∈q.2.1,x∈(tkS s but q l).2.1)/\(l=but\/s.lv l=0\/(l.natAbs:Int)∈(tkS s but q l).1):=by
 unfold tkS;by_cases hc:l=but\/(l.natAbs:Int)∈q.1\/s.lv l=0
 ·rw[if_pos hc]
  refine⟨L,fun _ h=>h,fun _ h=>h,?_⟩;rcases hc with e|e|e
  ·exact .inl e
  ·exact .inr (.inr e)
  ·exact .inr (.inl e)
 ·rw[if_neg hc]
  have h1:l≠but:=fun e=>hc (.inl e);have h2:(l.natAbs:Int)∉q.1:=fun e=>hc (.inr (.inl e));have h3:s.lv l≠0:=fun e=>hc (.inr (.inr e));obtain⟨j,hj,hjl⟩:=hl h1;have hm:=List.mem_of_getElem? hjl;have hlv:=h.lv _ hm;rw[PS.lv_neg]at hlv;have hnew:∀x∈s.trail,(x.natAbs:Int)∈q.1++[(l.natAbs:Int)]->(x.natAbs:Int)∈q.1\/x = -l:=fun x hx hxm=>by
   rcases List.mem_append.1 hxm with w|w
   ·exact .inl w
   ·right
    have:=List.mem_singleton.1 w;exact h.abs hx hm (by rw[Int.natAbs_neg];omega)
  have hnd:(q.1++[(l.natAbs:Int)]).Nodup:=List.nodup_append.2 ⟨L.nd,by simp,fun x hx y hy e=>h2 (by rw[List.mem_singleton.1 hy]at e;rw[<-e];exact hx)⟩;have hon:∀v∈q.1++[(l.natAbs:Int)],∃x,x∈s.trail/\(x.natAbs:Int)=v/\0<s.lv x:=fun v hv=>by
   rcases List.mem_append.1 hv with w|w
   ·exact L.on v w
   ·exact⟨-l,hm,by rw[Int.natAbs_neg];exact(List.mem_singleton.1 w).symm,by rw[PS.lv_neg];omega⟩
  by_cases ht:s.lv l=s.marks.length
  ·simp only[if_pos ht]
   refine⟨⟨hnd,hon,fun x hx=>?_,L.rn,fun x hx hxm=>?_,?_⟩,fun v hv=>by simp[hv],fun _ h=>h,.inr (.inr (by simp))⟩
   ·obtain⟨a,b,c,d⟩:=L.rs x hx
    exact⟨a,b,c,by simp[d]⟩
   ·rcases hnew x hx hxm with w|w
    ·exact L.cov x hx w
    ·subst w;left;rw[PS.lv_neg];exact ht
   ·have:topP s k (l.natAbs:Int)=true:=y13_.2 ⟨j,-l,hj,hjl,by rw[Int.natAbs_neg],by rw[PS.lv_neg];exact ht⟩
    rw[List.countP_append,List.countP_cons_of_pos this,List.countP_nil];have:=L.many;omega
  ·simp only[if_neg ht]
   refine⟨⟨hnd,hon,fun x hx=>?_,?_,fun x hx hxm=>?_,?_⟩,fun v hv=>by simp[hv],fun _ h=>by simp[h],.inr (.inr (by simp))⟩
   ·rcases List.mem_append.1 hx with w|w
    ·obtain⟨a,b,c,d⟩:=L.rs x w
     exact⟨a,b,c,by simp[d]⟩
    ·rw[List.mem_singleton.1 w]
     exact⟨hm,by omega,by omega,by simp⟩
   ·rw[List.map_append]
    refine List.nodup_append.2 ⟨L.rn,by simp,fun a ha b hb e=>?_⟩;obtain⟨x,hx,rfl⟩:=List.mem_map.1 ha;have hb':b=l.natAbs:=by simpa using hb
    subst hb';exact h2 (by rw[<-e];exact(L.rs x hx).2.2.2)
   ·rcases hnew x hx hxm with w|w
    ·rcases L.cov x hx w with q|q
     ·exact .inl q
     ·exact .inr (by simp[q])
    ·subst w;right;simp
   ·have:topP s k (l.natAbs:Int)=false:=by
     rw[Bool.eq_false_iff];intro w;obtain⟨j',l',_,g2,g3,g4⟩:=y13_.1 w;have:=h.abs (List.mem_of_getElem? g2) hm (by rw[Int.natAbs_neg];omega);subst this;rw[PS.lv_neg]at g4;exact ht g4
    rw[List.countP_append,List.countP_cons_of_neg (by rw[this];simp),List.countP_nil];have:=L.many;omega
theorem y9r_(h:TrI n s){k:Nat}{but:Int}:∀(c:List Int) (q:List Int×List Int×Int),LF n s k q.1 q.2.1 q.2.2->(∀x∈c,x≠but->∃j,j<k/\s.trail[j]?=some (-x)) ->
  LF n s k (tkF s but c q).1 (tkF s but c q).2.1 (tkF s but c q).2.2/\(∀v∈q.1,v∈(tkF s but c q).1)/\(∀x∈q.2.1,x∈(tkF s but c q).2.1)/\∀x∈c,x=but\/s.lv x=0\/(x.natAbs:Int)∈(tkF s but c q).1
 |[],q,L,_=>⟨L,fun _ h=>h,fun _ h=>h,fun x hx=>by cases hx⟩
 | a::t,q,L,hc=>by
  obtain⟨g1,g2,g3,g4⟩:=yiz_ h L (l:=a) (but:=but) (hc a (by simp));obtain⟨f1,f2,f3,f4⟩:=y9r_ h t (tkS s but q a) g1 fun x hx=>hc x (by simp[hx]);refine⟨f1,fun v hv=>f2 v (g2 v hv),fun x hx=>f3 x (g3 x hx),fun x hx=>?_⟩;rcases List.mem_cons.1 hx with e|hx
  ·subst e
   rcases g4 with w|w|w
   ·exact .inl w
   ·exact .inr (.inl w)
   ·exact .inr (.inr (f2 _ w))
  ·exact f4 x hx
theorem LF.first(h:TrI n s){id:Nat}{c:List Int}{f:Bool}(hc:s.cls[id]?=some (c,true,f))(hf:∀x∈c,val s.vs x=2)(h0:(0:Int)∉c){r:List Int×List Int×Int}(hr:r=tkF s 0 c ([],[],0)) :
  LF n s s.trail.length r.1 r.2.1 r.2.2/\LImp s s.trail.length r.1 r.2.1/\((∃x∈c,s.lv x=s.marks.length)->0<s.marks.length->1<=r.2.2):=by
 subst hr;have hpos:∀x∈c,x≠0->∃j,j<s.trail.length/\s.trail[j]?=some (-x):=fun x hx _=>by
  obtain⟨j,hj⟩:=y9_ (h.neg.1 (hf x hx));exact⟨j,y2_ hj,hj⟩
 obtain⟨f1,f2,f3,f4⟩:=y9r_ h c ([],[],0) (⟨by simp,(fun v hv=>by cases hv),(fun x hx=>by cases hx),by simp,(fun x _ hx=>by cases hx),by simp⟩:LF n s s.trail.length [] [] 0) hpos;refine⟨f1,fun A hA1 hA2=>.inr ⟨c,y32_.2 ⟨id,f,hc⟩,fun x hx=>?_⟩,fun⟨x,hx,hxl⟩ h0l=>?_⟩
 ·obtain⟨j,hj,hjx⟩:=hpos x hx (fun e=>h0 (e▸hx))
  rcases f4 x hx with w|w|w
  ·exact absurd hx (w▸h0)
  ·exact h.der0 j _ hjx (by rw[PS.lv_neg];exact w)
  ·rcases f1.cov (-x) (List.mem_of_getElem? hjx) (by rw[Int.natAbs_neg];exact w)with q|q
   ·exact hA2 j _ hj hjx (by rw[Int.natAbs_neg];exact w) q
   ·rw[Int.neg_neg]at q
    exact hA1 x q
 ·obtain⟨j,hj,hjx⟩:=hpos x hx (fun e=>h0 (e▸hx))
  rcases f4 x hx with w|w|w
  ·exact absurd hx (w▸h0)
  ·omega
  ·have ht:topP s s.trail.length (x.natAbs:Int)=true:=y13_.2 ⟨j,-x,hj,hjx,by rw[Int.natAbs_neg],by rw[PS.lv_neg];exact hxl⟩
   have:=f1.many;have h2:0<(tkF s 0 c ([],[],0)).1.countP (topP s s.trail.length):=List.countP_pos_iff.2 ⟨_,w,ht⟩;omega
variable{i:Nat}{o rest:List Int}{many:Int}
theorem LF.pass(h:TrI n s)(hl:s.trail[i]?=some l)(L:LF n s (i+1) o rest many)(hI:LImp s (i+1) o rest)(hno:(l.natAbs:Int)∉o\/s.lv l≠s.marks.length):LF n s i o rest many/\LImp s i o rest:=by
 refine⟨⟨L.nd,L.on,L.rs,L.rn,L.cov,?_⟩,fun A h1 h2=>hI A h1 fun j l' hj hl' ho hlv=>?_⟩
 ·rw[L.many]
  congr 1
  refine List.countP_congr fun v hv=>?_;rw[y13_,y13_];constructor
  ·rintro⟨j,l',h1,h2,h3,h4⟩
   refine⟨j,l',?_,h2,h3,h4⟩;have:j≠i:=fun e=>by
    subst e;rw[hl]at h2;cases h2;rcases hno with q|q
    ·exact q (by rw[h3];exact hv)
    ·exact q h4
   omega
  ·rintro⟨j,l',h1,h2,h3,h4⟩
   exact⟨j,l',by omega,h2,h3,h4⟩
 ·have:j≠i:=fun e=>by
   subst e;rw[hl]at hl';cases hl';rcases hno with q|q
   ·exact q ho
   ·exact q hlv
  exact h2 j l' (by omega) hl' ho hlv
theorem LF.less(h:TrI n s)(hl:s.trail[i]?=some l)(L:LF n s (i+1) o rest many)(ho:(l.natAbs:Int)∈o)(hlv:s.lv l=s.marks.length):LF n s i o rest (many-1)/\1<=many:=by
 have hc:=y9j_ (p:=topP s (i+1)) (q:=topP s i) L.nd ho (y13_.2 ⟨i,l,by omega,hl,rfl,hlv⟩) (by
  rw[Bool.eq_false_iff];intro w;obtain⟨j,l',g1,g2,g3,_⟩:=y13_.1 w;have:=h.abs (List.mem_of_getElem? g2) (List.mem_of_getElem? hl) (by omega);subst this;have:=nd_ix h.nd g2 hl;omega) fun v hv hne=>by
   rw[Bool.eq_iff_iff,y13_,y13_];constructor
   ·rintro⟨j,l',h1,h2,h3,h4⟩
    refine⟨j,l',?_,h2,h3,h4⟩;have:j≠i:=fun e=>by
     subst e;rw[hl]at h2;cases h2;exact hne h3.symm
    omega
   ·rintro⟨j,l',h1,h2,h3,h4⟩
    exact⟨j,l',by omega,h2,h3,h4⟩
 have:=L.many;exact⟨⟨L.nd,L.on,L.rs,L.rn,L.cov,by omega⟩,by omega⟩
theorem LF.step(h:TrI n s)(hl:s.trail[i]?=some l)(L:LF n s (i+1) o rest many)(hI:LImp s (i+1) o rest)(ho:(l.natAbs:Int)∈o)(hlv:s.lv l=s.marks.length)(hm:many≠1) :
  ∃(id:Nat) (c:List Int) (f:Bool),s.re l=id/\s.cls[id]?=some (c,true,f)/\(∀x∈c,x≠l->∃j,j<i/\s.trail[j]?=some (-x)) /\
   LF n s i (tkF s l c (o,rest,many-1)).1 (tkF s l c (o,rest,many-1)).2.1 (tkF s l c (o,rest,many-1)).2.2/\LImp s i (tkF s l c (o,rest,many-1)).1 (tkF s l c (o,rest,many-1)).2.1/\1<=(tkF s l c (o,rest,many-1)).2.2:=by
 obtain⟨L1,hm1⟩:=L.less h hl ho hlv;have hp:0<o.countP (topP s i):=by have:=L1.many;omega
 obtain⟨v,hv,hv2⟩:=List.countP_pos_iff.1 hp;obtain⟨j,l',g1,g2,g3,g4⟩:=y13_.1 hv2;rcases h.rs i l hl with ⟨h1,k,h2,h3⟩|⟨id,c,f,h1,h2,h3,h4⟩
 ·exfalso
  obtain⟨a,e,_,q⟩:=h.mks k _ h3;have:=(q j l' g2).2 (by rw[g4];omega);omega
 ·refine⟨id,c,f,h1,h2,h4,?_⟩
  obtain⟨f1,f2,f3,f4⟩:=y9r_ h (k:=i) (but:=l) c (o,rest,many-1) L1 h4;refine⟨f1,fun A hA1 hA2=>?_,?_⟩
  ·have hdl:Der s.db A l:=.unit (y32_.2 ⟨id,f,h2⟩) h3 fun x hx hne=>by
    obtain⟨j,hj,hjx⟩:=h4 x hx hne;rcases f4 x hx with w|w|w
    ·exact absurd w hne
    ·exact h.der0 j _ hjx (by rw[PS.lv_neg];exact w)
    ·rcases f1.cov (-x) (List.mem_of_getElem? hjx) (by rw[Int.natAbs_neg];exact w)with q|q
     ·exact hA2 j _ hj hjx (by rw[Int.natAbs_neg];exact w) q
     ·rw[Int.neg_neg]at q
      exact hA1 x q
   refine hI A (fun x hx=>hA1 x (f3 x hx)) fun j' l2 hj' hl2 ho2 hlv2=>?_;by_cases e:j'=i
   ·subst e;rw[hl]at hl2;cases hl2;exact hdl
   ·exact hA2 j' l2 (by omega) hl2 (f2 _ ho2) hlv2
  ·have:=f1.many
   have h5:0<(tkF s l c (o,rest,many-1)).1.countP (topP s i):=List.countP_pos_iff.2 ⟨v,f2 v hv,hv2⟩;omega
structure Lrn(n:Nat)(s:PS)(c:List Int):Prop where
 hd:∃u t,c=u::t/\s.lv u=s.marks.length/\∀x∈t,s.lv x<s.marks.length
 fs:∀x∈c,-x∈s.trail/\0<s.lv x
 nd:(c.map Int.natAbs).Nodup
 conf:Conf s.db (negs c)
theorem LF.last(h:TrI n s)(hl:s.trail[i]?=some l)(L:LF n s (i+1) o rest many)(hI:LImp s (i+1) o rest)(ho:(l.natAbs:Int)∈o)(hlv:s.lv l=s.marks.length)(hm:many=1)(h0:0<s.marks.length):Lrn n s (-l::rest):=by
 obtain⟨L1,_⟩:=L.less h hl ho hlv;have hz:o.countP (topP s i)=0:=by have:=L1.many;omega
 refine⟨⟨-l,rest,rfl,by rw[PS.lv_neg];exact hlv,fun x hx=>(L.rs x hx).2.2.1⟩,fun x hx=>?_,?_,hI _ (fun x hx=>.start ?_) fun j l' hj hl' ho' hlv'=>.start ?_⟩
 ·rcases List.mem_cons.1 hx with e|hx
  ·subst e
   rw[Int.neg_neg,PS.lv_neg];exact⟨List.mem_of_getElem? hl,by omega⟩
  ·exact⟨(L.rs x hx).1,(L.rs x hx).2.1⟩
 ·rw[List.map_cons]
  refine List.nodup_cons.2 ⟨fun hm=>?_,L.rn⟩;obtain⟨x,hx,e⟩:=List.mem_map.1 hm;obtain⟨g1,g2,g3,g4⟩:=L.rs x hx;have:=h.abs g1 (List.mem_of_getElem? hl) (by rw[Int.natAbs_neg];rw[e,Int.natAbs_neg]);rw[<-this,PS.lv_neg]at hlv;omega
 ·simp only[negs,List.mem_map]
  exact⟨x,by simp[hx],rfl⟩
 ·have:j=i:=by
   refine Decidable.byContradiction fun hne=>?_;have:0<o.countP (topP s i):=List.countP_pos_iff.2 ⟨_,ho',y13_.2 ⟨j,l',by omega,hl',rfl,hlv'⟩⟩;omega
  subst this;rw[hl]at hl';cases hl';simp only[negs,List.mem_map];exact⟨-l,by simp,by simp⟩
end
end
section
open Go
def MO{R:Type}(o o':Option R):Prop:=∀r,o=some r->o'=some r
section
variable{R S X Y:Type}
theorem MO.rfl(o:Option R):MO o o:=fun _ h=>h
theorem MO.none(o:Option R):MO none o:=fun _ h=>by cases h
theorem MO.bind{o o':Option S}{K K':S->Option R}(h:MO o o')(k:∀r,MO (K r) (K' r)):MO (o.bind K) (o'.bind K'):=fun r e=>by
 cases ho:o with
 |none=>rw[ho]at e;cases e
 |some a=>
  rw[ho]at e;rw[h a ho];exact k a r e
theorem MO.cond{b:Bool}{x x' y y':Option R}(h:MO x x')(k:MO y y'):MO (cond b x y) (cond b x' y'):=by cases b<;>assumption
theorem MO.nilck{p:AVal}{X X':Option R}(h:MO X X'):MO (nilck p X) (nilck p X'):=by
 unfold A.nilck
 split<;>first|exact h|exact MO.none _
theorem MO.fld{p:AVal}{k:Nat}{K K':AVal->Option R}(h:∀a,MO (K a) (K' a)):MO (fld p k K) (fld p k K'):=by
 unfold A.fld
 split<;>first|exact h _|exact MO.none _
theorem MO.asK{kd:Kd}{v:AVal}{K K':kd.ty->Option R}(h:∀a,MO (K a) (K' a)):MO (asK kd v K) (asK kd v K'):=by
 cases kd<;>cases v<;>simp only[A.asK]<;>first|exact h _|exact MO.none _|(split<;>first|exact h _|exact MO.none _)
theorem MO.ld{σ:Heap}{p:AVal}{kd:Kd}{K K':kd.ty->Option R}(h:∀a,MO (K a) (K' a)):MO (ld σ p kd K) (ld σ p kd K'):=by
 unfold A.ld
 repeat' split
 all_goals first|exact MO.asK h|exact MO.none _
theorem MO.lenV{v:AVal}{K K':Int->Option R}(h:∀a,MO (K a) (K' a)):MO (lenV v K) (lenV v K'):=by
 unfold A.lenV
 split<;>first|exact h _|exact MO.none _
theorem MO.ixA{σ:Heap}{v:AVal}{sz:Nat}{i:Int}{K K':AVal->Option R}(h:∀a,MO (K a) (K' a)):MO (ixA σ v sz i K) (ixA σ v sz i K'):=by
 unfold A.ixA
 repeat' split
 all_goals first|exact h _|exact MO.none _
theorem MO.mgetZ{σ:Heap}{v:AVal}{k:IntKind}{n:Int}{z:AVal}{K K':AVal->Bool->Option R}(h:∀a b,MO (K a b) (K' a b)):MO (mgetZ σ v k n z K) (mgetZ σ v k n z K'):=by
 unfold A.mgetZ A.mgetK
 repeat' split
 all_goals first|exact h _ _|exact MO.none _
theorem MO.newK{σ:Heap}{sz:Nat}{cs:List AVal}{K K':Nat->Heap->Option R}(h:∀a b,MO (K a b) (K' a b)):MO (newK σ sz cs K) (newK σ sz cs K'):=h _ _
theorem MO.appC{σ:Heap}{sz bytes n:Nat}{s:AVal}{xs:List AVal}{K K':AVal->Heap->Option R}(h:∀a b,MO (K a b) (K' a b)):MO (appC σ sz bytes s xs n K) (appC σ sz bytes s xs n K'):=by
 unfold A.appC A.newK
 repeat' split
 all_goals first|exact h _ _|exact MO.none _
theorem MO.appS{σ:Heap}{sz bytes:Nat}{s x:AVal}{K K':AVal->Heap->Option R}(h:∀a b,MO (K a b) (K' a b)):MO (appS σ sz bytes s x K) (appS σ sz bytes s x K'):=by
 unfold A.appS A.srcK
 repeat' split
 all_goals first|exact MO.appC h|exact MO.none _
theorem MO.scal{v:AVal}{X X':Option R}(h:MO X X'):MO (scal v X) (scal v X'):=by
 unfold A.scal
 split<;>first|exact h|exact MO.none _
theorem MO.stC{σ:Heap}{p:AVal}{vs:List AVal}{K K':Heap->Option R}(h:∀a,MO (K a) (K' a)):MO (stC σ p vs K) (stC σ p vs K'):=by
 unfold A.stC
 repeat' split
 all_goals first|exact h _|exact MO.none _
theorem MO.loopN{f f':X->Heap->Option ((X⊕Y)×Heap)}(h:∀x σ,MO (f x σ) (f' x σ)):∀n x σ,MO (loopN f n x σ) (loopN f' n x σ)
 |0,x,σ=>by simp only[A.loopN];exact MO.none _
 | n+1,x,σ=>fun r e=>by
  simp only[A.loopN]at e⊢;cases hf:f x σ with
  |none=>rw[hf]at e;cases e
  |some q=>
   rw[hf]at e;rw[h x σ q hf];obtain⟨q,τ⟩:=q;cases q with
   |inl x'=>exact MO.loopN h n x' τ r e
   |inr y=>exact e
theorem MO.loopW{f f':X->Heap->Option ((X⊕Y)×Heap)}(h:∀x σ,MO (f x σ) (f' x σ)){x:X}{σ:Heap}:MO (loopW f x σ) (loopW f' x σ):=fun r e=>by
 unfold A.loopW at e
 split at e
 ·rename_i hx
  have h2:=hx.choose_spec.choose_spec;rw[Option.some.inj e]at h2;exact y82_ (MO.loopN h _ _ _ _ h2)
 ·cases e
theorem W.lim{g:Nat->Option R}{Q:R->Prop}(hm:∀n,MO (g n) (g (n+1)))(N:Nat)(h:W (g N) Q):W (lim g) Q:=by
  obtain⟨r,e,hr⟩:=h;refine⟨r,yk1_ N fun n hn=>?_,hr⟩
  induction n with
  | zero => have:N=0:=by omega
            subst this;exact e
  | succ n ih=>
    by_cases q:N=n+1
    · subst q;exact e
    · exact hm n r (ih (by omega))
end
theorem ycl_{self self':AVal->Int->Heap->Option (Bool×Heap)}(h:∀p v σ,MO (self p v σ) (self' p v σ))(p:AVal)(v:Int)(x:AVal)(k:Int)(z:Bool×Int)(σ:Heap):MO (S.z48.b0 self p v x k z σ) (S.z48.b0 self' p v x k z σ):=by
 unfold S.z48.b0;refine MO.cond ?_ (MO.rfl _);refine MO.ixA fun a=>MO.ld fun n=>MO.bind (MO.rfl _) fun r=>MO.bind ?_ fun r=>MO.rfl _;refine MO.cond ?_ (MO.rfl _);refine MO.nilck (MO.fld fun a=>MO.ld fun a=>MO.mgetZ fun a b=>MO.asK fun b=>MO.cond ?_ (MO.rfl _));exact MO.bind (h _ _ _) fun r=>MO.rfl _
theorem yev_{self self':AVal->Int->Heap->Option (Bool×Heap)}(h:∀p v σ,MO (self p v σ) (self' p v σ))(p:AVal)(v:Int)(σ:Heap):MO (S.z48.r self p v σ) (S.z48.r self' p v σ):=by
 unfold S.z48.r;refine MO.nilck (MO.fld fun a=>MO.ld fun a=>MO.mgetZ fun a b=>MO.asK fun b=>MO.cond (MO.rfl _) ?_);refine MO.nilck (MO.fld fun a=>MO.ld fun a=>MO.bind (MO.rfl _) fun r=>MO.bind ?_ fun r=>MO.rfl _);refine MO.cond ?_ (MO.rfl _);refine MO.nilck (MO.fld fun a=>MO.ld fun a=>MO.bind (MO.rfl _) fun r=>MO.lenV fun n=>MO.bind ?_ fun r=>MO.rfl _);exact MO.loopW fun x σ=>ycl_ h _ _ _ _ _ _
theorem yc3_(n:Nat):∀p v σ,MO (S.z48.n n p v σ) (S.z48.n (n+1) p v σ):=by
 induction n with
 |zero=>exact fun p v σ=>MO.none _
 |succ n ih=>exact fun p v σ=>yev_ ih p v σ
end
section
open Go
def tI:Nat->Bool:=fun j=>decide (16<=j)&&decide (j<=29)
theorem Hop.inT{σ0 σ τ:Heap}{T0 T T':Tg}{t:Nat}(h:Hop tI σ0 T0 σ T)(H:Hop (only t) σ T τ T')(ht:tI t=true:=by rfl):Hop tI σ0 T0 τ T':=h.trans (H.sub (fun i hi=>by
 have:i=t:=by simpa using hi
 rw[this];exact ht))
def sI:Nat->Bool:=fun j=>decide (16<=j)&&decide (j<=19)
theorem Hop.inS{σ0 σ τ:Heap}{T0 T T':Tg}{t:Nat}(h:Hop sI σ0 T0 σ T)(H:Hop (only t) σ T τ T')(ht:sI t=true:=by rfl):Hop sI σ0 T0 τ T':=h.trans (H.sub (fun i hi=>by
 have:i=t:=by simpa using hi
 rw[this];exact ht))
theorem Hop.st{σ τ:Heap}{T T':Tg}(H:Hop sI σ T τ T'):Hop tI σ T τ T':=H.sub fun i hi=>by simp only[sI,tI,Bool.and_eq_true,decide_eq_true_eq]at hi⊢;omega
theorem pI_tI(j:Nat)(h:pI j=true):tI j=false:=by
 simp only[pI,tI,Bool.or_eq_true,Bool.and_eq_true,decide_eq_true_eq,Bool.and_eq_false_iff,decide_eq_false_iff_not]at h⊢;omega
theorem W.lenMT{R:Type}{Q:R->Prop}{σ:Heap}{T:Tg}{t l:Nat}{ps:List (Int×AVal)}(h:MapV (σ.at T t) l ps){K:Int->Option R}(c:W (K (ps.length:Int)) Q):W (lenM σ (.map l) K) Q:=by
 have hg:=(ys_.1 h.get).2;refine W.to ?_ c;simp only[lenM,hg,ents,List.length_map]
structure SrH(σ:Heap)(T:Tg)(lp ls lm:Nat)(xo xr:AVal)(ps:List (Int×AVal))(top:Int)(q:List Int×List Int×Int):Prop where
 obj:Loc (σ.at T 16) ls [.ptr lp 0,.int .i64 top,.int .i64 q.2.2,.map lm,xo,xr]
 mp:MapV (σ.at T 17) lm ps
 lk:∀v,look ps v=if v∈q.1 then some (.bool true)else none
 ord:Own .int (σ.at T 18) q.1 xo
 rst:Own .int (σ.at T 19) q.2.1 xr
section
variable{σ τ:Heap}{T T':Tg}{lp ls lm n u:Nat}{h:PH}{s:PS}{xo xr x:AVal}{ps:List (Int×AVal)}{q:List Int×List Int×Int}{c:List Int}{but:Int}
theorem PropH.hopT(p:PropH σ T lp h s)(H:Hop tI σ T τ T'):PropH τ T' lp h s:=p.hop H pI_tI
theorem PropH.hopT1(p:PropH σ T lp h s){t:Nat}(H:Hop (only t) σ T τ T')(ht:tI t=true:=by rfl):PropH τ T' lp h s:=p.hop H fun j hj=>by
 have:=pI_tI j hj;simp only[only,beq_eq_false_iff_ne];intro e;subst e;rw[ht]at this;cases this
theorem ydc_(s:PS)(but:Int):∀(c:List Int) (q:List Int×List Int×Int),(tkF s but c q).1.length<=q.1.length+c.length/\(tkF s but c q).2.1.length<=q.2.1.length+c.length/\q.2.2<=(tkF s but c q).2.2/\(tkF s but c q).2.2<=q.2.2+c.length
 |[],q=>⟨by simp[tkF],by simp[tkF],by simp[tkF],by simp[tkF]⟩
 | a::t,q=>by
  obtain⟨h1,h2,h3,h4⟩:=ydc_ s but t (tkS s but q a);have e:tkF s but (a::t) q=tkF s but t (tkS s but q a):=rfl;rw[e];have h5:(tkS s but q a).1.length<=q.1.length+1/\(tkS s but q a).2.1.length<=q.2.1.length+1/\q.2.2<=(tkS s but q a).2.2/\(tkS s but q a).2.2<=q.2.2+1:=by
   unfold tkS
   split
   ·omega
   ·refine⟨by simp,?_,?_,?_⟩<;>dsimp only<;>split<;>first|omega|(simp;done)|(simp;omega)
  simp only[List.length_cons];omega
theorem yd7_(p:PropH σ T lp h s)(ht:TrI n s)(hn4:n<=4000)(hm:0<s.marks.length)(S1:SrH σ T lp ls lm xo xr ps (s.marks.length:Int) q)(hn:Tn σ T)(hc:SlV .int (σ.at T 0) c x)(hL:∀l∈c,isL l n=true)(hcl:c.length<=1000000)(h1:q.1.length<=1000000)(h2:q.2.1.length<=1000000)(h3:0<=q.2.2/\q.2.2<=1000000) :
  W (S.z47 (.ptr ls 0) x but σ) fun r=>∃T' xo' xr' ps',Hop sI σ T r.2 T'/\SrH r.2 T' lp ls lm xo' xr' ps' (s.marks.length:Int) (tkF s but c q):=by
 have hvs:=hc.up;unfold S.z47
 repeat' with_reducible first|refine W.bind ?_|refine W.len (by assumption) ?_
 refine W.mono (P:=fun r=>∃T' xo' xr' ps',Hop sI σ T r.2 T'/\SrH r.2 T' lp ls lm xo' xr' ps' (s.marks.length:Int) (tkF s but c q)) ?_ fun r hr=>W.ret hr;refine W.loop c.length (fun i (z:Int) τ=>z=(i:Int)/\∃T' xo' xr' ps',Hop sI σ T τ T'/\SlV .int (τ.at T' 0) c x/\PropH τ T' lp h s/\SrH τ T' lp ls lm xo' xr' ps' (s.marks.length:Int) (tkF s but (c.take i) q)) ⟨rfl,T,xo,xr,ps,Hop.refl hn,hc,p,S1⟩ fun i z τ hi hI=>?_;obtain⟨rfl,T1,xo,xr,ps,H1,hc,p1,S1⟩:=hI;have hn1:=H1.tn;have w:IntKind.i64.wrap ((i:Int)+1)=((i+1:Nat):Int):=by rw[wrapS]<;>omega
 unfold S.z47.b0
 (with_reducible refine W.cnd (fun hlt=>?_) (fun hlt=>?_)<;>(try simp only[qq,Kd.ty]at hlt)<;>(try (exfalso;omega)))
 ·obtain⟨a,ha⟩:=y3_ (xs:=c) (i:=i) (by omega)
  have haL:=hL a (List.mem_of_getElem? ha);have htk:c.take (i+1)=c.take i++[a]:=by rw[List.take_add_one,ha];rfl
  have hfd:tkF s but (c.take (i+1)) q=tkS s but (tkF s but (c.take i) q) a:=by rw[htk];unfold tkF;rw[List.foldl_append];rfl
  rw[hfd];have hlen:=ydc_ s but (c.take i) q;have hti:(c.take i).length<=1000000:=by simp;omega
  generalize tkF s but (c.take i) q=q1 at S1 hlen⊢;obtain⟨k1,k2,lk,k3,k4⟩:=S1
  repeat' with_reducible first|refine W.bind ?_|refine W.ixIc (SlV.up (by assumption)) (by assumption) ?_
  refine W.to (yk_ haL hn4) ?_
  repeat' with_reducible first|refine W.ret ?_|refine W.bind ?_|refine W.asV ?_|refine W.fldp ?_|refine W.nck ?_|refine W.u0 ?_
  refine W.to (y2t_ p1 ht haL) ?_;refine W.ret ?_;show W _ _;refine W.bind ?_;refine W.mono (P:=fun r=>r=(decide (a=but\/(a.natAbs:Int)∈q1.1\/s.lv a=0),τ)) ?_ fun r hr=>?_
  ·by_cases e1:a=but
   ·refine W.condT (by simp[e1]) ?_
    repeat' with_reducible refine W.ret ?_
    simp[e1]
   ·refine W.condF (by simp[e1]) ?_
    repeat' with_reducible first|refine W.asV ?_|refine W.fldp ?_|refine W.nck ?_|refine W.u0 ?_|refine W.mgetT (by assumption) ?_
    rw[lk];by_cases e2:(a.natAbs:Int)∈q1.1
    ·rw[if_pos e2]
     skip
     refine W.ret ?_;simp[e2]
    ·rw[if_neg e2]
     skip
     by_cases e3:s.lv a=0
     ·refine W.condT (by simp[e3]) ?_
      repeat' with_reducible first|refine W.ret ?_|refine W.asI ?_|refine W.fldp ?_|refine W.nck ?_|refine W.u0 ?_
      simp[e3];omega
     ·refine W.condF (by simp[e3]) ?_
      repeat' with_reducible refine W.ret ?_
      simp[e1,e2,e3]
  subst hr;unfold tkS;by_cases hq:a=but\/(a.natAbs:Int)∈q1.1\/s.lv a=0
  ·rw[if_pos hq]
   refine W.condT (decide_eq_true hq) ?_
   repeat' with_reducible first|refine W.next ?_|refine W.ret ?_
   exact⟨by omega,w,T1,xo,xr,ps,H1,hc,p1,k1,k2,lk,k3,k4⟩
  ·rw[if_neg hq]
   refine W.condF (decide_eq_false hq) ?_
   repeat' with_reducible first|refine W.asV ?_|refine W.fldp ?_|refine W.nck ?_|refine W.u0 ?_
   refine W.mputT k2 hn1 fun τ2 qs k2 hlk H2 _=>?_;replace H1:=H1.inS H2;replace p1:=p1.hopT1 H2;replace k1:=k1.hop H2;replace k3:=k3.hop H2;replace k4:=k4.hop H2;replace hc:=hc.hop H2;replace hn:=H2.tn
   repeat' with_reducible first|refine W.asV ?_|refine W.fldp ?_|refine W.nck ?_|refine W.u0 ?_
   refine W.own_push (bytes:=8) Vw.int_flat k3 H1.tn (a:=(a.natAbs:Int)) rfl (by omega) (by omega) fun xo2 τ3 T3 k3 H3=>?_;replace H1:=H1.inS H3;replace p1:=p1.hopT1 H3;replace k1:=k1.hop H3;replace k2:=k2.hop H3;replace k4:=k4.hop H3;replace hc:=hc.hop H3;replace hn:=H3.tn
   repeat' with_reducible first|refine W.fldp ?_|refine W.nck ?_|refine W.u4 ?_
   refine W.stT k1 hn (Nat.le_of_ble_eq_true (by rfl)) fun τ4 H4 k1 hnτ4=>?_;replace H1:=H1.inS H4;replace p1:=p1.hopT1 H4;replace k2:=k2.hop H4;replace k3:=k3.hop H4;replace k4:=k4.hop H4;replace hc:=hc.hop H4;replace hn:=H4.tn;have hlk2:∀v,look qs v=if v∈q1.1++[(a.natAbs:Int)]then some (.bool true)else none:=fun v=>by
    rw[hlk,lk];by_cases e:v=(a.natAbs:Int)
    ·rw[if_pos e,if_pos (by simp[e])]
    ·rw[if_neg e]
     by_cases e2:v∈q1.1
     ·rw[if_pos e2,if_pos (by simp[e2])]
     ·rw[if_neg e2,if_neg (by simp[e,e2])]
   repeat' with_reducible first|refine W.asI ?_|refine W.fldp ?_|refine W.nck ?_|refine W.u0 ?_
   by_cases ht2:s.lv a=s.marks.length
   ·simp only[if_pos ht2]
    refine W.condT (by simp[ht2]) ?_
    repeat' with_reducible first|refine W.asI ?_|refine W.fldp ?_|refine W.nck ?_|refine W.u0 ?_
    have w2:IntKind.i64.wrap (q1.2.2+1)=q1.2.2+1:=by rw[wrapS]<;>omega
    rw[w2];refine W.stT k1 hn (Nat.le_of_ble_eq_true (by rfl)) fun τ5 H5 k1 hnτ5=>?_;replace H1:=H1.inS H5;replace p1:=p1.hopT1 H5;replace k2:=k2.hop H5;replace k3:=k3.hop H5;replace k4:=k4.hop H5;replace hc:=hc.hop H5;replace hn:=H5.tn
    repeat' with_reducible first|refine W.next ?_|refine W.ret ?_
    exact⟨by omega,w,T3,xo2,xr,qs,H1,hc,p1,k1,k2,hlk2,k3,k4⟩
   ·simp only[if_neg ht2]
    refine W.condF (by simpa using ht2) ?_
    repeat' with_reducible first|refine W.asV ?_|refine W.fldp ?_|refine W.nck ?_|refine W.u0 ?_
    refine W.own_push (bytes:=8) Vw.int_flat k4 H1.tn (a:=a) rfl (by omega) (by omega) fun xr2 τ5 T5 k4 H5=>?_;replace H1:=H1.inS H5;replace p1:=p1.hopT1 H5;replace k1:=k1.hop H5;replace k2:=k2.hop H5;replace k3:=k3.hop H5;replace hc:=hc.hop H5;replace hn:=H5.tn
    repeat' with_reducible first|refine W.fldp ?_|refine W.nck ?_|refine W.u4 ?_
    refine W.stT k1 hn (Nat.le_of_ble_eq_true (by rfl)) fun τ6 H6 k1 hnτ6=>?_;replace H1:=H1.inS H6;replace p1:=p1.hopT1 H6;replace k2:=k2.hop H6;replace k3:=k3.hop H6;replace k4:=k4.hop H6;replace hc:=hc.hop H6;replace hn:=H6.tn
    repeat' with_reducible first|refine W.next ?_|refine W.ret ?_
    exact⟨by omega,w,T5,xo2,xr2,qs,H1,hc,p1,k1,k2,hlk2,k3,k4⟩
 ·repeat' (with_reducible refine W.stop ?_)
  rw[List.take_of_length_le (by omega)]at S1;exact⟨T1,xo,xr,ps,H1,S1⟩
end
end
section
open Go
section
variable{σ τ:Heap}{T T':Tg}{lp ls lm n u id:Nat}{h:PH}{s:PS}{xo xr x:AVal}{ps:List (Int×AVal)}{q:List Int×List Int×Int}{c:List Int}{but:Int}{f:Bool}
theorem y8q_(p:PropH σ T lp h s)(ht:TrI n s)(hn4:n<=4000){xs:List Int}(hc:SlV .int σ xs x)(hL:∀l∈xs,isL l n=true)(hcl:xs.length<=1000000) :
  W (S.z46 (.ptr lp 0) x σ) fun r=>0<=r/\(∀y∈xs,s.lv y<=r)/\(r=0\/∃y∈xs,s.lv y=r):=by
 unfold S.z46
 repeat' with_reducible first|refine W.bind ?_|refine W.len (by assumption) ?_
 refine W.mono (P:=fun r=>0<=r/\(∀y∈xs,s.lv y<=r)/\(r=0\/∃y∈xs,s.lv y=r)) ?_ fun r hr=>W.ret hr;refine W.loopP xs.length (fun i (z:Int×Int)=>z.2=(i:Int)/\0<=z.1/\(∀(j:Nat) y,j<i->xs[j]?=some y->s.lv y<=z.1)/\(z.1=0\/∃y∈xs,s.lv y=z.1)) ⟨rfl,by simp,fun j y hj=>by omega,.inl rfl⟩ fun i z hi hI=>?_;obtain⟨m,z⟩:=z;obtain⟨hz,h0,hall,hex⟩:=hI;dsimp only at hz h0 hall hex;subst hz;have w:IntKind.i64.wrap ((i:Int)+1)=((i+1:Nat):Int):=by rw[wrapS]<;>omega
 unfold S.z46.b0
 (with_reducible refine W.cnd (fun hlt=>?_) (fun hlt=>?_)<;>(try simp only[qq,Kd.ty]at hlt)<;>(try (exfalso;omega)))
 ·obtain⟨a,ha⟩:=y3_ (xs:=xs) (i:=i) (by omega)
  have haL:=hL a (List.mem_of_getElem? ha)
  repeat' with_reducible first|refine W.bind ?_|refine W.e2 ?_
  refine W.to (yk_ haL hn4) ?_
  repeat' with_reducible first|refine W.ret ?_|refine W.bind ?_
  refine W.to (y2t_ p ht haL) ?_
  repeat' with_reducible first|refine W.nextP ?_|refine W.ret ?_
  by_cases hg:s.lv a>m
  ·rw[if_pos hg]
   refine⟨by omega,w,by show 0<=s.lv a;omega,fun j y hj hy=>?_,.inr ⟨a,List.mem_of_getElem? ha,rfl⟩⟩;by_cases e:j=i
   ·subst e;rw[ha]at hy;cases hy;exact Int.le_refl _
   ·have:=hall j y (by omega) hy
    show s.lv y<=s.lv a;omega
  ·rw[if_neg hg]
   refine⟨by omega,w,h0,fun j y hj hy=>?_,hex⟩;by_cases e:j=i
   ·subst e;rw[ha]at hy;cases hy;show s.lv a<=m;omega
   ·exact hall j y (by omega) hy
 ·repeat' (with_reducible refine W.stopP ?_)
  exact⟨h0,fun y hy=>by
   obtain⟨j,hj⟩:=y9_ hy;exact hall j y (by have:=y2_ hj;omega) hj,hex⟩
theorem y77_(p:PropH σ T lp h s)(ht:TrI n s)(hn4:n<=4000){xs:List Int}(hc:SlV .int σ xs x)(hne:xs≠[])(hL:∀l∈xs,isL l n=true)(hcl:xs.length<=1000000) :
  W (S.z39 (.ptr lp 0) x σ) fun r=>0<=r/\(∀y∈xs.tail,s.lv y<=r)/\(r=0\/∃y∈xs.tail,s.lv y=r):=by
 have hl:0<xs.length:=List.length_pos_iff.2 hne;unfold S.z39
 repeat' (with_reducible refine W.len (by assumption) ?_)
 refine W.condF (by simp;exact hne) ?_;obtain⟨y,e5,hy⟩:=hc.slice (lo:=1) (hi:=xs.length) (by omega) (Nat.le_refl _);rw[List.take_length,List.drop_one]at hy;refine W.to ((e5 (Hle.refl σ) _).2 rfl) ?_;refine W.bind ?_;refine W.mono (y8q_ p ht hn4 hy (fun l hl=>hL l (List.mem_of_mem_tail hl)) (by simp;omega)) fun r hr=>?_
 repeat' with_reducible refine W.ret ?_
 exact hr
theorem yd5_(p:PropH σ T lp h s)(ht:TrI n s)(hn4:n<=4000)(hn:Tn σ T){t:Nat}(htg:tI t=false){xs:List Int}(hc:SlV .int (σ.at T t) xs x)(hL:∀l∈xs,isL l n=true)(hcl:xs.length<=1000000) :
  W (S.z42 (.ptr lp 0) x σ) fun r=>∃T',Hop (only 22) σ T r.2 T':=by
 have ht22:(only 22) t=false:=by
  simp only[only,beq_eq_false_iff_ne];intro e;subst e;cases htg
 unfold S.z42;refine W.newMT 22 hn fun l τ1 T1 _ H1 hm _=>?_;have hc1:=hc.hop H1 ht22;have p1:=p.hopT1 H1
 repeat' with_reducible first|refine W.bind ?_|refine W.len (by assumption) ?_
 refine W.mono (P:=fun r=>∃T' ps,Hop (only 22) σ T r.2 T'/\MapV (r.2.at T' 22) l ps) ?_ fun r hr=>?_
 ·refine W.loop xs.length (fun i (z:Int) τ=>z=(i:Int)/\∃T' ps,Hop (only 22) σ T τ T'/\MapV (τ.at T' 22) l ps/\SlV .int (τ.at T' t) xs x/\PropH τ T' lp h s) ⟨rfl,T1,_,H1,hm,hc1,p1⟩ fun i z τ hi hI=>?_
  obtain⟨rfl,T2,qs,H2,hm,hc2,p2⟩:=hI;have w:IntKind.i64.wrap ((i:Int)+1)=((i+1:Nat):Int):=by rw[wrapS]<;>omega
  unfold S.z42.b0
  (with_reducible refine W.cnd (fun hlt=>?_) (fun hlt=>?_)<;>(try simp only[qq,Kd.ty]at hlt)<;>(try (exfalso;omega)))
  ·obtain⟨a,ha⟩:=y3_ (xs:=xs) (i:=i) (by omega)
   have haL:=hL a (List.mem_of_getElem? ha)
   repeat' with_reducible first|refine W.bind ?_|refine W.ixIc (SlV.up (by assumption)) (by assumption) ?_
   refine W.to (yk_ haL hn4) ?_
   repeat' with_reducible first|refine W.ret ?_|refine W.bind ?_
   refine W.to (y2t_ p2 ht haL) ?_
   repeat' with_reducible refine W.ret ?_
   refine W.mputT hm H2.tn fun τ3 qs2 hm _ H3 _=>?_
   repeat' (with_reducible refine W.next ?_)
   exact⟨by omega,w,T2,qs2,H2.trans H3,hm,hc2.hop H3 ht22,p2.hopT1 H3⟩
  ·repeat' (with_reducible refine W.stop ?_)
   exact⟨T2,qs,H2,hm⟩
 ·obtain⟨r,τ2⟩:=r
  obtain⟨T2,qs,H2,hm⟩:=hr;dsimp only at hm⊢;refine W.lenMT hm ?_
  repeat' with_reducible refine W.ret ?_
  exact⟨T2,H2⟩
theorem ygv_(p:PropH σ T lp h s)(ht:TrI n s)(hn4:n<=4000)(hn:Tn σ T){xs:List Int}(hc:SlV .int σ xs x)(hL:∀l∈xs,isL l n=true)(hcl:xs.length<=1000000)(hf:∀l∈xs,val s.vs l=2) :
  W (S.z44 (.ptr lp 0) x σ) fun r=>r.1=true/\Hle σ r.2:=by
 unfold S.z44
 repeat' (with_reducible refine W.scP ?_)
 refine W.new0 hn fun l1 τ1 _ L1 hl hn1=>?_;have p1:=p.hle L1;refine W.bind ?_;refine W.mono (y1f_ (fun l=>val s.vs l != 2) (hc.mono L1) (by omega) fun l hl2 Rt K=>?_) fun r hr=>?_
 ·show((S.z45 l (.ptr l1 0) τ1).bind fun x=>K (retV [.B] x) τ1)=_
  have e:S.z45 l (.ptr l1 0) τ1=some (val s.vs l != 2):=by
   obtain⟨r,e,rfl⟩:W (S.z45 l (.ptr l1 0) τ1) fun r=>r=(val s.vs l != 2):=by
    unfold S.z45
    repeat' with_reducible first|refine W.bind ?_|refine W.asV ?_|refine W.u0 ?_
    refine W.to (y1u_ p1 ht hn4 (hL l hl2)) ?_
    repeat' with_reducible refine W.ret ?_
    rfl
   exact e
  rw[e];rfl
 ·subst hr
  repeat' with_reducible refine W.ret ?_
  refine⟨?_,L1⟩;simp only[Bool.not_eq_true',List.any_eq_false];intro l hl2;simp[hf l hl2]
theorem LF.small{k:Nat}{o rest:List Int}{many:Int}(L:LF n s k o rest many)(ht:TrI n s):o.length<=n/\rest.length<=n/\0<=many/\many<=n:=by
 have h1:o.length<=n:=by
  have:=y2j_ n (o.map Int.toNat) ?_ ?_
  ·simpa using this
  ·unfold List.Nodup
   rw[List.pairwise_map];exact L.nd.imp_of_mem fun {a b} ha hb hne e=>hne (by
    obtain⟨x,_,e1,_⟩:=L.on a ha;obtain⟨y,_,e2,_⟩:=L.on b hb;omega)
  ·intro v hv
   obtain⟨a,ha,rfl⟩:=List.mem_map.1 hv;obtain⟨x,hx,e,_⟩:=L.on a ha;have:=yb_ (ht.rng x hx);omega
 have h2:rest.length<=n:=by
  have:=y2j_ n (rest.map Int.natAbs) L.rn fun v hv=>by
   obtain⟨a,ha,rfl⟩:=List.mem_map.1 hv;have:=yb_ (ht.rng _ (L.rs a ha).1);omega
  simpa using this
 have h3:=List.countP_le_length (p:=topP s k) (l:=o);have:=L.many;exact⟨h1,h2,by omega,by omega⟩
theorem Lrn.lits{c:List Int}(L:Lrn n s c)(ht:TrI n s):(∀l∈c,isL l n=true)/\c.length<=n:=by
 have h1:∀l∈c,isL l n=true:=fun l hl=>by
  have:=y6z_ (ht.rng _ (L.fs l hl).1)
  rwa [Int.neg_neg]at this
 refine⟨h1,?_⟩;have:=y2j_ n (c.map Int.natAbs) L.nd fun v hv=>by
  obtain⟨a,ha,rfl⟩:=List.mem_map.1 hv;have:=yb_ (h1 a ha);omega
 simpa using this
theorem yk0_(p:PropH σ T lp h s)(hn:Tn σ T)(ht:TrI n s)(hci:ClI n s)(hn4:n<=4000)(hm:0<s.marks.length)(hc:s.cls[id]?=some (c,true,f))(hf:∀y∈c,val s.vs y=2)(hx:∃y∈c,s.lv y=s.marks.length) :
  W (S.z41 (.ptr lp 0) (id:Int) σ) fun r=>∃T' xc back score xs c o,Hop tI σ T r.2 T'/\r.1=(.agg [xc,.int .i64 back,.int .i64 score,xs],true)/\SlV .int (r.2.at T' 0) c xc/\SlV .int (r.2.at T' 0) o xs/\Lrn n s c/\(∀v∈o,1<=v/\v<=n)/\o.length<=n:=by
 have hcn:=hci.len hc;have hcL:=(hci id c f hc).1;have hne:c≠[]:=by
  obtain⟨y,hy,_⟩:=hx;intro e;rw[e]at hy;cases hy
 have h0c:(0:Int)∉c:=fun e=>(yb_ (hcL 0 e)).1 rfl;unfold S.z41;refine W.newT 21 hn fun l1 τ1 T1 hl1 H1 k21 hnτ1=>?_;have HH:Hop tI σ T τ1 T1:=(Hop.refl hn).inT H1;replace p:=p.hopT1 H1;refine W.bind ?_;refine W.mono (y1n_ p HH.tn hc (by omega)) fun r hr=>?_;obtain⟨z,τ2⟩:=r;obtain⟨L2,hz⟩:=hr;dsimp only at L2 hz⊢;rw[if_pos rfl]at hz;replace HH:=HH.hle L2;replace p:=p.hle L2;replace k21:=k21.hle L2;have hzu:=hz.up
 repeat' with_reducible first|refine W.bind ?_|refine W.len (by assumption) ?_
 refine W.condF (by simpa using hne) ?_;refine W.bind ?_;refine W.to (y6b_ p) ?_;refine W.ret ?_;show W _ _;have hmn:s.marks≠[]:=List.length_pos_iff.1 hm;refine W.condF (by simpa using hmn) ?_;refine W.bind ?_;refine W.mono (ygv_ p ht hn4 HH.tn hzu hcL (by omega) hf) fun r hr=>?_;obtain⟨r,τ3⟩:=r;obtain⟨e3,L3⟩:=hr;dsimp only at e3 L3⊢;subst e3;replace HH:=HH.hle L3;replace p:=p.hle L3;replace k21:=k21.hle L3;replace hz:=hz.hle L3;refine W.ret ?_;show W _ _;refine W.bind ?_;refine W.mono (y8q_ p ht hn4 hz.up hcL (by omega)) fun r hr=>?_;obtain⟨g1,g2,g3⟩:=hr;have hg:r=(s.marks.length:Int):=by
  obtain⟨y,hy,hyl⟩:=hx;have h1:=g2 y hy;rcases g3 with e|⟨w,hw,e⟩
  ·omega
  ·have:=(ht.rank_le (hf w hw)).2.2
   omega
 subst hg;refine W.newMT 17 HH.tn fun lm τ4 T4 _ H4 k17 _=>?_;replace HH:=HH.inT H4;replace p:=p.hopT1 H4;replace k21:=k21.hop H4;replace hz:=hz.hop H4;replace hn:=H4.tn
 repeat' (with_reducible refine W.scP ?_)
 refine W.newT 16 hn fun ls τ5 T5 hls H5 k16 hnτ5=>?_;replace HH:=HH.inT H5;replace p:=p.hopT1 H5;replace k21:=k21.hop H5;replace hz:=hz.hop H5;replace k17:=k17.hop H5;replace hn:=H5.tn;have S5:SrH τ5 T5 lp ls lm .nils .nils [] (s.marks.length:Int) ([],[],0):=⟨k16,k17,fun v=>by simp[look],.nil,.nil⟩;refine W.bind ?_;refine W.mono (yd7_ p ht hn4 hm S5 HH.tn hz hcL (by omega) (by simp) (by simp) (by simp)) fun r hr=>?_;obtain⟨r,τ6⟩:=r;obtain⟨T6,xo,xr,ps,H6,S6⟩:=hr;dsimp only at H6 S6⊢;obtain⟨F1,F2,F3⟩:=LF.first (n:=n) ht hc hf h0c rfl
 have F3:=F3 hx hm;generalize hq:tkF s 0 c ([],[],0)=q at S6 F1 F2 F3;replace HH:=HH.trans H6.st;replace p:=p.hopT H6.st;replace k21:=k21.hop H6;refine W.bind ?_;refine W.mono (ydn_ p HH.tn ht hn4) fun r hr=>?_;obtain⟨zt,τ7⟩:=r;obtain⟨L7,hzt⟩:=hr;dsimp only at L7 hzt⊢;replace HH:=HH.hle L7;replace p:=p.hle L7;replace k21:=k21.hle L7;have hztu:=hzt.up;have S7:SrH τ7 T6 lp ls lm xo xr ps (s.marks.length:Int) q:=⟨S6.obj.hle L7,S6.mp.hle L7,S6.lk,S6.ord.hle L7,S6.rst.hle L7⟩;have hlT:=ht.lenT;have w0:IntKind.i64.wrap ((s.trail.length:Int)-1)=(s.trail.length:Int)-1:=by rw[wrapS]<;>omega
 refine W.len hztu ?_;refine W.bind ?_;rw[w0];refine W.mono (P:=fun r=>r.1=.inr true/\∃T' xc back score xs c o,Hop tI σ T r.2 T'/\Loc (r.2.at T' 21) l1 [xc,.int .i64 back,.int .i64 score,xs]/\SlV .int (r.2.at T' 0) c xc/\SlV .int (r.2.at T' 0) o xs/\Lrn n s c/\(∀v∈o,1<=v/\v<=(n:Int))/\o.length<=n) ?_ fun r hr=>?_
 ·refine W.loopI (m:=s.trail.length) (fun m (z:Int) τ=>∃(T':Tg) (xo xr:AVal) (ps:List (Int×AVal)) (q:List Int×List Int×Int) (cs:List AVal),z=(m:Int)-1/\m<=s.trail.length/\Hop tI σ T τ T'/\PropH τ T' lp h s/\Loc (τ.at T' 21) l1 cs/\cs.length=4/\SlV .int (τ.at T' 0) s.trail zt/\SrH τ T' lp ls lm xo xr ps (s.marks.length:Int) q/\LF n s m q.1 q.2.1 q.2.2/\LImp s m q.1 q.2.1/\1<=q.2.2)
   ⟨T6,xo,xr,ps,q,_,rfl,Nat.le_refl _,HH,p,k21,rfl,hzt,S7,F1,F2,F3⟩ fun m z τ8 hI=>?_
  obtain⟨T8,xo,xr,ps,q,cs,rfl,hmt,HH,p,k21,hcs,hzt,S8,F1,F2,F3⟩:=hI;unfold S.z41.b0;cases m with
  | zero=>
   exfalso;have h1:=F1.many;have h2:q.1.countP (topP s 0)=0:=by
    rw[List.countP_eq_zero];intro v _ hv;obtain⟨j,_,hj,_⟩:=y13_.1 hv;omega
   omega
  | succ i=>
   rw[show((i+1:Nat):Int)-1=(i:Int) by omega];refine W.condT (by simp) ?_;obtain⟨l,hl⟩:=y3_ (xs:=s.trail) (i:=i) (by omega);have hlL:=ht.rng l (List.mem_of_getElem? hl);have hl0:=ym_.1 hlL;obtain⟨z1,z2,z3,z4⟩:=F1.small ht;have wi:IntKind.i64.wrap ((i:Int)-1)=(i:Int)-1:=by rw[wrapS]<;>omega
   obtain⟨k16,k17,lk,k18,k19⟩:=S8;have hztu:=hzt.up
   repeat' with_reducible first|refine W.bind ?_|refine W.e2 ?_
   refine W.to (yk_ hlL hn4) ?_
   repeat' with_reducible first|refine W.ret ?_|refine W.bind ?_|refine W.asV ?_|refine W.fldp ?_|refine W.nck ?_|refine W.u0 ?_|refine W.mgetT (by assumption) ?_
   refine W.mono (P:=fun r=>r=(!decide ((l.natAbs:Int)∈q.1/\s.lv l=s.marks.length),τ8)) ?_ fun r hr=>?_
   ·rw[lk]
    by_cases e2:(l.natAbs:Int)∈q.1
    ·rw[if_pos e2]
     skip
     refine W.bind ?_;refine W.to (y2t_ p ht hlL) ?_
     repeat' with_reducible first|refine W.ret ?_|refine W.asI ?_|refine W.fldp ?_|refine W.nck ?_|refine W.u0 ?_
     by_cases e3:s.lv l=s.marks.length<;>simp[e2,e3]
    ·rw[if_neg e2]
     skip
     refine W.ret ?_;simp[e2]
   subst hr;by_cases hin:(l.natAbs:Int)∈q.1/\s.lv l=s.marks.length
   ·obtain⟨ho,hlv⟩:=hin
    refine W.condF (by simp[ho,hlv]) ?_
    repeat' with_reducible first|refine W.asI ?_|refine W.fldp ?_|refine W.nck ?_|refine W.u0 ?_
    by_cases hone:q.2.2=1
    ·refine W.condT (by simp[hone]) ?_
     have hLrn:=F1.last ht hl F2 ho hlv hone hm;obtain⟨hLl,hLn⟩:=hLrn.lits ht;have wn:IntKind.i64.wrap (0-l) = -l:=by rw[wrapS]<;>omega
     rw[wn];refine W.newO (v:=Vw.int) 20 HH.tn (-l) rfl (fun _=>rfl) fun l38 τ9 T9 H9 k20 _=>?_;replace HH:=HH.inT H9;replace p:=p.hopT1 H9;replace k16:=k16.hop H9;replace k17:=k17.hop H9;replace k18:=k18.hop H9;replace k19:=k19.hop H9;replace k21:=k21.hop H9;replace hn:=H9.tn
     repeat' with_reducible first|refine W.asV ?_|refine W.fldp ?_|refine W.nck ?_|refine W.u0 ?_
     refine W.own_app (bytes:=8) Vw.int_flat k20 HH.tn k19.slT (by simp;omega) (by simp;omega) fun xc τ10 T10 k20 H10=>?_;replace HH:=HH.inT H10;replace p:=p.hopT1 H10;replace k16:=k16.hop H10;replace k17:=k17.hop H10;replace k18:=k18.hop H10;replace k19:=k19.hop H10;replace k21:=k21.hop H10;replace hn:=H10.tn;have e20:[-l]++q.2.1 = -l::q.2.1:=rfl;rw[e20]at k20;have k20u:=k20.slT;refine W.bind ?_;refine W.mono (y77_ p ht hn4 k20u (by simp) hLl (by omega)) fun back hback=>?_;obtain⟨T11,H11,k0⟩:=k20.retag (u:=0) Vw.int_flat HH.tn;replace HH:=HH.inT H11;replace p:=p.hopT1 H11;replace k16:=k16.hop H11;replace k17:=k17.hop H11;replace k18:=k18.hop H11;replace k19:=k19.hop H11;replace k21:=k21.hop H11;replace hn:=H11.tn;have k16o:=k16;refine W.bind ?_;refine W.mono (yd5_ p ht hn4 HH.tn (t:=0) rfl k0.sl hLl (by omega)) fun r hr=>?_;obtain⟨score,τ12⟩:=r;obtain⟨T12,H12⟩:=hr;dsimp only at H12⊢;replace HH:=HH.inT H12;replace p:=p.hopT1 H12;replace k0:=k0.hop H12;replace k16:=k16.hop H12;replace k17:=k17.hop H12;replace k18:=k18.hop H12;replace k19:=k19.hop H12;replace k21:=k21.hop H12;replace hn:=H12.tn
     repeat' with_reducible first|refine W.asV ?_|refine W.chk rfl ?_|refine W.fldp ?_|refine W.scalS (by assumption) ?_|refine W.nck ?_|refine W.u0 ?_|refine W.u4 ?_
     refine W.stT k21 hn (by simp[hcs]) fun τ13 H13 k21 _=>?_;have e21:cs.take 0++[xc,.int .i64 back,.int .i64 score,xo]++cs.drop (0+[xc,AVal.int .i64 back,AVal.int .i64 score,xo].length)=[xc,.int .i64 back,.int .i64 score,xo]:=by simp[hcs]
     rw[e21]at k21;replace HH:=HH.inT H13;replace k0:=k0.hop H13;replace k18:=k18.hop H13;replace hn:=H13.tn;obtain⟨T14,H14,k18⟩:=k18.retag (u:=0) Vw.int_flat HH.tn;replace HH:=HH.inT H14;replace k0:=k0.hop H14;replace k21:=k21.hop H14
     repeat' with_reducible first|refine W.stop ?_|refine W.ret ?_
     refine⟨rfl,T14,xc,back,score,xo,-l::q.2.1,q.1,HH,k21,k0.sl,k18.sl,hLrn,fun v hv=>?_,z1⟩;obtain⟨y,hy,e,_⟩:=F1.on v hv;have:=yb_ (ht.rng y hy);omega
    ·refine W.condF (by simp[hone]) ?_
     obtain⟨jd,d,g,e1,e2,e3,e4,e5,e6⟩:=F1.step ht hl F2 ho hlv hone;have hdn:=hci.len e2;have hdL:=(hci jd d g e2).1;have wm:IntKind.i64.wrap (q.2.2-1)=q.2.2-1:=by rw[wrapS]<;>omega
     repeat' with_reducible first|refine W.asI ?_|refine W.fldp ?_|refine W.nck ?_|refine W.u0 ?_
     rw[wm];have hn:=HH.tn;refine W.stT k16 hn (Nat.le_of_ble_eq_true (by rfl)) fun τ9 H9 k16 hnτ9=>?_;replace HH:=HH.inT H9;replace p:=p.hopT1 H9;replace k17:=k17.hop H9;replace k18:=k18.hop H9;replace k19:=k19.hop H9;replace k21:=k21.hop H9;replace hn:=H9.tn;replace hzt:=hzt.hop H9;refine W.bind ?_;refine W.to (y6d_ p ht hlL) ?_;refine W.ret ?_;show W _ _;rw[e1];refine W.bind ?_;refine W.mono (y1n_ p HH.tn e2 (by omega)) fun r hr=>?_;obtain⟨y,τ10⟩:=r;obtain⟨L10,hy⟩:=hr;dsimp only at L10 hy⊢;rw[if_pos rfl]at hy;replace HH:=HH.hle L10;replace p:=p.hle L10;replace k16:=k16.hle L10;replace k17:=k17.hle L10;replace k18:=k18.hle L10;replace k19:=k19.hle L10;replace k21:=k21.hle L10;replace hzt:=hzt.hle L10;replace hn:=hn.mono L10;have S10:SrH τ10 T8 lp ls lm xo xr ps (s.marks.length:Int) (q.1,q.2.1,q.2.2-1):=⟨k16,k17,lk,k18,k19⟩;refine W.bind ?_;refine W.mono (yd7_ (but:=l) p ht hn4 hm S10 HH.tn hy hdL (by omega) (by show q.1.length<=_;omega) (by show q.2.1.length<=_;omega) (by show 0<=q.2.2-1/\q.2.2-1<=1000000;omega)) fun r hr=>?_;obtain⟨r,τ11⟩:=r;obtain⟨T11,xo',xr',ps',H11,S11⟩:=hr;dsimp only at H11 S11⊢
     repeat' with_reducible first|refine W.next ?_|refine W.ret ?_
     exact⟨i,by omega,T11,xo',xr',ps',_,cs,wi,by omega,HH.trans H11.st,p.hopT H11.st,k21.hop H11,hcs,hzt.hop H11,S11,e4,e5,e6⟩
   ·refine W.condT (by rw[decide_eq_false hin];rfl) ?_
    repeat' with_reducible first|refine W.next ?_|refine W.ret ?_
    obtain⟨g1,g2⟩:=F1.pass ht hl F2 (by
     by_cases e:(l.natAbs:Int)∈q.1
     ·exact .inr fun w=>hin ⟨e,w⟩
     ·exact .inl e)
    exact⟨i,by omega,T8,xo,xr,ps,q,cs,wi,by omega,HH,p,k21,hcs,hzt,⟨k16,k17,lk,k18,k19⟩,g1,g2,F3⟩
 ·obtain⟨r,τ8⟩:=r
  obtain⟨e,T8,xc,back,score,xs,c',o,H8,k21,q1,q2,q3,q4,q5⟩:=hr;dsimp only at e H8 k21 q1 q2⊢;subst e
  repeat' with_reducible first|refine W.ret ?_|refine W.u1 ?_
  exact⟨T8,xc,back,score,xs,c',o,H8,rfl,q1,q2,q3,q4,q5⟩
end
end
section
open Go
def Fol(s:PS)(IN:List Int)(v:Int):Prop:=∃(i:Nat) (l:Int),s.trail[i]?=some l/\(l.natAbs:Int)=v/\∀A,(∀(j:Nat) y,j<i->s.trail[j]?=some y->(y.natAbs:Int)∈IN->Der s.db A y)->Der s.db A l
structure ShH(s:PS)(σ:Heap)(T:Tg)(lp ls l1 l3:Nat)(IN:List Int):Prop where
 obj:Loc (σ.at T 16) ls [.ptr lp 0,.map l1,.map l3]
 mi:∃ps,MapV (σ.at T 17) l1 ps/\∀v,look ps v=if v∈IN then some (.bool true)else none
 mw:∃ps,MapV (σ.at T 23) l3 ps/\∀v,look ps v=none\/∃b,look ps v=some (.bool b)/\(b=true->Fol s IN v)
section
variable{σ τ:Heap}{T T':Tg}{lp ls l1 l3 n u id:Nat}{h:PH}{s:PS}{x:AVal}{c IN:List Int}{f:Bool}{I:Nat->Bool}
theorem ShH.hop(S1:ShH s σ T lp ls l1 l3 IN)(H:Hop I σ T τ T')(h1:I 16=false:=by rfl)(h2:I 17=false:=by rfl)(h3:I 23=false:=by rfl):ShH s τ T' lp ls l1 l3 IN:=by
 obtain⟨k1,⟨ps,k2,k3⟩,qs,k4,k5⟩:=S1;exact⟨k1.hop H h1,⟨ps,k2.hop H h2,k3⟩,qs,k4.hop H h3,k5⟩
theorem ShH.hle(S1:ShH s σ T lp ls l1 l3 IN)(L:Hle σ τ):ShH s τ T lp ls l1 l3 IN:=by
 obtain⟨k1,⟨ps,k2,k3⟩,qs,k4,k5⟩:=S1;exact⟨k1.hle L,⟨ps,k2.hle L,k3⟩,qs,k4.hle L,k5⟩
theorem ydw_(ht:TrI n s)(hci:ClI n s)(hn4:n<=4000):∀(m:Nat) {σ:Heap} {T:Tg} {l:Int} (i:Nat),PropH σ T lp h s->ShH s σ T lp ls l1 l3 IN->Tn σ T->s.trail[i]?=some l->i<m ->
  W (S.z48.n m (.ptr ls 0) (l.natAbs:Int) σ) fun r=>∃T',Hop (only 23) σ T r.2 T'/\ShH s r.2 T' lp ls l1 l3 IN/\(r.1=true->Fol s IN (l.natAbs:Int)):=by
 intro m
 induction m with
 |zero=>intro σ T l i _ _ _ _ hi;omega
 | succ m ih=>
  intro σ T l i p S1 hn hl hi;have hlm:=List.mem_of_getElem? hl;have hlL:=ht.rng l hlm;obtain⟨k1,⟨ps,k2,k3⟩,qs,k4,k5⟩:=S1;show W (S.z48.r (S.z48.n m) (.ptr ls 0) (l.natAbs:Int) σ) _;unfold S.z48.r
  repeat' with_reducible first|refine W.asV ?_|refine W.fldp ?_|refine W.nck ?_|refine W.u0 ?_|refine W.mgetT (by assumption) ?_
  rcases k5 (l.natAbs:Int)with hk|⟨b,hk,hb⟩
  ·rw[hk]
   dsimp only[Option.getD,Option.isSome]
   repeat' (with_reducible refine W.asB ?_)
   rw[cond_false]
   repeat' with_reducible first|refine W.bind ?_|refine W.asV ?_|refine W.fldp ?_|refine W.nck ?_|refine W.u0 ?_
   refine W.to (y6d_ p ht hlL) ?_;refine W.ret ?_;show W _ _;refine W.bind ?_;refine W.mono (P:=fun r=>∃T',Hop (only 23) σ T r.2 T'/\PropH r.2 T' lp h s/\ShH s r.2 T' lp ls l1 l3 IN/\(r.1=true->Fol s IN (l.natAbs:Int))) ?_ fun r hr=>?_
   ·rcases ht.rs i l hl with ⟨e,_⟩|⟨id,c,g,e1,e2,e3,e4⟩
    ·rw[e]
     refine W.condF (by decide) ?_
     repeat' with_reducible refine W.ret ?_
     exact⟨T,Hop.refl hn,p,⟨k1,⟨ps,k2,k3⟩,qs,k4,k5⟩,fun q=>by cases q⟩
    ·rw[e1]
     have hcn:=hci.len e2;have hcL:=(hci id c g e2).1;refine W.condT (by simp) ?_
     repeat' with_reducible first|refine W.bind ?_|refine W.asV ?_|refine W.fldp ?_|refine W.nck ?_|refine W.u0 ?_
     refine W.mono (y1n_ p hn e2 (by omega)) fun r hr=>?_;obtain⟨y,τ1⟩:=r;obtain⟨L1,hy⟩:=hr;dsimp only at L1 hy⊢;rw[if_pos rfl]at hy;have hyu:=hy.up
     repeat' with_reducible first|refine W.bind ?_|refine W.len (by assumption) ?_
     refine W.mono (P:=fun r=>∃T',Hop (only 23) σ T r.2 T'/\PropH r.2 T' lp h s/\ShH s r.2 T' lp ls l1 l3 IN/\(r.1=true->∀x∈c,x≠l->(x.natAbs:Int)∈IN\/Fol s IN (x.natAbs:Int))) ?_ fun r hr=>?_
     ·refine W.loop c.length (fun i (z:Bool×Int) τ=>z=(true,(i:Int))/\∃T',Hop (only 23) σ T τ T'/\PropH τ T' lp h s/\SlV .int (τ.at T' 0) c y/\ShH s τ T' lp ls l1 l3 IN/\∀(j:Nat) x,j<i->c[j]?=some x->x≠l->(x.natAbs:Int)∈IN\/Fol s IN (x.natAbs:Int)) ⟨by simp,T,Hop.of hn L1,p.hle L1,hy,ShH.hle ⟨k1,⟨ps,k2,k3⟩,qs,k4,k5⟩ L1,fun j x hj=>by omega⟩ fun k z τ2 hk2 hI=>?_
      obtain⟨rfl,T2,H2,p2,hy2,S2,hall⟩:=hI;have w:IntKind.i64.wrap ((k:Int)+1)=((k+1:Nat):Int):=by rw[wrapS]<;>omega
      unfold S.z48.b0
      (with_reducible refine W.cnd (fun hlt=>?_) (fun hlt=>?_)<;>(try simp only[qq,Kd.ty]at hlt)<;>(try (exfalso;omega)))
      ·obtain⟨a,ha⟩:=y3_ (xs:=c) (i:=k) (by omega)
       have hac:=List.mem_of_getElem? ha;have haL:=hcL a hac;have hvar:a≠l->a.natAbs≠l.natAbs:=fun hne e=>by
        obtain⟨j,hj,hja⟩:=e4 a hac hne;have:=ht.abs (List.mem_of_getElem? hja) hlm (by rw[Int.natAbs_neg];exact e);subst this;have:=nd_ix ht.nd hja hl;omega
       have S2':=S2;obtain⟨k1,⟨ps,k2,k3⟩,qs,k4,k5⟩:=S2';have hy2u:=hy2.up
       repeat' with_reducible first|refine W.bind ?_|refine W.e2 ?_
       refine W.to (yk_ haL hn4) ?_
       repeat' with_reducible first|refine W.ret ?_|refine W.bind ?_
       refine W.mono (P:=fun r=>∃T',Hop (only 23) σ T r.2 T'/\PropH r.2 T' lp h s/\SlV .int (r.2.at T' 0) c y/\ShH s r.2 T' lp ls l1 l3 IN/\(r.1=false->a≠l->(a.natAbs:Int)∈IN\/Fol s IN (a.natAbs:Int))) ?_ fun r hr=>?_
       ·by_cases e:a=l
        ·refine W.condF (by simp[e]) ?_
         repeat' with_reducible refine W.ret ?_
         exact⟨T2,H2,p2,hy2,S2,fun _ q=>absurd e q⟩
        ·refine W.condT (by have:=hvar e;simp;omega) ?_
         repeat' with_reducible first|refine W.asV ?_|refine W.fldp ?_|refine W.nck ?_|refine W.u0 ?_|refine W.mgetT (by assumption) ?_
         rw[k3];by_cases e2:(a.natAbs:Int)∈IN
         ·rw[if_pos e2]
          skip
          refine W.ret ?_;exact⟨T2,H2,p2,hy2,S2,fun _ _=>.inl e2⟩
         ·rw[if_neg e2]
          skip
          obtain⟨j,hj,hja⟩:=e4 a hac e;have hrec:=ih j p2 S2 H2.tn hja (by omega);rw[Int.natAbs_neg]at hrec;refine W.bind ?_;refine W.mono hrec fun r hr=>?_;obtain⟨b,τ3⟩:=r;obtain⟨T3,H3,S3,hb⟩:=hr;dsimp only at H3 S3 hb⊢
          repeat' with_reducible refine W.ret ?_
          exact⟨T3,H2.trans H3,p2.hopT1 H3,hy2.hop H3,S3,fun q _=>.inr (hb (by simpa using q))⟩
       ·obtain⟨b,τ3⟩:=r
        obtain⟨T3,H3,p3,hy3,S3,hb⟩:=hr;dsimp only at H3 p3 hy3 S3 hb⊢;cases b with
        |true=>
         refine W.condT rfl ?_
         repeat' (with_reducible refine W.stop ?_)
         exact⟨T3,H3,p3,S3,fun q=>by cases q⟩
        |false=>
         refine W.condF rfl ?_
         repeat' (with_reducible refine W.next ?_)
         refine⟨by omega,by rw[w],T3,H3,p3,hy3,S3,fun j x hj hx hne=>?_⟩;by_cases e:j=k
         ·subst e;rw[ha]at hx;cases hx;exact hb rfl hne
         ·exact hall j x (by omega) hx hne
      ·repeat' (with_reducible refine W.stop ?_)
       exact⟨T2,H2,p2,S2,fun _ x hx hne=>by
        obtain⟨j,hj⟩:=y9_ hx;exact hall j x (by have:=y2_ hj;omega) hj hne⟩
     ·obtain⟨b,τ2⟩:=r
      obtain⟨T2,H2,p2,S2,hb⟩:=hr;dsimp only at H2 p2 S2 hb⊢
      repeat' with_reducible refine W.ret ?_
      refine⟨T2,H2,p2,S2,fun q=>⟨i,l,hl,rfl,fun A hA=>.unit (y32_.2 ⟨id,g,e2⟩) e3 fun x hx hne=>?_⟩⟩;obtain⟨j,hj,hjx⟩:=e4 x hx hne;rcases hb q x hx hne with w|⟨i',l',g1,g2,g3⟩
      ·exact hA j _ hj hjx (by rw[Int.natAbs_neg];exact w)
      ·have:l' = -x:=ht.abs (List.mem_of_getElem? g1) (List.mem_of_getElem? hjx) (by rw[Int.natAbs_neg];omega)
       subst this;have:=nd_ix ht.nd g1 hjx;subst this;exact g3 A fun j' y hj' hy=>hA j' y (by omega) hy
   ·obtain⟨b,τ2⟩:=r
    obtain⟨T2,H2,p2,S2,hb⟩:=hr;dsimp only at H2 p2 S2 hb⊢;obtain⟨k1,⟨ps,k2,k3⟩,qs,k4,k5⟩:=S2
    repeat' with_reducible first|refine W.asV ?_|refine W.fldp ?_|refine W.nck ?_|refine W.u0 ?_
    refine W.mputT k4 H2.tn fun τ3 qs3 k4 hlk H3 _=>?_;replace k1:=k1.hop H3;replace k2:=k2.hop H3;replace hn:=H3.tn
    repeat' with_reducible refine W.ret ?_
    refine⟨T2,H2.trans H3,⟨k1,⟨ps,k2,k3⟩,qs3,k4,fun v=>?_⟩,hb⟩;rw[hlk];by_cases e:v=(l.natAbs:Int)
    ·rw[if_pos e];exact .inr ⟨b,rfl,fun q=>by rw[e];exact hb q⟩
    ·rw[if_neg e];exact k5 v
  ·rw[hk]
   dsimp only[Option.getD,Option.isSome]
   repeat' (with_reducible refine W.asB ?_)
   refine W.ret ?_;exact⟨T,Hop.refl hn,⟨k1,⟨ps,k2,k3⟩,qs,k4,k5⟩,hb⟩
theorem ygl_(ht:TrI n s)(hci:ClI n s)(hn4:n<=4000){l:Int}(p:PropH σ T lp h s)(S1:ShH s σ T lp ls l1 l3 IN)(hn:Tn σ T)(hl:l∈s.trail) :
  W (S.z48 (.ptr ls 0) (l.natAbs:Int) σ) fun r=>∃T',Hop (only 23) σ T r.2 T'/\ShH s r.2 T' lp ls l1 l3 IN/\(r.1=true->Fol s IN (l.natAbs:Int)):=by
 obtain⟨i,hi⟩:=y9_ hl;unfold S.z48;exact W.lim (fun m=>yc3_ m _ _ _) (i+1) (ydw_ ht hci hn4 (i+1) i p S1 hn hi (by omega))
theorem Lrn.short{k:List Int}(L:Lrn n s c)(ht:TrI n s)(hd:k.head?=c.head?)(hs:k.Sublist c)(hf:∀x∈c,x∈k\/Fol s (c.map fun x=>(x.natAbs:Int)) (x.natAbs:Int)):Lrn n s k:=by
 obtain⟨u,t,e,h1,h2⟩:=L.hd;subst e;obtain⟨k',rfl⟩:∃k',k=u::k':=by
  cases k with
  |nil=>simp at hd
  |cons a k'=>simp at hd;exact⟨k',by rw[hd]⟩
 have hs':k'.Sublist t:=by
  cases hs with
  |cons _ h=>exact(List.sublist_cons_self u k').trans h
  |cons_cons _ h=>exact h
 have key:∀(i:Nat) y,s.trail[i]?=some y->(y.natAbs:Int)∈(u::t).map (fun x=>(x.natAbs:Int))->Der s.db (negs (u::k')) y:=by
  intro i
  induction i using Nat.strongRecOn with
  | ind i ih=>
   intro y hy hin;obtain⟨x,hx,e⟩:=List.mem_map.1 hin;have hxm:=(L.fs x hx).1;have hyx:y = -x:=ht.abs (List.mem_of_getElem? hy) hxm (by rw[Int.natAbs_neg];omega);rcases hf x hx with w|⟨i',l',g1,g2,g3⟩
   ·exact .start (by rw[hyx];exact List.mem_map.2 ⟨x,w,rfl⟩)
   ·have hly:l'=y:=ht.abs (List.mem_of_getElem? g1) (List.mem_of_getElem? hy) (by omega)
    subst hly;have:=nd_ix ht.nd g1 hy;subst this;exact g3 _ fun j z hj hz hzin=>ih j hj z hz hzin
 refine⟨⟨u,k',rfl,h1,fun x hx=>h2 x (hs'.mem hx)⟩,fun x hx=>L.fs x (hs.mem hx),L.nd.sublist (hs.map _),L.conf.cut fun y hy=>?_⟩;obtain⟨x,hx,rfl⟩:=List.mem_map.1 hy;obtain⟨i,hi⟩:=y9_ (L.fs x hx).1;exact key i _ hi (by rw[Int.natAbs_neg];exact List.mem_map.2 ⟨x,hx,rfl⟩)
theorem ygf_(p:PropH σ T lp h s)(hn:Tn σ T)(ht:TrI n s)(hci:ClI n s)(hn4:n<=4000)(L:Lrn n s c)(hc:SlV .int (σ.at T 0) c x) :
  W (S.z43 (.ptr lp 0) x σ) fun r=>∃T' k,Hop tI σ T r.2 T'/\SlV .int (r.2.at T' 0) k r.1/\Lrn n s k/\k.Sublist c:=by
 obtain⟨hcL,hcn⟩:=L.lits ht;unfold S.z43;refine W.newMT 17 hn fun l1 τ1 T1 _ H1 k17 _=>?_;have HH:Hop tI σ T τ1 T1:=(Hop.refl hn).inT H1;replace p:=p.hopT1 H1;replace hc:=hc.hop H1;replace hn:=H1.tn;refine W.newMT 23 hn fun l3 τ2 T2 _ H2 k23 _=>?_;replace HH:=HH.inT H2;replace p:=p.hopT1 H2;replace hc:=hc.hop H2;replace k17:=k17.hop H2;replace hn:=H2.tn
 repeat' (with_reducible refine W.scP ?_)
 refine W.newT 16 hn fun ls τ3 T3 hls H3 k16 hnτ3=>?_;replace HH:=HH.inT H3;replace p:=p.hopT1 H3;replace hc:=hc.hop H3;replace k17:=k17.hop H3;replace k23:=k23.hop H3;replace hn:=H3.tn;have hcu:=hc.up
 repeat' with_reducible first|refine W.bind ?_|refine W.len (by assumption) ?_
 refine W.mono (P:=fun r=>∃T',Hop tI σ T r.2 T'/\PropH r.2 T' lp h s/\SlV .int (r.2.at T' 0) c x/\ShH s r.2 T' lp ls l1 l3 (c.map fun x=>(x.natAbs:Int))) ?_ fun r hr=>?_
 ·refine W.loop c.length (fun i (z:Int) τ=>z=(i:Int)/\∃T' ps,Hop tI σ T τ T'/\PropH τ T' lp h s/\SlV .int (τ.at T' 0) c x/\Loc (τ.at T' 16) ls [.ptr lp 0,.map l1,.map l3]/\MapV (τ.at T' 17) l1 ps/\(∀v,look ps v=if v∈(c.take i).map (fun x=>(x.natAbs:Int))then some (.bool true)else none)/\MapV (τ.at T' 23) l3 []) ⟨rfl,T3,[],HH,p,hc,k16,k17,fun v=>by simp[look],k23⟩ fun i z τ4 hi hI=>?_
  obtain⟨rfl,T4,ps,HH,p,hc,k16,k17,lk,k23⟩:=hI;have w:IntKind.i64.wrap ((i:Int)+1)=((i+1:Nat):Int):=by rw[wrapS]<;>omega
  unfold S.z43.b0
  (with_reducible refine W.cnd (fun hlt=>?_) (fun hlt=>?_)<;>(try simp only[qq,Kd.ty]at hlt)<;>(try (exfalso;omega)))
  ·obtain⟨a,ha⟩:=y3_ (xs:=c) (i:=i) (by omega)
   have haL:=hcL a (List.mem_of_getElem? ha);have hcu:=hc.up
   repeat' with_reducible first|refine W.bind ?_|refine W.asV ?_|refine W.fldp ?_|refine W.e2 ?_|refine W.nck ?_|refine W.u0 ?_
   refine W.to (yk_ haL hn4) ?_
   repeat' with_reducible refine W.ret ?_
   refine W.mputT k17 HH.tn fun τ5 qs k17 hlk H5 _=>?_
   repeat' (with_reducible refine W.next ?_)
   refine⟨by omega,w,T4,qs,HH.inT H5,p.hopT1 H5,hc.hop H5,k16.hop H5,k17,fun v=>?_,k23.hop H5⟩;have htk:c.take (i+1)=c.take i++[a]:=by rw[List.take_add_one,ha];rfl
   rw[hlk,lk,htk,List.map_append];by_cases e:v=(a.natAbs:Int)
   ·rw[if_pos e,if_pos (by simp[e])]
   ·rw[if_neg e]
    by_cases e2:v∈(c.take i).map fun x=>(x.natAbs:Int)
    ·rw[if_pos e2,if_pos (List.mem_append.2 (.inl e2))]
    ·rw[if_neg e2,if_neg]
     intro q;rcases List.mem_append.1 q with q|q
     ·exact e2 q
     ·exact e (by simpa using q)
  ·repeat' (with_reducible refine W.stop ?_)
   rw[List.take_of_length_le (by omega)]at lk;exact⟨T4,HH,p,hc,k16,⟨ps,k17,lk⟩,[],k23,fun v=>.inl rfl⟩
 ·obtain⟨r,τ4⟩:=r
  obtain⟨T4,HH,p,hc,S4⟩:=hr;dsimp only at HH p hc S4⊢;have hcu:=hc.up
  repeat' with_reducible first|refine W.bind ?_|refine W.len (by assumption) ?_
  refine W.mono (P:=fun r=>∃T' k,Hop tI σ T r.2 T'/\Own .int (r.2.at T' 20) k r.1/\k.Sublist c/\k.head?=c.head?/\∀x∈c,x∈k\/Fol s (c.map fun x=>(x.natAbs:Int)) (x.natAbs:Int)) ?_ fun r hr=>?_
  ·refine W.loop c.length (fun i (z:AVal×Int) τ=>z.2=(i:Int)/\∃T' k,Hop tI σ T τ T'/\PropH τ T' lp h s/\SlV .int (τ.at T' 0) c x/\ShH s τ T' lp ls l1 l3 (c.map fun x=>(x.natAbs:Int))/\Own .int (τ.at T' 20) k z.1/\k.Sublist (c.take i)/\(0<i->k.head?=c.head?)/\∀(j:Nat) x,j<i->c[j]?=some x->x∈k\/Fol s (c.map fun x=>(x.natAbs:Int)) (x.natAbs:Int)) ⟨rfl,T4,[],HH,p,hc,S4,.nil,by simp,fun q=>by omega,fun j x hj=>by omega⟩ fun i z τ5 hi hI=>?_
   obtain⟨z,zi⟩:=z;obtain⟨hz,T5,k,HH,p,hc,S5,k20,hks,hkh,hall⟩:=hI;dsimp only at hz k20;subst hz;have w:IntKind.i64.wrap ((i:Int)+1)=((i+1:Nat):Int):=by rw[wrapS]<;>omega
   unfold S.z43.b1
   (with_reducible refine W.cnd (fun hlt=>?_) (fun hlt=>?_)<;>(try simp only[qq,Kd.ty]at hlt)<;>(try (exfalso;omega)))
   ·obtain⟨a,ha⟩:=y3_ (xs:=c) (i:=i) (by omega)
    have hac:=List.mem_of_getElem? ha;have haL:=hcL a hac;have hcu:=hc.up;have htk:c.take (i+1)=c.take i++[a]:=by rw[List.take_add_one,ha];rfl
    have hkl:=hks.length_le;simp at hkl
    repeat' with_reducible first|refine W.bind ?_|refine W.e2 ?_
    refine W.mono (P:=fun r=>∃T',Hop tI σ T r.2 T'/\PropH r.2 T' lp h s/\SlV .int (r.2.at T' 0) c x/\ShH s r.2 T' lp ls l1 l3 (c.map fun x=>(x.natAbs:Int))/\Own .int (r.2.at T' 20) k z/\(r.1=true->0<i/\Fol s (c.map fun x=>(x.natAbs:Int)) (a.natAbs:Int))) ?_ fun r hr=>?_
    ·(with_reducible refine W.cnd (fun hi0=>?_) (fun hi0=>?_)<;>(try simp only[qq,Kd.ty]at hi0)<;>(try (exfalso;omega)))
     ·repeat' (with_reducible refine W.bind ?_)
      refine W.to (yk_ haL hn4) ?_;refine W.ret ?_;show W _ _;have hf:=ygl_ ht hci hn4 p S5 HH.tn (L.fs a hac).1;rw[Int.natAbs_neg]at hf;refine W.bind ?_;refine W.mono hf fun r hr=>?_;obtain⟨b,τ6⟩:=r;obtain⟨T6,H6,S6,hb⟩:=hr
      repeat' with_reducible refine W.ret ?_
      exact⟨T6,HH.inT H6,p.hopT1 H6,hc.hop H6,S6,k20.hop H6,fun q=>⟨by omega,hb q⟩⟩
     ·repeat' with_reducible refine W.ret ?_
      exact⟨T5,HH,p,hc,S5,k20,fun q=>by cases q⟩
    ·obtain⟨b,τ6⟩:=r
     obtain⟨T6,HH,p,hc,S6,k20,hb⟩:=hr;dsimp only at HH p hc S6 k20 hb⊢;cases b with
     |true=>
      obtain⟨hi0,hF⟩:=hb rfl;refine W.condT rfl ?_
      repeat' with_reducible first|refine W.next ?_|refine W.ret ?_
      refine⟨by omega,w,T6,k,HH,p,hc,S6,k20,by rw[htk];exact hks.trans (List.sublist_append_left _ _),fun _=>hkh hi0,fun j x hj hx=>?_⟩;by_cases e:j=i
      ·subst e;rw[ha]at hx;cases hx;exact .inr hF
      ·exact hall j x (by omega) hx
     | false=>
      refine W.condF rfl ?_;refine W.own_push (bytes:=8) Vw.int_flat k20 HH.tn (a:=a) rfl (by omega) (by omega) fun x2 τ7 T7 k20 H7=>?_
      repeat' with_reducible first|refine W.next ?_|refine W.ret ?_
      refine⟨by omega,w,T7,k++[a],HH.inT H7,p.hopT1 H7,hc.hop H7,S6.hop H7,k20,by rw[htk];exact List.Sublist.append hks (List.Sublist.refl _),fun _=>?_,fun j x hj hx=>?_⟩
      ·by_cases hi0:0<i
       ·have:=hkh hi0
        cases k with
        |nil=>
         cases c with
         |nil=>simp at ha
         |cons u t=>simp at this
        |cons u t=>simpa using this
       ·have:i=0:=by omega
        subst this;have:k=[]:=by simpa using hks
        subst this;cases c with
        |nil=>simp at ha
        |cons u t=>simp at ha;simp[ha]
      ·by_cases e:j=i
       ·subst e;rw[ha]at hx;cases hx;left;simp
       ·rcases hall j x (by omega) hx with w|w
        ·left;simp[w]
        ·exact .inr w
   ·repeat' (with_reducible refine W.stop ?_)
    have:i=c.length:=by omega
    subst this;rw[List.take_length]at hks;refine⟨T5,k,HH,k20,hks,hkh ?_,fun y hy=>?_⟩
    ·obtain⟨u,t,e,_⟩:=L.hd
     rw[e];simp
    ·obtain⟨j,hj⟩:=y9_ hy
     exact hall j y (y2_ hj) hj
  ·obtain⟨z,τ5⟩:=r
   obtain⟨T5,k,HH,k20,g1,g2,g3⟩:=hr;dsimp only at HH k20⊢;obtain⟨T6,H6,k0⟩:=k20.retag (u:=0) Vw.int_flat HH.tn
   repeat' with_reducible refine W.ret ?_
   exact⟨T6,k,HH.inT H6,k0.sl,L.short ht g2 g1 g3,g1⟩
end
end
section
open Go
section
variable{σ τ:Heap}{T T':Tg}{lp n t:Nat}{h:PH}{s:PS}{l:Int}{x:AVal}{k:List Int}
theorem yfy_(hO:Own .int (σ.at T t) k x)(hn:Tn σ T)(hl:k.length<=1000000):W (S.z127 x σ) fun r=>∃k',k'.Perm k/\Own .int (r.2.at T t) k' x/\Hop (only t) σ T r.2 T:=by
 have w0:IntKind.i64.wrap ((k.length:Int)-1)=(k.length:Int)-1:=by rw[wrapS]<;>omega
 unfold S.z127
 repeat' with_reducible first|refine W.bind ?_|refine W.u3 ?_
 rw[w0];refine W.mono (P:=fun r=>∃k',k'.Perm k/\Own .int (r.2.at T t) k' x/\Hop (only t) σ T r.2 T) ?_ fun r hr=>W.ret hr;refine W.loop k.length (fun i (z:Int×Int) τ=>z=((i:Int),(k.length:Int)-1-i)/\∃k',k'.Perm k/\Own .int (τ.at T t) k' x/\Hop (only t) σ T τ T) ⟨by simp,k,.refl _,hO,Hop.refl hn⟩ fun i z τ hi hI=>?_;obtain⟨rfl,k',hp,hO,H⟩:=hI;have hlen:=hp.length_eq;unfold S.z127.b0
 (with_reducible refine W.cnd (fun hlt=>?_) (fun hlt=>?_)<;>(try simp only[qq,Kd.ty]at hlt)<;>(try (exfalso;omega)))
 ·obtain⟨a,ha⟩:=y3_ (xs:=k') (i:=i) (by omega)
  obtain⟨j,hj⟩:∃j:Nat,(k.length:Int)-1-i=j:=⟨k.length-1-i,by omega⟩;rw[hj]at hlt⊢;obtain⟨d,hd⟩:=y3_ (xs:=k') (i:=j) (by omega);have w1:IntKind.i64.wrap ((i:Int)+1)=((i+1:Nat):Int):=by rw[wrapS]<;>omega
  have w2:IntKind.i64.wrap ((j:Int)-1)=(k.length:Int)-1-((i+1:Nat):Int):=by rw[wrapS]<;>omega
  have hOs:=hO.slT
  repeat' (with_reducible refine W.e2 ?_)
  refine W.ixO hO.slT (i:=i) (by omega) ?_;refine W.own_setI hO H.tn (by omega) fun τ1 hO1 H1 _=>?_;refine W.ixO hO1.slT (i:=j) (by simp;omega) ?_;refine W.own_setI hO1 H1.tn (by simp;omega) fun τ2 hO2 H2 _=>?_
  repeat' (with_reducible refine W.next ?_)
  refine⟨by omega,by rw[w1,w2],swapL k' i j,(y16_ (by omega) (by omega)).trans hp,?_,(H.trans H1).trans H2⟩;have e:(k'.set i d).set j a=swapL k' i j:=by
   unfold swapL;rw[List.getD_eq_getElem?_getD,List.getD_eq_getElem?_getD,ha,hd];rfl
  rw[<-e];exact hO2
 ·repeat' (with_reducible refine W.stop ?_)
  exact⟨k',hp,hO,H⟩
def FImp(s:PS)(m:Nat)(sn ds:List Int)(l:Int):Prop:=∀A,(∀d∈ds,Der s.db A d)->(∀(j:Nat) y,j<m->s.trail[j]?=some y->(y.natAbs:Int)∈sn->Der s.db A y)->Der s.db A (-l)
theorem yi1_(p:PropH σ T lp h s)(hn:Tn σ T)(ht:TrI n s)(hci:ClI n s)(hn4:n<=4000)(hl:isL l n=true)(hf:val s.vs l=2) :
  W (S.z40 (.ptr lp 0) l σ) fun r=>∃T' ds,Hop tI σ T r.2 T'/\Own .int (r.2.at T' 20) ds r.1/\(∀d∈ds,d∈s.trail/\s.re d = -1)/\Der s.db ds (-l)/\ds.length<=n:=by
 have hlT:=ht.lenT;have hlm:=ht.neg.1 hf;unfold S.z40;refine W.bind ?_;refine W.to (y1u_ p ht hn4 hl) ?_;refine W.ret ?_;show W _ _;refine W.condF (by simp[hf]) ?_;refine W.newMT 17 hn fun lm τ1 T1 _ H1 k17 _=>?_;have HH:Hop tI σ T τ1 T1:=(Hop.refl hn).inT H1;replace p:=p.hopT1 H1;refine W.bind ?_;refine W.to (yk_ hl hn4) ?_;refine W.ret ?_;show W _ _;refine W.mputT k17 HH.tn fun τ2 ps k17 hlk H2 _=>?_;replace HH:=HH.inT H2;replace p:=p.hopT1 H2;refine W.bind ?_;refine W.mono (ydn_ p HH.tn ht hn4) fun r hr=>?_;obtain⟨zt,τ3⟩:=r;obtain⟨L3,hzt⟩:=hr;dsimp only at L3 hzt⊢;replace HH:=HH.hle L3;replace p:=p.hle L3;replace k17:=k17.hle L3;have w0:IntKind.i64.wrap ((s.trail.length:Int)-1)=(s.trail.length:Int)-1:=by rw[wrapS]<;>omega
 refine W.len hzt.up ?_;rw[w0];refine W.bind ?_;refine W.mono (P:=fun r=>∃T' sn ds,Hop tI σ T r.2 T'/\Own .int (r.2.at T' 20) ds r.1/\(∀d∈ds,d∈s.trail/\s.re d = -1)/\FImp s 0 sn ds l/\ds.length<=n) ?_ fun r hr=>?_
 ·refine W.loopI (m:=s.trail.length) (fun m (z:AVal×Int) τ=>∃(T':Tg) (ps:List (Int×AVal)) (sn ds:List Int),z.2=(m:Int)-1/\m<=s.trail.length/\Hop tI σ T τ T'/\PropH τ T' lp h s/\SlV .int (τ.at T' 0) s.trail zt/\MapV (τ.at T' 17) lm ps/\(∀v,look ps v=if v∈sn then some (.bool true)else none)/\Own .int (τ.at T' 20) ds z.1/\(∀d∈ds,d∈s.trail/\s.re d = -1)/\FImp s m sn ds l/\ds.length+m<=s.trail.length)
   ⟨T1,ps,[(l.natAbs:Int)],[],rfl,Nat.le_refl _,HH,p,hzt,k17,fun v=>by rw[hlk];simp[look],.nil,(fun d hd=>by cases hd),fun A _ hA=>?_,by simp⟩ fun m z τ4 hI=>?_
  ·obtain⟨j,hj⟩:=y9_ hlm
   exact hA j _ (y2_ hj) hj (by rw[Int.natAbs_neg];simp)
  obtain⟨z,zi⟩:=z;obtain⟨T4,ps,sn,ds,hz,hmt,HH,p,hzt,k17,lk,k20,hds,hF,hdl⟩:=hI;dsimp only at hz k20⊢;subst hz;unfold S.z40.b1;cases m with
  |zero=>
   refine W.condF (by simp) ?_
   repeat' (with_reducible refine W.stop ?_)
   exact⟨T4,sn,ds,HH,k20,hds,hF,by omega⟩
  | succ i=>
   rw[show((i+1:Nat):Int)-1=(i:Int) by omega];refine W.condT (by simp) ?_;obtain⟨y,hy⟩:=y3_ (xs:=s.trail) (i:=i) (by omega);have hym:=List.mem_of_getElem? hy;have hyL:=ht.rng y hym;have wi:IntKind.i64.wrap ((i:Int)-1)=(i:Int)-1:=by rw[wrapS]<;>omega
   have hztu:=hzt.up
   repeat' with_reducible first|refine W.bind ?_|refine W.e2 ?_
   refine W.to (yk_ hyL hn4) ?_
   repeat' with_reducible first|refine W.ret ?_|refine W.bind ?_|refine W.mgetT (by assumption) ?_
   refine W.mono (P:=fun r=>r=(decide ((y.natAbs:Int)∉sn\/s.lv y=0),τ4)) ?_ fun r hr=>?_
   ·rw[lk]
    by_cases e2:(y.natAbs:Int)∈sn
    ·rw[if_pos e2]
     skip
     refine W.bind ?_;refine W.to (y2t_ p ht hyL) ?_
     repeat' with_reducible refine W.ret ?_
     by_cases e3:s.lv y=0<;>simp[e2,e3]
    ·rw[if_neg e2]
     skip
     refine W.ret ?_;simp[e2]
   subst hr;by_cases hq:(y.natAbs:Int)∉sn\/s.lv y=0
   ·refine W.condT (decide_eq_true hq) ?_
    repeat' with_reducible first|refine W.next ?_|refine W.ret ?_
    refine⟨i,by omega,T4,ps,sn,ds,wi,by omega,HH,p,hzt,k17,lk,k20,hds,fun A h1 h2=>hF A h1 fun j w hj hw hwin=>?_,by omega⟩;by_cases e:j=i
    ·subst e;rw[hy]at hw;cases hw
     rcases hq with q|q
     ·exact absurd hwin q
     ·exact ht.der0 j _ hy q
    ·exact h2 j w (by omega) hw hwin
   ·have hin:(y.natAbs:Int)∈sn:=Decidable.byContradiction fun q=>hq (.inl q)
    refine W.condF (decide_eq_false hq) ?_;refine W.bind ?_;refine W.to (y6d_ p ht hyL) ?_;refine W.ret ?_;show W _ _;rcases ht.rs i y hy with ⟨e,_⟩|⟨id,c,g,e1,e2,e3,e4⟩
    ·rw[e]
     refine W.condT (by decide) ?_
     repeat' (with_reducible refine W.e2 ?_)
     refine W.own_push (bytes:=8) Vw.int_flat k20 HH.tn (a:=y) rfl (by omega) (by omega) fun x2 τ5 T5 k20 H5=>?_
     repeat' with_reducible first|refine W.next ?_|refine W.ret ?_
     refine⟨i,by omega,T5,ps,sn,ds++[y],wi,by omega,HH.inT H5,p.hopT1 H5,hzt.hop H5,k17.hop H5,lk,k20,fun d hd=>?_,fun A h1 h2=>hF A (fun d hd=>h1 d (by simp[hd])) fun j w hj hw hwin=>?_,by simp;omega⟩
     ·rcases List.mem_append.1 hd with q|q
      ·exact hds d q
      ·rw[List.mem_singleton.1 q];exact⟨hym,e⟩
     ·by_cases e:j=i
      ·subst e;rw[hy]at hw;cases hw;exact h1 _ (by simp)
      ·exact h2 j w (by omega) hw hwin
    ·rw[e1]
     have hcn:=hci.len e2;have hcL:=(hci id c g e2).1;refine W.condF (by simp) ?_;refine W.bind ?_;refine W.mono (y1n_ p HH.tn e2 (by omega)) fun r hr=>?_;obtain⟨yc,τ5⟩:=r;obtain⟨L5,hyc⟩:=hr;dsimp only at L5 hyc⊢;rw[if_pos rfl]at hyc;replace HH:=HH.hle L5;replace p:=p.hle L5;replace hzt:=hzt.hle L5;replace k17:=k17.hle L5;replace k20:=k20.hle L5;refine W.len hyc.up ?_;refine W.bind ?_;refine W.mono (P:=fun r=>∃ps,Hop (only 17) τ5 T4 r.2 T4/\MapV (r.2.at T4 17) lm ps/\∀v,look ps v=if v∈sn++c.map (fun x=>(x.natAbs:Int))then some (.bool true)else none) ?_ fun r hr=>?_
     ·refine W.loop c.length (fun k (z:Int) τ=>z=(k:Int)/\∃ps,Hop (only 17) τ5 T4 τ T4/\SlV .int (τ.at T4 0) c yc/\MapV (τ.at T4 17) lm ps/\∀v,look ps v=if v∈sn++(c.take k).map (fun x=>(x.natAbs:Int))then some (.bool true)else none) ⟨rfl,ps,Hop.refl HH.tn,hyc,k17,fun v=>by rw[lk];simp⟩ fun k z τ6 hk hI=>?_
      obtain⟨rfl,ps,H6,hyc,k17,lk⟩:=hI;have w:IntKind.i64.wrap ((k:Int)+1)=((k+1:Nat):Int):=by rw[wrapS]<;>omega
      unfold S.z40.b0
      (with_reducible refine W.cnd (fun hlt=>?_) (fun hlt=>?_)<;>(try simp only[qq,Kd.ty]at hlt)<;>(try (exfalso;omega)))
      ·obtain⟨a,ha⟩:=y3_ (xs:=c) (i:=k) (by omega)
       have haL:=hcL a (List.mem_of_getElem? ha);have hycu:=hyc.up
       repeat' with_reducible first|refine W.bind ?_|refine W.e2 ?_
       refine W.to (yk_ haL hn4) ?_
       repeat' with_reducible refine W.ret ?_
       refine W.mputT k17 H6.tn fun τ7 qs k17 hlk H7 _=>?_
       repeat' (with_reducible refine W.next ?_)
       refine⟨by omega,w,qs,H6.trans H7,hyc.hop H7,k17,fun v=>?_⟩;have htk:c.take (k+1)=c.take k++[a]:=by rw[List.take_add_one,ha];rfl
       rw[hlk,lk,htk,List.map_append,<-List.append_assoc];by_cases e:v=(a.natAbs:Int)
       ·rw[if_pos e,if_pos (by simp[e])]
       ·rw[if_neg e]
        by_cases e2:v∈sn++(c.take k).map fun x=>(x.natAbs:Int)
        ·rw[if_pos e2,if_pos (List.mem_append.2 (.inl e2))]
        ·rw[if_neg e2,if_neg]
         intro q;rcases List.mem_append.1 q with q|q
         ·exact e2 q
         ·exact e (by simpa using q)
      ·repeat' (with_reducible refine W.stop ?_)
       rw[List.take_of_length_le (by omega)]at lk;exact⟨ps,H6,k17,lk⟩
     ·obtain⟨r,τ6⟩:=r
      obtain⟨qs,H6,k17,lk⟩:=hr;dsimp only at H6 k17⊢
      repeat' with_reducible first|refine W.next ?_|refine W.ret ?_
      refine⟨i,by omega,T4,qs,_,ds,wi,by omega,HH.inT H6,p.hopT1 H6,hzt.hop H6,k17,lk,k20.hop H6,hds,fun A h1 h2=>hF A h1 fun j w hj hw hwin=>?_,by omega⟩;by_cases e:j=i
      ·subst e;rw[hy]at hw;cases hw
       refine .unit (y32_.2 ⟨id,g,e2⟩) e3 fun x hx hne=>?_;obtain⟨j',hj',hjx⟩:=e4 x hx hne;exact h2 j' _ hj' hjx (by rw[Int.natAbs_neg];exact List.mem_append.2 (.inr (List.mem_map.2 ⟨x,hx,rfl⟩)))
      ·exact h2 j w (by omega) hw (by simp[hwin])
 ·obtain⟨z,τ4⟩:=r
  obtain⟨T4,sn,ds,HH,k20,hds,hF,hdl⟩:=hr;dsimp only at HH k20⊢;refine W.bind ?_;refine W.mono (yfy_ k20 HH.tn (by omega)) fun r hr=>?_;obtain⟨r,τ5⟩:=r;obtain⟨k',hp,k20,H5⟩:=hr
  repeat' with_reducible refine W.ret ?_
  refine⟨T4,k',HH.inT H5,k20,fun d hd=>hds d (hp.mem_iff.1 hd),?_,by rw[hp.length_eq];exact hdl⟩;exact hF _ (fun d hd=>.start (hp.mem_iff.2 hd)) fun j w hj=>by omega
end
end
section
open Go
section
variable{σ τ:Heap}{T T':Tg}{lh k v:Nat}{xs xp xh:AVal}{sc pl hs:List Int}
theorem y48_{xs:List Int}{i:Nat}{a:Int}(h:xs[i]?=some a):xs.set i a=xs:=by
 obtain⟨h1,h2⟩:=List.getElem?_eq_some_iff.1 h;rw[<-h2,List.set_getElem_self]
theorem HW.same(H:HW sc pl hs)(hk:hs[k]?=some (v:Int))(hv:v<sc.length):pl.set v ((k:Int)+1)=pl:=by
 have h1:=(H.at_ v k hv).2 hk;have hl:=H.len;refine y48_ ?_;rw[List.getD_eq_getElem?_getD,List.getElem?_eq_getElem (by omega)]at h1;rw[List.getElem?_eq_getElem (by omega)];exact congrArg some h1
theorem HW.nat(H:HW sc pl hs){x:Int}(hk:hs[k]?=some x):∃v:Nat,x=v/\v<sc.length:=by
 have:=H.rng k x hk;exact⟨x.toNat,by omega,by omega⟩
theorem y9y_{q w:Nat}(hk:k<hs.length)(hq:q<hs.length)(hne:q≠k)(hw:hs[q]?=some (w:Int)):((hs.set k (w:Int)).set q (v:Int)).Perm (hs.set k (v:Int)):=by
 have h1:swapL (hs.set k (v:Int)) k q=(hs.set k (w:Int)).set q (v:Int):=by
  unfold swapL;rw[ye_ hk,ye_ hk,if_neg (fun e=>hne e.symm),if_pos rfl,List.set_set];rw[List.getD_eq_getElem?_getD,hw];rfl
 rw[<-h1];exact y16_ (by simpa using hk) (by simpa using hq)
theorem tdiv2(j:Nat):Int.tdiv (j:Int) 2=((j / 2:Nat):Int):=rfl
theorem y88_(p:HeapH σ T lh xs xp xh sc pl hs)(hn:Tn σ T)(hv:hs[k]?=some (v:Int))(hvl:v<sc.length)(H:HW sc (pl.set v ((k:Int)+1)) hs)(hpl:pl.length=sc.length)(hb:hs.length<=100000) :
  W (S.z36 (.ptr lh 0) (k:Int) σ) fun r=>∃pl' hs',Hop hI σ T r.2 T/\HeapH r.2 T lh xs xp xh sc pl' hs'/\HW sc pl' hs'/\hs'.Perm hs:=by
 have hk:=y2_ hv;have p0:=p;obtain⟨k1,k2,k3,k4⟩:=p;unfold S.z36
 repeat' with_reducible first|refine W.bind ?_|refine W.asV ?_|refine W.fldp ?_|refine W.nck ?_|refine W.u0 ?_|refine W.u2 ?_
 refine W.mono (P:=fun r=>∃(k':Nat) (pl1 hs1:List Int),r.1=(k':Int)/\k'<hs1.length/\hs1.length=hs.length/\Hop hI σ T r.2 T/\HeapH r.2 T lh xs xp xh sc pl1 hs1/\pl1.length=sc.length/\HW sc (pl1.set v ((k':Int)+1)) (hs1.set k' (v:Int))/\(hs1.set k' (v:Int)).Perm hs) ?_ fun r hr=>?_
 ·refine W.loopI (m:=k) (fun m (x:Int) τ=>∃(pl1 hs1:List Int),x=(m:Int)/\m<hs1.length/\hs1.length=hs.length/\Hop hI σ T τ T/\HeapH τ T lh xs xp xh sc pl1 hs1/\pl1.length=sc.length/\HW sc (pl1.set v ((m:Int)+1)) (hs1.set m (v:Int))/\(hs1.set m (v:Int)).Perm hs) ⟨pl,hs,rfl,hk,rfl,Hop.refl hn,p0,hpl,by rw[y48_ hv];exact H,by rw[y48_ hv]⟩ fun m x τ hI=>?_
  obtain⟨pl1,hs1,rfl,hm,hle,HH,p1,hpl1,H1,hperm⟩:=hI;unfold S.z36.b0;have done:∀(hh:True),W (some ((.inr (m:Int):Int⊕Int),τ)) (LQ (fun(x':Int) σ'=>∃m',m'<m/\∃(pl1 hs1:List Int),x'=(m':Int)/\m'<hs1.length/\hs1.length=hs.length/\Hop hI σ T σ' T/\HeapH σ' T lh xs xp xh sc pl1 hs1/\pl1.length=sc.length/\HW sc (pl1.set v ((m':Int)+1)) (hs1.set m' (v:Int))/\(hs1.set m' (v:Int)).Perm hs)
    (fun r:Int×Heap=>∃(k':Nat) (pl1 hs1:List Int),r.1=(k':Int)/\k'<hs1.length/\hs1.length=hs.length/\Hop hI σ T r.2 T/\HeapH r.2 T lh xs xp xh sc pl1 hs1/\pl1.length=sc.length/\HW sc (pl1.set v ((k':Int)+1)) (hs1.set k' (v:Int))/\(hs1.set k' (v:Int)).Perm hs)):=fun _=>W.stop ⟨m,pl1,hs1,rfl,hm,hle,HH,p1,hpl1,H1,hperm⟩
  refine W.bind ?_;cases m with
  |zero=>
   refine W.condF (by simp) ?_;refine W.ret ?_;show W _ _;refine W.condF rfl ?_;exact done trivial
  | succ j=>
   have w1:IntKind.i64.wrap (((j+1:Nat):Int)-1)=(j:Int):=by rw[wrapS]<;>omega
   have w2:IntKind.i64.wrap (Int.tdiv (j:Int) 2)=((j / 2:Nat):Int):=by rw[tdiv2,wrapS]<;>omega
   rw[w1,w2];refine W.condT (by simp) ?_;obtain⟨a,ha⟩:=y3_ (xs:=hs1) (i:=j / 2) (by omega);have hne:j / 2≠j+1:=by omega
   obtain⟨w,rfl,hw⟩:=H1.nat (k:=j / 2) (x:=a) (by rw[yn_ hm,if_neg (fun e=>hne e.symm)];exact ha);have p1':=p1;obtain⟨k1,k2,k3,k4⟩:=p1'
   repeat' with_reducible first|refine W.bind ?_|refine W.asV ?_|refine W.fldp ?_|refine W.nck ?_|refine W.u0 ?_|refine W.u2 ?_
   refine W.mono (y4v_ p1 hvl hw) fun b _=>?_;refine W.ret ?_;show W _ _;cases b with
   |false=>
    refine W.condF rfl ?_;exact done trivial
   |true=>
    refine W.condT rfl ?_
    repeat' with_reducible first|refine W.bind ?_|refine W.asV ?_|refine W.fldp ?_|refine W.nck ?_|refine W.u0 ?_|refine W.u2 ?_
    refine W.mono (y3k_ p1 HH.tn (k:=j+1) (v:=w) hm (by omega) (by omega)) fun r hr=>?_;obtain⟨r,τ2⟩:=r;obtain⟨H2,p2⟩:=hr;dsimp only at H2 p2⊢
    repeat' (with_reducible refine W.next ?_)
    obtain⟨g1,g2,g3⟩:=HW.swap (q:=j / 2) hpl1 hvl hm (by omega) hne ha H1;exact⟨j / 2,by omega,_,_,rfl,by simp;omega,by simp[hle],HH.trans H2,p2,by simp[hpl1],g3,(y9y_ hm (by omega) hne ha).trans hperm⟩
 ·obtain⟨r,τ1⟩:=r
  obtain⟨k',pl1,hs1,e,hm,hle,HH,p1,hpl1,H1,hperm⟩:=hr;dsimp only at e HH p1⊢;subst e;refine W.bind ?_;refine W.mono (y3k_ p1 HH.tn (k:=k') (v:=v) hm (by omega) (by omega)) fun r hr=>?_;obtain⟨r,τ2⟩:=r;obtain⟨H2,p2⟩:=hr
  repeat' with_reducible refine W.ret ?_
  exact⟨_,_,HH.trans H2,p2,H1,hperm⟩
theorem y5m_(p:HeapH σ T lh xs xp xh sc pl hs)(hn:Tn σ T)(hv:hs[k]?=some (v:Int))(hvl:v<sc.length)(H:HW sc (pl.set v ((k:Int)+1)) hs)(hpl:pl.length=sc.length)(hb:hs.length<=100000) :
  W (S.z32 (.ptr lh 0) (k:Int) σ) fun r=>∃pl' hs',Hop hI σ T r.2 T/\HeapH r.2 T lh xs xp xh sc pl' hs'/\HW sc pl' hs'/\hs'.Perm hs:=by
 have hk:=y2_ hv;have p0:=p;obtain⟨k1,k2,k3,k4⟩:=p;unfold S.z32
 repeat' with_reducible first|refine W.bind ?_|refine W.asV ?_|refine W.fldp ?_|refine W.nck ?_|refine W.u0 ?_|refine W.u2 ?_
 refine W.mono (P:=fun r=>∃(k':Nat) (pl1 hs1:List Int),r.1=(k':Int)/\k'<hs1.length/\hs1.length=hs.length/\Hop hI σ T r.2 T/\HeapH r.2 T lh xs xp xh sc pl1 hs1/\pl1.length=sc.length/\HW sc (pl1.set v ((k':Int)+1)) (hs1.set k' (v:Int))/\(hs1.set k' (v:Int)).Perm hs) ?_ fun r hr=>?_
 ·refine W.loopI (m:=hs.length-k) (fun m (x:Int) τ=>∃(k':Nat) (pl1 hs1:List Int),x=(k':Int)/\m=hs.length-k'/\k'<hs1.length/\hs1.length=hs.length/\Hop hI σ T τ T/\HeapH τ T lh xs xp xh sc pl1 hs1/\pl1.length=sc.length/\HW sc (pl1.set v ((k':Int)+1)) (hs1.set k' (v:Int))/\(hs1.set k' (v:Int)).Perm hs) ⟨k,pl,hs,rfl,rfl,hk,rfl,Hop.refl hn,p0,hpl,by rw[y48_ hv];exact H,by rw[y48_ hv]⟩ fun m x τ hI=>?_
  obtain⟨k',pl1,hs1,rfl,hmm,hm,hle,HH,p1,hpl1,H1,hperm⟩:=hI;have p1':=p1;obtain⟨k1,k2,k3,k4⟩:=p1';have w1:IntKind.i64.wrap (2*(k':Int))=((2*k':Nat):Int):=by rw[wrapS]<;>omega
  have w2:IntKind.i64.wrap (((2*k':Nat):Int)+1)=((2*k'+1:Nat):Int):=by rw[wrapS]<;>omega
  have w3:IntKind.i64.wrap (((2*k'+1:Nat):Int)+1)=((2*k'+2:Nat):Int):=by rw[wrapS]<;>omega
  unfold S.z32.b0;rw[w1,w2,w3];have hel:∀(j:Nat) a,j≠k'->hs1[j]?=some a->∃w:Nat,a=w/\w<sc.length:=fun j a hne ha=>H1.nat (k:=j) (x:=a) (by rw[yn_ hm,if_neg (fun e=>hne e.symm)];exact ha);refine W.bind ?_;refine W.mono (P:=fun b=>b=true->2*k'+2<hs1.length) ?_ fun b hb1=>?_
  ·repeat' with_reducible first|refine W.asV ?_|refine W.fldp ?_|refine W.nck ?_|refine W.u0 ?_|refine W.u3 ?_
   (with_reducible refine W.cnd (fun hc=>?_) (fun hc=>?_)<;>(try simp only[qq,Kd.ty]at hc)<;>(try (exfalso;omega)))
   ·obtain⟨a,ha⟩:=y3_ (xs:=hs1) (i:=2*k'+2) (by omega)
    obtain⟨d,hd⟩:=y3_ (xs:=hs1) (i:=2*k'+1) (by omega);obtain⟨wa,rfl,hwa⟩:=hel _ _ (by omega) ha;obtain⟨wd,rfl,hwd⟩:=hel _ _ (by omega) hd
    repeat' with_reducible first|refine W.bind ?_|refine W.asV ?_|refine W.fldp ?_|refine W.nck ?_|refine W.u0 ?_|refine W.u2 ?_
    refine W.mono (y4v_ p1 hwa hwd) fun b _=>?_
    repeat' with_reducible refine W.ret ?_
    omega
   ·repeat' with_reducible refine W.ret ?_
    simp
  ·refine W.bind ?_
   refine W.mono (P:=fun c=>∃j:Nat,c=(j:Int)/\(j=2*k'+1\/(j=2*k'+2/\j<hs1.length))) ?_ fun c hc=>?_
   ·cases b with
    |true=>
     refine W.condT rfl ?_
     repeat' with_reducible refine W.ret ?_
     exact⟨_,rfl,.inr ⟨rfl,hb1 rfl⟩⟩
    |false=>
     refine W.condF rfl ?_
     repeat' with_reducible refine W.ret ?_
     exact⟨_,rfl,.inl rfl⟩
   ·obtain⟨j,rfl,hj⟩:=hc
    refine W.bind ?_;refine W.mono (P:=fun b=>b=false->j<hs1.length) ?_ fun b hb2=>?_
    ·repeat' with_reducible first|refine W.asV ?_|refine W.fldp ?_|refine W.nck ?_|refine W.u0 ?_|refine W.u3 ?_
     (with_reducible refine W.cnd (fun hc=>?_) (fun hc=>?_)<;>(try simp only[qq,Kd.ty]at hc)<;>(try (exfalso;omega)))
     ·repeat' with_reducible refine W.ret ?_
      simp
     ·obtain⟨a,ha⟩:=y3_ (xs:=hs1) (i:=j) (by omega)
      obtain⟨wa,rfl,hwa⟩:=hel _ _ (by omega) ha
      repeat' with_reducible first|refine W.bind ?_|refine W.asV ?_|refine W.fldp ?_|refine W.nck ?_|refine W.u0 ?_|refine W.u2 ?_
      refine W.mono (y4v_ p1 hwa hvl) fun b _=>?_
      repeat' with_reducible refine W.ret ?_
      omega
    ·cases b with
     |true=>
      refine W.condT rfl ?_;exact W.stop ⟨k',pl1,hs1,rfl,hm,hle,HH,p1,hpl1,H1,hperm⟩
     |false=>
      have hjl:=hb2 rfl;obtain⟨a,ha⟩:=y3_ (xs:=hs1) (i:=j) hjl;obtain⟨w,rfl,hw⟩:=hel _ _ (by omega) ha;refine W.condF rfl ?_
      repeat' with_reducible first|refine W.bind ?_|refine W.asV ?_|refine W.fldp ?_|refine W.nck ?_|refine W.u0 ?_|refine W.u2 ?_
      refine W.mono (y3k_ p1 HH.tn (k:=k') (v:=w) hm (by omega) (by omega)) fun r hr=>?_;obtain⟨r,τ2⟩:=r;obtain⟨H2,p2⟩:=hr;dsimp only at H2 p2⊢
      repeat' (with_reducible refine W.next ?_)
      obtain⟨g1,g2,g3⟩:=HW.swap (q:=j) hpl1 hvl hm hjl (by omega) ha H1;exact⟨hs.length-j,by omega,j,_,_,rfl,rfl,by simp;omega,by simp[hle],HH.trans H2,p2,by simp[hpl1],g3,(y9y_ hm hjl (by omega) ha).trans hperm⟩
 ·obtain⟨r,τ1⟩:=r
  obtain⟨k',pl1,hs1,e,hm,hle,HH,p1,hpl1,H1,hperm⟩:=hr;dsimp only at e HH p1⊢;subst e;refine W.bind ?_;refine W.mono (y3k_ p1 HH.tn (k:=k') (v:=v) hm (by omega) (by omega)) fun r hr=>?_;obtain⟨r,τ2⟩:=r;obtain⟨H2,p2⟩:=hr
  repeat' with_reducible refine W.ret ?_
  exact⟨_,_,HH.trans H2,p2,H1,hperm⟩
end
end
section
open Go
section
variable{k v:Nat}{sc sc' pl hs:List Int}
theorem HW.scl(H:HW sc pl hs)(e:sc'.length=sc.length):HW sc' pl hs:=⟨by rw[e];exact H.len,by rw[e];exact H.rng,by rw[e];exact H.at_,H.nn⟩
theorem HW.mem(H:HW sc pl hs)(hv:v<sc.length):(v:Int)∈hs↔pl.getD v 0≠0:=by
 constructor
 ·intro h
  obtain⟨j,hj⟩:=y9_ h;have:=(H.at_ v j hv).2 hj;omega
 ·intro h
  have:=H.nn v;exact List.mem_of_getElem? ((H.at_ v (pl.getD v 0-1).toNat hv).1 (by omega))
theorem HW.nod(H:HW sc pl hs):hs.Nodup:=by
 rw[List.nodup_iff_pairwise_ne,List.pairwise_iff_getElem];intro i j hi hj hij e;obtain⟨u,eu,hu⟩:=H.nat (k:=i) (List.getElem?_eq_getElem hi);have h1:=(H.at_ u i hu).2 (by rw[<-eu];exact List.getElem?_eq_getElem hi);have h2:=(H.at_ u j hu).2 (by rw[<-eu,e];exact List.getElem?_eq_getElem hj);omega
theorem HW.lenH(H:HW sc pl hs):hs.length+1<=sc.length\/hs=[]:=by
 by_cases he:hs=[]
 ·exact .inr he
 left;have hall:∀x∈hs,1<=x/\x<sc.length:=fun x hx=>by
  obtain⟨i,hi⟩:=y9_ hx;have:=H.rng i x hi;omega
 have:=y2j_ (sc.length-1) (hs.map Int.toNat) ?_ fun x hx=>by
  obtain⟨y,hy,rfl⟩:=List.mem_map.1 hx;have:=hall y hy;omega
 ·obtain⟨x,hx⟩:=List.exists_mem_of_ne_nil hs he
  have:=hall x hx;simp at *;omega
 ·unfold List.Nodup
  rw[List.pairwise_map];exact H.nod.imp_of_mem fun {a b} ha hb hne e=>hne (by
   have:=hall a ha;have:=hall b hb;omega)
theorem HW.push(H:HW sc pl hs)(hv:v<sc.length)(h0:0<v)(hp:pl.getD v 0=0):HW sc (pl.set v ((hs.length:Int)+1)) (hs++[(v:Int)]):=by
 have hl:=H.len;refine⟨by simp[hl],fun j x hx=>?_,fun u j hu=>?_,fun u=>?_⟩
 ·rcases y2k_ hx with q|⟨_,q⟩
  ·exact H.rng j x q
  ·subst q;omega
 ·rw[ye_ (by omega)]
  have A:=H.at_ u j hu;by_cases e:v=u
  ·subst e
   rw[if_pos rfl];constructor
   ·intro h
    have:j=hs.length:=by omega
    subst this;simp
   ·intro h
    rcases y2k_ h with q|⟨q,_⟩
    ·have:=A.2 q;omega
    ·omega
  ·rw[if_neg e,A]
   constructor
   ·intro h;rw[List.getElem?_append_left (y2_ h)];exact h
   ·intro h
    rcases y2k_ h with q|⟨_,q⟩
    ·exact q
    ·exact absurd (Int.ofNat.inj q).symm e
 ·rw[ye_ (by omega)]
  have:=H.nn u
  split<;>omega
theorem HW.grow(H:HW sc pl hs):HW (sc++[0]) (pl++[0]) hs:=by
 have hl:=H.len;have hg:∀u,(pl++[(0:Int)]).getD u 0=pl.getD u 0:=fun u=>by
  have:=y7u_ (xs:=pl) (d:=(0:Int)) (v:=u) (m:=1);exact this
 refine⟨by simp[hl],fun j x hx=>?_,fun u j hu=>?_,fun u=>by rw[hg];exact H.nn u⟩
 ·have:=H.rng j x hx
  simp;omega
 ·rw[hg]
  by_cases e:u<sc.length
  ·exact H.at_ u j e
  ·have h0:pl.getD u 0=0:=by rw[List.getD_eq_getElem?_getD,List.getElem?_eq_none (by omega)];rfl
   rw[h0];constructor
   ·intro h;omega
   ·intro h
    have:=H.rng j u h;omega
theorem HW.takeL(H:HW sc pl hs)(hk:hs[hs.length-1]?=some (v:Int)):HW sc (pl.set v 0) (hs.take (hs.length-1)):=by
 have hl:=H.len;have hkl:=y2_ hk;have hvr:=H.rng _ _ hk;have hv:v<sc.length:=by omega
 refine⟨by simp[hl],fun j x hx=>?_,fun u j hu=>?_,fun u=>?_⟩
 ·have hj:j<hs.length-1:=by have:=y2_ hx;simp at this;omega
  rw[List.getElem?_take_of_lt hj]at hx;exact H.rng j x hx
 ·rw[ye_ (by omega)]
  have A:=H.at_ u j hu;have B:=(H.at_ v _ hv).2 hk;by_cases hj:j<hs.length-1
  ·rw[List.getElem?_take_of_lt hj]
   by_cases e:v=u
   ·subst e
    rw[if_pos rfl];constructor
    ·intro h;omega
    ·intro h;have:=A.2 h;omega
   ·rw[if_neg e];exact A
  ·have hn:(hs.take (hs.length-1))[j]?=none:=List.getElem?_eq_none (by simp;omega)
   rw[hn];constructor
   ·intro h
    split at h
    ·omega
    ·rename_i hne
     have h2:=A.1 h;have:=y2_ h2;have:j=hs.length-1:=by omega
     subst this;rw[hk]at h2;exact absurd (Int.ofNat.inj (Option.some.inj h2)) hne
   ·intro h;cases h
 ·rw[ye_ (by omega)]
  have:=H.nn u
  split<;>omega
theorem HW.takeM(H:HW sc pl hs)(hv:hs[k]?=some (v:Int)){w:Nat}(hw:hs[hs.length-1]?=some (w:Int))(hk:k<hs.length-1):w≠v/\HW sc ((pl.set v 0).set w ((k:Int)+1)) ((hs.take (hs.length-1)).set k (w:Int)):=by
 have hl:=H.len;have hwr:=H.rng _ _ hw;have hvr:=H.rng _ _ hv;have hwl:w<sc.length:=by omega
 have hvl:v<sc.length:=by omega
 have Bw:=(H.at_ w _ hwl).2 hw;have Bv:=(H.at_ v _ hvl).2 hv;have hne:w≠v:=fun e=>by subst e;omega
 have hkt:k<(hs.take (hs.length-1)).length:=by simp;omega
 refine⟨hne,by simp[hl],fun j x hx=>?_,fun u j hu=>?_,fun u=>?_⟩
 ·rw[yn_ hkt]at hx
  split at hx
  ·cases hx;exact hwr
  ·have hj:j<hs.length-1:=by have:=y2_ hx;simp at this;omega
   rw[List.getElem?_take_of_lt hj]at hx;exact H.rng j x hx
 ·have A:=H.at_ u j hu
  rw[ye_ (by simp;omega),ye_ (by omega),yn_ hkt];by_cases e1:w=u
  ·subst e1
   rw[if_pos rfl];by_cases e2:k=j
   ·subst e2;simp
   ·rw[if_neg e2]
    constructor
    ·intro h;omega
    ·intro h
     have hj:j<hs.length-1:=by have:=y2_ h;simp at this;omega
     rw[List.getElem?_take_of_lt hj]at h;have:=A.2 h;omega
  ·rw[if_neg e1]
   by_cases e2:v=u
   ·subst e2
    rw[if_pos rfl];constructor
    ·intro h;omega
    ·intro h
     by_cases e3:k=j
     ·rw[if_pos e3]at h;exact absurd (Int.ofNat.inj (Option.some.inj h)) e1
     ·rw[if_neg e3]at h
      have hj:j<hs.length-1:=by have:=y2_ h;simp at this;omega
      rw[List.getElem?_take_of_lt hj]at h;have:=A.2 h;omega
   ·rw[if_neg e2,A]
    by_cases e3:k=j
    ·subst e3
     rw[if_pos rfl,hv];constructor
     ·intro h;exact absurd (Int.ofNat.inj (Option.some.inj h)) e2
     ·intro h;exact absurd (Int.ofNat.inj (Option.some.inj h)) e1
    ·rw[if_neg e3]
     by_cases hj:j<hs.length-1
     ·rw[List.getElem?_take_of_lt hj]
     ·have hn:(hs.take (hs.length-1))[j]?=none:=List.getElem?_eq_none (by simp;omega)
      rw[hn];constructor
      ·intro h
       have:=y2_ h;have:j=hs.length-1:=by omega
       subst this;rw[hw]at h;exact absurd (Int.ofNat.inj (Option.some.inj h)) e1
      ·intro h;cases h
 ·rw[ye_ (by simp;omega),ye_ (by omega)]
  have:=H.nn u
  split
  ·omega
  ·split<;>omega
end
def HpI(σ:Heap)(T:Tg)(lh N:Nat)(hs:List Int):Prop:=∃xs xp xh sc pl,HeapH σ T lh xs xp xh sc pl hs/\HW sc pl hs/\sc.length=N+1
section
variable{σ τ:Heap}{T T':Tg}{lh k v N:Nat}{hs:List Int}{I:Nat->Bool}
theorem HpI.hop(p:HpI σ T lh N hs)(H:Hop I σ T τ T')(h1:∀j,hI j=true->I j=false):HpI τ T' lh N hs:=by
 obtain⟨xs,xp,xh,sc,pl,p,q⟩:=p;exact⟨xs,xp,xh,sc,pl,p.hop H h1,q⟩
theorem HpI.hle(p:HpI σ T lh N hs)(L:Hle σ τ):HpI τ T lh N hs:=by
 obtain⟨xs,xp,xh,sc,pl,p,q⟩:=p;exact⟨xs,xp,xh,sc,pl,p.hle L,q⟩
theorem HpI.len(p:HpI σ T lh N hs):hs.length<=N:=by
 obtain⟨xs,xp,xh,sc,pl,p,H,e⟩:=p;rcases H.lenH with q|q
 ·omega
 ·subst q;simp
theorem HpI.rng(p:HpI σ T lh N hs){x:Int}(hx:x∈hs):1<=x/\x<=N:=by
 obtain⟨xs,xp,xh,sc,pl,p,H,e⟩:=p;obtain⟨i,hi⟩:=y9_ hx;have:=H.rng i x hi;omega
theorem yek_(p:HpI σ T lh N hs):S.z26 (.ptr lh 0) σ=some (hs.length:Int):=by
 obtain⟨r,e,rfl⟩:W (S.z26 (.ptr lh 0) σ) fun r=>r=(hs.length:Int):=by
  obtain⟨xs,xp,xh,sc,pl,⟨k1,k2,k3,k4⟩,H,e⟩:=p;unfold S.z26
  repeat' with_reducible first|refine W.ret ?_|refine W.asV ?_|refine W.fldp ?_|refine W.nck ?_|refine W.u0 ?_|refine W.u3 ?_
  rfl
 exact e
theorem y9a_(p:HpI σ T lh N hs)(hn:Tn σ T)(hN:N<=4000)(h0:0<v)(hv:v<=N):W (S.z28 (.ptr lh 0) (v:Int) σ) fun r=>∃T' hs',Hop hI σ T r.2 T'/\HpI r.2 T' lh N hs'/\∀x,x∈hs'↔x∈hs\/x=(v:Int):=by
 have hlen:=p.len;obtain⟨xs,xp,xh,sc,pl,p,H,e⟩:=p;have hl:=H.len;have hvl:v<sc.length:=by omega
 obtain⟨a,ha⟩:=y3_ (xs:=pl) (i:=v) (by omega);have hpa:pl.getD v 0=a:=by rw[List.getD_eq_getElem?_getD,ha];rfl
 have hnn:=H.nn v;have p0:=p;obtain⟨k1,k2,k3,k4⟩:=p;unfold S.z28
 repeat' (with_reducible refine W.bind ?_)
 refine W.to (ya1_ p0) ?_
 repeat' with_reducible refine W.ret ?_
 refine W.condF (by simp;omega) ?_
 repeat' with_reducible first|refine W.ret ?_|refine W.asV ?_|refine W.fldp ?_|refine W.nck ?_|refine W.u0 ?_|refine W.u2 ?_
 by_cases hz:a>0
 ·refine W.condT (by simp;omega) ?_
  repeat' with_reducible refine W.ret ?_
  have hm:=(H.mem hvl).2 (by omega);exact⟨T,hs,Hop.refl hn,⟨xs,xp,xh,sc,pl,p0,H,e⟩,fun x=>⟨.inl,fun q=>q.elim id fun q=>q▸hm⟩⟩
 ·refine W.condF (by simp;omega) ?_
  repeat' with_reducible first|refine W.asV ?_|refine W.fldp ?_|refine W.nck ?_|refine W.u0 ?_
  refine W.own_push (bytes:=8) Vw.int_flat k4 hn (a:=(v:Int)) rfl (by omega) (by omega) fun x2 τ2 T2 k4 H2=>?_;have HH:Hop hI σ T τ2 T2:=(Hop.refl hn).inH H2;replace k1:=k1.hop H2;replace k2:=k2.hop H2;replace k3:=k3.hop H2;replace hn:=H2.tn
  repeat' with_reducible first|refine W.fldp ?_|refine W.nck ?_|refine W.u4 ?_
  refine W.stT k1 hn (Nat.le_of_ble_eq_true (by rfl)) fun τ3 H3 k1 hnτ3=>?_;replace HH:=HH.inH H3;replace k2:=k2.hop H3;replace k3:=k3.hop H3;replace k4:=k4.hop H3;replace hn:=H3.tn
  repeat' with_reducible first|refine W.bind ?_|refine W.asV ?_|refine W.fldp ?_|refine W.nck ?_|refine W.u0 ?_|refine W.u3 ?_
  have w:IntKind.i64.wrap (((hs++[(v:Int)]).length:Int)-1)=(hs.length:Int):=by rw[wrapS]<;>simp<;>omega
  rw[w];have HP:=H.push hvl h0 (by omega);refine W.mono (y88_ (k:=hs.length) (v:=v) ⟨k1,k2,k3,k4⟩ HH.tn (by simp) hvl HP hl (by simp;omega)) fun r hr=>?_;obtain⟨r,τ4⟩:=r;obtain⟨pl',hs',H4,p4,HW4,hperm⟩:=hr
  repeat' with_reducible refine W.ret ?_
  refine⟨T2,hs',HH.trans H4,⟨_,_,_,_,_,p4,HW4,e⟩,fun x=>?_⟩;rw[hperm.mem_iff];simp
theorem yee_(p:HpI σ T lh N hs)(hn:Tn σ T)(hN:N<=4000)(hv:hs[k]?=some (v:Int)):W (S.z35 (.ptr lh 0) (k:Int) σ) fun r=>r.1=(v:Int)/\∃T' hs',Hop hI σ T r.2 T'/\HpI r.2 T' lh N hs'/\∀x,x∈hs'↔x∈hs/\x≠(v:Int):=by
 have hlen:=p.len;obtain⟨xs,xp,xh,sc,pl,p,H,e⟩:=p;have hl:=H.len;have hk:=y2_ hv;have hvr:=H.rng _ _ hv;have hvl:v<sc.length:=by omega
 obtain⟨a,ha⟩:=y3_ (xs:=hs) (i:=hs.length-1) (by omega);obtain⟨w,rfl,hw⟩:=H.nat ha;have w1:IntKind.i64.wrap ((hs.length:Int)-1)=((hs.length-1:Nat):Int):=by rw[wrapS]<;>omega
 have p0:=p;obtain⟨k1,k2,k3,k4⟩:=p;obtain⟨y,e5,hy⟩:=k4.slice (lo:=0) (hi:=hs.length-1) (by omega) (by omega);rw[List.drop_zero]at hy;unfold S.z35
 repeat' with_reducible first|refine W.asV ?_|refine W.fldp ?_|refine W.nck ?_|refine W.u0 ?_|refine W.u3 ?_|refine W.u2 ?_
 rw[w1]
 repeat' with_reducible first|refine W.asV ?_|refine W.fldp ?_|refine W.nck ?_|refine W.u0 ?_|refine W.u2 ?_
 refine W.to ((e5 (at_le (σ:=σ) (T:=T) (i:=14)) _).1) ?_
 repeat' with_reducible first|refine W.fldp ?_|refine W.nck ?_|refine W.u4 ?_
 refine W.stT k1 hn (Nat.le_of_ble_eq_true (by rfl)) fun τ1 H1 k1 hnτ1=>?_;have HH:Hop hI σ T τ1 T:=(Hop.refl hn).inH H1;replace k2:=k2.hop H1;replace k3:=k3.hop H1;replace hy:=hy.hop H1;replace hn:=H1.tn
 repeat' with_reducible first|refine W.asV ?_|refine W.fldp ?_|refine W.nck ?_|refine W.u0 ?_
 refine W.ixO k3.slT (i:=v) (by omega) ?_;refine W.own_setI k3 hn (by omega) fun τ2 k3 H2 _=>?_;replace HH:=HH.inH H2;replace k1:=k1.hop H2;replace k2:=k2.hop H2;replace hy:=hy.hop H2;replace hn:=H2.tn;have p2:HeapH τ2 T lh xs xp y sc (pl.set v 0) (hs.take (hs.length-1)):=⟨k1,k2,k3,hy⟩;have hmem:∀pl' hs',HW sc pl' hs'->(∀u,u<sc.length->(pl'.getD u 0≠0↔pl.getD u 0≠0/\u≠v))->∀x,x∈hs'↔x∈hs/\x≠(v:Int):=fun pl' hs' H' hp x=>by
  constructor
  ·intro hx
   obtain⟨i,hi⟩:=y9_ hx;obtain⟨u,rfl,hu⟩:=H'.nat hi;have:=(hp u hu).1 ((H'.mem hu).1 hx);exact⟨(H.mem hu).2 this.1,fun q=>this.2 (Int.ofNat.inj q)⟩
  ·rintro⟨hx,hne⟩
   obtain⟨i,hi⟩:=y9_ hx;obtain⟨u,rfl,hu⟩:=H.nat hi;exact(H'.mem hu).2 ((hp u hu).2 ⟨(H.mem hu).1 hx,fun q=>hne (by rw[q])⟩)
 repeat' (with_reducible refine W.bind ?_)
 by_cases hkl:k<hs.length-1
 ·refine W.condT (by simp;omega) ?_
  obtain⟨hne,HM⟩:=H.takeM hv ha hkl
  repeat' (with_reducible refine W.bind ?_)
  refine W.mono (y3k_ p2 HH.tn (k:=k) (v:=w) (by simp;omega) (by simp;omega) (by simp;omega)) fun r hr=>?_;obtain⟨r,τ3⟩:=r;obtain⟨H3,p3⟩:=hr;dsimp only at H3 p3⊢;replace HH:=HH.trans H3;have gk:((hs.take (hs.length-1)).set k (w:Int))[k]?=some (w:Int):=by rw[yn_ (by simp;omega),if_pos rfl]
  refine W.bind ?_;refine W.mono (y88_ (k:=k) (v:=w) p3 HH.tn gk hw (by rw[List.set_set];exact HM) (by simp[hl]) (by simp;omega)) fun r hr=>?_;obtain⟨r,τ4⟩:=r;obtain⟨pl',hs',H4,p4,HW4,hperm⟩:=hr;dsimp only at H4 p4⊢;replace HH:=HH.trans H4;have hl4:=HW4.len;have hwm:(w:Int)∈hs':=hperm.mem_iff.2 (List.mem_of_getElem? gk);obtain⟨q,hq⟩:=y9_ hwm;have hpq:=(HW4.at_ w q hw).2 hq;have hpw:pl'[w]?=some ((q:Int)+1):=by
   obtain⟨b,hb⟩:=y3_ (xs:=pl') (i:=w) (by omega);rw[List.getD_eq_getElem?_getD,hb]at hpq;rw[hb];exact congrArg some hpq
  have hlen4:=hperm.length_eq;simp at hlen4;have hql:=y2_ hq;have w2:IntKind.i64.wrap (((q:Int)+1)-1)=(q:Int):=by rw[wrapS]<;>omega
  have p4':=p4;obtain⟨k1,k2,k3,k4⟩:=p4'
  repeat' with_reducible first|refine W.bind ?_|refine W.asV ?_|refine W.fldp ?_|refine W.nck ?_|refine W.u0 ?_|refine W.u2 ?_
  rw[w2];refine W.mono (y5m_ (k:=q) (v:=w) p4 HH.tn hq hw (by rw[HW4.same hq hw];exact HW4) hl4 (by omega)) fun r hr=>?_;obtain⟨r,τ5⟩:=r;obtain⟨pl5,hs5,H5,p5,HW5,hperm5⟩:=hr
  repeat' with_reducible refine W.ret ?_
  refine⟨rfl,T,hs5,HH.trans H5,⟨_,_,_,_,_,p5,HW5,e⟩,fun x=>?_⟩;rw[hperm5.mem_iff,hperm.mem_iff];refine hmem _ _ HM (fun u hu=>?_) x;rw[ye_ (by simp;omega),ye_ (by omega)];have hwm2:=(H.mem hw).1 (List.mem_of_getElem? ha);by_cases e1:w=u
  ·subst e1
   rw[if_pos rfl];exact⟨fun _=>⟨hwm2,hne⟩,fun _=>by omega⟩
  ·rw[if_neg e1]
   by_cases e2:v=u
   ·subst e2;rw[if_pos rfl];simp
   ·rw[if_neg e2];exact⟨fun q=>⟨q,fun q2=>e2 q2.symm⟩,fun q=>q.1⟩
 ·refine W.condF (by simp;omega) ?_
  have hk2:k=hs.length-1:=by omega
  subst hk2;have HM:=H.takeL hv
  repeat' with_reducible refine W.ret ?_
  refine⟨rfl,T,_,HH,⟨_,_,_,_,_,p2,HM,e⟩,hmem _ _ HM fun u hu=>?_⟩;rw[ye_ (by omega)];by_cases e2:v=u
  ·subst e2;rw[if_pos rfl];simp
  ·rw[if_neg e2];exact⟨fun q=>⟨q,fun q2=>e2 q2.symm⟩,fun q=>q.1⟩
theorem yeg_(p:HpI σ T lh N hs)(hn:Tn σ T)(hN:N<=4000)(h0:0<v)(hv:v<=N){by':Int}:W (S.z23 (.ptr lh 0) (v:Int) by' σ) fun r=>∃T' hs',Hop hI σ T r.2 T'/\HpI r.2 T' lh N hs'/\∀x,x∈hs'↔x∈hs:=by
 have hlen:=p.len;obtain⟨xs,xp,xh,sc,pl,p,H,e⟩:=p;have hl:=H.len;have hvl:v<sc.length:=by omega
 obtain⟨s0,hs0⟩:=y3_ (xs:=sc) (i:=v) hvl;obtain⟨a,ha⟩:=y3_ (xs:=pl) (i:=v) (by omega);have hpa:pl.getD v 0=a:=by rw[List.getD_eq_getElem?_getD,ha];rfl
 have hnn:=H.nn v;have p0:=p;obtain⟨k1,k2,k3,k4⟩:=p;unfold S.z23;refine W.bind ?_;refine W.to (ya1_ p0) ?_;refine W.ret ?_;show W _ _;refine W.condF (by simp;omega) ?_
 repeat' with_reducible first|refine W.asV ?_|refine W.fldp ?_|refine W.nck ?_|refine W.u0 ?_|refine W.u2 ?_
 generalize (if(1099511627776:Int)<_ then(1099511627776:Int)else _)=nsc;refine W.ixO k2.slT (i:=v) (by omega) ?_;refine W.own_setI k2 hn (by omega) fun τ1 k2 H1 _=>?_;have HH:Hop hI σ T τ1 T:=(Hop.refl hn).inH H1;replace k1:=k1.hop H1;replace k3:=k3.hop H1;replace k4:=k4.hop H1;replace hn:=H1.tn;have H':HW (sc.set v nsc) pl hs:=H.scl (by simp);have p1:HeapH τ1 T lh xs xp xh (sc.set v nsc) pl hs:=⟨k1,k2,k3,k4⟩;have e':(sc.set v nsc).length=N+1:=by simp[e]
 repeat' with_reducible first|refine W.bind ?_|refine W.asV ?_|refine W.fldp ?_|refine W.nck ?_|refine W.u0 ?_|refine W.u2 ?_
 refine W.mono (P:=fun r=>∃hs',Hop hI σ T r.2 T/\HpI r.2 T lh N hs'/\∀x,x∈hs'↔x∈hs) ?_ fun r hr=>?_
 ·(with_reducible refine W.cnd (fun hc=>?_) (fun hc=>?_)<;>(try simp only[qq,Kd.ty]at hc)<;>(try (exfalso;omega)))
  ·have hwr:IntKind.i64.wrap (a-1)=a-1\/a=0:=by
    by_cases q:a=0
    ·exact .inr q
    ·left
     have hm:=(H.mem hvl).2 (by omega);obtain⟨j,hj⟩:=y9_ hm;have:=(H.at_ v j hvl).2 hj;have:=y2_ hj;rw[wrapS]<;>omega
   rcases hwr with hwr|hz
   ·rw[hwr]at hc⊢
    have hm:=(H.mem hvl).2 (by omega);obtain⟨j,hj⟩:=y9_ hm;have hpj:=(H.at_ v j hvl).2 hj;have ej:a-1=(j:Int):=by omega
    rw[ej];refine W.bind ?_;refine W.mono (y88_ (k:=j) (v:=v) p1 HH.tn hj (by simp;omega) (by rw[H'.same hj (by simp;omega)];exact H') (by simp[hl]) (by omega)) fun r hr=>?_;obtain⟨r,τ4⟩:=r;obtain⟨pl',hs',H4,p4,HW4,hperm⟩:=hr;dsimp only at H4 p4⊢;replace HH:=HH.trans H4;have hl4:=HW4.len;have hvl4:v<(sc.set v nsc).length:=by simp;omega
    have hwm:(v:Int)∈hs':=hperm.mem_iff.2 hm;obtain⟨q,hq⟩:=y9_ hwm;have hpq:=(HW4.at_ v q hvl4).2 hq;have hpw:pl'[v]?=some ((q:Int)+1):=by
     obtain⟨b,hb⟩:=y3_ (xs:=pl') (i:=v) (by omega);rw[List.getD_eq_getElem?_getD,hb]at hpq;rw[hb];exact congrArg some hpq
    have hlen4:=hperm.length_eq;have hql:=y2_ hq;have w2:IntKind.i64.wrap (((q:Int)+1)-1)=(q:Int):=by rw[wrapS]<;>omega
    have p4':=p4;obtain⟨k1,k2,k3,k4⟩:=p4'
    repeat' with_reducible first|refine W.bind ?_|refine W.asV ?_|refine W.fldp ?_|refine W.nck ?_|refine W.u0 ?_|refine W.u2 ?_
    rw[w2];refine W.mono (y5m_ (k:=q) (v:=v) p4 HH.tn hq hvl4 (by rw[HW4.same hq hvl4];exact HW4) hl4 (by omega)) fun r hr=>?_;obtain⟨r,τ5⟩:=r;obtain⟨pl5,hs5,H5,p5,HW5,hperm5⟩:=hr
    repeat' with_reducible refine W.ret ?_
    exact⟨hs5,HH.trans H5,⟨_,_,_,_,_,p5,HW5,e'⟩,fun x=>by rw[hperm5.mem_iff,hperm.mem_iff]⟩
   ·exfalso
    rw[hz,wrapS]at hc<;>omega
  ·repeat' with_reducible refine W.ret ?_
   exact⟨hs,HH,⟨_,_,_,_,_,p1,H',e'⟩,fun x=>Iff.rfl⟩
 ·obtain⟨r,τ2⟩:=r
  obtain⟨hs',H2,⟨xs,xp,xh,sc2,pl2,p2,HW2,e2⟩,hm2⟩:=hr;dsimp only at H2 p2⊢;obtain⟨s2,hs2⟩:=y3_ (xs:=sc2) (i:=v) (by omega);have p2':=p2;obtain⟨k1,k2,k3,k4⟩:=p2'
  repeat' with_reducible first|refine W.ret ?_|refine W.asV ?_|refine W.fldp ?_|refine W.nck ?_|refine W.u0 ?_|refine W.u2 ?_
  exact⟨T,hs',H2,⟨_,_,_,_,_,p2,HW2,e2⟩,hm2⟩
theorem yd1_(p:HpI σ T lh N hs)(hn:Tn σ T)(hN:N<=4000):W (S.z25 (.ptr lh 0) σ) fun r=>∃T' hs',Hop hI σ T r.2 T'/\HpI r.2 T' lh N hs'/\∀x,x∈hs'↔x∈hs:=by
 have hlen:=p.len;obtain⟨xs,xp,xh,sc,pl,p,H,e⟩:=p;have hl:=H.len;have p0:=p;obtain⟨k1,k2,k3,k4⟩:=p;unfold S.z25
 repeat' with_reducible first|refine W.bind ?_|refine W.asV ?_|refine W.fldp ?_|refine W.nck ?_|refine W.u0 ?_|refine W.u3 ?_
 refine W.mono (P:=fun r=>∃sc',Hop hI σ T r.2 T/\HeapH r.2 T lh xs xp xh sc' pl hs/\sc'.length=sc.length) ?_ fun r hr=>?_
 ·refine W.loop sc.length (fun i (x:Int) τ=>x=(i:Int)/\∃sc',Hop hI σ T τ T/\HeapH τ T lh xs xp xh sc' pl hs/\sc'.length=sc.length) ⟨rfl,sc,Hop.refl hn,p0,rfl⟩ fun i x τ hi hI2=>?_
  obtain⟨rfl,sc1,HH,⟨k1,k2,k3,k4⟩,hl1⟩:=hI2;have w:IntKind.i64.wrap ((i:Int)+1)=((i+1:Nat):Int):=by rw[wrapS]<;>omega
  unfold S.z25.b0
  (with_reducible refine W.cnd (fun hlt=>?_) (fun hlt=>?_)<;>(try simp only[qq,Kd.ty]at hlt)<;>(try (exfalso;omega)))
  ·obtain⟨a,ha⟩:=y3_ (xs:=sc1) (i:=i) (by omega)
   repeat' with_reducible first|refine W.asV ?_|refine W.fldp ?_|refine W.nck ?_|refine W.u0 ?_|refine W.u2 ?_
   refine W.ixO k2.slT (i:=i) (by omega) ?_;refine W.own_setI k2 HH.tn (by omega) fun τ1 k2 H1 _=>?_;replace HH:=HH.inH H1;replace k1:=k1.hop H1;replace k3:=k3.hop H1;replace k4:=k4.hop H1;replace hn:=H1.tn
   repeat' (with_reducible refine W.next ?_)
   exact⟨by omega,w,_,HH,⟨k1,k2,k3,k4⟩,by simp[hl1]⟩
  ·repeat' (with_reducible refine W.stop ?_)
   exact⟨sc1,HH,⟨k1,k2,k3,k4⟩,hl1⟩
 ·obtain⟨r,τ1⟩:=r
  obtain⟨sc1,HH,p1,hl1⟩:=hr;dsimp only at HH p1⊢;have H1:=H.scl hl1;have p1':=p1;obtain⟨k1,k2,k3,k4⟩:=p1';have w1:IntKind.i64.wrap ((hs.length:Int)-1)=(hs.length:Int)-1:=by rw[wrapS]<;>omega
  repeat' with_reducible first|refine W.bind ?_|refine W.asV ?_|refine W.fldp ?_|refine W.nck ?_|refine W.u0 ?_|refine W.u3 ?_
  rw[w1];refine W.mono (P:=fun r=>∃hs',Hop hI σ T r.2 T/\HpI r.2 T lh N hs'/\∀x,x∈hs'↔x∈hs) ?_ fun r hr=>by
   obtain⟨hs',q⟩:=hr;exact W.ret ⟨T,hs',q⟩
  refine W.loopI (m:=hs.length) (fun m (x:Int) τ=>x=(m:Int)-1/\∃pl' hs',m<=hs'.length/\hs'.length=hs.length/\Hop hI σ T τ T/\HeapH τ T lh xs xp xh sc1 pl' hs'/\HW sc1 pl' hs'/\∀x,x∈hs'↔x∈hs) ⟨rfl,pl,hs,Nat.le_refl _,rfl,HH,p1,H1,fun _=>Iff.rfl⟩ fun m x τ hI2=>?_;obtain⟨rfl,pl',hs',hm,hle,HH,p2,HW2,hmm⟩:=hI2;unfold S.z25.b1;cases m with
  |zero=>
   refine W.condF (by simp) ?_
   repeat' (with_reducible refine W.stop ?_)
   exact⟨hs',HH,⟨_,_,_,_,_,p2,HW2,by omega⟩,hmm⟩
  |succ i=>
   rw[show((i+1:Nat):Int)-1=(i:Int) by omega];refine W.condT (by simp) ?_;obtain⟨a,ha⟩:=y3_ (xs:=hs') (i:=i) (by omega);obtain⟨u,rfl,hu⟩:=HW2.nat ha;have w:IntKind.i64.wrap ((i:Int)-1)=(i:Int)-1:=by rw[wrapS]<;>omega
   refine W.bind ?_;refine W.mono (y5m_ (k:=i) (v:=u) p2 HH.tn ha hu (by rw[HW2.same ha hu];exact HW2) HW2.len (by omega)) fun r hr=>?_;obtain⟨r,τ2⟩:=r;obtain⟨pl3,hs3,H3,p3,HW3,hperm⟩:=hr
   repeat' (with_reducible refine W.next ?_)
   exact⟨i,by omega,w,pl3,hs3,by rw[hperm.length_eq];omega,by rw[hperm.length_eq];exact hle,HH.trans H3,p3,HW3,fun x=>by rw[hperm.mem_iff];exact hmm x⟩
end
end
section
open Go
section
variable{σ τ:Heap}{T T':Tg}{lh k v N vars:Nat}{hs:List Int}{I:Nat->Bool}
theorem y9h_(p:HpI σ T lh N hs)(hn:Tn σ T)(hN:N<=4000)(hv:vars<=4000):W (S.z24 (.ptr lh 0) (vars:Int) σ) fun r=>∃T' hs',Hop hI σ T r.2 T'/\HpI r.2 T' lh (max N vars) hs'/\∀x:Int,x∈hs'↔x∈hs\/((N:Int)<x/\x<=vars):=by
 unfold S.z24;refine W.bind ?_;refine W.mono (P:=fun r=>∃T' hs',Hop hI σ T r.2 T'/\HpI r.2 T' lh (max N vars) hs'/\∀x:Int,x∈hs'↔x∈hs\/((N:Int)<x/\x<=vars)) ?_ fun r hr=>W.ret hr;refine W.loopI (m:=vars-N) (fun m (_:Unit) τ=>∃(T':Tg) (hs':List Int) (K:Nat),Hop hI σ T τ T'/\HpI τ T' lh K hs'/\N<=K/\(K=N\/K<=vars)/\m=vars-K/\∀x:Int,x∈hs'↔x∈hs\/((N:Int)<x/\x<=K)) ⟨T,hs,N,Hop.refl hn,p,Nat.le_refl _,.inl rfl,rfl,fun x=>⟨.inl,fun q=>q.elim id fun q=>by omega⟩⟩ fun m _ τ hI2=>?_;obtain⟨T1,hs1,K,HH,p1,hK,hK2,rfl,hmm⟩:=hI2;have hlen:=p1.len;obtain⟨xs,xp,xh,sc,pl,⟨k1,k2,k3,k4⟩,H,e⟩:=p1;have hl:=H.len;unfold S.z24.b0
 repeat' with_reducible first|refine W.bind ?_|refine W.asV ?_|refine W.fldp ?_|refine W.nck ?_|refine W.u0 ?_|refine W.u3 ?_
 refine W.to (yb6_ (by omega) (by omega)) ?_
 repeat' with_reducible refine W.ret ?_
 (with_reducible refine W.cnd (fun hlt=>?_) (fun hlt=>?_)<;>(try simp only[qq,Kd.ty]at hlt)<;>(try (exfalso;omega)))
 ·have k1o:=k1
  repeat' with_reducible first|refine W.asV ?_|refine W.fldp ?_|refine W.nck ?_|refine W.u0 ?_
  refine W.own_push (bytes:=8) Vw.int_flat k2 HH.tn (a:=(0:Int)) rfl (by omega) (by omega) fun x2 τ2 T2 k2 H2=>?_;replace HH:=HH.inH H2;replace k1:=k1.hop H2;replace k3:=k3.hop H2;replace k4:=k4.hop H2;replace hn:=H2.tn
  repeat' with_reducible first|refine W.asV ?_|refine W.chk rfl ?_|refine W.fldp ?_|refine W.nck ?_|refine W.u0 ?_
  refine W.own_push (bytes:=8) Vw.int_flat k3 HH.tn (a:=(0:Int)) rfl (by omega) (by omega) fun x3 τ3 T3 k3 H3=>?_;replace HH:=HH.inH H3;replace k1:=k1.hop H3;replace k2:=k2.hop H3;replace k4:=k4.hop H3;replace hn:=H3.tn
  repeat' with_reducible first|refine W.fldp ?_|refine W.nck ?_|refine W.u4 ?_
  refine W.stT k1 hn (Nat.le_of_ble_eq_true (by rfl)) fun τ4 H4 k1 hnτ4=>?_;replace HH:=HH.inH H4;replace k2:=k2.hop H4;replace k3:=k3.hop H4;replace k4:=k4.hop H4;replace hn:=H4.tn
  repeat' with_reducible first|refine W.fldp ?_|refine W.nck ?_|refine W.u4 ?_
  refine W.stT k1 hn (Nat.le_of_ble_eq_true (by rfl)) fun τ5 H5 k1 hnτ5=>?_;replace HH:=HH.inH H5;replace k2:=k2.hop H5;replace k3:=k3.hop H5;replace k4:=k4.hop H5;replace hn:=H5.tn
  repeat' with_reducible first|refine W.bind ?_|refine W.asV ?_|refine W.fldp ?_|refine W.nck ?_|refine W.u0 ?_|refine W.u3 ?_
  have w:IntKind.i64.wrap (((sc++[(0:Int)]).length:Int)-1)=((K+1:Nat):Int):=by rw[wrapS]<;>simp<;>omega
  rw[w];have p5:HpI τ5 T3 lh (K+1) hs1:=⟨_,_,_,_,_,⟨k1,k2,k3,k4⟩,H.grow,by simp[e]⟩;refine W.mono (y9a_ (v:=K+1) p5 HH.tn (by omega) (by omega) (by omega)) fun r hr=>?_;obtain⟨r,τ6⟩:=r;obtain⟨T6,hs6,H6,p6,hm6⟩:=hr
  repeat' (with_reducible refine W.next ?_)
  refine⟨vars-(K+1),by omega,T6,hs6,K+1,HH.trans H6,p6,by omega,.inr (by omega),rfl,fun x=>?_⟩;rw[hm6,hmm];constructor
  ·rintro((q|q)|q)
   ·exact .inl q
   ·exact .inr (by omega)
   ·exact .inr (by omega)
  ·rintro(q|q)
   ·exact .inl (.inl q)
   ·by_cases e2:x=((K+1:Nat):Int)
    ·exact .inr e2
    ·exact .inl (.inr (by omega))
 ·repeat' (with_reducible refine W.stop ?_)
  have:max N vars=K:=by omega
  rw[this];refine⟨T1,hs1,HH,⟨_,_,_,_,_,⟨k1,k2,k3,k4⟩,H,e⟩,fun x=>?_⟩;rw[hmm];constructor
  ·rintro(q|q)
   ·exact .inl q
   ·rcases hK2 with w|w
    ·omega
    ·exact .inr (by omega)
  ·rintro(q|q)
   ·exact .inl q
   ·exact .inr (by omega)
theorem yg3_(hn:Tn σ T):W (S.z37 0 σ) fun r=>∃T' lh,r.1=.ptr lh 0/\Hop hI σ T r.2 T'/\HpI r.2 T' lh 0 []:=by
 unfold S.z37;refine W.mkT (v:=Vw.int) 12 hn (0:Int) rfl (fun _=>rfl) (n:=1) (by omega) (by omega) rfl fun x τ1 T1 H1 k2 _=>?_;have HH:Hop hI σ T τ1 T1:=(Hop.refl hn).inH H1;refine W.mkT (v:=Vw.int) 13 HH.tn (0:Int) rfl (fun _=>rfl) (n:=1) (by omega) (by omega) rfl fun y τ2 T2 H2 k3 _=>?_;replace HH:=HH.inH H2;replace k2:=k2.hop H2;replace hn:=H2.tn
 repeat' (with_reducible refine W.u4 ?_)
 refine W.newT 11 hn fun l τ3 T3 hl H3 k1 hnτ3=>?_;replace HH:=HH.inH H3;replace k2:=k2.hop H3;replace k3:=k3.hop H3;replace hn:=H3.tn;have p3:HpI τ3 T3 l 0 []:=⟨_,_,_,_,_,⟨k1,k2,k3,.nil⟩,⟨rfl,fun k v h=>by simp at h,fun v k hv=>by
  have:v=0:=by simpa using hv
  subst this;simp;omega,fun v=>by
  cases v with
  |zero=>simp
  |succ v=>simp⟩,rfl⟩
 refine W.bind ?_;refine W.mono (y9h_ (vars:=0) p3 HH.tn (by omega) (by omega)) fun r hr=>?_;obtain⟨r,τ4⟩:=r;obtain⟨T4,hs4,H4,p4,hm4⟩:=hr
 repeat' with_reducible refine W.ret ?_
 have:hs4=[]:=by
  cases hs4 with
  |nil=>rfl
  |cons a t=>
   have:=(hm4 a).1 (by simp);rcases this with q|q
   ·cases q
   ·omega
 subst this;exact⟨T4,l,rfl,HH.trans H4,p4⟩
theorem MO.packs{R:Type}:∀(vs:List AVal) (ks:List Kd) {K K':Tu ks->Option R},(∀x,MO (K x) (K' x))->MO (packs vs ks K) (packs vs ks K')
 |[],[],K,K',h=>h ()
 |[v],[k],K,K',h=>MO.asK h
 |v::v'::vs,k::k'::ks,K,K',h=>MO.asK fun a=>MO.packs (v'::vs) (k'::ks) fun b=>h (a,b)
 |[],_::_,K,K',h=>MO.none _
 |[_],[],K,K',h=>MO.none _
 |_::_::_,[],K,K',h=>MO.none _
 |[_],_::_::_,K,K',h=>MO.none _
 |_::_::_,[_],K,K',h=>MO.none _
theorem MO.callB{self self':Int->AVal->AVal->AVal->Heap->Option (Unit×Heap)}(h:∀a b c d σ,MO (self a b c d σ) (self' a b c d σ)){R:Type}{K K':AVal->Heap->Option R}(hK:∀a b,MO (K a b) (K' a b))(v:AVal)(args:List AVal)(σ:Heap) :
  MO (callV (S.z31.T self) v args σ K) (callV (S.z31.T self') v args σ K'):=by
 unfold callV
 split
 ·rename_i id fi ca
  unfold S.z31.T tab;generalize Nat.beq id _=b;cases b with
  |true=>exact MO.bind (MO.packs _ _ fun x=>h _ _ _ _ _) fun r=>hK _ _
  |false=>exact MO.none _
 ·exact MO.none _
theorem yj1_{self self':Int->AVal->AVal->AVal->Heap->Option (Unit×Heap)}(h:∀a b c d σ,MO (self a b c d σ) (self' a b c d σ))(k:Int)(a b c:AVal)(σ:Heap):MO (S.z31.r self k a b c σ) (S.z31.r self' k a b c σ):=by
 unfold S.z31.r;refine MO.bind (MO.rfl _) fun r=>MO.cond ?_ (MO.rfl _);refine MO.ld fun v=>MO.ld fun v=>MO.nilck (MO.fld fun a=>MO.ld fun v=>MO.ixA fun a=>MO.ld fun n=>MO.newK fun l σ=>MO.appS fun v σ=>MO.scal (MO.stC fun σ=>MO.ld fun v=>MO.callB h (fun r σ=>MO.ld fun v=>MO.callB h (fun r σ=>MO.rfl _) _ _ _) _ _ _))
theorem ygc_(n:Nat):∀k a b c σ,MO (S.z31.n n k a b c σ) (S.z31.n (n+1) k a b c σ):=by
 induction n with
 |zero=>exact fun _ _ _ _ _=>MO.none _
 |succ n ih=>exact fun k a b c σ=>yj1_ ih k a b c σ
structure BsH(σ:Heap)(T:Tg)(lh N l1 l3 l5:Nat)(hs out:List Int):Prop where
 hp:HpI σ T lh N hs
 b1:Loc (σ.at T 26) l1 [.ptr lh 0]
 b3:∃x,Loc (σ.at T 24) l3 [x]/\Own .int (σ.at T 25) out x
 b5:∃f,Loc (σ.at T 27) l5 [f]/\∀(self:Int->AVal->AVal->AVal->Heap->Option (Unit×Heap)) {R:Type} (K:AVal->Heap->Option R) (k:Int) (σ:Heap),callV (S.z31.T self) f [.int .i64 k] σ K=(self k (.ptr l1 0) (.ptr l3 0) (.ptr l5 0) σ).bind fun r=>K (retV [] r.1) r.2
def bI:Nat->Bool:=fun j=>decide (24<=j)&&decide (j<=29)
theorem Hop.inB{σ0 σ τ:Heap}{T0 T T':Tg}{t:Nat}(h:Hop bI σ0 T0 σ T)(H:Hop (only t) σ T τ T')(ht:bI t=true:=by rfl):Hop bI σ0 T0 τ T':=h.trans (H.sub (fun i hi=>by
 have:i=t:=by simpa using hi
 rw[this];exact ht))
theorem hI_bI(j:Nat)(h:hI j=true):bI j=false:=by
 simp only[hI,bI,Bool.and_eq_true,decide_eq_true_eq,Bool.and_eq_false_iff,decide_eq_false_iff_not]at h⊢;omega
section
variable{σ τ:Heap}{T T':Tg}{lh N l1 l3 l5:Nat}{hs out:List Int}
theorem HpI.hopB(p:HpI σ T lh N hs){t:Nat}(H:Hop (only t) σ T τ T')(ht:hI t=false:=by rfl):HpI τ T' lh N hs:=p.hop H fun j hj=>by
 simp only[only,beq_eq_false_iff_ne];intro e;subst e;rw[ht]at hj;cases hj
theorem ye1_(hN:N<=4000):∀(m:Nat) {σ:Heap} {T:Tg} {out:List Int} (k:Nat),BsH σ T lh N l1 l3 l5 hs out->Tn σ T->hs.length<2 ^ m*(k+1)->m<=20->k<=1000000->out.length+2 ^ m<=10000000->(∀x∈out,x∈hs) ->
  W (S.z31.n (m+1) (k:Int) (.ptr l1 0) (.ptr l3 0) (.ptr l5 0) σ) fun r=>∃T' out',Hop bI σ T r.2 T'/\BsH r.2 T' lh N l1 l3 l5 hs out'/\(∀x∈out',x∈hs)/\out'.length+1<=out.length+2 ^ m/\(out≠[]\/(k=0/\hs≠[])->out'≠[]):=by
 intro m
 induction m with
 | zero=>
  intro σ T out k B hn hk _ _ _ hout;have hlen:=B.hp.len;obtain⟨xs,xp,xh,sc,pl,⟨k1,k2,k3,k4⟩,H,e⟩:=id B.hp;have b1:=B.b1;show W (S.z31.r (S.z31.n 0) (k:Int) (.ptr l1 0) (.ptr l3 0) (.ptr l5 0) σ) _;unfold S.z31.r
  repeat' with_reducible first|refine W.bind ?_|refine W.asV ?_|refine W.fldp ?_|refine W.nck ?_|refine W.u0 ?_|refine W.u3 ?_
  refine W.condF (by simp;omega) ?_
  repeat' with_reducible refine W.ret ?_
  refine W.condF rfl ?_
  repeat' with_reducible refine W.ret ?_
  refine⟨T,out,Hop.refl hn,B,hout,by simp,fun q=>?_⟩;rcases q with q|⟨q1,q2⟩
  ·exact q
  ·subst q1
   have:hs.length=0:=by omega
   exact absurd (List.eq_nil_of_length_eq_zero this) q2
 | succ m ih=>
  intro σ T out k B hn hk hm hk6 ho7 hout;have hlen:=B.hp.len;have hp0:=B.hp;obtain⟨xs,xp,xh,sc,pl,⟨k1,k2,k3,k4⟩,H,e⟩:=hp0;have b1:=B.b1;obtain⟨x3,b3,k25⟩:=B.b3;obtain⟨f,b5,hf⟩:=B.b5;show W (S.z31.r (S.z31.n (m+1)) (k:Int) (.ptr l1 0) (.ptr l3 0) (.ptr l5 0) σ) _;unfold S.z31.r;have hnil:∀(q:k=0/\hs≠[]) ,k<hs.length:=fun q=>by
   have:=List.length_pos_iff.2 q.2;omega
  have hpow:1<=2 ^ m:=Nat.one_le_two_pow;have hp2:2 ^ (m+1)=2 ^ m+2 ^ m:=by rw[Nat.pow_succ];omega
  have hsmall:2 ^ (m+1)<=1048576:=Nat.pow_le_pow_right (n:=2) (by omega) hm;refine W.bind ?_;refine W.mono (P:=fun b=>(b=true->k<hs.length)/\(k=0->hs≠[]->b=true)) ?_ fun b hb=>?_
  ·repeat' with_reducible first|refine W.asV ?_|refine W.fldp ?_|refine W.nck ?_|refine W.u0 ?_|refine W.u3 ?_
   (with_reducible refine W.cnd (fun hkl=>?_) (fun hkl=>?_)<;>(try simp only[qq,Kd.ty]at hkl)<;>(try (exfalso;omega)))
   ·obtain⟨a,ha⟩:=y3_ (xs:=hs) (i:=k) (by omega)
    obtain⟨d,hd⟩:=y3_ (xs:=hs) (i:=0) (by omega);obtain⟨wa,rfl,hwa⟩:=H.nat ha;obtain⟨wd,rfl,hwd⟩:=H.nat hd;obtain⟨sa,hsa⟩:=y3_ (xs:=sc) (i:=wa) hwa;obtain⟨sd,hsd⟩:=y3_ (xs:=sc) (i:=wd) hwd
    repeat' with_reducible first|refine W.asV ?_|refine W.fldp ?_|refine W.nck ?_|refine W.u0 ?_|refine W.u2 ?_
    refine W.ixIc (i:=0) k4.slT hd ?_
    repeat' with_reducible first|refine W.ret ?_|refine W.u2 ?_
    refine⟨fun _=>by omega,fun q _=>?_⟩;subst q;rw[ha]at hd;have:wa=wd:=Int.ofNat.inj (Option.some.inj hd);subst this;rw[hsa]at hsd;have:=Option.some.inj hsd;simp[this]
   ·repeat' with_reducible refine W.ret ?_
    refine⟨fun q=>by simp at q,fun q1 q2=>?_⟩;have:=List.length_pos_iff.2 q2;omega
  ·cases b with
   |false=>
    refine W.condF rfl ?_
    repeat' with_reducible refine W.ret ?_
    refine⟨T,out,Hop.refl hn,B,hout,by omega,fun q=>?_⟩;rcases q with q|⟨q1,q2⟩
    ·exact q
    ·have:=hb.2 q1 q2;cases this
   | true=>
    have hkl:=hb.1 rfl;refine W.condT rfl ?_;obtain⟨a,ha⟩:=y3_ (xs:=hs) (i:=k) hkl
    repeat' with_reducible first|refine W.asV ?_|refine W.fldp ?_|refine W.nck ?_|refine W.u0 ?_|refine W.u2 ?_
    refine W.own_push (bytes:=8) Vw.int_flat k25 hn (a:=a) rfl (by omega) (by omega) fun x2 τ2 T2 k25 H2=>?_;have HH:Hop bI σ T τ2 T2:=(Hop.refl hn).inB H2;have p2:=B.hp.hopB H2;replace b1:=b1.hop H2;replace b3:=b3.hop H2;replace b5:=b5.hop H2;replace hn:=H2.tn
    repeat' (with_reducible refine W.u4 ?_)
    refine W.stT b3 hn (Nat.le_of_ble_eq_true (by rfl)) fun τ3 H3 b3 hnτ3=>?_;replace HH:=HH.inB H3;have p3:=p2.hopB H3;replace b1:=b1.hop H3;replace b5:=b5.hop H3;replace k25:=k25.hop H3;replace hn:=H3.tn;have B3:BsH τ3 T2 lh N l1 l3 l5 hs (out++[a]):=⟨p3,b1,⟨x2,b3,k25⟩,f,b5,hf⟩;have w1:IntKind.i64.wrap (2*(k:Int))=((2*k:Nat):Int):=by rw[wrapS]<;>omega
    have w2:IntKind.i64.wrap (((2*k:Nat):Int)+1)=((2*k+1:Nat):Int):=by rw[wrapS]<;>omega
    have w3:IntKind.i64.wrap (((2*k:Nat):Int)+2)=((2*k+2:Nat):Int):=by rw[wrapS]<;>omega
    rw[w1,w2,w3]
    repeat' with_reducible first|refine W.asV ?_|refine W.u0 ?_
    refine W.to (hf _ _ _ _) ?_;have hmul:2 ^ (m+1)*(k+1)=2 ^ m*(2*k+1+1):=by
     have e2:2*k+1+1=2*(k+1):=by omega
     rw[e2,hp2,<-Nat.two_mul,Nat.mul_comm 2,Nat.mul_assoc]
    have hlt1:hs.length<2 ^ m*(2*k+1+1):=by rw[<-hmul];exact hk
    have hmul2:2 ^ m*(2*k+1+1)<=2 ^ m*(2*k+2+1):=Nat.mul_le_mul_left _ (by omega);refine W.bind ?_;have hlt2:hs.length<2 ^ m*(2*k+2+1):=Nat.lt_of_lt_of_le hlt1 hmul2;refine W.mono (ih (2*k+1) B3 hn hlt1 (by omega) (by omega) (by simp;omega) (fun x hx=>by
     rcases List.mem_append.1 hx with q|q
     ·exact hout x q
     ·rw[List.mem_singleton.1 q];exact List.mem_of_getElem? ha)) fun r hr=>?_
    obtain⟨r,τ4⟩:=r;obtain⟨T4,out4,H4,B4,hout4,hlen4,hne4⟩:=hr;dsimp only at H4 B4⊢;replace HH:=HH.trans H4;obtain⟨f',b5,hf'⟩:=B4.b5
    repeat' with_reducible first|refine W.asV ?_|refine W.u0 ?_
    refine W.to (hf' _ _ _ _) ?_;simp at hlen4;refine W.bind ?_;refine W.mono (ih (2*k+2) B4 H4.tn hlt2 (by omega) (by omega) (by omega) hout4) fun r hr=>?_;obtain⟨r,τ5⟩:=r;obtain⟨T5,out5,H5,B5,hout5,hlen5,hne5⟩:=hr
    repeat' with_reducible refine W.ret ?_
    exact⟨T5,out5,HH.trans H5,B5,hout5,by omega,fun _=>hne5 (.inl (hne4 (.inl (by simp))))⟩
theorem yjv_{t:Nat}{xs:List Int}{x:AVal}(h:Own .int (σ.at T t) xs x)(hn:Tn σ T)(hne:xs≠[])(hb:xs.length<=100000000):W (S.z129 x σ) fun r=>Own .int (r.2.at T t) (yx_ xs) x/\Hop (only t) σ T r.2 T:=by
 rcases h with ⟨_,rfl⟩|⟨l,off,c,cs,rfl,h2,h3,h4,h5,h6⟩
 ·exact absurd rfl hne
 obtain⟨e1,e2⟩:=ys_.1 h3;have hsz:Vw.int.sz=1:=rfl;rw[hsz]at h3 h4 h5 h6 e2;simp only[Nat.mul_one]at h4 h5 h6;have hpos:=List.length_pos_iff.2 hne;have hcs:(cs.drop off).take xs.length=xs.map (.int .i64):=by
  apply List.ext_getElem? fun i=>?_;by_cases hi:i<xs.length
  ·obtain⟨a,ha⟩:=y3_ (xs:=xs) (i:=i) hi
   have:=h6 i a ha;have this:(cs.drop (off+i)).take 1=[.int .i64 a]:=this;rw[List.getElem?_take_of_lt hi,List.getElem?_map,ha,List.getElem?_drop];have h7:=congrArg (·[0]?) this;simp only[List.getElem?_take_of_lt (show 0<1 by omega),List.getElem?_drop,Nat.add_zero]at h7;rw[h7];rfl
  ·rw[List.getElem?_eq_none (by simp;omega),List.getElem?_eq_none (by simp;omega)]
 unfold S.z129;refine⟨((),σ.set l (.cells .rw 1 (cs.take off++(yx_ xs).map (.int .i64)++cs.drop (off+xs.length)))),?_,?_,y2p_ hn e1⟩
 ·simp only[sortS,e2]
  rw[if_pos ⟨hpos,h5,by omega⟩,hcs,yao_]
 ·have hsl:=y3u_ xs
  refine .inr ⟨l,off,c,_,by rw[hsl],h2,at_of e1 (y5d_ ..),fun k e=>?_,?_,fun i a ha=>?_⟩
  ·have:=h4 k e
   simp[hsz,hsl];omega
  ·simp[hsz,hsl];omega
  ·have hi:=y2_ ha
   rw[hsz,Nat.mul_one];show _=_;rw[List.drop_eq_getElem_cons (by simp;omega),List.take_succ_cons,List.take_zero]
   congr 1
   have:(cs.take off++(yx_ xs).map (AVal.int .i64)++cs.drop (off+xs.length))[off+i]?=some (.int .i64 a):=by
    rw[List.append_assoc,List.getElem?_append_right (by simp;omega),List.getElem?_append_left (by simp;omega),List.getElem?_map];rw[show off+i-(cs.take off).length=i by simp;omega,ha];rfl
   exact(List.getElem?_eq_some_iff.1 this).2
theorem yjn_(p:HpI σ T lh N hs)(hn:Tn σ T)(hN:N<=4000)(hne:hs≠[]):W (S.z30 (.ptr lh 0) σ) fun r=>∃T' out,Hop bI σ T r.2 T'/\Own .int (r.2.at T' 25) out r.1/\out≠[]/\out.length<=10000000/\∀x∈out,x∈hs:=by
 have hlen:=p.len;unfold S.z30
 repeat' (with_reducible refine W.scP ?_)
 refine W.newT 26 hn fun l1 τ1 T1 hl1 H1 b1 hnτ1=>?_;have HH:Hop bI σ T τ1 T1:=(Hop.refl hn).inB H1;replace p:=p.hopB H1;replace hn:=HH.tn;refine W.newT 24 hn fun l3 τ2 T2 hl3 H2 b3 hnτ2=>?_;replace HH:=HH.inB H2;replace p:=p.hopB H2;replace b1:=b1.hop H2;replace hn:=H2.tn;refine W.newT 27 hn fun l5 τ3 T3 hl5 H3 b5 hnτ3=>?_;replace HH:=HH.inB H3;replace p:=p.hopB H3;replace b1:=b1.hop H3;replace b3:=b3.hop H3;replace hn:=H3.tn;refine W.stT b5 hn (Nat.le_of_ble_eq_true (by rfl)) fun τ4 H4 b5 hnτ4=>?_;replace HH:=HH.inB H4;replace p:=p.hopB H4;replace b1:=b1.hop H4;replace b3:=b3.hop H4;replace hn:=H4.tn
 repeat' with_reducible first|refine W.asV ?_|refine W.u0 ?_
 have B:BsH τ4 T3 lh N l1 l3 l5 hs []:=⟨p,b1,⟨_,b3,.nil⟩,_,b5,fun self R K k σ=>rfl⟩;show W ((S.z31 ((0:Nat):Int) (.ptr l1 0) (.ptr l3 0) (.ptr l5 0) τ4).bind fun r=>_) _;refine W.bind ?_;unfold S.z31;refine W.mono (W.lim (fun m=>ygc_ m _ _ _ _ _) 13 (ye1_ hN 12 0 B HH.tn (by omega) (by omega) (by omega) (by simp) (fun x hx=>by cases hx))) fun r hr=>?_;obtain⟨r,τ5⟩:=r;obtain⟨T5,out,H5,B5,hout,hol,hone⟩:=hr;dsimp only at H5 B5⊢;replace HH:=HH.trans H5;obtain⟨x,b3,k25⟩:=B5.b3;simp at hol
 repeat' with_reducible first|refine W.bind ?_|refine W.asV ?_|refine W.u0 ?_
 refine W.mono (yjv_ k25 HH.tn (hone (.inr ⟨rfl,hne⟩)) (by omega)) fun r hr=>?_;obtain⟨r,τ6⟩:=r;obtain⟨k25,H6⟩:=hr;dsimp only at k25 H6⊢;replace b3:=b3.hop H6
 repeat' with_reducible first|refine W.ret ?_|refine W.asV ?_|refine W.u0 ?_
 have hmem:∀x,x∈yx_ out↔x∈out:=fun x=>(List.mergeSort_perm _ _).mem_iff;refine⟨T5,yx_ out,HH.inB H6,k25,fun e=>?_,by rw[y3u_];omega,fun x hx=>hout x ((hmem x).1 hx)⟩;have:=y3u_ out;rw[e]at this;exact hone (.inr ⟨rfl,hne⟩) (List.eq_nil_of_length_eq_zero this.symm)
end
end
end
section
open Go
def hbI:Nat->Bool:=fun j=>(decide (11<=j)&&decide (j<=14))||(decide (24<=j)&&decide (j<=29))
theorem Hop.hb{σ τ:Heap}{T T':Tg}(H:Hop hI σ T τ T'):Hop hbI σ T τ T':=H.sub fun i hi=>by simp only[hI,hbI,Bool.or_eq_true,Bool.and_eq_true,decide_eq_true_eq]at hi⊢;omega
theorem Hop.bb{σ τ:Heap}{T T':Tg}(H:Hop bI σ T τ T'):Hop hbI σ T τ T':=H.sub fun i hi=>by simp only[bI,hbI,Bool.or_eq_true,Bool.and_eq_true,decide_eq_true_eq]at hi⊢;omega
section
variable{σ τ:Heap}{T T':Tg}{lh N:Nat}{hs:List Int}
theorem yfx_(p:HpI σ T lh N hs)(hn:Tn σ T)(hN:N<=4000)(hne:hs≠[]){tie:Int}:W (S.z27 (.ptr lh 0) tie σ) fun r=>∃v:Nat,r.1=((v:Int),true)/\(v:Int)∈hs/\∃T' hs',Hop hbI σ T r.2 T'/\HpI r.2 T' lh N hs'/\∀x,x∈hs'↔x∈hs/\x≠(v:Int):=by
 have hlen:=p.len;have hpos:=List.length_pos_iff.2 hne;have p0:=p;obtain⟨xs,xp,xh,sc,pl,⟨k1,k2,k3,k4⟩,H,e⟩:=p;obtain⟨a,ha⟩:=y3_ (xs:=hs) (i:=0) hpos;unfold S.z27
 repeat' with_reducible first|refine W.asV ?_|refine W.fldp ?_|refine W.nck ?_|refine W.u0 ?_|refine W.u3 ?_
 refine W.condF (by simpa using hne) ?_
 repeat' with_reducible first|refine W.asV ?_|refine W.fldp ?_|refine W.nck ?_|refine W.u0 ?_
 refine W.ixIc (i:=0) k4.slT ha ?_;refine W.bind ?_;refine W.mono (P:=fun r=>r.1∈hs/\∃T',Hop hbI σ T r.2 T'/\HpI r.2 T' lh N hs) ?_ fun r hr=>?_
 ·by_cases ht:tie=0
  ·refine W.condF (by simp[ht]) ?_
   repeat' with_reducible refine W.ret ?_
   exact⟨List.mem_of_getElem? ha,T,Hop.refl hn,p0⟩
  ·refine W.condT (by simp[ht]) ?_
   refine W.bind ?_;refine W.mono (yjn_ p0 hn hN hne) fun r hr=>?_;obtain⟨y,τ1⟩:=r;obtain⟨T1,out,H1,k25,hone,hol,hout⟩:=hr;dsimp only at H1 k25⊢;have p1:=p0.hop H1 hI_bI;have hopos:=List.length_pos_iff.2 hone
   repeat' (with_reducible refine W.u3 ?_)
   rw[if_neg (by omega)]
   repeat' (with_reducible refine W.u3 ?_)
   rw[if_neg (by omega)];have r1 : -(out.length:Int)<Int.tmod tie out.length/\Int.tmod tie out.length<out.length:=⟨by have:=Int.tmod_lt_of_pos (-tie) (show(0:Int)<out.length by omega);rw[Int.neg_tmod]at this;omega,Int.tmod_lt_of_pos _ (by omega)⟩;have w:IntKind.i64.wrap (Int.tmod tie out.length+out.length)=Int.tmod tie out.length+out.length:=by rw[wrapS]<;>omega
   rw[w];have r2:0<=Int.tmod (Int.tmod tie out.length+out.length) out.length/\Int.tmod (Int.tmod tie out.length+out.length) out.length<out.length:=⟨Int.tmod_nonneg _ (by omega),Int.tmod_lt_of_pos _ (by omega)⟩;refine W.ixIn k25.slT r2.1 r2.2 fun d hd=>?_
   repeat' with_reducible refine W.ret ?_
   exact⟨hout d (List.mem_of_getElem? hd),T1,H1.bb,p1⟩
 ·obtain⟨d,τ1⟩:=r
  obtain⟨hd,T1,H1,p1⟩:=hr;dsimp only at hd H1 p1⊢;have p1':=p1;obtain⟨xs,xp,xh,sc,pl,⟨k1,k2,k3,k4⟩,H,e⟩:=p1;obtain⟨j,hj⟩:=y9_ hd;obtain⟨v,rfl,hv⟩:=H.nat hj;have hl:=H.len;have hpj:=(H.at_ v j hv).2 hj;have hpw:pl[v]?=some ((j:Int)+1):=by
   obtain⟨b,hb⟩:=y3_ (xs:=pl) (i:=v) (by omega);rw[List.getD_eq_getElem?_getD,hb]at hpj;rw[hb];exact congrArg some hpj
  have hjl:=y2_ hj;have w2:IntKind.i64.wrap (((j:Int)+1)-1)=(j:Int):=by rw[wrapS]<;>omega
  repeat' with_reducible first|refine W.bind ?_|refine W.asV ?_|refine W.fldp ?_|refine W.nck ?_|refine W.u0 ?_|refine W.u2 ?_
  rw[w2];refine W.mono (yee_ p1' H1.tn hN hj) fun r hr=>?_;obtain⟨r,τ2⟩:=r;obtain⟨er,T2,hs2,H2,p2,hm2⟩:=hr;dsimp only at er H2 p2⊢;subst er
  repeat' with_reducible refine W.ret ?_
  exact⟨v,rfl,hd,T2,hs2,H1.trans H2.hb,p2,hm2⟩
def TnI(σ:Heap)(T:Tg)(x:AVal)(k:Int):Prop:=∃xs:List Int,SlV .int (σ.at T 0) xs x/\xs.length<=1000000/\0<=k/\(xs.length=0\/k<xs.length)
structure PcI(σ:Heap)(T:Tg)(lq:Nat)(most since least:Int):Prop where
 ex:∃x0 k0 x1 k1 x2 k2 x3 k3 came,Loc (σ.at T 30) lq [x0,.int .i64 k0,x1,.int .i64 k1,x2,.int .i64 k2,x3,.int .i64 k3,.int .i64 most,.int .i64 came,.int .i64 since,.int .i64 least]/\TnI σ T x0 k0/\TnI σ T x1 k1/\TnI σ T x2 k2/\TnI σ T x3 k3
variable{lq:Nat}{most since least k:Int}{x:AVal}{I:Nat->Bool}
theorem TnI.hop(h:TnI σ T x k)(H:Hop I σ T τ T')(h0:I 0=false:=by rfl):TnI τ T' x k:=by
 obtain⟨xs,h1,h2⟩:=h;exact⟨xs,h1.hop H h0,h2⟩
theorem PcI.hop(p:PcI σ T lq most since least)(H:Hop I σ T τ T')(h0:I 0=false:=by rfl)(h30:I 30=false:=by rfl):PcI τ T' lq most since least:=by
 obtain⟨x0,k0,x1,k1,x2,k2,x3,k3,came,h,q0,q1,q2,q3⟩:=p.ex;exact⟨⟨x0,k0,x1,k1,x2,k2,x3,k3,came,h.hop H h30,q0.hop H h0,q1.hop H h0,q2.hop H h0,q3.hop H h0⟩⟩
theorem TnI.hle(h:TnI σ T x k)(L:Hle σ τ):TnI τ T x k:=by
 obtain⟨xs,h1,h2⟩:=h;exact⟨xs,h1.hle L,h2⟩
theorem PcI.hle(p:PcI σ T lq most since least)(L:Hle σ τ):PcI τ T lq most since least:=by
 obtain⟨x0,k0,x1,k1,x2,k2,x3,k3,came,h,q0,q1,q2,q3⟩:=p.ex;exact⟨⟨x0,k0,x1,k1,x2,k2,x3,k3,came,h.hle L,q0.hle L,q1.hle L,q2.hle L,q3.hle L⟩⟩
theorem y8e_{cs:List AVal}{o:Nat}(h:Loc (σ.at T 30) lq cs)(hn:Tn σ T)(ho:o+2<=cs.length)(hx:cs[o]?=some x)(hk:cs[o+1]?=some (.int .i64 k))(ht:TnI σ T x k) :
  W (S.z67 (.ptr lq o) σ) fun r=>∃k',Hop (only 30) σ T r.2 T/\Loc (r.2.at T 30) lq (cs.set (o+1) (.int .i64 k'))/\TnI r.2 T x k':=by
 obtain⟨xs,h1,h2,h3,h4⟩:=ht;have h1u:=h1.up;have hu:=h.up;unfold S.z67;have R0:∀{Q:(Int×Heap)->Prop} {K:AVal->Option (Int×Heap)},W (K x) Q->W (fld (.ptr lq o) 0 fun a=>ld σ a .V K) Q:=fun {Q K} c=>by
  refine W.fldp ?_;exact W.ldL hu hx (W.asV c)
 have R1:∀{Q:(Int×Heap)->Prop} {K:Int->Option (Int×Heap)},W (K k) Q->W (fld (.ptr lq o) 1 fun a=>ld σ a (.I .i64) K) Q:=fun {Q K} c=>by
  refine W.fldp ?_;exact W.ldL hu hk (W.asI c)
 refine W.nck (R0 (W.len h1u ?_));by_cases hz:xs.length=0
 ·refine W.condT (by simpa using hz) ?_
  refine W.ret ⟨k,Hop.refl hn,?_,xs,h1,h2,h3,h4⟩;have:cs.set (o+1) (.int .i64 k)=cs:=by
   obtain⟨g1,g2⟩:=List.getElem?_eq_some_iff.1 hk;rw[<-g2,List.set_getElem_self]
  rw[this];exact h
 ·refine W.condF (by simpa using hz) ?_
  have hkl:k<xs.length:=h4.resolve_left hz;refine W.nck (R0 (W.nck (R1 ?_)));refine W.ixIn h1u h3 hkl fun d hd=>?_;refine W.nck (R1 (W.nck (R0 (W.len h1u ?_))));rw[if_neg (by omega)];refine W.nck (W.fldp ?_);refine W.stT h hn (by simp;omega) fun τ1 H1 h5 _=>?_;refine W.ret ?_;have w:IntKind.i64.wrap (k+1)=k+1:=by rw[wrapS]<;>omega
  rw[w]at h5;have e:cs.take (o+1)++[AVal.int .i64 (Int.tmod (k+1) xs.length)]++cs.drop (o+1+[AVal.int .i64 (Int.tmod (k+1) xs.length)].length)=cs.set (o+1) (.int .i64 (Int.tmod (k+1) xs.length)):=by
   rw[List.set_eq_take_append_cons_drop,if_pos (by omega)];simp
  rw[e]at h5;exact⟨_,H1,h5,xs,h1.hop H1,h2,Int.tmod_nonneg _ (by omega),.inr (Int.tmod_lt_of_pos _ (by omega))⟩
theorem yex_(p:PcI σ T lq most since least)(hn:Tn σ T)(hm:most<=0)(hs0:0<=since/\since<=4000000000000000000):W (S.z62 (.ptr lq 0) σ) fun r=>r.1=true/\Hop (only 30) σ T r.2 T/\PcI r.2 T lq most (since+1) least:=by
 obtain⟨x0,k0,x1,k1,x2,k2,x3,k3,came,h,u0,u1,u2,u3⟩:=p.ex;have w:IntKind.i64.wrap (since+1)=since+1:=by rw[wrapS]<;>omega
 unfold S.z62
 repeat' with_reducible first|refine W.asI ?_|refine W.fldp ?_|refine W.nck ?_|refine W.u0 ?_
 refine W.stT h hn (Nat.le_of_ble_eq_true (by rfl)) fun τ1 H1 h hnτ1=>?_;replace hn:=H1.tn
 repeat' with_reducible first|refine W.asI ?_|refine W.fldp ?_|refine W.nck ?_|refine W.u0 ?_
 rw[w];refine W.stT h hn (Nat.le_of_ble_eq_true (by rfl)) fun τ2 H2 h hnτ2=>?_
 repeat' with_reducible first|refine W.bind ?_|refine W.asI ?_|refine W.fldp ?_|refine W.nck ?_|refine W.u0 ?_
 refine W.condT (by simpa using hm) ?_
 repeat' with_reducible refine W.ret ?_
 have HH:=H1.trans H2;exact⟨rfl,HH,x0,k0,x1,k1,x2,k2,x3,k3,_,h,u0.hop HH,u1.hop HH,u2.hop HH,u3.hop HH⟩
theorem ygi_(p:PcI σ T lq most since least)(hn:Tn σ T)(hl:0<=least/\least<=4000000000000000000):W (S.z64 (.ptr lq 0) σ) fun r=>∃since' least',Hop (only 30) σ T r.2 T/\PcI r.2 T lq most since' least'/\((r.1=false/\since'=since/\least'=least)\/(r.1=true/\least<=since/\since'=0/\least'=least+8)):=by
 obtain⟨x0,k0,x1,k1,x2,k2,x3,k3,came,h,u0,u1,u2,u3⟩:=p.ex;have w:IntKind.i64.wrap (least+8)=least+8:=by rw[wrapS]<;>omega
 unfold S.z64
 repeat' with_reducible first|refine W.bind ?_|refine W.asI ?_|refine W.fldp ?_|refine W.nck ?_|refine W.u0 ?_
 (with_reducible refine W.cnd (fun hc=>?_) (fun hc=>?_)<;>(try simp only[qq,Kd.ty]at hc)<;>(try (exfalso;omega)))
 ·repeat' with_reducible refine W.ret ?_
  refine W.condT rfl ?_
  repeat' with_reducible refine W.ret ?_
  exact⟨since,least,Hop.refl hn,p,.inl ⟨rfl,rfl,rfl⟩⟩
 ·have hls:least<=since:=by omega
  repeat' with_reducible first|refine W.bind ?_|refine W.fldp ?_|refine W.nck ?_
  refine W.mono (y8e_ (o:=0) h hn (by simp) rfl rfl u0) fun r hr=>?_;obtain⟨n,τ1⟩:=r;obtain⟨k',H1,h,u0⟩:=hr;dsimp only at H1 h u0⊢;simp only[List.set_cons_succ,List.set_cons_zero]at h;have u1:=u1.hop H1;have u2:=u2.hop H1;have u3:=u3.hop H1;replace hn:=H1.tn
  repeat' with_reducible refine W.ret ?_
  generalize (IntKind.i64.wrap _==(0:Int))=b;cases b with
  |true=>
   refine W.condT rfl ?_
   repeat' with_reducible refine W.ret ?_
   exact⟨since,least,H1,⟨x0,k',x1,k1,x2,k2,x3,k3,came,h,u0,u1,u2,u3⟩,.inl ⟨rfl,rfl,rfl⟩⟩
  |false=>
   refine W.condF rfl ?_
   repeat' with_reducible first|refine W.fldp ?_|refine W.nck ?_
   refine W.stT h hn (Nat.le_of_ble_eq_true (by rfl)) fun τ2 H2 h hnτ2=>?_;replace hn:=H2.tn
   repeat' with_reducible first|refine W.asI ?_|refine W.fldp ?_|refine W.nck ?_|refine W.u0 ?_
   rw[w];refine W.stT h hn (Nat.le_of_ble_eq_true (by rfl)) fun τ3 H3 h hnτ3=>?_
   repeat' with_reducible refine W.ret ?_
   have HH:=H2.trans H3;exact⟨0,least+8,H1.trans HH,⟨x0,k',x1,k1,x2,k2,x3,k3,came,h,u0.hop HH,u1.hop HH,u2.hop HH,u3.hop HH⟩,.inr ⟨rfl,hls,rfl,rfl⟩⟩
theorem yjc_(p:PcI σ T lq most since least)(hn:Tn σ T){score:Int}:W (S.z63 (.ptr lq 0) score σ) fun r=>Hop (only 30) σ T r.2 T/\PcI r.2 T lq most since least:=by
 obtain⟨x0,k0,x1,k1,x2,k2,x3,k3,came,h,u0,u1,u2,u3⟩:=p.ex;unfold S.z63;refine W.bind ?_
 (with_reducible refine W.cnd (fun hc=>?_) (fun hc=>?_)<;>(try simp only[qq,Kd.ty]at hc)<;>(try (exfalso;omega)))
 ·repeat' with_reducible refine W.ret ?_
  exact⟨Hop.refl hn,p⟩
 ·repeat' with_reducible first|refine W.bind ?_|refine W.fldp ?_|refine W.nck ?_
  refine W.mono (y8e_ (o:=2) h hn (by simp) rfl rfl u1) fun r hr=>?_;obtain⟨n,τ1⟩:=r;obtain⟨k',H1,h,u1⟩:=hr;dsimp only at H1 h u1⊢;simp only[List.set_cons_succ,List.set_cons_zero]at h
  repeat' with_reducible refine W.ret ?_
  exact⟨H1,x0,k0,x1,k',x2,k2,x3,k3,came,h,u0.hop H1,u1,u2.hop H1,u3.hop H1⟩
theorem tie_w(p:PcI σ T lq most since least)(hn:Tn σ T):W (S.z66 (.ptr lq 0) σ) fun r=>Hop (only 30) σ T r.2 T/\PcI r.2 T lq most since least:=by
 obtain⟨x0,k0,x1,k1,x2,k2,x3,k3,came,h,u0,u1,u2,u3⟩:=p.ex;unfold S.z66
 repeat' with_reducible first|refine W.bind ?_|refine W.fldp ?_|refine W.nck ?_
 refine W.mono (y8e_ (o:=4) h hn (by simp) rfl rfl u2) fun r hr=>?_;obtain⟨n,τ1⟩:=r;obtain⟨k',H1,h,u2⟩:=hr;dsimp only at H1 h u2⊢;simp only[List.set_cons_succ,List.set_cons_zero]at h;have p1:PcI τ1 T lq most since least:=⟨x0,k0,x1,k1,x2,k',x3,k3,came,h,u0.hop H1,u1.hop H1,u2,u3.hop H1⟩
 (with_reducible refine W.cnd (fun hc=>?_) (fun hc=>?_)<;>(try simp only[qq,Kd.ty]at hc)<;>(try (exfalso;omega)))
 ·repeat' with_reducible refine W.ret ?_
  exact⟨H1,p1⟩
 ·repeat' with_reducible refine W.ret ?_
  exact⟨H1,p1⟩
theorem yjq_(p:PcI σ T lq most since least)(hn:Tn σ T){saved:Int}:W (S.z65 (.ptr lq 0) saved σ) fun r=>Hop (only 30) σ T r.2 T/\PcI r.2 T lq most since least:=by
 obtain⟨x0,k0,x1,k1,x2,k2,x3,k3,came,h,u0,u1,u2,u3⟩:=p.ex;unfold S.z65
 repeat' with_reducible first|refine W.bind ?_|refine W.fldp ?_|refine W.nck ?_
 refine W.mono (y8e_ (o:=6) h hn (by simp) rfl rfl u3) fun r hr=>?_;obtain⟨n,τ1⟩:=r;obtain⟨k',H1,h,u3⟩:=hr;dsimp only at H1 h u3⊢;simp only[List.set_cons_succ,List.set_cons_zero]at h;have p1:Hop (only 30) σ T τ1 T/\PcI τ1 T lq most since least:=⟨H1,x0,k0,x1,k1,x2,k2,x3,k',came,h,u0.hop H1,u1.hop H1,u2.hop H1,u3⟩;generalize Int.tmod _ 4=m;refine W.bind ?_;refine W.mono (P:=fun _=>True) ?_ fun r _=>?_
 ·refine W.bind ?_
  refine W.mono (P:=fun _=>True) ?_ fun r _=>?_
  ·(with_reducible refine W.cnd (fun h1=>?_) (fun h1=>?_)<;>(try simp only[qq,Kd.ty]at h1)<;>(try (exfalso;omega)))
   ·(with_reducible refine W.cnd (fun h2=>?_) (fun h2=>?_)<;>(try simp only[qq,Kd.ty]at h2)<;>(try (exfalso;omega)))
    ·repeat' with_reducible refine W.ret ?_
     trivial
    ·repeat' with_reducible refine W.ret ?_
     trivial
   ·(with_reducible refine W.cnd (fun h2=>?_) (fun h2=>?_)<;>(try simp only[qq,Kd.ty]at h2)<;>(try (exfalso;omega)))
    ·repeat' with_reducible refine W.ret ?_
     trivial
    ·(with_reducible refine W.cnd (fun h3=>?_) (fun h3=>?_)<;>(try simp only[qq,Kd.ty]at h3)<;>(try (exfalso;omega)))
     ·repeat' with_reducible refine W.ret ?_
      trivial
     ·repeat' with_reducible refine W.ret ?_
      trivial
  ·rcases r with r|r|r|r
   ·repeat' with_reducible refine W.ret ?_
    trivial
   ·repeat' with_reducible refine W.ret ?_
    trivial
   ·repeat' with_reducible refine W.ret ?_
    trivial
   ·repeat' with_reducible refine W.ret ?_
    trivial
 ·rcases r with r|r
  ·repeat' with_reducible refine W.ret ?_
   exact p1
  ·repeat' with_reducible refine W.ret ?_
   exact p1
end
end
section
open Go
def codeF(n:Nat)(ms:List Int):Nat->Nat
 |0=>0
 |k+1=>codeF n ms k+(if(k:Int)∈ms then 0 else 2 ^ (n-1-k))
def codeW(n:Nat)(ms:List Int)(k:Nat):Nat:=codeF n ms k+(if k<n then 2 ^ (n-1-k)else 0)
section
variable{n k p:Nat}{ms ms':List Int}
theorem y67_(h:k<n):2 ^ (n-k)=2 ^ (n-1-k)+2 ^ (n-1-k):=by
 obtain⟨d,rfl⟩:∃d,n=k+1+d:=⟨n-(k+1),by omega⟩;rw[show k+1+d-k=d+1 by omega,show k+1+d-1-k=d by omega,Nat.pow_succ];omega
theorem yey_(h:k<n):codeF n ms (k+1)+2 ^ (n-(k+1))<=codeF n ms k+2 ^ (n-k):=by
 have:=y67_ h;have hp0:0<2 ^ (n-1-k):=Nat.two_pow_pos _;rw[show n-(k+1)=n-1-k by omega];simp only[codeF]
 split<;>omega
theorem y5s_:∀(d p:Nat),p+d<=n->codeF n ms (p+d)+2 ^ (n-(p+d))<=codeF n ms p+2 ^ (n-p)
 |0,p,_=>Nat.le_refl _
 |d+1,p,h=>by
  have h1:=y5s_ d p (by omega);have h2:=yey_ (n:=n) (ms:=ms) (k:=p+d) (by omega);rw[show p+(d+1)=p+d+1 by omega];omega
theorem y80_(h:p<=k):codeF n ms p<=codeF n ms k:=by
 obtain⟨d,rfl⟩:∃d,k=p+d:=⟨k-p,by omega⟩
 clear h
 induction d with
 |zero=>exact Nat.le_refl _
 |succ d ih=>rw[show p+(d+1)=p+d+1 by omega];simp only[codeF];omega
theorem y7l_(h:∀j:Nat,j<k->((j:Int)∈ms↔(j:Int)∈ms')):codeF n ms k=codeF n ms' k:=by
 induction k with
 |zero=>rfl
 |succ k ih=>
  simp only[codeF];rw[ih fun j hj=>h j (by omega)]
  congr 1
  by_cases e:(k:Int)∈ms
  ·rw[if_pos e,if_pos ((h k (by omega)).1 e)]
  ·rw[if_neg e,if_neg fun q=>e ((h k (by omega)).2 q)]
theorem yaa_(h:k<=n):codeW n ms k<=2 ^ n:=by
 have h1:=y5s_ (n:=n) (ms:=ms) k 0 (by omega);simp only[Nat.zero_add,codeF,Nat.sub_zero]at h1;have hp0:0<2 ^ (n-1-k):=Nat.two_pow_pos _;have hp1:0<2 ^ (n-k):=Nat.two_pow_pos _;unfold codeW
 split
 ·rename_i hk
  have:=y67_ hk;omega
 ·omega
theorem yem_(hp:(p:Int)∈ms)(hpk:p<k)(hk:k<=n)(h:∀j:Nat,j<p->((j:Int)∈ms↔(j:Int)∈ms')):codeW n ms k<codeW n ms' p:=by
 obtain⟨d,rfl⟩:∃d,k=p+1+d:=⟨k-(p+1),by omega⟩;have h1:=y5s_ (n:=n) (ms:=ms) d (p+1) hk;have h2:codeF n ms (p+1)=codeF n ms p:=by simp only[codeF];rw[if_pos hp];omega
 have h3:=y7l_ (n:=n) h;have h4:0<2 ^ (n-(p+1+d)):=Nat.two_pow_pos _;unfold codeW;rw[if_pos (show p<n by omega),<-h3];have h5:n-(p+1)=n-1-p:=by omega
 rw[h5,h2]at h1
 split
 ·rename_i hlt
  have:=y67_ hlt;omega
 ·omega
theorem ybr_(h:p<=k)(hk:k<=n)(hms:∀j:Nat,p<=j->(j:Int)∉ms):codeW n ms p<=codeW n ms k/\(p<k->codeW n ms p<=codeF n ms k):=by
 have key:p<k->codeW n ms p<=codeF n ms k:=fun hlt=>by
  have h1:=y80_ (n:=n) (ms:=ms) (p:=p+1) (k:=k) (by omega);have h2:codeF n ms (p+1)=codeF n ms p+2 ^ (n-1-p):=by simp only[codeF];rw[if_neg (hms p (Nat.le_refl _))]
  unfold codeW;rw[if_pos (by omega)];omega
 refine⟨?_,key⟩;by_cases e:p=k
 ·subst e;exact Nat.le_refl _
 ·have:=key (by omega)
  unfold codeW at this⊢;omega
def rkF(n:Nat)(ms:List Int):Nat->Nat
 |0=>0
 |k+1=>rkF n ms k+(if(k:Int)∈ms then 1 else 2 ^ (n-k))
def rkW(n:Nat)(ms:List Int)(k:Nat):Nat:=rkF n ms k+(if k<n then 2 ^ (n-k)else 0)
theorem yhg_(h:k<n):rkF n ms (k+1)+2 ^ (n-(k+1)+1)<=rkF n ms k+2 ^ (n-k+1):=by
 have hp0:0<2 ^ (n-k):=Nat.two_pow_pos _;rw[show n-(k+1)+1=n-k by omega,Nat.pow_succ 2 (n-k)];simp only[rkF]
 split<;>omega
theorem y86_:∀(d p:Nat),p+d<=n->rkF n ms (p+d)+2 ^ (n-(p+d)+1)<=rkF n ms p+2 ^ (n-p+1)
 |0,p,_=>Nat.le_refl _
 |d+1,p,h=>by
  have h1:=y86_ d p (by omega);have h2:=yhg_ (n:=n) (ms:=ms) (k:=p+d) (by omega);rw[show p+(d+1)=p+d+1 by omega];omega
theorem yc7_(h:p<=k):rkF n ms p<=rkF n ms k:=by
 obtain⟨d,rfl⟩:∃d,k=p+d:=⟨k-p,by omega⟩
 clear h
 induction d with
 |zero=>exact Nat.le_refl _
 |succ d ih=>rw[show p+(d+1)=p+d+1 by omega];simp only[rkF];omega
theorem yaf_(h:∀j:Nat,j<k->((j:Int)∈ms↔(j:Int)∈ms')):rkF n ms k=rkF n ms' k:=by
 induction k with
 |zero=>rfl
 |succ k ih=>
  simp only[rkF];rw[ih fun j hj=>h j (by omega)]
  congr 1
  by_cases e:(k:Int)∈ms
  ·rw[if_pos e,if_pos ((h k (by omega)).1 e)]
  ·rw[if_neg e,if_neg fun q=>e ((h k (by omega)).2 q)]
theorem yd8_(h:k<=n):rkW n ms k<=2 ^ (n+1):=by
 have h1:=y86_ (n:=n) (ms:=ms) k 0 (by omega);simp only[Nat.zero_add,rkF,Nat.sub_zero]at h1;have hp:=Nat.pow_succ 2 (n-k);unfold rkW
 split<;>omega
theorem ygx_(hp:(p:Int)∈ms)(hpk:p<k)(hk:k<=n)(h:∀j:Nat,j<p->((j:Int)∈ms↔(j:Int)∈ms')):rkW n ms k<rkW n ms' p:=by
 obtain⟨d,rfl⟩:∃d,k=p+1+d:=⟨k-(p+1),by omega⟩;have h1:=y86_ (n:=n) (ms:=ms) d (p+1) hk;have h2:rkF n ms (p+1)=rkF n ms p+1:=by simp only[rkF];rw[if_pos hp]
 have h3:=yaf_ (n:=n) h;have h4:0<2 ^ (n-(p+1+d)):=Nat.two_pow_pos _;have h5:=Nat.pow_succ 2 (n-(p+1+d));unfold rkW;rw[if_pos (show p<n by omega),<-h3];have h6:n-(p+1)+1=n-p:=by omega
 rw[h6,h2]at h1
 split
 ·rename_i hlt
  obtain⟨z,hz⟩:∃z,n-(p+1+d)=z+1:=⟨n-(p+1+d)-1,by omega⟩;have h7:0<2 ^ z:=Nat.two_pow_pos _;rw[hz]at h1 h5⊢;have h8:=Nat.pow_succ 2 z;omega
 ·omega
theorem yfd_(h:p<k)(hk:k<=n)(hms:∀j:Nat,p<=j->(j:Int)∉ms):rkW n ms p<=rkF n ms k:=by
 have h1:=yc7_ (n:=n) (ms:=ms) (p:=p+1) (k:=k) (by omega);have h2:rkF n ms (p+1)=rkF n ms p+2 ^ (n-p):=by simp only[rkF];rw[if_neg (hms p (Nat.le_refl _))]
 unfold rkW;rw[if_pos (by omega)];omega
theorem y93_:∀k:Nat,k+1<=n->codeF n ms k % 2=0
 |0,_=>rfl
 | k+1,h=>by
  have ih:=y93_ k (by omega);simp only[codeF]
  split
  ·omega
  ·obtain⟨d,hd⟩:∃d,n-1-k=d+1:=⟨n-1-k-1,by omega⟩
   rw[hd,Nat.pow_succ];omega
theorem yf4_(h:k+2<=n):codeW n ms k % 2=0:=by
 have:=y93_ (n:=n) (ms:=ms) k (by omega);unfold codeW;rw[if_pos (by omega)];obtain⟨d,hd⟩:∃d,n-1-k=d+1:=⟨n-1-k-1,by omega⟩;rw[hd,Nat.pow_succ];omega
end
def AsI(s:PS)(A:List Int):Prop:=∃k,k<=s.marks.length/\(∀(i:Nat) (a:Nat) d,i<k->s.marks[i]?=some (a:Int)->s.trail[a]?=some d->d∈A)/\(k<s.marks.length->∀a∈A,a∈s.trail/\s.lv a<=k)
section
variable{n k a:Nat}{s s':PS}{A:List Int}{l:Int}
theorem AsI.nil(h:s.marks=[]):AsI s A:=⟨0,by omega,fun i a d hi=>by omega,fun h2=>by rw[h]at h2;simp at h2⟩
theorem AsI.ext(h:AsI s A)(ht:TrI n s)(E:PEx s s'):AsI s' A:=by
 obtain⟨k,h1,h2,h3⟩:=h;refine⟨k,by rw[E.mks];exact h1,fun i a d hi hm hd=>?_,fun hk x hx=>?_⟩
 ·rw[E.mks]at hm
  obtain⟨a',e,⟨w,g1,_⟩,_⟩:=ht.mks i _ hm;have e:a=a':=by omega
  subst e;exact h2 i a d hi hm (E.got (y2_ g1) hd)
 ·rw[E.mks]at hk
  obtain⟨g1,g2⟩:=h3 hk x hx;exact⟨E.mem g1,by rw[E.lv x g1];exact g2⟩
theorem AsI.back(h:AsI s A)(hS:StI n s){b:Nat}(hm:s.marks[b]?=some (a:Int)):AsI (s.back b a) A:=by
 obtain⟨k,h1,h2,h3⟩:=h;obtain⟨_,e1,e2,_,_,_,_,hal,hlv,hle,_⟩:=hS.back hm;have hbl:=y2_ hm;have hlen:(s.marks.take b).length=b:=by simp;omega
 by_cases hkb:k<=b
 ·refine⟨k,by rw[e1,hlen];exact hkb,fun i c d hi hmc hd=>?_,fun hk x hx=>?_⟩
  ·rw[e1]at hmc
   rw[List.getElem?_take_of_lt (by omega)]at hmc;rw[e2]at hd;have:c<a:=by have:=y2_ hd;simp at this;omega
   rw[List.getElem?_take_of_lt this]at hd;exact h2 i c d hi hmc hd
  ·obtain⟨g1,g2⟩:=h3 (by omega) x hx
   have:=(hle x g1).2 (by omega);rw[e2];exact⟨this,by rw[hlv x this];exact g2⟩
 ·refine⟨b,by rw[e1,hlen];exact Nat.le_refl _,fun i c d hi hmc hd=>?_,fun hk=>?_⟩
  ·rw[e1]at hmc
   rw[List.getElem?_take_of_lt (by omega)]at hmc;rw[e2]at hd;have:c<a:=by have:=y2_ hd;simp at this;omega
   rw[List.getElem?_take_of_lt this]at hd;exact h2 i c d (by omega) hmc hd
  ·rw[e1,hlen]at hk;omega
theorem AsI.decA(h:AsI s A)(ht:TrI n s)(hl:isL l n=true)(hv:val s.vs l=0)(hlA:l∈A):AsI (s.dec l) A/\∀(i:Nat) (a:Nat) d,s.marks[i]?=some (a:Int)->s.trail[a]?=some d->d∈A:=by
 obtain⟨k,h1,h2,h3⟩:=h;have hk:k=s.marks.length:=by
  refine Decidable.byContradiction fun hne=>?_;have:=(h3 (by omega) l hlA).1;exact(ht.zero.1 hv).1 this
 have hall:∀(i:Nat) (a:Nat) d,s.marks[i]?=some (a:Int)->s.trail[a]?=some d->d∈A:=fun i a d hm=>h2 i a d (by have:=y2_ hm;omega) hm;refine⟨⟨k+1,by simp[PS.dec,PS.setL,hk],fun i c d hi hm hd=>?_,fun hk2=>?_⟩,hall⟩
 ·have hm:(s.marks++[(s.trail.length:Int)])[i]?=some (c:Int):=hm
  have hd:(s.trail++[l])[c]?=some d:=hd;rcases y2k_ hm with w|⟨_,w⟩
  ·obtain⟨a',e,⟨u,g1,_⟩,_⟩:=ht.mks i _ w
   have e:c=a':=by omega
   subst e;rw[List.getElem?_append_left (y2_ g1)]at hd;exact hall i c d w hd
  ·have:c=s.trail.length:=by omega
   subst this;simp at hd;rw[<-hd];exact hlA
 ·simp[PS.dec,PS.setL,hk]at hk2
theorem AsI.decF(h:AsI s A)(ht:TrI n s)(hl:isL l n=true)(hv:val s.vs l=0)(hA:∀a∈A,a∈s.trail):AsI (s.dec l) A:=by
 obtain⟨k,h1,h2,h3⟩:=h;have hlv:∀x∈s.trail,(s.dec l).lv x=s.lv x:=fun x hx=>by
  obtain⟨z1,z2⟩:=ht.zero.1 hv;have:=(ht.push (s':=s.dec l) _ (.inr rfl) hl hv (r:=-1) rfl (.inl ⟨?_,s.marks.length,?_,?_⟩)).2 x ?_
  ·exact this
  ·simp only[PS.re,PS.dec,PS.setL];rw[getD_set' (by have:=ht.len.rea;have:=yb_ hl;omega),if_pos rfl]
  ·simp only[PS.lv,PS.dec,PS.setL];rw[getD_set' (by have:=ht.len.lev;have:=yb_ hl;omega),if_pos rfl];simp
  ·simp[PS.dec,PS.setL]
  ·intro e
   rcases Int.natAbs_eq_natAbs_iff.1 e with e|e
   ·exact z1 (e▸hx)
   ·exact z2 (e▸hx)
 refine⟨k,by simp[PS.dec,PS.setL];omega,fun i c d hi hm hd=>?_,fun _ x hx=>?_⟩
 ·have hm:(s.marks++[(s.trail.length:Int)])[i]?=some (c:Int):=hm
  have hd:(s.trail++[l])[c]?=some d:=hd;rw[List.getElem?_append_left (by omega)]at hm;obtain⟨a',e,⟨u,g1,_⟩,_⟩:=ht.mks i _ hm;have e:c=a':=by omega
  subst e;rw[List.getElem?_append_left (y2_ g1)]at hd;exact h2 i c d hi hm hd
 ·have hxt:=hA x hx
  refine⟨by show x∈s.trail++[l];simp[hxt],?_⟩;rw[hlv x hxt];by_cases hk:k<s.marks.length
  ·exact(h3 hk x hx).2
  ·have:=(ht.lv x hxt).2
   omega
end
end
section
open Go
section
variable{n:Nat}(hn:2<=n)(hn2:n<=1000)
include hn hn2
end
def AllB(σ:Heap)(ss:List (Bool×List Int))(ws:List (Bool×AVal)):Prop:=ws.length=ss.length/\∀(i:Nat) (s:Bool×List Int),ss[i]?=some s->∃w,ws[i]?=some (s.1,w)/\SlV .int σ s.2 w
section
variable{σ τ:Heap}{ss tt:List (Bool×List Int)}{ws us:List (Bool×AVal)}{s:Bool×List Int}{w:AVal}
theorem AllB.mono(h:AllB σ ss ws)(L:Hle σ τ):AllB τ ss ws:=⟨h.1,fun i c hc=>(h.2 i c hc).imp fun w hw=>⟨hw.1,hw.2.mono L⟩⟩
theorem AllB.app(h:AllB σ ss ws)(k:AllB σ tt us):AllB σ (ss++tt) (ws++us):=⟨by simp[h.1,k.1],fun i d hd=>by
 by_cases hlt:i<ss.length
 ·rw[List.getElem?_append_left hlt]at hd
  rw[List.getElem?_append_left (by rw[h.1];exact hlt)];exact h.2 i d hd
 ·rw[List.getElem?_append_right (by omega)]at hd
  rw[List.getElem?_append_right (by rw[h.1];omega),h.1];exact k.2 _ d hd⟩
theorem AllB.one(hw:SlV .int σ s.2 w):AllB σ [s] [(s.1,w)]:=⟨rfl,fun i d hd=>by
 match i,hd with
 |0,hd=>cases hd;exact⟨w,rfl,hw⟩
 |i+1,hd=>simp at hd⟩
end
theorem AllB.hop{I:Nat->Bool}{σ τ:Heap}{T T':Tg}{ss:List (Bool×List Int)}{ws:List (Bool×AVal)}{t:Nat}(h:AllB (σ.at T t) ss ws)(H:Hop I σ T τ T')(hI:I t=false:=by rfl):AllB (τ.at T' t) ss ws:=h.mono (H.le hI)
theorem AllB.hle{σ τ:Heap}{T:Tg}{ss:List (Bool×List Int)}{ws:List (Bool×AVal)}{t:Nat}(h:AllB (σ.at T t) ss ws)(L:Hle σ τ):AllB (τ.at T t) ss ws:=h.mono (L.ats T t)
end
section
open Go
theorem yhp_{a:Int}{t:List Int}(h:adj (a::t)=true):adj t=true:=by
 cases t with
 |nil=>rfl
 |cons b t=>simp[adj]at h;exact h.2
theorem yar_:∀{xs:List Int},xs.Pairwise ltL->adj xs=true->(xs.map Int.natAbs).Pairwise (· < ·)
 |[],_,_=>by simp
 |[a],_,_=>by simp
 | a::b::t,hp,h=>by
  have ih:=yar_ (xs:=b::t) (List.pairwise_cons.1 hp).2 (yhp_ h);simp only[adj,Bool.and_eq_true,decide_eq_true_eq]at h;have hab:=(List.pairwise_cons.1 hp).1 b (by simp);have hlt:a.natAbs<b.natAbs:=by unfold ltL at hab;omega
  rw[List.map_cons];refine List.pairwise_cons.2 ⟨fun x hx=>?_,ih⟩;rw[List.map_cons]at ih hx;rcases List.mem_cons.1 hx with e|hx
  ·rw[e];exact hlt
  ·have:=(List.pairwise_cons.1 ih).1 x hx
   omega
theorem y7f_{c:List Int}(h:saysN c=true):((normL c).map Int.natAbs).Nodup:=(yar_ (y1g_ c) h).imp fun h=>by omega
theorem y8s_{c:List Int}(h:(c.map Int.natAbs).Nodup):saysN c=true:=by
 have key:∀xs:List Int,xs.Pairwise ltL->(∀x∈xs,∀y∈xs,x.natAbs=y.natAbs->x=y)->adj xs=true:=by
  intro xs
  induction xs with
  |nil=>intros;rfl
  | cons a t ih=>
   intro hp hi;cases t with
   |nil=>rfl
   |cons b t=>
    simp only[adj,Bool.and_eq_true,decide_eq_true_eq];refine⟨fun e=>?_,ih (List.pairwise_cons.1 hp).2 fun x hx y hy=>hi x (by simp[hx]) y (by simp[hy])⟩;have h1:=hi a (by simp) b (by simp) e;have h2:=(List.pairwise_cons.1 hp).1 b (by simp);subst h1;unfold ltL at h2;omega
 refine key _ (y1g_ c) fun x hx y hy e=>?_;obtain⟨i,hi⟩:=y9_ (yd_.1 hx);obtain⟨j,hj⟩:=y9_ (yd_.1 hy);have:i=j:=nd_ix h (a:=x.natAbs) (by simp[hi]) (by simp[hj,e]);subst this;rw[hi]at hj;exact Option.some.inj hj
theorem yfw_{c:List Int}(h:saysN c=false):∃x∈c,-x∈c:=by
 have key:∀xs:List Int,xs.Pairwise ltL->adj xs=false->∃x∈xs,-x∈xs:=by
  intro xs
  induction xs with
  |nil=>intro _ h;cases h
  | cons a t ih=>
   intro hp h;cases t with
   |nil=>cases h
   | cons b t=>
    by_cases e:a.natAbs=b.natAbs
    ·have h2:=(List.pairwise_cons.1 hp).1 b (by simp)
     have:b = -a:=by unfold ltL at h2;omega
     exact⟨a,by simp,by rw[<-this];simp⟩
    ·simp[adj,e]at h
     obtain⟨x,hx,hx2⟩:=ih (List.pairwise_cons.1 hp).2 h;exact⟨x,List.mem_cons_of_mem _ hx,List.mem_cons_of_mem _ hx2⟩
 obtain⟨x,h1,h2⟩:=key _ (y1g_ c) h;exact⟨x,yd_.1 h1,yd_.1 h2⟩
theorem yh7_{c:List Int}{m:Nat->Bool}{x:Int}(h0:x≠0)(h1:x∈c)(h2 : -x∈c):tru m c:=by
 cases e:holds m x with
 |true=>exact⟨x,h1,e⟩
 |false=>exact⟨-x,h2,by rw[y3j_ h0,e];rfl⟩
inductive RunS(D0:List (List Int)):List (Bool×List Int)->List (List Int)->Prop where
 |nil:RunS D0 [] D0
 |add {lg:List (Bool×List Int)} {D:List (List Int)} {c:List Int}:RunS D0 lg D->Conf D (negs c)->RunS D0 (lg++[(false,c)]) (D++[normL c])
 |del {lg:List (Bool×List Int)} {D:List (List Int)} {c:List Int}:RunS D0 lg D->normL c∈D->RunS D0 (lg++[(true,c)]) (D.erase (normL c))
def LgI(C:List (List Int))(s:PS)(lg:List (Bool×List Int)):Prop:=∃D X,RunS (C.map normL) lg D/\D.Perm (s.db.map normL++X)
structure EnL(gl:Bool)(n:Nat)(C:List (List Int))(s:PS)(hs:List Int)(ln:List (Int×Int))(lg:List (Bool×List Int))(since least:Int)(w:Nat):Prop where
 si:StI n s
 hp:∀v:Nat,1<=v->v<=n->val s.vs v=0->(v:Int)∈hs
 lnI:∀e∈ln,∃(id:Nat) (c:List Int) (f:Bool),e.1=id/\s.cls[id]?=some (c,true,f)
 lnN:(ln.map (·.1)).Nodup
 orI:∀c∈C,saysN c=true->∃(id:Nat) (d:List Int) (f:Bool),s.cls[id]?=some (d,true,f)/\(∀x,x∈d↔x∈c)/\∀e∈ln,e.1≠id
 snd:∀m,mods m C->mods m s.db
 cl:∀c∈C,∀x∈c,isL x n=true
 lgI:gl=true->LgI C s lg
 z1:s.cls.length<=w
 z2:s.ent+2*s.loose.length<=10*w
 z3:ln.length<=w
 z4:lg.length+ln.length<=2*w
 z5:0<=since/\since<=w
 z6:0<=least/\least<=16+8*w
section
variable{gl:Bool}{n id k a:Nat}{C:List (List Int)}{s s':PS}{hs hs':List Int}{ln:List (Int×Int)}{lg:List (Bool×List Int)}{since least since' least':Int}{w:Nat}{c d:List Int}{b f:Bool}
theorem yjg_(E:CEq s s'):s'.db.map normL=s.db.map normL:=by
 have key:∀(a b:List (List Int×Bool×Bool)),b.length=a.length->(∀(i:Nat) x y,a[i]?=some x->b[i]?=some y->y.2.1=x.2.1/\y.1.Perm x.1)->((b.filter fun x=>x.2.1).map (·.1)).map normL=((a.filter fun x=>x.2.1).map (·.1)).map normL:=by
  intro a
  induction a with
  |nil=>intro b hl _;rw[List.eq_nil_of_length_eq_zero hl]
  | cons x a ih=>
   intro b hl h;cases b with
   |nil=>simp at hl
   | cons y b=>
    obtain⟨e1,e2⟩:=h 0 x y rfl rfl;have e3:=ih b (by simpa using hl) fun i u v hu hv=>h (i+1) u v (by simpa using hu) (by simpa using hv);rw[List.filter_cons,List.filter_cons,e1]
    split
    ·rw[List.map_cons,List.map_cons,List.map_cons,List.map_cons,e3]
     congr 1
     exact y65_.2 fun v=>e2.mem_iff
    ·exact e3
 exact key s.cls s'.cls E.1 fun i x y hx hy=>E.2 i x y hx hy
theorem yiv_(E:CEq s s'){m:Nat->Bool}(h:mods m s.db):mods m s'.db:=fun c hc=>by
 obtain⟨id,f,h1⟩:=y32_.1 hc;obtain⟨c',f',h2,p⟩:=E.symm.get h1;obtain⟨l,hl,h3⟩:=h c' (y32_.2 ⟨id,f',h2⟩);exact⟨l,p.mem_iff.1 hl,h3⟩
theorem ClI.nz(h:ClI n s):nz s.db:=fun c hc l hl=>by
 obtain⟨id,f,h1⟩:=y32_.1 hc;exact(yb_ ((h id c f h1).1 l hl)).1
theorem EnL.step(E:EnL gl n C s hs ln lg since least w)(hS:StI n s')(hE:CEq s s')(hh:∀v:Nat,1<=v->v<=n->val s'.vs v=0->(v:Int)∈hs')(hz:s'.ent+2*s'.loose.length<=10*w+2):EnL gl n C s' hs' ln lg since least (w+1):=by
 refine⟨hS,hh,fun e he=>?_,E.lnN,fun c hc hsy=>?_,fun m hm=>yiv_ hE (E.snd m hm),E.cl,fun hg=>?_,by rw[hE.1];have:=E.z1;omega,by omega,by have:=E.z3;omega,by have:=E.z4;omega,by have:=E.z5;omega,by have:=E.z6;omega⟩
 ·obtain⟨id,c,f,h1,h2⟩:=E.lnI e he
  obtain⟨c',f',h3,_⟩:=hE.get h2;exact⟨id,c',f',h1,h3⟩
 ·obtain⟨id,d,f,h1,h2,h3⟩:=E.orI c hc hsy
  obtain⟨d',f',h4,p⟩:=hE.get h1;exact⟨id,d',f',h4,fun x=>by rw[p.mem_iff];exact h2 x,h3⟩
 ·obtain⟨D,X,h1,h2⟩:=E.lgI hg
  exact⟨D,X,h1,by rw[yjg_ hE];exact h2⟩
theorem EnL.heap(E:EnL gl n C s hs ln lg since least w)(h:∀v:Nat,1<=v->v<=n->val s.vs v=0->(v:Int)∈hs'):EnL gl n C s hs' ln lg since least w:=⟨E.si,h,E.lnI,E.lnN,E.orI,E.snd,E.cl,E.lgI,E.z1,E.z2,E.z3,E.z4,E.z5,E.z6⟩
theorem EnL.pace(E:EnL gl n C s hs ln lg since least w)(h5:0<=since'/\since'<=w)(h6:0<=least'/\least'<=16+8*w):EnL gl n C s hs ln lg since' least' w:=⟨E.si,E.hp,E.lnI,E.lnN,E.orI,E.snd,E.cl,E.lgI,E.z1,E.z2,E.z3,E.z4,h5,h6⟩
theorem EnL.more(E:EnL gl n C s hs ln lg since least w){w':Nat}(h:w<=w'):EnL gl n C s hs ln lg since least w':=⟨E.si,E.hp,E.lnI,E.lnN,E.orI,E.snd,E.cl,E.lgI,by have:=E.z1;omega,by have:=E.z2;omega,by have:=E.z3;omega,by have:=E.z4;omega,by have:=E.z5;omega,by have:=E.z6;omega⟩
theorem y8p_(s:PS)(l:List Int):(s.addC l).db=s.db++[l]:=by
 unfold PS.db;show((s.cls++[(l,true,true)]).filter _).map _=_;rw[List.filter_append,List.map_append];rfl
theorem y5j_{j:Nat}{e:List Int×Bool×Bool}(h:s.cls[j]?=some e):(s.addC c).cls[j]?=some e:=by
 show(s.cls++[(c,true,true)])[j]?=_;rw[List.getElem?_append_left (y2_ h)];exact h
theorem y66_:(s.addC c).cls[s.cls.length]?=some (c,true,true):=by
 show(s.cls++[(c,true,true)])[s.cls.length]?=_;simp
theorem EnL.learn(E:EnL gl n C s hs ln lg since least w)(hc:∀x∈c,isL x n=true)(hd:(c.map Int.natAbs).Nodup)(hC:Conf s.db (negs c)){score:Int}:EnL gl n C (s.addC (normL c)) hs (ln++[((s.cls.length:Int),score)]) (lg++[(false,c)]) since least (w+1):=by
 have hsy:=y8s_ hd;obtain⟨hS,hent⟩:=E.si.addC (l':=normL c) (fun x hx=>hc x (yd_.1 hx)) (y7f_ hsy);have hvs:(s.addC (normL c)).vs=s.vs:=rfl;refine⟨hS,E.hp,fun e he=>?_,?_,fun d hdC hds=>?_,fun m hm=>?_,E.cl,fun hg=>?_,?_,?_,by simp;have:=E.z3;omega,by simp;have:=E.z4;omega,by have:=E.z5;omega,by have:=E.z6;omega⟩
 ·rcases List.mem_append.1 he with q|q
  ·obtain⟨id,d,f,h1,h2⟩:=E.lnI e q
   exact⟨id,d,f,h1,y5j_ h2⟩
  ·rw[List.mem_singleton.1 q]
   exact⟨s.cls.length,_,true,rfl,y66_⟩
 ·rw[List.map_append]
  refine List.nodup_append.2 ⟨E.lnN,by simp,fun x hx y hy e=>?_⟩;obtain⟨u,hu,rfl⟩:=List.mem_map.1 hx;obtain⟨id,d,f,h1,h2⟩:=E.lnI u hu;have:=y2_ h2;simp at hy;omega
 ·obtain⟨id,d',f,h1,h2,h3⟩:=E.orI d hdC hds
  refine⟨id,d',f,y5j_ h1,h2,fun e he=>?_⟩;rcases List.mem_append.1 he with q|q
  ·exact h3 e q
  ·rw[List.mem_singleton.1 q]
   have:=y2_ h1;show(s.cls.length:Int)≠id;omega
 ·rw[y8p_]
  intro d hdm;rcases List.mem_append.1 hdm with q|q
  ·exact E.snd m hm d q
  ·rw[List.mem_singleton.1 q,ybe_]
   refine Classical.byContradiction fun hn=>?_;refine hC.false (E.snd m hm) E.si.ci.nz (fun l hl=>?_) fun l hl=>?_
   ·obtain⟨x,hx,rfl⟩:=List.mem_map.1 hl
    rw[y3j_ (yb_ (hc x hx)).1];cases e:holds m x with
    |true=>exact absurd ⟨x,hx,e⟩ hn
    |false=>rfl
   ·obtain⟨x,hx,rfl⟩:=List.mem_map.1 hl
    have:=(yb_ (hc x hx)).1;omega
 ·obtain⟨D,X,h1,h2⟩:=E.lgI hg
  refine⟨_,X,h1.add (hC.mono (fun d hdm=>?_) fun _ h=>h),?_⟩
  ·refine⟨normL d,h2.mem_iff.2 (List.mem_append.2 (.inl (List.mem_map.2 ⟨d,hdm,rfl⟩))),fun v=>yd_⟩
  ·rw[y8p_,List.map_append,List.map_singleton,y90_]
   refine(h2.append_right _).trans ?_;rw[List.append_assoc,List.append_assoc];exact List.Perm.append_left _ List.perm_append_comm
 ·show(s.cls++[_]).length<=_
  simp;have:=E.z1;omega
 ·have:(s.addC (normL c)).loose.length=s.loose.length+1:=by simp[PS.addC]
  have:=E.z2;omega
theorem yiu_(hc:s.cls[id]?=some (c,true,f)):s.db.Perm (c::(s.dropC id f).db):=by
 have key:∀(xs:List (List Int×Bool×Bool)) (i:Nat),xs[i]?=some (c,true,f)->((xs.filter fun x=>x.2.1).map (·.1)).Perm (c::(((xs.set i ([],false,f)).filter fun x=>x.2.1).map (·.1))):=by
  intro xs
  induction xs with
  |nil=>intro i h;simp at h
  | cons x t ih=>
   intro i h;cases i with
   |zero=>
    simp at h;subst h;simp
   | succ i=>
    have:=ih i (by simpa using h);rw[List.set_cons_succ,List.filter_cons,List.filter_cons]
    split
    ·rw[List.map_cons,List.map_cons]
     exact(this.cons _).trans (List.Perm.swap _ _ _)
    ·exact this
 exact key s.cls id hc
theorem EnL.drop{ln1 ln2:List (Int×Int)}{score:Int}(E:EnL gl n C s hs (ln1++((id:Int),score)::ln2) lg since least w)(hc:s.cls[id]?=some (c,true,f))(hr:∀x∈s.trail,x∈c->s.re x≠id):EnL gl n C (s.dropC id f) hs (ln1++ln2) (lg++[(true,c)]) since least w:=by
 have hS:=E.si.dropC hc hr;have hoth:∀j,j≠id->(s.dropC id f).cls[j]?=s.cls[j]?:=fun j hj=>by show(s.cls.set id _)[j]?=_;rw[List.getElem?_set,if_neg fun e=>hj e.symm]
 have hN:=E.lnN;rw[List.map_append,List.map_cons,List.nodup_append]at hN;obtain⟨g1,g2,g3⟩:=hN;obtain⟨g4,g5⟩:=List.nodup_cons.1 g2;have hne:∀e∈ln1++ln2,e.1≠(id:Int):=fun e he q=>by
  rcases List.mem_append.1 he with w|w
  ·exact g3 e.1 (List.mem_map.2 ⟨e,w,rfl⟩) (id:Int) (by simp) q
  ·exact g4 (List.mem_map.2 ⟨e,w,q⟩)
 have hsub:∀e,e∈ln1++ln2->e∈ln1++((id:Int),score)::ln2:=fun e he=>by
  rcases List.mem_append.1 he with w|w
  ·exact List.mem_append.2 (.inl w)
  ·exact List.mem_append.2 (.inr (List.mem_cons_of_mem _ w))
 have hdb:=yiu_ hc;refine⟨hS,E.hp,fun e he=>?_,?_,fun d hdC hds=>?_,fun m hm d hd=>?_,E.cl,fun hg=>?_,by show(s.cls.set id _).length<=w;rw[List.length_set];exact E.z1,E.z2,?_,by have:=E.z4;simp at this⊢;omega,E.z5,E.z6⟩
 ·obtain⟨j,d,g,h1,h2⟩:=E.lnI e (hsub e he)
  refine⟨j,d,g,h1,?_⟩;rw[hoth j fun q=>hne e he (by rw[h1,q])];exact h2
 ·rw[List.map_append]
  exact List.nodup_append.2 ⟨g1,g5,fun x hx y hy=>g3 x hx y (by simp[hy])⟩
 ·obtain⟨j,d',g,h1,h2,h3⟩:=E.orI d hdC hds
  refine⟨j,d',g,?_,h2,fun e he=>h3 e (hsub e he)⟩;rw[hoth j fun q=>h3 ((id:Int),score) (by simp) (by rw[q])];exact h1
 ·exact E.snd m hm d (hdb.mem_iff.2 (List.mem_cons_of_mem _ hd))
 ·obtain⟨D,X,h1,h2⟩:=E.lgI hg
  have hperm:D.Perm (normL c::((s.dropC id f).db.map normL++X)):=h2.trans (by
   have:=(hdb.map normL).append_right X;rw[List.map_cons,List.cons_append]at this;exact this)
  have hmem:normL c∈D:=hperm.mem_iff.2 (by simp);refine⟨_,X,h1.del hmem,?_⟩;have h3:=hperm.erase (normL c)
  rwa [List.erase_cons_head]at h3
 ·have:=E.z3
  simp at this⊢;omega
theorem EnL.final{core:List Int}(E:EnL gl n C s hs ln lg since least w)(hC:Conf s.db core):EnL gl n C s hs ln (lg++[(false,negs core)]) since least (w+1):=by
 have hnn:negs (negs core)=core:=by simp[negs,Function.comp_def]
 refine⟨E.si,E.hp,E.lnI,E.lnN,E.orI,E.snd,E.cl,fun hg=>?_,by have:=E.z1;omega,by have:=E.z2;omega,by have:=E.z3;omega,by simp;have:=E.z4;omega,by have:=E.z5;omega,by have:=E.z6;omega⟩;obtain⟨D,X,h1,h2⟩:=E.lgI hg;refine⟨_,X++[normL (negs core)],h1.add ?_,?_⟩
 ·rw[hnn]
  refine hC.mono (fun d hdm=>⟨normL d,h2.mem_iff.2 (List.mem_append.2 (.inl (List.mem_map.2 ⟨d,hdm,rfl⟩))),fun v=>yd_⟩) fun _ h=>h
 ·rw[<-List.append_assoc]
  exact h2.append_right _
theorem EnL.add(E:EnL gl n C s hs ln lg since least w)(hc:∀x∈c,isL x n=true)(hg:gl=true->lg=[]) :
  EnL gl n (C++[c]) (if saysN c=true then s.addC (normL c)else s) hs ln lg since least (w+1):=by
 have hlgn:gl=true->∀D X,RunS (C.map normL) lg D->D.Perm (s.db.map normL++X)->RunS ((C++[c]).map normL) lg (D++[normL c]):=fun hgl D X h1 _=>by
  have:=hg hgl;subst this;have e:D=C.map normL:=by
   generalize hlg:([]:List (Bool×List Int))=lg0 at h1;cases h1 with
   |nil=>rfl
   |add _ _=>simp at hlg
   |del _ _=>simp at hlg
  subst e;rw[List.map_append,List.map_singleton];exact .nil
 have hcl:∀d∈C++[c],∀x∈d,isL x n=true:=fun d hd=>by
  rcases List.mem_append.1 hd with q|q
  ·exact E.cl d q
  ·rw[List.mem_singleton.1 q];exact hc
 by_cases hsy:saysN c=true
 ·rw[if_pos hsy]
  obtain⟨hS,hent⟩:=E.si.addC (l':=normL c) (fun x hx=>hc x (yd_.1 hx)) (y7f_ hsy);refine⟨hS,E.hp,fun e he=>?_,E.lnN,fun d hdC hds=>?_,fun m hm=>?_,hcl,fun hgl=>?_,?_,?_,by have:=E.z3;omega,by have:=E.z4;omega,by have:=E.z5;omega,by have:=E.z6;omega⟩
  ·obtain⟨id,d,f,h1,h2⟩:=E.lnI e he
   exact⟨id,d,f,h1,y5j_ h2⟩
  ·rcases List.mem_append.1 hdC with q|q
   ·obtain⟨id,d',f,h1,h2,h3⟩:=E.orI d q hds
    exact⟨id,d',f,y5j_ h1,h2,h3⟩
   ·rw[List.mem_singleton.1 q]
    refine⟨s.cls.length,_,true,y66_,fun x=>yd_,fun e he=>?_⟩;obtain⟨id,d',f,h1,h2⟩:=E.lnI e he;have:=y2_ h2;omega
  ·rw[y8p_]
   intro d hd;rcases List.mem_append.1 hd with q|q
   ·exact E.snd m (fun e he=>hm e (by simp[he])) d q
   ·rw[List.mem_singleton.1 q,ybe_]
    exact hm c (by simp)
  ·obtain⟨D,X,h1,h2⟩:=E.lgI hgl
   refine⟨_,X,hlgn hgl D X h1 h2,?_⟩;rw[y8p_,List.map_append,List.map_singleton,y90_];refine(h2.append_right _).trans ?_;rw[List.append_assoc,List.append_assoc];exact List.Perm.append_left _ List.perm_append_comm
  ·show(s.cls++[_]).length<=_
   simp;have:=E.z1;omega
  ·have:(s.addC (normL c)).loose.length=s.loose.length+1:=by simp[PS.addC]
   have:=E.z2;omega
 ·rw[if_neg hsy]
  refine⟨E.si,E.hp,E.lnI,E.lnN,fun d hdC hds=>?_,fun m hm=>E.snd m fun e he=>hm e (by simp[he]),hcl,fun hgl=>?_,by have:=E.z1;omega,by have:=E.z2;omega,by have:=E.z3;omega,by have:=E.z4;omega,by have:=E.z5;omega,by have:=E.z6;omega⟩
  ·rcases List.mem_append.1 hdC with q|q
   ·exact E.orI d q hds
   ·rw[List.mem_singleton.1 q]at hds;exact absurd hds hsy
  ·obtain⟨D,X,h1,h2⟩:=E.lgI hgl
   refine⟨_,X++[normL c],hlgn hgl D X h1 h2,?_⟩;rw[<-List.append_assoc];exact h2.append_right _
end
end
end Go.Proofs.YtekehmgfedmflaaGreatDoor.A
end
