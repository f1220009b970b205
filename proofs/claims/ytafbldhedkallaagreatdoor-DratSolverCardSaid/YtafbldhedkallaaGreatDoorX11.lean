/- Parts of the proof, one behind another. -/
import Derived.Test.YtafbldhedkallaaGreatDoorX10
set_option linter.all false
noncomputable section
namespace Go.Proofs.YtafbldhedkallaaGreatDoor.A
section
open Go
def PS.db(s:PS):List (List Int):=(s.cls.filter fun x=>x.2.1).map (·.1)
theorem y31_{s:PS}{c:List Int}:c∈s.db↔∃(id:Nat) (f:Bool),s.cls[id]?=some (c,true,f):=by
 unfold PS.db;simp only[List.mem_map,List.mem_filter];constructor
 ·rintro⟨⟨d,b,f⟩,⟨h1,h2⟩,rfl⟩
  obtain⟨id,hid⟩:=yb_ h1;dsimp only at h2;subst h2;exact⟨id,f,hid⟩
 ·rintro⟨id,f,h⟩
  exact⟨(c,true,f),⟨List.mem_of_getElem? h,rfl⟩,rfl⟩
theorem Der.cut{C:List (List Int)}{s t:List Int}{l:Int}(h:Der C s l)(k:∀x∈s,Der C t x):Der C t l:=by
 induction h with
 |start h=>exact k _ h
 |unit hc hl _ ih=>exact .unit hc hl ih
theorem Conf.cut{C:List (List Int)}{s t:List Int}(h:Conf C s)(k:∀x∈s,Der C t x):Conf C t:=by
 rcases h with ⟨l,h1,h2⟩|⟨c,hc,h⟩
 ·exact .inl ⟨l,h1.cut k,h2.cut k⟩
 ·exact .inr ⟨c,hc,fun x hx=>(h x hx).cut k⟩
theorem y8y_{α:Type}[BEq α][LawfulBEq α]{p q:α->Bool}{a:α}:∀{xs:List α},xs.Nodup->a∈xs->p a=true->q a=false->(∀x∈xs,x≠a->p x=q x)->xs.countP p=xs.countP q+1
 | x::t,hn,ha,hp,hq,he=>by
  obtain⟨h1,h2⟩:=List.nodup_cons.1 hn;rcases List.mem_cons.1 ha with e|ha
  ·subst e
   rw[List.countP_cons_of_pos hp,List.countP_cons_of_neg (by simp[hq])]
   congr 1
   refine List.countP_congr fun y hy=>?_;rw[he y (by simp[hy]) fun e=>h1 (e▸hy)]
  ·have ih:=y8y_ h2 ha hp hq fun y hy hne=>he y (by simp[hy]) hne
   have hxa:x≠a:=fun e=>h1 (e▸ha);have:=he x (by simp) hxa;rw[List.countP_cons,List.countP_cons,ih,this];omega
section
variable{n:Nat}{s:PS}{l x:Int}{A:List Int}
theorem TrI.der0(h:TrI n s):∀(i:Nat) l,s.trail[i]?=some l->s.lv l=0->Der s.db A l:=by
 intro i
 induction i using Nat.strongRecOn with
 | ind i ih=>
  intro l hl h0;rcases h.rs i l hl with ⟨_,k,h1,_⟩|⟨id,c,f,_,h2,h3,h4⟩
  ·omega
  ·refine .unit (y31_.2 ⟨id,f,h2⟩) h3 fun x hx hne=>?_
   obtain⟨j,hj,hx2⟩:=h4 x hx hne;have h5:=h.mono (Nat.le_of_lt hj) hx2 hl;have h6:=h.lv _ (List.mem_of_getElem? hx2);exact ih j hj _ hx2 (by omega)
def bef(s:PS)(k:Nat)(v:Int):Bool:=(s.trail.take k).any fun l=>((l.natAbs:Nat):Int)==v
def topP(s:PS)(k:Nat)(v:Int):Bool:=(s.lev.getD v.toNat 0==(s.marks.length:Int))&&bef s k v
theorem yik_{k:Nat}{v:Int}:bef s k v=true↔∃j l,j<k/\s.trail[j]?=some l/\(l.natAbs:Int)=v:=by
 unfold bef;simp only[List.any_eq_true,beq_iff_eq];constructor
 ·rintro⟨l,hl,e⟩
  obtain⟨j,hj⟩:=yb_ hl;have hjk:j<k:=by have:=y2_ hj;simp at this;omega
  exact⟨j,l,hjk,by rwa [List.getElem?_take_of_lt hjk]at hj,e⟩
 ·rintro⟨j,l,hj,hl,e⟩
  exact⟨l,List.mem_of_getElem? (i:=j) (by rw[List.getElem?_take_of_lt hj];exact hl),e⟩
theorem y14_{k:Nat}{v:Int}:topP s k v=true↔∃j l,j<k/\s.trail[j]?=some l/\(l.natAbs:Int)=v/\s.lv l=s.marks.length:=by
 unfold topP;rw[Bool.and_eq_true,beq_iff_eq,yik_];constructor
 ·rintro⟨h1,j,l,h2,h3,h4⟩
  subst h4;exact⟨j,l,h2,h3,rfl,h1⟩
 ·rintro⟨j,l,h2,h3,h4,h5⟩
  subst h4;exact⟨h5,j,l,h2,h3,rfl⟩
structure LF(n:Nat)(s:PS)(k:Nat)(o rest:List Int)(many:Int):Prop where
 nd:o.Nodup
 on:∀v∈o,∃x,x∈s.trail/\(x.natAbs:Int)=v/\0<s.lv x
 rs:∀x∈rest,-x∈s.trail/\0<s.lv x/\s.lv x<s.marks.length/\(x.natAbs:Int)∈o
 rn:(rest.map Int.natAbs).Nodup
 cov:∀x∈s.trail,(x.natAbs:Int)∈o->s.lv x=s.marks.length∨-x∈rest
 many:many=(o.countP (topP s k):Nat)
def LImp(s:PS)(k:Nat)(o rest:List Int):Prop:=∀A,(∀x∈rest,Der s.db A (-x))->(∀(j:Nat) l,j<k->s.trail[j]?=some l->(l.natAbs:Int)∈o->s.lv l=s.marks.length->Der s.db A l)->Conf s.db A
def tkS(s:PS)(but:Int)(q:List Int×List Int×Int)(l:Int):List Int×List Int×Int:=
 if l=but\/(l.natAbs:Int)∈q.1\/s.lv l=0 then q else(q.1++[(l.natAbs:Int)],if s.lv l=s.marks.length then q.2.1 else q.2.1++[l],if s.lv l=s.marks.length then q.2.2+1 else q.2.2)
def tkF(s:PS)(but:Int)(c:List Int)(q:List Int×List Int×Int):List Int×List Int×Int:=c.foldl (tkS s but) q
theorem yin_(h:TrI n s){k:Nat}{but:Int}{q:List Int×List Int×Int}(L:LF n s k q.1 q.2.1 q.2.2)(hl:l≠but->∃j,j<k/\s.trail[j]?=some (-l)) :
  LF n s k (tkS s but q l).1 (tkS s but q l).2.1 (tkS s but q l).2.2/\(∀v∈q.1,v∈(tkS s but q l).1)/\(∀x∈q.2.1,x∈(tkS s but q l).2.1)/\(l=but\/s.lv l=0\/(l.natAbs:Int)∈(tkS s but q l).1):=by
 unfold tkS;by_cases hc:l=but\/(l.natAbs:Int)∈q.1\/s.lv l=0
 ·rw[if_pos hc]
  refine⟨L,fun _ h=>h,fun _ h=>h,?_⟩;rcases hc with e|e|e
  ·exact .inl e
  ·exact .inr (.inr e)
  ·exact .inr (.inl e)
 ·rw[if_neg hc]
  have h1:l≠but:=fun e=>hc (.inl e);have h2:(l.natAbs:Int)∉q.1:=fun e=>hc (.inr (.inl e));have h3:s.lv l≠0:=fun e=>hc (.inr (.inr e));obtain⟨j,hj,hjl⟩:=hl h1;have hm:=List.mem_of_getElem? hjl;have hlv:=h.lv _ hm;rw[PS.lv_neg]at hlv;have hnew:∀x∈s.trail,(x.natAbs:Int)∈q.1++[(l.natAbs:Int)]->(x.natAbs:Int)∈q.1\/x = -l:=fun x hx hxm=>by
   rcases List.mem_append.1 hxm with w|w
   ·exact .inl w
   ·right
    have:=List.mem_singleton.1 w;exact h.abs hx hm (by rw[Int.natAbs_neg];omega)
  have hnd:(q.1++[(l.natAbs:Int)]).Nodup:=List.nodup_append.2 ⟨L.nd,by simp,fun x hx y hy e=>h2 (by rw[List.mem_singleton.1 hy]at e;rw[<-e];exact hx)⟩;have hon:∀v∈q.1++[(l.natAbs:Int)],∃x,x∈s.trail/\(x.natAbs:Int)=v/\0<s.lv x:=fun v hv=>by
   rcases List.mem_append.1 hv with w|w
   ·exact L.on v w
   ·exact⟨-l,hm,by rw[Int.natAbs_neg];exact(List.mem_singleton.1 w).symm,by rw[PS.lv_neg];omega⟩
  by_cases ht:s.lv l=s.marks.length
  ·simp only[if_pos ht]
   refine⟨⟨hnd,hon,fun x hx=>?_,L.rn,fun x hx hxm=>?_,?_⟩,fun v hv=>by simp[hv],fun _ h=>h,.inr (.inr (by simp))⟩
   ·obtain⟨a,b,c,d⟩:=L.rs x hx
    exact⟨a,b,c,by simp[d]⟩
   ·rcases hnew x hx hxm with w|w
    ·exact L.cov x hx w
    ·subst w;left;rw[PS.lv_neg];exact ht
   ·have:topP s k (l.natAbs:Int)=true:=y14_.2 ⟨j,-l,hj,hjl,by rw[Int.natAbs_neg],by rw[PS.lv_neg];exact ht⟩
    rw[List.countP_append,List.countP_cons_of_pos this,List.countP_nil];have:=L.many;omega
  ·simp only[if_neg ht]
   refine⟨⟨hnd,hon,fun x hx=>?_,?_,fun x hx hxm=>?_,?_⟩,fun v hv=>by simp[hv],fun _ h=>by simp[h],.inr (.inr (by simp))⟩
   ·rcases List.mem_append.1 hx with w|w
    ·obtain⟨a,b,c,d⟩:=L.rs x w
     exact⟨a,b,c,by simp[d]⟩
    ·rw[List.mem_singleton.1 w]
     exact⟨hm,by omega,by omega,by simp⟩
   ·rw[List.map_append]
    refine List.nodup_append.2 ⟨L.rn,by simp,fun a ha b hb e=>?_⟩;obtain⟨x,hx,rfl⟩:=List.mem_map.1 ha;have hb':b=l.natAbs:=by simpa using hb
    subst hb';exact h2 (by rw[<-e];exact(L.rs x hx).2.2.2)
   ·rcases hnew x hx hxm with w|w
    ·rcases L.cov x hx w with q|q
     ·exact .inl q
     ·exact .inr (by simp[q])
    ·subst w;right;simp
   ·have:topP s k (l.natAbs:Int)=false:=by
     rw[Bool.eq_false_iff];intro w;obtain⟨j',l',_,g2,g3,g4⟩:=y14_.1 w;have:=h.abs (List.mem_of_getElem? g2) hm (by rw[Int.natAbs_neg];omega);subst this;rw[PS.lv_neg]at g4;exact ht g4
    rw[List.countP_append,List.countP_cons_of_neg (by rw[this];simp),List.countP_nil];have:=L.many;omega
theorem y9y_(h:TrI n s){k:Nat}{but:Int}:∀(c:List Int) (q:List Int×List Int×Int),LF n s k q.1 q.2.1 q.2.2->(∀x∈c,x≠but->∃j,j<k/\s.trail[j]?=some (-x)) ->
  LF n s k (tkF s but c q).1 (tkF s but c q).2.1 (tkF s but c q).2.2/\(∀v∈q.1,v∈(tkF s but c q).1)/\(∀x∈q.2.1,x∈(tkF s but c q).2.1)/\∀x∈c,x=but\/s.lv x=0\/(x.natAbs:Int)∈(tkF s but c q).1
 |[],q,L,_=>⟨L,fun _ h=>h,fun _ h=>h,fun x hx=>by cases hx⟩
 | a::t,q,L,hc=>by
  obtain⟨g1,g2,g3,g4⟩:=yin_ h L (l:=a) (but:=but) (hc a (by simp));obtain⟨f1,f2,f3,f4⟩:=y9y_ h t (tkS s but q a) g1 fun x hx=>hc x (by simp[hx]);refine⟨f1,fun v hv=>f2 v (g2 v hv),fun x hx=>f3 x (g3 x hx),fun x hx=>?_⟩;rcases List.mem_cons.1 hx with e|hx
  ·subst e
   rcases g4 with w|w|w
   ·exact .inl w
   ·exact .inr (.inl w)
   ·exact .inr (.inr (f2 _ w))
  ·exact f4 x hx
theorem LF.first(h:TrI n s){id:Nat}{c:List Int}{f:Bool}(hc:s.cls[id]?=some (c,true,f))(hf:∀x∈c,val s.vs x=2)(h0:(0:Int)∉c){r:List Int×List Int×Int}(hr:r=tkF s 0 c ([],[],0)) :
  LF n s s.trail.length r.1 r.2.1 r.2.2/\LImp s s.trail.length r.1 r.2.1/\((∃x∈c,s.lv x=s.marks.length)->0<s.marks.length->1<=r.2.2):=by
 subst hr;have hpos:∀x∈c,x≠0->∃j,j<s.trail.length/\s.trail[j]?=some (-x):=fun x hx _=>by
  obtain⟨j,hj⟩:=yb_ (h.neg.1 (hf x hx));exact⟨j,y2_ hj,hj⟩
 obtain⟨f1,f2,f3,f4⟩:=y9y_ h c ([],[],0) (⟨by simp,(fun v hv=>by cases hv),(fun x hx=>by cases hx),by simp,(fun x _ hx=>by cases hx),by simp⟩:LF n s s.trail.length [] [] 0) hpos;refine⟨f1,fun A hA1 hA2=>.inr ⟨c,y31_.2 ⟨id,f,hc⟩,fun x hx=>?_⟩,fun⟨x,hx,hxl⟩ h0l=>?_⟩
 ·obtain⟨j,hj,hjx⟩:=hpos x hx (fun e=>h0 (e▸hx))
  rcases f4 x hx with w|w|w
  ·exact absurd hx (w▸h0)
  ·exact h.der0 j _ hjx (by rw[PS.lv_neg];exact w)
  ·rcases f1.cov (-x) (List.mem_of_getElem? hjx) (by rw[Int.natAbs_neg];exact w)with q|q
   ·exact hA2 j _ hj hjx (by rw[Int.natAbs_neg];exact w) q
   ·rw[Int.neg_neg]at q
    exact hA1 x q
 ·obtain⟨j,hj,hjx⟩:=hpos x hx (fun e=>h0 (e▸hx))
  rcases f4 x hx with w|w|w
  ·exact absurd hx (w▸h0)
  ·omega
  ·have ht:topP s s.trail.length (x.natAbs:Int)=true:=y14_.2 ⟨j,-x,hj,hjx,by rw[Int.natAbs_neg],by rw[PS.lv_neg];exact hxl⟩
   have:=f1.many;have h2:0<(tkF s 0 c ([],[],0)).1.countP (topP s s.trail.length):=List.countP_pos_iff.2 ⟨_,w,ht⟩;omega
variable{i:Nat}{o rest:List Int}{many:Int}
theorem LF.pass(h:TrI n s)(hl:s.trail[i]?=some l)(L:LF n s (i+1) o rest many)(hI:LImp s (i+1) o rest)(hno:(l.natAbs:Int)∉o\/s.lv l≠s.marks.length):LF n s i o rest many/\LImp s i o rest:=by
 refine⟨⟨L.nd,L.on,L.rs,L.rn,L.cov,?_⟩,fun A h1 h2=>hI A h1 fun j l' hj hl' ho hlv=>?_⟩
 ·rw[L.many]
  congr 1
  refine List.countP_congr fun v hv=>?_;rw[y14_,y14_];constructor
  ·rintro⟨j,l',h1,h2,h3,h4⟩
   refine⟨j,l',?_,h2,h3,h4⟩;have:j≠i:=fun e=>by
    subst e;rw[hl]at h2;cases h2;rcases hno with q|q
    ·exact q (by rw[h3];exact hv)
    ·exact q h4
   omega
  ·rintro⟨j,l',h1,h2,h3,h4⟩
   exact⟨j,l',by omega,h2,h3,h4⟩
 ·have:j≠i:=fun e=>by
   subst e;rw[hl]at hl';cases hl';rcases hno with q|q
   ·exact q ho
   ·exact q hlv
  exact h2 j l' (by omega) hl' ho hlv
theorem LF.less(h:TrI n s)(hl:s.trail[i]?=some l)(L:LF n s (i+1) o rest many)(ho:(l.natAbs:Int)∈o)(hlv:s.lv l=s.marks.length):LF n s i o rest (many-1)/\1<=many:=by
 have hc:=y8y_ (p:=topP s (i+1)) (q:=topP s i) L.nd ho (y14_.2 ⟨i,l,by omega,hl,rfl,hlv⟩) (by
  rw[Bool.eq_false_iff];intro w;obtain⟨j,l',g1,g2,g3,_⟩:=y14_.1 w;have:=h.abs (List.mem_of_getElem? g2) (List.mem_of_getElem? hl) (by omega);subst this;have:=nd_ix h.nd g2 hl;omega) fun v hv hne=>by
   rw[Bool.eq_iff_iff,y14_,y14_];constructor
   ·rintro⟨j,l',h1,h2,h3,h4⟩
    refine⟨j,l',?_,h2,h3,h4⟩;have:j≠i:=fun e=>by
     subst e;rw[hl]at h2;cases h2;exact hne h3.symm
    omega
   ·rintro⟨j,l',h1,h2,h3,h4⟩
    exact⟨j,l',by omega,h2,h3,h4⟩
 have:=L.many;exact⟨⟨L.nd,L.on,L.rs,L.rn,L.cov,by omega⟩,by omega⟩
theorem LF.step(h:TrI n s)(hl:s.trail[i]?=some l)(L:LF n s (i+1) o rest many)(hI:LImp s (i+1) o rest)(ho:(l.natAbs:Int)∈o)(hlv:s.lv l=s.marks.length)(hm:many≠1) :
  ∃(id:Nat) (c:List Int) (f:Bool),s.re l=id/\s.cls[id]?=some (c,true,f)/\(∀x∈c,x≠l->∃j,j<i/\s.trail[j]?=some (-x)) /\
   LF n s i (tkF s l c (o,rest,many-1)).1 (tkF s l c (o,rest,many-1)).2.1 (tkF s l c (o,rest,many-1)).2.2/\LImp s i (tkF s l c (o,rest,many-1)).1 (tkF s l c (o,rest,many-1)).2.1/\1<=(tkF s l c (o,rest,many-1)).2.2:=by
 obtain⟨L1,hm1⟩:=L.less h hl ho hlv;have hp:0<o.countP (topP s i):=by have:=L1.many;omega
 obtain⟨v,hv,hv2⟩:=List.countP_pos_iff.1 hp;obtain⟨j,l',g1,g2,g3,g4⟩:=y14_.1 hv2;rcases h.rs i l hl with ⟨h1,k,h2,h3⟩|⟨id,c,f,h1,h2,h3,h4⟩
 ·exfalso
  obtain⟨a,e,_,q⟩:=h.mks k _ h3;have:=(q j l' g2).2 (by rw[g4];omega);omega
 ·refine⟨id,c,f,h1,h2,h4,?_⟩
  obtain⟨f1,f2,f3,f4⟩:=y9y_ h (k:=i) (but:=l) c (o,rest,many-1) L1 h4;refine⟨f1,fun A hA1 hA2=>?_,?_⟩
  ·have hdl:Der s.db A l:=.unit (y31_.2 ⟨id,f,h2⟩) h3 fun x hx hne=>by
    obtain⟨j,hj,hjx⟩:=h4 x hx hne;rcases f4 x hx with w|w|w
    ·exact absurd w hne
    ·exact h.der0 j _ hjx (by rw[PS.lv_neg];exact w)
    ·rcases f1.cov (-x) (List.mem_of_getElem? hjx) (by rw[Int.natAbs_neg];exact w)with q|q
     ·exact hA2 j _ hj hjx (by rw[Int.natAbs_neg];exact w) q
     ·rw[Int.neg_neg]at q
      exact hA1 x q
   refine hI A (fun x hx=>hA1 x (f3 x hx)) fun j' l2 hj' hl2 ho2 hlv2=>?_;by_cases e:j'=i
   ·subst e;rw[hl]at hl2;cases hl2;exact hdl
   ·exact hA2 j' l2 (by omega) hl2 (f2 _ ho2) hlv2
  ·have:=f1.many
   have h5:0<(tkF s l c (o,rest,many-1)).1.countP (topP s i):=List.countP_pos_iff.2 ⟨v,f2 v hv,hv2⟩;omega
structure Lrn(n:Nat)(s:PS)(c:List Int):Prop where
 hd:∃u t,c=u::t/\s.lv u=s.marks.length/\∀x∈t,s.lv x<s.marks.length
 fs:∀x∈c,-x∈s.trail/\0<s.lv x
 nd:(c.map Int.natAbs).Nodup
 conf:Conf s.db (negs c)
theorem LF.last(h:TrI n s)(hl:s.trail[i]?=some l)(L:LF n s (i+1) o rest many)(hI:LImp s (i+1) o rest)(ho:(l.natAbs:Int)∈o)(hlv:s.lv l=s.marks.length)(hm:many=1)(h0:0<s.marks.length):Lrn n s (-l::rest):=by
 obtain⟨L1,_⟩:=L.less h hl ho hlv;have hz:o.countP (topP s i)=0:=by have:=L1.many;omega
 refine⟨⟨-l,rest,rfl,by rw[PS.lv_neg];exact hlv,fun x hx=>(L.rs x hx).2.2.1⟩,fun x hx=>?_,?_,hI _ (fun x hx=>.start ?_) fun j l' hj hl' ho' hlv'=>.start ?_⟩
 ·rcases List.mem_cons.1 hx with e|hx
  ·subst e
   rw[Int.neg_neg,PS.lv_neg];exact⟨List.mem_of_getElem? hl,by omega⟩
  ·exact⟨(L.rs x hx).1,(L.rs x hx).2.1⟩
 ·rw[List.map_cons]
  refine List.nodup_cons.2 ⟨fun hm=>?_,L.rn⟩;obtain⟨x,hx,e⟩:=List.mem_map.1 hm;obtain⟨g1,g2,g3,g4⟩:=L.rs x hx;have:=h.abs g1 (List.mem_of_getElem? hl) (by rw[Int.natAbs_neg];rw[e,Int.natAbs_neg]);rw[<-this,PS.lv_neg]at hlv;omega
 ·simp only[negs,List.mem_map]
  exact⟨x,by simp[hx],rfl⟩
 ·have:j=i:=by
   refine Decidable.byContradiction fun hne=>?_;have:0<o.countP (topP s i):=List.countP_pos_iff.2 ⟨_,ho',y14_.2 ⟨j,l',by omega,hl',rfl,hlv'⟩⟩;omega
  subst this;rw[hl]at hl';cases hl';simp only[negs,List.mem_map];exact⟨-l,by simp,by simp⟩
end
end
section
open Go
def MO{R:Type}(o o':Option R):Prop:=∀r,o=some r->o'=some r
section
variable{R S X Y:Type}
theorem MO.rfl(o:Option R):MO o o:=fun _ h=>h
theorem MO.none(o:Option R):MO none o:=fun _ h=>by cases h
theorem MO.bind{o o':Option S}{K K':S->Option R}(h:MO o o')(k:∀r,MO (K r) (K' r)):MO (o.bind K) (o'.bind K'):=fun r e=>by
 cases ho:o with
 |none=>rw[ho]at e;cases e
 |some a=>
  rw[ho]at e;rw[h a ho];exact k a r e
theorem MO.cond{b:Bool}{x x' y y':Option R}(h:MO x x')(k:MO y y'):MO (cond b x y) (cond b x' y'):=by cases b<;>assumption
theorem MO.nilck{p:AVal}{X X':Option R}(h:MO X X'):MO (nilck p X) (nilck p X'):=by
 unfold A.nilck
 split<;>first|exact h|exact MO.none _
theorem MO.fld{p:AVal}{k:Nat}{K K':AVal->Option R}(h:∀a,MO (K a) (K' a)):MO (fld p k K) (fld p k K'):=by
 unfold A.fld
 split<;>first|exact h _|exact MO.none _
theorem MO.asK{kd:Kd}{v:AVal}{K K':kd.ty->Option R}(h:∀a,MO (K a) (K' a)):MO (asK kd v K) (asK kd v K'):=by
 cases kd<;>cases v<;>simp only[A.asK]<;>first|exact h _|exact MO.none _|(split<;>first|exact h _|exact MO.none _)
theorem MO.ld{σ:Heap}{p:AVal}{kd:Kd}{K K':kd.ty->Option R}(h:∀a,MO (K a) (K' a)):MO (ld σ p kd K) (ld σ p kd K'):=by
 unfold A.ld
 repeat' split
 all_goals first|exact MO.asK h|exact MO.none _
theorem MO.lenV{v:AVal}{K K':Int->Option R}(h:∀a,MO (K a) (K' a)):MO (lenV v K) (lenV v K'):=by
 unfold A.lenV
 split<;>first|exact h _|exact MO.none _
theorem MO.ixA{σ:Heap}{v:AVal}{sz:Nat}{i:Int}{K K':AVal->Option R}(h:∀a,MO (K a) (K' a)):MO (ixA σ v sz i K) (ixA σ v sz i K'):=by
 unfold A.ixA
 repeat' split
 all_goals first|exact h _|exact MO.none _
theorem MO.mgetZ{σ:Heap}{v:AVal}{k:IntKind}{n:Int}{z:AVal}{K K':AVal->Bool->Option R}(h:∀a b,MO (K a b) (K' a b)):MO (mgetZ σ v k n z K) (mgetZ σ v k n z K'):=by
 unfold A.mgetZ A.mgetK
 repeat' split
 all_goals first|exact h _ _|exact MO.none _
theorem MO.newK{σ:Heap}{sz:Nat}{cs:List AVal}{K K':Nat->Heap->Option R}(h:∀a b,MO (K a b) (K' a b)):MO (newK σ sz cs K) (newK σ sz cs K'):=h _ _
theorem MO.appC{σ:Heap}{sz bytes n:Nat}{s:AVal}{xs:List AVal}{K K':AVal->Heap->Option R}(h:∀a b,MO (K a b) (K' a b)):MO (appC σ sz bytes s xs n K) (appC σ sz bytes s xs n K'):=by
 unfold A.appC A.newK
 repeat' split
 all_goals first|exact h _ _|exact MO.none _
theorem MO.appS{σ:Heap}{sz bytes:Nat}{s x:AVal}{K K':AVal->Heap->Option R}(h:∀a b,MO (K a b) (K' a b)):MO (appS σ sz bytes s x K) (appS σ sz bytes s x K'):=by
 unfold A.appS A.srcK
 repeat' split
 all_goals first|exact MO.appC h|exact MO.none _
theorem MO.scal{v:AVal}{X X':Option R}(h:MO X X'):MO (scal v X) (scal v X'):=by
 unfold A.scal
 split<;>first|exact h|exact MO.none _
theorem MO.stC{σ:Heap}{p:AVal}{vs:List AVal}{K K':Heap->Option R}(h:∀a,MO (K a) (K' a)):MO (stC σ p vs K) (stC σ p vs K'):=by
 unfold A.stC
 repeat' split
 all_goals first|exact h _|exact MO.none _
theorem MO.loopN{f f':X->Heap->Option ((X⊕Y)×Heap)}(h:∀x σ,MO (f x σ) (f' x σ)):∀n x σ,MO (loopN f n x σ) (loopN f' n x σ)
 |0,x,σ=>by simp only[A.loopN];exact MO.none _
 | n+1,x,σ=>fun r e=>by
  simp only[A.loopN]at e⊢;cases hf:f x σ with
  |none=>rw[hf]at e;cases e
  |some q=>
   rw[hf]at e;rw[h x σ q hf];obtain⟨q,τ⟩:=q;cases q with
   |inl x'=>exact MO.loopN h n x' τ r e
   |inr y=>exact e
theorem MO.loopW{f f':X->Heap->Option ((X⊕Y)×Heap)}(h:∀x σ,MO (f x σ) (f' x σ)){x:X}{σ:Heap}:MO (loopW f x σ) (loopW f' x σ):=fun r e=>by
 unfold A.loopW at e
 split at e
 ·rename_i hx
  have h2:=hx.choose_spec.choose_spec;rw[Option.some.inj e]at h2;exact y8c_ (MO.loopN h _ _ _ _ h2)
 ·cases e
theorem W.lim{g:Nat->Option R}{Q:R->Prop}(hm:∀n,MO (g n) (g (n+1)))(N:Nat)(h:W (g N) Q):W (lim g) Q:=by
  obtain⟨r,e,hr⟩:=h;refine⟨r,ykb_ N fun n hn=>?_,hr⟩
  induction n with
  | zero => have:N=0:=by omega
            subst this;exact e
  | succ n ih=>
    by_cases q:N=n+1
    · subst q;exact e
    · exact hm n r (ih (by omega))
end
theorem ycy_{self self':AVal->Int->Heap->Option (Bool×Heap)}(h:∀p v σ,MO (self p v σ) (self' p v σ))(p:AVal)(v:Int)(x:AVal)(k:Int)(z:Bool×Int)(σ:Heap):MO (S.z40.b0 self p v x k z σ) (S.z40.b0 self' p v x k z σ):=by
 unfold S.z40.b0;refine MO.cond ?_ (MO.rfl _);refine MO.ixA fun a=>MO.ld fun n=>MO.bind (MO.rfl _) fun r=>MO.bind ?_ fun r=>MO.rfl _;refine MO.cond ?_ (MO.rfl _);refine MO.nilck (MO.fld fun a=>MO.ld fun a=>MO.mgetZ fun a b=>MO.asK fun b=>MO.cond ?_ (MO.rfl _));exact MO.bind (h _ _ _) fun r=>MO.rfl _
theorem yep_{self self':AVal->Int->Heap->Option (Bool×Heap)}(h:∀p v σ,MO (self p v σ) (self' p v σ))(p:AVal)(v:Int)(σ:Heap):MO (S.z40.r self p v σ) (S.z40.r self' p v σ):=by
 unfold S.z40.r;refine MO.nilck (MO.fld fun a=>MO.ld fun a=>MO.mgetZ fun a b=>MO.asK fun b=>MO.cond (MO.rfl _) ?_);refine MO.nilck (MO.fld fun a=>MO.ld fun a=>MO.bind (MO.rfl _) fun r=>MO.bind ?_ fun r=>MO.rfl _);refine MO.cond ?_ (MO.rfl _);refine MO.nilck (MO.fld fun a=>MO.ld fun a=>MO.bind (MO.rfl _) fun r=>MO.lenV fun n=>MO.bind ?_ fun r=>MO.rfl _);exact MO.loopW fun x σ=>ycy_ h _ _ _ _ _ _
theorem ybo_(n:Nat):∀p v σ,MO (S.z40.n n p v σ) (S.z40.n (n+1) p v σ):=by
 induction n with
 |zero=>exact fun p v σ=>MO.none _
 |succ n ih=>exact fun p v σ=>yep_ ih p v σ
end
section
open Go
def tI:Nat->Bool:=fun j=>decide (16<=j)&&decide (j<=29)
theorem Hop.inT{σ0 σ τ:Heap}{T0 T T':Tg}{t:Nat}(h:Hop tI σ0 T0 σ T)(H:Hop (only t) σ T τ T')(ht:tI t=true:=by rfl):Hop tI σ0 T0 τ T':=h.trans (H.sub (fun i hi=>by
 have:i=t:=by simpa using hi
 rw[this];exact ht))
def sI:Nat->Bool:=fun j=>decide (16<=j)&&decide (j<=19)
theorem Hop.inS{σ0 σ τ:Heap}{T0 T T':Tg}{t:Nat}(h:Hop sI σ0 T0 σ T)(H:Hop (only t) σ T τ T')(ht:sI t=true:=by rfl):Hop sI σ0 T0 τ T':=h.trans (H.sub (fun i hi=>by
 have:i=t:=by simpa using hi
 rw[this];exact ht))
theorem Hop.st{σ τ:Heap}{T T':Tg}(H:Hop sI σ T τ T'):Hop tI σ T τ T':=H.sub fun i hi=>by simp only[sI,tI,Bool.and_eq_true,decide_eq_true_eq]at hi⊢;omega
theorem pI_tI(j:Nat)(h:pI j=true):tI j=false:=by
 simp only[pI,tI,Bool.or_eq_true,Bool.and_eq_true,decide_eq_true_eq,Bool.and_eq_false_iff,decide_eq_false_iff_not]at h⊢;omega
theorem W.lenMT{R:Type}{Q:R->Prop}{σ:Heap}{T:Tg}{t l:Nat}{ps:List (Int×AVal)}(h:MapV (σ.at T t) l ps){K:Int->Option R}(c:W (K (ps.length:Int)) Q):W (lenM σ (.map l) K) Q:=by
 have hg:=(y1g_.1 h.get).2;refine W.to ?_ c;simp only[lenM,hg,ents,List.length_map]
structure SrH(σ:Heap)(T:Tg)(lp ls lm:Nat)(xo xr:AVal)(ps:List (Int×AVal))(top:Int)(q:List Int×List Int×Int):Prop where
 obj:Loc (σ.at T 16) ls [.ptr lp 0,.int .i64 top,.int .i64 q.2.2,.map lm,xo,xr]
 mp:MapV (σ.at T 17) lm ps
 lk:∀v,look ps v=if v∈q.1 then some (.bool true)else none
 ord:Own .int (σ.at T 18) q.1 xo
 rst:Own .int (σ.at T 19) q.2.1 xr
section
variable{σ τ:Heap}{T T':Tg}{lp ls lm n u:Nat}{h:PH}{s:PS}{xo xr x:AVal}{ps:List (Int×AVal)}{q:List Int×List Int×Int}{c:List Int}{but:Int}
theorem PropH.hopT(p:PropH σ T lp h s)(H:Hop tI σ T τ T'):PropH τ T' lp h s:=p.hop H pI_tI
theorem PropH.hopT1(p:PropH σ T lp h s){t:Nat}(H:Hop (only t) σ T τ T')(ht:tI t=true:=by rfl):PropH τ T' lp h s:=p.hop H fun j hj=>by
 have:=pI_tI j hj;simp only[only,beq_eq_false_iff_ne];intro e;subst e;rw[ht]at this;cases this
theorem ydd_(s:PS)(but:Int):∀(c:List Int) (q:List Int×List Int×Int),(tkF s but c q).1.length<=q.1.length+c.length/\(tkF s but c q).2.1.length<=q.2.1.length+c.length/\q.2.2<=(tkF s but c q).2.2/\(tkF s but c q).2.2<=q.2.2+c.length
 |[],q=>⟨by simp[tkF],by simp[tkF],by simp[tkF],by simp[tkF]⟩
 | a::t,q=>by
  obtain⟨h1,h2,h3,h4⟩:=ydd_ s but t (tkS s but q a);have e:tkF s but (a::t) q=tkF s but t (tkS s but q a):=rfl;rw[e];have h5:(tkS s but q a).1.length<=q.1.length+1/\(tkS s but q a).2.1.length<=q.2.1.length+1/\q.2.2<=(tkS s but q a).2.2/\(tkS s but q a).2.2<=q.2.2+1:=by
   unfold tkS
   split
   ·omega
   ·refine⟨by simp,?_,?_,?_⟩<;>dsimp only<;>split<;>first|omega|(simp;done)|(simp;omega)
  simp only[List.length_cons];omega
theorem yd9_(p:PropH σ T lp h s)(ht:TrI n s)(hn4:n<=4000)(hm:0<s.marks.length)(S1:SrH σ T lp ls lm xo xr ps (s.marks.length:Int) q)(hn:Tn σ T)(hc:SlV .int (σ.at T 0) c x)(hL:∀l∈c,isL l n=true)(hcl:c.length<=1000000)(h1:q.1.length<=1000000)(h2:q.2.1.length<=1000000)(h3:0<=q.2.2/\q.2.2<=1000000) :
  W (S.z39 (.ptr ls 0) x but σ) fun r=>∃T' xo' xr' ps',Hop sI σ T r.2 T'/\SrH r.2 T' lp ls lm xo' xr' ps' (s.marks.length:Int) (tkF s but c q):=by
 have hvs:=hc.up;unfold S.z39
 repeat' with_reducible first|refine W.bind ?_|refine W.len (by assumption) ?_
 refine W.mono (P:=fun r=>∃T' xo' xr' ps',Hop sI σ T r.2 T'/\SrH r.2 T' lp ls lm xo' xr' ps' (s.marks.length:Int) (tkF s but c q)) ?_ fun r hr=>W.ret hr;refine W.loop c.length (fun i (z:Int) τ=>z=(i:Int)/\∃T' xo' xr' ps',Hop sI σ T τ T'/\SlV .int (τ.at T' 0) c x/\PropH τ T' lp h s/\SrH τ T' lp ls lm xo' xr' ps' (s.marks.length:Int) (tkF s but (c.take i) q)) ⟨rfl,T,xo,xr,ps,Hop.refl hn,hc,p,S1⟩ fun i z τ hi hI=>?_;obtain⟨rfl,T1,xo,xr,ps,H1,hc,p1,S1⟩:=hI;have hn1:=H1.tn;have w:IntKind.i64.wrap ((i:Int)+1)=((i+1:Nat):Int):=by rw[wrapS]<;>omega
 unfold S.z39.b0
 (with_reducible refine W.cnd (fun hlt=>?_) (fun hlt=>?_)<;>(try simp only[qq,Kd.ty]at hlt)<;>(try (exfalso;omega)))
 ·obtain⟨a,ha⟩:=y3_ (xs:=c) (i:=i) (by omega)
  have haL:=hL a (List.mem_of_getElem? ha);have htk:c.take (i+1)=c.take i++[a]:=by rw[List.take_add_one,ha];rfl
  have hfd:tkF s but (c.take (i+1)) q=tkS s but (tkF s but (c.take i) q) a:=by rw[htk];unfold tkF;rw[List.foldl_append];rfl
  rw[hfd];have hlen:=ydd_ s but (c.take i) q;have hti:(c.take i).length<=1000000:=by simp;omega
  generalize tkF s but (c.take i) q=q1 at S1 hlen⊢;obtain⟨k1,k2,lk,k3,k4⟩:=S1
  repeat' with_reducible first|refine W.bind ?_|refine W.ixIc (SlV.up (by assumption)) (by assumption) ?_
  refine W.to (yq_ haL hn4) ?_
  repeat' with_reducible first|refine W.ret ?_|refine W.bind ?_|refine W.asV ?_|refine W.fldp ?_|refine W.nck ?_|refine W.u0 ?_
  refine W.to (y2u_ p1 ht haL) ?_;refine W.ret ?_;show W _ _;refine W.bind ?_;refine W.mono (P:=fun r=>r=(decide (a=but\/(a.natAbs:Int)∈q1.1\/s.lv a=0),τ)) ?_ fun r hr=>?_
  ·by_cases e1:a=but
   ·refine W.condT (by simp[e1]) ?_
    repeat' with_reducible refine W.ret ?_
    simp[e1]
   ·refine W.condF (by simp[e1]) ?_
    repeat' with_reducible first|refine W.asV ?_|refine W.fldp ?_|refine W.nck ?_|refine W.u0 ?_|refine W.mgetT (by assumption) ?_
    rw[lk];by_cases e2:(a.natAbs:Int)∈q1.1
    ·rw[if_pos e2]
     skip
     refine W.ret ?_;simp[e2]
    ·rw[if_neg e2]
     skip
     by_cases e3:s.lv a=0
     ·refine W.condT (by simp[e3]) ?_
      repeat' with_reducible first|refine W.ret ?_|refine W.asI ?_|refine W.fldp ?_|refine W.nck ?_|refine W.u0 ?_
      simp[e3];omega
     ·refine W.condF (by simp[e3]) ?_
      repeat' with_reducible refine W.ret ?_
      simp[e1,e2,e3]
  subst hr;unfold tkS;by_cases hq:a=but\/(a.natAbs:Int)∈q1.1\/s.lv a=0
  ·rw[if_pos hq]
   refine W.condT (decide_eq_true hq) ?_
   repeat' with_reducible first|refine W.next ?_|refine W.ret ?_
   exact⟨by omega,w,T1,xo,xr,ps,H1,hc,p1,k1,k2,lk,k3,k4⟩
  ·rw[if_neg hq]
   refine W.condF (decide_eq_false hq) ?_
   repeat' with_reducible first|refine W.asV ?_|refine W.fldp ?_|refine W.nck ?_|refine W.u0 ?_
   refine W.mputT k2 hn1 fun τ2 qs k2 hlk H2 _=>?_;replace H1:=H1.inS H2;replace p1:=p1.hopT1 H2;replace k1:=k1.hop H2;replace k3:=k3.hop H2;replace k4:=k4.hop H2;replace hc:=hc.hop H2;replace hn:=H2.tn
   repeat' with_reducible first|refine W.asV ?_|refine W.fldp ?_|refine W.nck ?_|refine W.u0 ?_
   refine W.own_push (bytes:=8) Vw.int_flat k3 H1.tn (a:=(a.natAbs:Int)) rfl (by omega) (by omega) fun xo2 τ3 T3 k3 H3=>?_;replace H1:=H1.inS H3;replace p1:=p1.hopT1 H3;replace k1:=k1.hop H3;replace k2:=k2.hop H3;replace k4:=k4.hop H3;replace hc:=hc.hop H3;replace hn:=H3.tn
   repeat' with_reducible first|refine W.fldp ?_|refine W.nck ?_|refine W.u4 ?_
   refine W.stT k1 hn (Nat.le_of_ble_eq_true (by rfl)) fun τ4 H4 k1 hnτ4=>?_;replace H1:=H1.inS H4;replace p1:=p1.hopT1 H4;replace k2:=k2.hop H4;replace k3:=k3.hop H4;replace k4:=k4.hop H4;replace hc:=hc.hop H4;replace hn:=H4.tn;have hlk2:∀v,look qs v=if v∈q1.1++[(a.natAbs:Int)]then some (.bool true)else none:=fun v=>by
    rw[hlk,lk];by_cases e:v=(a.natAbs:Int)
    ·rw[if_pos e,if_pos (by simp[e])]
    ·rw[if_neg e]
     by_cases e2:v∈q1.1
     ·rw[if_pos e2,if_pos (by simp[e2])]
     ·rw[if_neg e2,if_neg (by simp[e,e2])]
   repeat' with_reducible first|refine W.asI ?_|refine W.fldp ?_|refine W.nck ?_|refine W.u0 ?_
   by_cases ht2:s.lv a=s.marks.length
   ·simp only[if_pos ht2]
    refine W.condT (by simp[ht2]) ?_
    repeat' with_reducible first|refine W.asI ?_|refine W.fldp ?_|refine W.nck ?_|refine W.u0 ?_
    have w2:IntKind.i64.wrap (q1.2.2+1)=q1.2.2+1:=by rw[wrapS]<;>omega
    rw[w2];refine W.stT k1 hn (Nat.le_of_ble_eq_true (by rfl)) fun τ5 H5 k1 hnτ5=>?_;replace H1:=H1.inS H5;replace p1:=p1.hopT1 H5;replace k2:=k2.hop H5;replace k3:=k3.hop H5;replace k4:=k4.hop H5;replace hc:=hc.hop H5;replace hn:=H5.tn
    repeat' with_reducible first|refine W.next ?_|refine W.ret ?_
    exact⟨by omega,w,T3,xo2,xr,qs,H1,hc,p1,k1,k2,hlk2,k3,k4⟩
   ·simp only[if_neg ht2]
    refine W.condF (by simpa using ht2) ?_
    repeat' with_reducible first|refine W.asV ?_|refine W.fldp ?_|refine W.nck ?_|refine W.u0 ?_
    refine W.own_push (bytes:=8) Vw.int_flat k4 H1.tn (a:=a) rfl (by omega) (by omega) fun xr2 τ5 T5 k4 H5=>?_;replace H1:=H1.inS H5;replace p1:=p1.hopT1 H5;replace k1:=k1.hop H5;replace k2:=k2.hop H5;replace k3:=k3.hop H5;replace hc:=hc.hop H5;replace hn:=H5.tn
    repeat' with_reducible first|refine W.fldp ?_|refine W.nck ?_|refine W.u4 ?_
    refine W.stT k1 hn (Nat.le_of_ble_eq_true (by rfl)) fun τ6 H6 k1 hnτ6=>?_;replace H1:=H1.inS H6;replace p1:=p1.hopT1 H6;replace k2:=k2.hop H6;replace k3:=k3.hop H6;replace k4:=k4.hop H6;replace hc:=hc.hop H6;replace hn:=H6.tn
    repeat' with_reducible first|refine W.next ?_|refine W.ret ?_
    exact⟨by omega,w,T5,xo2,xr2,qs,H1,hc,p1,k1,k2,hlk2,k3,k4⟩
 ·repeat' (with_reducible refine W.stop ?_)
  rw[List.take_of_length_le (by omega)]at S1;exact⟨T1,xo,xr,ps,H1,S1⟩
end
end
section
open Go
section
variable{σ τ:Heap}{T T':Tg}{lp ls lm n u id:Nat}{h:PH}{s:PS}{xo xr x:AVal}{ps:List (Int×AVal)}{q:List Int×List Int×Int}{c:List Int}{but:Int}{f:Bool}
theorem y9d_(p:PropH σ T lp h s)(ht:TrI n s)(hn4:n<=4000){xs:List Int}(hc:SlV .int σ xs x)(hL:∀l∈xs,isL l n=true)(hcl:xs.length<=1000000) :
  W (S.z38 (.ptr lp 0) x σ) fun r=>0<=r/\(∀y∈xs,s.lv y<=r)/\(r=0\/∃y∈xs,s.lv y=r):=by
 unfold S.z38
 repeat' with_reducible first|refine W.bind ?_|refine W.len (by assumption) ?_
 refine W.mono (P:=fun r=>0<=r/\(∀y∈xs,s.lv y<=r)/\(r=0\/∃y∈xs,s.lv y=r)) ?_ fun r hr=>W.ret hr;refine W.loopP xs.length (fun i (z:Int×Int)=>z.2=(i:Int)/\0<=z.1/\(∀(j:Nat) y,j<i->xs[j]?=some y->s.lv y<=z.1)/\(z.1=0\/∃y∈xs,s.lv y=z.1)) ⟨rfl,by simp,fun j y hj=>by omega,.inl rfl⟩ fun i z hi hI=>?_;obtain⟨m,z⟩:=z;obtain⟨hz,h0,hall,hex⟩:=hI;dsimp only at hz h0 hall hex;subst hz;have w:IntKind.i64.wrap ((i:Int)+1)=((i+1:Nat):Int):=by rw[wrapS]<;>omega
 unfold S.z38.b0
 (with_reducible refine W.cnd (fun hlt=>?_) (fun hlt=>?_)<;>(try simp only[qq,Kd.ty]at hlt)<;>(try (exfalso;omega)))
 ·obtain⟨a,ha⟩:=y3_ (xs:=xs) (i:=i) (by omega)
  have haL:=hL a (List.mem_of_getElem? ha)
  repeat' with_reducible first|refine W.bind ?_|refine W.e2 ?_
  refine W.to (yq_ haL hn4) ?_
  repeat' with_reducible first|refine W.ret ?_|refine W.bind ?_
  refine W.to (y2u_ p ht haL) ?_
  repeat' with_reducible first|refine W.nextP ?_|refine W.ret ?_
  by_cases hg:s.lv a>m
  ·rw[if_pos hg]
   refine⟨by omega,w,by show 0<=s.lv a;omega,fun j y hj hy=>?_,.inr ⟨a,List.mem_of_getElem? ha,rfl⟩⟩;by_cases e:j=i
   ·subst e;rw[ha]at hy;cases hy;exact Int.le_refl _
   ·have:=hall j y (by omega) hy
    show s.lv y<=s.lv a;omega
  ·rw[if_neg hg]
   refine⟨by omega,w,h0,fun j y hj hy=>?_,hex⟩;by_cases e:j=i
   ·subst e;rw[ha]at hy;cases hy;show s.lv a<=m;omega
   ·exact hall j y (by omega) hy
 ·repeat' (with_reducible refine W.stopP ?_)
  exact⟨h0,fun y hy=>by
   obtain⟨j,hj⟩:=yb_ hy;exact hall j y (by have:=y2_ hj;omega) hj,hex⟩
theorem y7t_(p:PropH σ T lp h s)(ht:TrI n s)(hn4:n<=4000){xs:List Int}(hc:SlV .int σ xs x)(hne:xs≠[])(hL:∀l∈xs,isL l n=true)(hcl:xs.length<=1000000) :
  W (S.z31 (.ptr lp 0) x σ) fun r=>0<=r/\(∀y∈xs.tail,s.lv y<=r)/\(r=0\/∃y∈xs.tail,s.lv y=r):=by
 have hl:0<xs.length:=List.length_pos_iff.2 hne;unfold S.z31
 repeat' (with_reducible refine W.len (by assumption) ?_)
 refine W.condF (by simp;exact hne) ?_;obtain⟨y,e5,hy⟩:=hc.slice (lo:=1) (hi:=xs.length) (by omega) (Nat.le_refl _);rw[List.take_length,List.drop_one]at hy;refine W.to ((e5 (Hle.refl σ) _).2 rfl) ?_;refine W.bind ?_;refine W.mono (y9d_ p ht hn4 hy (fun l hl=>hL l (List.mem_of_mem_tail hl)) (by simp;omega)) fun r hr=>?_
 repeat' with_reducible refine W.ret ?_
 exact hr
theorem yd1_(p:PropH σ T lp h s)(ht:TrI n s)(hn4:n<=4000)(hn:Tn σ T){t:Nat}(htg:tI t=false){xs:List Int}(hc:SlV .int (σ.at T t) xs x)(hL:∀l∈xs,isL l n=true)(hcl:xs.length<=1000000) :
  W (S.z34 (.ptr lp 0) x σ) fun r=>∃T',Hop (only 22) σ T r.2 T':=by
 have ht22:(only 22) t=false:=by
  simp only[only,beq_eq_false_iff_ne];intro e;subst e;cases htg
 unfold S.z34;refine W.newMT 22 hn fun l τ1 T1 _ H1 hm _=>?_;have hc1:=hc.hop H1 ht22;have p1:=p.hopT1 H1
 repeat' with_reducible first|refine W.bind ?_|refine W.len (by assumption) ?_
 refine W.mono (P:=fun r=>∃T' ps,Hop (only 22) σ T r.2 T'/\MapV (r.2.at T' 22) l ps) ?_ fun r hr=>?_
 ·refine W.loop xs.length (fun i (z:Int) τ=>z=(i:Int)/\∃T' ps,Hop (only 22) σ T τ T'/\MapV (τ.at T' 22) l ps/\SlV .int (τ.at T' t) xs x/\PropH τ T' lp h s) ⟨rfl,T1,_,H1,hm,hc1,p1⟩ fun i z τ hi hI=>?_
  obtain⟨rfl,T2,qs,H2,hm,hc2,p2⟩:=hI;have w:IntKind.i64.wrap ((i:Int)+1)=((i+1:Nat):Int):=by rw[wrapS]<;>omega
  unfold S.z34.b0
  (with_reducible refine W.cnd (fun hlt=>?_) (fun hlt=>?_)<;>(try simp only[qq,Kd.ty]at hlt)<;>(try (exfalso;omega)))
  ·obtain⟨a,ha⟩:=y3_ (xs:=xs) (i:=i) (by omega)
   have haL:=hL a (List.mem_of_getElem? ha)
   repeat' with_reducible first|refine W.bind ?_|refine W.ixIc (SlV.up (by assumption)) (by assumption) ?_
   refine W.to (yq_ haL hn4) ?_
   repeat' with_reducible first|refine W.ret ?_|refine W.bind ?_
   refine W.to (y2u_ p2 ht haL) ?_
   repeat' with_reducible refine W.ret ?_
   refine W.mputT hm H2.tn fun τ3 qs2 hm _ H3 _=>?_
   repeat' (with_reducible refine W.next ?_)
   exact⟨by omega,w,T2,qs2,H2.trans H3,hm,hc2.hop H3 ht22,p2.hopT1 H3⟩
  ·repeat' (with_reducible refine W.stop ?_)
   exact⟨T2,qs,H2,hm⟩
 ·obtain⟨r,τ2⟩:=r
  obtain⟨T2,qs,H2,hm⟩:=hr;dsimp only at hm⊢;refine W.lenMT hm ?_
  repeat' with_reducible refine W.ret ?_
  exact⟨T2,H2⟩
theorem yh4_(p:PropH σ T lp h s)(ht:TrI n s)(hn4:n<=4000)(hn:Tn σ T){xs:List Int}(hc:SlV .int σ xs x)(hL:∀l∈xs,isL l n=true)(hcl:xs.length<=1000000)(hf:∀l∈xs,val s.vs l=2) :
  W (S.z36 (.ptr lp 0) x σ) fun r=>r.1=true/\Hle σ r.2:=by
 unfold S.z36
 repeat' (with_reducible refine W.scP ?_)
 refine W.new0 hn fun l1 τ1 _ L1 hl hn1=>?_;have p1:=p.hle L1;refine W.bind ?_;refine W.mono (y1c_ (fun l=>val s.vs l != 2) (hc.mono L1) (by omega) fun l hl2 Rt K=>?_) fun r hr=>?_
 ·show((S.z37 l (.ptr l1 0) τ1).bind fun x=>K (retV [.B] x) τ1)=_
  have e:S.z37 l (.ptr l1 0) τ1=some (val s.vs l != 2):=by
   obtain⟨r,e,rfl⟩:W (S.z37 l (.ptr l1 0) τ1) fun r=>r=(val s.vs l != 2):=by
    unfold S.z37
    repeat' with_reducible first|refine W.bind ?_|refine W.asV ?_|refine W.u0 ?_
    refine W.to (y1w_ p1 ht hn4 (hL l hl2)) ?_
    repeat' with_reducible refine W.ret ?_
    rfl
   exact e
  rw[e];rfl
 ·subst hr
  repeat' with_reducible refine W.ret ?_
  refine⟨?_,L1⟩;simp only[Bool.not_eq_true',List.any_eq_false];intro l hl2;simp[hf l hl2]
theorem LF.small{k:Nat}{o rest:List Int}{many:Int}(L:LF n s k o rest many)(ht:TrI n s):o.length<=n/\rest.length<=n/\0<=many/\many<=n:=by
 have h1:o.length<=n:=by
  have:=y2k_ n (o.map Int.toNat) ?_ ?_
  ·simpa using this
  ·unfold List.Nodup
   rw[List.pairwise_map];exact L.nd.imp_of_mem fun {a b} ha hb hne e=>hne (by
    obtain⟨x,_,e1,_⟩:=L.on a ha;obtain⟨y,_,e2,_⟩:=L.on b hb;omega)
  ·intro v hv
   obtain⟨a,ha,rfl⟩:=List.mem_map.1 hv;obtain⟨x,hx,e,_⟩:=L.on a ha;have:=ye_ (ht.rng x hx);omega
 have h2:rest.length<=n:=by
  have:=y2k_ n (rest.map Int.natAbs) L.rn fun v hv=>by
   obtain⟨a,ha,rfl⟩:=List.mem_map.1 hv;have:=ye_ (ht.rng _ (L.rs a ha).1);omega
  simpa using this
 have h3:=List.countP_le_length (p:=topP s k) (l:=o);have:=L.many;exact⟨h1,h2,by omega,by omega⟩
theorem Lrn.lits{c:List Int}(L:Lrn n s c)(ht:TrI n s):(∀l∈c,isL l n=true)/\c.length<=n:=by
 have h1:∀l∈c,isL l n=true:=fun l hl=>by
  have:=y7l_ (ht.rng _ (L.fs l hl).1)
  rwa [Int.neg_neg]at this
 refine⟨h1,?_⟩;have:=y2k_ n (c.map Int.natAbs) L.nd fun v hv=>by
  obtain⟨a,ha,rfl⟩:=List.mem_map.1 hv;have:=ye_ (h1 a ha);omega
 simpa using this
theorem yjy_(p:PropH σ T lp h s)(hn:Tn σ T)(ht:TrI n s)(hci:ClI n s)(hn4:n<=4000)(hm:0<s.marks.length)(hc:s.cls[id]?=some (c,true,f))(hf:∀y∈c,val s.vs y=2)(hx:∃y∈c,s.lv y=s.marks.length) :
  W (S.z33 (.ptr lp 0) (id:Int) σ) fun r=>∃T' xc back score xs c o,Hop tI σ T r.2 T'/\r.1=(.agg [xc,.int .i64 back,.int .i64 score,xs],true)/\SlV .int (r.2.at T' 0) c xc/\SlV .int (r.2.at T' 0) o xs/\Lrn n s c/\(∀v∈o,1<=v/\v<=n)/\o.length<=n:=by
 have hcn:=hci.len hc;have hcL:=(hci id c f hc).1;have hne:c≠[]:=by
  obtain⟨y,hy,_⟩:=hx;intro e;rw[e]at hy;cases hy
 have h0c:(0:Int)∉c:=fun e=>(ye_ (hcL 0 e)).1 rfl;unfold S.z33;refine W.newT 21 hn fun l1 τ1 T1 hl1 H1 k21 hnτ1=>?_;have HH:Hop tI σ T τ1 T1:=(Hop.refl hn).inT H1;replace p:=p.hopT1 H1;refine W.bind ?_;refine W.mono (y1y_ p HH.tn hc (by omega)) fun r hr=>?_;obtain⟨z,τ2⟩:=r;obtain⟨L2,hz⟩:=hr;dsimp only at L2 hz⊢;rw[if_pos rfl]at hz;replace HH:=HH.hle L2;replace p:=p.hle L2;replace k21:=k21.hle L2;have hzu:=hz.up
 repeat' with_reducible first|refine W.bind ?_|refine W.len (by assumption) ?_
 refine W.condF (by simpa using hne) ?_;refine W.bind ?_;refine W.to (y7c_ p) ?_;refine W.ret ?_;show W _ _;have hmn:s.marks≠[]:=List.length_pos_iff.1 hm;refine W.condF (by simpa using hmn) ?_;refine W.bind ?_;refine W.mono (yh4_ p ht hn4 HH.tn hzu hcL (by omega) hf) fun r hr=>?_;obtain⟨r,τ3⟩:=r;obtain⟨e3,L3⟩:=hr;dsimp only at e3 L3⊢;subst e3;replace HH:=HH.hle L3;replace p:=p.hle L3;replace k21:=k21.hle L3;replace hz:=hz.hle L3;refine W.ret ?_;show W _ _;refine W.bind ?_;refine W.mono (y9d_ p ht hn4 hz.up hcL (by omega)) fun r hr=>?_;obtain⟨g1,g2,g3⟩:=hr;have hg:r=(s.marks.length:Int):=by
  obtain⟨y,hy,hyl⟩:=hx;have h1:=g2 y hy;rcases g3 with e|⟨w,hw,e⟩
  ·omega
  ·have:=(ht.rank_le (hf w hw)).2.2
   omega
 subst hg;refine W.newMT 17 HH.tn fun lm τ4 T4 _ H4 k17 _=>?_;replace HH:=HH.inT H4;replace p:=p.hopT1 H4;replace k21:=k21.hop H4;replace hz:=hz.hop H4;replace hn:=H4.tn
 repeat' (with_reducible refine W.scP ?_)
 refine W.newT 16 hn fun ls τ5 T5 hls H5 k16 hnτ5=>?_;replace HH:=HH.inT H5;replace p:=p.hopT1 H5;replace k21:=k21.hop H5;replace hz:=hz.hop H5;replace k17:=k17.hop H5;replace hn:=H5.tn;have S5:SrH τ5 T5 lp ls lm .nils .nils [] (s.marks.length:Int) ([],[],0):=⟨k16,k17,fun v=>by simp[look],.nil,.nil⟩;refine W.bind ?_;refine W.mono (yd9_ p ht hn4 hm S5 HH.tn hz hcL (by omega) (by simp) (by simp) (by simp)) fun r hr=>?_;obtain⟨r,τ6⟩:=r;obtain⟨T6,xo,xr,ps,H6,S6⟩:=hr;dsimp only at H6 S6⊢;obtain⟨F1,F2,F3⟩:=LF.first (n:=n) ht hc hf h0c rfl
 have F3:=F3 hx hm;generalize hq:tkF s 0 c ([],[],0)=q at S6 F1 F2 F3;replace HH:=HH.trans H6.st;replace p:=p.hopT H6.st;replace k21:=k21.hop H6;refine W.bind ?_;refine W.mono (yd0_ p HH.tn ht hn4) fun r hr=>?_;obtain⟨zt,τ7⟩:=r;obtain⟨L7,hzt⟩:=hr;dsimp only at L7 hzt⊢;replace HH:=HH.hle L7;replace p:=p.hle L7;replace k21:=k21.hle L7;have hztu:=hzt.up;have S7:SrH τ7 T6 lp ls lm xo xr ps (s.marks.length:Int) q:=⟨S6.obj.hle L7,S6.mp.hle L7,S6.lk,S6.ord.hle L7,S6.rst.hle L7⟩;have hlT:=ht.lenT;have w0:IntKind.i64.wrap ((s.trail.length:Int)-1)=(s.trail.length:Int)-1:=by rw[wrapS]<;>omega
 refine W.len hztu ?_;refine W.bind ?_;rw[w0];refine W.mono (P:=fun r=>r.1=.inr true/\∃T' xc back score xs c o,Hop tI σ T r.2 T'/\Loc (r.2.at T' 21) l1 [xc,.int .i64 back,.int .i64 score,xs]/\SlV .int (r.2.at T' 0) c xc/\SlV .int (r.2.at T' 0) o xs/\Lrn n s c/\(∀v∈o,1<=v/\v<=(n:Int))/\o.length<=n) ?_ fun r hr=>?_
 ·refine W.loopI (m:=s.trail.length) (fun m (z:Int) τ=>∃(T':Tg) (xo xr:AVal) (ps:List (Int×AVal)) (q:List Int×List Int×Int) (cs:List AVal),z=(m:Int)-1/\m<=s.trail.length/\Hop tI σ T τ T'/\PropH τ T' lp h s/\Loc (τ.at T' 21) l1 cs/\cs.length=4/\SlV .int (τ.at T' 0) s.trail zt/\SrH τ T' lp ls lm xo xr ps (s.marks.length:Int) q/\LF n s m q.1 q.2.1 q.2.2/\LImp s m q.1 q.2.1/\1<=q.2.2)
   ⟨T6,xo,xr,ps,q,_,rfl,Nat.le_refl _,HH,p,k21,rfl,hzt,S7,F1,F2,F3⟩ fun m z τ8 hI=>?_
  obtain⟨T8,xo,xr,ps,q,cs,rfl,hmt,HH,p,k21,hcs,hzt,S8,F1,F2,F3⟩:=hI;unfold S.z33.b0;cases m with
  | zero=>
   exfalso;have h1:=F1.many;have h2:q.1.countP (topP s 0)=0:=by
    rw[List.countP_eq_zero];intro v _ hv;obtain⟨j,_,hj,_⟩:=y14_.1 hv;omega
   omega
  | succ i=>
   rw[show((i+1:Nat):Int)-1=(i:Int) by omega];refine W.condT (by simp) ?_;obtain⟨l,hl⟩:=y3_ (xs:=s.trail) (i:=i) (by omega);have hlL:=ht.rng l (List.mem_of_getElem? hl);have hl0:=yi_.1 hlL;obtain⟨z1,z2,z3,z4⟩:=F1.small ht;have wi:IntKind.i64.wrap ((i:Int)-1)=(i:Int)-1:=by rw[wrapS]<;>omega
   obtain⟨k16,k17,lk,k18,k19⟩:=S8;have hztu:=hzt.up
   repeat' with_reducible first|refine W.bind ?_|refine W.e2 ?_
   refine W.to (yq_ hlL hn4) ?_
   repeat' with_reducible first|refine W.ret ?_|refine W.bind ?_|refine W.asV ?_|refine W.fldp ?_|refine W.nck ?_|refine W.u0 ?_|refine W.mgetT (by assumption) ?_
   refine W.mono (P:=fun r=>r=(!decide ((l.natAbs:Int)∈q.1/\s.lv l=s.marks.length),τ8)) ?_ fun r hr=>?_
   ·rw[lk]
    by_cases e2:(l.natAbs:Int)∈q.1
    ·rw[if_pos e2]
     skip
     refine W.bind ?_;refine W.to (y2u_ p ht hlL) ?_
     repeat' with_reducible first|refine W.ret ?_|refine W.asI ?_|refine W.fldp ?_|refine W.nck ?_|refine W.u0 ?_
     by_cases e3:s.lv l=s.marks.length<;>simp[e2,e3]
    ·rw[if_neg e2]
     skip
     refine W.ret ?_;simp[e2]
   subst hr;by_cases hin:(l.natAbs:Int)∈q.1/\s.lv l=s.marks.length
   ·obtain⟨ho,hlv⟩:=hin
    refine W.condF (by simp[ho,hlv]) ?_
    repeat' with_reducible first|refine W.asI ?_|refine W.fldp ?_|refine W.nck ?_|refine W.u0 ?_
    by_cases hone:q.2.2=1
    ·refine W.condT (by simp[hone]) ?_
     have hLrn:=F1.last ht hl F2 ho hlv hone hm;obtain⟨hLl,hLn⟩:=hLrn.lits ht;have wn:IntKind.i64.wrap (0-l) = -l:=by rw[wrapS]<;>omega
     rw[wn];refine W.newO (v:=Vw.int) 20 HH.tn (-l) rfl (fun _=>rfl) fun l38 τ9 T9 H9 k20 _=>?_;replace HH:=HH.inT H9;replace p:=p.hopT1 H9;replace k16:=k16.hop H9;replace k17:=k17.hop H9;replace k18:=k18.hop H9;replace k19:=k19.hop H9;replace k21:=k21.hop H9;replace hn:=H9.tn
     repeat' with_reducible first|refine W.asV ?_|refine W.fldp ?_|refine W.nck ?_|refine W.u0 ?_
     refine W.own_app (bytes:=8) Vw.int_flat k20 HH.tn k19.slT (by simp;omega) (by simp;omega) fun xc τ10 T10 k20 H10=>?_;replace HH:=HH.inT H10;replace p:=p.hopT1 H10;replace k16:=k16.hop H10;replace k17:=k17.hop H10;replace k18:=k18.hop H10;replace k19:=k19.hop H10;replace k21:=k21.hop H10;replace hn:=H10.tn;have e20:[-l]++q.2.1 = -l::q.2.1:=rfl;rw[e20]at k20;have k20u:=k20.slT;refine W.bind ?_;refine W.mono (y7t_ p ht hn4 k20u (by simp) hLl (by omega)) fun back hback=>?_;obtain⟨T11,H11,k0⟩:=k20.retag (u:=0) Vw.int_flat HH.tn;replace HH:=HH.inT H11;replace p:=p.hopT1 H11;replace k16:=k16.hop H11;replace k17:=k17.hop H11;replace k18:=k18.hop H11;replace k19:=k19.hop H11;replace k21:=k21.hop H11;replace hn:=H11.tn;have k16o:=k16;refine W.bind ?_;refine W.mono (yd1_ p ht hn4 HH.tn (t:=0) rfl k0.sl hLl (by omega)) fun r hr=>?_;obtain⟨score,τ12⟩:=r;obtain⟨T12,H12⟩:=hr;dsimp only at H12⊢;replace HH:=HH.inT H12;replace p:=p.hopT1 H12;replace k0:=k0.hop H12;replace k16:=k16.hop H12;replace k17:=k17.hop H12;replace k18:=k18.hop H12;replace k19:=k19.hop H12;replace k21:=k21.hop H12;replace hn:=H12.tn
     repeat' with_reducible first|refine W.asV ?_|refine W.chk rfl ?_|refine W.fldp ?_|refine W.scalS (by assumption) ?_|refine W.nck ?_|refine W.u0 ?_|refine W.u4 ?_
     refine W.stT k21 hn (by simp[hcs]) fun τ13 H13 k21 _=>?_;have e21:cs.take 0++[xc,.int .i64 back,.int .i64 score,xo]++cs.drop (0+[xc,AVal.int .i64 back,AVal.int .i64 score,xo].length)=[xc,.int .i64 back,.int .i64 score,xo]:=by simp[hcs]
     rw[e21]at k21;replace HH:=HH.inT H13;replace k0:=k0.hop H13;replace k18:=k18.hop H13;replace hn:=H13.tn;obtain⟨T14,H14,k18⟩:=k18.retag (u:=0) Vw.int_flat HH.tn;replace HH:=HH.inT H14;replace k0:=k0.hop H14;replace k21:=k21.hop H14
     repeat' with_reducible first|refine W.stop ?_|refine W.ret ?_
     refine⟨rfl,T14,xc,back,score,xo,-l::q.2.1,q.1,HH,k21,k0.sl,k18.sl,hLrn,fun v hv=>?_,z1⟩;obtain⟨y,hy,e,_⟩:=F1.on v hv;have:=ye_ (ht.rng y hy);omega
    ·refine W.condF (by simp[hone]) ?_
     obtain⟨jd,d,g,e1,e2,e3,e4,e5,e6⟩:=F1.step ht hl F2 ho hlv hone;have hdn:=hci.len e2;have hdL:=(hci jd d g e2).1;have wm:IntKind.i64.wrap (q.2.2-1)=q.2.2-1:=by rw[wrapS]<;>omega
     repeat' with_reducible first|refine W.asI ?_|refine W.fldp ?_|refine W.nck ?_|refine W.u0 ?_
     rw[wm];have hn:=HH.tn;refine W.stT k16 hn (Nat.le_of_ble_eq_true (by rfl)) fun τ9 H9 k16 hnτ9=>?_;replace HH:=HH.inT H9;replace p:=p.hopT1 H9;replace k17:=k17.hop H9;replace k18:=k18.hop H9;replace k19:=k19.hop H9;replace k21:=k21.hop H9;replace hn:=H9.tn;replace hzt:=hzt.hop H9;refine W.bind ?_;refine W.to (y6p_ p ht hlL) ?_;refine W.ret ?_;show W _ _;rw[e1];refine W.bind ?_;refine W.mono (y1y_ p HH.tn e2 (by omega)) fun r hr=>?_;obtain⟨y,τ10⟩:=r;obtain⟨L10,hy⟩:=hr;dsimp only at L10 hy⊢;rw[if_pos rfl]at hy;replace HH:=HH.hle L10;replace p:=p.hle L10;replace k16:=k16.hle L10;replace k17:=k17.hle L10;replace k18:=k18.hle L10;replace k19:=k19.hle L10;replace k21:=k21.hle L10;replace hzt:=hzt.hle L10;replace hn:=hn.mono L10;have S10:SrH τ10 T8 lp ls lm xo xr ps (s.marks.length:Int) (q.1,q.2.1,q.2.2-1):=⟨k16,k17,lk,k18,k19⟩;refine W.bind ?_;refine W.mono (yd9_ (but:=l) p ht hn4 hm S10 HH.tn hy hdL (by omega) (by show q.1.length<=_;omega) (by show q.2.1.length<=_;omega) (by show 0<=q.2.2-1/\q.2.2-1<=1000000;omega)) fun r hr=>?_;obtain⟨r,τ11⟩:=r;obtain⟨T11,xo',xr',ps',H11,S11⟩:=hr;dsimp only at H11 S11⊢
     repeat' with_reducible first|refine W.next ?_|refine W.ret ?_
     exact⟨i,by omega,T11,xo',xr',ps',_,cs,wi,by omega,HH.trans H11.st,p.hopT H11.st,k21.hop H11,hcs,hzt.hop H11,S11,e4,e5,e6⟩
   ·refine W.condT (by rw[decide_eq_false hin];rfl) ?_
    repeat' with_reducible first|refine W.next ?_|refine W.ret ?_
    obtain⟨g1,g2⟩:=F1.pass ht hl F2 (by
     by_cases e:(l.natAbs:Int)∈q.1
     ·exact .inr fun w=>hin ⟨e,w⟩
     ·exact .inl e)
    exact⟨i,by omega,T8,xo,xr,ps,q,cs,wi,by omega,HH,p,k21,hcs,hzt,⟨k16,k17,lk,k18,k19⟩,g1,g2,F3⟩
 ·obtain⟨r,τ8⟩:=r
  obtain⟨e,T8,xc,back,score,xs,c',o,H8,k21,q1,q2,q3,q4,q5⟩:=hr;dsimp only at e H8 k21 q1 q2⊢;subst e
  repeat' with_reducible first|refine W.ret ?_|refine W.u1 ?_
  exact⟨T8,xc,back,score,xs,c',o,H8,rfl,q1,q2,q3,q4,q5⟩
end
end
section
open Go
def Fol(s:PS)(IN:List Int)(v:Int):Prop:=∃(i:Nat) (l:Int),s.trail[i]?=some l/\(l.natAbs:Int)=v/\∀A,(∀(j:Nat) y,j<i->s.trail[j]?=some y->(y.natAbs:Int)∈IN->Der s.db A y)->Der s.db A l
structure ShH(s:PS)(σ:Heap)(T:Tg)(lp ls l1 l3:Nat)(IN:List Int):Prop where
 obj:Loc (σ.at T 16) ls [.ptr lp 0,.map l1,.map l3]
 mi:∃ps,MapV (σ.at T 17) l1 ps/\∀v,look ps v=if v∈IN then some (.bool true)else none
 mw:∃ps,MapV (σ.at T 23) l3 ps/\∀v,look ps v=none\/∃b,look ps v=some (.bool b)/\(b=true->Fol s IN v)
section
variable{σ τ:Heap}{T T':Tg}{lp ls l1 l3 n u id:Nat}{h:PH}{s:PS}{x:AVal}{c IN:List Int}{f:Bool}{I:Nat->Bool}
theorem ShH.hop(S1:ShH s σ T lp ls l1 l3 IN)(H:Hop I σ T τ T')(h1:I 16=false:=by rfl)(h2:I 17=false:=by rfl)(h3:I 23=false:=by rfl):ShH s τ T' lp ls l1 l3 IN:=by
 obtain⟨k1,⟨ps,k2,k3⟩,qs,k4,k5⟩:=S1;exact⟨k1.hop H h1,⟨ps,k2.hop H h2,k3⟩,qs,k4.hop H h3,k5⟩
theorem ShH.hle(S1:ShH s σ T lp ls l1 l3 IN)(L:Hle σ τ):ShH s τ T lp ls l1 l3 IN:=by
 obtain⟨k1,⟨ps,k2,k3⟩,qs,k4,k5⟩:=S1;exact⟨k1.hle L,⟨ps,k2.hle L,k3⟩,qs,k4.hle L,k5⟩
theorem ydu_(ht:TrI n s)(hci:ClI n s)(hn4:n<=4000):∀(m:Nat) {σ:Heap} {T:Tg} {l:Int} (i:Nat),PropH σ T lp h s->ShH s σ T lp ls l1 l3 IN->Tn σ T->s.trail[i]?=some l->i<m ->
  W (S.z40.n m (.ptr ls 0) (l.natAbs:Int) σ) fun r=>∃T',Hop (only 23) σ T r.2 T'/\ShH s r.2 T' lp ls l1 l3 IN/\(r.1=true->Fol s IN (l.natAbs:Int)):=by
 intro m
 induction m with
 |zero=>intro σ T l i _ _ _ _ hi;omega
 | succ m ih=>
  intro σ T l i p S1 hn hl hi;have hlm:=List.mem_of_getElem? hl;have hlL:=ht.rng l hlm;obtain⟨k1,⟨ps,k2,k3⟩,qs,k4,k5⟩:=S1;show W (S.z40.r (S.z40.n m) (.ptr ls 0) (l.natAbs:Int) σ) _;unfold S.z40.r
  repeat' with_reducible first|refine W.asV ?_|refine W.fldp ?_|refine W.nck ?_|refine W.u0 ?_|refine W.mgetT (by assumption) ?_
  rcases k5 (l.natAbs:Int)with hk|⟨b,hk,hb⟩
  ·rw[hk]
   dsimp only[Option.getD,Option.isSome]
   repeat' (with_reducible refine W.asB ?_)
   rw[cond_false]
   repeat' with_reducible first|refine W.bind ?_|refine W.asV ?_|refine W.fldp ?_|refine W.nck ?_|refine W.u0 ?_
   refine W.to (y6p_ p ht hlL) ?_;refine W.ret ?_;show W _ _;refine W.bind ?_;refine W.mono (P:=fun r=>∃T',Hop (only 23) σ T r.2 T'/\PropH r.2 T' lp h s/\ShH s r.2 T' lp ls l1 l3 IN/\(r.1=true->Fol s IN (l.natAbs:Int))) ?_ fun r hr=>?_
   ·rcases ht.rs i l hl with ⟨e,_⟩|⟨id,c,g,e1,e2,e3,e4⟩
    ·rw[e]
     refine W.condF (by decide) ?_
     repeat' with_reducible refine W.ret ?_
     exact⟨T,Hop.refl hn,p,⟨k1,⟨ps,k2,k3⟩,qs,k4,k5⟩,fun q=>by cases q⟩
    ·rw[e1]
     have hcn:=hci.len e2;have hcL:=(hci id c g e2).1;refine W.condT (by simp) ?_
     repeat' with_reducible first|refine W.bind ?_|refine W.asV ?_|refine W.fldp ?_|refine W.nck ?_|refine W.u0 ?_
     refine W.mono (y1y_ p hn e2 (by omega)) fun r hr=>?_;obtain⟨y,τ1⟩:=r;obtain⟨L1,hy⟩:=hr;dsimp only at L1 hy⊢;rw[if_pos rfl]at hy;have hyu:=hy.up
     repeat' with_reducible first|refine W.bind ?_|refine W.len (by assumption) ?_
     refine W.mono (P:=fun r=>∃T',Hop (only 23) σ T r.2 T'/\PropH r.2 T' lp h s/\ShH s r.2 T' lp ls l1 l3 IN/\(r.1=true->∀x∈c,x≠l->(x.natAbs:Int)∈IN\/Fol s IN (x.natAbs:Int))) ?_ fun r hr=>?_
     ·refine W.loop c.length (fun i (z:Bool×Int) τ=>z=(true,(i:Int))/\∃T',Hop (only 23) σ T τ T'/\PropH τ T' lp h s/\SlV .int (τ.at T' 0) c y/\ShH s τ T' lp ls l1 l3 IN/\∀(j:Nat) x,j<i->c[j]?=some x->x≠l->(x.natAbs:Int)∈IN\/Fol s IN (x.natAbs:Int)) ⟨by simp,T,Hop.of hn L1,p.hle L1,hy,ShH.hle ⟨k1,⟨ps,k2,k3⟩,qs,k4,k5⟩ L1,fun j x hj=>by omega⟩ fun k z τ2 hk2 hI=>?_
      obtain⟨rfl,T2,H2,p2,hy2,S2,hall⟩:=hI;have w:IntKind.i64.wrap ((k:Int)+1)=((k+1:Nat):Int):=by rw[wrapS]<;>omega
      unfold S.z40.b0
      (with_reducible refine W.cnd (fun hlt=>?_) (fun hlt=>?_)<;>(try simp only[qq,Kd.ty]at hlt)<;>(try (exfalso;omega)))
      ·obtain⟨a,ha⟩:=y3_ (xs:=c) (i:=k) (by omega)
       have hac:=List.mem_of_getElem? ha;have haL:=hcL a hac;have hvar:a≠l->a.natAbs≠l.natAbs:=fun hne e=>by
        obtain⟨j,hj,hja⟩:=e4 a hac hne;have:=ht.abs (List.mem_of_getElem? hja) hlm (by rw[Int.natAbs_neg];exact e);subst this;have:=nd_ix ht.nd hja hl;omega
       have S2':=S2;obtain⟨k1,⟨ps,k2,k3⟩,qs,k4,k5⟩:=S2';have hy2u:=hy2.up
       repeat' with_reducible first|refine W.bind ?_|refine W.e2 ?_
       refine W.to (yq_ haL hn4) ?_
       repeat' with_reducible first|refine W.ret ?_|refine W.bind ?_
       refine W.mono (P:=fun r=>∃T',Hop (only 23) σ T r.2 T'/\PropH r.2 T' lp h s/\SlV .int (r.2.at T' 0) c y/\ShH s r.2 T' lp ls l1 l3 IN/\(r.1=false->a≠l->(a.natAbs:Int)∈IN\/Fol s IN (a.natAbs:Int))) ?_ fun r hr=>?_
       ·by_cases e:a=l
        ·refine W.condF (by simp[e]) ?_
         repeat' with_reducible refine W.ret ?_
         exact⟨T2,H2,p2,hy2,S2,fun _ q=>absurd e q⟩
        ·refine W.condT (by have:=hvar e;simp;omega) ?_
         repeat' with_reducible first|refine W.asV ?_|refine W.fldp ?_|refine W.nck ?_|refine W.u0 ?_|refine W.mgetT (by assumption) ?_
         rw[k3];by_cases e2:(a.natAbs:Int)∈IN
         ·rw[if_pos e2]
          skip
          refine W.ret ?_;exact⟨T2,H2,p2,hy2,S2,fun _ _=>.inl e2⟩
         ·rw[if_neg e2]
          skip
          obtain⟨j,hj,hja⟩:=e4 a hac e;have hrec:=ih j p2 S2 H2.tn hja (by omega);rw[Int.natAbs_neg]at hrec;refine W.bind ?_;refine W.mono hrec fun r hr=>?_;obtain⟨b,τ3⟩:=r;obtain⟨T3,H3,S3,hb⟩:=hr;dsimp only at H3 S3 hb⊢
          repeat' with_reducible refine W.ret ?_
          exact⟨T3,H2.trans H3,p2.hopT1 H3,hy2.hop H3,S3,fun q _=>.inr (hb (by simpa using q))⟩
       ·obtain⟨b,τ3⟩:=r
        obtain⟨T3,H3,p3,hy3,S3,hb⟩:=hr;dsimp only at H3 p3 hy3 S3 hb⊢;cases b with
        |true=>
         refine W.condT rfl ?_
         repeat' (with_reducible refine W.stop ?_)
         exact⟨T3,H3,p3,S3,fun q=>by cases q⟩
        |false=>
         refine W.condF rfl ?_
         repeat' (with_reducible refine W.next ?_)
         refine⟨by omega,by rw[w],T3,H3,p3,hy3,S3,fun j x hj hx hne=>?_⟩;by_cases e:j=k
         ·subst e;rw[ha]at hx;cases hx;exact hb rfl hne
         ·exact hall j x (by omega) hx hne
      ·repeat' (with_reducible refine W.stop ?_)
       exact⟨T2,H2,p2,S2,fun _ x hx hne=>by
        obtain⟨j,hj⟩:=yb_ hx;exact hall j x (by have:=y2_ hj;omega) hj hne⟩
     ·obtain⟨b,τ2⟩:=r
      obtain⟨T2,H2,p2,S2,hb⟩:=hr;dsimp only at H2 p2 S2 hb⊢
      repeat' with_reducible refine W.ret ?_
      refine⟨T2,H2,p2,S2,fun q=>⟨i,l,hl,rfl,fun A hA=>.unit (y31_.2 ⟨id,g,e2⟩) e3 fun x hx hne=>?_⟩⟩;obtain⟨j,hj,hjx⟩:=e4 x hx hne;rcases hb q x hx hne with w|⟨i',l',g1,g2,g3⟩
      ·exact hA j _ hj hjx (by rw[Int.natAbs_neg];exact w)
      ·have:l' = -x:=ht.abs (List.mem_of_getElem? g1) (List.mem_of_getElem? hjx) (by rw[Int.natAbs_neg];omega)
       subst this;have:=nd_ix ht.nd g1 hjx;subst this;exact g3 A fun j' y hj' hy=>hA j' y (by omega) hy
   ·obtain⟨b,τ2⟩:=r
    obtain⟨T2,H2,p2,S2,hb⟩:=hr;dsimp only at H2 p2 S2 hb⊢;obtain⟨k1,⟨ps,k2,k3⟩,qs,k4,k5⟩:=S2
    repeat' with_reducible first|refine W.asV ?_|refine W.fldp ?_|refine W.nck ?_|refine W.u0 ?_
    refine W.mputT k4 H2.tn fun τ3 qs3 k4 hlk H3 _=>?_;replace k1:=k1.hop H3;replace k2:=k2.hop H3;replace hn:=H3.tn
    repeat' with_reducible refine W.ret ?_
    refine⟨T2,H2.trans H3,⟨k1,⟨ps,k2,k3⟩,qs3,k4,fun v=>?_⟩,hb⟩;rw[hlk];by_cases e:v=(l.natAbs:Int)
    ·rw[if_pos e];exact .inr ⟨b,rfl,fun q=>by rw[e];exact hb q⟩
    ·rw[if_neg e];exact k5 v
  ·rw[hk]
   dsimp only[Option.getD,Option.isSome]
   repeat' (with_reducible refine W.asB ?_)
   refine W.ret ?_;exact⟨T,Hop.refl hn,⟨k1,⟨ps,k2,k3⟩,qs,k4,k5⟩,hb⟩
theorem yft_(ht:TrI n s)(hci:ClI n s)(hn4:n<=4000){l:Int}(p:PropH σ T lp h s)(S1:ShH s σ T lp ls l1 l3 IN)(hn:Tn σ T)(hl:l∈s.trail) :
  W (S.z40 (.ptr ls 0) (l.natAbs:Int) σ) fun r=>∃T',Hop (only 23) σ T r.2 T'/\ShH s r.2 T' lp ls l1 l3 IN/\(r.1=true->Fol s IN (l.natAbs:Int)):=by
 obtain⟨i,hi⟩:=yb_ hl;unfold S.z40;exact W.lim (fun m=>ybo_ m _ _ _) (i+1) (ydu_ ht hci hn4 (i+1) i p S1 hn hi (by omega))
theorem Lrn.short{k:List Int}(L:Lrn n s c)(ht:TrI n s)(hd:k.head?=c.head?)(hs:k.Sublist c)(hf:∀x∈c,x∈k\/Fol s (c.map fun x=>(x.natAbs:Int)) (x.natAbs:Int)):Lrn n s k:=by
 obtain⟨u,t,e,h1,h2⟩:=L.hd;subst e;obtain⟨k',rfl⟩:∃k',k=u::k':=by
  cases k with
  |nil=>simp at hd
  |cons a k'=>simp at hd;exact⟨k',by rw[hd]⟩
 have hs':k'.Sublist t:=by
  cases hs with
  |cons _ h=>exact(List.sublist_cons_self u k').trans h
  |cons_cons _ h=>exact h
 have key:∀(i:Nat) y,s.trail[i]?=some y->(y.natAbs:Int)∈(u::t).map (fun x=>(x.natAbs:Int))->Der s.db (negs (u::k')) y:=by
  intro i
  induction i using Nat.strongRecOn with
  | ind i ih=>
   intro y hy hin;obtain⟨x,hx,e⟩:=List.mem_map.1 hin;have hxm:=(L.fs x hx).1;have hyx:y = -x:=ht.abs (List.mem_of_getElem? hy) hxm (by rw[Int.natAbs_neg];omega);rcases hf x hx with w|⟨i',l',g1,g2,g3⟩
   ·exact .start (by rw[hyx];exact List.mem_map.2 ⟨x,w,rfl⟩)
   ·have hly:l'=y:=ht.abs (List.mem_of_getElem? g1) (List.mem_of_getElem? hy) (by omega)
    subst hly;have:=nd_ix ht.nd g1 hy;subst this;exact g3 _ fun j z hj hz hzin=>ih j hj z hz hzin
 refine⟨⟨u,k',rfl,h1,fun x hx=>h2 x (hs'.mem hx)⟩,fun x hx=>L.fs x (hs.mem hx),L.nd.sublist (hs.map _),L.conf.cut fun y hy=>?_⟩;obtain⟨x,hx,rfl⟩:=List.mem_map.1 hy;obtain⟨i,hi⟩:=yb_ (L.fs x hx).1;exact key i _ hi (by rw[Int.natAbs_neg];exact List.mem_map.2 ⟨x,hx,rfl⟩)
theorem yf4_(p:PropH σ T lp h s)(hn:Tn σ T)(ht:TrI n s)(hci:ClI n s)(hn4:n<=4000)(L:Lrn n s c)(hc:SlV .int (σ.at T 0) c x) :
  W (S.z35 (.ptr lp 0) x σ) fun r=>∃T' k,Hop tI σ T r.2 T'/\SlV .int (r.2.at T' 0) k r.1/\Lrn n s k/\k.Sublist c:=by
 obtain⟨hcL,hcn⟩:=L.lits ht;unfold S.z35;refine W.newMT 17 hn fun l1 τ1 T1 _ H1 k17 _=>?_;have HH:Hop tI σ T τ1 T1:=(Hop.refl hn).inT H1;replace p:=p.hopT1 H1;replace hc:=hc.hop H1;replace hn:=H1.tn;refine W.newMT 23 hn fun l3 τ2 T2 _ H2 k23 _=>?_;replace HH:=HH.inT H2;replace p:=p.hopT1 H2;replace hc:=hc.hop H2;replace k17:=k17.hop H2;replace hn:=H2.tn
 repeat' (with_reducible refine W.scP ?_)
 refine W.newT 16 hn fun ls τ3 T3 hls H3 k16 hnτ3=>?_;replace HH:=HH.inT H3;replace p:=p.hopT1 H3;replace hc:=hc.hop H3;replace k17:=k17.hop H3;replace k23:=k23.hop H3;replace hn:=H3.tn;have hcu:=hc.up
 repeat' with_reducible first|refine W.bind ?_|refine W.len (by assumption) ?_
 refine W.mono (P:=fun r=>∃T',Hop tI σ T r.2 T'/\PropH r.2 T' lp h s/\SlV .int (r.2.at T' 0) c x/\ShH s r.2 T' lp ls l1 l3 (c.map fun x=>(x.natAbs:Int))) ?_ fun r hr=>?_
 ·refine W.loop c.length (fun i (z:Int) τ=>z=(i:Int)/\∃T' ps,Hop tI σ T τ T'/\PropH τ T' lp h s/\SlV .int (τ.at T' 0) c x/\Loc (τ.at T' 16) ls [.ptr lp 0,.map l1,.map l3]/\MapV (τ.at T' 17) l1 ps/\(∀v,look ps v=if v∈(c.take i).map (fun x=>(x.natAbs:Int))then some (.bool true)else none)/\MapV (τ.at T' 23) l3 []) ⟨rfl,T3,[],HH,p,hc,k16,k17,fun v=>by simp[look],k23⟩ fun i z τ4 hi hI=>?_
  obtain⟨rfl,T4,ps,HH,p,hc,k16,k17,lk,k23⟩:=hI;have w:IntKind.i64.wrap ((i:Int)+1)=((i+1:Nat):Int):=by rw[wrapS]<;>omega
  unfold S.z35.b0
  (with_reducible refine W.cnd (fun hlt=>?_) (fun hlt=>?_)<;>(try simp only[qq,Kd.ty]at hlt)<;>(try (exfalso;omega)))
  ·obtain⟨a,ha⟩:=y3_ (xs:=c) (i:=i) (by omega)
   have haL:=hcL a (List.mem_of_getElem? ha);have hcu:=hc.up
   repeat' with_reducible first|refine W.bind ?_|refine W.asV ?_|refine W.fldp ?_|refine W.e2 ?_|refine W.nck ?_|refine W.u0 ?_
   refine W.to (yq_ haL hn4) ?_
   repeat' with_reducible refine W.ret ?_
   refine W.mputT k17 HH.tn fun τ5 qs k17 hlk H5 _=>?_
   repeat' (with_reducible refine W.next ?_)
   refine⟨by omega,w,T4,qs,HH.inT H5,p.hopT1 H5,hc.hop H5,k16.hop H5,k17,fun v=>?_,k23.hop H5⟩;have htk:c.take (i+1)=c.take i++[a]:=by rw[List.take_add_one,ha];rfl
   rw[hlk,lk,htk,List.map_append];by_cases e:v=(a.natAbs:Int)
   ·rw[if_pos e,if_pos (by simp[e])]
   ·rw[if_neg e]
    by_cases e2:v∈(c.take i).map fun x=>(x.natAbs:Int)
    ·rw[if_pos e2,if_pos (List.mem_append.2 (.inl e2))]
    ·rw[if_neg e2,if_neg]
     intro q;rcases List.mem_append.1 q with q|q
     ·exact e2 q
     ·exact e (by simpa using q)
  ·repeat' (with_reducible refine W.stop ?_)
   rw[List.take_of_length_le (by omega)]at lk;exact⟨T4,HH,p,hc,k16,⟨ps,k17,lk⟩,[],k23,fun v=>.inl rfl⟩
 ·obtain⟨r,τ4⟩:=r
  obtain⟨T4,HH,p,hc,S4⟩:=hr;dsimp only at HH p hc S4⊢;have hcu:=hc.up
  repeat' with_reducible first|refine W.bind ?_|refine W.len (by assumption) ?_
  refine W.mono (P:=fun r=>∃T' k,Hop tI σ T r.2 T'/\Own .int (r.2.at T' 20) k r.1/\k.Sublist c/\k.head?=c.head?/\∀x∈c,x∈k\/Fol s (c.map fun x=>(x.natAbs:Int)) (x.natAbs:Int)) ?_ fun r hr=>?_
  ·refine W.loop c.length (fun i (z:AVal×Int) τ=>z.2=(i:Int)/\∃T' k,Hop tI σ T τ T'/\PropH τ T' lp h s/\SlV .int (τ.at T' 0) c x/\ShH s τ T' lp ls l1 l3 (c.map fun x=>(x.natAbs:Int))/\Own .int (τ.at T' 20) k z.1/\k.Sublist (c.take i)/\(0<i->k.head?=c.head?)/\∀(j:Nat) x,j<i->c[j]?=some x->x∈k\/Fol s (c.map fun x=>(x.natAbs:Int)) (x.natAbs:Int)) ⟨rfl,T4,[],HH,p,hc,S4,.nil,by simp,fun q=>by omega,fun j x hj=>by omega⟩ fun i z τ5 hi hI=>?_
   obtain⟨z,zi⟩:=z;obtain⟨hz,T5,k,HH,p,hc,S5,k20,hks,hkh,hall⟩:=hI;dsimp only at hz k20;subst hz;have w:IntKind.i64.wrap ((i:Int)+1)=((i+1:Nat):Int):=by rw[wrapS]<;>omega
   unfold S.z35.b1
   (with_reducible refine W.cnd (fun hlt=>?_) (fun hlt=>?_)<;>(try simp only[qq,Kd.ty]at hlt)<;>(try (exfalso;omega)))
   ·obtain⟨a,ha⟩:=y3_ (xs:=c) (i:=i) (by omega)
    have hac:=List.mem_of_getElem? ha;have haL:=hcL a hac;have hcu:=hc.up;have htk:c.take (i+1)=c.take i++[a]:=by rw[List.take_add_one,ha];rfl
    have hkl:=hks.length_le;simp at hkl
    repeat' with_reducible first|refine W.bind ?_|refine W.e2 ?_
    refine W.mono (P:=fun r=>∃T',Hop tI σ T r.2 T'/\PropH r.2 T' lp h s/\SlV .int (r.2.at T' 0) c x/\ShH s r.2 T' lp ls l1 l3 (c.map fun x=>(x.natAbs:Int))/\Own .int (r.2.at T' 20) k z/\(r.1=true->0<i/\Fol s (c.map fun x=>(x.natAbs:Int)) (a.natAbs:Int))) ?_ fun r hr=>?_
    ·(with_reducible refine W.cnd (fun hi0=>?_) (fun hi0=>?_)<;>(try simp only[qq,Kd.ty]at hi0)<;>(try (exfalso;omega)))
     ·repeat' (with_reducible refine W.bind ?_)
      refine W.to (yq_ haL hn4) ?_;refine W.ret ?_;show W _ _;have hf:=yft_ ht hci hn4 p S5 HH.tn (L.fs a hac).1;rw[Int.natAbs_neg]at hf;refine W.bind ?_;refine W.mono hf fun r hr=>?_;obtain⟨b,τ6⟩:=r;obtain⟨T6,H6,S6,hb⟩:=hr
      repeat' with_reducible refine W.ret ?_
      exact⟨T6,HH.inT H6,p.hopT1 H6,hc.hop H6,S6,k20.hop H6,fun q=>⟨by omega,hb q⟩⟩
     ·repeat' with_reducible refine W.ret ?_
      exact⟨T5,HH,p,hc,S5,k20,fun q=>by cases q⟩
    ·obtain⟨b,τ6⟩:=r
     obtain⟨T6,HH,p,hc,S6,k20,hb⟩:=hr;dsimp only at HH p hc S6 k20 hb⊢;cases b with
     |true=>
      obtain⟨hi0,hF⟩:=hb rfl;refine W.condT rfl ?_
      repeat' with_reducible first|refine W.next ?_|refine W.ret ?_
      refine⟨by omega,w,T6,k,HH,p,hc,S6,k20,by rw[htk];exact hks.trans (List.sublist_append_left _ _),fun _=>hkh hi0,fun j x hj hx=>?_⟩;by_cases e:j=i
      ·subst e;rw[ha]at hx;cases hx;exact .inr hF
      ·exact hall j x (by omega) hx
     | false=>
      refine W.condF rfl ?_;refine W.own_push (bytes:=8) Vw.int_flat k20 HH.tn (a:=a) rfl (by omega) (by omega) fun x2 τ7 T7 k20 H7=>?_
      repeat' with_reducible first|refine W.next ?_|refine W.ret ?_
      refine⟨by omega,w,T7,k++[a],HH.inT H7,p.hopT1 H7,hc.hop H7,S6.hop H7,k20,by rw[htk];exact List.Sublist.append hks (List.Sublist.refl _),fun _=>?_,fun j x hj hx=>?_⟩
      ·by_cases hi0:0<i
       ·have:=hkh hi0
        cases k with
        |nil=>
         cases c with
         |nil=>simp at ha
         |cons u t=>simp at this
        |cons u t=>simpa using this
       ·have:i=0:=by omega
        subst this;have:k=[]:=by simpa using hks
        subst this;cases c with
        |nil=>simp at ha
        |cons u t=>simp at ha;simp[ha]
      ·by_cases e:j=i
       ·subst e;rw[ha]at hx;cases hx;left;simp
       ·rcases hall j x (by omega) hx with w|w
        ·left;simp[w]
        ·exact .inr w
   ·repeat' (with_reducible refine W.stop ?_)
    have:i=c.length:=by omega
    subst this;rw[List.take_length]at hks;refine⟨T5,k,HH,k20,hks,hkh ?_,fun y hy=>?_⟩
    ·obtain⟨u,t,e,_⟩:=L.hd
     rw[e];simp
    ·obtain⟨j,hj⟩:=yb_ hy
     exact hall j y (y2_ hj) hj
  ·obtain⟨z,τ5⟩:=r
   obtain⟨T5,k,HH,k20,g1,g2,g3⟩:=hr;dsimp only at HH k20⊢;obtain⟨T6,H6,k0⟩:=k20.retag (u:=0) Vw.int_flat HH.tn
   repeat' with_reducible refine W.ret ?_
   exact⟨T6,k,HH.inT H6,k0.sl,L.short ht g2 g1 g3,g1⟩
end
end
section
open Go
section
variable{σ τ:Heap}{T T':Tg}{lp n t:Nat}{h:PH}{s:PS}{l:Int}{x:AVal}{k:List Int}
theorem yg9_(hO:Own .int (σ.at T t) k x)(hn:Tn σ T)(hl:k.length<=1000000):W (S.z133 x σ) fun r=>∃k',k'.Perm k/\Own .int (r.2.at T t) k' x/\Hop (only t) σ T r.2 T:=by
 have w0:IntKind.i64.wrap ((k.length:Int)-1)=(k.length:Int)-1:=by rw[wrapS]<;>omega
 unfold S.z133
 repeat' with_reducible first|refine W.bind ?_|refine W.u3 ?_
 rw[w0];refine W.mono (P:=fun r=>∃k',k'.Perm k/\Own .int (r.2.at T t) k' x/\Hop (only t) σ T r.2 T) ?_ fun r hr=>W.ret hr;refine W.loop k.length (fun i (z:Int×Int) τ=>z=((i:Int),(k.length:Int)-1-i)/\∃k',k'.Perm k/\Own .int (τ.at T t) k' x/\Hop (only t) σ T τ T) ⟨by simp,k,.refl _,hO,Hop.refl hn⟩ fun i z τ hi hI=>?_;obtain⟨rfl,k',hp,hO,H⟩:=hI;have hlen:=hp.length_eq;unfold S.z133.b0
 (with_reducible refine W.cnd (fun hlt=>?_) (fun hlt=>?_)<;>(try simp only[qq,Kd.ty]at hlt)<;>(try (exfalso;omega)))
 ·obtain⟨a,ha⟩:=y3_ (xs:=k') (i:=i) (by omega)
  obtain⟨j,hj⟩:∃j:Nat,(k.length:Int)-1-i=j:=⟨k.length-1-i,by omega⟩;rw[hj]at hlt⊢;obtain⟨d,hd⟩:=y3_ (xs:=k') (i:=j) (by omega);have w1:IntKind.i64.wrap ((i:Int)+1)=((i+1:Nat):Int):=by rw[wrapS]<;>omega
  have w2:IntKind.i64.wrap ((j:Int)-1)=(k.length:Int)-1-((i+1:Nat):Int):=by rw[wrapS]<;>omega
  have hOs:=hO.slT
  repeat' (with_reducible refine W.e2 ?_)
  refine W.ixO hO.slT (i:=i) (by omega) ?_;refine W.own_setI hO H.tn (by omega) fun τ1 hO1 H1 _=>?_;refine W.ixO hO1.slT (i:=j) (by simp;omega) ?_;refine W.own_setI hO1 H1.tn (by simp;omega) fun τ2 hO2 H2 _=>?_
  repeat' (with_reducible refine W.next ?_)
  refine⟨by omega,by rw[w1,w2],swapL k' i j,(y17_ (by omega) (by omega)).trans hp,?_,(H.trans H1).trans H2⟩;have e:(k'.set i d).set j a=swapL k' i j:=by
   unfold swapL;rw[List.getD_eq_getElem?_getD,List.getD_eq_getElem?_getD,ha,hd];rfl
  rw[<-e];exact hO2
 ·repeat' (with_reducible refine W.stop ?_)
  exact⟨k',hp,hO,H⟩
def FImp(s:PS)(m:Nat)(sn ds:List Int)(l:Int):Prop:=∀A,(∀d∈ds,Der s.db A d)->(∀(j:Nat) y,j<m->s.trail[j]?=some y->(y.natAbs:Int)∈sn->Der s.db A y)->Der s.db A (-l)
theorem yjf_(p:PropH σ T lp h s)(hn:Tn σ T)(ht:TrI n s)(hci:ClI n s)(hn4:n<=4000)(hl:isL l n=true)(hf:val s.vs l=2) :
  W (S.z32 (.ptr lp 0) l σ) fun r=>∃T' ds,Hop tI σ T r.2 T'/\Own .int (r.2.at T' 20) ds r.1/\(∀d∈ds,d∈s.trail/\s.re d = -1)/\Der s.db ds (-l)/\ds.length<=n:=by
 have hlT:=ht.lenT;have hlm:=ht.neg.1 hf;unfold S.z32;refine W.bind ?_;refine W.to (y1w_ p ht hn4 hl) ?_;refine W.ret ?_;show W _ _;refine W.condF (by simp[hf]) ?_;refine W.newMT 17 hn fun lm τ1 T1 _ H1 k17 _=>?_;have HH:Hop tI σ T τ1 T1:=(Hop.refl hn).inT H1;replace p:=p.hopT1 H1;refine W.bind ?_;refine W.to (yq_ hl hn4) ?_;refine W.ret ?_;show W _ _;refine W.mputT k17 HH.tn fun τ2 ps k17 hlk H2 _=>?_;replace HH:=HH.inT H2;replace p:=p.hopT1 H2;refine W.bind ?_;refine W.mono (yd0_ p HH.tn ht hn4) fun r hr=>?_;obtain⟨zt,τ3⟩:=r;obtain⟨L3,hzt⟩:=hr;dsimp only at L3 hzt⊢;replace HH:=HH.hle L3;replace p:=p.hle L3;replace k17:=k17.hle L3;have w0:IntKind.i64.wrap ((s.trail.length:Int)-1)=(s.trail.length:Int)-1:=by rw[wrapS]<;>omega
 refine W.len hzt.up ?_;rw[w0];refine W.bind ?_;refine W.mono (P:=fun r=>∃T' sn ds,Hop tI σ T r.2 T'/\Own .int (r.2.at T' 20) ds r.1/\(∀d∈ds,d∈s.trail/\s.re d = -1)/\FImp s 0 sn ds l/\ds.length<=n) ?_ fun r hr=>?_
 ·refine W.loopI (m:=s.trail.length) (fun m (z:AVal×Int) τ=>∃(T':Tg) (ps:List (Int×AVal)) (sn ds:List Int),z.2=(m:Int)-1/\m<=s.trail.length/\Hop tI σ T τ T'/\PropH τ T' lp h s/\SlV .int (τ.at T' 0) s.trail zt/\MapV (τ.at T' 17) lm ps/\(∀v,look ps v=if v∈sn then some (.bool true)else none)/\Own .int (τ.at T' 20) ds z.1/\(∀d∈ds,d∈s.trail/\s.re d = -1)/\FImp s m sn ds l/\ds.length+m<=s.trail.length)
   ⟨T1,ps,[(l.natAbs:Int)],[],rfl,Nat.le_refl _,HH,p,hzt,k17,fun v=>by rw[hlk];simp[look],.nil,(fun d hd=>by cases hd),fun A _ hA=>?_,by simp⟩ fun m z τ4 hI=>?_
  ·obtain⟨j,hj⟩:=yb_ hlm
   exact hA j _ (y2_ hj) hj (by rw[Int.natAbs_neg];simp)
  obtain⟨z,zi⟩:=z;obtain⟨T4,ps,sn,ds,hz,hmt,HH,p,hzt,k17,lk,k20,hds,hF,hdl⟩:=hI;dsimp only at hz k20⊢;subst hz;unfold S.z32.b1;cases m with
  |zero=>
   refine W.condF (by simp) ?_
   repeat' (with_reducible refine W.stop ?_)
   exact⟨T4,sn,ds,HH,k20,hds,hF,by omega⟩
  | succ i=>
   rw[show((i+1:Nat):Int)-1=(i:Int) by omega];refine W.condT (by simp) ?_;obtain⟨y,hy⟩:=y3_ (xs:=s.trail) (i:=i) (by omega);have hym:=List.mem_of_getElem? hy;have hyL:=ht.rng y hym;have wi:IntKind.i64.wrap ((i:Int)-1)=(i:Int)-1:=by rw[wrapS]<;>omega
   have hztu:=hzt.up
   repeat' with_reducible first|refine W.bind ?_|refine W.e2 ?_
   refine W.to (yq_ hyL hn4) ?_
   repeat' with_reducible first|refine W.ret ?_|refine W.bind ?_|refine W.mgetT (by assumption) ?_
   refine W.mono (P:=fun r=>r=(decide ((y.natAbs:Int)∉sn\/s.lv y=0),τ4)) ?_ fun r hr=>?_
   ·rw[lk]
    by_cases e2:(y.natAbs:Int)∈sn
    ·rw[if_pos e2]
     skip
     refine W.bind ?_;refine W.to (y2u_ p ht hyL) ?_
     repeat' with_reducible refine W.ret ?_
     by_cases e3:s.lv y=0<;>simp[e2,e3]
    ·rw[if_neg e2]
     skip
     refine W.ret ?_;simp[e2]
   subst hr;by_cases hq:(y.natAbs:Int)∉sn\/s.lv y=0
   ·refine W.condT (decide_eq_true hq) ?_
    repeat' with_reducible first|refine W.next ?_|refine W.ret ?_
    refine⟨i,by omega,T4,ps,sn,ds,wi,by omega,HH,p,hzt,k17,lk,k20,hds,fun A h1 h2=>hF A h1 fun j w hj hw hwin=>?_,by omega⟩;by_cases e:j=i
    ·subst e;rw[hy]at hw;cases hw
     rcases hq with q|q
     ·exact absurd hwin q
     ·exact ht.der0 j _ hy q
    ·exact h2 j w (by omega) hw hwin
   ·have hin:(y.natAbs:Int)∈sn:=Decidable.byContradiction fun q=>hq (.inl q)
    refine W.condF (decide_eq_false hq) ?_;refine W.bind ?_;refine W.to (y6p_ p ht hyL) ?_;refine W.ret ?_;show W _ _;rcases ht.rs i y hy with ⟨e,_⟩|⟨id,c,g,e1,e2,e3,e4⟩
    ·rw[e]
     refine W.condT (by decide) ?_
     repeat' (with_reducible refine W.e2 ?_)
     refine W.own_push (bytes:=8) Vw.int_flat k20 HH.tn (a:=y) rfl (by omega) (by omega) fun x2 τ5 T5 k20 H5=>?_
     repeat' with_reducible first|refine W.next ?_|refine W.ret ?_
     refine⟨i,by omega,T5,ps,sn,ds++[y],wi,by omega,HH.inT H5,p.hopT1 H5,hzt.hop H5,k17.hop H5,lk,k20,fun d hd=>?_,fun A h1 h2=>hF A (fun d hd=>h1 d (by simp[hd])) fun j w hj hw hwin=>?_,by simp;omega⟩
     ·rcases List.mem_append.1 hd with q|q
      ·exact hds d q
      ·rw[List.mem_singleton.1 q];exact⟨hym,e⟩
     ·by_cases e:j=i
      ·subst e;rw[hy]at hw;cases hw;exact h1 _ (by simp)
      ·exact h2 j w (by omega) hw hwin
    ·rw[e1]
     have hcn:=hci.len e2;have hcL:=(hci id c g e2).1;refine W.condF (by simp) ?_;refine W.bind ?_;refine W.mono (y1y_ p HH.tn e2 (by omega)) fun r hr=>?_;obtain⟨yc,τ5⟩:=r;obtain⟨L5,hyc⟩:=hr;dsimp only at L5 hyc⊢;rw[if_pos rfl]at hyc;replace HH:=HH.hle L5;replace p:=p.hle L5;replace hzt:=hzt.hle L5;replace k17:=k17.hle L5;replace k20:=k20.hle L5;refine W.len hyc.up ?_;refine W.bind ?_;refine W.mono (P:=fun r=>∃ps,Hop (only 17) τ5 T4 r.2 T4/\MapV (r.2.at T4 17) lm ps/\∀v,look ps v=if v∈sn++c.map (fun x=>(x.natAbs:Int))then some (.bool true)else none) ?_ fun r hr=>?_
     ·refine W.loop c.length (fun k (z:Int) τ=>z=(k:Int)/\∃ps,Hop (only 17) τ5 T4 τ T4/\SlV .int (τ.at T4 0) c yc/\MapV (τ.at T4 17) lm ps/\∀v,look ps v=if v∈sn++(c.take k).map (fun x=>(x.natAbs:Int))then some (.bool true)else none) ⟨rfl,ps,Hop.refl HH.tn,hyc,k17,fun v=>by rw[lk];simp⟩ fun k z τ6 hk hI=>?_
      obtain⟨rfl,ps,H6,hyc,k17,lk⟩:=hI;have w:IntKind.i64.wrap ((k:Int)+1)=((k+1:Nat):Int):=by rw[wrapS]<;>omega
      unfold S.z32.b0
      (with_reducible refine W.cnd (fun hlt=>?_) (fun hlt=>?_)<;>(try simp only[qq,Kd.ty]at hlt)<;>(try (exfalso;omega)))
      ·obtain⟨a,ha⟩:=y3_ (xs:=c) (i:=k) (by omega)
       have haL:=hcL a (List.mem_of_getElem? ha);have hycu:=hyc.up
       repeat' with_reducible first|refine W.bind ?_|refine W.e2 ?_
       refine W.to (yq_ haL hn4) ?_
       repeat' with_reducible refine W.ret ?_
       refine W.mputT k17 H6.tn fun τ7 qs k17 hlk H7 _=>?_
       repeat' (with_reducible refine W.next ?_)
       refine⟨by omega,w,qs,H6.trans H7,hyc.hop H7,k17,fun v=>?_⟩;have htk:c.take (k+1)=c.take k++[a]:=by rw[List.take_add_one,ha];rfl
       rw[hlk,lk,htk,List.map_append,<-List.append_assoc];by_cases e:v=(a.natAbs:Int)
       ·rw[if_pos e,if_pos (by simp[e])]
       ·rw[if_neg e]
        by_cases e2:v∈sn++(c.take k).map fun x=>(x.natAbs:Int)
        ·rw[if_pos e2,if_pos (List.mem_append.2 (.inl e2))]
        ·rw[if_neg e2,if_neg]
         intro q;rcases List.mem_append.1 q with q|q
         ·exact e2 q
         ·exact e (by simpa using q)
      ·repeat' (with_reducible refine W.stop ?_)
       rw[List.take_of_length_le (by omega)]at lk;exact⟨ps,H6,k17,lk⟩
     ·obtain⟨r,τ6⟩:=r
      obtain⟨qs,H6,k17,lk⟩:=hr;dsimp only at H6 k17⊢
      repeat' with_reducible first|refine W.next ?_|refine W.ret ?_
      refine⟨i,by omega,T4,qs,_,ds,wi,by omega,HH.inT H6,p.hopT1 H6,hzt.hop H6,k17,lk,k20.hop H6,hds,fun A h1 h2=>hF A h1 fun j w hj hw hwin=>?_,by omega⟩;by_cases e:j=i
      ·subst e;rw[hy]at hw;cases hw
       refine .unit (y31_.2 ⟨id,g,e2⟩) e3 fun x hx hne=>?_;obtain⟨j',hj',hjx⟩:=e4 x hx hne;exact h2 j' _ hj' hjx (by rw[Int.natAbs_neg];exact List.mem_append.2 (.inr (List.mem_map.2 ⟨x,hx,rfl⟩)))
      ·exact h2 j w (by omega) hw (by simp[hwin])
 ·obtain⟨z,τ4⟩:=r
  obtain⟨T4,sn,ds,HH,k20,hds,hF,hdl⟩:=hr;dsimp only at HH k20⊢;refine W.bind ?_;refine W.mono (yg9_ k20 HH.tn (by omega)) fun r hr=>?_;obtain⟨r,τ5⟩:=r;obtain⟨k',hp,k20,H5⟩:=hr
  repeat' with_reducible refine W.ret ?_
  refine⟨T4,k',HH.inT H5,k20,fun d hd=>hds d (hp.mem_iff.1 hd),?_,by rw[hp.length_eq];exact hdl⟩;exact hF _ (fun d hd=>.start (hp.mem_iff.2 hd)) fun j w hj=>by omega
end
end
section
open Go
section
variable{σ τ:Heap}{T T':Tg}{lh k v:Nat}{xs xp xh:AVal}{sc pl hs:List Int}
theorem y4q_{xs:List Int}{i:Nat}{a:Int}(h:xs[i]?=some a):xs.set i a=xs:=by
 obtain⟨h1,h2⟩:=List.getElem?_eq_some_iff.1 h;rw[<-h2,List.set_getElem_self]
theorem HW.same(H:HW sc pl hs)(hk:hs[k]?=some (v:Int))(hv:v<sc.length):pl.set v ((k:Int)+1)=pl:=by
 have h1:=(H.at_ v k hv).2 hk;have hl:=H.len;refine y4q_ ?_;rw[List.getD_eq_getElem?_getD,List.getElem?_eq_getElem (by omega)]at h1;rw[List.getElem?_eq_getElem (by omega)];exact congrArg some h1
theorem HW.nat(H:HW sc pl hs){x:Int}(hk:hs[k]?=some x):∃v:Nat,x=v/\v<sc.length:=by
 have:=H.rng k x hk;exact⟨x.toNat,by omega,by omega⟩
theorem yb9_{q w:Nat}(hk:k<hs.length)(hq:q<hs.length)(hne:q≠k)(hw:hs[q]?=some (w:Int)):((hs.set k (w:Int)).set q (v:Int)).Perm (hs.set k (v:Int)):=by
 have h1:swapL (hs.set k (v:Int)) k q=(hs.set k (w:Int)).set q (v:Int):=by
  unfold swapL;rw[yg_ hk,yg_ hk,if_neg (fun e=>hne e.symm),if_pos rfl,List.set_set];rw[List.getD_eq_getElem?_getD,hw];rfl
 rw[<-h1];exact y17_ (by simpa using hk) (by simpa using hq)
theorem tdiv2(j:Nat):Int.tdiv (j:Int) 2=((j / 2:Nat):Int):=rfl
theorem y8g_(p:HeapH σ T lh xs xp xh sc pl hs)(hn:Tn σ T)(hv:hs[k]?=some (v:Int))(hvl:v<sc.length)(H:HW sc (pl.set v ((k:Int)+1)) hs)(hpl:pl.length=sc.length)(hb:hs.length<=100000) :
  W (S.z28 (.ptr lh 0) (k:Int) σ) fun r=>∃pl' hs',Hop hI σ T r.2 T/\HeapH r.2 T lh xs xp xh sc pl' hs'/\HW sc pl' hs'/\hs'.Perm hs:=by
 have hk:=y2_ hv;have p0:=p;obtain⟨k1,k2,k3,k4⟩:=p;unfold S.z28
 repeat' with_reducible first|refine W.bind ?_|refine W.asV ?_|refine W.fldp ?_|refine W.nck ?_|refine W.u0 ?_|refine W.u2 ?_
 refine W.mono (P:=fun r=>∃(k':Nat) (pl1 hs1:List Int),r.1=(k':Int)/\k'<hs1.length/\hs1.length=hs.length/\Hop hI σ T r.2 T/\HeapH r.2 T lh xs xp xh sc pl1 hs1/\pl1.length=sc.length/\HW sc (pl1.set v ((k':Int)+1)) (hs1.set k' (v:Int))/\(hs1.set k' (v:Int)).Perm hs) ?_ fun r hr=>?_
 ·refine W.loopI (m:=k) (fun m (x:Int) τ=>∃(pl1 hs1:List Int),x=(m:Int)/\m<hs1.length/\hs1.length=hs.length/\Hop hI σ T τ T/\HeapH τ T lh xs xp xh sc pl1 hs1/\pl1.length=sc.length/\HW sc (pl1.set v ((m:Int)+1)) (hs1.set m (v:Int))/\(hs1.set m (v:Int)).Perm hs) ⟨pl,hs,rfl,hk,rfl,Hop.refl hn,p0,hpl,by rw[y4q_ hv];exact H,by rw[y4q_ hv]⟩ fun m x τ hI=>?_
  obtain⟨pl1,hs1,rfl,hm,hle,HH,p1,hpl1,H1,hperm⟩:=hI;unfold S.z28.b0;have done:∀(hh:True),W (some ((.inr (m:Int):Int⊕Int),τ)) (LQ (fun(x':Int) σ'=>∃m',m'<m/\∃(pl1 hs1:List Int),x'=(m':Int)/\m'<hs1.length/\hs1.length=hs.length/\Hop hI σ T σ' T/\HeapH σ' T lh xs xp xh sc pl1 hs1/\pl1.length=sc.length/\HW sc (pl1.set v ((m':Int)+1)) (hs1.set m' (v:Int))/\(hs1.set m' (v:Int)).Perm hs)
    (fun r:Int×Heap=>∃(k':Nat) (pl1 hs1:List Int),r.1=(k':Int)/\k'<hs1.length/\hs1.length=hs.length/\Hop hI σ T r.2 T/\HeapH r.2 T lh xs xp xh sc pl1 hs1/\pl1.length=sc.length/\HW sc (pl1.set v ((k':Int)+1)) (hs1.set k' (v:Int))/\(hs1.set k' (v:Int)).Perm hs)):=fun _=>W.stop ⟨m,pl1,hs1,rfl,hm,hle,HH,p1,hpl1,H1,hperm⟩
  refine W.bind ?_;cases m with
  |zero=>
   refine W.condF (by simp) ?_;refine W.ret ?_;show W _ _;refine W.condF rfl ?_;exact done trivial
  | succ j=>
   have w1:IntKind.i64.wrap (((j+1:Nat):Int)-1)=(j:Int):=by rw[wrapS]<;>omega
   have w2:IntKind.i64.wrap (Int.tdiv (j:Int) 2)=((j / 2:Nat):Int):=by rw[tdiv2,wrapS]<;>omega
   rw[w1,w2];refine W.condT (by simp) ?_;obtain⟨a,ha⟩:=y3_ (xs:=hs1) (i:=j / 2) (by omega);have hne:j / 2≠j+1:=by omega
   obtain⟨w,rfl,hw⟩:=H1.nat (k:=j / 2) (x:=a) (by rw[yr_ hm,if_neg (fun e=>hne e.symm)];exact ha);have p1':=p1;obtain⟨k1,k2,k3,k4⟩:=p1'
   repeat' with_reducible first|refine W.bind ?_|refine W.asV ?_|refine W.fldp ?_|refine W.nck ?_|refine W.u0 ?_|refine W.u2 ?_
   refine W.mono (y59_ p1 hvl hw) fun b _=>?_;refine W.ret ?_;show W _ _;cases b with
   |false=>
    refine W.condF rfl ?_;exact done trivial
   |true=>
    refine W.condT rfl ?_
    repeat' with_reducible first|refine W.bind ?_|refine W.asV ?_|refine W.fldp ?_|refine W.nck ?_|refine W.u0 ?_|refine W.u2 ?_
    refine W.mono (y3l_ p1 HH.tn (k:=j+1) (v:=w) hm (by omega) (by omega)) fun r hr=>?_;obtain⟨r,τ2⟩:=r;obtain⟨H2,p2⟩:=hr;dsimp only at H2 p2⊢
    repeat' (with_reducible refine W.next ?_)
    obtain⟨g1,g2,g3⟩:=HW.swap (q:=j / 2) hpl1 hvl hm (by omega) hne ha H1;exact⟨j / 2,by omega,_,_,rfl,by simp;omega,by simp[hle],HH.trans H2,p2,by simp[hpl1],g3,(yb9_ hm (by omega) hne ha).trans hperm⟩
 ·obtain⟨r,τ1⟩:=r
  obtain⟨k',pl1,hs1,e,hm,hle,HH,p1,hpl1,H1,hperm⟩:=hr;dsimp only at e HH p1⊢;subst e;refine W.bind ?_;refine W.mono (y3l_ p1 HH.tn (k:=k') (v:=v) hm (by omega) (by omega)) fun r hr=>?_;obtain⟨r,τ2⟩:=r;obtain⟨H2,p2⟩:=hr
  repeat' with_reducible refine W.ret ?_
  exact⟨_,_,HH.trans H2,p2,H1,hperm⟩
theorem y5s_(p:HeapH σ T lh xs xp xh sc pl hs)(hn:Tn σ T)(hv:hs[k]?=some (v:Int))(hvl:v<sc.length)(H:HW sc (pl.set v ((k:Int)+1)) hs)(hpl:pl.length=sc.length)(hb:hs.length<=100000) :
  W (S.z24 (.ptr lh 0) (k:Int) σ) fun r=>∃pl' hs',Hop hI σ T r.2 T/\HeapH r.2 T lh xs xp xh sc pl' hs'/\HW sc pl' hs'/\hs'.Perm hs:=by
 have hk:=y2_ hv;have p0:=p;obtain⟨k1,k2,k3,k4⟩:=p;unfold S.z24
 repeat' with_reducible first|refine W.bind ?_|refine W.asV ?_|refine W.fldp ?_|refine W.nck ?_|refine W.u0 ?_|refine W.u2 ?_
 refine W.mono (P:=fun r=>∃(k':Nat) (pl1 hs1:List Int),r.1=(k':Int)/\k'<hs1.length/\hs1.length=hs.length/\Hop hI σ T r.2 T/\HeapH r.2 T lh xs xp xh sc pl1 hs1/\pl1.length=sc.length/\HW sc (pl1.set v ((k':Int)+1)) (hs1.set k' (v:Int))/\(hs1.set k' (v:Int)).Perm hs) ?_ fun r hr=>?_
 ·refine W.loopI (m:=hs.length-k) (fun m (x:Int) τ=>∃(k':Nat) (pl1 hs1:List Int),x=(k':Int)/\m=hs.length-k'/\k'<hs1.length/\hs1.length=hs.length/\Hop hI σ T τ T/\HeapH τ T lh xs xp xh sc pl1 hs1/\pl1.length=sc.length/\HW sc (pl1.set v ((k':Int)+1)) (hs1.set k' (v:Int))/\(hs1.set k' (v:Int)).Perm hs) ⟨k,pl,hs,rfl,rfl,hk,rfl,Hop.refl hn,p0,hpl,by rw[y4q_ hv];exact H,by rw[y4q_ hv]⟩ fun m x τ hI=>?_
  obtain⟨k',pl1,hs1,rfl,hmm,hm,hle,HH,p1,hpl1,H1,hperm⟩:=hI;have p1':=p1;obtain⟨k1,k2,k3,k4⟩:=p1';have w1:IntKind.i64.wrap (2*(k':Int))=((2*k':Nat):Int):=by rw[wrapS]<;>omega
  have w2:IntKind.i64.wrap (((2*k':Nat):Int)+1)=((2*k'+1:Nat):Int):=by rw[wrapS]<;>omega
  have w3:IntKind.i64.wrap (((2*k'+1:Nat):Int)+1)=((2*k'+2:Nat):Int):=by rw[wrapS]<;>omega
  unfold S.z24.b0;rw[w1,w2,w3];have hel:∀(j:Nat) a,j≠k'->hs1[j]?=some a->∃w:Nat,a=w/\w<sc.length:=fun j a hne ha=>H1.nat (k:=j) (x:=a) (by rw[yr_ hm,if_neg (fun e=>hne e.symm)];exact ha);refine W.bind ?_;refine W.mono (P:=fun b=>b=true->2*k'+2<hs1.length) ?_ fun b hb1=>?_
  ·repeat' with_reducible first|refine W.asV ?_|refine W.fldp ?_|refine W.nck ?_|refine W.u0 ?_|refine W.u3 ?_
   (with_reducible refine W.cnd (fun hc=>?_) (fun hc=>?_)<;>(try simp only[qq,Kd.ty]at hc)<;>(try (exfalso;omega)))
   ·obtain⟨a,ha⟩:=y3_ (xs:=hs1) (i:=2*k'+2) (by omega)
    obtain⟨d,hd⟩:=y3_ (xs:=hs1) (i:=2*k'+1) (by omega);obtain⟨wa,rfl,hwa⟩:=hel _ _ (by omega) ha;obtain⟨wd,rfl,hwd⟩:=hel _ _ (by omega) hd
    repeat' with_reducible first|refine W.bind ?_|refine W.asV ?_|refine W.fldp ?_|refine W.nck ?_|refine W.u0 ?_|refine W.u2 ?_
    refine W.mono (y59_ p1 hwa hwd) fun b _=>?_
    repeat' with_reducible refine W.ret ?_
    omega
   ·repeat' with_reducible refine W.ret ?_
    simp
  ·refine W.bind ?_
   refine W.mono (P:=fun c=>∃j:Nat,c=(j:Int)/\(j=2*k'+1\/(j=2*k'+2/\j<hs1.length))) ?_ fun c hc=>?_
   ·cases b with
    |true=>
     refine W.condT rfl ?_
     repeat' with_reducible refine W.ret ?_
     exact⟨_,rfl,.inr ⟨rfl,hb1 rfl⟩⟩
    |false=>
     refine W.condF rfl ?_
     repeat' with_reducible refine W.ret ?_
     exact⟨_,rfl,.inl rfl⟩
   ·obtain⟨j,rfl,hj⟩:=hc
    refine W.bind ?_;refine W.mono (P:=fun b=>b=false->j<hs1.length) ?_ fun b hb2=>?_
    ·repeat' with_reducible first|refine W.asV ?_|refine W.fldp ?_|refine W.nck ?_|refine W.u0 ?_|refine W.u3 ?_
     (with_reducible refine W.cnd (fun hc=>?_) (fun hc=>?_)<;>(try simp only[qq,Kd.ty]at hc)<;>(try (exfalso;omega)))
     ·repeat' with_reducible refine W.ret ?_
      simp
     ·obtain⟨a,ha⟩:=y3_ (xs:=hs1) (i:=j) (by omega)
      obtain⟨wa,rfl,hwa⟩:=hel _ _ (by omega) ha
      repeat' with_reducible first|refine W.bind ?_|refine W.asV ?_|refine W.fldp ?_|refine W.nck ?_|refine W.u0 ?_|refine W.u2 ?_
      refine W.mono (y59_ p1 hwa hvl) fun b _=>?_
      repeat' with_reducible refine W.ret ?_
      omega
    ·cases b with
     |true=>
      refine W.condT rfl ?_;exact W.stop ⟨k',pl1,hs1,rfl,hm,hle,HH,p1,hpl1,H1,hperm⟩
     |false=>
      have hjl:=hb2 rfl;obtain⟨a,ha⟩:=y3_ (xs:=hs1) (i:=j) hjl;obtain⟨w,rfl,hw⟩:=hel _ _ (by omega) ha;refine W.condF rfl ?_
      repeat' with_reducible first|refine W.bind ?_|refine W.asV ?_|refine W.fldp ?_|refine W.nck ?_|refine W.u0 ?_|refine W.u2 ?_
      refine W.mono (y3l_ p1 HH.tn (k:=k') (v:=w) hm (by omega) (by omega)) fun r hr=>?_;obtain⟨r,τ2⟩:=r;obtain⟨H2,p2⟩:=hr;dsimp only at H2 p2⊢
      repeat' (with_reducible refine W.next ?_)
      obtain⟨g1,g2,g3⟩:=HW.swap (q:=j) hpl1 hvl hm hjl (by omega) ha H1;exact⟨hs.length-j,by omega,j,_,_,rfl,rfl,by simp;omega,by simp[hle],HH.trans H2,p2,by simp[hpl1],g3,(yb9_ hm hjl (by omega) ha).trans hperm⟩
 ·obtain⟨r,τ1⟩:=r
  obtain⟨k',pl1,hs1,e,hm,hle,HH,p1,hpl1,H1,hperm⟩:=hr;dsimp only at e HH p1⊢;subst e;refine W.bind ?_;refine W.mono (y3l_ p1 HH.tn (k:=k') (v:=v) hm (by omega) (by omega)) fun r hr=>?_;obtain⟨r,τ2⟩:=r;obtain⟨H2,p2⟩:=hr
  repeat' with_reducible refine W.ret ?_
  exact⟨_,_,HH.trans H2,p2,H1,hperm⟩
end
end
section
open Go
section
variable{k v:Nat}{sc sc' pl hs:List Int}
theorem HW.scl(H:HW sc pl hs)(e:sc'.length=sc.length):HW sc' pl hs:=⟨by rw[e];exact H.len,by rw[e];exact H.rng,by rw[e];exact H.at_,H.nn⟩
theorem HW.mem(H:HW sc pl hs)(hv:v<sc.length):(v:Int)∈hs↔pl.getD v 0≠0:=by
 constructor
 ·intro h
  obtain⟨j,hj⟩:=yb_ h;have:=(H.at_ v j hv).2 hj;omega
 ·intro h
  have:=H.nn v;exact List.mem_of_getElem? ((H.at_ v (pl.getD v 0-1).toNat hv).1 (by omega))
theorem HW.nod(H:HW sc pl hs):hs.Nodup:=by
 rw[List.nodup_iff_pairwise_ne,List.pairwise_iff_getElem];intro i j hi hj hij e;obtain⟨u,eu,hu⟩:=H.nat (k:=i) (List.getElem?_eq_getElem hi);have h1:=(H.at_ u i hu).2 (by rw[<-eu];exact List.getElem?_eq_getElem hi);have h2:=(H.at_ u j hu).2 (by rw[<-eu,e];exact List.getElem?_eq_getElem hj);omega
theorem HW.lenH(H:HW sc pl hs):hs.length+1<=sc.length\/hs=[]:=by
 by_cases he:hs=[]
 ·exact .inr he
 left;have hall:∀x∈hs,1<=x/\x<sc.length:=fun x hx=>by
  obtain⟨i,hi⟩:=yb_ hx;have:=H.rng i x hi;omega
 have:=y2k_ (sc.length-1) (hs.map Int.toNat) ?_ fun x hx=>by
  obtain⟨y,hy,rfl⟩:=List.mem_map.1 hx;have:=hall y hy;omega
 ·obtain⟨x,hx⟩:=List.exists_mem_of_ne_nil hs he
  have:=hall x hx;simp at *;omega
 ·unfold List.Nodup
  rw[List.pairwise_map];exact H.nod.imp_of_mem fun {a b} ha hb hne e=>hne (by
   have:=hall a ha;have:=hall b hb;omega)
theorem HW.push(H:HW sc pl hs)(hv:v<sc.length)(h0:0<v)(hp:pl.getD v 0=0):HW sc (pl.set v ((hs.length:Int)+1)) (hs++[(v:Int)]):=by
 have hl:=H.len;refine⟨by simp[hl],fun j x hx=>?_,fun u j hu=>?_,fun u=>?_⟩
 ·rcases y4r_ hx with q|⟨_,q⟩
  ·exact H.rng j x q
  ·subst q;omega
 ·rw[yg_ (by omega)]
  have A:=H.at_ u j hu;by_cases e:v=u
  ·subst e
   rw[if_pos rfl];constructor
   ·intro h
    have:j=hs.length:=by omega
    subst this;simp
   ·intro h
    rcases y4r_ h with q|⟨q,_⟩
    ·have:=A.2 q;omega
    ·omega
  ·rw[if_neg e,A]
   constructor
   ·intro h;rw[List.getElem?_append_left (y2_ h)];exact h
   ·intro h
    rcases y4r_ h with q|⟨_,q⟩
    ·exact q
    ·exact absurd (Int.ofNat.inj q).symm e
 ·rw[yg_ (by omega)]
  have:=H.nn u
  split<;>omega
theorem HW.grow(H:HW sc pl hs):HW (sc++[0]) (pl++[0]) hs:=by
 have hl:=H.len;have hg:∀u,(pl++[(0:Int)]).getD u 0=pl.getD u 0:=fun u=>by
  have:=y86_ (xs:=pl) (d:=(0:Int)) (v:=u) (m:=1);exact this
 refine⟨by simp[hl],fun j x hx=>?_,fun u j hu=>?_,fun u=>by rw[hg];exact H.nn u⟩
 ·have:=H.rng j x hx
  simp;omega
 ·rw[hg]
  by_cases e:u<sc.length
  ·exact H.at_ u j e
  ·have h0:pl.getD u 0=0:=by rw[List.getD_eq_getElem?_getD,List.getElem?_eq_none (by omega)];rfl
   rw[h0];constructor
   ·intro h;omega
   ·intro h
    have:=H.rng j u h;omega
theorem HW.takeL(H:HW sc pl hs)(hk:hs[hs.length-1]?=some (v:Int)):HW sc (pl.set v 0) (hs.take (hs.length-1)):=by
 have hl:=H.len;have hkl:=y2_ hk;have hvr:=H.rng _ _ hk;have hv:v<sc.length:=by omega
 refine⟨by simp[hl],fun j x hx=>?_,fun u j hu=>?_,fun u=>?_⟩
 ·have hj:j<hs.length-1:=by have:=y2_ hx;simp at this;omega
  rw[List.getElem?_take_of_lt hj]at hx;exact H.rng j x hx
 ·rw[yg_ (by omega)]
  have A:=H.at_ u j hu;have B:=(H.at_ v _ hv).2 hk;by_cases hj:j<hs.length-1
  ·rw[List.getElem?_take_of_lt hj]
   by_cases e:v=u
   ·subst e
    rw[if_pos rfl];constructor
    ·intro h;omega
    ·intro h;have:=A.2 h;omega
   ·rw[if_neg e];exact A
  ·have hn:(hs.take (hs.length-1))[j]?=none:=List.getElem?_eq_none (by simp;omega)
   rw[hn];constructor
   ·intro h
    split at h
    ·omega
    ·rename_i hne
     have h2:=A.1 h;have:=y2_ h2;have:j=hs.length-1:=by omega
     subst this;rw[hk]at h2;exact absurd (Int.ofNat.inj (Option.some.inj h2)) hne
   ·intro h;cases h
 ·rw[yg_ (by omega)]
  have:=H.nn u
  split<;>omega
theorem HW.takeM(H:HW sc pl hs)(hv:hs[k]?=some (v:Int)){w:Nat}(hw:hs[hs.length-1]?=some (w:Int))(hk:k<hs.length-1):w≠v/\HW sc ((pl.set v 0).set w ((k:Int)+1)) ((hs.take (hs.length-1)).set k (w:Int)):=by
 have hl:=H.len;have hwr:=H.rng _ _ hw;have hvr:=H.rng _ _ hv;have hwl:w<sc.length:=by omega
 have hvl:v<sc.length:=by omega
 have Bw:=(H.at_ w _ hwl).2 hw;have Bv:=(H.at_ v _ hvl).2 hv;have hne:w≠v:=fun e=>by subst e;omega
 have hkt:k<(hs.take (hs.length-1)).length:=by simp;omega
 refine⟨hne,by simp[hl],fun j x hx=>?_,fun u j hu=>?_,fun u=>?_⟩
 ·rw[yr_ hkt]at hx
  split at hx
  ·cases hx;exact hwr
  ·have hj:j<hs.length-1:=by have:=y2_ hx;simp at this;omega
   rw[List.getElem?_take_of_lt hj]at hx;exact H.rng j x hx
 ·have A:=H.at_ u j hu
  rw[yg_ (by simp;omega),yg_ (by omega),yr_ hkt];by_cases e1:w=u
  ·subst e1
   rw[if_pos rfl];by_cases e2:k=j
   ·subst e2;simp
   ·rw[if_neg e2]
    constructor
    ·intro h;omega
    ·intro h
     have hj:j<hs.length-1:=by have:=y2_ h;simp at this;omega
     rw[List.getElem?_take_of_lt hj]at h;have:=A.2 h;omega
  ·rw[if_neg e1]
   by_cases e2:v=u
   ·subst e2
    rw[if_pos rfl];constructor
    ·intro h;omega
    ·intro h
     by_cases e3:k=j
     ·rw[if_pos e3]at h;exact absurd (Int.ofNat.inj (Option.some.inj h)) e1
     ·rw[if_neg e3]at h
      have hj:j<hs.length-1:=by have:=y2_ h;simp at this;omega
      rw[List.getElem?_take_of_lt hj]at h;have:=A.2 h;omega
   ·rw[if_neg e2,A]
    by_cases e3:k=j
    ·subst e3
     rw[if_pos rfl,hv];constructor
     ·intro h;exact absurd (Int.ofNat.inj (Option.some.inj h)) e2
     ·intro h;exact absurd (Int.ofNat.inj (Option.some.inj h)) e1
    ·rw[if_neg e3]
     by_cases hj:j<hs.length-1
     ·rw[List.getElem?_take_of_lt hj]
     ·have hn:(hs.take (hs.length-1))[j]?=none:=List.getElem?_eq_none (by simp;omega)
      rw[hn];constructor
      ·intro h
       have:=y2_ h;have:j=hs.length-1:=by omega
       subst this;rw[hw]at h;exact absurd (Int.ofNat.inj (Option.some.inj h)) e1
      ·intro h;cases h
 ·rw[yg_ (by simp;omega),yg_ (by omega)]
  have:=H.nn u
  split
  ·omega
  ·split<;>omega
end
def HpI(σ:Heap)(T:Tg)(lh N:Nat)(hs:List Int):Prop:=∃xs xp xh sc pl,HeapH σ T lh xs xp xh sc pl hs/\HW sc pl hs/\sc.length=N+1
section
variable{σ τ:Heap}{T T':Tg}{lh k v N:Nat}{hs:List Int}{I:Nat->Bool}
theorem HpI.hop(p:HpI σ T lh N hs)(H:Hop I σ T τ T')(h1:∀j,hI j=true->I j=false):HpI τ T' lh N hs:=by
 obtain⟨xs,xp,xh,sc,pl,p,q⟩:=p;exact⟨xs,xp,xh,sc,pl,p.hop H h1,q⟩
theorem HpI.hle(p:HpI σ T lh N hs)(L:Hle σ τ):HpI τ T lh N hs:=by
 obtain⟨xs,xp,xh,sc,pl,p,q⟩:=p;exact⟨xs,xp,xh,sc,pl,p.hle L,q⟩
theorem HpI.len(p:HpI σ T lh N hs):hs.length<=N:=by
 obtain⟨xs,xp,xh,sc,pl,p,H,e⟩:=p;rcases H.lenH with q|q
 ·omega
 ·subst q;simp
theorem HpI.rng(p:HpI σ T lh N hs){x:Int}(hx:x∈hs):1<=x/\x<=N:=by
 obtain⟨xs,xp,xh,sc,pl,p,H,e⟩:=p;obtain⟨i,hi⟩:=yb_ hx;have:=H.rng i x hi;omega
theorem ye2_(p:HpI σ T lh N hs):S.z18 (.ptr lh 0) σ=some (hs.length:Int):=by
 obtain⟨r,e,rfl⟩:W (S.z18 (.ptr lh 0) σ) fun r=>r=(hs.length:Int):=by
  obtain⟨xs,xp,xh,sc,pl,⟨k1,k2,k3,k4⟩,H,e⟩:=p;unfold S.z18
  repeat' with_reducible first|refine W.ret ?_|refine W.asV ?_|refine W.fldp ?_|refine W.nck ?_|refine W.u0 ?_|refine W.u3 ?_
  rfl
 exact e
theorem y92_(p:HpI σ T lh N hs)(hn:Tn σ T)(hN:N<=4000)(h0:0<v)(hv:v<=N):W (S.z20 (.ptr lh 0) (v:Int) σ) fun r=>∃T' hs',Hop hI σ T r.2 T'/\HpI r.2 T' lh N hs'/\∀x,x∈hs'↔x∈hs\/x=(v:Int):=by
 have hlen:=p.len;obtain⟨xs,xp,xh,sc,pl,p,H,e⟩:=p;have hl:=H.len;have hvl:v<sc.length:=by omega
 obtain⟨a,ha⟩:=y3_ (xs:=pl) (i:=v) (by omega);have hpa:pl.getD v 0=a:=by rw[List.getD_eq_getElem?_getD,ha];rfl
 have hnn:=H.nn v;have p0:=p;obtain⟨k1,k2,k3,k4⟩:=p;unfold S.z20
 repeat' (with_reducible refine W.bind ?_)
 refine W.to (yah_ p0) ?_
 repeat' with_reducible refine W.ret ?_
 refine W.condF (by simp;omega) ?_
 repeat' with_reducible first|refine W.ret ?_|refine W.asV ?_|refine W.fldp ?_|refine W.nck ?_|refine W.u0 ?_|refine W.u2 ?_
 by_cases hz:a>0
 ·refine W.condT (by simp;omega) ?_
  repeat' with_reducible refine W.ret ?_
  have hm:=(H.mem hvl).2 (by omega);exact⟨T,hs,Hop.refl hn,⟨xs,xp,xh,sc,pl,p0,H,e⟩,fun x=>⟨.inl,fun q=>q.elim id fun q=>q▸hm⟩⟩
 ·refine W.condF (by simp;omega) ?_
  repeat' with_reducible first|refine W.asV ?_|refine W.fldp ?_|refine W.nck ?_|refine W.u0 ?_
  refine W.own_push (bytes:=8) Vw.int_flat k4 hn (a:=(v:Int)) rfl (by omega) (by omega) fun x2 τ2 T2 k4 H2=>?_;have HH:Hop hI σ T τ2 T2:=(Hop.refl hn).inH H2;replace k1:=k1.hop H2;replace k2:=k2.hop H2;replace k3:=k3.hop H2;replace hn:=H2.tn
  repeat' with_reducible first|refine W.fldp ?_|refine W.nck ?_|refine W.u4 ?_
  refine W.stT k1 hn (Nat.le_of_ble_eq_true (by rfl)) fun τ3 H3 k1 hnτ3=>?_;replace HH:=HH.inH H3;replace k2:=k2.hop H3;replace k3:=k3.hop H3;replace k4:=k4.hop H3;replace hn:=H3.tn
  repeat' with_reducible first|refine W.bind ?_|refine W.asV ?_|refine W.fldp ?_|refine W.nck ?_|refine W.u0 ?_|refine W.u3 ?_
  have w:IntKind.i64.wrap (((hs++[(v:Int)]).length:Int)-1)=(hs.length:Int):=by rw[wrapS]<;>simp<;>omega
  rw[w];have HP:=H.push hvl h0 (by omega);refine W.mono (y8g_ (k:=hs.length) (v:=v) ⟨k1,k2,k3,k4⟩ HH.tn (by simp) hvl HP hl (by simp;omega)) fun r hr=>?_;obtain⟨r,τ4⟩:=r;obtain⟨pl',hs',H4,p4,HW4,hperm⟩:=hr
  repeat' with_reducible refine W.ret ?_
  refine⟨T2,hs',HH.trans H4,⟨_,_,_,_,_,p4,HW4,e⟩,fun x=>?_⟩;rw[hperm.mem_iff];simp
theorem ye6_(p:HpI σ T lh N hs)(hn:Tn σ T)(hN:N<=4000)(hv:hs[k]?=some (v:Int)):W (S.z27 (.ptr lh 0) (k:Int) σ) fun r=>r.1=(v:Int)/\∃T' hs',Hop hI σ T r.2 T'/\HpI r.2 T' lh N hs'/\∀x,x∈hs'↔x∈hs/\x≠(v:Int):=by
 have hlen:=p.len;obtain⟨xs,xp,xh,sc,pl,p,H,e⟩:=p;have hl:=H.len;have hk:=y2_ hv;have hvr:=H.rng _ _ hv;have hvl:v<sc.length:=by omega
 obtain⟨a,ha⟩:=y3_ (xs:=hs) (i:=hs.length-1) (by omega);obtain⟨w,rfl,hw⟩:=H.nat ha;have w1:IntKind.i64.wrap ((hs.length:Int)-1)=((hs.length-1:Nat):Int):=by rw[wrapS]<;>omega
 have p0:=p;obtain⟨k1,k2,k3,k4⟩:=p;obtain⟨y,e5,hy⟩:=k4.slice (lo:=0) (hi:=hs.length-1) (by omega) (by omega);rw[List.drop_zero]at hy;unfold S.z27
 repeat' with_reducible first|refine W.asV ?_|refine W.fldp ?_|refine W.nck ?_|refine W.u0 ?_|refine W.u3 ?_|refine W.u2 ?_
 rw[w1]
 repeat' with_reducible first|refine W.asV ?_|refine W.fldp ?_|refine W.nck ?_|refine W.u0 ?_|refine W.u2 ?_
 refine W.to ((e5 (at_le (σ:=σ) (T:=T) (i:=14)) _).1) ?_
 repeat' with_reducible first|refine W.fldp ?_|refine W.nck ?_|refine W.u4 ?_
 refine W.stT k1 hn (Nat.le_of_ble_eq_true (by rfl)) fun τ1 H1 k1 hnτ1=>?_;have HH:Hop hI σ T τ1 T:=(Hop.refl hn).inH H1;replace k2:=k2.hop H1;replace k3:=k3.hop H1;replace hy:=hy.hop H1;replace hn:=H1.tn
 repeat' with_reducible first|refine W.asV ?_|refine W.fldp ?_|refine W.nck ?_|refine W.u0 ?_
 refine W.ixO k3.slT (i:=v) (by omega) ?_;refine W.own_setI k3 hn (by omega) fun τ2 k3 H2 _=>?_;replace HH:=HH.inH H2;replace k1:=k1.hop H2;replace k2:=k2.hop H2;replace hy:=hy.hop H2;replace hn:=H2.tn;have p2:HeapH τ2 T lh xs xp y sc (pl.set v 0) (hs.take (hs.length-1)):=⟨k1,k2,k3,hy⟩;have hmem:∀pl' hs',HW sc pl' hs'->(∀u,u<sc.length->(pl'.getD u 0≠0↔pl.getD u 0≠0/\u≠v))->∀x,x∈hs'↔x∈hs/\x≠(v:Int):=fun pl' hs' H' hp x=>by
  constructor
  ·intro hx
   obtain⟨i,hi⟩:=yb_ hx;obtain⟨u,rfl,hu⟩:=H'.nat hi;have:=(hp u hu).1 ((H'.mem hu).1 hx);exact⟨(H.mem hu).2 this.1,fun q=>this.2 (Int.ofNat.inj q)⟩
  ·rintro⟨hx,hne⟩
   obtain⟨i,hi⟩:=yb_ hx;obtain⟨u,rfl,hu⟩:=H.nat hi;exact(H'.mem hu).2 ((hp u hu).2 ⟨(H.mem hu).1 hx,fun q=>hne (by rw[q])⟩)
 repeat' (with_reducible refine W.bind ?_)
 by_cases hkl:k<hs.length-1
 ·refine W.condT (by simp;omega) ?_
  obtain⟨hne,HM⟩:=H.takeM hv ha hkl
  repeat' (with_reducible refine W.bind ?_)
  refine W.mono (y3l_ p2 HH.tn (k:=k) (v:=w) (by simp;omega) (by simp;omega) (by simp;omega)) fun r hr=>?_;obtain⟨r,τ3⟩:=r;obtain⟨H3,p3⟩:=hr;dsimp only at H3 p3⊢;replace HH:=HH.trans H3;have gk:((hs.take (hs.length-1)).set k (w:Int))[k]?=some (w:Int):=by rw[yr_ (by simp;omega),if_pos rfl]
  refine W.bind ?_;refine W.mono (y8g_ (k:=k) (v:=w) p3 HH.tn gk hw (by rw[List.set_set];exact HM) (by simp[hl]) (by simp;omega)) fun r hr=>?_;obtain⟨r,τ4⟩:=r;obtain⟨pl',hs',H4,p4,HW4,hperm⟩:=hr;dsimp only at H4 p4⊢;replace HH:=HH.trans H4;have hl4:=HW4.len;have hwm:(w:Int)∈hs':=hperm.mem_iff.2 (List.mem_of_getElem? gk);obtain⟨q,hq⟩:=yb_ hwm;have hpq:=(HW4.at_ w q hw).2 hq;have hpw:pl'[w]?=some ((q:Int)+1):=by
   obtain⟨b,hb⟩:=y3_ (xs:=pl') (i:=w) (by omega);rw[List.getD_eq_getElem?_getD,hb]at hpq;rw[hb];exact congrArg some hpq
  have hlen4:=hperm.length_eq;simp at hlen4;have hql:=y2_ hq;have w2:IntKind.i64.wrap (((q:Int)+1)-1)=(q:Int):=by rw[wrapS]<;>omega
  have p4':=p4;obtain⟨k1,k2,k3,k4⟩:=p4'
  repeat' with_reducible first|refine W.bind ?_|refine W.asV ?_|refine W.fldp ?_|refine W.nck ?_|refine W.u0 ?_|refine W.u2 ?_
  rw[w2];refine W.mono (y5s_ (k:=q) (v:=w) p4 HH.tn hq hw (by rw[HW4.same hq hw];exact HW4) hl4 (by omega)) fun r hr=>?_;obtain⟨r,τ5⟩:=r;obtain⟨pl5,hs5,H5,p5,HW5,hperm5⟩:=hr
  repeat' with_reducible refine W.ret ?_
  refine⟨rfl,T,hs5,HH.trans H5,⟨_,_,_,_,_,p5,HW5,e⟩,fun x=>?_⟩;rw[hperm5.mem_iff,hperm.mem_iff];refine hmem _ _ HM (fun u hu=>?_) x;rw[yg_ (by simp;omega),yg_ (by omega)];have hwm2:=(H.mem hw).1 (List.mem_of_getElem? ha);by_cases e1:w=u
  ·subst e1
   rw[if_pos rfl];exact⟨fun _=>⟨hwm2,hne⟩,fun _=>by omega⟩
  ·rw[if_neg e1]
   by_cases e2:v=u
   ·subst e2;rw[if_pos rfl];simp
   ·rw[if_neg e2];exact⟨fun q=>⟨q,fun q2=>e2 q2.symm⟩,fun q=>q.1⟩
 ·refine W.condF (by simp;omega) ?_
  have hk2:k=hs.length-1:=by omega
  subst hk2;have HM:=H.takeL hv
  repeat' with_reducible refine W.ret ?_
  refine⟨rfl,T,_,HH,⟨_,_,_,_,_,p2,HM,e⟩,hmem _ _ HM fun u hu=>?_⟩;rw[yg_ (by omega)];by_cases e2:v=u
  ·subst e2;rw[if_pos rfl];simp
  ·rw[if_neg e2];exact⟨fun q=>⟨q,fun q2=>e2 q2.symm⟩,fun q=>q.1⟩
theorem yem_(p:HpI σ T lh N hs)(hn:Tn σ T)(hN:N<=4000)(h0:0<v)(hv:v<=N){by':Int}:W (S.z15 (.ptr lh 0) (v:Int) by' σ) fun r=>∃T' hs',Hop hI σ T r.2 T'/\HpI r.2 T' lh N hs'/\∀x,x∈hs'↔x∈hs:=by
 have hlen:=p.len;obtain⟨xs,xp,xh,sc,pl,p,H,e⟩:=p;have hl:=H.len;have hvl:v<sc.length:=by omega
 obtain⟨s0,hs0⟩:=y3_ (xs:=sc) (i:=v) hvl;obtain⟨a,ha⟩:=y3_ (xs:=pl) (i:=v) (by omega);have hpa:pl.getD v 0=a:=by rw[List.getD_eq_getElem?_getD,ha];rfl
 have hnn:=H.nn v;have p0:=p;obtain⟨k1,k2,k3,k4⟩:=p;unfold S.z15;refine W.bind ?_;refine W.to (yah_ p0) ?_;refine W.ret ?_;show W _ _;refine W.condF (by simp;omega) ?_
 repeat' with_reducible first|refine W.asV ?_|refine W.fldp ?_|refine W.nck ?_|refine W.u0 ?_|refine W.u2 ?_
 generalize (if(1099511627776:Int)<_ then(1099511627776:Int)else _)=nsc;refine W.ixO k2.slT (i:=v) (by omega) ?_;refine W.own_setI k2 hn (by omega) fun τ1 k2 H1 _=>?_;have HH:Hop hI σ T τ1 T:=(Hop.refl hn).inH H1;replace k1:=k1.hop H1;replace k3:=k3.hop H1;replace k4:=k4.hop H1;replace hn:=H1.tn;have H':HW (sc.set v nsc) pl hs:=H.scl (by simp);have p1:HeapH τ1 T lh xs xp xh (sc.set v nsc) pl hs:=⟨k1,k2,k3,k4⟩;have e':(sc.set v nsc).length=N+1:=by simp[e]
 repeat' with_reducible first|refine W.bind ?_|refine W.asV ?_|refine W.fldp ?_|refine W.nck ?_|refine W.u0 ?_|refine W.u2 ?_
 refine W.mono (P:=fun r=>∃hs',Hop hI σ T r.2 T/\HpI r.2 T lh N hs'/\∀x,x∈hs'↔x∈hs) ?_ fun r hr=>?_
 ·(with_reducible refine W.cnd (fun hc=>?_) (fun hc=>?_)<;>(try simp only[qq,Kd.ty]at hc)<;>(try (exfalso;omega)))
  ·have hwr:IntKind.i64.wrap (a-1)=a-1\/a=0:=by
    by_cases q:a=0
    ·exact .inr q
    ·left
     have hm:=(H.mem hvl).2 (by omega);obtain⟨j,hj⟩:=yb_ hm;have:=(H.at_ v j hvl).2 hj;have:=y2_ hj;rw[wrapS]<;>omega
   rcases hwr with hwr|hz
   ·rw[hwr]at hc⊢
    have hm:=(H.mem hvl).2 (by omega);obtain⟨j,hj⟩:=yb_ hm;have hpj:=(H.at_ v j hvl).2 hj;have ej:a-1=(j:Int):=by omega
    rw[ej];refine W.bind ?_;refine W.mono (y8g_ (k:=j) (v:=v) p1 HH.tn hj (by simp;omega) (by rw[H'.same hj (by simp;omega)];exact H') (by simp[hl]) (by omega)) fun r hr=>?_;obtain⟨r,τ4⟩:=r;obtain⟨pl',hs',H4,p4,HW4,hperm⟩:=hr;dsimp only at H4 p4⊢;replace HH:=HH.trans H4;have hl4:=HW4.len;have hvl4:v<(sc.set v nsc).length:=by simp;omega
    have hwm:(v:Int)∈hs':=hperm.mem_iff.2 hm;obtain⟨q,hq⟩:=yb_ hwm;have hpq:=(HW4.at_ v q hvl4).2 hq;have hpw:pl'[v]?=some ((q:Int)+1):=by
     obtain⟨b,hb⟩:=y3_ (xs:=pl') (i:=v) (by omega);rw[List.getD_eq_getElem?_getD,hb]at hpq;rw[hb];exact congrArg some hpq
    have hlen4:=hperm.length_eq;have hql:=y2_ hq;have w2:IntKind.i64.wrap (((q:Int)+1)-1)=(q:Int):=by rw[wrapS]<;>omega
    have p4':=p4;obtain⟨k1,k2,k3,k4⟩:=p4'
    repeat' with_reducible first|refine W.bind ?_|refine W.asV ?_|refine W.fldp ?_|refine W.nck ?_|refine W.u0 ?_|refine W.u2 ?_
    rw[w2];refine W.mono (y5s_ (k:=q) (v:=v) p4 HH.tn hq hvl4 (by rw[HW4.same hq hvl4];exact HW4) hl4 (by omega)) fun r hr=>?_;obtain⟨r,τ5⟩:=r;obtain⟨pl5,hs5,H5,p5,HW5,hperm5⟩:=hr
    repeat' with_reducible refine W.ret ?_
    exact⟨hs5,HH.trans H5,⟨_,_,_,_,_,p5,HW5,e'⟩,fun x=>by rw[hperm5.mem_iff,hperm.mem_iff]⟩
   ·exfalso
    rw[hz,wrapS]at hc<;>omega
  ·repeat' with_reducible refine W.ret ?_
   exact⟨hs,HH,⟨_,_,_,_,_,p1,H',e'⟩,fun x=>Iff.rfl⟩
 ·obtain⟨r,τ2⟩:=r
  obtain⟨hs',H2,⟨xs,xp,xh,sc2,pl2,p2,HW2,e2⟩,hm2⟩:=hr;dsimp only at H2 p2⊢;obtain⟨s2,hs2⟩:=y3_ (xs:=sc2) (i:=v) (by omega);have p2':=p2;obtain⟨k1,k2,k3,k4⟩:=p2'
  repeat' with_reducible first|refine W.ret ?_|refine W.asV ?_|refine W.fldp ?_|refine W.nck ?_|refine W.u0 ?_|refine W.u2 ?_
  exact⟨T,hs',H2,⟨_,_,_,_,_,p2,HW2,e2⟩,hm2⟩
theorem ycp_(p:HpI σ T lh N hs)(hn:Tn σ T)(hN:N<=4000):W (S.z17 (.ptr lh 0) σ) fun r=>∃T' hs',Hop hI σ T r.2 T'/\HpI r.2 T' lh N hs'/\∀x,x∈hs'↔x∈hs:=by
 have hlen:=p.len;obtain⟨xs,xp,xh,sc,pl,p,H,e⟩:=p;have hl:=H.len;have p0:=p;obtain⟨k1,k2,k3,k4⟩:=p;unfold S.z17
 repeat' with_reducible first|refine W.bind ?_|refine W.asV ?_|refine W.fldp ?_|refine W.nck ?_|refine W.u0 ?_|refine W.u3 ?_
 refine W.mono (P:=fun r=>∃sc',Hop hI σ T r.2 T/\HeapH r.2 T lh xs xp xh sc' pl hs/\sc'.length=sc.length) ?_ fun r hr=>?_
 ·refine W.loop sc.length (fun i (x:Int) τ=>x=(i:Int)/\∃sc',Hop hI σ T τ T/\HeapH τ T lh xs xp xh sc' pl hs/\sc'.length=sc.length) ⟨rfl,sc,Hop.refl hn,p0,rfl⟩ fun i x τ hi hI2=>?_
  obtain⟨rfl,sc1,HH,⟨k1,k2,k3,k4⟩,hl1⟩:=hI2;have w:IntKind.i64.wrap ((i:Int)+1)=((i+1:Nat):Int):=by rw[wrapS]<;>omega
  unfold S.z17.b0
  (with_reducible refine W.cnd (fun hlt=>?_) (fun hlt=>?_)<;>(try simp only[qq,Kd.ty]at hlt)<;>(try (exfalso;omega)))
  ·obtain⟨a,ha⟩:=y3_ (xs:=sc1) (i:=i) (by omega)
   repeat' with_reducible first|refine W.asV ?_|refine W.fldp ?_|refine W.nck ?_|refine W.u0 ?_|refine W.u2 ?_
   refine W.ixO k2.slT (i:=i) (by omega) ?_;refine W.own_setI k2 HH.tn (by omega) fun τ1 k2 H1 _=>?_;replace HH:=HH.inH H1;replace k1:=k1.hop H1;replace k3:=k3.hop H1;replace k4:=k4.hop H1;replace hn:=H1.tn
   repeat' (with_reducible refine W.next ?_)
   exact⟨by omega,w,_,HH,⟨k1,k2,k3,k4⟩,by simp[hl1]⟩
  ·repeat' (with_reducible refine W.stop ?_)
   exact⟨sc1,HH,⟨k1,k2,k3,k4⟩,hl1⟩
 ·obtain⟨r,τ1⟩:=r
  obtain⟨sc1,HH,p1,hl1⟩:=hr;dsimp only at HH p1⊢;have H1:=H.scl hl1;have p1':=p1;obtain⟨k1,k2,k3,k4⟩:=p1';have w1:IntKind.i64.wrap ((hs.length:Int)-1)=(hs.length:Int)-1:=by rw[wrapS]<;>omega
  repeat' with_reducible first|refine W.bind ?_|refine W.asV ?_|refine W.fldp ?_|refine W.nck ?_|refine W.u0 ?_|refine W.u3 ?_
  rw[w1];refine W.mono (P:=fun r=>∃hs',Hop hI σ T r.2 T/\HpI r.2 T lh N hs'/\∀x,x∈hs'↔x∈hs) ?_ fun r hr=>by
   obtain⟨hs',q⟩:=hr;exact W.ret ⟨T,hs',q⟩
  refine W.loopI (m:=hs.length) (fun m (x:Int) τ=>x=(m:Int)-1/\∃pl' hs',m<=hs'.length/\hs'.length=hs.length/\Hop hI σ T τ T/\HeapH τ T lh xs xp xh sc1 pl' hs'/\HW sc1 pl' hs'/\∀x,x∈hs'↔x∈hs) ⟨rfl,pl,hs,Nat.le_refl _,rfl,HH,p1,H1,fun _=>Iff.rfl⟩ fun m x τ hI2=>?_;obtain⟨rfl,pl',hs',hm,hle,HH,p2,HW2,hmm⟩:=hI2;unfold S.z17.b1;cases m with
  |zero=>
   refine W.condF (by simp) ?_
   repeat' (with_reducible refine W.stop ?_)
   exact⟨hs',HH,⟨_,_,_,_,_,p2,HW2,by omega⟩,hmm⟩
  |succ i=>
   rw[show((i+1:Nat):Int)-1=(i:Int) by omega];refine W.condT (by simp) ?_;obtain⟨a,ha⟩:=y3_ (xs:=hs') (i:=i) (by omega);obtain⟨u,rfl,hu⟩:=HW2.nat ha;have w:IntKind.i64.wrap ((i:Int)-1)=(i:Int)-1:=by rw[wrapS]<;>omega
   refine W.bind ?_;refine W.mono (y5s_ (k:=i) (v:=u) p2 HH.tn ha hu (by rw[HW2.same ha hu];exact HW2) HW2.len (by omega)) fun r hr=>?_;obtain⟨r,τ2⟩:=r;obtain⟨pl3,hs3,H3,p3,HW3,hperm⟩:=hr
   repeat' (with_reducible refine W.next ?_)
   exact⟨i,by omega,w,pl3,hs3,by rw[hperm.length_eq];omega,by rw[hperm.length_eq];exact hle,HH.trans H3,p3,HW3,fun x=>by rw[hperm.mem_iff];exact hmm x⟩
end
end
section
open Go
section
variable{σ τ:Heap}{T T':Tg}{lh k v N vars:Nat}{hs:List Int}{I:Nat->Bool}
theorem y8x_(p:HpI σ T lh N hs)(hn:Tn σ T)(hN:N<=4000)(hv:vars<=4000):W (S.z16 (.ptr lh 0) (vars:Int) σ) fun r=>∃T' hs',Hop hI σ T r.2 T'/\HpI r.2 T' lh (max N vars) hs'/\∀x:Int,x∈hs'↔x∈hs\/((N:Int)<x/\x<=vars):=by
 unfold S.z16;refine W.bind ?_;refine W.mono (P:=fun r=>∃T' hs',Hop hI σ T r.2 T'/\HpI r.2 T' lh (max N vars) hs'/\∀x:Int,x∈hs'↔x∈hs\/((N:Int)<x/\x<=vars)) ?_ fun r hr=>W.ret hr;refine W.loopI (m:=vars-N) (fun m (_:Unit) τ=>∃(T':Tg) (hs':List Int) (K:Nat),Hop hI σ T τ T'/\HpI τ T' lh K hs'/\N<=K/\(K=N\/K<=vars)/\m=vars-K/\∀x:Int,x∈hs'↔x∈hs\/((N:Int)<x/\x<=K)) ⟨T,hs,N,Hop.refl hn,p,Nat.le_refl _,.inl rfl,rfl,fun x=>⟨.inl,fun q=>q.elim id fun q=>by omega⟩⟩ fun m _ τ hI2=>?_;obtain⟨T1,hs1,K,HH,p1,hK,hK2,rfl,hmm⟩:=hI2;have hlen:=p1.len;obtain⟨xs,xp,xh,sc,pl,⟨k1,k2,k3,k4⟩,H,e⟩:=p1;have hl:=H.len;unfold S.z16.b0
 repeat' with_reducible first|refine W.bind ?_|refine W.asV ?_|refine W.fldp ?_|refine W.nck ?_|refine W.u0 ?_|refine W.u3 ?_
 refine W.to (y6x_ (by omega) (by omega)) ?_
 repeat' with_reducible refine W.ret ?_
 (with_reducible refine W.cnd (fun hlt=>?_) (fun hlt=>?_)<;>(try simp only[qq,Kd.ty]at hlt)<;>(try (exfalso;omega)))
 ·have k1o:=k1
  repeat' with_reducible first|refine W.asV ?_|refine W.fldp ?_|refine W.nck ?_|refine W.u0 ?_
  refine W.own_push (bytes:=8) Vw.int_flat k2 HH.tn (a:=(0:Int)) rfl (by omega) (by omega) fun x2 τ2 T2 k2 H2=>?_;replace HH:=HH.inH H2;replace k1:=k1.hop H2;replace k3:=k3.hop H2;replace k4:=k4.hop H2;replace hn:=H2.tn
  repeat' with_reducible first|refine W.asV ?_|refine W.chk rfl ?_|refine W.fldp ?_|refine W.nck ?_|refine W.u0 ?_
  refine W.own_push (bytes:=8) Vw.int_flat k3 HH.tn (a:=(0:Int)) rfl (by omega) (by omega) fun x3 τ3 T3 k3 H3=>?_;replace HH:=HH.inH H3;replace k1:=k1.hop H3;replace k2:=k2.hop H3;replace k4:=k4.hop H3;replace hn:=H3.tn
  repeat' with_reducible first|refine W.fldp ?_|refine W.nck ?_|refine W.u4 ?_
  refine W.stT k1 hn (Nat.le_of_ble_eq_true (by rfl)) fun τ4 H4 k1 hnτ4=>?_;replace HH:=HH.inH H4;replace k2:=k2.hop H4;replace k3:=k3.hop H4;replace k4:=k4.hop H4;replace hn:=H4.tn
  repeat' with_reducible first|refine W.fldp ?_|refine W.nck ?_|refine W.u4 ?_
  refine W.stT k1 hn (Nat.le_of_ble_eq_true (by rfl)) fun τ5 H5 k1 hnτ5=>?_;replace HH:=HH.inH H5;replace k2:=k2.hop H5;replace k3:=k3.hop H5;replace k4:=k4.hop H5;replace hn:=H5.tn
  repeat' with_reducible first|refine W.bind ?_|refine W.asV ?_|refine W.fldp ?_|refine W.nck ?_|refine W.u0 ?_|refine W.u3 ?_
  have w:IntKind.i64.wrap (((sc++[(0:Int)]).length:Int)-1)=((K+1:Nat):Int):=by rw[wrapS]<;>simp<;>omega
  rw[w];have p5:HpI τ5 T3 lh (K+1) hs1:=⟨_,_,_,_,_,⟨k1,k2,k3,k4⟩,H.grow,by simp[e]⟩;refine W.mono (y92_ (v:=K+1) p5 HH.tn (by omega) (by omega) (by omega)) fun r hr=>?_;obtain⟨r,τ6⟩:=r;obtain⟨T6,hs6,H6,p6,hm6⟩:=hr
  repeat' (with_reducible refine W.next ?_)
  refine⟨vars-(K+1),by omega,T6,hs6,K+1,HH.trans H6,p6,by omega,.inr (by omega),rfl,fun x=>?_⟩;rw[hm6,hmm];constructor
  ·rintro((q|q)|q)
   ·exact .inl q
   ·exact .inr (by omega)
   ·exact .inr (by omega)
  ·rintro(q|q)
   ·exact .inl (.inl q)
   ·by_cases e2:x=((K+1:Nat):Int)
    ·exact .inr e2
    ·exact .inl (.inr (by omega))
 ·repeat' (with_reducible refine W.stop ?_)
  have:max N vars=K:=by omega
  rw[this];refine⟨T1,hs1,HH,⟨_,_,_,_,_,⟨k1,k2,k3,k4⟩,H,e⟩,fun x=>?_⟩;rw[hmm];constructor
  ·rintro(q|q)
   ·exact .inl q
   ·rcases hK2 with w|w
    ·omega
    ·exact .inr (by omega)
  ·rintro(q|q)
   ·exact .inl q
   ·exact .inr (by omega)
theorem yfu_(hn:Tn σ T):W (S.z29 0 σ) fun r=>∃T' lh,r.1=.ptr lh 0/\Hop hI σ T r.2 T'/\HpI r.2 T' lh 0 []:=by
 unfold S.z29;refine W.mkT (v:=Vw.int) 12 hn (0:Int) rfl (fun _=>rfl) (n:=1) (by omega) (by omega) rfl fun x τ1 T1 H1 k2 _=>?_;have HH:Hop hI σ T τ1 T1:=(Hop.refl hn).inH H1;refine W.mkT (v:=Vw.int) 13 HH.tn (0:Int) rfl (fun _=>rfl) (n:=1) (by omega) (by omega) rfl fun y τ2 T2 H2 k3 _=>?_;replace HH:=HH.inH H2;replace k2:=k2.hop H2;replace hn:=H2.tn
 repeat' (with_reducible refine W.u4 ?_)
 refine W.newT 11 hn fun l τ3 T3 hl H3 k1 hnτ3=>?_;replace HH:=HH.inH H3;replace k2:=k2.hop H3;replace k3:=k3.hop H3;replace hn:=H3.tn;have p3:HpI τ3 T3 l 0 []:=⟨_,_,_,_,_,⟨k1,k2,k3,.nil⟩,⟨rfl,fun k v h=>by simp at h,fun v k hv=>by
  have:v=0:=by simpa using hv
  subst this;simp;omega,fun v=>by
  cases v with
  |zero=>simp
  |succ v=>simp⟩,rfl⟩
 refine W.bind ?_;refine W.mono (y8x_ (vars:=0) p3 HH.tn (by omega) (by omega)) fun r hr=>?_;obtain⟨r,τ4⟩:=r;obtain⟨T4,hs4,H4,p4,hm4⟩:=hr
 repeat' with_reducible refine W.ret ?_
 have:hs4=[]:=by
  cases hs4 with
  |nil=>rfl
  |cons a t=>
   have:=(hm4 a).1 (by simp);rcases this with q|q
   ·cases q
   ·omega
 subst this;exact⟨T4,l,rfl,HH.trans H4,p4⟩
theorem MO.packs{R:Type}:∀(vs:List AVal) (ks:List Kd) {K K':Tu ks->Option R},(∀x,MO (K x) (K' x))->MO (packs vs ks K) (packs vs ks K')
 |[],[],K,K',h=>h ()
 |[v],[k],K,K',h=>MO.asK h
 |v::v'::vs,k::k'::ks,K,K',h=>MO.asK fun a=>MO.packs (v'::vs) (k'::ks) fun b=>h (a,b)
 |[],_::_,K,K',h=>MO.none _
 |[_],[],K,K',h=>MO.none _
 |_::_::_,[],K,K',h=>MO.none _
 |[_],_::_::_,K,K',h=>MO.none _
 |_::_::_,[_],K,K',h=>MO.none _
theorem MO.callB{self self':Int->AVal->AVal->AVal->Heap->Option (Unit×Heap)}(h:∀a b c d σ,MO (self a b c d σ) (self' a b c d σ)){R:Type}{K K':AVal->Heap->Option R}(hK:∀a b,MO (K a b) (K' a b))(v:AVal)(args:List AVal)(σ:Heap) :
  MO (callV (S.z23.T self) v args σ K) (callV (S.z23.T self') v args σ K'):=by
 unfold callV
 split
 ·rename_i id fi ca
  unfold S.z23.T tab;generalize Nat.beq id _=b;cases b with
  |true=>exact MO.bind (MO.packs _ _ fun x=>h _ _ _ _ _) fun r=>hK _ _
  |false=>exact MO.none _
 ·exact MO.none _
theorem yjd_{self self':Int->AVal->AVal->AVal->Heap->Option (Unit×Heap)}(h:∀a b c d σ,MO (self a b c d σ) (self' a b c d σ))(k:Int)(a b c:AVal)(σ:Heap):MO (S.z23.r self k a b c σ) (S.z23.r self' k a b c σ):=by
 unfold S.z23.r;refine MO.bind (MO.rfl _) fun r=>MO.cond ?_ (MO.rfl _);refine MO.ld fun v=>MO.ld fun v=>MO.nilck (MO.fld fun a=>MO.ld fun v=>MO.ixA fun a=>MO.ld fun n=>MO.newK fun l σ=>MO.appS fun v σ=>MO.scal (MO.stC fun σ=>MO.ld fun v=>MO.callB h (fun r σ=>MO.ld fun v=>MO.callB h (fun r σ=>MO.rfl _) _ _ _) _ _ _))
theorem yfe_(n:Nat):∀k a b c σ,MO (S.z23.n n k a b c σ) (S.z23.n (n+1) k a b c σ):=by
 induction n with
 |zero=>exact fun _ _ _ _ _=>MO.none _
 |succ n ih=>exact fun k a b c σ=>yjd_ ih k a b c σ
structure BsH(σ:Heap)(T:Tg)(lh N l1 l3 l5:Nat)(hs out:List Int):Prop where
 hp:HpI σ T lh N hs
 b1:Loc (σ.at T 26) l1 [.ptr lh 0]
 b3:∃x,Loc (σ.at T 24) l3 [x]/\Own .int (σ.at T 25) out x
 b5:∃f,Loc (σ.at T 27) l5 [f]/\∀(self:Int->AVal->AVal->AVal->Heap->Option (Unit×Heap)) {R:Type} (K:AVal->Heap->Option R) (k:Int) (σ:Heap),callV (S.z23.T self) f [.int .i64 k] σ K=(self k (.ptr l1 0) (.ptr l3 0) (.ptr l5 0) σ).bind fun r=>K (retV [] r.1) r.2
def bI:Nat->Bool:=fun j=>decide (24<=j)&&decide (j<=29)
theorem Hop.inB{σ0 σ τ:Heap}{T0 T T':Tg}{t:Nat}(h:Hop bI σ0 T0 σ T)(H:Hop (only t) σ T τ T')(ht:bI t=true:=by rfl):Hop bI σ0 T0 τ T':=h.trans (H.sub (fun i hi=>by
 have:i=t:=by simpa using hi
 rw[this];exact ht))
theorem hI_bI(j:Nat)(h:hI j=true):bI j=false:=by
 simp only[hI,bI,Bool.and_eq_true,decide_eq_true_eq,Bool.and_eq_false_iff,decide_eq_false_iff_not]at h⊢;omega
section
variable{σ τ:Heap}{T T':Tg}{lh N l1 l3 l5:Nat}{hs out:List Int}
theorem HpI.hopB(p:HpI σ T lh N hs){t:Nat}(H:Hop (only t) σ T τ T')(ht:hI t=false:=by rfl):HpI τ T' lh N hs:=p.hop H fun j hj=>by
 simp only[only,beq_eq_false_iff_ne];intro e;subst e;rw[ht]at hj;cases hj
theorem yeb_(hN:N<=4000):∀(m:Nat) {σ:Heap} {T:Tg} {out:List Int} (k:Nat),BsH σ T lh N l1 l3 l5 hs out->Tn σ T->hs.length<2 ^ m*(k+1)->m<=20->k<=1000000->out.length+2 ^ m<=10000000->(∀x∈out,x∈hs) ->
  W (S.z23.n (m+1) (k:Int) (.ptr l1 0) (.ptr l3 0) (.ptr l5 0) σ) fun r=>∃T' out',Hop bI σ T r.2 T'/\BsH r.2 T' lh N l1 l3 l5 hs out'/\(∀x∈out',x∈hs)/\out'.length+1<=out.length+2 ^ m/\(out≠[]\/(k=0/\hs≠[])->out'≠[]):=by
 intro m
 induction m with
 | zero=>
  intro σ T out k B hn hk _ _ _ hout;have hlen:=B.hp.len;obtain⟨xs,xp,xh,sc,pl,⟨k1,k2,k3,k4⟩,H,e⟩:=id B.hp;have b1:=B.b1;show W (S.z23.r (S.z23.n 0) (k:Int) (.ptr l1 0) (.ptr l3 0) (.ptr l5 0) σ) _;unfold S.z23.r
  repeat' with_reducible first|refine W.bind ?_|refine W.asV ?_|refine W.fldp ?_|refine W.nck ?_|refine W.u0 ?_|refine W.u3 ?_
  refine W.condF (by simp;omega) ?_
  repeat' with_reducible refine W.ret ?_
  refine W.condF rfl ?_
  repeat' with_reducible refine W.ret ?_
  refine⟨T,out,Hop.refl hn,B,hout,by simp,fun q=>?_⟩;rcases q with q|⟨q1,q2⟩
  ·exact q
  ·subst q1
   have:hs.length=0:=by omega
   exact absurd (List.eq_nil_of_length_eq_zero this) q2
 | succ m ih=>
  intro σ T out k B hn hk hm hk6 ho7 hout;have hlen:=B.hp.len;have hp0:=B.hp;obtain⟨xs,xp,xh,sc,pl,⟨k1,k2,k3,k4⟩,H,e⟩:=hp0;have b1:=B.b1;obtain⟨x3,b3,k25⟩:=B.b3;obtain⟨f,b5,hf⟩:=B.b5;show W (S.z23.r (S.z23.n (m+1)) (k:Int) (.ptr l1 0) (.ptr l3 0) (.ptr l5 0) σ) _;unfold S.z23.r;have hnil:∀(q:k=0/\hs≠[]) ,k<hs.length:=fun q=>by
   have:=List.length_pos_iff.2 q.2;omega
  have hpow:1<=2 ^ m:=Nat.one_le_two_pow;have hp2:2 ^ (m+1)=2 ^ m+2 ^ m:=by rw[Nat.pow_succ];omega
  have hsmall:2 ^ (m+1)<=1048576:=Nat.pow_le_pow_right (n:=2) (by omega) hm;refine W.bind ?_;refine W.mono (P:=fun b=>(b=true->k<hs.length)/\(k=0->hs≠[]->b=true)) ?_ fun b hb=>?_
  ·repeat' with_reducible first|refine W.asV ?_|refine W.fldp ?_|refine W.nck ?_|refine W.u0 ?_|refine W.u3 ?_
   (with_reducible refine W.cnd (fun hkl=>?_) (fun hkl=>?_)<;>(try simp only[qq,Kd.ty]at hkl)<;>(try (exfalso;omega)))
   ·obtain⟨a,ha⟩:=y3_ (xs:=hs) (i:=k) (by omega)
    obtain⟨d,hd⟩:=y3_ (xs:=hs) (i:=0) (by omega);obtain⟨wa,rfl,hwa⟩:=H.nat ha;obtain⟨wd,rfl,hwd⟩:=H.nat hd;obtain⟨sa,hsa⟩:=y3_ (xs:=sc) (i:=wa) hwa;obtain⟨sd,hsd⟩:=y3_ (xs:=sc) (i:=wd) hwd
    repeat' with_reducible first|refine W.asV ?_|refine W.fldp ?_|refine W.nck ?_|refine W.u0 ?_|refine W.u2 ?_
    refine W.ixIc (i:=0) k4.slT hd ?_
    repeat' with_reducible first|refine W.ret ?_|refine W.u2 ?_
    refine⟨fun _=>by omega,fun q _=>?_⟩;subst q;rw[ha]at hd;have:wa=wd:=Int.ofNat.inj (Option.some.inj hd);subst this;rw[hsa]at hsd;have:=Option.some.inj hsd;simp[this]
   ·repeat' with_reducible refine W.ret ?_
    refine⟨fun q=>by simp at q,fun q1 q2=>?_⟩;have:=List.length_pos_iff.2 q2;omega
  ·cases b with
   |false=>
    refine W.condF rfl ?_
    repeat' with_reducible refine W.ret ?_
    refine⟨T,out,Hop.refl hn,B,hout,by omega,fun q=>?_⟩;rcases q with q|⟨q1,q2⟩
    ·exact q
    ·have:=hb.2 q1 q2;cases this
   | true=>
    have hkl:=hb.1 rfl;refine W.condT rfl ?_;obtain⟨a,ha⟩:=y3_ (xs:=hs) (i:=k) hkl
    repeat' with_reducible first|refine W.asV ?_|refine W.fldp ?_|refine W.nck ?_|refine W.u0 ?_|refine W.u2 ?_
    refine W.own_push (bytes:=8) Vw.int_flat k25 hn (a:=a) rfl (by omega) (by omega) fun x2 τ2 T2 k25 H2=>?_;have HH:Hop bI σ T τ2 T2:=(Hop.refl hn).inB H2;have p2:=B.hp.hopB H2;replace b1:=b1.hop H2;replace b3:=b3.hop H2;replace b5:=b5.hop H2;replace hn:=H2.tn
    repeat' (with_reducible refine W.u4 ?_)
    refine W.stT b3 hn (Nat.le_of_ble_eq_true (by rfl)) fun τ3 H3 b3 hnτ3=>?_;replace HH:=HH.inB H3;have p3:=p2.hopB H3;replace b1:=b1.hop H3;replace b5:=b5.hop H3;replace k25:=k25.hop H3;replace hn:=H3.tn;have B3:BsH τ3 T2 lh N l1 l3 l5 hs (out++[a]):=⟨p3,b1,⟨x2,b3,k25⟩,f,b5,hf⟩;have w1:IntKind.i64.wrap (2*(k:Int))=((2*k:Nat):Int):=by rw[wrapS]<;>omega
    have w2:IntKind.i64.wrap (((2*k:Nat):Int)+1)=((2*k+1:Nat):Int):=by rw[wrapS]<;>omega
    have w3:IntKind.i64.wrap (((2*k:Nat):Int)+2)=((2*k+2:Nat):Int):=by rw[wrapS]<;>omega
    rw[w1,w2,w3]
    repeat' with_reducible first|refine W.asV ?_|refine W.u0 ?_
    refine W.to (hf _ _ _ _) ?_;have hmul:2 ^ (m+1)*(k+1)=2 ^ m*(2*k+1+1):=by
     have e2:2*k+1+1=2*(k+1):=by omega
     rw[e2,hp2,<-Nat.two_mul,Nat.mul_comm 2,Nat.mul_assoc]
    have hlt1:hs.length<2 ^ m*(2*k+1+1):=by rw[<-hmul];exact hk
    have hmul2:2 ^ m*(2*k+1+1)<=2 ^ m*(2*k+2+1):=Nat.mul_le_mul_left _ (by omega);refine W.bind ?_;have hlt2:hs.length<2 ^ m*(2*k+2+1):=Nat.lt_of_lt_of_le hlt1 hmul2;refine W.mono (ih (2*k+1) B3 hn hlt1 (by omega) (by omega) (by simp;omega) (fun x hx=>by
     rcases List.mem_append.1 hx with q|q
     ·exact hout x q
     ·rw[List.mem_singleton.1 q];exact List.mem_of_getElem? ha)) fun r hr=>?_
    obtain⟨r,τ4⟩:=r;obtain⟨T4,out4,H4,B4,hout4,hlen4,hne4⟩:=hr;dsimp only at H4 B4⊢;replace HH:=HH.trans H4;obtain⟨f',b5,hf'⟩:=B4.b5
    repeat' with_reducible first|refine W.asV ?_|refine W.u0 ?_
    refine W.to (hf' _ _ _ _) ?_;simp at hlen4;refine W.bind ?_;refine W.mono (ih (2*k+2) B4 H4.tn hlt2 (by omega) (by omega) (by omega) hout4) fun r hr=>?_;obtain⟨r,τ5⟩:=r;obtain⟨T5,out5,H5,B5,hout5,hlen5,hne5⟩:=hr
    repeat' with_reducible refine W.ret ?_
    exact⟨T5,out5,HH.trans H5,B5,hout5,by omega,fun _=>hne5 (.inl (hne4 (.inl (by simp))))⟩
theorem yjv_{t:Nat}{xs:List Int}{x:AVal}(h:Own .int (σ.at T t) xs x)(hn:Tn σ T)(hne:xs≠[])(hb:xs.length<=100000000):W (S.z135 x σ) fun r=>Own .int (r.2.at T t) (yx_ xs) x/\Hop (only t) σ T r.2 T:=by
 rcases h with ⟨_,rfl⟩|⟨l,off,c,cs,rfl,h2,h3,h4,h5,h6⟩
 ·exact absurd rfl hne
 obtain⟨e1,e2⟩:=y1g_.1 h3;have hsz:Vw.int.sz=1:=rfl;rw[hsz]at h3 h4 h5 h6 e2;simp only[Nat.mul_one]at h4 h5 h6;have hpos:=List.length_pos_iff.2 hne;have hcs:(cs.drop off).take xs.length=xs.map (.int .i64):=by
  apply List.ext_getElem? fun i=>?_;by_cases hi:i<xs.length
  ·obtain⟨a,ha⟩:=y3_ (xs:=xs) (i:=i) hi
   have:=h6 i a ha;have this:(cs.drop (off+i)).take 1=[.int .i64 a]:=this;rw[List.getElem?_take_of_lt hi,List.getElem?_map,ha,List.getElem?_drop];have h7:=congrArg (·[0]?) this;simp only[List.getElem?_take_of_lt (show 0<1 by omega),List.getElem?_drop,Nat.add_zero]at h7;rw[h7];rfl
  ·rw[List.getElem?_eq_none (by simp;omega),List.getElem?_eq_none (by simp;omega)]
 unfold S.z135;refine⟨((),σ.set l (.cells .rw 1 (cs.take off++(yx_ xs).map (.int .i64)++cs.drop (off+xs.length)))),?_,?_,y3d_ hn e1⟩
 ·simp only[sortS,e2]
  rw[if_pos ⟨hpos,h5,by omega⟩,hcs,yag_]
 ·have hsl:=y43_ xs
  refine .inr ⟨l,off,c,_,by rw[hsl],h2,at_of e1 (y4s_ ..),fun k e=>?_,?_,fun i a ha=>?_⟩
  ·have:=h4 k e
   simp[hsz,hsl];omega
  ·simp[hsz,hsl];omega
  ·have hi:=y2_ ha
   rw[hsz,Nat.mul_one];show _=_;rw[List.drop_eq_getElem_cons (by simp;omega),List.take_succ_cons,List.take_zero]
   congr 1
   have:(cs.take off++(yx_ xs).map (AVal.int .i64)++cs.drop (off+xs.length))[off+i]?=some (.int .i64 a):=by
    rw[List.append_assoc,List.getElem?_append_right (by simp;omega),List.getElem?_append_left (by simp;omega),List.getElem?_map];rw[show off+i-(cs.take off).length=i by simp;omega,ha];rfl
   exact(List.getElem?_eq_some_iff.1 this).2
theorem yjr_(p:HpI σ T lh N hs)(hn:Tn σ T)(hN:N<=4000)(hne:hs≠[]):W (S.z22 (.ptr lh 0) σ) fun r=>∃T' out,Hop bI σ T r.2 T'/\Own .int (r.2.at T' 25) out r.1/\out≠[]/\out.length<=10000000/\∀x∈out,x∈hs:=by
 have hlen:=p.len;unfold S.z22
 repeat' (with_reducible refine W.scP ?_)
 refine W.newT 26 hn fun l1 τ1 T1 hl1 H1 b1 hnτ1=>?_;have HH:Hop bI σ T τ1 T1:=(Hop.refl hn).inB H1;replace p:=p.hopB H1;replace hn:=HH.tn;refine W.newT 24 hn fun l3 τ2 T2 hl3 H2 b3 hnτ2=>?_;replace HH:=HH.inB H2;replace p:=p.hopB H2;replace b1:=b1.hop H2;replace hn:=H2.tn;refine W.newT 27 hn fun l5 τ3 T3 hl5 H3 b5 hnτ3=>?_;replace HH:=HH.inB H3;replace p:=p.hopB H3;replace b1:=b1.hop H3;replace b3:=b3.hop H3;replace hn:=H3.tn;refine W.stT b5 hn (Nat.le_of_ble_eq_true (by rfl)) fun τ4 H4 b5 hnτ4=>?_;replace HH:=HH.inB H4;replace p:=p.hopB H4;replace b1:=b1.hop H4;replace b3:=b3.hop H4;replace hn:=H4.tn
 repeat' with_reducible first|refine W.asV ?_|refine W.u0 ?_
 have B:BsH τ4 T3 lh N l1 l3 l5 hs []:=⟨p,b1,⟨_,b3,.nil⟩,_,b5,fun self R K k σ=>rfl⟩;show W ((S.z23 ((0:Nat):Int) (.ptr l1 0) (.ptr l3 0) (.ptr l5 0) τ4).bind fun r=>_) _;refine W.bind ?_;unfold S.z23;refine W.mono (W.lim (fun m=>yfe_ m _ _ _ _ _) 13 (yeb_ hN 12 0 B HH.tn (by omega) (by omega) (by omega) (by simp) (fun x hx=>by cases hx))) fun r hr=>?_;obtain⟨r,τ5⟩:=r;obtain⟨T5,out,H5,B5,hout,hol,hone⟩:=hr;dsimp only at H5 B5⊢;replace HH:=HH.trans H5;obtain⟨x,b3,k25⟩:=B5.b3;simp at hol
 repeat' with_reducible first|refine W.bind ?_|refine W.asV ?_|refine W.u0 ?_
 refine W.mono (yjv_ k25 HH.tn (hone (.inr ⟨rfl,hne⟩)) (by omega)) fun r hr=>?_;obtain⟨r,τ6⟩:=r;obtain⟨k25,H6⟩:=hr;dsimp only at k25 H6⊢;replace b3:=b3.hop H6
 repeat' with_reducible first|refine W.ret ?_|refine W.asV ?_|refine W.u0 ?_
 have hmem:∀x,x∈yx_ out↔x∈out:=fun x=>(List.mergeSort_perm _ _).mem_iff;refine⟨T5,yx_ out,HH.inB H6,k25,fun e=>?_,by rw[y43_];omega,fun x hx=>hout x ((hmem x).1 hx)⟩;have:=y43_ out;rw[e]at this;exact hone (.inr ⟨rfl,hne⟩) (List.eq_nil_of_length_eq_zero this.symm)
end
end
end
section
open Go
def hbI:Nat->Bool:=fun j=>(decide (11<=j)&&decide (j<=14))||(decide (24<=j)&&decide (j<=29))
theorem Hop.hb{σ τ:Heap}{T T':Tg}(H:Hop hI σ T τ T'):Hop hbI σ T τ T':=H.sub fun i hi=>by simp only[hI,hbI,Bool.or_eq_true,Bool.and_eq_true,decide_eq_true_eq]at hi⊢;omega
theorem Hop.bb{σ τ:Heap}{T T':Tg}(H:Hop bI σ T τ T'):Hop hbI σ T τ T':=H.sub fun i hi=>by simp only[bI,hbI,Bool.or_eq_true,Bool.and_eq_true,decide_eq_true_eq]at hi⊢;omega
section
variable{σ τ:Heap}{T T':Tg}{lh N:Nat}{hs:List Int}
theorem ygd_(p:HpI σ T lh N hs)(hn:Tn σ T)(hN:N<=4000)(hne:hs≠[]){tie:Int}:W (S.z19 (.ptr lh 0) tie σ) fun r=>∃v:Nat,r.1=((v:Int),true)/\(v:Int)∈hs/\∃T' hs',Hop hbI σ T r.2 T'/\HpI r.2 T' lh N hs'/\∀x,x∈hs'↔x∈hs/\x≠(v:Int):=by
 have hlen:=p.len;have hpos:=List.length_pos_iff.2 hne;have p0:=p;obtain⟨xs,xp,xh,sc,pl,⟨k1,k2,k3,k4⟩,H,e⟩:=p;obtain⟨a,ha⟩:=y3_ (xs:=hs) (i:=0) hpos;unfold S.z19
 repeat' with_reducible first|refine W.asV ?_|refine W.fldp ?_|refine W.nck ?_|refine W.u0 ?_|refine W.u3 ?_
 refine W.condF (by simpa using hne) ?_
 repeat' with_reducible first|refine W.asV ?_|refine W.fldp ?_|refine W.nck ?_|refine W.u0 ?_
 refine W.ixIc (i:=0) k4.slT ha ?_;refine W.bind ?_;refine W.mono (P:=fun r=>r.1∈hs/\∃T',Hop hbI σ T r.2 T'/\HpI r.2 T' lh N hs) ?_ fun r hr=>?_
 ·by_cases ht:tie=0
  ·refine W.condF (by simp[ht]) ?_
   repeat' with_reducible refine W.ret ?_
   exact⟨List.mem_of_getElem? ha,T,Hop.refl hn,p0⟩
  ·refine W.condT (by simp[ht]) ?_
   refine W.bind ?_;refine W.mono (yjr_ p0 hn hN hne) fun r hr=>?_;obtain⟨y,τ1⟩:=r;obtain⟨T1,out,H1,k25,hone,hol,hout⟩:=hr;dsimp only at H1 k25⊢;have p1:=p0.hop H1 hI_bI;have hopos:=List.length_pos_iff.2 hone
   repeat' (with_reducible refine W.u3 ?_)
   rw[if_neg (by omega)]
   repeat' (with_reducible refine W.u3 ?_)
   rw[if_neg (by omega)];have r1 : -(out.length:Int)<Int.tmod tie out.length/\Int.tmod tie out.length<out.length:=⟨by have:=Int.tmod_lt_of_pos (-tie) (show(0:Int)<out.length by omega);rw[Int.neg_tmod]at this;omega,Int.tmod_lt_of_pos _ (by omega)⟩;have w:IntKind.i64.wrap (Int.tmod tie out.length+out.length)=Int.tmod tie out.length+out.length:=by rw[wrapS]<;>omega
   rw[w];have r2:0<=Int.tmod (Int.tmod tie out.length+out.length) out.length/\Int.tmod (Int.tmod tie out.length+out.length) out.length<out.length:=⟨Int.tmod_nonneg _ (by omega),Int.tmod_lt_of_pos _ (by omega)⟩;refine W.ixIn k25.slT r2.1 r2.2 fun d hd=>?_
   repeat' with_reducible refine W.ret ?_
   exact⟨hout d (List.mem_of_getElem? hd),T1,H1.bb,p1⟩
 ·obtain⟨d,τ1⟩:=r
  obtain⟨hd,T1,H1,p1⟩:=hr;dsimp only at hd H1 p1⊢;have p1':=p1;obtain⟨xs,xp,xh,sc,pl,⟨k1,k2,k3,k4⟩,H,e⟩:=p1;obtain⟨j,hj⟩:=yb_ hd;obtain⟨v,rfl,hv⟩:=H.nat hj;have hl:=H.len;have hpj:=(H.at_ v j hv).2 hj;have hpw:pl[v]?=some ((j:Int)+1):=by
   obtain⟨b,hb⟩:=y3_ (xs:=pl) (i:=v) (by omega);rw[List.getD_eq_getElem?_getD,hb]at hpj;rw[hb];exact congrArg some hpj
  have hjl:=y2_ hj;have w2:IntKind.i64.wrap (((j:Int)+1)-1)=(j:Int):=by rw[wrapS]<;>omega
  repeat' with_reducible first|refine W.bind ?_|refine W.asV ?_|refine W.fldp ?_|refine W.nck ?_|refine W.u0 ?_|refine W.u2 ?_
  rw[w2];refine W.mono (ye6_ p1' H1.tn hN hj) fun r hr=>?_;obtain⟨r,τ2⟩:=r;obtain⟨er,T2,hs2,H2,p2,hm2⟩:=hr;dsimp only at er H2 p2⊢;subst er
  repeat' with_reducible refine W.ret ?_
  exact⟨v,rfl,hd,T2,hs2,H1.trans H2.hb,p2,hm2⟩
def TnI(σ:Heap)(T:Tg)(x:AVal)(k:Int):Prop:=∃xs:List Int,SlV .int (σ.at T 0) xs x/\xs.length<=1000000/\0<=k/\(xs.length=0\/k<xs.length)
structure PcI(σ:Heap)(T:Tg)(lq:Nat)(most since least:Int):Prop where
 ex:∃x0 k0 x1 k1 x2 k2 x3 k3 came,Loc (σ.at T 30) lq [x0,.int .i64 k0,x1,.int .i64 k1,x2,.int .i64 k2,x3,.int .i64 k3,.int .i64 most,.int .i64 came,.int .i64 since,.int .i64 least]/\TnI σ T x0 k0/\TnI σ T x1 k1/\TnI σ T x2 k2/\TnI σ T x3 k3
variable{lq:Nat}{most since least k:Int}{x:AVal}{I:Nat->Bool}
theorem TnI.hop(h:TnI σ T x k)(H:Hop I σ T τ T')(h0:I 0=false:=by rfl):TnI τ T' x k:=by
 obtain⟨xs,h1,h2⟩:=h;exact⟨xs,h1.hop H h0,h2⟩
theorem PcI.hop(p:PcI σ T lq most since least)(H:Hop I σ T τ T')(h0:I 0=false:=by rfl)(h30:I 30=false:=by rfl):PcI τ T' lq most since least:=by
 obtain⟨x0,k0,x1,k1,x2,k2,x3,k3,came,h,q0,q1,q2,q3⟩:=p.ex;exact⟨⟨x0,k0,x1,k1,x2,k2,x3,k3,came,h.hop H h30,q0.hop H h0,q1.hop H h0,q2.hop H h0,q3.hop H h0⟩⟩
theorem TnI.hle(h:TnI σ T x k)(L:Hle σ τ):TnI τ T x k:=by
 obtain⟨xs,h1,h2⟩:=h;exact⟨xs,h1.hle L,h2⟩
theorem PcI.hle(p:PcI σ T lq most since least)(L:Hle σ τ):PcI τ T lq most since least:=by
 obtain⟨x0,k0,x1,k1,x2,k2,x3,k3,came,h,q0,q1,q2,q3⟩:=p.ex;exact⟨⟨x0,k0,x1,k1,x2,k2,x3,k3,came,h.hle L,q0.hle L,q1.hle L,q2.hle L,q3.hle L⟩⟩
theorem y9u_{cs:List AVal}{o:Nat}(h:Loc (σ.at T 30) lq cs)(hn:Tn σ T)(ho:o+2<=cs.length)(hx:cs[o]?=some x)(hk:cs[o+1]?=some (.int .i64 k))(ht:TnI σ T x k) :
  W (S.z54 (.ptr lq o) σ) fun r=>∃k',Hop (only 30) σ T r.2 T/\Loc (r.2.at T 30) lq (cs.set (o+1) (.int .i64 k'))/\TnI r.2 T x k':=by
 obtain⟨xs,h1,h2,h3,h4⟩:=ht;have h1u:=h1.up;have hu:=h.up;unfold S.z54;have R0:∀{Q:(Int×Heap)->Prop} {K:AVal->Option (Int×Heap)},W (K x) Q->W (fld (.ptr lq o) 0 fun a=>ld σ a .V K) Q:=fun {Q K} c=>by
  refine W.fldp ?_;exact W.ldL hu hx (W.asV c)
 have R1:∀{Q:(Int×Heap)->Prop} {K:Int->Option (Int×Heap)},W (K k) Q->W (fld (.ptr lq o) 1 fun a=>ld σ a (.I .i64) K) Q:=fun {Q K} c=>by
  refine W.fldp ?_;exact W.ldL hu hk (W.asI c)
 refine W.nck (R0 (W.len h1u ?_));by_cases hz:xs.length=0
 ·refine W.condT (by simpa using hz) ?_
  refine W.ret ⟨k,Hop.refl hn,?_,xs,h1,h2,h3,h4⟩;have:cs.set (o+1) (.int .i64 k)=cs:=by
   obtain⟨g1,g2⟩:=List.getElem?_eq_some_iff.1 hk;rw[<-g2,List.set_getElem_self]
  rw[this];exact h
 ·refine W.condF (by simpa using hz) ?_
  have hkl:k<xs.length:=h4.resolve_left hz;refine W.nck (R0 (W.nck (R1 ?_)));refine W.ixIn h1u h3 hkl fun d hd=>?_;refine W.nck (R1 (W.nck (R0 (W.len h1u ?_))));rw[if_neg (by omega)];refine W.nck (W.fldp ?_);refine W.stT h hn (by simp;omega) fun τ1 H1 h5 _=>?_;refine W.ret ?_;have w:IntKind.i64.wrap (k+1)=k+1:=by rw[wrapS]<;>omega
  rw[w]at h5;have e:cs.take (o+1)++[AVal.int .i64 (Int.tmod (k+1) xs.length)]++cs.drop (o+1+[AVal.int .i64 (Int.tmod (k+1) xs.length)].length)=cs.set (o+1) (.int .i64 (Int.tmod (k+1) xs.length)):=by
   rw[List.set_eq_take_append_cons_drop,if_pos (by omega)];simp
  rw[e]at h5;exact⟨_,H1,h5,xs,h1.hop H1,h2,Int.tmod_nonneg _ (by omega),.inr (Int.tmod_lt_of_pos _ (by omega))⟩
theorem yet_(p:PcI σ T lq most since least)(hn:Tn σ T)(hm:most<=0)(hs0:0<=since/\since<=4000000000000000000):W (S.z49 (.ptr lq 0) σ) fun r=>r.1=true/\Hop (only 30) σ T r.2 T/\PcI r.2 T lq most (since+1) least:=by
 obtain⟨x0,k0,x1,k1,x2,k2,x3,k3,came,h,u0,u1,u2,u3⟩:=p.ex;have w:IntKind.i64.wrap (since+1)=since+1:=by rw[wrapS]<;>omega
 unfold S.z49
 repeat' with_reducible first|refine W.asI ?_|refine W.fldp ?_|refine W.nck ?_|refine W.u0 ?_
 refine W.stT h hn (Nat.le_of_ble_eq_true (by rfl)) fun τ1 H1 h hnτ1=>?_;replace hn:=H1.tn
 repeat' with_reducible first|refine W.asI ?_|refine W.fldp ?_|refine W.nck ?_|refine W.u0 ?_
 rw[w];refine W.stT h hn (Nat.le_of_ble_eq_true (by rfl)) fun τ2 H2 h hnτ2=>?_
 repeat' with_reducible first|refine W.bind ?_|refine W.asI ?_|refine W.fldp ?_|refine W.nck ?_|refine W.u0 ?_
 refine W.condT (by simpa using hm) ?_
 repeat' with_reducible refine W.ret ?_
 have HH:=H1.trans H2;exact⟨rfl,HH,x0,k0,x1,k1,x2,k2,x3,k3,_,h,u0.hop HH,u1.hop HH,u2.hop HH,u3.hop HH⟩
theorem yf3_(p:PcI σ T lq most since least)(hn:Tn σ T)(hl:0<=least/\least<=4000000000000000000):W (S.z51 (.ptr lq 0) σ) fun r=>∃since' least',Hop (only 30) σ T r.2 T/\PcI r.2 T lq most since' least'/\((r.1=false/\since'=since/\least'=least)\/(r.1=true/\least<=since/\since'=0/\least'=least+8)):=by
 obtain⟨x0,k0,x1,k1,x2,k2,x3,k3,came,h,u0,u1,u2,u3⟩:=p.ex;have w:IntKind.i64.wrap (least+8)=least+8:=by rw[wrapS]<;>omega
 unfold S.z51
 repeat' with_reducible first|refine W.bind ?_|refine W.asI ?_|refine W.fldp ?_|refine W.nck ?_|refine W.u0 ?_
 (with_reducible refine W.cnd (fun hc=>?_) (fun hc=>?_)<;>(try simp only[qq,Kd.ty]at hc)<;>(try (exfalso;omega)))
 ·repeat' with_reducible refine W.ret ?_
  refine W.condT rfl ?_
  repeat' with_reducible refine W.ret ?_
  exact⟨since,least,Hop.refl hn,p,.inl ⟨rfl,rfl,rfl⟩⟩
 ·have hls:least<=since:=by omega
  repeat' with_reducible first|refine W.bind ?_|refine W.fldp ?_|refine W.nck ?_
  refine W.mono (y9u_ (o:=0) h hn (by simp) rfl rfl u0) fun r hr=>?_;obtain⟨n,τ1⟩:=r;obtain⟨k',H1,h,u0⟩:=hr;dsimp only at H1 h u0⊢;simp only[List.set_cons_succ,List.set_cons_zero]at h;have u1:=u1.hop H1;have u2:=u2.hop H1;have u3:=u3.hop H1;replace hn:=H1.tn
  repeat' with_reducible refine W.ret ?_
  generalize (IntKind.i64.wrap _==(0:Int))=b;cases b with
  |true=>
   refine W.condT rfl ?_
   repeat' with_reducible refine W.ret ?_
   exact⟨since,least,H1,⟨x0,k',x1,k1,x2,k2,x3,k3,came,h,u0,u1,u2,u3⟩,.inl ⟨rfl,rfl,rfl⟩⟩
  |false=>
   refine W.condF rfl ?_
   repeat' with_reducible first|refine W.fldp ?_|refine W.nck ?_
   refine W.stT h hn (Nat.le_of_ble_eq_true (by rfl)) fun τ2 H2 h hnτ2=>?_;replace hn:=H2.tn
   repeat' with_reducible first|refine W.asI ?_|refine W.fldp ?_|refine W.nck ?_|refine W.u0 ?_
   rw[w];refine W.stT h hn (Nat.le_of_ble_eq_true (by rfl)) fun τ3 H3 h hnτ3=>?_
   repeat' with_reducible refine W.ret ?_
   have HH:=H2.trans H3;exact⟨0,least+8,H1.trans HH,⟨x0,k',x1,k1,x2,k2,x3,k3,came,h,u0.hop HH,u1.hop HH,u2.hop HH,u3.hop HH⟩,.inr ⟨rfl,hls,rfl,rfl⟩⟩
theorem yjj_(p:PcI σ T lq most since least)(hn:Tn σ T){score:Int}:W (S.z50 (.ptr lq 0) score σ) fun r=>Hop (only 30) σ T r.2 T/\PcI r.2 T lq most since least:=by
 obtain⟨x0,k0,x1,k1,x2,k2,x3,k3,came,h,u0,u1,u2,u3⟩:=p.ex;unfold S.z50;refine W.bind ?_
 (with_reducible refine W.cnd (fun hc=>?_) (fun hc=>?_)<;>(try simp only[qq,Kd.ty]at hc)<;>(try (exfalso;omega)))
 ·repeat' with_reducible refine W.ret ?_
  exact⟨Hop.refl hn,p⟩
 ·repeat' with_reducible first|refine W.bind ?_|refine W.fldp ?_|refine W.nck ?_
  refine W.mono (y9u_ (o:=2) h hn (by simp) rfl rfl u1) fun r hr=>?_;obtain⟨n,τ1⟩:=r;obtain⟨k',H1,h,u1⟩:=hr;dsimp only at H1 h u1⊢;simp only[List.set_cons_succ,List.set_cons_zero]at h
  repeat' with_reducible refine W.ret ?_
  exact⟨H1,x0,k0,x1,k',x2,k2,x3,k3,came,h,u0.hop H1,u1,u2.hop H1,u3.hop H1⟩
theorem tie_w(p:PcI σ T lq most since least)(hn:Tn σ T):W (S.z53 (.ptr lq 0) σ) fun r=>Hop (only 30) σ T r.2 T/\PcI r.2 T lq most since least:=by
 obtain⟨x0,k0,x1,k1,x2,k2,x3,k3,came,h,u0,u1,u2,u3⟩:=p.ex;unfold S.z53
 repeat' with_reducible first|refine W.bind ?_|refine W.fldp ?_|refine W.nck ?_
 refine W.mono (y9u_ (o:=4) h hn (by simp) rfl rfl u2) fun r hr=>?_;obtain⟨n,τ1⟩:=r;obtain⟨k',H1,h,u2⟩:=hr;dsimp only at H1 h u2⊢;simp only[List.set_cons_succ,List.set_cons_zero]at h;have p1:PcI τ1 T lq most since least:=⟨x0,k0,x1,k1,x2,k',x3,k3,came,h,u0.hop H1,u1.hop H1,u2,u3.hop H1⟩
 (with_reducible refine W.cnd (fun hc=>?_) (fun hc=>?_)<;>(try simp only[qq,Kd.ty]at hc)<;>(try (exfalso;omega)))
 ·repeat' with_reducible refine W.ret ?_
  exact⟨H1,p1⟩
 ·repeat' with_reducible refine W.ret ?_
  exact⟨H1,p1⟩
theorem ykc_(p:PcI σ T lq most since least)(hn:Tn σ T){saved:Int}:W (S.z52 (.ptr lq 0) saved σ) fun r=>Hop (only 30) σ T r.2 T/\PcI r.2 T lq most since least:=by
 obtain⟨x0,k0,x1,k1,x2,k2,x3,k3,came,h,u0,u1,u2,u3⟩:=p.ex;unfold S.z52
 repeat' with_reducible first|refine W.bind ?_|refine W.fldp ?_|refine W.nck ?_
 refine W.mono (y9u_ (o:=6) h hn (by simp) rfl rfl u3) fun r hr=>?_;obtain⟨n,τ1⟩:=r;obtain⟨k',H1,h,u3⟩:=hr;dsimp only at H1 h u3⊢;simp only[List.set_cons_succ,List.set_cons_zero]at h;have p1:Hop (only 30) σ T τ1 T/\PcI τ1 T lq most since least:=⟨H1,x0,k0,x1,k1,x2,k2,x3,k',came,h,u0.hop H1,u1.hop H1,u2.hop H1,u3⟩;generalize Int.tmod _ 4=m;refine W.bind ?_;refine W.mono (P:=fun _=>True) ?_ fun r _=>?_
 ·refine W.bind ?_
  refine W.mono (P:=fun _=>True) ?_ fun r _=>?_
  ·(with_reducible refine W.cnd (fun h1=>?_) (fun h1=>?_)<;>(try simp only[qq,Kd.ty]at h1)<;>(try (exfalso;omega)))
   ·(with_reducible refine W.cnd (fun h2=>?_) (fun h2=>?_)<;>(try simp only[qq,Kd.ty]at h2)<;>(try (exfalso;omega)))
    ·repeat' with_reducible refine W.ret ?_
     trivial
    ·repeat' with_reducible refine W.ret ?_
     trivial
   ·(with_reducible refine W.cnd (fun h2=>?_) (fun h2=>?_)<;>(try simp only[qq,Kd.ty]at h2)<;>(try (exfalso;omega)))
    ·repeat' with_reducible refine W.ret ?_
     trivial
    ·(with_reducible refine W.cnd (fun h3=>?_) (fun h3=>?_)<;>(try simp only[qq,Kd.ty]at h3)<;>(try (exfalso;omega)))
     ·repeat' with_reducible refine W.ret ?_
      trivial
     ·repeat' with_reducible refine W.ret ?_
      trivial
  ·rcases r with r|r|r|r
   ·repeat' with_reducible refine W.ret ?_
    trivial
   ·repeat' with_reducible refine W.ret ?_
    trivial
   ·repeat' with_reducible refine W.ret ?_
    trivial
   ·repeat' with_reducible refine W.ret ?_
    trivial
 ·rcases r with r|r
  ·repeat' with_reducible refine W.ret ?_
   exact p1
  ·repeat' with_reducible refine W.ret ?_
   exact p1
end
end
section
open Go
def codeF(n:Nat)(ms:List Int):Nat->Nat
 |0=>0
 |k+1=>codeF n ms k+(if(k:Int)∈ms then 0 else 2 ^ (n-1-k))
def codeW(n:Nat)(ms:List Int)(k:Nat):Nat:=codeF n ms k+(if k<n then 2 ^ (n-1-k)else 0)
section
variable{n k p:Nat}{ms ms':List Int}
theorem y75_(h:k<n):2 ^ (n-k)=2 ^ (n-1-k)+2 ^ (n-1-k):=by
 obtain⟨d,rfl⟩:∃d,n=k+1+d:=⟨n-(k+1),by omega⟩;rw[show k+1+d-k=d+1 by omega,show k+1+d-1-k=d by omega,Nat.pow_succ];omega
theorem yee_(h:k<n):codeF n ms (k+1)+2 ^ (n-(k+1))<=codeF n ms k+2 ^ (n-k):=by
 have:=y75_ h;have hp0:0<2 ^ (n-1-k):=Nat.two_pow_pos _;rw[show n-(k+1)=n-1-k by omega];simp only[codeF]
 split<;>omega
theorem y67_:∀(d p:Nat),p+d<=n->codeF n ms (p+d)+2 ^ (n-(p+d))<=codeF n ms p+2 ^ (n-p)
 |0,p,_=>Nat.le_refl _
 |d+1,p,h=>by
  have h1:=y67_ d p (by omega);have h2:=yee_ (n:=n) (ms:=ms) (k:=p+d) (by omega);rw[show p+(d+1)=p+d+1 by omega];omega
theorem y8a_(h:p<=k):codeF n ms p<=codeF n ms k:=by
 obtain⟨d,rfl⟩:∃d,k=p+d:=⟨k-p,by omega⟩
 clear h
 induction d with
 |zero=>exact Nat.le_refl _
 |succ d ih=>rw[show p+(d+1)=p+d+1 by omega];simp only[codeF];omega
theorem y80_(h:∀j:Nat,j<k->((j:Int)∈ms↔(j:Int)∈ms')):codeF n ms k=codeF n ms' k:=by
 induction k with
 |zero=>rfl
 |succ k ih=>
  simp only[codeF];rw[ih fun j hj=>h j (by omega)]
  congr 1
  by_cases e:(k:Int)∈ms
  ·rw[if_pos e,if_pos ((h k (by omega)).1 e)]
  ·rw[if_neg e,if_neg fun q=>e ((h k (by omega)).2 q)]
theorem ybb_(h:k<=n):codeW n ms k<=2 ^ n:=by
 have h1:=y67_ (n:=n) (ms:=ms) k 0 (by omega);simp only[Nat.zero_add,codeF,Nat.sub_zero]at h1;have hp0:0<2 ^ (n-1-k):=Nat.two_pow_pos _;have hp1:0<2 ^ (n-k):=Nat.two_pow_pos _;unfold codeW
 split
 ·rename_i hk
  have:=y75_ hk;omega
 ·omega
theorem yev_(hp:(p:Int)∈ms)(hpk:p<k)(hk:k<=n)(h:∀j:Nat,j<p->((j:Int)∈ms↔(j:Int)∈ms')):codeW n ms k<codeW n ms' p:=by
 obtain⟨d,rfl⟩:∃d,k=p+1+d:=⟨k-(p+1),by omega⟩;have h1:=y67_ (n:=n) (ms:=ms) d (p+1) hk;have h2:codeF n ms (p+1)=codeF n ms p:=by simp only[codeF];rw[if_pos hp];omega
 have h3:=y80_ (n:=n) h;have h4:0<2 ^ (n-(p+1+d)):=Nat.two_pow_pos _;unfold codeW;rw[if_pos (show p<n by omega),<-h3];have h5:n-(p+1)=n-1-p:=by omega
 rw[h5,h2]at h1
 split
 ·rename_i hlt
  have:=y75_ hlt;omega
 ·omega
theorem yc7_(h:p<=k)(hk:k<=n)(hms:∀j:Nat,p<=j->(j:Int)∉ms):codeW n ms p<=codeW n ms k/\(p<k->codeW n ms p<=codeF n ms k):=by
 have key:p<k->codeW n ms p<=codeF n ms k:=fun hlt=>by
  have h1:=y8a_ (n:=n) (ms:=ms) (p:=p+1) (k:=k) (by omega);have h2:codeF n ms (p+1)=codeF n ms p+2 ^ (n-1-p):=by simp only[codeF];rw[if_neg (hms p (Nat.le_refl _))]
  unfold codeW;rw[if_pos (by omega)];omega
 refine⟨?_,key⟩;by_cases e:p=k
 ·subst e;exact Nat.le_refl _
 ·have:=key (by omega)
  unfold codeW at this⊢;omega
def rkF(n:Nat)(ms:List Int):Nat->Nat
 |0=>0
 |k+1=>rkF n ms k+(if(k:Int)∈ms then 1 else 2 ^ (n-k))
def rkW(n:Nat)(ms:List Int)(k:Nat):Nat:=rkF n ms k+(if k<n then 2 ^ (n-k)else 0)
theorem yhp_(h:k<n):rkF n ms (k+1)+2 ^ (n-(k+1)+1)<=rkF n ms k+2 ^ (n-k+1):=by
 have hp0:0<2 ^ (n-k):=Nat.two_pow_pos _;rw[show n-(k+1)+1=n-k by omega,Nat.pow_succ 2 (n-k)];simp only[rkF]
 split<;>omega
theorem y8r_:∀(d p:Nat),p+d<=n->rkF n ms (p+d)+2 ^ (n-(p+d)+1)<=rkF n ms p+2 ^ (n-p+1)
 |0,p,_=>Nat.le_refl _
 |d+1,p,h=>by
  have h1:=y8r_ d p (by omega);have h2:=yhp_ (n:=n) (ms:=ms) (k:=p+d) (by omega);rw[show p+(d+1)=p+d+1 by omega];omega
theorem ybi_(h:p<=k):rkF n ms p<=rkF n ms k:=by
 obtain⟨d,rfl⟩:∃d,k=p+d:=⟨k-p,by omega⟩
 clear h
 induction d with
 |zero=>exact Nat.le_refl _
 |succ d ih=>rw[show p+(d+1)=p+d+1 by omega];simp only[rkF];omega
theorem yb4_(h:∀j:Nat,j<k->((j:Int)∈ms↔(j:Int)∈ms')):rkF n ms k=rkF n ms' k:=by
 induction k with
 |zero=>rfl
 |succ k ih=>
  simp only[rkF];rw[ih fun j hj=>h j (by omega)]
  congr 1
  by_cases e:(k:Int)∈ms
  ·rw[if_pos e,if_pos ((h k (by omega)).1 e)]
  ·rw[if_neg e,if_neg fun q=>e ((h k (by omega)).2 q)]
theorem yda_(h:k<=n):rkW n ms k<=2 ^ (n+1):=by
 have h1:=y8r_ (n:=n) (ms:=ms) k 0 (by omega);simp only[Nat.zero_add,rkF,Nat.sub_zero]at h1;have hp:=Nat.pow_succ 2 (n-k);unfold rkW
 split<;>omega
theorem yhq_(hp:(p:Int)∈ms)(hpk:p<k)(hk:k<=n)(h:∀j:Nat,j<p->((j:Int)∈ms↔(j:Int)∈ms')):rkW n ms k<rkW n ms' p:=by
 obtain⟨d,rfl⟩:∃d,k=p+1+d:=⟨k-(p+1),by omega⟩;have h1:=y8r_ (n:=n) (ms:=ms) d (p+1) hk;have h2:rkF n ms (p+1)=rkF n ms p+1:=by simp only[rkF];rw[if_pos hp]
 have h3:=yb4_ (n:=n) h;have h4:0<2 ^ (n-(p+1+d)):=Nat.two_pow_pos _;have h5:=Nat.pow_succ 2 (n-(p+1+d));unfold rkW;rw[if_pos (show p<n by omega),<-h3];have h6:n-(p+1)+1=n-p:=by omega
 rw[h6,h2]at h1
 split
 ·rename_i hlt
  obtain⟨z,hz⟩:∃z,n-(p+1+d)=z+1:=⟨n-(p+1+d)-1,by omega⟩;have h7:0<2 ^ z:=Nat.two_pow_pos _;rw[hz]at h1 h5⊢;have h8:=Nat.pow_succ 2 z;omega
 ·omega
theorem yf8_(h:p<k)(hk:k<=n)(hms:∀j:Nat,p<=j->(j:Int)∉ms):rkW n ms p<=rkF n ms k:=by
 have h1:=ybi_ (n:=n) (ms:=ms) (p:=p+1) (k:=k) (by omega);have h2:rkF n ms (p+1)=rkF n ms p+2 ^ (n-p):=by simp only[rkF];rw[if_neg (hms p (Nat.le_refl _))]
 unfold rkW;rw[if_pos (by omega)];omega
theorem y9b_:∀k:Nat,k+1<=n->codeF n ms k % 2=0
 |0,_=>rfl
 | k+1,h=>by
  have ih:=y9b_ k (by omega);simp only[codeF]
  split
  ·omega
  ·obtain⟨d,hd⟩:∃d,n-1-k=d+1:=⟨n-1-k-1,by omega⟩
   rw[hd,Nat.pow_succ];omega
theorem ye1_(h:k+2<=n):codeW n ms k % 2=0:=by
 have:=y9b_ (n:=n) (ms:=ms) k (by omega);unfold codeW;rw[if_pos (by omega)];obtain⟨d,hd⟩:∃d,n-1-k=d+1:=⟨n-1-k-1,by omega⟩;rw[hd,Nat.pow_succ];omega
end
def AsI(s:PS)(A:List Int):Prop:=∃k,k<=s.marks.length/\(∀(i:Nat) (a:Nat) d,i<k->s.marks[i]?=some (a:Int)->s.trail[a]?=some d->d∈A)/\(k<s.marks.length->∀a∈A,a∈s.trail/\s.lv a<=k)
section
variable{n k a:Nat}{s s':PS}{A:List Int}{l:Int}
theorem AsI.nil(h:s.marks=[]):AsI s A:=⟨0,by omega,fun i a d hi=>by omega,fun h2=>by rw[h]at h2;simp at h2⟩
theorem AsI.ext(h:AsI s A)(ht:TrI n s)(E:PEx s s'):AsI s' A:=by
 obtain⟨k,h1,h2,h3⟩:=h;refine⟨k,by rw[E.mks];exact h1,fun i a d hi hm hd=>?_,fun hk x hx=>?_⟩
 ·rw[E.mks]at hm
  obtain⟨a',e,⟨w,g1,_⟩,_⟩:=ht.mks i _ hm;have e:a=a':=by omega
  subst e;exact h2 i a d hi hm (E.got (y2_ g1) hd)
 ·rw[E.mks]at hk
  obtain⟨g1,g2⟩:=h3 hk x hx;exact⟨E.mem g1,by rw[E.lv x g1];exact g2⟩
theorem AsI.back(h:AsI s A)(hS:StI n s){b:Nat}(hm:s.marks[b]?=some (a:Int)):AsI (s.back b a) A:=by
 obtain⟨k,h1,h2,h3⟩:=h;obtain⟨_,e1,e2,_,_,_,_,hal,hlv,hle,_⟩:=hS.back hm;have hbl:=y2_ hm;have hlen:(s.marks.take b).length=b:=by simp;omega
 by_cases hkb:k<=b
 ·refine⟨k,by rw[e1,hlen];exact hkb,fun i c d hi hmc hd=>?_,fun hk x hx=>?_⟩
  ·rw[e1]at hmc
   rw[List.getElem?_take_of_lt (by omega)]at hmc;rw[e2]at hd;have:c<a:=by have:=y2_ hd;simp at this;omega
   rw[List.getElem?_take_of_lt this]at hd;exact h2 i c d hi hmc hd
  ·obtain⟨g1,g2⟩:=h3 (by omega) x hx
   have:=(hle x g1).2 (by omega);rw[e2];exact⟨this,by rw[hlv x this];exact g2⟩
 ·refine⟨b,by rw[e1,hlen];exact Nat.le_refl _,fun i c d hi hmc hd=>?_,fun hk=>?_⟩
  ·rw[e1]at hmc
   rw[List.getElem?_take_of_lt (by omega)]at hmc;rw[e2]at hd;have:c<a:=by have:=y2_ hd;simp at this;omega
   rw[List.getElem?_take_of_lt this]at hd;exact h2 i c d (by omega) hmc hd
  ·rw[e1,hlen]at hk;omega
theorem AsI.decA(h:AsI s A)(ht:TrI n s)(hl:isL l n=true)(hv:val s.vs l=0)(hlA:l∈A):AsI (s.dec l) A/\∀(i:Nat) (a:Nat) d,s.marks[i]?=some (a:Int)->s.trail[a]?=some d->d∈A:=by
 obtain⟨k,h1,h2,h3⟩:=h;have hk:k=s.marks.length:=by
  refine Decidable.byContradiction fun hne=>?_;have:=(h3 (by omega) l hlA).1;exact(ht.zero.1 hv).1 this
 have hall:∀(i:Nat) (a:Nat) d,s.marks[i]?=some (a:Int)->s.trail[a]?=some d->d∈A:=fun i a d hm=>h2 i a d (by have:=y2_ hm;omega) hm;refine⟨⟨k+1,by simp[PS.dec,PS.setL,hk],fun i c d hi hm hd=>?_,fun hk2=>?_⟩,hall⟩
 ·have hm:(s.marks++[(s.trail.length:Int)])[i]?=some (c:Int):=hm
  have hd:(s.trail++[l])[c]?=some d:=hd;rcases y4r_ hm with w|⟨_,w⟩
  ·obtain⟨a',e,⟨u,g1,_⟩,_⟩:=ht.mks i _ w
   have e:c=a':=by omega
   subst e;rw[List.getElem?_append_left (y2_ g1)]at hd;exact hall i c d w hd
  ·have:c=s.trail.length:=by omega
   subst this;simp at hd;rw[<-hd];exact hlA
 ·simp[PS.dec,PS.setL,hk]at hk2
theorem AsI.decF(h:AsI s A)(ht:TrI n s)(hl:isL l n=true)(hv:val s.vs l=0)(hA:∀a∈A,a∈s.trail):AsI (s.dec l) A:=by
 obtain⟨k,h1,h2,h3⟩:=h;have hlv:∀x∈s.trail,(s.dec l).lv x=s.lv x:=fun x hx=>by
  obtain⟨z1,z2⟩:=ht.zero.1 hv;have:=(ht.push (s':=s.dec l) _ (.inr rfl) hl hv (r:=-1) rfl (.inl ⟨?_,s.marks.length,?_,?_⟩)).2 x ?_
  ·exact this
  ·simp only[PS.re,PS.dec,PS.setL];rw[getD_set' (by have:=ht.len.rea;have:=ye_ hl;omega),if_pos rfl]
  ·simp only[PS.lv,PS.dec,PS.setL];rw[getD_set' (by have:=ht.len.lev;have:=ye_ hl;omega),if_pos rfl];simp
  ·simp[PS.dec,PS.setL]
  ·intro e
   rcases Int.natAbs_eq_natAbs_iff.1 e with e|e
   ·exact z1 (e▸hx)
   ·exact z2 (e▸hx)
 refine⟨k,by simp[PS.dec,PS.setL];omega,fun i c d hi hm hd=>?_,fun _ x hx=>?_⟩
 ·have hm:(s.marks++[(s.trail.length:Int)])[i]?=some (c:Int):=hm
  have hd:(s.trail++[l])[c]?=some d:=hd;rw[List.getElem?_append_left (by omega)]at hm;obtain⟨a',e,⟨u,g1,_⟩,_⟩:=ht.mks i _ hm;have e:c=a':=by omega
  subst e;rw[List.getElem?_append_left (y2_ g1)]at hd;exact h2 i c d hi hm hd
 ·have hxt:=hA x hx
  refine⟨by show x∈s.trail++[l];simp[hxt],?_⟩;rw[hlv x hxt];by_cases hk:k<s.marks.length
  ·exact(h3 hk x hx).2
  ·have:=(ht.lv x hxt).2
   omega
end
end
section
open Go
section
variable{n:Nat}(hn:2<=n)(hn2:n<=1000)
include hn hn2
end
def AllB(σ:Heap)(ss:List (Bool×List Int))(ws:List (Bool×AVal)):Prop:=ws.length=ss.length/\∀(i:Nat) (s:Bool×List Int),ss[i]?=some s->∃w,ws[i]?=some (s.1,w)/\SlV .int σ s.2 w
section
variable{σ τ:Heap}{ss tt:List (Bool×List Int)}{ws us:List (Bool×AVal)}{s:Bool×List Int}{w:AVal}
theorem AllB.mono(h:AllB σ ss ws)(L:Hle σ τ):AllB τ ss ws:=⟨h.1,fun i c hc=>(h.2 i c hc).imp fun w hw=>⟨hw.1,hw.2.mono L⟩⟩
theorem AllB.app(h:AllB σ ss ws)(k:AllB σ tt us):AllB σ (ss++tt) (ws++us):=⟨by simp[h.1,k.1],fun i d hd=>by
 by_cases hlt:i<ss.length
 ·rw[List.getElem?_append_left hlt]at hd
  rw[List.getElem?_append_left (by rw[h.1];exact hlt)];exact h.2 i d hd
 ·rw[List.getElem?_append_right (by omega)]at hd
  rw[List.getElem?_append_right (by rw[h.1];omega),h.1];exact k.2 _ d hd⟩
theorem AllB.one(hw:SlV .int σ s.2 w):AllB σ [s] [(s.1,w)]:=⟨rfl,fun i d hd=>by
 match i,hd with
 |0,hd=>cases hd;exact⟨w,rfl,hw⟩
 |i+1,hd=>simp at hd⟩
theorem AllB.vB{x:AVal}(h:AllB σ ss ws)(hx:SlV vBR σ ws x):SlV A.vB σ ss x:=yk8_ hx h.1 h.2
end
theorem AllB.hop{I:Nat->Bool}{σ τ:Heap}{T T':Tg}{ss:List (Bool×List Int)}{ws:List (Bool×AVal)}{t:Nat}(h:AllB (σ.at T t) ss ws)(H:Hop I σ T τ T')(hI:I t=false:=by rfl):AllB (τ.at T' t) ss ws:=h.mono (H.le hI)
theorem AllB.hle{σ τ:Heap}{T:Tg}{ss:List (Bool×List Int)}{ws:List (Bool×AVal)}{t:Nat}(h:AllB (σ.at T t) ss ws)(L:Hle σ τ):AllB (τ.at T t) ss ws:=h.mono (L.ats T t)
end
section
open Go
theorem yhj_{a:Int}{t:List Int}(h:adj (a::t)=true):adj t=true:=by
 cases t with
 |nil=>rfl
 |cons b t=>simp[adj]at h;exact h.2
theorem yb6_:∀{xs:List Int},xs.Pairwise ltL->adj xs=true->(xs.map Int.natAbs).Pairwise (· < ·)
 |[],_,_=>by simp
 |[a],_,_=>by simp
 | a::b::t,hp,h=>by
  have ih:=yb6_ (xs:=b::t) (List.pairwise_cons.1 hp).2 (yhj_ h);simp only[adj,Bool.and_eq_true,decide_eq_true_eq]at h;have hab:=(List.pairwise_cons.1 hp).1 b (by simp);have hlt:a.natAbs<b.natAbs:=by unfold ltL at hab;omega
  rw[List.map_cons];refine List.pairwise_cons.2 ⟨fun x hx=>?_,ih⟩;rw[List.map_cons]at ih hx;rcases List.mem_cons.1 hx with e|hx
  ·rw[e];exact hlt
  ·have:=(List.pairwise_cons.1 ih).1 x hx
   omega
theorem y7x_{c:List Int}(h:saysN c=true):((normL c).map Int.natAbs).Nodup:=(yb6_ (y1f_ c) h).imp fun h=>by omega
theorem y8v_{c:List Int}(h:(c.map Int.natAbs).Nodup):saysN c=true:=by
 have key:∀xs:List Int,xs.Pairwise ltL->(∀x∈xs,∀y∈xs,x.natAbs=y.natAbs->x=y)->adj xs=true:=by
  intro xs
  induction xs with
  |nil=>intros;rfl
  | cons a t ih=>
   intro hp hi;cases t with
   |nil=>rfl
   |cons b t=>
    simp only[adj,Bool.and_eq_true,decide_eq_true_eq];refine⟨fun e=>?_,ih (List.pairwise_cons.1 hp).2 fun x hx y hy=>hi x (by simp[hx]) y (by simp[hy])⟩;have h1:=hi a (by simp) b (by simp) e;have h2:=(List.pairwise_cons.1 hp).1 b (by simp);subst h1;unfold ltL at h2;omega
 refine key _ (y1f_ c) fun x hx y hy e=>?_;obtain⟨i,hi⟩:=yb_ (yc_.1 hx);obtain⟨j,hj⟩:=yb_ (yc_.1 hy);have:i=j:=nd_ix h (a:=x.natAbs) (by simp[hi]) (by simp[hj,e]);subst this;rw[hi]at hj;exact Option.some.inj hj
theorem yfa_{c:List Int}(h:saysN c=false):∃x∈c,-x∈c:=by
 have key:∀xs:List Int,xs.Pairwise ltL->adj xs=false->∃x∈xs,-x∈xs:=by
  intro xs
  induction xs with
  |nil=>intro _ h;cases h
  | cons a t ih=>
   intro hp h;cases t with
   |nil=>cases h
   | cons b t=>
    by_cases e:a.natAbs=b.natAbs
    ·have h2:=(List.pairwise_cons.1 hp).1 b (by simp)
     have:b = -a:=by unfold ltL at h2;omega
     exact⟨a,by simp,by rw[<-this];simp⟩
    ·simp[adj,e]at h
     obtain⟨x,hx,hx2⟩:=ih (List.pairwise_cons.1 hp).2 h;exact⟨x,List.mem_cons_of_mem _ hx,List.mem_cons_of_mem _ hx2⟩
 obtain⟨x,h1,h2⟩:=key _ (y1f_ c) h;exact⟨x,yc_.1 h1,yc_.1 h2⟩
theorem yhw_{c:List Int}{m:Nat->Bool}{x:Int}(h0:x≠0)(h1:x∈c)(h2 : -x∈c):tru m c:=by
 cases e:holds m x with
 |true=>exact⟨x,h1,e⟩
 |false=>exact⟨-x,h2,by rw[y2o_ h0,e];rfl⟩
inductive RunS(D0:List (List Int)):List (Bool×List Int)->List (List Int)->Prop where
 |nil:RunS D0 [] D0
 |add {lg:List (Bool×List Int)} {D:List (List Int)} {c:List Int}:RunS D0 lg D->Conf D (negs c)->RunS D0 (lg++[(false,c)]) (D++[normL c])
 |del {lg:List (Bool×List Int)} {D:List (List Int)} {c:List Int}:RunS D0 lg D->normL c∈D->RunS D0 (lg++[(true,c)]) (D.erase (normL c))
def LgI(C:List (List Int))(s:PS)(lg:List (Bool×List Int)):Prop:=∃D X,RunS (C.map normL) lg D/\D.Perm (s.db.map normL++X)
structure EnL(gl:Bool)(n:Nat)(C:List (List Int))(s:PS)(hs:List Int)(ln:List (Int×Int))(lg:List (Bool×List Int))(since least:Int)(w:Nat):Prop where
 si:StI n s
 hp:∀v:Nat,1<=v->v<=n->val s.vs v=0->(v:Int)∈hs
 lnI:∀e∈ln,∃(id:Nat) (c:List Int) (f:Bool),e.1=id/\s.cls[id]?=some (c,true,f)
 lnN:(ln.map (·.1)).Nodup
 orI:∀c∈C,saysN c=true->∃(id:Nat) (d:List Int) (f:Bool),s.cls[id]?=some (d,true,f)/\(∀x,x∈d↔x∈c)/\∀e∈ln,e.1≠id
 snd:∀m,mods m C->mods m s.db
 cl:∀c∈C,∀x∈c,isL x n=true
 lgI:gl=true->LgI C s lg
 z1:s.cls.length<=w
 z2:s.ent+2*s.loose.length<=10*w
 z3:ln.length<=w
 z4:lg.length+ln.length<=2*w
 z5:0<=since/\since<=w
 z6:0<=least/\least<=16+8*w
section
variable{gl:Bool}{n id k a:Nat}{C:List (List Int)}{s s':PS}{hs hs':List Int}{ln:List (Int×Int)}{lg:List (Bool×List Int)}{since least since' least':Int}{w:Nat}{c d:List Int}{b f:Bool}
theorem ykg_(E:CEq s s'):s'.db.map normL=s.db.map normL:=by
 have key:∀(a b:List (List Int×Bool×Bool)),b.length=a.length->(∀(i:Nat) x y,a[i]?=some x->b[i]?=some y->y.2.1=x.2.1/\y.1.Perm x.1)->((b.filter fun x=>x.2.1).map (·.1)).map normL=((a.filter fun x=>x.2.1).map (·.1)).map normL:=by
  intro a
  induction a with
  |nil=>intro b hl _;rw[List.eq_nil_of_length_eq_zero hl]
  | cons x a ih=>
   intro b hl h;cases b with
   |nil=>simp at hl
   | cons y b=>
    obtain⟨e1,e2⟩:=h 0 x y rfl rfl;have e3:=ih b (by simpa using hl) fun i u v hu hv=>h (i+1) u v (by simpa using hu) (by simpa using hv);rw[List.filter_cons,List.filter_cons,e1]
    split
    ·rw[List.map_cons,List.map_cons,List.map_cons,List.map_cons,e3]
     congr 1
     exact y79_.2 fun v=>e2.mem_iff
    ·exact e3
 exact key s.cls s'.cls E.1 fun i x y hx hy=>E.2 i x y hx hy
theorem yhz_(E:CEq s s'){m:Nat->Bool}(h:mods m s.db):mods m s'.db:=fun c hc=>by
 obtain⟨id,f,h1⟩:=y31_.1 hc;obtain⟨c',f',h2,p⟩:=E.symm.get h1;obtain⟨l,hl,h3⟩:=h c' (y31_.2 ⟨id,f',h2⟩);exact⟨l,p.mem_iff.1 hl,h3⟩
theorem ClI.nz(h:ClI n s):nz s.db:=fun c hc l hl=>by
 obtain⟨id,f,h1⟩:=y31_.1 hc;exact(ye_ ((h id c f h1).1 l hl)).1
theorem EnL.step(E:EnL gl n C s hs ln lg since least w)(hS:StI n s')(hE:CEq s s')(hh:∀v:Nat,1<=v->v<=n->val s'.vs v=0->(v:Int)∈hs')(hz:s'.ent+2*s'.loose.length<=10*w+2):EnL gl n C s' hs' ln lg since least (w+1):=by
 refine⟨hS,hh,fun e he=>?_,E.lnN,fun c hc hsy=>?_,fun m hm=>yhz_ hE (E.snd m hm),E.cl,fun hg=>?_,by rw[hE.1];have:=E.z1;omega,by omega,by have:=E.z3;omega,by have:=E.z4;omega,by have:=E.z5;omega,by have:=E.z6;omega⟩
 ·obtain⟨id,c,f,h1,h2⟩:=E.lnI e he
  obtain⟨c',f',h3,_⟩:=hE.get h2;exact⟨id,c',f',h1,h3⟩
 ·obtain⟨id,d,f,h1,h2,h3⟩:=E.orI c hc hsy
  obtain⟨d',f',h4,p⟩:=hE.get h1;exact⟨id,d',f',h4,fun x=>by rw[p.mem_iff];exact h2 x,h3⟩
 ·obtain⟨D,X,h1,h2⟩:=E.lgI hg
  exact⟨D,X,h1,by rw[ykg_ hE];exact h2⟩
theorem EnL.heap(E:EnL gl n C s hs ln lg since least w)(h:∀v:Nat,1<=v->v<=n->val s.vs v=0->(v:Int)∈hs'):EnL gl n C s hs' ln lg since least w:=⟨E.si,h,E.lnI,E.lnN,E.orI,E.snd,E.cl,E.lgI,E.z1,E.z2,E.z3,E.z4,E.z5,E.z6⟩
theorem EnL.pace(E:EnL gl n C s hs ln lg since least w)(h5:0<=since'/\since'<=w)(h6:0<=least'/\least'<=16+8*w):EnL gl n C s hs ln lg since' least' w:=⟨E.si,E.hp,E.lnI,E.lnN,E.orI,E.snd,E.cl,E.lgI,E.z1,E.z2,E.z3,E.z4,h5,h6⟩
theorem EnL.more(E:EnL gl n C s hs ln lg since least w){w':Nat}(h:w<=w'):EnL gl n C s hs ln lg since least w':=⟨E.si,E.hp,E.lnI,E.lnN,E.orI,E.snd,E.cl,E.lgI,by have:=E.z1;omega,by have:=E.z2;omega,by have:=E.z3;omega,by have:=E.z4;omega,by have:=E.z5;omega,by have:=E.z6;omega⟩
theorem y9q_(s:PS)(l:List Int):(s.addC l).db=s.db++[l]:=by
 unfold PS.db;show((s.cls++[(l,true,true)]).filter _).map _=_;rw[List.filter_append,List.map_append];rfl
theorem y5r_{j:Nat}{e:List Int×Bool×Bool}(h:s.cls[j]?=some e):(s.addC c).cls[j]?=some e:=by
 show(s.cls++[(c,true,true)])[j]?=_;rw[List.getElem?_append_left (y2_ h)];exact h
theorem y6j_:(s.addC c).cls[s.cls.length]?=some (c,true,true):=by
 show(s.cls++[(c,true,true)])[s.cls.length]?=_;simp
theorem EnL.learn(E:EnL gl n C s hs ln lg since least w)(hc:∀x∈c,isL x n=true)(hd:(c.map Int.natAbs).Nodup)(hC:Conf s.db (negs c)){score:Int}:EnL gl n C (s.addC (normL c)) hs (ln++[((s.cls.length:Int),score)]) (lg++[(false,c)]) since least (w+1):=by
 have hsy:=y8v_ hd;obtain⟨hS,hent⟩:=E.si.addC (l':=normL c) (fun x hx=>hc x (yc_.1 hx)) (y7x_ hsy);have hvs:(s.addC (normL c)).vs=s.vs:=rfl;refine⟨hS,E.hp,fun e he=>?_,?_,fun d hdC hds=>?_,fun m hm=>?_,E.cl,fun hg=>?_,?_,?_,by simp;have:=E.z3;omega,by simp;have:=E.z4;omega,by have:=E.z5;omega,by have:=E.z6;omega⟩
 ·rcases List.mem_append.1 he with q|q
  ·obtain⟨id,d,f,h1,h2⟩:=E.lnI e q
   exact⟨id,d,f,h1,y5r_ h2⟩
  ·rw[List.mem_singleton.1 q]
   exact⟨s.cls.length,_,true,rfl,y6j_⟩
 ·rw[List.map_append]
  refine List.nodup_append.2 ⟨E.lnN,by simp,fun x hx y hy e=>?_⟩;obtain⟨u,hu,rfl⟩:=List.mem_map.1 hx;obtain⟨id,d,f,h1,h2⟩:=E.lnI u hu;have:=y2_ h2;simp at hy;omega
 ·obtain⟨id,d',f,h1,h2,h3⟩:=E.orI d hdC hds
  refine⟨id,d',f,y5r_ h1,h2,fun e he=>?_⟩;rcases List.mem_append.1 he with q|q
  ·exact h3 e q
  ·rw[List.mem_singleton.1 q]
   have:=y2_ h1;show(s.cls.length:Int)≠id;omega
 ·rw[y9q_]
  intro d hdm;rcases List.mem_append.1 hdm with q|q
  ·exact E.snd m hm d q
  ·rw[List.mem_singleton.1 q,y4p_]
   refine Classical.byContradiction fun hn=>?_;refine hC.false (E.snd m hm) E.si.ci.nz (fun l hl=>?_) fun l hl=>?_
   ·obtain⟨x,hx,rfl⟩:=List.mem_map.1 hl
    rw[y2o_ (ye_ (hc x hx)).1];cases e:holds m x with
    |true=>exact absurd ⟨x,hx,e⟩ hn
    |false=>rfl
   ·obtain⟨x,hx,rfl⟩:=List.mem_map.1 hl
    have:=(ye_ (hc x hx)).1;omega
 ·obtain⟨D,X,h1,h2⟩:=E.lgI hg
  refine⟨_,X,h1.add (hC.mono (fun d hdm=>?_) fun _ h=>h),?_⟩
  ·refine⟨normL d,h2.mem_iff.2 (List.mem_append.2 (.inl (List.mem_map.2 ⟨d,hdm,rfl⟩))),fun v=>yc_⟩
  ·rw[y9q_,List.map_append,List.map_singleton,y5y_]
   refine(h2.append_right _).trans ?_;rw[List.append_assoc,List.append_assoc];exact List.Perm.append_left _ List.perm_append_comm
 ·show(s.cls++[_]).length<=_
  simp;have:=E.z1;omega
 ·have:(s.addC (normL c)).loose.length=s.loose.length+1:=by simp[PS.addC]
  have:=E.z2;omega
theorem yib_(hc:s.cls[id]?=some (c,true,f)):s.db.Perm (c::(s.dropC id f).db):=by
 have key:∀(xs:List (List Int×Bool×Bool)) (i:Nat),xs[i]?=some (c,true,f)->((xs.filter fun x=>x.2.1).map (·.1)).Perm (c::(((xs.set i ([],false,f)).filter fun x=>x.2.1).map (·.1))):=by
  intro xs
  induction xs with
  |nil=>intro i h;simp at h
  | cons x t ih=>
   intro i h;cases i with
   |zero=>
    simp at h;subst h;simp
   | succ i=>
    have:=ih i (by simpa using h);rw[List.set_cons_succ,List.filter_cons,List.filter_cons]
    split
    ·rw[List.map_cons,List.map_cons]
     exact(this.cons _).trans (List.Perm.swap _ _ _)
    ·exact this
 exact key s.cls id hc
theorem EnL.drop{ln1 ln2:List (Int×Int)}{score:Int}(E:EnL gl n C s hs (ln1++((id:Int),score)::ln2) lg since least w)(hc:s.cls[id]?=some (c,true,f))(hr:∀x∈s.trail,x∈c->s.re x≠id):EnL gl n C (s.dropC id f) hs (ln1++ln2) (lg++[(true,c)]) since least w:=by
 have hS:=E.si.dropC hc hr;have hoth:∀j,j≠id->(s.dropC id f).cls[j]?=s.cls[j]?:=fun j hj=>by show(s.cls.set id _)[j]?=_;rw[List.getElem?_set,if_neg fun e=>hj e.symm]
 have hN:=E.lnN;rw[List.map_append,List.map_cons,List.nodup_append]at hN;obtain⟨g1,g2,g3⟩:=hN;obtain⟨g4,g5⟩:=List.nodup_cons.1 g2;have hne:∀e∈ln1++ln2,e.1≠(id:Int):=fun e he q=>by
  rcases List.mem_append.1 he with w|w
  ·exact g3 e.1 (List.mem_map.2 ⟨e,w,rfl⟩) (id:Int) (by simp) q
  ·exact g4 (List.mem_map.2 ⟨e,w,q⟩)
 have hsub:∀e,e∈ln1++ln2->e∈ln1++((id:Int),score)::ln2:=fun e he=>by
  rcases List.mem_append.1 he with w|w
  ·exact List.mem_append.2 (.inl w)
  ·exact List.mem_append.2 (.inr (List.mem_cons_of_mem _ w))
 have hdb:=yib_ hc;refine⟨hS,E.hp,fun e he=>?_,?_,fun d hdC hds=>?_,fun m hm d hd=>?_,E.cl,fun hg=>?_,by show(s.cls.set id _).length<=w;rw[List.length_set];exact E.z1,E.z2,?_,by have:=E.z4;simp at this⊢;omega,E.z5,E.z6⟩
 ·obtain⟨j,d,g,h1,h2⟩:=E.lnI e (hsub e he)
  refine⟨j,d,g,h1,?_⟩;rw[hoth j fun q=>hne e he (by rw[h1,q])];exact h2
 ·rw[List.map_append]
  exact List.nodup_append.2 ⟨g1,g5,fun x hx y hy=>g3 x hx y (by simp[hy])⟩
 ·obtain⟨j,d',g,h1,h2,h3⟩:=E.orI d hdC hds
  refine⟨j,d',g,?_,h2,fun e he=>h3 e (hsub e he)⟩;rw[hoth j fun q=>h3 ((id:Int),score) (by simp) (by rw[q])];exact h1
 ·exact E.snd m hm d (hdb.mem_iff.2 (List.mem_cons_of_mem _ hd))
 ·obtain⟨D,X,h1,h2⟩:=E.lgI hg
  have hperm:D.Perm (normL c::((s.dropC id f).db.map normL++X)):=h2.trans (by
   have:=(hdb.map normL).append_right X;rw[List.map_cons,List.cons_append]at this;exact this)
  have hmem:normL c∈D:=hperm.mem_iff.2 (by simp);refine⟨_,X,h1.del hmem,?_⟩;have h3:=hperm.erase (normL c)
  rwa [List.erase_cons_head]at h3
 ·have:=E.z3
  simp at this⊢;omega
theorem EnL.final{core:List Int}(E:EnL gl n C s hs ln lg since least w)(hC:Conf s.db core):EnL gl n C s hs ln (lg++[(false,negs core)]) since least (w+1):=by
 have hnn:negs (negs core)=core:=by simp[negs,Function.comp_def]
 refine⟨E.si,E.hp,E.lnI,E.lnN,E.orI,E.snd,E.cl,fun hg=>?_,by have:=E.z1;omega,by have:=E.z2;omega,by have:=E.z3;omega,by simp;have:=E.z4;omega,by have:=E.z5;omega,by have:=E.z6;omega⟩;obtain⟨D,X,h1,h2⟩:=E.lgI hg;refine⟨_,X++[normL (negs core)],h1.add ?_,?_⟩
 ·rw[hnn]
  refine hC.mono (fun d hdm=>⟨normL d,h2.mem_iff.2 (List.mem_append.2 (.inl (List.mem_map.2 ⟨d,hdm,rfl⟩))),fun v=>yc_⟩) fun _ h=>h
 ·rw[<-List.append_assoc]
  exact h2.append_right _
theorem EnL.add(E:EnL gl n C s hs ln lg since least w)(hc:∀x∈c,isL x n=true)(hg:gl=true->lg=[]) :
  EnL gl n (C++[c]) (if saysN c=true then s.addC (normL c)else s) hs ln lg since least (w+1):=by
 have hlgn:gl=true->∀D X,RunS (C.map normL) lg D->D.Perm (s.db.map normL++X)->RunS ((C++[c]).map normL) lg (D++[normL c]):=fun hgl D X h1 _=>by
  have:=hg hgl;subst this;have e:D=C.map normL:=by
   generalize hlg:([]:List (Bool×List Int))=lg0 at h1;cases h1 with
   |nil=>rfl
   |add _ _=>simp at hlg
   |del _ _=>simp at hlg
  subst e;rw[List.map_append,List.map_singleton];exact .nil
 have hcl:∀d∈C++[c],∀x∈d,isL x n=true:=fun d hd=>by
  rcases List.mem_append.1 hd with q|q
  ·exact E.cl d q
  ·rw[List.mem_singleton.1 q];exact hc
 by_cases hsy:saysN c=true
 ·rw[if_pos hsy]
  obtain⟨hS,hent⟩:=E.si.addC (l':=normL c) (fun x hx=>hc x (yc_.1 hx)) (y7x_ hsy);refine⟨hS,E.hp,fun e he=>?_,E.lnN,fun d hdC hds=>?_,fun m hm=>?_,hcl,fun hgl=>?_,?_,?_,by have:=E.z3;omega,by have:=E.z4;omega,by have:=E.z5;omega,by have:=E.z6;omega⟩
  ·obtain⟨id,d,f,h1,h2⟩:=E.lnI e he
   exact⟨id,d,f,h1,y5r_ h2⟩
  ·rcases List.mem_append.1 hdC with q|q
   ·obtain⟨id,d',f,h1,h2,h3⟩:=E.orI d q hds
    exact⟨id,d',f,y5r_ h1,h2,h3⟩
   ·rw[List.mem_singleton.1 q]
    refine⟨s.cls.length,_,true,y6j_,fun x=>yc_,fun e he=>?_⟩;obtain⟨id,d',f,h1,h2⟩:=E.lnI e he;have:=y2_ h2;omega
  ·rw[y9q_]
   intro d hd;rcases List.mem_append.1 hd with q|q
   ·exact E.snd m (fun e he=>hm e (by simp[he])) d q
   ·rw[List.mem_singleton.1 q,y4p_]
    exact hm c (by simp)
  ·obtain⟨D,X,h1,h2⟩:=E.lgI hgl
   refine⟨_,X,hlgn hgl D X h1 h2,?_⟩;rw[y9q_,List.map_append,List.map_singleton,y5y_];refine(h2.append_right _).trans ?_;rw[List.append_assoc,List.append_assoc];exact List.Perm.append_left _ List.perm_append_comm
  ·show(s.cls++[_]).length<=_
   simp;have:=E.z1;omega
  ·have:(s.addC (normL c)).loose.length=s.loose.length+1:=by simp[PS.addC]
   have:=E.z2;omega
 ·rw[if_neg hsy]
  refine⟨E.si,E.hp,E.lnI,E.lnN,fun d hdC hds=>?_,fun m hm=>E.snd m fun e he=>hm e (by simp[he]),hcl,fun hgl=>?_,by have:=E.z1;omega,by have:=E.z2;omega,by have:=E.z3;omega,by have:=E.z4;omega,by have:=E.z5;omega,by have:=E.z6;omega⟩
  ·rcases List.mem_append.1 hdC with q|q
   ·exact E.orI d q hds
   ·rw[List.mem_singleton.1 q]at hds;exact absurd hds hsy
  ·obtain⟨D,X,h1,h2⟩:=E.lgI hgl
   refine⟨_,X++[normL c],hlgn hgl D X h1 h2,?_⟩;rw[<-List.append_assoc];exact h2.append_right _
end
end
section
open Go
def eI:Nat->Bool:=fun j=>decide (1<=j) && !(decide (36<=j)&&decide (j<=39))
def vLn:Vw (Int×Int):=⟨2,fun _ a us=>us=[.int .i64 a.1,.int .i64 a.2],by decide,fun h=>by rw[h];rfl,fun _ h=>h⟩
theorem y8i_:vLn.Flat:=fun _ _ _ _ h=>h
structure EnP where
 le:Nat
 lp:Nat
 lh:Nat
 lq:Nat
structure EnH(σ:Heap)(T:Tg)(e:EnP)(n:Nat)(s:PS)(hs:List Int)(ln:List (Int×Int))(lg:List (Bool×List Int))(since least:Int)(h:PH)(xs xl xg:AVal)(conf bump most:Int)(sv:List Int)(ws:List (Bool×AVal)):Prop where
 obj:Loc (σ.at T 31) e.le [.ptr e.lp 0,.ptr e.lh 0,.ptr e.lq 0,xs,xl,xg,.int .i64 conf,.int .i64 bump]
 prop:PropH σ T e.lp h s
 heap:HpI σ T e.lh n hs
 pace:PcI σ T e.lq most since least
 most:most<=0
 sav:Own .int (σ.at T 32) sv xs
 svl:sv.length=n+1
 lrn:Own vLn (σ.at T 33) ln xl
 log:Own vBR (σ.at T 34) ws xg
 all:AllB (σ.at T 0) lg ws
def EnX(σ:Heap)(T:Tg)(e:EnP)(n:Nat)(s:PS)(hs:List Int)(ln:List (Int×Int))(lg:List (Bool×List Int))(since least:Int):Prop:=∃h xs xl xg conf bump most sv ws,EnH σ T e n s hs ln lg since least h xs xl xg conf bump most sv ws
section
variable{σ τ:Heap}{T T':Tg}{I:Nat->Bool}
theorem pI_e{j:Nat}(h:pI j=true):eI j=true:=by
 simp only[pI,eI,Bool.or_eq_true,Bool.and_eq_true,decide_eq_true_eq,Bool.not_eq_true',Bool.and_eq_false_iff,decide_eq_false_iff_not]at h⊢;omega
theorem Hop.pe(H:Hop pI σ T τ T'):Hop eI σ T τ T':=H.sub fun i hi=>pI_e hi
theorem Hop.je(H:Hop pJ σ T τ T'):Hop eI σ T τ T':=H.sub fun i hi=>by
 unfold pJ at hi;rcases Bool.or_eq_true_iff.1 hi with q|q
 ·exact pI_e q
 ·have:i=15:=by simpa using q
  subst this;rfl
theorem Hop.he(H:Hop hI σ T τ T'):Hop eI σ T τ T':=H.sub fun i hi=>by
 simp only[hI,eI,Bool.and_eq_true,decide_eq_true_eq,Bool.not_eq_true',Bool.and_eq_false_iff,decide_eq_false_iff_not]at hi⊢;omega
theorem Hop.hbe(H:Hop hbI σ T τ T'):Hop eI σ T τ T':=H.sub fun i hi=>by
 simp only[hbI,eI,Bool.or_eq_true,Bool.and_eq_true,decide_eq_true_eq,Bool.not_eq_true',Bool.and_eq_false_iff,decide_eq_false_iff_not]at hi⊢;omega
theorem Hop.te(H:Hop tI σ T τ T'):Hop eI σ T τ T':=H.sub fun i hi=>by
 simp only[tI,eI,Bool.and_eq_true,decide_eq_true_eq,Bool.not_eq_true',Bool.and_eq_false_iff,decide_eq_false_iff_not]at hi⊢;omega
theorem Hop.oe{t:Nat}(H:Hop (only t) σ T τ T')(ht:eI t=true:=by rfl):Hop eI σ T τ T':=H.sub fun i hi=>by
 have:i=t:=by simpa using hi
 rw[this];exact ht
theorem pI_hI{j:Nat}(h:pI j=true):hI j=false:=by
 simp only[pI,hI,Bool.or_eq_true,Bool.and_eq_true,decide_eq_true_eq,Bool.and_eq_false_iff,decide_eq_false_iff_not]at h⊢;omega
theorem hI_pI{j:Nat}(h:hI j=true):pI j=false:=by
 simp only[pI,hI,Bool.or_eq_false_iff,Bool.and_eq_true,decide_eq_true_eq,Bool.and_eq_false_iff,decide_eq_false_iff_not]at h⊢;omega
theorem PropH.hopH{lp:Nat}{h:PH}{s:PS}(p:PropH σ T lp h s)(H:Hop hI σ T τ T'):PropH τ T' lp h s:=p.hop H fun j hj=>pI_hI hj
theorem PropH.hopHB{lp:Nat}{h:PH}{s:PS}(p:PropH σ T lp h s)(H:Hop hbI σ T τ T'):PropH τ T' lp h s:=p.hop H fun j hj=>by
 simp only[pI,hbI,Bool.or_eq_true,Bool.or_eq_false_iff,Bool.and_eq_true,decide_eq_true_eq,Bool.and_eq_false_iff,decide_eq_false_iff_not]at hj⊢;omega
theorem PropH.hopO{lp:Nat}{h:PH}{s:PS}(p:PropH σ T lp h s){t:Nat}(H:Hop (only t) σ T τ T')(ht:pI t=false:=by rfl):PropH τ T' lp h s:=p.hop H fun j hj=>by
 simp only[only,beq_eq_false_iff_ne];intro e;subst e;rw[ht]at hj;cases hj
theorem HpI.hopP{lh N:Nat}{hs:List Int}(p:HpI σ T lh N hs)(H:Hop pI σ T τ T'):HpI τ T' lh N hs:=p.hop H fun j hj=>hI_pI hj
theorem HpI.hopJ{lh N:Nat}{hs:List Int}(p:HpI σ T lh N hs)(H:Hop pJ σ T τ T'):HpI τ T' lh N hs:=p.hop H fun j hj=>by
 simp only[pJ,Bool.or_eq_false_iff];refine⟨hI_pI hj,?_⟩;simp only[hI,Bool.and_eq_true,decide_eq_true_eq]at hj;simp;omega
theorem HpI.hopT{lh N:Nat}{hs:List Int}(p:HpI σ T lh N hs)(H:Hop tI σ T τ T'):HpI τ T' lh N hs:=p.hop H fun j hj=>by
 simp only[hI,tI,Bool.and_eq_true,decide_eq_true_eq,Bool.and_eq_false_iff,decide_eq_false_iff_not]at hj⊢;omega
variable{e:EnP}{n k:Nat}{s:PS}{hs:List Int}{ln:List (Int×Int)}{lg:List (Bool×List Int)}{since least:Int}{h:PH}{xs xl xg:AVal}{conf bump most:Int}{sv:List Int}{ws:List (Bool×AVal)}{gl:Bool}{C:List (List Int)}{w:Nat}
theorem EnH.hopT(E:EnH σ T e n s hs ln lg since least h xs xl xg conf bump most sv ws)(H:Hop tI σ T τ T'):EnH τ T' e n s hs ln lg since least h xs xl xg conf bump most sv ws:=
 ⟨E.obj.hop H,E.prop.hopT H,E.heap.hopT H,E.pace.hop H,E.most,E.sav.hop H,E.svl,E.lrn.hop H,E.log.hop H,E.all.hop H⟩
theorem EnH.hopE{t:Nat}(E:EnH σ T e n s hs ln lg since least h xs xl xg conf bump most sv ws)(H:Hop (only t) σ T τ T')(ht:(decide (15<=t)&&decide (t<=29))||(decide (35<=t)&&decide (t<=39))=true:=by rfl):EnH τ T' e n s hs ln lg since least h xs xl xg conf bump most sv ws:=by
 have hne:∀u,u≠t->(only t) u=false:=fun u hu=>by simpa using hu
 simp only[Bool.or_eq_true,Bool.and_eq_true,decide_eq_true_eq]at ht;exact⟨E.obj.hop H (hne _ (by omega)),E.prop.hopO H (by simp only[pI,Bool.or_eq_false_iff,Bool.and_eq_false_iff,decide_eq_false_iff_not];omega),E.heap.hopB H (by simp only[hI,Bool.and_eq_false_iff,decide_eq_false_iff_not];omega),E.pace.hop H (hne _ (by omega)) (hne _ (by omega)),E.most,E.sav.hop H (hne _ (by omega)),E.svl,E.lrn.hop H (hne _ (by omega)),E.log.hop H (hne _ (by omega)),E.all.hop H (hne _ (by omega))⟩
theorem EnH.hle(E:EnH σ T e n s hs ln lg since least h xs xl xg conf bump most sv ws)(L:Hle σ τ):EnH τ T e n s hs ln lg since least h xs xl xg conf bump most sv ws:=
 ⟨E.obj.hle L,E.prop.hle L,E.heap.hle L,E.pace.hle L,E.most,E.sav.hle L,E.svl,E.lrn.hle L,E.log.hle L,E.all.hle L⟩
theorem yco_(ht:TrI n s):∀l∈s.sinceL k,l∈s.trail:=fun l hl=>by
 unfold PS.sinceL at hl
 split at hl
 ·exact List.mem_of_mem_drop hl
 ·cases hl
theorem y74_(E:EnX σ T e n s hs ln lg since least)(hn:Tn σ T)(L:EnL gl n C s hs ln lg since least w)(hn4:n<=4000) :
  W (S.z107 (.ptr e.le 0) (k:Int) σ) fun r=>∃T' hs',Hop eI σ T r.2 T'/\EnX r.2 T' e n (s.backK k) hs' ln lg since least/\EnL gl n C (s.backK k) hs' ln lg since least (w+1):=by
 obtain⟨h,xs,xl,xg,conf,bump,most,sv,ws,E⟩:=E;have ht:=L.si.ti;have hlt:=ht.lenT;have k1:=E.obj;unfold S.z107
 repeat' with_reducible first|refine W.bind ?_|refine W.asV ?_|refine W.fldp ?_|refine W.nck ?_|refine W.u0 ?_
 refine W.mono (yis_ (k:=k) E.prop hn ht hn4) fun r hr=>?_;obtain⟨y,τ1⟩:=r;obtain⟨L1,hy⟩:=hr;dsimp only at L1 hy⊢;replace E:=E.hle L1;have HH:Hop eI σ T τ1 T:=Hop.of hn L1;have hyu:=hy.up
 clear k1
 have hsl:(s.sinceL k).length<=n:=by
  unfold PS.sinceL
  split
  ·simp;omega
  ·simp
 repeat' with_reducible first|refine W.bind ?_|refine W.len (by assumption) ?_
 refine W.mono (P:=fun r=>∃T' hs' sv',Hop eI σ T r.2 T'/\EnH r.2 T' e n s hs' ln lg since least h xs xl xg conf bump most sv' ws/\∀x,x∈hs'↔x∈hs\/∃l∈s.sinceL k,x=(l.natAbs:Int)) ?_ fun r hr=>?_
 ·refine W.loop (s.sinceL k).length (fun i (z:Int) τ=>z=(i:Int)/\∃T' hs' sv',Hop eI σ T τ T'/\SlV .int (τ.at T' 0) (s.sinceL k) y/\EnH τ T' e n s hs' ln lg since least h xs xl xg conf bump most sv' ws/\∀x,x∈hs'↔x∈hs\/∃l∈(s.sinceL k).take i,x=(l.natAbs:Int)) ⟨rfl,T,hs,sv,HH,hy,E,fun x=>by simp⟩ fun i z τ2 hi hI2=>?_
  obtain⟨rfl,T2,hs2,sv2,HH,hy,E,hmem⟩:=hI2;have wr:IntKind.i64.wrap ((i:Int)+1)=((i+1:Nat):Int):=by rw[wrapS]<;>omega
  unfold S.z107.b0
  (with_reducible refine W.cnd (fun hlt2=>?_) (fun hlt2=>?_)<;>(try simp only[qq,Kd.ty]at hlt2)<;>(try (exfalso;omega)))
  ·obtain⟨a,ha⟩:=y3_ (xs:=s.sinceL k) (i:=i) (by omega)
   have hat:=yco_ ht a (List.mem_of_getElem? ha);have haL:=ht.rng a hat;have ha0:=ye_ haL;obtain⟨k1,kp,kh,kq,km,ks,ksl,kl,kg,ka⟩:=E;have hyu:=hy.up
   repeat' with_reducible first|refine W.bind ?_|refine W.e2 ?_
   refine W.to (yq_ haL hn4) ?_
   repeat' with_reducible first|refine W.ret ?_|refine W.asV ?_|refine W.fldp ?_|refine W.nck ?_|refine W.u0 ?_
   refine W.ixO ks.slT (i:=a.natAbs) (by omega) ?_;refine W.own_setI ks HH.tn (by omega) fun τ3 ks H3 _=>?_;replace HH:=HH.trans H3.oe;replace hy:=hy.hop H3;replace kp:=kp.hopO H3;replace kh:=kh.hopB H3;replace kq:=kq.hop H3;replace ka:=ka.hop H3;replace k1:=k1.hop H3;replace kl:=kl.hop H3;replace kg:=kg.hop H3;replace hn:=H3.tn;refine W.bind ?_;refine W.mono (P:=fun r=>∃sv',Hop (only 32) τ3 T2 r.2 T2/\Own .int (r.2.at T2 32) sv' xs/\sv'.length=n+1) ?_ fun r hr=>?_
   ·(with_reducible refine W.cnd (fun hp=>?_) (fun hp=>?_)<;>(try simp only[qq,Kd.ty]at hp)<;>(try (exfalso;omega)))
    ·repeat' with_reducible first|refine W.asV ?_|refine W.fldp ?_|refine W.nck ?_|refine W.u0 ?_
     refine W.ixO ks.slT (i:=a.natAbs) (by simp;omega) ?_;refine W.own_setI ks HH.tn (by simp;omega) fun τ4 ks H4 _=>?_
     repeat' with_reducible refine W.ret ?_
     exact⟨_,H4,ks,by simp[ksl]⟩
    ·repeat' with_reducible refine W.ret ?_
     exact⟨_,Hop.refl HH.tn,ks,by simp[ksl]⟩
   ·obtain⟨r,τ4⟩:=r
    obtain⟨sv4,H4,ks,ksl⟩:=hr;dsimp only at H4 ks⊢;replace HH:=HH.trans H4.oe;replace hy:=hy.hop H4;replace kp:=kp.hopO H4;replace kh:=kh.hopB H4;replace kq:=kq.hop H4;replace ka:=ka.hop H4;replace k1:=k1.hop H4;replace kl:=kl.hop H4;replace kg:=kg.hop H4;replace hn:=H4.tn
    repeat' with_reducible first|refine W.bind ?_|refine W.asV ?_|refine W.fldp ?_|refine W.nck ?_|refine W.u0 ?_
    refine W.mono (y92_ (v:=a.natAbs) kh HH.tn hn4 (by omega) ha0.2) fun r hr=>?_;obtain⟨r,τ5⟩:=r;obtain⟨T5,hs5,H5,kh,hm5⟩:=hr;dsimp only at H5 kh⊢;replace HH:=HH.trans H5.he
    repeat' with_reducible first|refine W.next ?_|refine W.ret ?_
    refine⟨by omega,wr,T5,hs5,sv4,HH,hy.hop H5,⟨k1.hop H5,kp.hopH H5,kh,kq.hop H5,km,ks.hop H5,ksl,kl.hop H5,kg.hop H5,ka.hop H5⟩,fun x=>?_⟩;have htk:(s.sinceL k).take (i+1)=(s.sinceL k).take i++[a]:=by rw[List.take_add_one,ha];rfl
    rw[hm5,hmem,htk];constructor
    ·rintro((q|⟨l,hl,q⟩)|q)
     ·exact .inl q
     ·exact .inr ⟨l,by simp[hl],q⟩
     ·exact .inr ⟨a,by simp,q⟩
    ·rintro(q|⟨l,hl,q⟩)
     ·exact .inl (.inl q)
     ·rcases List.mem_append.1 hl with hl|hl
      ·exact .inl (.inr ⟨l,hl,q⟩)
      ·rw[List.mem_singleton.1 hl]at q;exact .inr q
  ·repeat' (with_reducible refine W.stop ?_)
   rw[List.take_of_length_le (by omega)]at hmem;exact⟨T2,hs2,sv2,HH,E,hmem⟩
 ·obtain⟨r,τ2⟩:=r
  obtain⟨T2,hs2,sv2,HH,E,hmem⟩:=hr;dsimp only at HH E⊢;obtain⟨k1,kp,kh,kq,km,ks,ksl,kl,kg,ka⟩:=E
  repeat' with_reducible first|refine W.bind ?_|refine W.asV ?_|refine W.fldp ?_|refine W.nck ?_|refine W.u0 ?_
  refine W.mono (yjm_ (k:=k) kp HH.tn L.si hn4) fun r hr=>?_;obtain⟨r,τ3⟩:=r;obtain⟨T3,h3,H3,kp⟩:=hr;dsimp only at H3 kp⊢
  repeat' with_reducible refine W.ret ?_
  refine⟨T3,hs2,HH.trans H3.pe,⟨_,_,_,_,_,_,_,_,_,k1.hop H3,kp,kh.hopP H3,kq.hop H3,km,ks.hop H3,ksl,kl.hop H3,kg.hop H3,ka.hop H3⟩,?_⟩;have hz:=L.z2;cases hm:s.marks[k]? with
  |none=>
   have e1:s.backK k=s:=by unfold PS.backK;rw[hm]
   rw[e1];exact L.step L.si (CEq.refl s) (fun v h1 h2 h3=>(hmem _).2 (.inl (L.hp v h1 h2 h3))) (by omega)
  | some a'=>
   obtain⟨a,ea,_,_⟩:=ht.mks k a' hm;subst ea;have e1:s.backK k=s.back k a:=by unfold PS.backK;rw[hm];rfl
   have e2:s.sinceL k=s.trail.drop a:=by unfold PS.sinceL;rw[hm];rfl
   obtain⟨g0,g1,g2,g3,g4,g5,g6,g7,g8,g9,g10⟩:=L.si.back hm;rw[e1];refine L.step g0 ⟨by rw[g3],fun id a b h1 h2=>by rw[g3]at h2;exact(CEq.refl s).2 id a b h1 h2⟩ (fun v h1 h2 h3=>?_) (by
    have:(s.back k a).ent=s.ent:=by simp only[PS.ent,g5]
    rw[this,g4];omega)
   rw[hmem,e2];by_cases hv:val s.vs v=0
   ·exact .inl (L.hp v h1 h2 hv)
   ·right
    have hsplit:∀y,y∈s.trail->y∈s.trail.take a\/y∈s.trail.drop a:=fun y hy=>by
     rw[<-List.take_append_drop a s.trail]at hy;exact List.mem_append.1 hy
    rw[g10]at h3;have hval:=y1q_ ht.ok (v:Int);rcases(show val s.vs v=1\/val s.vs v=2 by omega)with q|q
    ·rcases hsplit _ ((ht.tr _).1 q)with u|u
     ·rw[if_pos u]at h3;omega
     ·exact⟨_,u,by simp⟩
    ·rcases hsplit _ (ht.neg.1 q)with u|u
     ·split at h3
      ·omega
      ·omega
     ·exact⟨_,u,by simp⟩
end
end
section
open Go
section
variable{σ τ:Heap}{T T':Tg}{e:EnP}{n k:Nat}{s:PS}{hs:List Int}{ln:List (Int×Int)}{lg:List (Bool×List Int)}{since least:Int}{h:PH}{xs xl xg x:AVal}{conf bump most:Int}{sv o:List Int}{ws:List (Bool×AVal)}{gl:Bool}{C:List (List Int)}{w:Nat}
theorem ydw_(E:EnX σ T e n s hs ln lg since least)(hn:Tn σ T)(hn4:n<=4000)(ho:SlV .int (σ.at T 0) o x)(hv:∀v∈o,1<=v/\v<=(n:Int))(hol:o.length<=1000000) :
  W (S.z108 (.ptr e.le 0) x σ) fun r=>∃T' hs',Hop eI σ T r.2 T'/\EnX r.2 T' e n s hs' ln lg since least/\∀x,x∈hs'↔x∈hs:=by
 obtain⟨h,xs,xl,xg,conf,bump,most,sv,ws,E⟩:=E;have hou:=ho.up;unfold S.z108
 repeat' with_reducible first|refine W.bind ?_|refine W.len (by assumption) ?_
 refine W.mono (P:=fun r=>∃T' hs',Hop eI σ T r.2 T'/\EnH r.2 T' e n s hs' ln lg since least h xs xl xg conf bump most sv ws/\∀x,x∈hs'↔x∈hs) ?_ fun r hr=>?_
 ·refine W.loop o.length (fun i (z:Int) τ=>z=(i:Int)/\∃T' hs',Hop eI σ T τ T'/\SlV .int (τ.at T' 0) o x/\EnH τ T' e n s hs' ln lg since least h xs xl xg conf bump most sv ws/\∀x,x∈hs'↔x∈hs) ⟨rfl,T,hs,Hop.refl hn,ho,E,fun _=>Iff.rfl⟩ fun i z τ1 hi hI2=>?_
  obtain⟨rfl,T1,hs1,HH,ho,E,hm1⟩:=hI2;have wr:IntKind.i64.wrap ((i:Int)+1)=((i+1:Nat):Int):=by rw[wrapS]<;>omega
  unfold S.z108.b0
  (with_reducible refine W.cnd (fun hlt=>?_) (fun hlt=>?_)<;>(try simp only[qq,Kd.ty]at hlt)<;>(try (exfalso;omega)))
  ·obtain⟨a,ha⟩:=y3_ (xs:=o) (i:=i) (by omega)
   have hav:=hv a (List.mem_of_getElem? ha);obtain⟨v,rfl⟩:∃v:Nat,a=v:=⟨a.toNat,by omega⟩;obtain⟨k1,kp,kh,kq,km,ks,ksl,kl,kg,ka⟩:=E;have hou:=ho.up
   repeat' with_reducible first|refine W.bind ?_|refine W.asI ?_|refine W.asV ?_|refine W.fldp ?_|refine W.e2 ?_|refine W.nck ?_|refine W.u0 ?_
   refine W.mono (yem_ (v:=v) kh HH.tn hn4 (by omega) (by omega)) fun r hr=>?_;obtain⟨r,τ5⟩:=r;obtain⟨T5,hs5,H5,kh,hm5⟩:=hr;dsimp only at H5 kh⊢
   repeat' (with_reducible refine W.next ?_)
   exact⟨by omega,wr,T5,hs5,HH.trans H5.he,ho.hop H5,⟨k1.hop H5,kp.hopH H5,kh,kq.hop H5,km,ks.hop H5,ksl,kl.hop H5,kg.hop H5,ka.hop H5⟩,fun x=>by rw[hm5,hm1]⟩
  ·repeat' (with_reducible refine W.stop ?_)
   exact⟨T1,hs1,HH,E,hm1⟩
 ·obtain⟨r,τ1⟩:=r
  obtain⟨T1,hs1,HH,E,hm1⟩:=hr;dsimp only at HH E⊢;obtain⟨k1,kp,kh,kq,km,ks,ksl,kl,kg,ka⟩:=E;have hn:=HH.tn
  repeat' with_reducible first|refine W.asI ?_|refine W.fldp ?_|refine W.nck ?_|refine W.u0 ?_
  refine W.stT k1 hn (Nat.le_of_ble_eq_true (by rfl)) fun τ2 H2 k1 hnτ2=>?_;replace HH:=HH.trans H2.oe;replace kp:=kp.hopO H2;replace kh:=kh.hopB H2;replace kq:=kq.hop H2;replace ka:=ka.hop H2;replace ks:=ks.hop H2;replace kl:=kl.hop H2;replace kg:=kg.hop H2;replace hn:=H2.tn
  repeat' with_reducible first|refine W.asI ?_|refine W.fldp ?_|refine W.nck ?_|refine W.u0 ?_
  (with_reducible refine W.cnd (fun hbm=>?_) (fun hbm=>?_)<;>(try simp only[qq,Kd.ty]at hbm)<;>(try (exfalso;omega)))
  ·repeat' (with_reducible refine W.bind ?_)
   refine W.mono (P:=fun r=>∃T' hs',Hop hI τ2 T1 r.2 T'/\HpI r.2 T' e.lh n hs'/\∀x,x∈hs'↔x∈hs) ?_ fun r hr=>?_
   ·refine W.loop 20 (fun i (z:Int) τ=>z=(i:Int)/\∃T' hs',Hop hI τ2 T1 τ T'/\Loc (τ.at T' 31) e.le [.ptr e.lp 0,.ptr e.lh 0,.ptr e.lq 0,xs,xl,xg,.int .i64 conf,.int .i64 (IntKind.i64.wrap (bump+IntKind.i64.wrap (Int.tdiv bump 16)))]/\HpI τ T' e.lh n hs'/\∀x,x∈hs'↔x∈hs) ⟨rfl,T1,hs1,Hop.refl HH.tn,k1,kh,hm1⟩ fun i z τ3 hi hI2=>?_
    obtain⟨rfl,T3,hs3,H3,k1,kh,hm3⟩:=hI2;have wr:IntKind.i64.wrap ((i:Int)+1)=((i+1:Nat):Int):=by rw[wrapS]<;>omega
    unfold S.z108.b1
    (with_reducible refine W.cnd (fun hlt=>?_) (fun hlt=>?_)<;>(try simp only[qq,Kd.ty]at hlt)<;>(try (exfalso;omega)))
    ·repeat' with_reducible first|refine W.bind ?_|refine W.asV ?_|refine W.fldp ?_|refine W.nck ?_|refine W.u0 ?_
     refine W.mono (ycp_ kh H3.tn hn4) fun r hr=>?_;obtain⟨r,τ5⟩:=r;obtain⟨T5,hs5,H5,kh,hm5⟩:=hr;dsimp only at H5 kh⊢
     repeat' (with_reducible refine W.next ?_)
     exact⟨by omega,wr,T5,hs5,H3.trans H5,k1.hop H5,kh,fun x=>by rw[hm5,hm3]⟩
    ·repeat' (with_reducible refine W.stop ?_)
     exact⟨T3,hs3,H3,kh,hm3⟩
   ·obtain⟨r,τ3⟩:=r
    obtain⟨T3,hs3,H3,kh,hm3⟩:=hr;dsimp only at H3 kh⊢;replace HH:=HH.trans H3.he;replace kp:=kp.hopH H3;replace kq:=kq.hop H3;replace ka:=ka.hop H3;replace k1:=k1.hop H3;replace ks:=ks.hop H3;replace kl:=kl.hop H3;replace kg:=kg.hop H3;replace hn:=H3.tn
    repeat' with_reducible first|refine W.asI ?_|refine W.fldp ?_|refine W.nck ?_|refine W.u0 ?_
    refine W.stT k1 hn (Nat.le_of_ble_eq_true (by rfl)) fun τ4 H4 k1 hnτ4=>?_
    repeat' with_reducible refine W.ret ?_
    exact⟨T3,hs3,HH.trans H4.oe,⟨_,_,_,_,_,_,_,_,_,k1,kp.hopO H4,kh.hopB H4,kq.hop H4,km,ks.hop H4,ksl,kl.hop H4,kg.hop H4,ka.hop H4⟩,hm3⟩
  ·repeat' with_reducible refine W.ret ?_
   exact⟨T1,hs1,HH,⟨_,_,_,_,_,_,_,_,_,k1,kp,kh,kq,km,ks,ksl,kl,kg,ka⟩,hm1⟩
theorem y7v_(hS:StI n s):(s.backK 0).marks=[]:=by
 unfold PS.backK;cases hm:s.marks[0]? with
 |none=>
  have:=List.getElem?_eq_none_iff.1 hm;show s.marks=[];exact List.eq_nil_of_length_eq_zero (by omega)
 |some a'=>
  obtain⟨a,ea,_,_⟩:=hS.ti.mks 0 a' hm;subst ea;exact(hS.back hm).2.1
theorem AllB.push{ss:List (Bool×List Int)}{ws:List (Bool×AVal)}{b:Bool}{c:List Int}(h:AllB (σ.at T 0) ss ws)(hx:SlV .int (σ.at T 0) c x):AllB (σ.at T 0) (ss++[(b,c)]) (ws++[(b,x)]):=h.app (AllB.one (s:=(b,c)) hx)
def LgX(n i:Nat)(lg:List (Bool×List Int))(k:Nat)(lg':List (Bool×List Int)):Prop:=∃ds:List (Bool×List Int),lg'=lg++ds/\(∀d∈ds,d.1=true/\d.2.length<=n/\∀x∈d.2,isL x n=true)/\k+ds.length<=i
theorem LgX.zero{lg:List (Bool×List Int)}:LgX n 0 lg 0 lg:=⟨[],by simp,by simp,by simp⟩
theorem LgX.stay{i:Nat}{lg':List (Bool×List Int)}(h:LgX n i lg k lg'):LgX n (i+1) lg (k+1) lg':=by
 obtain⟨ds,h1,h2,h3⟩:=h;exact⟨ds,h1,h2,by omega⟩
theorem LgX.drop{i:Nat}{lg':List (Bool×List Int)}{c:List Int}(h:LgX n i lg k lg')(hc:c.length<=n/\∀x∈c,isL x n=true):LgX n (i+1) lg k (lg'++[(true,c)]):=by
 obtain⟨ds,h1,h2,h3⟩:=h;refine⟨ds++[(true,c)],by rw[h1,List.append_assoc],fun d hd=>?_,by simp;omega⟩;rcases List.mem_append.1 hd with q|q
 ·exact h2 d q
 ·rw[List.mem_singleton.1 q];exact⟨rfl,hc⟩
theorem yeg_(E:EnX σ T e n s hs ln lg since least)(hn:Tn σ T)(L:EnL gl n C s hs ln lg since least w)(hn4:n<=4000)(hw:w<=860000000000) :
  W (S.z113 (.ptr e.le 0) σ) fun r=>∃T' s' hs' ln' lg',Hop eI σ T r.2 T'/\EnX r.2 T' e n s' hs' ln' lg' since least/\EnL gl n C s' hs' ln' lg' since least (w+1)/\s'.marks=[]/\LgX n ln.length lg ln'.length lg':=by
 unfold S.z113;refine W.bind ?_;refine W.mono (y74_ (k:=0) E hn L hn4) fun r hr=>?_;obtain⟨r,τ1⟩:=r;obtain⟨T1,hs1,HH,E,L⟩:=hr;dsimp only at HH E⊢;have hmk:=y7v_ (s:=s) (n:=n) (by
  exact ‹EnL gl n C s hs ln lg since least w›.si)
 generalize s.backK 0=s1 at E L hmk;obtain⟨h,xs,xl,xg,conf,bump,most,sv,ws,E⟩:=E;have k1:=E.obj;have kl0:=E.lrn.slT;have hll:=L.z3
 repeat' with_reducible first|refine W.bind ?_|refine W.asV ?_|refine W.fldp ?_|refine W.len (by assumption) ?_|refine W.nck ?_|refine W.u0 ?_
 refine W.mono (P:=fun r=>∃T' s' ln' lg' h' xg' ws',Hop eI σ T r.2 T'/\EnH r.2 T' e n s' hs1 ln lg' since least h' xs xl xg' conf bump most sv ws'/\Own vLn (r.2.at T' 35) ln' r.1/\EnL gl n C s' hs1 ln' lg' since least (w+1)/\s'.marks=[]/\LgX n ln.length lg ln'.length lg') ?_ fun r hr=>?_
 ·refine W.loop ln.length (fun i (z:AVal×Int) τ=>z.2=(i:Int)/\∃T' s' st lg' h' xg' ws',Hop eI σ T τ T'/\EnH τ T' e n s' hs1 ln lg' since least h' xs xl xg' conf bump most sv ws'/\Own vLn (τ.at T' 35) st z.1/\EnL gl n C s' hs1 (st++ln.drop i) lg' since least (w+1)/\s'.marks=[]/\st.length<=i/\LgX n i lg st.length lg') ⟨rfl,T1,s1,[],lg,h,xg,ws,HH,E,.nil,by simpa using L,hmk,by simp,.zero⟩ fun i z τ2 hi hI2=>?_
  obtain⟨z,zi⟩:=z;obtain⟨hz,T2,s2,st,lg2,h2,xg2,ws2,HH,E,kS,L,hmk,hst,hX⟩:=hI2;dsimp only at hz kS⊢;subst hz;have wr:IntKind.i64.wrap ((i:Int)+1)=((i+1:Nat):Int):=by rw[wrapS]<;>omega
  unfold S.z113.b0
  (with_reducible refine W.cnd (fun hlt=>?_) (fun hlt=>?_)<;>(try simp only[qq,Kd.ty]at hlt)<;>(try (exfalso;omega)))
  ·obtain⟨⟨idv,score⟩,ha⟩:=y3_ (xs:=ln) (i:=i) (by omega)
   have hdr:ln.drop i=(idv,score)::ln.drop (i+1):=by
    rw[List.drop_eq_getElem_cons (by omega)];rw[(List.getElem?_eq_some_iff.1 ha).2]
   rw[hdr]at L;obtain⟨id,c,f,eid,hc⟩:=L.lnI (idv,score) (by simp);dsimp only at eid;subst eid;have ht:=L.si.ti;have hcn:=L.si.ci.len hc;have hcL:=(L.si.ci id c f hc).1;have hlg:=L.z4;have hlgw:lg2.length<=2*w+2:=by omega
   repeat' (with_reducible refine W.bind ?_)
   refine W.ixO E.lrn.slT (i:=i) (by omega) ?_;refine W.ldGO E.lrn.slT ha [.int .i64 (id:Int),.int .i64 score] (fun bs h=>h) ?_;have hn:=HH.tn;refine W.newT 28 hn fun l12 τ3 T3 hl12 H3 k28 hnτ3=>?_;replace HH:=HH.trans H3.oe;replace E:=E.hopE H3;replace kS:=kS.hop H3
   repeat' (with_reducible refine W.e3 ?_)
   have hn:=HH.tn;refine W.stT k28 hn (Nat.le_of_ble_eq_true (by rfl)) fun τ4 H4 k28 hnτ4=>?_;replace HH:=HH.trans H4.oe;replace E:=E.hopE H4;replace kS:=kS.hop H4;obtain⟨k1,kp,kh,kq,km,ks,ksl,kl,kg,ka⟩:=E
   repeat' with_reducible first|refine W.bind ?_|refine W.asI ?_|refine W.asV ?_|refine W.fldp ?_|refine W.nck ?_|refine W.u0 ?_
   refine W.mono (y1y_ kp HH.tn hc (by omega)) fun r hr=>?_;obtain⟨y,τ5⟩:=r;obtain⟨L5,hy⟩:=hr;dsimp only at L5 hy⊢;rw[if_pos rfl]at hy;replace HH:=HH.hle L5;replace kp:=kp.hle L5;replace kh:=kh.hle L5;replace kq:=kq.hle L5;replace ka:=ka.hle L5;replace k1:=k1.hle L5;replace ks:=ks.hle L5;replace kl:=kl.hle L5;replace kg:=kg.hle L5;replace kS:=kS.hle L5;replace k28:=k28.hle L5;have hyu:=hy.up
   repeat' with_reducible first|refine W.bind ?_|refine W.asI ?_|refine W.asV ?_|refine W.fldp ?_|refine W.nck ?_|refine W.u0 ?_
   refine W.mono (yjj_ kq HH.tn) fun r hr=>?_;obtain⟨kb,τ6⟩:=r;obtain⟨H6,kq⟩:=hr;dsimp only at H6 kq⊢;replace HH:=HH.trans H6.oe;replace kp:=kp.hopO H6;replace kh:=kh.hopB H6;replace ka:=ka.hop H6;replace kS:=kS.hop H6;replace k28:=k28.hop H6;replace hy:=hy.hop H6;replace k1:=k1.hop H6;replace ks:=ks.hop H6;replace kl:=kl.hop H6;replace kg:=kg.hop H6;replace hn:=H6.tn;have hyu:=hy.up;refine W.mono (P:=fun r=>(r.1=true/\r.2=τ6)\/(r.1=false/\(∀x∈s2.trail,x∈c->s2.re x≠id)/\∃T' h',Hop pI τ6 T3 r.2 T'/\PropH r.2 T' e.lp h' (s2.dropC id f))) ?_ fun r hr=>?_
   ·cases kb with
    |true=>
     refine W.condT rfl ?_
     repeat' with_reducible refine W.ret ?_
     exact .inl ⟨rfl,rfl⟩
    | false=>
     refine W.condF rfl ?_
     repeat' (with_reducible refine W.len (by assumption) ?_)
     (with_reducible refine W.cnd (fun hl2=>?_) (fun hl2=>?_)<;>(try simp only[qq,Kd.ty]at hl2)<;>(try (exfalso;omega)))
     ·repeat' with_reducible refine W.ret ?_
      exact .inl ⟨rfl,rfl⟩
     ·repeat' with_reducible first|refine W.bind ?_|refine W.asI ?_|refine W.asV ?_|refine W.fldp ?_|refine W.nck ?_|refine W.u0 ?_
      refine W.mono (ye0_ kp HH.tn ht hn4 hc hcL (by omega)) fun r hr=>?_;rcases hr with er|⟨e1,e2,e3⟩
      ·subst er
       repeat' with_reducible refine W.ret ?_
       exact .inl ⟨rfl,rfl⟩
      ·obtain⟨r,τ7⟩:=r
       dsimp only at e1 e3⊢;subst e1
       repeat' with_reducible refine W.ret ?_
       exact .inr ⟨rfl,e2,e3⟩
   ·obtain⟨b,τ7⟩:=r
    rcases hr with ⟨e1,e2⟩|⟨e1,e2,T7,h7,H7,kp⟩
    ·dsimp only at e1 e2⊢
     subst e1 e2;refine W.condT rfl ?_
     repeat' with_reducible first|refine W.e3 ?_|refine W.putC (by with_unfolding_all rfl) ?_|refine W.u1 ?_
     refine W.own_push (bytes:=16) y8i_ kS HH.tn (a:=((id:Int),score)) rfl (by omega) (by omega) fun x2 τ8 T8 kS H8=>?_
     repeat' with_reducible first|refine W.next ?_|refine W.ret ?_
     refine⟨by omega,wr,T8,s2,st++[((id:Int),score)],lg2,h2,xg2,ws2,HH.trans H8.oe,EnH.hopE ⟨k1,kp,kh,kq,km,ks,ksl,kl,kg,ka⟩ H8,kS,by rw[List.append_assoc];exact L,hmk,by simp;omega,by rw[List.length_append];exact hX.stay⟩
    ·dsimp only at e1 H7 kp⊢
     subst e1;refine W.condF rfl ?_;replace HH:=HH.trans H7.pe;replace kh:=kh.hopP H7;replace kq:=kq.hop H7;replace ka:=ka.hop H7;replace kS:=kS.hop H7;replace hy:=hy.hop H7;have hyu:=hy.up;replace k1:=k1.hop H7;replace ks:=ks.hop H7;replace kl:=kl.hop H7;replace kg:=kg.hop H7;replace hn:=H7.tn;have hwl:=ka.1
     repeat' with_reducible first|refine W.asV ?_|refine W.fldp ?_|refine W.scalS (by assumption) ?_|refine W.nck ?_|refine W.u0 ?_
     refine W.own_push (bytes:=32) y4b_ kg HH.tn (a:=(true,y)) rfl (by omega) (by omega) fun x2 τ8 T8 kg H8=>?_;replace HH:=HH.trans H8.oe;replace kp:=kp.hopO H8;replace kh:=kh.hopB H8;replace kq:=kq.hop H8;replace ka:=ka.hop H8;replace kS:=kS.hop H8;replace hy:=hy.hop H8;replace k1:=k1.hop H8;replace ks:=ks.hop H8;replace kl:=kl.hop H8;replace hn:=H8.tn
     repeat' with_reducible first|refine W.fldp ?_|refine W.nck ?_|refine W.u4 ?_
     refine W.stT k1 hn (Nat.le_of_ble_eq_true (by rfl)) fun τ9 H9 k1 hnτ9=>?_;replace HH:=HH.trans H9.oe;replace kp:=kp.hopO H9;replace kh:=kh.hopB H9;replace kq:=kq.hop H9;replace ka:=ka.hop H9;replace kS:=kS.hop H9;replace hy:=hy.hop H9;replace ks:=ks.hop H9;replace kl:=kl.hop H9;replace kg:=kg.hop H9;replace hn:=H9.tn
     repeat' with_reducible first|refine W.next ?_|refine W.ret ?_
     exact⟨by omega,wr,T8,s2.dropC id f,st,_,h7,x2,_,HH,⟨k1,kp,kh,kq,km,ks,ksl,kl,kg,ka.push hy⟩,kS,L.drop hc e2,hmk,by omega,hX.drop ⟨hcn,hcL⟩⟩
  ·repeat' (with_reducible refine W.stop ?_)
   have:i=ln.length:=by omega
   subst this;rw[List.drop_length,List.append_nil]at L;exact⟨T2,s2,st,lg2,h2,xg2,ws2,HH,E,kS,L,hmk,hX⟩
 ·obtain⟨z,τ2⟩:=r
  obtain⟨T2,s2,st,lg2,h2,xg2,ws2,HH,E,kS,L,hmk,hX⟩:=hr;dsimp only at HH E kS⊢;obtain⟨T3,H3,kS⟩:=kS.retag (u:=33) y8i_ HH.tn;replace HH:=HH.trans H3.oe;obtain⟨k1,kp,kh,kq,km,ks,ksl,kl,kg,ka⟩:=E.hopE H3
  repeat' with_reducible first|refine W.fldp ?_|refine W.nck ?_|refine W.u4 ?_
  have hn:=HH.tn;refine W.stT k1 hn (Nat.le_of_ble_eq_true (by rfl)) fun τ4 H4 k1 hnτ4=>?_
  repeat' with_reducible refine W.ret ?_
  exact⟨T3,s2,hs1,st,lg2,HH.trans H4.oe,⟨_,_,_,_,_,_,_,_,_,k1,kp.hopO H4,kh.hopB H4,kq.hop H4,km,ks.hop H4,ksl,kS.hop H4,kg.hop H4,ka.hop H4⟩,L,hmk,hX⟩
end
end
section
open Go
section
variable{σ τ:Heap}{T T':Tg}{e:EnP}{n k id:Nat}{s:PS}{hs:List Int}{ln:List (Int×Int)}{lg:List (Bool×List Int)}{since least:Int}{h:PH}{xs xl xg x:AVal}{conf bump most:Int}{sv o c:List Int}{ws:List (Bool×AVal)}{gl f:Bool}{C:List (List Int)}{w:Nat}
theorem yg5_(hd:(c.map Int.natAbs).Nodup):(normL c).Perm c:=by
 have h1:c.Nodup:=by
  unfold List.Nodup at hd⊢;rw[List.pairwise_map]at hd;exact hd.imp fun hne e=>hne (by rw[e])
 exact(List.perm_ext_iff_of_nodup (y3i_ c) h1).2 fun x=>yc_
theorem ycn_(hS:StI n s)(L:Lrn n s c){b a:Nat}(hm:s.marks[b]?=some (a:Int))(h1:∀y∈c.tail,s.lv y<=b)(h2:b=0\/∃y∈c.tail,s.lv y=b):Ready ((s.back b a).addC (normL c)) s.cls.length:=by
 obtain⟨u,t,e,hu,ht⟩:=L.hd;subst e;obtain⟨g0,g1,g2,g3,g4,g5,g6,g7,g8,g9,g10⟩:=hS.back hm;have hbl:=y2_ hm;have hP:=yg5_ L.nd;have hum:u∈u::t:=by simp
 have htl:∀y∈t,-y∈s.trail.take a:=fun y hy=>by
  have h3:=L.fs y (by simp[hy]);exact(g9 _ h3.1).2 (by rw[PS.lv_neg];exact h1 y hy)
 have hvu:val (s.back b a).vs u=0:=by
  have h3:=L.fs u hum;rw[g10,if_neg fun q=>hS.ti.notBoth (List.mem_of_mem_take q) h3.1,if_neg fun q=>?_];have:=(g9 _ h3.1).1 q;rw[PS.lv_neg]at this;omega
 have hvy:∀y∈t,val (s.back b a).vs y=2:=fun y hy=>by
  have h3:=htl y hy;rw[g10,if_neg fun q=>g0.ti.notBoth (by rw[g2];exact q) (by rw[g2];exact h3),if_pos h3]
 refine⟨normL (u::t),true,?_,u,yc_.2 hum,hvu,fun y hy hne=>?_,fun hl=>?_,fun hl=>?_⟩
 ·have:=y6j_ (s:=s.back b a) (c:=normL (u::t))
  rwa [g3]at this
 ·have:=yc_.1 hy
  rcases List.mem_cons.1 this with q|q
  ·exact absurd q hne
  ·exact hvy y q
 ·rw[hP.length_eq]at hl
  rcases h2 with q|⟨y,hy,q⟩
  ·exfalso
   subst q;cases t with
   |nil=>simp at hl
   |cons y t=>
    have h3:=(L.fs y (by simp)).2;have h4:=h1 y (by simp);omega
  ·refine⟨y,yc_.2 (by simp at hy⊢;exact .inr hy),fun e=>?_,?_⟩
   ·subst e
    have:=ht y hy;omega
   ·have h3:=g8 _ (htl y hy)
    rw[PS.lv_neg,PS.lv_neg]at h3;show(s.back b a).lv y=((s.back b a).marks.length:Int);rw[h3,q,g1];simp;omega
 ·rw[hP.length_eq]at hl
  have:t=[]:=by
   cases t with
   |nil=>rfl
   |cons y t=>simp at hl
  subst this;rcases h2 with q|⟨y,hy,_⟩
  ·subst q
   show(s.back 0 a).marks=[];rw[g1];simp
  ·simp at hy
def LgS(n:Nat)(ln:List (Int×Int))(lg:List (Bool×List Int))(ln':List (Int×Int))(lg':List (Bool×List Int)):Prop:=∃k:List Int,(k.length<=n/\∀x∈k,isL x n=true)/\LgX n (ln.length+1) (lg++[(false,k)]) ln'.length lg'
theorem yh8_(E:EnX σ T e n s hs ln lg since least)(hn:Tn σ T)(L:EnL gl n C s hs ln lg since least w)(hn4:n<=4000)(hw:w<=851000000000)(hm:0<s.marks.length)(hlo:s.loose=[])(hc:s.cls[id]?=some (c,true,f))(hf:∀y∈c,val s.vs y=2)(hx:∃y∈c,s.lv y=s.marks.length) :
  W (S.z111 (.ptr e.le 0) (id:Int) σ) fun r=>r.1=true/\∃T' s' hs' ln' lg' since' least',Hop eI σ T r.2 T'/\EnX r.2 T' e n s' hs' ln' lg' since' least'/\EnL gl n C s' hs' ln' lg' since' least' (w+4) /\
   ((since'=since+1/\least'=least/\∃(b a:Nat) (k:List Int),s.marks[b]?=some (a:Int)/\s'=(s.back b a).addC (normL k)/\Ready s' s.cls.length)\/(s'.marks=[]/\since'=0/\least'=least+8/\least<=since+1))/\LgS n ln lg ln' lg':=by
 have hti:=L.si.ti;have hci:=L.si.ci;have z5:=L.z5;have z6:=L.z6;obtain⟨h,xs,xl,xg,conf,bump,most,sv,ws,E⟩:=E;obtain⟨k1,kp,kh,kq,km,ks,ksl,kl,kg,ka⟩:=E;unfold S.z111
 repeat' with_reducible first|refine W.asI ?_|refine W.fldp ?_|refine W.nck ?_|refine W.u0 ?_
 refine W.stT k1 hn (Nat.le_of_ble_eq_true (by rfl)) fun τ1 H1 k1 hnτ1=>?_;have HH:Hop eI σ T τ1 T:=H1.oe;replace kp:=kp.hopO H1;replace kh:=kh.hopB H1;replace kq:=kq.hop H1;replace ka:=ka.hop H1;replace ks:=ks.hop H1;replace kl:=kl.hop H1;replace kg:=kg.hop H1;replace hn:=H1.tn
 repeat' with_reducible first|refine W.bind ?_|refine W.asV ?_|refine W.fldp ?_|refine W.nck ?_|refine W.u0 ?_
 refine W.mono (yet_ kq HH.tn km (by omega)) fun r hr=>?_;obtain⟨b,τ2⟩:=r;obtain⟨e2,H2,kq⟩:=hr;dsimp only at e2 H2 kq⊢;subst e2;replace HH:=HH.trans H2.oe;replace kp:=kp.hopO H2;replace kh:=kh.hopB H2;replace ka:=ka.hop H2;replace k1:=k1.hop H2;replace ks:=ks.hop H2;replace kl:=kl.hop H2;replace kg:=kg.hop H2;replace hn:=H2.tn;refine W.condF rfl ?_
 repeat' with_reducible first|refine W.bind ?_|refine W.asV ?_|refine W.fldp ?_|refine W.nck ?_|refine W.u0 ?_
 refine W.mono (yjy_ kp HH.tn hti hci hn4 hm hc hf hx) fun r hr=>?_;obtain⟨r,τ3⟩:=r;obtain⟨T3,xc,bk,sco,xsn,c1,o,H3,er,q1',q2',hL1,hov,hol⟩:=hr;dsimp only at er H3 q1' q2'⊢;subst er;replace HH:=HH.trans H3.te;have E3:EnH τ3 T3 e n s hs ln lg (since+1) least h xs xl xg _ bump most sv ws:=EnH.hopT ⟨k1,kp,kh,kq,km,ks,ksl,kl,kg,ka⟩ H3
 clear k1 kp kh kq ks kl kg ka
 dsimp only;have hn:=HH.tn;refine W.newT 35 hn fun l11 τ4 T4 hl11 H4 k29 hnτ4=>?_;replace HH:=HH.trans H4.oe;replace E3:=E3.hopE H4;replace q1':=q1'.hop H4;replace q2':=q2'.hop H4
 repeat' (with_reducible refine W.e3 ?_)
 have hn:=HH.tn;refine W.stT k29 hn (Nat.le_of_ble_eq_true (by rfl)) fun τ5 H5 k29 hnτ5=>?_;replace HH:=HH.trans H5.oe;replace E3:=E3.hopE H5;replace q1':=q1'.hop H5;replace q2':=q2'.hop H5;have k1:=E3.obj;refine W.condF rfl ?_
 repeat' with_reducible first|refine W.bind ?_|refine W.asV ?_|refine W.fldp ?_|refine W.nck ?_|refine W.u0 ?_
 refine W.mono (yf4_ E3.prop HH.tn hti hci hn4 hL1 q1') fun r hr=>?_;obtain⟨y,τ6⟩:=r;obtain⟨T6,k,H6,hk,hLk,_⟩:=hr;dsimp only at H6 hk⊢;obtain⟨hkL,hkn⟩:=hLk.lits hti;replace HH:=HH.trans H6.te;replace E3:=E3.hopT H6;replace q2':=q2'.hop H6;replace k29:=k29.hop H6;have k1:=E3.obj
 repeat' with_reducible first|refine W.bind ?_|refine W.asV ?_|refine W.fldp ?_|refine W.nck ?_|refine W.u0 ?_
 refine W.mono (yd1_ E3.prop hti hn4 HH.tn (t:=0) rfl hk hkL (by omega)) fun r hr=>?_;obtain⟨score,τ7⟩:=r;obtain⟨T7,H7⟩:=hr;dsimp only at H7⊢;replace HH:=HH.trans H7.oe;replace E3:=E3.hopE H7;replace q2':=q2'.hop H7;replace hk:=hk.hop H7;replace k29:=k29.hop H7;have k1:=E3.obj;have hkne:k≠[]:=by
  obtain⟨u,t,e,_⟩:=hLk.hd;rw[e];simp
 repeat' with_reducible first|refine W.bind ?_|refine W.asV ?_|refine W.fldp ?_|refine W.nck ?_|refine W.u0 ?_
 refine W.mono (y7t_ E3.prop hti hn4 hk.up hkne hkL (by omega)) fun bk hbk=>?_;obtain⟨hb0,hb1,hb2⟩:=hbk;obtain⟨b,rfl⟩:∃b:Nat,bk=b:=⟨bk.toNat,by omega⟩;have hbm:b<s.marks.length:=by
  obtain⟨u,t,e,hu,ht⟩:=hLk.hd;rcases hb2 with q|⟨y,hy,q⟩
  ·omega
  ·rw[e]at hy
   have:=ht y (by simpa using hy);omega
 obtain⟨am,hma⟩:=y3_ (xs:=s.marks) (i:=b) hbm;obtain⟨a,ea,_,_⟩:=hti.mks b am hma;subst ea
 repeat' with_reducible first|refine W.bind ?_|refine W.asV ?_|refine W.u0 ?_
 have L1:EnL gl n C s hs ln lg (since+1) least (w+1):=(L.more (Nat.le_succ w)).pace (by omega) (by omega);refine W.mono (ydw_ ⟨_,_,_,_,_,_,_,_,_,E3⟩ HH.tn hn4 q2' hov (by omega)) fun r hr=>?_;obtain⟨r,τ8⟩:=r;obtain⟨T8,hs8,H8,E8,hm8⟩:=hr;dsimp only at H8 E8⊢;replace HH:=HH.trans H8;replace hk:=hk.hop H8;have L8:EnL gl n C s hs8 ln lg (since+1) least (w+1):=L1.heap fun v h1 h2 h3=>(hm8 _).2 (L1.hp v h1 h2 h3);refine W.bind ?_;refine W.mono (y74_ (k:=b) E8 HH.tn L8 hn4) fun r hr=>?_;obtain⟨r,τ9⟩:=r;obtain⟨T9,hs9,H9,E9,L9⟩:=hr;dsimp only at H9 E9⊢;replace HH:=HH.trans H9;replace hk:=hk.hop H9;have eb:s.backK b=s.back b a:=by unfold PS.backK;rw[hma];rfl
 rw[eb]at E9 L9;have hRdy:=ycn_ L.si hLk hma hb1 (hb2.imp (fun q=>by omega) fun q=>q);obtain⟨_,g1,g2,g3,g4,g5,_⟩:=L.si.back hma;have hdbE:(s.back b a).db=s.db:=by unfold PS.db;rw[g3]
 have hL10:EnL gl n C ((s.back b a).addC (normL k)) hs9 (ln++[((s.cls.length:Int),score)]) (lg++[(false,k)]) (since+1) least (w+1+1+1):=by
  have:=L9.learn hkL hLk.nd (by rw[hdbE];exact hLk.conf) (score:=score)
  rwa [g3]at this
 have z1:=L9.z1;have z2:=L9.z2;obtain⟨h9,xs9,xl9,xg9,conf9,bump9,most9,sv9,ws9,k1,kp,kh,kq,km,ks,ksl,kl,kg,ka⟩:=E9;have hwat:∀w'∈(s.back b a).wat,w'.length+10<=8700000000000:=fun w' hw'=>by
  have:=y6r_ hw';omega
 repeat' with_reducible first|refine W.bind ?_|refine W.asV ?_|refine W.fldp ?_|refine W.nck ?_|refine W.u0 ?_
 refine W.mono (ya7_ (n:=n) kp HH.tn L9.si.ti.len hn4 hk (by
  rw[List.all_eq_true];exact fun l hl=>y7f_ (hkL l hl) hn4) (by omega) (by omega) (by omega) hwat) fun r hr=>?_
 have hgood:y2e_ n k=false:=by
  unfold y2e_;rw[y8v_ hLk.nd];simp only[Bool.not_true,Bool.false_or,List.any_eq_false];intro l hl;simp[hkL l (yc_.1 hl)]
 obtain⟨r,τ10⟩:=r;obtain⟨T10,h10,H10,hr⟩:=hr;rcases hr with ⟨q,_⟩|⟨_,er,kp⟩
 ·rw[hgood]at q;cases q
 dsimp only at H10 er kp⊢;subst er;rw[ygg_]at kp;replace HH:=HH.trans H10.pe;replace hk:=hk.hop H10;replace kh:=kh.hopP H10;replace kq:=kq.hop H10;replace ka:=ka.hop H10;replace k1:=k1.hop H10;replace ks:=ks.hop H10;replace kl:=kl.hop H10;replace kg:=kg.hop H10;replace hn:=H10.tn;refine W.bind ?_;refine W.condT rfl ?_;rw[g3];have z3:=L9.z3;have z4:=L9.z4;have hwl:=ka.1
 repeat' with_reducible first|refine W.asV ?_|refine W.fldp ?_|refine W.nck ?_|refine W.u0 ?_
 refine W.own_push (bytes:=16) y8i_ kl HH.tn (a:=((s.cls.length:Int),score)) rfl (by omega) (by omega) fun x2 τ11 T11 kl H11=>?_;replace HH:=HH.trans H11.oe;replace hk:=hk.hop H11;replace kp:=kp.hopO H11;replace kh:=kh.hopB H11;replace kq:=kq.hop H11;replace ka:=ka.hop H11;replace k1:=k1.hop H11;replace ks:=ks.hop H11;replace kg:=kg.hop H11;replace hn:=H11.tn
 repeat' with_reducible first|refine W.fldp ?_|refine W.nck ?_|refine W.u4 ?_
 refine W.stT k1 hn (Nat.le_of_ble_eq_true (by rfl)) fun τ12 H12 k1 hnτ12=>?_;replace HH:=HH.trans H12.oe;replace hk:=hk.hop H12;replace kp:=kp.hopO H12;replace kh:=kh.hopB H12;replace kq:=kq.hop H12;replace ka:=ka.hop H12;replace ks:=ks.hop H12;replace kl:=kl.hop H12;replace kg:=kg.hop H12;replace hn:=H12.tn;have hku:=hk.up
 repeat' with_reducible first|refine W.ret ?_|refine W.asV ?_|refine W.fldp ?_|refine W.scalS (by assumption) ?_|refine W.nck ?_|refine W.u0 ?_
 refine W.own_push (bytes:=32) y4b_ kg HH.tn (a:=(false,y)) rfl (by omega) (by omega) fun x3 τ13 T13 kg H13=>?_;replace HH:=HH.trans H13.oe;replace hk:=hk.hop H13;replace kp:=kp.hopO H13;replace kh:=kh.hopB H13;replace kq:=kq.hop H13;replace ka:=ka.hop H13;replace k1:=k1.hop H13;replace ks:=ks.hop H13;replace kl:=kl.hop H13;replace hn:=H13.tn
 repeat' with_reducible first|refine W.fldp ?_|refine W.nck ?_|refine W.u4 ?_
 refine W.stT k1 hn (Nat.le_of_ble_eq_true (by rfl)) fun τ14 H14 k1 hnτ14=>?_;replace HH:=HH.trans H14.oe;replace hk:=hk.hop H14;replace kp:=kp.hopO H14;replace kh:=kh.hopB H14;replace kq:=kq.hop H14;replace ka:=ka.hop H14;replace ks:=ks.hop H14;replace kl:=kl.hop H14;replace kg:=kg.hop H14;replace hn:=H14.tn
 repeat' with_reducible first|refine W.bind ?_|refine W.asV ?_|refine W.fldp ?_|refine W.nck ?_|refine W.u0 ?_
 refine W.mono (yf3_ kq HH.tn (by omega)) fun r hr=>?_;obtain⟨rb,τ15⟩:=r;obtain⟨since',least',H15,kq,hcase⟩:=hr;dsimp only at H15 kq hcase⊢;replace HH:=HH.trans H15.oe;have E15:EnX τ15 T13 e n ((s.back b a).addC (normL k)) hs9 (ln++[((s.cls.length:Int),score)]) (lg++[(false,k)]) since' least':=⟨_,_,_,_,_,_,_,_,_,k1.hop H15,kp.hopO H15,kh.hopB H15,kq,km,ks.hop H15,ksl,kl.hop H15,kg.hop H15,(ka.push hk).hop H15⟩;rcases hcase with ⟨er,es,el⟩|⟨er,hls,es,el⟩
 ·subst er es el
  refine W.bind ?_;refine W.condF rfl ?_
  repeat' with_reducible refine W.ret ?_
  exact⟨rfl,T13,_,hs9,_,_,_,_,HH,E15,hL10.more (by omega),.inl ⟨rfl,rfl,b,a,k,hma,rfl,hRdy⟩,k,⟨hkn,hkL⟩,[],by simp,by simp,by simp⟩
 ·subst er es el
  refine W.bind ?_;refine W.condT rfl ?_;have hL15:EnL gl n C ((s.back b a).addC (normL k)) hs9 (ln++[((s.cls.length:Int),score)]) (lg++[(false,k)]) 0 (least+8) (w+1+1+1):=hL10.pace (by omega) (by omega);refine W.bind ?_;refine W.mono (yeg_ E15 HH.tn hL15 hn4 (by omega)) fun r hr=>?_;obtain⟨r,τ16⟩:=r;obtain⟨T16,s16,hs16,ln16,lg16,H16,E16,L16,hm16,hX16⟩:=hr
  repeat' with_reducible refine W.ret ?_
  exact⟨rfl,T16,s16,hs16,ln16,lg16,_,_,HH.trans H16,E16,L16,.inr ⟨hm16,rfl,rfl,hls⟩,k,⟨hkn,hkL⟩,by rw[List.length_append]at hX16;exact hX16⟩
end
end
section
open Go
theorem yfg_{α:Type}[BEq α][LawfulBEq α]:∀{xs ys:List α},xs.Nodup->(∀x∈xs,x∈ys)->xs.length<=ys.length
 |[],ys,_,_=>by simp
 |a::t,ys,hn,h=>by
  obtain⟨h1,h2⟩:=List.nodup_cons.1 hn;have:=yfg_ (xs:=t) (ys:=ys.erase a) h2 fun x hx=>(List.mem_erase_of_ne (show x≠a from fun e=>h1 (by rw[<-e];exact hx))).2 (h x (by simp[hx]));have h3:=List.length_erase_of_mem (h a (by simp));have h4:=List.length_pos_of_mem (h a (by simp));simp;omega
theorem W.mk0T{α R:Type}{Q:R->Prop}{v:Vw α}(t:Nat){σ:Heap}{T:Tg}(hn:Tn σ T){n bytes sz:Nat}{z:List AVal}(hsz:sz=v.sz)(hb:n*bytes<=70368744177664)(hb':n<=70368744177664){K:AVal->Heap->Option R}
  (c:∀x τ T',Hop (only t) σ T τ T'->Own v (τ.at T' t) [] x->W (K x τ) Q):W (mkS σ sz bytes z 0 (n:Int) K) Q:=by
 subst hsz;have e:mkS σ v.sz bytes z 0 (n:Int) K=K (.sl σ.next 0 0 none) (σ.new (.cells .rw v.sz (rep n z))):=by
  simp only[mkS,newK];rw[if_pos ⟨by omega,by omega,by omega,by omega⟩,Int.toNat_natCast];rfl
 refine W.to e (c _ _ (T.upd σ.next t) (y2r_ hn) (.inr ⟨σ.next,0,none,_,rfl,Nat.lt_succ_self _,at_of y16_ (by rw[yl_,if_pos rfl]),(fun k e=>by cases e),by simp,fun i b hi=>by simp at hi⟩))
section
variable{σ τ:Heap}{T T':Tg}{e:EnP}{n k id:Nat}{s:PS}{hs:List Int}{ln:List (Int×Int)}{lg:List (Bool×List Int)}{since least:Int}{h:PH}{xs xl xg x:AVal}{conf bump most:Int}{sv o c A core:List Int}{ws:List (Bool×AVal)}{gl f:Bool}{C:List (List Int)}{w:Nat}
theorem yc4_(E:EnX σ T e n s hs ln lg since least)(hn:Tn σ T)(L:EnL gl n C s hs ln lg since least w)(hw:w<=860000000000)(hc:SlV .int (σ.at T 0) core x)(hcl:core.length<=100000)(hcb:∀l∈core,inB l=true)(hC:Conf s.db core) :
  W (S.z109 (.ptr e.le 0) x σ) fun r=>∃T',Hop eI σ T r.2 T'/\r.1=.agg [.bool false,.nils,x]/\EnX r.2 T' e n s hs ln (lg++[(false,negs core)]) since least/\EnL gl n C s hs ln (lg++[(false,negs core)]) since least (w+1):=by
 have L':=L.final hC;have z4:=L.z4;obtain⟨h,xs,xl,xg,conf,bump,most,sv,ws,E⟩:=E;have hcu:=hc.up;unfold S.z109;refine W.newT 35 hn fun l1 τ1 T1 hl1 H1 k35 hnτ1=>?_;have HH:Hop eI σ T τ1 T1:=H1.oe;replace E:=E.hopE H1;replace hc:=hc.hop H1
 repeat' (with_reducible refine W.len (by assumption) ?_)
 refine W.mk0T (v:=.int) 28 HH.tn rfl (by omega) (by omega) fun y τ2 T2 H2 k28=>?_;replace HH:=HH.trans H2.oe;replace E:=E.hopE H2;replace hc:=hc.hop H2;replace k35:=k35.hop H2
 repeat' with_reducible first|refine W.bind ?_|refine W.len (by assumption) ?_
 refine W.mono (P:=fun r=>∃T',Hop (only 28) τ2 T2 r.2 T'/\Own .int (r.2.at T' 28) (negs core) r.1) ?_ fun r hr=>?_
 ·refine W.loop core.length (fun i (z:AVal×Int) τ=>z.2=(i:Int)/\∃T',Hop (only 28) τ2 T2 τ T'/\SlV .int (τ.at T' 0) core x/\Own .int (τ.at T' 28) (negs (core.take i)) z.1) ⟨rfl,T2,Hop.refl HH.tn,hc,k28⟩ fun i z τ3 hi hI2=>?_
  obtain⟨z,zi⟩:=z;obtain⟨hz,T3,H3,hc,k28⟩:=hI2;dsimp only at hz k28;subst hz;have wr:IntKind.i64.wrap ((i:Int)+1)=((i+1:Nat):Int):=by rw[wrapS]<;>omega
  unfold S.z109.b0
  (with_reducible refine W.cnd (fun hlt=>?_) (fun hlt=>?_)<;>(try simp only[qq,Kd.ty]at hlt)<;>(try (exfalso;omega)))
  ·obtain⟨a,ha⟩:=y3_ (xs:=core) (i:=i) (by omega)
   have hab:=hcb a (List.mem_of_getElem? ha);simp only[inB,Bool.and_eq_true,decide_eq_true_eq]at hab;have wa:IntKind.i64.wrap (0-a) = -a:=by rw[wrapS]<;>omega
   have hcu:=hc.up
   repeat' (with_reducible refine W.e2 ?_)
   rw[wa];refine W.own_push (bytes:=8) Vw.int_flat k28 H3.tn (a:=-a) rfl (by simp;omega) (by simp;omega) fun x2 τ4 T4 k28 H4=>?_
   repeat' (with_reducible refine W.next ?_)
   have htk:core.take (i+1)=core.take i++[a]:=by rw[List.take_add_one,ha];rfl
   refine⟨by omega,wr,T4,H3.trans H4,hc.hop H4,?_⟩;rw[htk,show negs (core.take i++[a])=negs (core.take i)++[-a] by simp[negs]];exact k28
  ·repeat' (with_reducible refine W.stop ?_)
   rw[List.take_of_length_le (by omega)]at k28;exact⟨T3,H3,k28⟩
 ·obtain⟨y2,τ3⟩:=r
  obtain⟨T3,H3,k28⟩:=hr;dsimp only at H3 k28⊢;replace HH:=HH.trans H3.oe;replace E:=E.hopE H3;replace hc:=hc.hop H3;replace k35:=k35.hop H3;obtain⟨T4,H4,k0⟩:=k28.retag (u:=0) Vw.int_flat HH.tn;replace HH:=HH.trans H4.oe;obtain⟨k1,kp,kh,kq,km,ks,ksl,kl,kg,ka⟩:=E.hopE H4;replace hc:=hc.hop H4;replace k35:=k35.hop H4;replace k0:=k0.sl;have k0u:=k0.up;have hwl:=ka.1
  repeat' with_reducible first|refine W.asV ?_|refine W.fldp ?_|refine W.scalS (by assumption) ?_|refine W.nck ?_|refine W.u0 ?_
  refine W.own_push (bytes:=32) y4b_ kg HH.tn (a:=(false,y2)) rfl (by omega) (by omega) fun x3 τ5 T5 kg H5=>?_;replace HH:=HH.trans H5.oe;replace hc:=hc.hop H5;replace k0:=k0.hop H5;replace k35:=k35.hop H5;replace kp:=kp.hopO H5;replace kh:=kh.hopB H5;replace kq:=kq.hop H5;replace ka:=ka.hop H5;replace k1:=k1.hop H5;replace ks:=ks.hop H5;replace kl:=kl.hop H5;replace hn:=H5.tn
  repeat' with_reducible first|refine W.fldp ?_|refine W.nck ?_|refine W.u4 ?_
  refine W.stT k1 hn (Nat.le_of_ble_eq_true (by rfl)) fun τ6 H6 k1 hnτ6=>?_;replace HH:=HH.trans H6.oe;replace hc:=hc.hop H6;replace k0:=k0.hop H6;replace k35:=k35.hop H6;replace kp:=kp.hopO H6;replace kh:=kh.hopB H6;replace kq:=kq.hop H6;replace ka:=ka.hop H6;replace ks:=ks.hop H6;replace kl:=kl.hop H6;replace kg:=kg.hop H6;replace hn:=H6.tn;have hcu:=hc.up
  repeat' (with_reducible refine W.scalS (by assumption) ?_)
  have hn:=HH.tn;refine W.stT k35 hn (Nat.le_of_ble_eq_true (by rfl)) fun τ7 H7 k35 hnτ7=>?_
  repeat' with_reducible first|refine W.ret ?_|refine W.u1 ?_
  exact⟨T5,HH.trans H7.oe,rfl,⟨_,_,_,_,_,_,_,_,_,EnH.hopE ⟨k1,kp,kh,kq,km,ks,ksl,kl,kg,ka.push k0⟩ H7⟩,L'⟩
theorem ygl_(E:EnX σ T e n s hs ln lg since least)(hn:Tn σ T)(L:EnL gl n C s hs ln lg since least w)(hn4:n<=4000)(hA:AsI s A)(hc:SlV .int (σ.at T 0) A x)(hAl:A.length<=100000)(hAL:∀l∈A,isL l n=true) :
    W (S.z106 (.ptr e.le 0) x σ) fun r=>∃T',Hop eI σ T r.2 T' /\
      ((∃l∈A,r.1=(true,.nils)/\val s.vs l=0/\isL l n=true/\AsI (s.dec l) A/\EnX r.2 T' e n (s.dec l) hs ln lg since least) \/
       (∃core y,r.1=(false,y)/\SlV .int (r.2.at T' 0) core y/\core≠[]/\(∀l∈core,l∈A)/\Conf s.db core/\core.length<=n+1/\EnX r.2 T' e n s hs ln lg since least) \/
       (r.1=(false,.nils)/\(∀l∈A,l∈s.trail)/\EnX r.2 T' e n s hs ln lg since least)):=by
  have ht:=L.si.ti;have hcu:=hc.up;unfold S.z106
  repeat' with_reducible first|refine W.bind ?_|refine W.len (by assumption) ?_
  refine W.mono (P:=fun(r:(Unit⊕(Bool×AVal))×Heap)=>∃T',Hop eI σ T r.2 T' /\
      ((∃l∈A,r.1=.inr (true,.nils)/\val s.vs l=0/\isL l n=true/\AsI (s.dec l) A/\EnX r.2 T' e n (s.dec l) hs ln lg since least) \/
       (∃core y,r.1=.inr (false,y)/\SlV .int (r.2.at T' 0) core y/\core≠[]/\(∀l∈core,l∈A)/\Conf s.db core/\core.length<=n+1/\EnX r.2 T' e n s hs ln lg since least) \/
       (r.1=.inl ()/\(∀l∈A,l∈s.trail)/\EnX r.2 T' e n s hs ln lg since least))) ?_ fun r hr=>?_
  · refine W.loop A.length (fun i (z:Int) τ=>z=(i:Int)/\τ=σ/\∀(j:Nat) l,j<i->A[j]?=some l->l∈s.trail) ⟨rfl,rfl,fun j l hj=>by omega⟩ fun i z τ hi hI2=>?_
    obtain⟨rfl,rfl,hall⟩:=hI2;have wr:IntKind.i64.wrap ((i:Int)+1)=((i+1:Nat):Int):=by rw[wrapS]<;>omega
    unfold S.z106.b0
    (with_reducible refine W.cnd (fun hlt=>?_) (fun hlt=>?_)<;>(try simp only[qq,Kd.ty]at hlt)<;>(try (exfalso;omega)))
    · obtain ⟨a,ha⟩:=y3_ (xs:=A) (i:=i) (by omega)
      have haA:=List.mem_of_getElem? ha;have haL:=hAL a haA;have hE:=E;obtain⟨h,xs,xl,xg,conf,bump,most,sv,ws,E⟩:=E;have E0:=E;obtain⟨k1,kp,kh,kq,km,ks,ksl,kl,kg,ka⟩:=E
      repeat' with_reducible first|refine W.bind ?_|refine W.asV ?_|refine W.fldp ?_|refine W.e2 ?_|refine W.nck ?_|refine W.u0 ?_
      refine W.to (y1w_ kp ht hn4 haL) ?_
      repeat' with_reducible refine W.ret ?_
      by_cases hv0:val s.vs a=0
      · refine W.condT (by simp[hv0]) ?_
        repeat' with_reducible first|refine W.bind ?_|refine W.asV ?_|refine W.fldp ?_|refine W.nck ?_|refine W.u0 ?_
        refine W.mono (y83_ kp hn ht hn4 haL hv0) fun r hr=>?_;obtain⟨b,τ1⟩:=r;obtain⟨_,T1,h1,H1,kp⟩:=hr;dsimp only at H1 kp⊢
        repeat' (with_reducible refine W.stop ?_)
        exact⟨T1,H1.pe,.inl ⟨a,haA,rfl,hv0,haL,(hA.decA ht haL hv0 haA).1,_,_,_,_,_,_,_,_,_,k1.hop H1,kp,kh.hopP H1,kq.hop H1,km,ks.hop H1,ksl,kl.hop H1,kg.hop H1,ka.hop H1⟩⟩
      · refine W.condF (by simp[hv0]) ?_
        by_cases hv2:val s.vs a=2
        · refine W.condT (by simp[hv2]) ?_
          repeat' with_reducible first|refine W.bind ?_|refine W.asV ?_|refine W.fldp ?_|refine W.nck ?_|refine W.u0 ?_
          refine W.mono (yjf_ kp hn ht L.si.ci hn4 haL hv2) fun r hr=>?_;obtain⟨y,τ1⟩:=r;obtain⟨T1,ds,H1,k20,hds,hD,hdl⟩:=hr;dsimp only at H1 k20⊢;refine W.own_push (bytes:=8) Vw.int_flat k20 H1.tn (a:=a) rfl (by omega) (by omega) fun x2 τ2 T2 k20 H2=>?_
          repeat' (with_reducible refine W.stop ?_)
          obtain⟨T3,H3,k0⟩:=k20.retag (u:=0) Vw.int_flat H2.tn;refine⟨T3,(H1.te.trans H2.oe).trans H3.oe,.inr (.inl ⟨ds++[a],x2,rfl,k0.sl,by simp,fun l hl=>?_,.inl ⟨a,.start (by simp),hD.mono (fun c hc=>⟨c,hc,fun v=>Iff.rfl⟩) fun l hl=>by simp[hl]⟩,by simp;omega,_,_,_,_,_,_,_,_,_,((E0.hopT H1).hopE H2).hopE H3⟩)⟩;rcases List.mem_append.1 hl with q|q
          · obtain⟨g1,g2⟩:=hds l q
            obtain⟨i',hi'⟩:=yb_ g1;obtain⟨kk,a1,a2,a3⟩:=hA;have hkk:kk=s.marks.length:=Decidable.byContradiction fun hne=>by
              have:=(a3 (by omega) a haA).1;exact ht.notBoth this (ht.neg.1 hv2)
            rcases ht.rs i' l hi' with ⟨_,k',b1,b2⟩|⟨id,c,f,b1,_⟩
            · exact a2 k' i' l (by have:=y2_ b2;omega) b2 hi'
            · omega
          · rw[List.mem_singleton.1 q];exact haA
        · refine W.condF (by simp[hv2]) ?_
          repeat' (with_reducible refine W.next ?_)
          have:=y1q_ ht.ok a;refine⟨by omega,wr,rfl,fun j l hj hl=>?_⟩;by_cases ej:j=i
          · subst ej;rw[ha]at hl;cases hl;exact(ht.tr a).1 (by omega)
          · exact hall j l (by omega) hl
    · repeat' (with_reducible refine W.stop ?_)
      exact⟨T,Hop.refl hn,.inr (.inr ⟨rfl,fun l hl=>by
        obtain⟨j,hj⟩:=yb_ hl;exact hall j l (by have:=y2_ hj;omega) hj,E⟩)⟩
  · obtain⟨r,τ1⟩:=r
    obtain⟨T1,H1,hr⟩:=hr;rcases hr with ⟨l,hl,er,g⟩|⟨core,y,er,g⟩|⟨er,g⟩
    · dsimp only at er⊢
      subst er
      repeat' with_reducible refine W.ret ?_
      exact⟨T1,H1,.inl ⟨l,hl,rfl,g⟩⟩
    · dsimp only at er⊢
      subst er
      repeat' with_reducible refine W.ret ?_
      exact⟨T1,H1,.inr (.inl ⟨core,y,rfl,g⟩)⟩
    · dsimp only at er⊢
      subst er
      repeat' with_reducible refine W.ret ?_
      exact⟨T1,H1,.inr (.inr ⟨rfl,g⟩)⟩
theorem yfw_(E:EnX σ T e n s hs ln lg since least)(hn:Tn σ T)(L:EnL gl n C s hs ln lg since least w)(hn4:n<=4000) :
    W (S.z110 (.ptr e.le 0) σ) fun r=>∃T' hs',Hop eI σ T r.2 T' /\
      ((r.1=true/\∃l,val s.vs l=0/\isL l n=true/\EnX r.2 T' e n (s.dec l) hs' ln lg since least/\∀v:Nat,1<=v->v<=n->val s.vs v=0->v≠l.natAbs->(v:Int)∈hs') \/
       (r.1=false/\(∀l,isL l n=true->val s.vs l≠0)/\EnX r.2 T' e n s hs' ln lg since least)):=by
  have ht:=L.si.ti;unfold S.z110;refine W.bind ?_;refine W.mono (P:=fun(r:(Unit⊕Bool)×Heap)=>∃T' hs',Hop eI σ T r.2 T' /\
      ((r.1=.inr true/\∃l,val s.vs l=0/\isL l n=true/\EnX r.2 T' e n (s.dec l) hs' ln lg since least/\∀v:Nat,1<=v->v<=n->val s.vs v=0->v≠l.natAbs->(v:Int)∈hs') \/
       (r.1=.inl ()/\(∀l,isL l n=true->val s.vs l≠0)/\EnX r.2 T' e n s hs' ln lg since least))) ?_ fun r hr=>?_
  · refine W.loopI (m:=hs.length) (fun m (_:Unit) τ=>∃(T':Tg) (hs':List Int),Hop eI σ T τ T'/\EnX τ T' e n s hs' ln lg since least/\hs'.length=m/\∀v:Nat,1<=v->v<=n->val s.vs v=0->(v:Int)∈hs') ⟨T,hs,Hop.refl hn,E,rfl,L.hp⟩ fun m _ τ hI2=>?_
    obtain⟨T1,hs1,HH,E,hm,hcov⟩:=hI2;obtain⟨h,xs,xl,xg,conf,bump,most,sv,ws,k1,kp,kh,kq,km,ks,ksl,kl,kg,ka⟩:=E;unfold S.z110.b0
    repeat' with_reducible first|refine W.bind ?_|refine W.asV ?_|refine W.fldp ?_|refine W.nck ?_|refine W.u0 ?_
    refine W.to (ye2_ kh) ?_
    repeat' with_reducible refine W.ret ?_
    (with_reducible refine W.cnd (fun hpos=>?_) (fun hpos=>?_)<;>(try simp only[qq,Kd.ty]at hpos)<;>(try (exfalso;omega)))
    · have hne:hs1≠[]:=fun q=>by rw[q]at hpos;simp at hpos
      repeat' with_reducible first|refine W.bind ?_|refine W.asV ?_|refine W.fldp ?_|refine W.nck ?_|refine W.u0 ?_
      refine W.mono (tie_w kq HH.tn) fun r hr=>?_;obtain⟨tie,τ2⟩:=r;obtain⟨H2,kq⟩:=hr;dsimp only at H2 kq⊢;replace HH:=HH.trans H2.oe;replace kp:=kp.hopO H2;replace kh:=kh.hopB H2;replace ka:=ka.hop H2;replace k1:=k1.hop H2;replace ks:=ks.hop H2;replace kl:=kl.hop H2;replace kg:=kg.hop H2;replace hn:=H2.tn
      repeat' with_reducible first|refine W.bind ?_|refine W.asV ?_|refine W.chk rfl ?_|refine W.u0 ?_
      refine W.mono (ygd_ kh HH.tn hn4 hne) fun r hr=>?_;obtain⟨r,τ3⟩:=r;obtain⟨v,er,hvm,T3,hs3,H3,kh3,hm3⟩:=hr;dsimp only at er H3 kh3⊢;subst er;have hvr:=kh.rng hvm;have hvL:isL (v:Int) n=true:=yi_.2 ⟨by omega,by omega,by omega⟩;have hlen3:hs3.length<hs1.length:=by
        have hnd:hs3.Nodup:=by
          obtain⟨_,_,_,_,_,_,H,_⟩:=kh3;exact H.nod
        have hsub:∀x∈(v:Int)::hs3,x∈hs1:=fun x hx=>by
          rcases List.mem_cons.1 hx with q|q
          · rw[q];exact hvm
          · exact((hm3 x).1 q).1
        have hnd2:((v:Int)::hs3).Nodup:=List.nodup_cons.2 ⟨fun q=>((hm3 _).1 q).2 rfl,hnd⟩;have:=yfg_ hnd2 hsub;simp at this;omega
      replace HH:=HH.trans H3.hbe;replace kp:=kp.hopHB H3;replace kq:=kq.hop H3;replace ka:=ka.hop H3;replace k1:=k1.hop H3;replace ks:=ks.hop H3;replace kl:=kl.hop H3;replace kg:=kg.hop H3;replace hn:=H3.tn
      repeat' with_reducible first|refine W.bind ?_|refine W.asV ?_|refine W.fldp ?_|refine W.nck ?_|refine W.u0 ?_
      refine W.to (y1w_ kp ht hn4 hvL) ?_
      repeat' with_reducible refine W.ret ?_
      have hcov3:∀u:Nat,1<=u->u<=n->val s.vs u=0->u≠v->(u:Int)∈hs3:=fun u h1 h2 h3 h4=>(hm3 _).2 ⟨hcov u h1 h2 h3,fun q=>h4 (Int.ofNat.inj q)⟩;by_cases hv0:val s.vs v=0
      · refine W.condF (by simp[hv0]) ?_
        obtain⟨sa,hsa⟩:=y3_ (xs:=sv) (i:=v) (by omega)
        repeat' with_reducible first|refine W.bind ?_|refine W.asV ?_|refine W.fldp ?_|refine W.nck ?_|refine W.u0 ?_|refine W.u2 ?_
        refine W.mono (ykc_ kq HH.tn) fun r hr=>?_;obtain⟨sb,τ4⟩:=r;obtain⟨H4,kq⟩:=hr;dsimp only at H4 kq⊢;replace HH:=HH.trans H4.oe;replace kp:=kp.hopO H4;replace kh3:=kh3.hopB H4;replace ka:=ka.hop H4;replace k1:=k1.hop H4;replace ks:=ks.hop H4;replace kl:=kl.hop H4;replace kg:=kg.hop H4;replace hn:=H4.tn;have wn:IntKind.i64.wrap (0-(v:Int)) = -(v:Int):=by rw[wrapS]<;>omega
        cases sb with
        | true=>
          refine W.condT rfl ?_
          repeat' with_reducible first|refine W.bind ?_|refine W.asV ?_|refine W.fldp ?_|refine W.nck ?_|refine W.u0 ?_
          refine W.mono (y83_ kp HH.tn ht hn4 hvL hv0) fun r hr=>?_;obtain⟨b,τ5⟩:=r;obtain⟨eb,T5,h5,H5,kp⟩:=hr;dsimp only at eb H5 kp⊢;subst eb
          repeat' (with_reducible refine W.stop ?_)
          exact⟨T5,hs3,HH.trans H5.pe,.inl ⟨rfl,v,hv0,hvL,⟨_,_,_,_,_,_,_,_,_,k1.hop H5,kp,kh3.hopP H5,kq.hop H5,km,ks.hop H5,ksl,kl.hop H5,kg.hop H5,ka.hop H5⟩,fun u h1 h2 h3 h4=>hcov3 u h1 h2 h3 (by simpa using h4)⟩⟩
        | false=>
          have hvL':=y7l_ hvL;have hv0':val s.vs (-(v:Int))=0:=by rw[y5e_ ht.ok,if_pos hv0]
          refine W.condF rfl ?_
          repeat' with_reducible first|refine W.bind ?_|refine W.asV ?_|refine W.fldp ?_|refine W.nck ?_|refine W.u0 ?_
          rw[wn];refine W.mono (y83_ kp HH.tn ht hn4 hvL' hv0') fun r hr=>?_;obtain⟨b,τ5⟩:=r;obtain⟨eb,T5,h5,H5,kp⟩:=hr;dsimp only at eb H5 kp⊢;subst eb
          repeat' (with_reducible refine W.stop ?_)
          exact⟨T5,hs3,HH.trans H5.pe,.inl ⟨rfl,-(v:Int),hv0',hvL',⟨_,_,_,_,_,_,_,_,_,k1.hop H5,kp,kh3.hopP H5,kq.hop H5,km,ks.hop H5,ksl,kl.hop H5,kg.hop H5,ka.hop H5⟩,fun u h1 h2 h3 h4=>hcov3 u h1 h2 h3 (by simpa using h4)⟩⟩
      · refine W.condT (by simp[hv0]) ?_
        repeat' (with_reducible refine W.next ?_)
        exact⟨hs3.length,by omega,T3,hs3,HH,⟨_,_,_,_,_,_,_,_,_,k1,kp,kh3,kq,km,ks,ksl,kl,kg,ka⟩,rfl,fun u h1 h2 h3=>hcov3 u h1 h2 h3 fun q=>hv0 (by rw[<-q];exact h3)⟩
    · have hnil:hs1=[]:=List.eq_nil_of_length_eq_zero (by omega)
      repeat' (with_reducible refine W.stop ?_)
      refine⟨T1,hs1,HH,.inr ⟨rfl,fun l hl hv=>?_,_,_,_,_,_,_,_,_,_,k1,kp,kh,kq,km,ks,ksl,kl,kg,ka⟩⟩;have h0:=ye_ hl;have hv':val s.vs (l.natAbs:Int)=0:=by
        rcases Int.natAbs_eq l with q|q
        · rw[<-q];exact hv
        · have:(l.natAbs:Int) = -l:=by omega
          rw[this,y5e_ ht.ok,if_pos hv]
      have:=hcov l.natAbs (by omega) h0.2 hv';rw[hnil]at this;cases this
  · obtain⟨r,τ1⟩:=r
    obtain⟨T1,hs1,H1,hr⟩:=hr;rcases hr with ⟨er,g⟩|⟨er,g⟩
    · dsimp only at er⊢
      subst er
      repeat' with_reducible refine W.ret ?_
      exact⟨T1,hs1,H1,.inl ⟨rfl,g⟩⟩
    · dsimp only at er⊢
      subst er
      repeat' with_reducible refine W.ret ?_
      exact⟨T1,hs1,H1,.inr ⟨rfl,g⟩⟩
theorem ydy_(E:EnX σ T e n s hs ln lg since least)(hn:Tn σ T)(L:EnL gl n C s hs ln lg since least w)(hn4:n<=4000) :
  W (S.z112 (.ptr e.le 0) σ) fun r=>∃T' M,Hop eI σ T r.2 T'/\EnX r.2 T' e n s hs ln lg since least/\SlV .bool (r.2.at T' 0) M r.1/\M.length=n+1/\∀v:Nat,v<=n->M[v]?=some (val s.vs v==1):=by
 have ht:=L.si.ti;obtain⟨h,xs,xl,xg,conf,bump,most,sv,ws,E⟩:=E;have k1:=E.obj;have w1:IntKind.i64.wrap ((n:Int)+1)=((n+1:Nat):Int):=by rw[wrapS]<;>omega
 unfold S.z112
 repeat' with_reducible first|refine W.bind ?_|refine W.asV ?_|refine W.fldp ?_|refine W.nck ?_|refine W.u0 ?_
 refine W.to (y3f_ E.prop ht.len.vs hn4) ?_
 repeat' with_reducible refine W.ret ?_
 rw[w1];refine W.mkT (v:=Vw.bool) 28 hn false rfl (fun _=>rfl) (n:=n+1) (by omega) (by omega) rfl fun y τ1 T1 H1 k28 _=>?_;replace E:=E.hopE H1
 repeat' with_reducible first|refine W.bind ?_|refine W.u3 ?_
 refine W.mono (P:=fun r=>∃M,Hop (only 28) τ1 T1 r.2 T1/\Own .bool (r.2.at T1 28) M y/\M.length=n+1/\∀v:Nat,v<=n->M[v]?=some (val s.vs v==1)) ?_ fun r hr=>?_
 ·refine W.loop (n+1) (fun i (z:Int) τ=>z=(i:Int)/\∃M,Hop (only 28) τ1 T1 τ T1/\EnH τ T1 e n s hs ln lg since least h xs xl xg conf bump most sv ws/\Own .bool (τ.at T1 28) M y/\M.length=n+1/\∀v:Nat,v<i->M[v]?=some (val s.vs v==1)) ⟨rfl,_,Hop.refl H1.tn,E,k28,by simp,fun v hv=>by omega⟩ fun i z τ2 hi hI2=>?_
  obtain⟨rfl,M,H2,E,k28,hM,hall⟩:=hI2;have wr:IntKind.i64.wrap ((i:Int)+1)=((i+1:Nat):Int):=by rw[wrapS]<;>omega
  have k1:=E.obj;unfold S.z112.b0;simp only[List.length_replicate]
  (with_reducible refine W.cnd (fun hlt=>?_) (fun hlt=>?_)<;>(try simp only[qq,Kd.ty]at hlt)<;>(try (exfalso;omega)))
  ·have hV:S.z71 (.ptr e.lp 0) (i:Int) τ2=some (val s.vs (i:Int)):=by
    by_cases h0:i=0
    ·obtain⟨r,er,rfl⟩:W (S.z71 (.ptr e.lp 0) ((i:Nat):Int) τ2) fun r=>r=val s.vs (i:Int):=by
      have k2:=E.prop.obj;unfold S.z71
      repeat' with_reducible first|refine W.bind ?_|refine W.asV ?_|refine W.fldp ?_|refine W.nck ?_|refine W.u0 ?_
      refine W.to (y3e_ E.prop.asgv ht.ok (by have:=ht.len.vs;omega) (by have:=ht.len.vs;omega) (by simp[inB];omega)) ?_
      repeat' with_reducible refine W.ret ?_
      rfl
     exact er
    ·exact y1w_ E.prop ht hn4 (yi_.2 ⟨by omega,by omega,by omega⟩)
   repeat' with_reducible first|refine W.bind ?_|refine W.asV ?_|refine W.fldp ?_|refine W.nck ?_|refine W.u0 ?_
   refine W.to hV ?_
   repeat' with_reducible refine W.ret ?_
   refine W.ixO k28.slT (i:=i) (by omega) ?_;refine W.own_setB k28 H2.tn (by omega) fun τ3 k28 H3 _=>?_
   repeat' (with_reducible refine W.next ?_)
   refine⟨by omega,wr,_,H2.trans H3,E.hopE H3,k28,by simp[hM],fun v hv=>?_⟩;rw[List.getElem?_set];by_cases ev:i=v
   ·subst ev;rw[if_pos rfl,if_pos (by omega)]
   ·rw[if_neg ev];exact hall v (by omega)
  ·repeat' (with_reducible refine W.stop ?_)
   exact⟨M,H2,k28,hM,fun v hv=>hall v (by omega)⟩
 ·obtain⟨r,τ2⟩:=r
  obtain⟨M,H2,k28,hM,hall⟩:=hr;dsimp only at H2 k28⊢;obtain⟨T3,H3,k0⟩:=k28.retag (u:=0) Vw.bool_flat H2.tn
  repeat' with_reducible refine W.ret ?_
  exact⟨T3,M,(H1.oe.trans H2.oe).trans H3.oe,⟨_,_,_,_,_,_,_,_,_,(E.hopE H2).hopE H3⟩,k0.sl,hM,hall⟩
end
end
section
open Go
section
variable{n k a b id:Nat}{s s':PS}{A C:List (List Int)}{l x:Int}{M:List Bool}{tt uu:Nat}{c d:List Int}{f:Bool}
theorem StI.dec(P:PrI n s)(hh:s.head=s.trail.length)(hl:isL l n=true)(hv:val s.vs l=0):StI n (s.dec l):=by
 obtain⟨h,e1,e2,e3,e4⟩:=P.hd;have eh:h=s.trail.length:=by omega
 subst eh;obtain⟨z1,z2⟩:=P.ti.zero.1 hv;have hlv:∀x∈s.trail,(s.dec l).lv x=s.lv x:=fun x hx=>by
  simp only[PS.lv,PS.dec,PS.setL];rw[getD_set' (by have:=P.ti.len.lev;have:=ye_ hl;omega),if_neg fun e=>?_];rcases Int.natAbs_eq_natAbs_iff.1 e with e|e
  ·exact z1 (e▸hx)
  ·exact z2 (e▸hx)
 have htr:(s.dec l).trail=s.trail++[l]:=rfl;refine⟨P.ti.dec hl hv,P.ci,⟨P.li.nd,P.li.fl,P.li.lf⟩,P.wi,P.wr,s.trail.length,e1,by rw[htr];simp,fun m hm=>?_,fun j d hd=>?_⟩
 ·have hm:m∈s.marks++[(s.trail.length:Int)]:=hm
  rcases List.mem_append.1 hm with q|q
  ·exact e3 m q
  ·rw[List.mem_singleton.1 q];exact Int.le_refl _
 ·have J:=e4 j d hd
  refine⟨J.ne,fun x hx=>?_,fun i x y hi hx hy ⟨q,hq1,hq2⟩=>?_⟩
  ·obtain⟨g1,g2⟩:=J.one x hx
   exact⟨by rw[htr];simp[g1],by rw[hlv x g1];exact g2⟩
  ·rw[htr,List.getElem?_append_left hq1]at hq2
   obtain⟨g1,g2⟩:=J.two i x y hi hx hy ⟨q,hq1,hq2⟩;have:=hlv _ (List.mem_of_getElem? hq2);rw[PS.lv_neg,PS.lv_neg]at this;exact⟨by rw[htr];simp[g1],by rw[hlv y g1,this];exact g2⟩
theorem y5q_(ht:TrI n s){j:Nat}(hj:s.trail.length<=j):(j:Int)∉s.marks:=fun hm=>by
 obtain⟨i,hi⟩:=yb_ hm;obtain⟨a,e,⟨w,g1,_⟩,_⟩:=ht.mks i _ hi;have:=y2_ g1;omega
theorem y9i_(ht:TrI n s)(hm:s.marks[b]?=some (a:Int)):∀j:Nat,j<a->((j:Int)∈s.marks↔(j:Int)∈s.marks.take b):=fun j hj=>by
 refine⟨fun h=>?_,List.mem_of_mem_take⟩;obtain⟨i,hi⟩:=yb_ h;obtain⟨j',e,⟨w,g1,g2⟩,g3⟩:=ht.mks i _ hi;have e:j=j':=by omega
 subst e;obtain⟨a',e,_,g6⟩:=ht.mks b _ hm;have e:a=a':=by omega
 subst e;have:=g6 j w g1;have hib:i<b:=by omega
 exact List.mem_of_getElem? (i:=i) (by rw[List.getElem?_take_of_lt hib];exact hi)
def CdI(n:Nat)(s:PS)(tt uu:Nat):Prop:=(tt<=codeF n s.marks s.trail.length/\uu<=rkF n s.marks s.trail.length)\/((tt<=codeW n s.marks s.trail.length/\uu<=rkW n s.marks s.trail.length)/\∃id,s.loose=[((id:Nat):Int)]/\Ready s id)
theorem CdI.ext(h:CdI n s tt uu)(E:PEx s s')(ht:TrI n s)(ht':TrI n s'):tt<=codeW n s'.marks s'.trail.length/\uu<=rkW n s'.marks s'.trail.length:=by
 have hl:=E.lenT;have hn:=ht'.lenT;rw[E.mks];have h2:=yc7_ (n:=n) hl hn fun j hj=>y5q_ ht hj;rcases h with ⟨q,q2⟩|⟨⟨q,q2⟩,_⟩
 ·have:=y8a_ (n:=n) (ms:=s.marks) hl
  have:=ybi_ (n:=n) (ms:=s.marks) hl;unfold codeW rkW;omega
 ·refine⟨by omega,?_⟩
  by_cases e:s.trail.length=s'.trail.length
  ·rw[<-e];exact q2
  ·have:=yf8_ (n:=n) (show s.trail.length<s'.trail.length by omega) hn fun j hj=>y5q_ ht hj
   unfold rkW at q2 this⊢;omega
theorem CdI.fine(h:CdI n s tt uu)(E:PEx s s')(ht:TrI n s)(P:PrI n s')(hh:s'.head=s'.trail.length):tt<=codeF n s'.marks s'.trail.length/\uu<=rkF n s'.marks s'.trail.length:=by
 have hl:=E.lenT;have hn:=P.ti.lenT;rw[E.mks];have h2:=yc7_ (n:=n) hl hn fun j hj=>y5q_ ht hj;rcases h with ⟨q,q2⟩|⟨⟨q,q2⟩,id,_,c,f,hc,l,hlc,hv,hf,_⟩
 ·have:=y8a_ (n:=n) (ms:=s.marks) hl
  have:=ybi_ (n:=n) (ms:=s.marks) hl;omega
 ·obtain⟨c',f',hc',p⟩:=E.ceq.get hc
  have hm:=P.unit hh hc' (p.mem_iff.2 hlc) fun x hx hne=>by
   have:=hf x (p.mem_iff.1 hx) hne;exact P.ti.neg.2 (E.mem (ht.neg.1 this))
  have hlt:s.trail.length<s'.trail.length:=by
   refine Nat.lt_of_le_of_ne hl fun e=>?_;obtain⟨ex,he⟩:=E.tr;have:ex=[]:=by
    have:=congrArg List.length he;simp at this;exact List.eq_nil_of_length_eq_zero (by omega)
   rw[he,this,List.append_nil]at hm;exact(ht.zero.1 hv).1 hm
  have:=h2.2 hlt;have:=yf8_ (n:=n) hlt hn fun j hj=>y5q_ ht hj;omega
theorem yfi_(ht:TrI n s):codeF n (s.dec l).marks (s.dec l).trail.length=codeF n s.marks s.trail.length:=by
 have e1:(s.dec l).marks=s.marks++[(s.trail.length:Int)]:=rfl;have e2:(s.dec l).trail.length=s.trail.length+1:=by show(s.trail++[l]).length=_;simp
 rw[e1,e2];simp only[codeF];rw[if_pos (by simp)];exact y80_ fun j hj=>by
  simp only[List.mem_append,List.mem_singleton];constructor
  ·rintro(q|q)
   ·exact q
   ·omega
  ·exact .inl
theorem yj8_(ht:TrI n s):rkF n (s.dec l).marks (s.dec l).trail.length=rkF n s.marks s.trail.length+1:=by
 have e1:(s.dec l).marks=s.marks++[(s.trail.length:Int)]:=rfl;have e2:(s.dec l).trail.length=s.trail.length+1:=by show(s.trail++[l]).length=_;simp
 rw[e1,e2];simp only[rkF];rw[if_pos (by simp)]
 congr 1
 exact yb4_ fun j hj=>by
  simp only[List.mem_append,List.mem_singleton];constructor
  ·rintro(q|q)
   ·exact q
   ·omega
  ·exact .inl
theorem PrI.two(P:PrI n s)(hc:s.cls[id]?=some (c,true,f))(hf:∀x∈c,val s.vs x=2):∀m∈s.marks,m+2<=(s.trail.length:Int):=by
 obtain⟨h,e1,e2,e3,e4⟩:=P.hd;have hg:=P.li.flag P.lo hc;subst hg;have J:=e4 id c hc;have hnd:=(P.ci id c false hc).2;intro m hm;have h3:=e3 m hm;rcases c with _|⟨a,_|⟨d,t⟩⟩
 ·exact absurd rfl J.ne
 ·have h1:=(P.ti.tr a).2 (J.one a rfl).1
  have:=hf a (by simp);omega
 ·have ha:=hf a (by simp)
  have hd:=hf d (by simp);obtain⟨i,hi⟩:=yb_ (P.ti.neg.1 ha);obtain⟨j,hj⟩:=yb_ (P.ti.neg.1 hd);have hi2:h<=i:=Decidable.byContradiction fun q=>by
   have:=(P.ti.tr d).2 (J.two 0 a d (by omega) rfl rfl ⟨i,by omega,hi⟩).1;omega
  have hj2:h<=j:=Decidable.byContradiction fun q=>by
   have:=(P.ti.tr a).2 (J.two 1 d a (by omega) rfl rfl ⟨j,by omega,hj⟩).1;omega
  have hne:i≠j:=fun e=>by
   subst e;rw[hi]at hj;have:a=d:=by have:=Option.some.inj hj;omega
   subst this;simp at hnd
  have:=y2_ hi;have:=y2_ hj;omega
theorem y8w_(ht:TrI n s)(hS:StI n s)(hm:s.marks[b]?=some (a:Int)):codeW n s.marks s.trail.length<codeW n ((s.back b a).addC c).marks ((s.back b a).addC c).trail.length/\rkW n s.marks s.trail.length<rkW n ((s.back b a).addC c).marks ((s.back b a).addC c).trail.length/\((a:Int)+2<=s.trail.length->codeW n ((s.back b a).addC c).marks ((s.back b a).addC c).trail.length % 2=0):=by
 obtain⟨_,g1,g2,_,_,_,_,g7,_⟩:=hS.back hm;have e1:((s.back b a).addC c).marks=s.marks.take b:=g1;have e2:((s.back b a).addC c).trail=s.trail.take a:=g2;rw[e1,e2];have:(s.trail.take a).length=a:=by simp;omega
 rw[this];have hlt:=ht.lenT;exact⟨yev_ (List.mem_of_getElem? hm) g7 ht.lenT (y9i_ ht hm),yhq_ (List.mem_of_getElem? hm) g7 ht.lenT (y9i_ ht hm),fun h2=>ye1_ (by omega)⟩
def mOf(M:List Bool)(v:Nat):Bool:=M.getD v false
theorem yam_(ht:TrI n s)(hM:∀v:Nat,v<=n->M[v]?=some (val s.vs v==1))(hl:isL l n=true)(hm:l∈s.trail):holds (mOf M) l=true:=by
 have h0:=ye_ hl;have h1:=hM l.natAbs h0.2;unfold holds mOf;rw[List.getD_eq_getElem?_getD,h1];show((val s.vs (l.natAbs:Int)==1)==decide (0<l))=true;have hv:=(ht.tr l).2 hm;by_cases hp:0<l
 ·have:(l.natAbs:Int)=l:=by omega
  rw[this,hv];simp[hp]
 ·have:(l.natAbs:Int) = -l:=by omega
  rw[this,y5e_ ht.ok,hv];simp[hp]
theorem EnL.model{gl:Bool}{C:List (List Int)}{hs:List Int}{ln:List (Int×Int)}{lg:List (Bool×List Int)}{since least:Int}{w:Nat}(L:EnL gl n C s hs ln lg since least w)(hlo:s.loose=[])(hh:s.head=s.trail.length)(hall:∀l,isL l n=true->val s.vs l≠0)(hM:∀v:Nat,v<=n->M[v]?=some (val s.vs v==1)):mods (mOf M) C:=fun c hc=>by
 by_cases hs:saysN c=true
 ·obtain⟨id,d,f,h1,h2,_⟩:=L.orI c hc hs
  obtain⟨x,hx,hxm⟩:=(L.si.pp hlo).full hh hall h1;exact⟨x,(h2 x).1 hx,yam_ L.si.ti hM ((L.si.ci id d f h1).1 x hx) hxm⟩
 ·obtain⟨x,h1,h2⟩:=yfa_ (by simpa using hs)
  exact yhw_ (ye_ (L.cl c hc x h1)).1 h1 h2
theorem yjz_(ht:TrI n s)(hm:s.marks=[])(hc:s.cls[id]?=some (c,true,f))(hf:∀x∈c,val s.vs x=2):Conf s.db []:=.inr ⟨c,y31_.2 ⟨id,f,hc⟩,fun x hx=>by
 have hxm:=ht.neg.1 (hf x hx);obtain⟨i,hi⟩:=yb_ hxm;have:=ht.lv _ hxm;rw[hm]at this;simp at this;exact ht.der0 i _ hi (by omega)⟩
theorem yc2_{gl:Bool}{C:List (List Int)}{hs core:List Int}{ln:List (Int×Int)}{lg:List (Bool×List Int)}{since least:Int}{w:Nat}(L:EnL gl n C s hs ln lg since least w)(hC:Conf s.db core)(hl:∀l∈core,isL l n=true):∀m,mods m C->¬ ∀l∈core,holds m l=true:=fun m hm hall=>
 hC.false (L.snd m hm) L.si.ci.nz hall fun l h=>(ye_ (hl l h)).1
end
end
end Go.Proofs.YtafbldhedkallaaGreatDoor.A
end
