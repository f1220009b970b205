/- Parts of the proof, one behind another. -/
import GoSem.ClaimJoined
import Derived.ProofKit
import Derived.Test.YtekehmgfedmflaaGreatDoorX1
import Derived.Handed
import Derived.LaidLaws
import Derived.MakeChecks
import Derived.Lay
set_option linter.all false
noncomputable section
namespace Go.Proofs.YtekehmgfedmflaaGreatDoor.A
section
open Go Go.RowKit
def Laid(m:Nat->Option Pl)(get:Nat->Option AObj)(n:Nat)(os:List (Pl×List AVal)):Prop:=∀i p cs,os[i]?=some (p,cs)->m (n+i)=some p/\get (n+i)=some (.cells .ro p.sz cs)
theorem Laid.left{m:Nat->Option Pl}{get:Nat->Option AObj}{n:Nat}{a b:List (Pl×List AVal)}(h:Laid m get n (a++b)):Laid m get n a:=
 fun i p cs hi=>h i p cs (by rw[List.getElem?_append_left (List.getElem?_eq_some_iff.1 hi).1];exact hi)
theorem Laid.right{m:Nat->Option Pl}{get:Nat->Option AObj}{n:Nat}{a b:List (Pl×List AVal)}(h:Laid m get n (a++b)):Laid m get (n+a.length) b:=
 fun i p cs hi=>by
  have:=h (a.length+i) p cs (by rw[List.getElem?_append_right (by omega),Nat.add_sub_cancel_left];exact hi);rw[Nat.add_assoc];exact this
def Blk(w:World)(cs:List Value):Prop:=∀a len cap,Value.slice (some a) len cap∈cs->∃(b:Nat) (c:Array Value) (e:TypeId) (fr:Nat×Nat),w.heap[b]?=some (.cells c e fr)
def y44_{H:Type}(P:Program)(t:TypeId)(d:DataW H):Prop:=∀k∈d.weights P t,k<=reachBytes
theorem y54_{H:Type}{P:Program}{e:TypeId}{k:Nat}:∀{ds:List (DataW H)} {d:DataW H},d∈ds->k∈d.weights P e->k∈DataW.weightsAll P e ds
 |d'::ds,d,h,hk=>by
  rw[DataW.weightsAll,List.mem_append];rcases List.mem_cons.1 h with rfl|h
  ·exact .inl hk
  ·exact .inr (y54_ h hk)
def Lifts{α:Type}(w:World)(rel:(Nat->Option AObj)->α->List AVal->Prop)(cs:List Value)(n:Nat):Prop:=
 ∃(a:α) (as0:List AVal) (os:List (Pl×List AVal)),as0.length=cs.length/\(∀u∈cs,u.oneCell'=true) /\
  ∀m get,Laid m get n os->VRs m as0 cs/\rel get a as0/\∀p ocs,(p,ocs)∈os->ObjR m p (.cells .ro p.sz ocs) w
structure Codec(P:Program)(α:Type) where
 t:TypeId
 size:Nat
 rel:(Nat->Option AObj)->α->List AVal->Prop
 cells:P.cellsOf t=size
 pos:0<size
 byt:0<P.bytesOf t
 len:∀g a as0,rel g a as0->as0.length=size
 mono:∀g g' a as0,(∀l o,g l=some o->g' l=some o)->rel g a as0->rel g' a as0
 lift:∀{H:Type} (enc:TypeId×Value->H) (w:World) (fuel:Nat) (cs:List Value) (x:DataW H×List MemPlace) (n:Nat),DataW.trod enc P w 0 (fun _=>true) true fuel t cs=some x->y44_ P t x.1->Blk w cs->Lifts w rel cs n
variable{P:Program}{α:Type}
def Codec.int{t:TypeId}{k:IntKind}(ht:P.underlying t=some (.int k))(hc:P.cellsOf t=1)(hy:0<P.bytesOf t):Codec P Int where
 t:=t
 size:=1
 rel _ a as0:=as0=[.int k a]/\k.min<=a/\a<=k.max
 cells:=hc
 pos:=Nat.one_pos
 byt:=hy
 len:=fun _ _ _ h=>by rw[h.1];rfl
 mono:=fun _ _ _ _ _ h=>h
 lift:=fun enc w fuel cs x n h _ _=>by
  obtain⟨a,rfl,_,hw⟩:=DataW.trod_int ht h;simp only[Lit.wf,Bool.and_eq_true,decide_eq_true_eq]at hw;exact⟨a,[.int k a],[],rfl,fun u hu=>by simp at hu;subst hu;rfl,fun m get _=>⟨by simp only[VRs,VR];exact⟨_,_,rfl,rfl,rfl⟩,⟨rfl,hw⟩,fun p ocs hp=>(by cases hp)⟩⟩
theorem y4w_{w:World}{a:Addr}{n:Nat}{cs:List Value}(h:w.cells? 0 a n=some cs):cs.length=n/\∀i,i<n->w.cell? (a.add i)=cs[i]?:=by
 unfold World.cells? at h;rw[if_pos (Nat.zero_le _)]at h;have hl:=mapM_some_length h;refine⟨by simpa using hl,fun i hi=>?_⟩;exact mapM_some_get h i i (by simp[hi])
theorem y2c_{w:World}{a:Addr}{v:Value}(h:w.cell? a=some v):∃c e fr,w.heap[a.block]?=some (.cells c e fr)/\a.spot=none/\c[a.off]?=some v:=by
 unfold World.cell? at h
 split at h
 ·rename_i c e fr hb
  split at h
  ·cases h
  ·rename_i hs;exact⟨c,e,fr,hb,by simpa using hs,h⟩
 ·cases h
theorem yb9_(c:Codec P α){H:Type}(enc:TypeId×Value->H)(w:World)(fuel:Nat):∀(css:List (List Value)) (n:Nat),(∀cs∈css,(∃x,DataW.trod enc P w 0 (fun _=>true) true fuel c.t cs=some x/\y44_ P c.t x.1)/\Blk w cs/\cs.length=c.size) ->
  ∃(xs:List α) (ass:List (List AVal)) (os:List (Pl×List AVal)),xs.length=css.length/\ass.length=css.length/\(∀as0∈ass,as0.length=c.size)/\(∀u∈css.flatten,u.oneCell'=true) /\
   ∀m get,Laid m get n os->VRs m ass.flatten css.flatten/\(∀(i:Nat) a as0,xs[i]?=some a->ass[i]?=some as0->c.rel get a as0)/\∀p ocs,(p,ocs)∈os->ObjR m p (.cells .ro p.sz ocs) w
 |[],n,_=>⟨[],[],[],rfl,rfl,fun _ h=>(by cases h),fun _ h=>(by cases h),fun m get _=>⟨by simp[VRs],fun i a as0 h=>by simp at h,fun p ocs h=>(by cases h)⟩⟩
 | cs::css,n,h=>by
  obtain⟨⟨x,hx,hfx⟩,hb,hl⟩:=h cs List.mem_cons_self;obtain⟨a,as0,os1,l1,o1,r1⟩:=c.lift enc w fuel cs x n hx hfx hb;obtain⟨xs,ass,os2,l2,l3,l4,o2,r2⟩:=yb9_ c enc w fuel css (n+os1.length) (fun cs' h'=>h cs' (List.mem_cons_of_mem _ h'));refine⟨a::xs,as0::ass,os1++os2,by simp[l2],by simp[l3],fun b hb=>?_,fun u hu=>?_,fun m get hm=>?_⟩
  ·rcases List.mem_cons.1 hb with rfl|hb
   ·rw[l1,hl]
   ·exact l4 b hb
  ·rw[List.flatten_cons,List.mem_append]at hu
   exact hu.elim (o1 u) (o2 u)
  ·obtain⟨v1,q1,b1⟩:=r1 m get hm.left
   obtain⟨v2,q2,b2⟩:=r2 m get hm.right;refine⟨by rw[List.flatten_cons,List.flatten_cons];exact v1.append v2,fun i a' as0' h1 h2=>?_,fun p ocs hp=>?_⟩
   ·cases i with
    |zero=>simp at h1 h2;subst h1 h2;exact q1
    |succ i=>simp at h1 h2;exact q2 i a' as0' h1 h2
   ·rcases List.mem_append.1 hp with hp|hp
    ·exact b1 p ocs hp
    ·exact b2 p ocs hp
theorem y4t_{α:Type}(k:Nat):∀(ass:List (List α)) (i j:Nat) (as0:List α),(∀as0∈ass,as0.length=k)->ass[i]?=some as0->j<k->ass.flatten[i*k+j]?=as0[j]?
 |[],i,j,as0,_,h,_=>by simp at h
 | x::ass,i,j,as0,hl,h,hj=>by
  have hx:=hl x List.mem_cons_self;rw[List.flatten_cons];cases i with
  |zero=>simp at h;subst h;rw[Nat.zero_mul,Nat.zero_add,List.getElem?_append_left (by omega)]
  |succ i=>
   have e:(i+1)*k+j=x.length+(i*k+j):=by rw[Nat.add_mul];omega
   rw[e,List.getElem?_append_right (by omega),Nat.add_sub_cancel_left];exact y4t_ k ass i j as0 (fun b hb=>hl b (List.mem_cons_of_mem _ hb)) (by simpa using h) hj
theorem y4x_{α:Type}(k:Nat):∀(ass:List (List α)),(∀as0∈ass,as0.length=k)->ass.flatten.length=ass.length*k
 |[],_=>by simp
 |x::ass,hl=>by
  rw[List.flatten_cons,List.length_append,y4x_ k ass fun b hb=>hl b (List.mem_cons_of_mem _ hb),hl x List.mem_cons_self,List.length_cons,Nat.add_mul];omega
def y36_(size:Nat)(rel:(Nat->Option AObj)->α->List AVal->Prop)(g:Nat->Option AObj)(xs:List α)(as0:List AVal):Prop:=
 (as0=[.nils]/\xs=[])\/∃l md ass,as0=[.sl l 0 xs.length none]/\g l=some (.cells md size (List.flatten ass))/\ass.length=xs.length/\(∀as0∈ass,as0.length=size)/\(∀(i:Nat) a as0,xs[i]?=some a->ass[i]?=some as0->rel g a as0)/\xs.length<=reachBytes
def Codec.slice{t:TypeId}(c:Codec P α)(ht:P.underlying t=some (.slice c.t))(hc:P.cellsOf t=1)(hy:0<P.bytesOf t):Codec P (List α) where
 t:=t
 size:=1
 rel:=y36_ c.size c.rel
 cells:=hc
 pos:=Nat.one_pos
 byt:=hy
 len:=fun g a as0 h=>by
  rcases h with ⟨rfl,_⟩|⟨_,_,_,rfl,_⟩<;>rfl
 mono:=fun g g' a as0 hg h=>by
  rcases h with h|⟨l,md,ass,h1,h2,h3,h4,h5,h6⟩
  ·exact Or.inl h
  ·exact Or.inr ⟨l,md,ass,h1,hg _ _ h2,h3,h4,fun i a as0 ha hs=>c.mono g g' a as0 hg (h5 i a as0 ha hs),h6⟩
 lift:=fun {H} enc w fuel cs x n h hfit hblk=>by
  rcases DataW.trod_slice ht h with ⟨rfl,_⟩|⟨a,len,cap,elems,rest,fl,_,rfl,hxe,_,hlc,hcm,hlen,hel,hsp,_⟩
  ·exact⟨[],[.nils],[],rfl,fun u hu=>by simp at hu;subst hu;rfl,fun m get _=>⟨by simp only[VRs,VR];exact⟨_,_,rfl,rfl,rfl⟩,Or.inl ⟨rfl,rfl⟩,fun p ocs hp=>(by cases hp)⟩⟩
  ·subst hxe
   have hfit':∀k∈(elems.length+(rest.map (·.1)).length)*P.bytesOf c.t::(DataW.weightsAll P c.t (elems.map (·.1))++DataW.weightsAll P c.t (rest.map (·.1))),k<=reachBytes:=fun k hk=>hfit k (by
    simp only[DataW.weights,ht,List.length_map];simpa using hk)
   have hreach:len<=reachBytes:=by
    have:=hfit' _ List.mem_cons_self;have h2:elems.length*1<=(elems.length+(rest.map (·.1)).length)*P.bytesOf c.t:=Nat.mul_le_mul (Nat.le_add_right _ _) c.byt;omega
   have each:∀i,i<len->∃cs x,w.cells? 0 (a.add (i*c.size)) c.size=some cs/\DataW.trod enc P w 0 (fun _=>true) true fl c.t cs=some x/\y44_ P c.t x.1:=by
    intro i hi;have:=hel i hi;rw[c.cells]at this;obtain⟨y,hy⟩:∃y,elems[i]?=some y:=⟨_,List.getElem?_eq_getElem (by omega)⟩;rw[hy,Option.bind_eq_some_iff]at this;obtain⟨cs,h1,h2⟩:=this;exact⟨cs,y,h1,h2,fun k hk=>hfit' k (List.mem_cons_of_mem _ (List.mem_append_left _ (y54_ (List.mem_map.2 ⟨y,List.mem_of_getElem? hy,rfl⟩) hk)))⟩
   let css:List (List Value):=(List.range len).map fun i=>(w.cells? 0 (a.add (i*c.size)) c.size).getD []
   have hcss:∀i,i<len->∃cs x,css[i]?=some cs/\w.cells? 0 (a.add (i*c.size)) c.size=some cs/\(DataW.trod enc P w 0 (fun _=>true) true fl c.t cs=some x/\y44_ P c.t x.1):=by
    intro i hi;obtain⟨cs,x,h1,h2⟩:=each i hi;exact⟨cs,x,by simp[css,hi,h1],h1,h2⟩
   have hcl:css.length=len:=by simp[css]
   have hmem:∀cs∈css,(∃x,DataW.trod enc P w 0 (fun _=>true) true fl c.t cs=some x/\y44_ P c.t x.1)/\Blk w cs/\cs.length=c.size:=by
    intro cs hcs;obtain⟨i,hi,rfl⟩:=List.getElem_of_mem hcs;obtain⟨cs,x,h1,h2,h3⟩:=hcss i (by omega);have:css[i]=cs:=by have:=List.getElem?_eq_getElem hi;rw[h1]at this;exact(Option.some.inj this).symm
    rw[this];obtain⟨k1,k2⟩:=y4w_ h2;refine⟨⟨x,h3⟩,fun a' len' cap' hin=>?_,k1⟩;obtain⟨j,hj,e⟩:=List.getElem_of_mem hin;have:=k2 j (by omega);rw[List.getElem?_eq_getElem hj]at this;obtain⟨cc,ee,fr,q1,_⟩:=y2c_ this;exact⟨_,cc,ee,fr,q1⟩
   obtain⟨xs,ass,os,l1,l2,l3,o1,r1⟩:=yb9_ c enc w fl css (n+1) hmem;obtain⟨b,cc,ee,fr,hb⟩:=hblk a len cap (by simp);have hfl:=y4x_ c.size ass l3;have hall:∀m,VRs m ass.flatten css.flatten->∀j (y:AVal),ass.flatten[j]?=some y->∃v,w.cell? (a.add j)=some v/\VR m y v/\v.oneCell'=true:=by
    intro m hv j y hy;have hj:j<ass.flatten.length:=(List.getElem?_eq_some_iff.1 hy).1;rw[hfl,l2,hcl]at hj;have hk:0<c.size:=by
     rcases Nat.eq_zero_or_pos c.size with e|e
     ·rw[e]at hj;simp at hj
     ·exact e
    have hi:j / c.size<len:=(Nat.div_lt_iff_lt_mul hk).2 hj;obtain⟨cs,x,h1,h2,h3⟩:=hcss (j / c.size) hi;obtain⟨k1,k2⟩:=y4w_ h2;have hm:=Nat.mod_lt j hk;have ej:j / c.size*c.size+j % c.size=j:=Nat.div_add_mod' j c.size;obtain⟨v,hv1,hv2⟩:=hv.get j y hy;have hfg:=y4t_ c.size css (j / c.size) (j % c.size) cs (fun b hb=>(hmem b hb).2.2) h1 hm;rw[ej,hv1]at hfg;have hc2:=k2 _ hm;rw[<-hfg]at hc2;refine⟨v,?_,hv2,o1 v (List.mem_of_getElem? hv1)⟩;rw[<-hc2]
    congr 1
    by_cases h0:j=0
    ·subst h0;simp[Addr.add]
    ·unfold Addr.add
     rw[if_neg h0];by_cases h1:j % c.size=0
     ·rw[if_pos h1]
      have:j / c.size*c.size≠0:=by omega
      rw[if_neg this];congr 1;omega
     ·rw[if_neg h1]
      by_cases h2:j / c.size*c.size=0
      ·rw[if_pos h2];congr 1;omega
      ·rw[if_neg h2];simp only[Addr.mk.injEq,and_true,true_and];omega
   have hcapc:∀j,j<cap*c.size->∃v,w.cell? (a.add j)=some v:=by
    intro j hj;have hk:0<c.size:=by
     rcases Nat.eq_zero_or_pos c.size with e|e
     ·rw[e]at hj;simp at hj
     ·exact e
    have hi:j / c.size<cap:=(Nat.div_lt_iff_lt_mul hk).2 hj;have:∃cs,w.cells? 0 (a.add (j / c.size*c.size)) c.size=some cs:=by
     by_cases h1:j / c.size<len
     ·obtain⟨cs,x,_,h2,_⟩:=hcss _ h1;exact⟨cs,h2⟩
     ·obtain⟨hr1,hr2⟩:=hsp rfl
      have:=hr2 (j / c.size-len) (by omega);rw[c.cells,show len+(j / c.size-len)=j / c.size by omega]at this;obtain⟨y,hy⟩:∃y,rest[j / c.size-len]?=some y:=⟨_,List.getElem?_eq_getElem (by omega)⟩;rw[hy,Option.bind_eq_some_iff]at this;obtain⟨cs,h1,_⟩:=this;exact⟨cs,h1⟩
    obtain⟨cs,hcs⟩:=this;obtain⟨k1,k2⟩:=y4w_ hcs;have hm:=Nat.mod_lt j hk;have ej:j / c.size*c.size+j % c.size=j:=Nat.div_add_mod' j c.size;refine⟨cs[j % c.size]'(by omega),?_⟩;have hc2:=k2 _ hm;rw[List.getElem?_eq_getElem (by omega)]at hc2;rw[<-hc2]
    congr 1
    by_cases h0:j=0
    ·subst h0;simp[Addr.add]
    ·unfold Addr.add
     rw[if_neg h0];by_cases h1:j % c.size=0
     ·rw[if_pos h1]
      have:j / c.size*c.size≠0:=by omega
      rw[if_neg this];congr 1;omega
     ·rw[if_neg h1]
      by_cases h2:j / c.size*c.size=0
      ·rw[if_pos h2];congr 1;omega
      ·rw[if_neg h2];simp only[Addr.mk.injEq,and_true,true_and];omega
   obtain⟨p,hpc,hps,hpa,hpo⟩:∃p:Pl,p.cap=cap/\p.sz=c.size/\(cap≠0->a=⟨p.blk,p.start,none⟩\/c.size=0)/\∀m,VRs m ass.flatten css.flatten->ObjR m p (.cells .ro c.size ass.flatten) w:=by
    by_cases h0:cap*c.size=0
    ·refine⟨⟨b,0,cap,c.size⟩,rfl,rfl,fun hne=>?_,fun m hv=>⟨cc,ee,fr,hb,fun h=>(by cases h),rfl,trivial,?_,by show 0+cap*c.size<=_;omega,fun j y hy=>?_⟩⟩
     ·rcases Nat.mul_eq_zero.1 h0 with e|e
      ·exact absurd e hne
      ·exact .inr e
     ·rw[hfl,l2,hcl];exact Nat.mul_le_mul_right _ hlc
     ·have hj:j<ass.flatten.length:=(List.getElem?_eq_some_iff.1 hy).1
      rw[hfl,l2,hcl]at hj;have:=Nat.mul_le_mul_right c.size hlc;omega
    ·obtain⟨v,hv⟩:=hcapc (cap*c.size-1) (by omega)
     obtain⟨v0,hv0⟩:=hcapc 0 (by omega);have ha0:a.add 0=a:=by simp[Addr.add]
     rw[ha0]at hv0;obtain⟨c1,e1,fr1,q1,q2,q3⟩:=y2c_ hv0;have hadd:∀j,(a.add j).block=a.block/\(a.add j).off=a.off+j/\(a.add j).spot=none:=by
      intro j;unfold Addr.add;split
      ·rename_i e;subst e;exact⟨rfl,rfl,q2⟩
      ·exact⟨rfl,rfl,rfl⟩
     have hread:∀j v,w.cell? (a.add j)=some v->c1[a.off+j]?=some v:=by
      intro j v hv;obtain⟨c2,e2,fr2,z1,z2,z3⟩:=y2c_ hv;rw[(hadd j).1,q1]at z1;cases z1;rw[(hadd j).2.1]at z3;exact z3
     have hlast:=(Array.getElem?_eq_some_iff.1 (hread _ _ hv)).1;refine⟨⟨a.block,a.off,cap,c.size⟩,rfl,rfl,fun _=>.inl ?_,fun m hm=>⟨c1,e1,fr1,q1,fun h=>(by cases h),rfl,trivial,?_,by show a.off+cap*c.size<=_;omega,fun j y hy=>?_⟩⟩
     ·obtain⟨bl,of,sp⟩:=a
      simp only at q2;subst q2;rfl
     ·rw[hfl,l2,hcl];exact Nat.mul_le_mul_right _ hlc
     ·obtain⟨v,h1,h2,h3⟩:=hall m hm j y hy
      exact⟨v,hread _ _ h1,h2,h3⟩
   have hxl:xs.length=len:=by omega
   ·refine⟨xs,[.sl n 0 len none],(p,ass.flatten)::os,rfl,fun u hu=>by simp at hu;subst hu;rfl,fun m get hL=>?_⟩
    have hL1:=hL 0 p ass.flatten rfl;have hL2:Laid m get (n+1) os:=fun i q cs hi=>by
     have:=hL (i+1) q cs (by simpa using hi);rw[show n+1+i=n+(i+1) by omega];exact this
    obtain⟨v1,q1,b1⟩:=r1 m get hL2;refine⟨?_,Or.inr ⟨n,.ro,ass,by rw[hxl],by have:=hL1.2;rw[hps]at this;exact this,by omega,l3,q1,by omega⟩,fun p' ocs hp'=>?_⟩
    ·simp only[VRs,VR]
     refine⟨_,[],rfl,⟨p,cap,a,hL1.1,fun _=>by omega,fun k hk=>(by cases hk),hlc,fun hne=>?_,rfl⟩,rfl⟩;rcases hpa hne with e|e
     ·rw[Nat.zero_mul,Nat.add_zero];exact e
     ·exact absurd c.pos (by omega)
    ·rcases List.mem_cons.1 hp' with e|hp'
     ·cases e
      have:=hpo m v1;rw[hps];exact this
     ·exact b1 p' ocs hp'
end
section
open Go Go.RowKit Go.ChangeShapes
variable{P:Program}{α β:Type}
structure Args(P:Program)(α:Type) where
 ts:List TypeId
 rel:(Nat->Option AObj)->α->List AVal->Prop
 lift:∀{H:Type} (enc:TypeId×Value->H) (w:World) (base:Nat) (args:List Value) (ds:List (DataW H)) (ps:List MemPlace) (n:Nat),DataW.TrodAll enc P w 0 (fun _=>true) true ts args ds ps ->
  (∀(j:Nat) t v,ts[j]?=some t->args[j]?=some v->Value.okWide P w .any base t v)->(∀k∈DataW.weightsEach P ts ds,k<=reachBytes) ->
  ∃(a:α) (as0:List AVal) (os:List (Pl×List AVal)),∀m get,Laid m get n os->VRs m as0 args/\rel get a as0/\∀p ocs,(p,ocs)∈os->ObjR m p (.cells .ro p.sz ocs) w
def Args.nil:Args P Unit where
 ts:=[]
 rel _ _ as0:=as0=[]
 lift:=fun enc w base args ds ps n h _ _=>by
  cases args with
  |nil=>exact⟨(),[],[],fun m get _=>⟨by simp only[VRs],rfl,fun p ocs hp=>(by cases hp)⟩⟩
  |cons v vs=>cases ds<;>simp[DataW.TrodAll]at h
theorem y8d_{w:World}{base:Nat}{a:Addr}{e:TypeId}{n:Nat}(h:w.has P .any base a e n):∃(b:Nat) (c:Array Value) (e:TypeId) (fr:Nat×Nat),w.heap[b]?=some (.cells c e fr):=by
 obtain⟨_,_,row,cells,hs,_⟩:=h;unfold World.shape? at hs
 split at hs
 ·rename_i c e fr hb;exact⟨_,c,e,fr,hb⟩
 ·cases hs
theorem yhs_{w:World}{base:Nat}{t:TypeId}{a:Addr}{len cap:Nat}(h:Cell.okWide P w .any base t (.slice (some a) len cap)):∃(b:Nat) (c:Array Value) (e:TypeId) (fr:Nat×Nat),w.heap[b]?=some (.cells c e fr):=by
 unfold Cell.okWide at h
 split at h<;>first|(rename_i h2;cases h2;done)|(unfold Cell.ok at h;split at h<;>first|(rename_i h2;cases h2;done)|(cases h;done)|skip)
 all_goals first|(exact y8d_ h.2.2)|skip
 all_goals (rename_i h2;cases h2;exact y8d_ h.2.2)
theorem yg5_{w:World}{base:Nat}{t e:TypeId}{v:Value}(ht:P.underlying t=some (.slice e))(h:Value.okWide P w .any base t v):Blk w [v]:=by
 intro a len cap hm;simp at hm;subst hm;simp only[Value.okWide,ht]at h;exact yhs_ h
def Args.cons(c:Codec P α)(r:Args P β)(hs:c.size=1)(hk:(∃e,P.underlying c.t=some (.slice e))\/(∃k,P.underlying c.t=some (.int k))\/P.underlying c.t=some .bool):Args P (α×β) where
 ts:=c.t::r.ts
 rel g ab as0:=∃v vs,as0=v::vs/\c.rel g ab.1 [v]/\r.rel g ab.2 vs
 lift:=fun {H} enc w base args ds ps n h hok hfit=>by
  obtain⟨v,vs,d,ds',p,q,rfl,rfl,rfl,hd,hrest⟩:=trodAll_cons h;have hf1:y44_ P c.t d:=fun k hk=>hfit k (by rw[DataW.weightsEach,List.mem_append];exact .inl hk);have hf2:∀k∈DataW.weightsEach P r.ts ds',k<=reachBytes:=fun k hk=>hfit k (by rw[DataW.weightsEach,List.mem_append];exact .inr hk);have hok0:=hok 0 c.t v rfl rfl;obtain⟨fuel,hf⟩:=hd;have hv:v.cells.toList=[v]/\Blk w [v]:=by
   rcases hk with ⟨e,ht⟩|⟨k,ht⟩|ht
   ·obtain⟨a,len,cap,rfl⟩:=WideShapes.okWide_slice ht hok0
    exact⟨rfl,yg5_ ht hok0⟩
   ·obtain⟨z,rfl⟩:=WideShapes.okWide_int ht hok0
    exact⟨rfl,fun a len cap hm=>by simp at hm⟩
   ·obtain⟨z,rfl⟩:=WideShapes.okWide_bool ht hok0
    exact⟨rfl,fun a len cap hm=>by simp at hm⟩
  rw[hv.1]at hf;obtain⟨a,as0,os1,l1,o1,r1⟩:=c.lift enc w fuel [v] _ n hf hf1 hv.2;obtain⟨b,bs,os2,r2⟩:=r.lift enc w base vs ds' q (n+os1.length) hrest (fun j t u ht hu=>hok (j+1) t u (by simpa using ht) (by simpa using hu)) hf2;cases as0 with
  |nil=>simp at l1
  | cons x xs=>
   cases xs with
   |cons y ys=>simp at l1
   |nil=>
    refine⟨(a,b),x::bs,os1++os2,fun m get hm=>?_⟩;obtain⟨v1,q1,b1⟩:=r1 m get hm.left;obtain⟨v2,q2,b2⟩:=r2 m get hm.right;refine⟨VRs.append v1 v2,⟨x,bs,rfl,q1,q2⟩,fun p ocs hp=>?_⟩;rcases List.mem_append.1 hp with hp|hp
    ·exact b1 p ocs hp
    ·exact b2 p ocs hp
theorem y5z_{H:Type}{enc:TypeId×Value->H}(hl:laidOutB P=true){w w':World}(hb:Below w.heap.size w w'):∀{ts:List TypeId} {args:List Value} {ds:List (DataW H)} {ps:List MemPlace},
  (∀t∈ts,P.readableRec t=true/\t<P.types.size)->DataW.TrodAll enc P w 0 (fun _=>true) true ts args ds ps->(∀x∈ps,x.block<w.heap.size) ->
  DataW.TrodAll enc P w' 0 (fun b=>decide (b<w.heap.size)) true ts args ds ps
 | [],args,ds,ps,_,h,_=>by
  cases args with
  |nil=>cases ds with
   |nil=>simpa[DataW.TrodAll]using h
   |cons d ds=>simp[DataW.TrodAll]at h
  |cons v vs=>cases ds<;>simp[DataW.TrodAll]at h
 | t::ts,args,ds,ps,ht,h,hlt=>by
  cases args with
  |nil=>simp[DataW.TrodAll]at h
  | cons v vs=>
   cases ds with
   |nil=>simp[DataW.TrodAll]at h
   |cons d ds=>
    obtain⟨p,q,hd,hr,rfl⟩:=h;obtain⟨t1,t2⟩:=ht t List.mem_cons_self;exact⟨p,q,Below.trod hl t1 t2 hd hb (fun x hx=>hlt x (List.mem_append_left _ hx)),y5z_ hl hb (fun t h=>ht t (List.mem_cons_of_mem _ h)) hr (fun x hx=>hlt x (List.mem_append_right _ hx)),rfl⟩
end
section
open Go Go.RowKit Go.ChangeShapes
def sntD(b:List UInt8):DataW Unit:=.iface "*errors.errorString" (.ptr (.agg [.lit (.string b)]))
structure Snt(P:Program) where
 ti:TypeId
 tp:TypeId
 te:TypeId
 ts:TypeId
 ms:Array (String×TypeId)
 f:Field
 hi:P.underlying ti=some (.interface ms)
 hrow:∀u,P.typeName? 3 u=some "*errors.errorString"->u=tp
 hp:P.underlying tp=some (.pointer te)
 he:P.underlying te=some (.struct #[f])
 hft:f.type=ts
 hfo:f.offset=0
 hs:P.underlying ts=some .string
 hc:P.cellsOf te=1
 hcs:P.cellsOf ts=1
def SntAt(w:World)(tp:TypeId)(g:Nat)(b:List UInt8)(a:Addr):Prop:=
 ∃c t c' t',w.heap[g]?=some (.cells c t (0,0))/\c[0]?=some (.iface tp (.pointer (some a)))/\w.heap[a.block]?=some (.cells c' t' (0,0))/\a.spot=none/\c'[a.off]?=some (.string ⟨b.toArray⟩)
variable{P:Program}
theorem y6o_(S:Snt P){w:World}:∀(l:List (String×Nat×List UInt8)) (ps:List MemPlace),DataW.LaidVars P w (l.map fun x=>(x.1,sntD x.2.2)) ps ->
  (∀x∈l,P.globalNamed x.1=some x.2.1/\(P.globals[x.2.1]?).map (·.type)=some S.ti) ->
  (∀b off,MemPlace.cell b off∈ps->(∃c t,w.heap[b]?=some (.cells c t (0,0)))/\∀u v,w.cell? ⟨b,off,none⟩=some (.iface u v)->Value.okWide P w .any 0 u v) ->
  ∀x∈l,∃a,SntAt w S.tp x.2.1 x.2.2 a
 |[],ps,_,_,_,x,hx=>by cases hx
 | y::l,ps,h,hn,hr,x,hx=>by
  obtain⟨g,t,cs,fuel,p,q,hg,ht,hv,hd,hl,rfl⟩:=h;obtain⟨n1,n2⟩:=hn y List.mem_cons_self;obtain rfl:=Option.some.inj (n1.symm.trans hg);obtain rfl:=Option.some.inj (n2.symm.trans ht);rcases List.mem_cons.1 hx with rfl|hx
  ·obtain⟨l0⟩:=cs
   have ok0:∀u v,l0=[.iface u v]->Value.okWide P w .any 0 u v:=fun u v e=>by
    subst e;exact(hr x.2.1 0 (by simp[MemPlace.row])).2 u v (by simpa using World.var?_cell hg hv 0)
   obtain⟨a,s,rfl,hc0,hs0,_,rfl⟩:=errorString_of_trod S.hi S.hrow S.hp S.he S.hft S.hfo S.hs S.hc S.hcs hd ok0;obtain⟨c1,e1,fr1,q1,q2,q3⟩:=y2c_ hc0;obtain⟨⟨c2,t2,q4⟩,_⟩:=hr a.block a.off (by simp[MemPlace.row]);rw[q1]at q4;cases q4;obtain⟨⟨c3,t3,q5⟩,_⟩:=hr x.2.1 0 (by simp[MemPlace.row]);have q6:=World.var?_cell hg hv 0;obtain⟨c4,e4,fr4,q7,_,q8⟩:=y2c_ (w:=w) (a:=⟨x.2.1,0,none⟩) (v:=.iface S.tp (.pointer (some a))) (by simpa using q6);have q7:w.heap[x.2.1]?=some (.cells c4 e4 fr4):=q7;rw[q5]at q7;cases q7;have hs:s=⟨x.2.2.toArray⟩:=by
    obtain⟨d⟩:=s;have:d.toList=x.2.2:=hs0;rw[<-this]
   exact⟨a,c3,t3,c1,_,q5,q8,q1,q2,by rw[q3,hs]⟩
  ·exact y6o_ S l q hl (fun x hx=>hn x (List.mem_cons_of_mem _ hx)) (fun b off hb=>hr b off (List.mem_append_right _ hb)) x hx
def heapG(NG:Nat)(tp:TypeId)(gl:List (Nat×List UInt8))(l:Nat):Option AObj:=
 if l<NG then(gl.findIdx? fun x=>x.1==l).map fun k=>.cells .rz 1 [.ifc tp (.ptr (NG+k) 0)]
 else(gl[l-NG]?).map fun x=>.cells .rz 1 [.str ⟨x.2.toArray⟩]
def heapL(NG:Nat)(tp:TypeId)(gl:List (Nat×List UInt8))(os:List (Pl×List AVal)):Heap:=
 ⟨NG+gl.length+os.length,fun l=>if l<NG+gl.length then heapG NG tp gl l else(os[l-(NG+gl.length)]?).map fun x=>.cells .ro x.1.sz x.2⟩
theorem y9s_{NG:Nat}{f:FuncId}{g:List AVal->Heap->Option (Tu [.B]×Heap)}(h:SpecOk P NG f (.eff [.B] g)){args:List AVal}{cargs:List Value}{σ σ':Heap}{m:Nat->Option Pl}{W:World}
  (hR:R (fun k=>k<W.heap.size) ⟨W,σ.next,m,false⟩ m σ W) (hG:GlobR NG m) (hargs:VRs m args cargs) (hg:g args σ=some (true,σ')) :
  Calls P f cargs.toArray W fun e w'=>e=.returned (.bool true)/\Below W.heap.size W w':=by
 refine(h.calls _ _ m σ W args cargs (.bool true) σ' (by simp[Spec.run,hg,retV,Kd.val]) hR (fun(h:false=true)=>nomatch h) hG hargs).mono ?_;rintro e w' ⟨m',cv,rfl,_,hR',hv⟩;simp only[VR]at hv;subst hv;exact⟨rfl,⟨hR'.below.os,hR'.below.tape,hR'.below.output,hR'.below.size,hR'.below.block⟩⟩
theorem ydy_{NG:Nat}{f:FuncId}{g:List AVal->Heap->Option (Tu [.B]×Heap)}{α:Type}(h:SpecOk P NG f (.eff [.B] g))(A:Args P α)(tp:TypeId)(gl:List (Nat×List UInt8))
  (plain:∀a as0 σ,(∀l o,σ.get l=some o->l<σ.next)->(∀l,l<NG+gl.length->σ.get l=heapG NG tp gl l)->A.rel σ.get a as0->∃σ',g as0 σ=some (true,σ'))
  {H:Type} {enc:TypeId×Value->H} {w:World} {base:Nat} {args:Array Value} {ds:List (DataW H)} {ps:List MemPlace} (ht:DataW.TrodAll enc P w 0 (fun _=>true) true A.ts args.toList ds ps)
  (hok:∀(j:Nat) t v,A.ts[j]?=some t->args[j]?=some v->Value.okWide P w .any base t v) (hfit:∀k∈DataW.weightsEach P A.ts ds,k<=reachBytes) (hNG:∀k,k<NG->k<w.heap.size) (hgl:∀x∈gl,∃a,SntAt w tp x.1 x.2 a) :
  Calls P f args w fun e w'=>e=.returned (.bool true)/\Below w.heap.size w w':=by
 obtain⟨a,as0,os,hr⟩:=A.lift enc w base args.toList ds ps (NG+gl.length) ht (fun j t v h1 h2=>hok j t v h1 (by simpa using h2)) hfit
 classical
 let pa:List UInt8×Nat->Pl:=fun x=>if h:∃a,SntAt w tp x.2 x.1 a then⟨h.choose.block,h.choose.off,1,1⟩ else⟨0,0,0,0⟩
 let m:Nat->Option Pl:=fun l=>if l<NG then some ⟨l,0,1,1⟩else if l<NG+gl.length then(gl[l-NG]?).map fun x=>pa (x.2,x.1) else(os[l-(NG+gl.length)]?).map (·.1)
 let σ:=heapL NG tp gl os
 have mos:∀l,NG+gl.length<=l->m l=(os[l-(NG+gl.length)]?).map (·.1):=fun l hl=>by simp only[m];rw[if_neg (by omega),if_neg (by omega)]
 have gos:∀l,NG+gl.length<=l->σ.get l=(os[l-(NG+gl.length)]?).map fun x=>.cells .ro x.1.sz x.2:=fun l hl=>by simp only[σ,heapL];rw[if_neg (by omega)]
 have ggl:∀l,l<NG+gl.length->σ.get l=heapG NG tp gl l:=fun l hl=>by simp only[σ,heapL];rw[if_pos hl]
 have mg:∀l,l<NG->m l=some ⟨l,0,1,1⟩:=fun l hl=>by simp only[m];rw[if_pos hl]
 have ms:∀k x,gl[k]?=some x->∃a,SntAt w tp x.1 x.2 a/\m (NG+k)=some ⟨a.block,a.off,1,1⟩:=fun k x hk=>by
  have hlt:=(List.getElem?_eq_some_iff.1 hk).1;have hex:=hgl x (List.mem_of_getElem? hk);refine⟨hex.choose,hex.choose_spec,?_⟩;simp only[m];rw[if_neg (by omega),if_pos (by omega),Nat.add_sub_cancel_left,hk];simp only[Option.map_some,pa,dif_pos hex]
 obtain⟨hv,hrel,hob⟩:=hr m σ.get (fun i p cs hi=>by
  rw[mos _ (by omega),gos _ (by omega),Nat.add_sub_cancel_left,hi];exact⟨rfl,rfl⟩)
 have hlt:∀l o,σ.get l=some o->l<σ.next:=fun l o hl=>by
  show l<NG+gl.length+os.length;by_cases h1:l<NG+gl.length
  ·omega
  ·rw[gos _ (by omega),Option.map_eq_some_iff]at hl
   obtain⟨x,hx,_⟩:=hl;have:=(List.getElem?_eq_some_iff.1 hx).1;omega
 obtain⟨σ',hg⟩:=plain a as0 σ hlt ggl hrel;have hget:∀l o,σ.get l=some o->(∃p ocs,NG+gl.length<=l/\os[l-(NG+gl.length)]?=some (p,ocs)/\o=.cells .ro p.sz ocs)\/(∃k x,l=x.1/\l<NG/\gl[k]?=some x/\o=.cells .rz 1 [.ifc tp (.ptr (NG+k) 0)]) \/
   ∃k x,l=NG+k/\gl[k]?=some x/\o=.cells .rz 1 [.str ⟨x.2.toArray⟩]:=fun l o hl=>by
  by_cases h1:l<NG+gl.length
  ·rw[ggl _ h1]at hl
   unfold heapG at hl
   split at hl
   ·rename_i h2
    rw[Option.map_eq_some_iff]at hl;obtain⟨k,hk,rfl⟩:=hl;obtain⟨hk1,hk2,_⟩:=List.findIdx?_eq_some_iff_getElem.1 hk;exact .inr (.inl ⟨k,gl[k],by have h5:=hk2;simp at h5;exact h5.symm,h2,by simp,rfl⟩)
   ·rename_i h2
    rw[Option.map_eq_some_iff]at hl;obtain⟨x,hx,rfl⟩:=hl;exact .inr (.inr ⟨l-NG,x,by omega,hx,rfl⟩)
  ·rw[gos _ (by omega),Option.map_eq_some_iff]at hl
   obtain⟨⟨p,ocs⟩,hx,rfl⟩:=hl;exact .inl ⟨p,ocs,by omega,hx,rfl⟩
 have hR:R (fun k=>k<w.heap.size) ⟨w,σ.next,m,false⟩ m σ w:=by
  refine⟨fun l o hl=>?_,fun l p hl=>?_,fun l l' o o' p p' _ hl _ _ _ hx=>?_,fun _ l o p hl hrw _=>?_,Keeps.refl _ _,fun k hk=>hk,Nat.le_refl _,fun _ _=>rfl⟩
  ·rcases hget l o hl with ⟨p,ocs,h1,hx,rfl⟩|⟨k,x,rfl,h1,hx,rfl⟩|⟨k,x,rfl,hx,rfl⟩
   ·exact⟨p,by rw[mos _ h1,hx];rfl,hob p ocs (List.mem_of_getElem? hx)⟩
   ·obtain⟨ad,⟨c,t,c',t',z1,z2,z3,z4,z5⟩,hm⟩:=ms k x hx
    refine⟨_,mg _ h1,c,t,(0,0),z1,fun _=>rfl,rfl,trivial,Nat.le_refl _,(Array.getElem?_eq_some_iff.1 z2).1,fun i y hi=>?_⟩;cases i with
    |zero=>
     simp only[List.getElem?_cons_zero,Option.some.injEq]at hi;subst hi;refine⟨_,z2,?_,rfl⟩;simp only[VR];refine⟨_,rfl,_,hm,?_⟩;obtain⟨bl,of,sp⟩:=ad;simp only at z4;subst z4;rfl
    |succ i=>simp at hi
   ·obtain⟨ad,⟨c,t,c',t',z1,z2,z3,z4,z5⟩,hm⟩:=ms k x hx
    refine⟨_,hm,c',t',(0,0),z3,fun _=>rfl,rfl,trivial,Nat.le_refl _,(Array.getElem?_eq_some_iff.1 z5).1,fun i y hi=>?_⟩;cases i with
    |zero=>
     simp only[List.getElem?_cons_zero,Option.some.injEq]at hi;subst hi;exact⟨_,z5,by simp only[VR],rfl⟩
    |succ i=>simp at hi
  ·show l<NG+gl.length+os.length/\_
   by_cases h1:l<NG
   ·rw[mg _ h1]at hl;cases hl;exact⟨by omega,hNG _ h1⟩
   ·by_cases h2:l<NG+gl.length
    ·obtain⟨ad,⟨c,t,c',t',z1,z2,z3,z4,z5⟩,hm⟩:=ms (l-NG) _ (List.getElem?_eq_getElem (by omega))
     rw[show NG+(l-NG)=l by omega,hl]at hm;cases hm;exact⟨by omega,(Array.getElem?_eq_some_iff.1 z3).1⟩
    ·rw[mos _ (by omega),Option.map_eq_some_iff]at hl
     obtain⟨⟨q,ocs⟩,hx,rfl⟩:=hl;obtain⟨c,e,fr,h1,_⟩:=hob q ocs (List.mem_of_getElem? hx);have:=(List.getElem?_eq_some_iff.1 hx).1;exact⟨by omega,(Array.getElem?_eq_some_iff.1 h1).1⟩
  ·rcases hget l o hl with ⟨p,ocs,h1,hx2,rfl⟩|⟨k,x,rfl,h1,hx2,rfl⟩|⟨k,x,rfl,hx2,rfl⟩<;>cases hx
  ·rcases hget l o hl with ⟨p,ocs,h1,hx2,rfl⟩|⟨k,x,rfl,h1,hx2,rfl⟩|⟨k,x,rfl,hx2,rfl⟩<;>cases hrw
 have:=y9s_ (m:=m) h hR (fun k hk=>⟨_,mg k hk,rfl,rfl⟩) (by simpa using hv) hg;simpa using this
theorem y5g_{C:Checked}{os:Os}{f:FuncId}{fn:Func}{s:ChangeSpec}{conds:List PathCond}{apart fresh handsOn again:Bool}{X:World->Array Value->Prop}{H:Type}{enc:TypeId×Value->H}(NG:Nat)
  (hX:∀(w w':World) (args:Array Value),w.heap=w'.heap->X w args->X w' args)
  (own:ownKnob C.prog.godebug=none) (started:os.Started) (noInit:C.prog.inits.idxOf? f=none) (hfn:C.prog.funcs[f]?=some fn)
  (hNG:NG<=C.prog.globals.size) (hrows:((List.range NG).all fun g=>(((begin C.prog (fun _ _=>0) default).world.heap[g]?).bind Obj.row?).isSome)=true)
  (witness:∃(w:World) (tape:Tape) (i:Input),w.os=os/\(w.forCall tape i).Shaped C.prog/\i.vars=[]/\Input.okWide C.prog (w.forCall tape i) .any w.heap.size f i /\
   ((s.pre enc C.prog fn conds apart (w.forCall tape i).memory i.args/\X (w.forCall tape i).memory i.args)/\sizedMet enc C.prog fn (OpenSpec.ofChange s) apart (w.forCall tape i).memory i.args)/\({}:Assume).holds C.prog (lone (Frame.enter C.prog f i.args .normal) [] (w.forCall tape i)))
  (contract:∀(W:World) (base:Nat) (args:Array Value) (ds gs:List (DataW H)) (before:List MemPlace),
   (∀(j:Nat) t v,fn.params[j]?=some t->args[j]?=some v->Value.okWide C.prog W .any base t v) ->
   DataW.Whole enc C.prog fn.params.toList s.vars apart W args.toList ds gs before->(DataW.weightsEach C.prog (fn.params.toList++s.plain.varTypes C.prog) (ds++gs)).all (·<=reachBytes)=true->X W args->(∀k,k<NG->k<W.heap.size) ->
   Calls C.prog f args W fun e W'=>∃v,e=.returned v/\s.post enc C.prog fn apart fresh handsOn again W args v W') :
  ReturnsInHanded {} C os f .any (fun w args=>(s.pre enc C.prog fn conds apart w args/\X w args)/\sizedMet enc C.prog fn (OpenSpec.ofChange s) apart w args) (s.post enc C.prog fn apart fresh handsOn again):=by
 refine returnsInHanded_of_calls own started noInit witness ?_;intro w tape i _ hsh _ hok hpre hholds;obtain⟨_,_,_,fn',hfn',_,_,_,_,hval⟩:=hok;have e:fn'=fn:=Option.some.inj (hfn'.symm.trans hfn);subst e;obtain⟨⟨⟨ds,gs,before,hw,hc⟩,hx⟩,hz⟩:=hpre;have hw':=DataW.Whole.of_heap (w':=w.forCall tape i) (by rfl) hw;refine(contract (w.forCall tape i) w.heap.size i.args ds gs before hval hw' (hz.weights hw) (hX _ _ _ (by rfl) hx) fun k hk=>?_).mono fun e W' ⟨v,he,hp⟩=>?_
 ·have:=List.all_eq_true.1 hrows k (List.mem_range.2 hk)
  obtain⟨⟨zero,t⟩,hzt⟩:=Option.isSome_iff_exists.1 this;obtain⟨cs,h1,_⟩:=hsh.1 k zero t (by omega) hzt;exact(Array.getElem?_eq_some_iff.1 h1).1
 ·subst he
  exact ChangeSpec.post_blind hp
end
end Go.Proofs.YtekehmgfedmflaaGreatDoor.A
end
