/- Parts of the proof, one behind another. -/
import Derived.Test.YtekehmgfedmflaaGreatDoorX1
import Derived.Test.YtekehmgfedmflaaGreatDoorX0
set_option linter.all false
noncomputable section
namespace Go.Proofs.YtekehmgfedmflaaGreatDoor.A
section
open Go Go.RowKit Go.Sort
def ybj_(P:Program)(f O:FuncId):Prop:=∀(blk off cap:Nat) (zs:List Int) (w:World) (_:Holds (Value.int .i64) w blk off zs.toArray) (_:blk<w.heap.size) (_:zs.length<4611686018427387904) (_:zs.all inB=true),
  Calls P f #[.slice (some ⟨blk,off,none⟩) zs.length cap,.func (.func O) #[] #[]] w fun e w'=>
   e=.returned (.tuple #[])/\∃n os,w'=grow (putRow (Value.int .i64) (Sort.ahead w n) blk off (yf_ zs).toArray) os
def yas_(P:Program)(f:FuncId):Prop:=∀(p:Option Addr) (cap:Nat) (fv:Value) (w:World),Calls P f #[.slice p 0 cap,fv] w fun e w'=>e=.returned (.tuple #[])/\w'=w
theorem ycd_{P:Program}{NG:Nat}{f O:FuncId}(hc:ybj_ P f O)(hn:yas_ P f)(he:∃fn,P.funcs[f]?=some fn/\(fn.name == "runtime.NumGoroutine")=false/\fn.body.isNone=false) :
  SpecOk P NG f (.eff [] fun args σ=>packs args [.V,.V] fun x=>y4l_ O x.1 x.2 σ):=by
 have key:∀args σ v σ',Spec.run (.eff [] fun args σ=>packs args [.V,.V] fun x=>y4l_ O x.1 x.2 σ) args σ=some (v,σ')->v=.tup [] /\
   ((σ'=σ/\(args=[.nils,.fn (.func O) [] []]\/∃l off c,args=[.sl l off 0 c,.fn (.func O) [] []])) \/
   ∃l off len c cs zs,args=[.sl l off len c,.fn (.func O) [] []]/\σ.get l=some (.cells .rw 1 cs)/\0<len/\off+len<=cs.length/\len<4611686018427387904 /\
   (cs.drop off).take len=zs.map (.int .i64)/\zs.all inB=true/\σ'=σ.set l (.cells .rw 1 (cs.take off++(yf_ zs).map (.int .i64)++cs.drop (off+len)))):=by
  intro args σ v σ' h;simp only[Spec.run]at h;rcases args with _|⟨x,_|⟨y,_|⟨z,l⟩⟩⟩
  ·simp[packs]at h
  ·simp[packs,asK]at h
  ·simp only[packs,asK]at h
   unfold y4l_ at h
   split at h
   ·split at h
    ·rename_i hO;subst hO
     split at h
     ·simp only[Option.map_some,Option.some.injEq,Prod.mk.injEq]at h
      exact⟨h.1.symm,.inl ⟨h.2.symm,.inl rfl⟩⟩
     ·split at h
      ·rename_i h0;subst h0
       simp only[Option.map_some,Option.some.injEq,Prod.mk.injEq]at h;exact⟨h.1.symm,.inl ⟨h.2.symm,.inr ⟨_,_,_,rfl⟩⟩⟩
      ·rename_i h0
       split at h
       ·split at h
        ·rename_i hcond
         split at h
         ·rename_i zs hz
          split at h
          ·rename_i hb
           simp only[Option.map_some,Option.some.injEq,Prod.mk.injEq]at h;exact⟨h.1.symm,.inr ⟨_,_,_,_,_,zs,rfl,by assumption,by omega,hcond.1,hcond.2,y5e_ hz,hb,h.2.symm⟩⟩
          ·cases h
         ·cases h
        ·cases h
       ·cases h
     ·cases h
    ·cases h
   ·cases h
  ·simp only[packs,asK]at h
   cases l<;>simp[packs]at h
 refine⟨he,fun B w0 m σ w args cargs v σ' hg hR hpm hG hargs=>?_,fun args σ v σ' hg=>?_,fun ks g h=>by cases h⟩
 ·obtain⟨rfl,⟨rfl,hnil⟩|⟨l,off,len,c,cs,zs,rfl,hl,h0,hle,hlt,hz,hb,rfl⟩⟩:=key _ _ _ _ hg
  ·have:∃p cap fv,cargs=[.slice p 0 cap,fv]:=by
    rcases hnil with rfl|⟨l,off,c,rfl⟩
    ·simp only[VRs]at hargs
     obtain⟨cv,vs',rfl,hv,cf,vs2,rfl,_,rfl⟩:=hargs;simp only[VR]at hv;subst hv;exact⟨_,_,_,rfl⟩
    ·simp only[VRs]at hargs
     obtain⟨cv,vs',rfl,hv,cf,vs2,rfl,_,rfl⟩:=hargs;simp only[VR]at hv;obtain⟨p,cap,o,_,_,_,_,_,rfl⟩:=hv;exact⟨_,_,_,rfl⟩
   obtain⟨p,cap,fv,rfl⟩:=this;refine(hn p cap fv w).mono fun e1 w1 ⟨h1,h2⟩=>?_;subst h1 h2;exact⟨m,.tuple #[],rfl,Sub.refl m,hR,by simp only[VR,VRs];exact⟨[],rfl,rfl⟩⟩
  ·have hpf:w0.pm=false:=by
    cases hp:w0.pm with
    |false=>rfl
    |true=>exact absurd (hpm hp) (by simp[isPur])
   simp only[VRs]at hargs;obtain⟨cv,vs',rfl,hv,cf,vs2,rfl,hv2,rfl⟩:=hargs;simp only[VR]at hv;obtain⟨p,cap,o,hm,hc1,hc2,hlc,ho,rfl⟩:=hv;have hcf:cf=.func (.func O) #[] #[]:=by
    simp only[VR,VRs]at hv2;obtain⟨a',b',e,rfl,rfl⟩:=hv2;exact e
   subst hcf;obtain⟨p',hm',cc,e,fr,g1,g2,g3,g4,g5,g6,g7⟩:=hR.obj l _ hl;rw[hm]at hm';cases hm';have hfr:=g2 rfl;subst hfr;have ho':=ho (by omega);rw[g3,Nat.mul_one]at ho';subst ho';have hzl:zs.length=len:=by have:=congrArg List.length hz;simp at this;omega
   have hcell:∀j n,zs[j]?=some n->cc[p.start+off+j]?=some (.int .i64 n):=by
    intro j n hj;have:cs[off+j]?=some (.int .i64 n):=by
     have h1:((cs.drop off).take len)[j]?=some (.int .i64 n):=by rw[hz];simp[hj]
     rw[List.getElem?_take]at h1
     split at h1
     ·rwa [List.getElem?_drop]at h1
     ·cases h1
    obtain⟨v,k1,k2,_⟩:=g7 _ _ this;simp only[VR]at k2;subst k2;rw[<-k1];congr 1;omega
   have hH:Holds (Value.int .i64) w p.blk (p.start+off) zs.toArray:=by
    intro j hj;have hj':j<zs.length:=by simpa using hj
    have:=hcell j zs[j] (by simp[hj']);refine⟨?_,?_⟩
    ·simp only[World.cell?,g1]
     simp[this,getElem!_pos,hj']
    ·simp[World.frozen?,g1]
   have hcall:=hc p.blk (p.start+off) cap zs w hH (hR.dom l p hm).2 (by omega) hb;rw[hzl]at hcall;refine hcall.mono fun e1 w1 ⟨h1,n,os,h2⟩=>?_;subst h1 h2;refine⟨m,.tuple #[],rfl,Sub.refl m,?_,by simp only[VR,VRs];exact⟨[],rfl,rfl⟩⟩;have hblk:=(hR.dom l p hm).2;have hsl:=y3f_ zs;have hd:(yf_ zs).toArray.size=len:=by simp[hsl,hzl]
   have heap1:∀k,k<w.heap.size->(grow (putRow (Value.int .i64) (Sort.ahead w n) p.blk (p.start+off) (yf_ zs).toArray) os).heap[k]?=if p.blk=k then(w.heap[k]?).map (onCells (putCells (Value.int .i64) (p.start+off) (yf_ zs).toArray))else w.heap[k]?:=by
    intro k hk;simp only[grow,putRow,mapBlock,Sort.ahead];rw[Array.getElem?_append_left (by simpa using hk),Array.getElem?_modify]
   have hlen:(cs.take off++(yf_ zs).map (AVal.int .i64)++cs.drop (off+len)).length=cs.length:=by simp;omega
   refine R.upd (b:=p.blk) (l:=l) (o:=.cells .rw 1 (cs.take off++(yf_ zs).map (.int .i64)++cs.drop (off+len))) (p:=p) hR ⟨rfl,rfl,rfl,by simp[grow,putRow,mapBlock,Sort.ahead],fun k hk hlt=>?_⟩ (hR.own hpf l _ p hl rfl hm) (Sub.refl m) (fun _ _=>rfl) hm rfl (by simpa[grow,putRow,mapBlock,Sort.ahead]using Nat.lt_of_lt_of_le hblk (Nat.le_add_right _ _))
    (fun k q hq=>.inl hq) (by simp[Heap.set]) (by simpa[Heap.set] using(hR.dom l p hm).1) (fun k x hk hx=>?_) (by simp[Heap.set]) ?_
   ·rw[heap1 k hlt,if_neg (Ne.symm hk)]
   ·simp only[Heap.set,if_neg hk]at hx
    exact⟨hx,fun q hq=>Ne.symm (hR.excl l k _ x p q (Ne.symm hk) hl hx hm hq rfl)⟩
   ·refine⟨putCells (Value.int .i64) (p.start+off) (yf_ zs).toArray cc,e,(0,0),by rw[heap1 _ hblk,if_pos rfl,g1];rfl,fun _=>rfl,g3,trivial,by rw[hlen];exact g5,by simp[putCells];omega,fun i a hi=>?_⟩
    simp only[putCells,Array.getElem?_mapIdx];rw[hd];have hsp:=y3t_ cs ((yf_ zs).map (AVal.int .i64)) off (by simp;omega) i;have e1:off+((yf_ zs).map (AVal.int .i64)).length=off+len:=by simp;omega
    rw[e1]at hsp;rw[hsp]at hi;by_cases i1:i<off
    ·rw[if_pos i1]at hi
     obtain⟨v,k1,k2,k3⟩:=g7 i a hi;exact⟨v,by rw[k1,Option.map_some,if_neg (by omega)],k2,k3⟩
    ·rw[if_neg i1]at hi
     by_cases i2:i<off+len
     ·rw[if_pos i2]at hi
      have hlt':i-off<(yf_ zs).length:=by omega
      have:(yf_ zs)[i-off]?=some ((yf_ zs)[i-off]):=by simp[hlt']
      simp only[List.getElem?_map,this,Option.map_some,Option.some.injEq]at hi;subst hi;obtain⟨v,k1,_⟩:=g7 i cs[i] (by simp);refine⟨.int .i64 ((yf_ zs)[i-off]),?_,by simp only[VR],rfl⟩;rw[k1,Option.map_some,if_pos (by omega)];have e2:p.start+i-(p.start+off)=i-off:=by omega
      rw[e2]
      congr 2
      rw[getElem!_pos _ _ (by simpa using hlt')];simp
     ·rw[if_neg i2]at hi
      obtain⟨v,k1,k2,k3⟩:=g7 i a hi;exact⟨v,by rw[k1,Option.map_some,if_neg (by omega)],k2,k3⟩
 ·obtain⟨_,⟨rfl,_⟩|⟨l,off,len,c,cs,zs,_,hl,_,_,_,_,_,rfl⟩⟩:=key _ _ _ _ hg
  ·exact Grw.refl _
  ·exact Grw.set rfl
end
end Go.Proofs.YtekehmgfedmflaaGreatDoor.A
end
