/- Parts of the proof, one behind another. -/
import Derived.Test.YtafbldhedkallaaGreatDoorX11
import Derived.Test.YtafbldhedkallaaGreatDoorX9
set_option linter.all false
noncomputable section
namespace Go.Proofs.YtafbldhedkallaaGreatDoor.A
section
open Go
theorem ygb_{σ:Heap}{a b:Int}(ha:inB a=true)(hb:inB b=true):S.z132 a b σ=some (decide (a.natAbs<b.natAbs\/(a.natAbs=b.natAbs/\a<b))):=by
 simp only[inB,Bool.and_eq_true,decide_eq_true_eq]at ha hb;unfold S.z132;rw[y97_ ⟨by omega,by omega⟩,y97_ ⟨by omega,by omega⟩];simp only[Option.bind_some];by_cases h1:a.natAbs<b.natAbs
 ·have:decide ((a.natAbs:Int)<(b.natAbs:Int))=true:=decide_eq_true (by omega)
  rw[this];simp[h1]
 ·have:decide ((a.natAbs:Int)<(b.natAbs:Int))=false:=decide_eq_false (by omega)
  rw[this];by_cases h2:a.natAbs=b.natAbs
  ·simp[h2]
  ·have:(((a.natAbs:Nat):Int)==((b.natAbs:Nat):Int))=false:=by simp;omega
   simp only[cond_false,this,Option.bind_some];simp[h1,h2]
theorem ydz_{xs:List Int}{k:Nat}{a:Int}(hs:xs.Pairwise ltL)(hk:k<=xs.length)(h1:∀j b,j<k->xs[j]?=some b->ltL b a)(h2:∀b,xs[k]?=some b->¬ltL b a)(hn:a∉xs):(xs.take k++[a]++xs.drop k).Pairwise ltL:=by
 have hd:∀b∈xs.drop k,ltL a b:=fun b hb=>by
  obtain⟨c,hc⟩:∃c,xs[k]?=some c:=by
   obtain⟨j,hj,_⟩:=List.getElem_of_mem hb;exact⟨_,kb_ (by simp at hj;omega)⟩
  have h3:=h2 c hc;have hca:c≠a:=fun e=>hn (e▸ka_ hc);have h4:ltL a c:=by unfold ltL at h3⊢;omega
  rw[y54_ hc]at hb;rcases List.mem_cons.1 hb with rfl|hb
  ·exact h4
  ·have h5:(xs.drop k).Pairwise ltL:=hs.sublist (List.drop_sublist ..)
   rw[y54_ hc]at h5;have h6:=(List.pairwise_cons.1 h5).1 b hb;unfold ltL at h4 h6⊢;omega
 have ht:∀b∈xs.take k,ltL b a:=fun b hb=>by
  obtain⟨j,hj,e⟩:=List.getElem_of_mem hb;simp at hj e;exact h1 j b (by omega) (by rw[kb_ (by omega),e])
 rw[kn_,List.pairwise_append];refine⟨hs.sublist (List.take_sublist ..),?_,fun x hx y hy=>?_⟩
 ·rw[List.singleton_append,List.pairwise_cons]
  exact⟨hd,hs.sublist (List.drop_sublist ..)⟩
 ·rcases kh_.1 hy with hy|hy
  ·rw[kj_.1 hy];exact ht x hx
  ·have h3:=ht x hx
   have h4:=hd y hy;unfold ltL at h3 h4⊢;omega
theorem yar_{σ:Heap}{c:List Int}{x:AVal}(hx:SlV .int σ c x)(hin:c.all inB=true)(hl:c.length<=1000000):W (S.z128 x σ) fun r=>Hle σ r.2/\SlV .int r.2 (normL c) r.1.1:=by
 have hinb:∀a∈c,inB a=true:=List.all_eq_true.1 hin;unfold S.z128;refine W.bind ?_;refine W.loop c.length (fun i (y:AVal×Bool×Int) τ=>y.2.2=(i:Int)/\Hle σ τ/\∃out,SlV .int τ out y.1/\out.Pairwise ltL/\(∀v,v∈out↔v∈c.take i)/\out.length<=i) ⟨rfl,Hle.refl _,[],SlV.nil _ _,List.Pairwise.nil,by simp,by simp⟩ fun i y τ hi hI=>?_;obtain⟨y,says,j⟩:=y;obtain⟨rfl,L,out,hO,hs,hm,hol⟩:=hI;dsimp only at hO;have hx':=hx.mono L;unfold S.z128.b1;dsimp only
 repeat' (with_reducible refine W.len (by assumption) ?_)
 (with_reducible refine W.cnd (fun hc=>?_) (fun hc=>?_)<;>(try simp only[qq,Kd.ty]at hc)<;>(try (exfalso;omega)))
 ·obtain⟨a,ha⟩:∃a,c[i]?=some a:=⟨_,kb_ (by omega)⟩
  have hia:=hinb a (ka_ ha);have ht:c.take (i+1)=c.take i++[a]:=by rw[kk_,ha];rfl
  have hob:∀v∈out,inB v=true:=fun v hv=>hinb v (kr_ ((hm v).1 hv))
  repeat' with_reducible first|refine W.bind ?_|refine W.e2 ?_
  refine W.to (y9g_ hO (by omega)) ?_
  repeat' with_reducible refine W.ret ?_
  (with_reducible refine W.cnd (fun hq=>?_) (fun hq=>?_)<;>(try simp only[qq,Kd.ty]at hq)<;>(try (exfalso;omega)))
  ·repeat' with_reducible first|refine W.next ?_|refine W.ret ?_
   refine⟨by omega,sk,L,out,hO,hs,fun v=>?_,by omega⟩;rw[ht,kh_,<-hm v,kj_];exact⟨.inl,fun h=>h.elim id fun e=>by rw[e];exact hq⟩
  ·refine W.bind ?_
   refine W.mono (P:=fun k=>∃k':Nat,k=(k':Int)/\k'<=out.length/\(∀j b,j<k'->out[j]?=some b->ltL b a)/\∀b,out[k']?=some b->¬ltL b a) ?_ fun k hk=>?_
   ·refine W.loopP out.length (fun m (z:Int)=>z=(m:Int)/\∀j b,j<m->out[j]?=some b->ltL b a) ⟨rfl,fun j b hj=>by omega⟩ fun m z hm' hJ=>?_
    obtain⟨rfl,hJ⟩:=hJ;unfold S.z128.b0
    repeat' with_reducible first|refine W.bind ?_|refine W.len (by assumption) ?_
    (with_reducible refine W.cnd (fun hlt=>?_) (fun hlt=>?_)<;>(try simp only[qq,Kd.ty]at hlt)<;>(try (exfalso;omega)))
    ·obtain⟨b,hb⟩:∃b,out[m]?=some b:=⟨_,kb_ (by omega)⟩
     repeat' with_reducible first|refine W.bind ?_|refine W.e2 ?_
     refine W.to (ygb_ (hob b (ka_ hb)) hia) ?_
     repeat' with_reducible refine W.ret ?_
     (with_reducible refine W.cnd (fun hbf=>?_) (fun hbf=>?_)<;>(try simp only[qq,Kd.ty]at hbf)<;>(try (exfalso;omega)))
     ·repeat' (with_reducible refine W.nextP ?_)
      refine⟨by omega,sk,fun j d hj hd=>?_⟩;by_cases e:j=m
      ·subst e;rw[hb]at hd;cases hd;exact hbf
      ·exact hJ j d (by omega) hd
     ·repeat' (with_reducible refine W.stopP ?_)
      refine⟨m,rfl,by omega,hJ,fun d hd=>?_⟩;rw[hb]at hd;cases hd;exact hbf
    ·repeat' with_reducible refine W.ret ?_
     refine W.condF rfl ?_
     repeat' (with_reducible refine W.stopP ?_)
     refine⟨m,rfl,by omega,hJ,fun d hd=>?_⟩;have:=(kf_.1 hd).1;omega
   ·obtain⟨k',rfl,hk1,hk2,hk3⟩:=hk
    refine W.call (P:=fun _=>True) ?_ fun sy _=>?_
    ·cases says
     ·refine W.condF rfl ?_
      exact W.ret trivial
     ·refine W.condT rfl ?_
      repeat' with_reducible first|refine W.bind ?_|refine W.e2 ?_
      refine W.to (y9g_ hO (by omega)) ?_
      repeat' with_reducible refine W.ret ?_
      trivial
    ·obtain⟨y1,e1,hy1⟩:=hO.slice (lo:=0) (hi:=k') (by omega) hk1
     obtain⟨y2,e2,hy2⟩:=hO.slice (lo:=k') (hi:=out.length) hk1 (Nat.le_refl _);rw[List.drop_zero]at hy1;rw[List.take_length]at hy2;refine W.to ((e1 (Hle.refl _) _).1) ?_;refine W.bind ?_;refine W.mono (ybq_ hy1 (by simp;omega)) fun r hr=>?_;obtain⟨z,τ2⟩:=r;obtain⟨hZ,L2⟩:=hr;dsimp only at hZ L2⊢;have hx2:=hx'.mono L2;refine W.ixO hx2 (by omega) ?_;refine W.ixO hx' (by omega) ?_;refine W.chk rfl ?_;refine W.ldOI hx2 ha ?_;refine W.ldOI hx' ha ?_;refine W.chk rfl ?_;refine W.pushI hZ L2 (by simp;omega) (by simp;omega) fun z2 τ3 L3 hZ3 _=>?_;refine W.to ((e2 L3 _).2 rfl) ?_;refine W.app (bytes:=8) hZ3 L3 (hy2.mono (hZ3.out_le L3)) (by simp;omega) (by simp;omega) fun z4 τ4 L4 hZ4 _=>?_
     repeat' with_reducible first|refine W.next ?_|refine W.ret ?_
     refine⟨by omega,sk,L.trans L4,_,hZ4.sl,ydz_ hs hk1 hk2 hk3 hq,fun v=>?_,by simp;omega⟩;rw[ht];have h5:v∈out↔v∈out.take k'\/v∈out.drop k':=by rw[<-kh_,List.take_append_drop]
     simp only[List.mem_append,List.mem_singleton,<-hm v];rw[h5];constructor
     ·rintro((h|h)|h)
      ·exact .inl (.inl h)
      ·exact .inr h
      ·exact .inl (.inr h)
     ·rintro((h|h)|h)
      ·exact .inl (.inl h)
      ·exact .inr h
      ·exact .inl (.inr h)
 ·repeat' with_reducible first|refine W.stop ?_|refine W.ret ?_
  rw[ki_ (by omega)]at hm;have:out=normL c:=y62_ hs (y18_ c) fun v=>by rw[hm,y8_]
  rw[<-this];exact⟨L,hO⟩
theorem yfb_{σ:Heap}{a b:List Int}{x y:AVal}(hx:SlV .int σ a x)(hy:SlV .int σ b y)(ha:a.all inB=true)(hb:b.all inB=true)(hla:a.length<=1000000)(hlb:b.length<=1000000):W (S.z130 x y σ) fun r=>Hle σ r.2/\r.1=decide (normL a=normL b):=by
 unfold S.z130;refine W.bind ?_;refine W.mono (yar_ hx ha hla) fun r hr=>?_;obtain⟨⟨u,_⟩,τ⟩:=r;obtain⟨L,hu⟩:=hr;dsimp only at L hu⊢;refine W.bind ?_;refine W.mono (yar_ (hy.mono L) hb hlb) fun r hr=>?_;obtain⟨⟨w,_⟩,τ2⟩:=r;obtain⟨L2,hw⟩:=hr;dsimp only at L2 hw⊢;have hnl:=y6u_ a;refine W.bind ?_;refine W.to (yck_ (hu.mono L2) hw (by omega)) ?_
 repeat' with_reducible refine W.ret ?_
 exact⟨L.trans L2,rfl⟩
structure RB(σ:Heap)(T:Tg)(l vars:Nat)(C:List (List Int)):Prop where
 ex:∃v ws,Loc (σ.at T 1) l [.int .i64 vars,v]/\SlV vRaw (σ.at T 0) ws v/\AllV σ T C ws
 ok:∀c∈C,ye_ vars c
 vl:vars<=4000
 cl:C.length<=900000
 ll:∀c∈C,c.length<=400000
section
variable{σ τ:Heap}{T T':Tg}{l vars:Nat}{C:List (List Int)}{c:List Int}{x:AVal}
theorem RB.hle(h:RB σ T l vars C)(L:Hle σ τ):RB τ T l vars C:=by
 obtain⟨⟨v,ws,h1,h2,h3⟩,a,b,d,e⟩:=h;exact⟨⟨v,ws,h1.hle L,h2.hle L,h3.hle L⟩,a,b,d,e⟩
theorem RB.hop{I:Nat->Bool}(h:RB σ T l vars C)(H:Hop I σ T τ T')(h0:I 0=false:=by rfl)(h1:I 1=false:=by rfl):RB τ T' l vars C:=by
 obtain⟨⟨v,ws,k1,k2,k3⟩,a,b,d,e⟩:=h;exact⟨⟨v,ws,k1.hop H h1,k2.hop H h0,k3.hop H h0⟩,a,b,d,e⟩
theorem AllV.at{ws:List AVal}{v:AVal}(h:AllV σ T C ws)(hv:SlV vRaw (σ.at T 0) ws v):SlV A.vIs (σ.at T 0) C v:=yij_ hv h.1 h.2
theorem Acc.at0F{α:Type}{v:Vw α}{n0:Nat}{xs:List α}{y:AVal}(hf:v.Flat)(h:Acc v n0 τ xs y)(hT:∀k,n0<=k->T k=0):SlV v (τ.at T 0) xs y:=by
 rcases h with ⟨rfl,rfl⟩|⟨l,cs,rfl,h1,h2,h3,h4,h5⟩
 ·exact .inl ⟨rfl,rfl⟩
 ·exact .inr ⟨l,0,none,.rw,cs,rfl,h2,at_of (hT l h1) h3,by simpa using h4,fun i a ha=>by
   have:=h5 i a ha;rw[Nat.zero_add];exact hf _ _ _ _ this⟩
theorem AllV.scal{ws:List AVal}(h:AllV σ T C ws):∀w∈ws,∀{R:Type} (X:Option R),A.scal w X=X:=fun w hw R X=>by
 obtain⟨i,hi,e⟩:=List.getElem_of_mem hw;obtain⟨c,hc⟩:∃c,C[i]?=some c:=⟨_,kb_ (by rw[<-h.1];exact hi)⟩;obtain⟨w',h1,h2⟩:=h.2 i c hc;rw[kb_ hi,e]at h1;cases h1;exact h2.scal X
theorem y4j_{ws:List AVal}(hx:SlV vRaw σ ws x)(hl:ws.length<=1000000)(hs:∀w∈ws,∀{R:Type} (X:Option R),A.scal w X=X):W (S.z147 x σ) fun r=>Hle σ r.2/\Acc vRaw σ.next r.2 ws r.1:=by
 unfold S.z147
 repeat' (with_reducible refine W.len (by assumption) ?_)
 refine W.mk0 vRaw (by omega) (by omega) fun y τ L hA=>?_;refine W.bind ?_;refine W.loop ws.length (fun i (z:AVal×Int) τ'=>z.2=(i:Int)/\Hle σ τ'/\Acc vRaw σ.next τ' (ws.take i) z.1) ⟨rfl,L,by simpa using hA⟩ fun i z τ' hi hI=>?_;obtain⟨z,j⟩:=z;obtain⟨rfl,L',hA⟩:=hI;dsimp only at hA⊢;have hx':=hx.mono L';unfold S.z147.b0
 repeat' (with_reducible refine W.len (by assumption) ?_)
 (with_reducible refine W.cnd (fun hc=>?_) (fun hc=>?_)<;>(try simp only[qq,Kd.ty]at hc)<;>(try (exfalso;omega)))
 ·obtain⟨w,hw⟩:∃w,ws[i]?=some w:=⟨_,kb_ (by omega)⟩
  refine W.ixV hx' hw ?_;refine W.to (hs w (ka_ hw) _) ?_;refine W.push (bytes:=24) hA L' (a:=w) (cs:=[w]) rfl (by simp;omega) (by simp;omega) fun x2 τ2 L2 hA2 _=>?_
  repeat' (with_reducible refine W.next ?_)
  refine⟨by omega,sk,L2,?_⟩;rw[kk_,hw];exact hA2
 ·repeat' with_reducible first|refine W.stop ?_|refine W.ret ?_
  rw[ki_ (by omega)]at hA;exact⟨L',hA⟩
theorem y3t_{c0:AVal}(h:Loc σ l [.int .i64 vars,c0])(hv:vars<=4000)(hx:SlV .int σ c x)(hl:c.length<=1000000000):W (S.z139 (.ptr l 0) x σ) fun r=>(r=true↔ye_ vars c):=by
 unfold S.z139
 repeat' (with_reducible refine W.bind ?_)
 refine W.loopP c.length (fun i y=>y=(i:Int)/\ye_ vars (c.take i)) ⟨rfl,by simp[ye_]⟩ fun i y hi hI=>?_;obtain⟨rfl,hI⟩:=hI;unfold S.z139.b0
 repeat' (with_reducible refine W.len (by assumption) ?_)
 (with_reducible refine W.cnd (fun hc=>?_) (fun hc=>?_)<;>(try simp only[qq,Kd.ty]at hc)<;>(try (exfalso;omega)))
 ·obtain⟨a,ha⟩:∃a,c[i]?=some a:=⟨_,kb_ (by omega)⟩
  repeat' with_reducible first|refine W.bind ?_|refine W.asI ?_|refine W.fldp ?_|refine W.e0 ?_|refine W.e2 ?_|refine W.nck ?_
  refine W.to (y48_ (by omega) (by omega)) ?_
  repeat' with_reducible refine W.ret ?_
  (with_reducible refine W.cnd (fun hq=>?_) (fun hq=>?_)<;>(try simp only[qq,Kd.ty]at hq)<;>(try (exfalso;omega)))
  ·repeat' with_reducible first|refine W.stopP ?_|refine W.ret ?_
   simp only[Bool.false_eq_true,false_iff];intro hR;have:=yh_.2 (hR a (ka_ ha));rw[this]at hq;cases hq
  ·repeat' (with_reducible refine W.nextP ?_)
   refine⟨by omega,sk,fun k hk=>?_⟩;rw[kk_,ha]at hk;rcases kh_.1 hk with hk|hk
   ·exact hI k hk
   ·have e:k=a:=by simpa using hk
    rw[e];exact yh_.1 hq
 ·repeat' with_reducible first|refine W.stopP ?_|refine W.ret ?_
  rw[ki_ (by omega)]at hI;simp[hI]
theorem yg3_(h:RB σ T l vars C)(hx:SlV .int (σ.at T 0) c x)(hin:c.all inB=true)(hcl:c.length<=1000000) :
  W (S.z138 (.ptr l 0) x σ) fun r=>Hle σ r.2/\r.1=match C.findIdx? (fun d=>decide (normL d=normL c)) with
   |some k=>(k:Int)
   |none => -1:=by
 obtain⟨⟨v,ws,hl,hv,hA⟩,ok,vl,cl,ll⟩:=h;have hC:=hA.at hv;unfold S.z138;refine W.bind ?_;refine W.loop C.length (fun i (y:Int) τ=>y=(i:Int)/\Hle σ τ/\∀j a,j<i->C[j]?=some a->decide (normL a=normL c)=false) ⟨rfl,Hle.refl _,upto0⟩ fun i y τ hi hI=>?_;obtain⟨rfl,L,hI⟩:=hI;have hl':=hl.hle L;have hC':=hC.hle L;have hx':=hx.hle L;unfold S.z138.b0
 repeat' with_reducible first|refine W.asV ?_|refine W.fldp ?_|refine W.len (by assumption) ?_|refine W.nck ?_|refine W.u0 ?_
 (with_reducible refine W.cnd (fun hc=>?_) (fun hc=>?_)<;>(try simp only[qq,Kd.ty]at hc)<;>(try (exfalso;omega)))
 ·repeat' with_reducible first|refine W.asV ?_|refine W.fldp ?_|refine W.nck ?_|refine W.u0 ?_
  refine W.ixLS hC' at_le (by omega) fun d w hd hw=>?_;have hmd:=ka_ hd;refine W.bind ?_;refine W.mono (yfb_ hw.up hx'.up (yeg_ vl (ok d hmd)) hin (by have:=ll d hmd;omega) hcl) fun r hr=>?_;obtain⟨b,τ2⟩:=r;obtain⟨L2,e⟩:=hr;dsimp only at L2 e⊢;subst e
  (with_reducible refine W.cnd (fun hq=>?_) (fun hq=>?_)<;>(try simp only[qq,Kd.ty]at hq)<;>(try (exfalso;omega)))
  ·repeat' with_reducible first|refine W.stop ?_|refine W.ret ?_
   rw[y45_ (p:=fun d=>decide (normL d=normL c)) (i:=i) hI hd (by simpa using hq)];exact⟨L.trans L2,rfl⟩
  ·repeat' (with_reducible refine W.next ?_)
   exact⟨by omega,sk,L.trans L2,upto (P:=fun _ a=>decide (normL a=normL c)=false) hI hd (by simpa using hq)⟩
 ·repeat' with_reducible first|refine W.stop ?_|refine W.ret ?_
  rw[y44_ (p:=fun d=>decide (normL d=normL c)) (i:=i) hI (by omega)];exact⟨L,rfl⟩
theorem yav_:∀{C:List (List Int)} {n:List Int} {k:Nat},C.findIdx? (fun d=>decide (normL d=n))=some k->(C.take k++C.drop (k+1)).map normL=(C.map normL).erase n/\n∈C.map normL
 |[],n,k,h=>by simp at h
 | d::t,n,k,h=>by
  rw[List.findIdx?_cons]at h;by_cases hd:normL d=n
  ·rw[decide_eq_true hd]at h
   simp at h;subst h;subst hd;simp
  ·rw[decide_eq_false hd]at h
   simp only[Bool.false_eq_true,if_false]at h;cases hf:t.findIdx? fun d=>decide (normL d=n) with
   |none=>rw[hf]at h;cases h
   |some j=>
    rw[hf]at h;simp at h;subst h;obtain⟨h1,h2⟩:=yav_ hf;refine⟨?_,by simp[h2]⟩;rw[List.take_succ_cons,List.drop_succ_cons,List.cons_append,List.map_cons,List.map_cons,h1,List.erase_cons_tail (by simpa using hd)]
theorem AllV.cutAt{ws:List AVal}(h:AllV σ T C ws)(k:Nat):AllV σ T (C.take k++C.drop (k+1)) (ws.take k++ws.drop (k+1)):=⟨by simp[h.1],fun i d hd=>by
 by_cases hlt:i<(C.take k).length
 ·rw[kg_ hlt]at hd
  have hlt2:i<(ws.take k).length:=by simp[h.1]at hlt⊢;omega
  rw[kg_ hlt2];have hik:i<k:=by simp at hlt;omega
  rw[ke_ hik]at hd⊢;exact h.2 i d hd
 ·rw[kl_ (by omega)]at hd
  have hle:(ws.take k).length=(C.take k).length:=by simp[h.1]
  rw[kl_ (by omega),hle];rw[List.getElem?_drop]at hd⊢;exact h.2 _ d hd⟩
theorem yfj_(h:RB σ T l vars C)(hn:Tn σ T)(hx:SlV .int (σ.at T 0) c x)(hin:c.all inB=true)(hcl:c.length<=1000000) :
  W (S.z136 (.ptr l 0) x σ) fun r=>(r.1=true↔normL c∈C.map normL)/\Hop (only 1) σ T r.2 T/\∃C',RB r.2 T l vars C'/\C'.map normL=(C.map normL).erase (normL c)/\C'.length<=C.length:=by
 have h0:=h;have hn0:=hn;unfold S.z136;refine W.bind ?_;refine W.mono (yg3_ h hx hin hcl) fun r hr=>?_;obtain⟨r,τ⟩:=r;obtain⟨L,hr⟩:=hr;dsimp only at L hr⊢;cases hf:C.findIdx? fun d=>decide (normL d=normL c) with
 | none=>
  rw[hf]at hr;dsimp only at hr;subst hr;have hnm:normL c∉C.map normL:=fun hm=>by
   obtain⟨d,hd,e⟩:=kq_.1 hm;rw[List.findIdx?_eq_none_iff]at hf;have:=hf d hd;simp[e]at this
  repeat' (first|(with_reducible refine W.ret ?_)|(with_reducible refine W.condT ?_ ?_;focus (first|(simp only[qq,Kd.ty];done)|(simp only[qq,Kd.ty];omega)|assumption)))
  exact⟨by simp[hnm],Hop.of hn L,C,h0.hle L,(List.erase_of_not_mem hnm).symm,Nat.le_refl _⟩
 | some k=>
  rw[hf]at hr;dsimp only at hr;subst hr;obtain⟨he,hmem⟩:=yav_ hf;have hk:k<C.length:=by
   rw[List.findIdx?_eq_some_iff_getElem]at hf;exact hf.1
  obtain⟨⟨v,ws,hl,hv,hA⟩,ok,vl,cl,ll⟩:=h;replace hl:=hl.hle L;replace hv:=hv.hle L;replace hA:=hA.hle L;replace hn:=hn.mono L;have hl1:=hl;have hA1:=hA;have hn1:=hn;have hwl:=hA.1;obtain⟨y1,e1,hy1⟩:=hv.slice (lo:=0) (hi:=k) (by omega) (by omega);obtain⟨y2,e2,hy2⟩:=hv.slice (lo:=k+1) (hi:=ws.length) (by omega) (Nat.le_refl _);rw[List.drop_zero]at hy1;rw[List.take_length]at hy2
  repeat' (first|(with_reducible (first|refine W.asV ?_|refine W.fldp ?_|refine W.nck ?_|refine W.u0 ?_))|(with_reducible refine W.condF ?_ ?_;focus (first|(simp only[qq,Kd.ty];done)|(simp only[qq,Kd.ty];omega)|assumption)))
  refine W.to ((e1 at_le _).1) ?_;refine W.bind ?_;refine W.mono (y4j_ hy1.up (by simp;omega) fun w hw=>hA1.scal w (kr_ hw)) fun r hr=>?_;obtain⟨z,τ2⟩:=r;obtain⟨L2,hZ⟩:=hr;dsimp only at L2 hZ⊢;replace hl:=hl.hle L2;replace hn:=hn.mono L2
  repeat' with_reducible first|refine W.asV ?_|refine W.fldp ?_|refine W.nck ?_|refine W.u0 ?_
  rw[sk];refine W.to ((e2 (Hle.trans at_le L2) _).2 rfl) ?_;refine W.app (σ0:=τ) (bytes:=24) hZ L2 (hy2.up.mono (hZ.out_le L2)) (by simp;omega) (by simp;omega) fun z3 τ3 L3 hZ3 _=>?_;replace hl:=hl1.hle L3;have hA:=hA1.hle L3;replace hn:=hn1.mono L3;have hZ3:=hZ3.at0F (T:=T) y2n_ fun k hk=>hn1.z k hk
  repeat' with_reducible first|refine W.fldp ?_|refine W.scalS (by assumption) ?_|refine W.nck ?_
  refine W.stT hl hn (kc_ (by rfl)) fun τ4 H4 hl hnτ4=>?_;replace hZ3:=hZ3.hop H4;replace hA:=hA.hop H4;replace hn:=H4.tn
  repeat' with_reducible refine W.ret ?_
  refine⟨by simp[hmem],(Hop.of hn0 (L.trans L3)).trans H4,_,⟨⟨_,_,hl,hZ3,hA.cutAt k⟩,fun d hd=>ok d ?_,vl,by simp;omega,fun d hd=>ll d ?_⟩,he,by simp;omega⟩
  ·rcases kh_.1 hd with hd|hd
   ·exact kr_ hd
   ·exact List.mem_of_mem_drop hd
  ·rcases kh_.1 hd with hd|hd
   ·exact kr_ hd
   ·exact List.mem_of_mem_drop hd
theorem yhc_(h:RB σ T l vars C)(hn:Tn σ T)(hx:SlV .int (σ.at T 0) c x)(hcl:c.length<=400000)(hsz:C.length<900000) :
  W (S.z134 (.ptr l 0) x σ) fun r=>(r.1=true↔ye_ vars c)/\Hop (only 1) σ T r.2 T/\(¬ye_ vars c->RB r.2 T l vars C)/\(ye_ vars c->RB r.2 T l vars (C++[c])):=by
 have h0:=h;obtain⟨⟨v,ws,hl,hv,hA⟩,ok,vl,cl,ll⟩:=h;unfold S.z134;refine W.bind ?_;refine W.mono (y3t_ hl.up vl hx.up (by omega)) fun b hb=>?_;by_cases hR:ye_ vars c
 ·rw[hb.2 hR]
  refine W.condF rfl ?_;have hl1:=hl;have hA1:=hA;have hn1:=hn;have hwl:=hA.1
  repeat' with_reducible first|refine W.bind ?_|refine W.asV ?_|refine W.fldp ?_|refine W.nck ?_|refine W.u0 ?_
  refine W.mono (y4j_ hv.up (by omega) hA1.scal) fun r hr=>?_;obtain⟨z,τ2⟩:=r;obtain⟨L2,hZ⟩:=hr;dsimp only at L2 hZ⊢
  repeat' (with_reducible refine W.bind ?_)
  refine W.mono (ybq_ (hx.up.mono L2) (by omega)) fun r hr=>?_;obtain⟨u,τ3⟩:=r;obtain⟨hU,L3⟩:=hr;dsimp only at hU L3⊢;have L23:=L2.trans L3;have hU0:=hU.at0 (T:=T) fun k hk=>(hn1.mono L2).z k hk;refine W.to (hU.sl.scal _) ?_;have hZ3:=hZ.mono L3;refine W.push (σ0:=σ) (bytes:=24) hZ3 L23 (a:=u) (cs:=[u]) rfl (by omega) (by omega) fun z4 τ4 L4 hZ4 hout=>?_;have hu1:SlV .int (A.out τ3 z) c u:=hU.sl_out Vw.int_flat hZ (Nat.le_refl _);have hu2:SlV .int τ4 c u:=(hu1.mono hout).mono (Hle.out _ _);have hu3:SlV .int (τ4.at T 0) c u:=Fresh.at0 (n0:=σ.next) ⟨hu2,fun l off len cc e=>Nat.le_trans L2.next (hU.loc l off len cc e).1⟩ fun k hk=>hn1.z k hk;replace hl:=hl1.hle L4;replace hA:=hA1.hle L4;replace hn:=hn1.mono L4;have hZ4:=hZ4.at0F (T:=T) y2n_ fun k hk=>hn1.z k hk
  repeat' with_reducible first|refine W.fldp ?_|refine W.scalS (by assumption) ?_|refine W.nck ?_
  refine W.stT hl hn (kc_ (by rfl)) fun τ5 H5 hl hnτ5=>?_;replace hZ4:=hZ4.hop H5;replace hA:=hA.hop H5;replace hu3:=hu3.hop H5;replace hn:=H5.tn
  repeat' with_reducible refine W.ret ?_
  refine⟨by simp[hR],(Hop.of hn1 L4).trans H5,fun h=>absurd hR h,fun _=>⟨⟨_,_,hl,hZ4,hA.snoc hu3⟩,fun d hd=>?_,vl,by simp;omega,fun d hd=>?_⟩⟩
  ·rcases kh_.1 hd with hd|hd
   ·exact ok d hd
   ·rw[kj_.1 hd];exact hR
  ·rcases kh_.1 hd with hd|hd
   ·exact ll d hd
   ·rw[kj_.1 hd];exact hcl
 ·have:b=false:=by
   cases b
   ·rfl
   ·exact absurd (hb.1 rfl) hR
  subst this;refine W.condT rfl ?_
  repeat' with_reducible refine W.ret ?_
  exact⟨by simp[hR],Hop.refl hn,fun _=>h0,fun h=>absurd h hR⟩
theorem y2s_(h:RB σ T l vars C)(hx:SlV .int (σ.at T 0) c x)(hcl:c.length<=1000000) :
  W (S.z137 (.ptr l 0) x σ) fun r=>r.1=impl vars (C.map normL) c/\Hle σ r.2:=by
 obtain⟨⟨v,ws,hl,hv,hA⟩,ok,vl,cl,ll⟩:=h;have hC:=hA.at hv;unfold S.z137;refine W.bind ?_;refine W.mono (y3t_ hl.up vl hx.up (by omega)) fun b hb=>?_;by_cases hR:ye_ vars c
 ·rw[hb.2 hR]
  refine W.condF rfl ?_;have hx':=hx.up;refine W.call (P:=fun r=>Hle σ r.2/\Acc .int σ.next r.2 (negs c) r.1) ?_ fun r hr=>?_
  ·refine W.loop c.length (fun i (y:AVal×Int) τ'=>y.2=(i:Int)/\Hle σ τ'/\Acc .int σ.next τ' (negs (c.take i)) y.1) ⟨rfl,Hle.refl _,Acc.nil _ _ _⟩ fun i y τ' hi hI=>?_
   obtain⟨y,j⟩:=y;obtain⟨rfl,L3,hA⟩:=hI;dsimp only at hA⊢;have hx2:=hx'.mono L3;unfold S.z137.b0
   repeat' (with_reducible refine W.len (by assumption) ?_)
   (with_reducible refine W.cnd (fun hc=>?_) (fun hc=>?_)<;>(try simp only[qq,Kd.ty]at hc)<;>(try (exfalso;omega)))
   ·obtain⟨a,ha⟩:∃a,c[i]?=some a:=⟨_,kb_ (by omega)⟩
    have hb2:=hR a (ka_ ha)
    repeat' (with_reducible refine W.e2 ?_)
    have w:IntKind.i64.wrap (0-a) = -a:=by rw[wrapS]<;>omega
    rw[w];refine W.pushI hA L3 (by simp;omega) (by simp;omega) fun y' τ4 L4 hA4 _=>?_
    repeat' (with_reducible refine W.next ?_)
    refine⟨by omega,sk,L4,?_⟩;have:c.take (i+1)=c.take i++[a]:=by rw[kk_,ha];rfl
    rw[this];simpa[negs]using hA4
   ·repeat' (with_reducible refine W.stop ?_)
    rw[ki_ (by omega)]at hA;exact⟨L3,hA⟩
  ·obtain⟨y,τ3⟩:=r
   obtain⟨L3,hA3⟩:=hr;dsimp only at L3 hA3⊢;replace hl:=hl.hle L3;replace hC:=hC.hle L3
   repeat' with_reducible first|refine W.bind ?_|refine W.asI ?_|refine W.asV ?_|refine W.fldp ?_|refine W.nck ?_|refine W.u0 ?_
   refine W.mono (ybn_ vl hC.up hA3.sl ok (by omega) (fun c hc=>by have:=ll c hc;omega) (fun k hk=>?_) (by simpa using hcl)) fun r hr=>?_
   ·obtain⟨a,ha,rfl⟩:=kq_.1 hk
    have:=hR a ha;omega
   obtain⟨⟨v,b⟩,τ4⟩:=r;obtain⟨hb,L4⟩:=hr;dsimp only at hb L4⊢
   repeat' with_reducible refine W.ret ?_
   refine⟨?_,L3.trans L4⟩;rw[Bool.eq_iff_iff,y2k_,yer_ (C:=C) (fun l=>Iff.rfl)];by_cases hc:Conf C (negs c)
   ·have:b≠true:=fun e=>hb.1 e hc
    simp[hc,hR,this]
   ·have:b=true:=hb.2 hc
    simp[hc,this]
 ·have:b=false:=by
   cases b
   ·rfl
   ·exact absurd (hb.1 rfl) hR
  subst this;refine W.condT rfl ?_
  repeat' with_reducible refine W.ret ?_
  refine⟨?_,Hle.refl _⟩;rw[Bool.eq_iff_iff,y2k_];simp[hR]
theorem yc1_(h:RB σ T l vars C)(hx:SlV .int (σ.at T 0) c x)(hcl:c.length<=400000)(hn:Tn σ T) :
  W (S.z135 (.ptr l 0) x σ) fun r=>r.1=y26_ vars (C.map normL) c/\Hle σ r.2:=by
 unfold S.z135;refine W.bind ?_;refine W.mono (y2s_ h hx (by omega)) fun r hr=>?_;obtain⟨b,τ⟩:=r;obtain⟨hb,L⟩:=hr;dsimp only at hb L⊢;subst hb;replace h:=h.hle L;replace hx:=hx.hle L;replace hn:=hn.mono L
 (with_reducible refine W.cnd (fun hq=>?_) (fun hq=>?_)<;>(try simp only[qq,Kd.ty]at hq)<;>(try (exfalso;omega)))
 ·repeat' with_reducible refine W.ret ?_
  exact⟨by unfold y26_;rw[hq];rfl,L⟩
 obtain⟨⟨v,ws,hl,hv,hA⟩,ok,vl,cl,ll⟩:=(show _/\_/\_/\_/\_ from⟨h.ex,h.ok,h.vl,h.cl,h.ll⟩);have hC:=hA.at hv
 repeat' with_reducible first|refine W.bind ?_|refine W.len (by assumption) ?_
 cases hcc:c with
 |nil=>
  refine W.condT rfl ?_
  repeat' with_reducible refine W.ret ?_
  refine W.condT rfl ?_
  repeat' with_reducible refine W.ret ?_
  exact⟨by rw[y50_,<-hcc,hq],L⟩
 | cons p t=>
  rw[<-hcc];refine W.condF (by rw[hcc];simp;omega) ?_
  repeat' (with_reducible refine W.bind ?_)
  refine W.mono (y3t_ hl.up vl hx.up (by omega)) fun b hb=>?_;by_cases hR:ye_ vars c
  ·rw[hb.2 hR]
   repeat' with_reducible refine W.ret ?_
   refine W.condF rfl ?_;have hp:=hR p (by rw[hcc];simp);refine W.ixI hx.up (i:=0) (a:=p) (by rw[hcc];rfl) (by omega) ?_;have w:IntKind.i64.wrap (0-p) = -p:=by rw[wrapS]<;>omega
   refine W.bind ?_;have hbv:y26_ vars (C.map normL) c=true↔∀d∈C,-p∈d->impl vars (C.map normL) (c++d.filter fun x => !(x == -p))=true:=by
    rw[hcc,y3d_,<-hcc,hq];simp only[Bool.false_eq_true,false_or,hR,true_and];constructor
    ·intro k d hd hpd
     have:=k (normL d) (List.mem_map_of_mem hd) (y8_.2 hpd)
     rwa [yb5_ (d:=c++d.filter fun x => !x == -p) fun l=>by simp only[List.mem_append,List.mem_filter,y8_]]at this
    ·intro k d hd hpd
     obtain⟨e,he,rfl⟩:=kq_.1 hd;rw[yb5_ (d:=c++e.filter fun x => !x == -p) fun l=>by simp only[List.mem_append,List.mem_filter,y8_]];exact k e he (y8_.1 hpd)
   have h0:=h;have hx0:=hx;refine W.loop C.length (fun i (y:Int) τ'=>y=(i:Int)/\Hle τ τ'/\∀d∈C.take i,-p∈d->impl vars (C.map normL) (c++d.filter fun x => !(x == -p))=true) ⟨rfl,Hle.refl _,by simp⟩ fun i y τ' hi hI=>?_;obtain⟨rfl,L',hk⟩:=hI;have h:=h0.hle L';have hx:=hx0.hle L';have hl:=hl.hle L';have hC:=hC.hle L';unfold S.z135.b1
   repeat' with_reducible first|refine W.asV ?_|refine W.fldp ?_|refine W.len (by assumption) ?_|refine W.nck ?_|refine W.u0 ?_
   (with_reducible refine W.cnd (fun hc=>?_) (fun hc=>?_)<;>(try simp only[qq,Kd.ty]at hc)<;>(try (exfalso;omega)))
   ·obtain⟨d,hd⟩:∃d,C[i]?=some d:=⟨_,kb_ (by omega)⟩
    have hmd:=ka_ hd;have ht:C.take (i+1)=C.take i++[d]:=by rw[kk_,hd];rfl
    repeat' with_reducible first|refine W.bind ?_|refine W.asV ?_|refine W.fldp ?_|refine W.nck ?_|refine W.u0 ?_
    refine W.ixkLS hC at_le hd fun u hu=>?_;rw[w]
    repeat' (with_reducible refine W.bind ?_)
    refine W.to (y9g_ hu.up (by have:=ll d hmd;omega)) ?_
    repeat' with_reducible refine W.ret ?_
    (with_reducible refine W.cnd (fun hhas=>?_) (fun hhas=>?_)<;>(try simp only[qq,Kd.ty]at hhas)<;>(try (exfalso;omega)))
    ·repeat' with_reducible first|refine W.next ?_|refine W.ret ?_
     refine⟨by omega,sk,L',fun e he hpe=>?_⟩;rw[ht]at he;rcases kh_.1 he with he|he
     ·exact hk e he hpe
     ·rw[kj_.1 he]at hpe;exact absurd hpe hhas
    ·repeat' (with_reducible refine W.bind ?_)
     refine W.mono (ybq_ hx.up (by omega)) fun r hr=>?_;obtain⟨z,τ2⟩:=r;obtain⟨hZ,L2⟩:=hr;dsimp only at hZ L2⊢
     repeat' (with_reducible refine W.bind ?_)
     refine W.mono (P:=fun r=>Hle τ' r.2/\Acc .int τ'.next r.2 (c++d.filter fun x => !(x == -p)) r.1) ?_ fun r hr=>?_
     ·refine W.loop d.length (fun m (y:AVal×Int) τ3=>y.2=(m:Int)/\Hle τ' τ3/\Acc .int τ'.next τ3 (c++(d.take m).filter fun x => !(x == -p)) y.1) ⟨rfl,L2,by simpa using hZ⟩ fun m y τ3 hm hJ=>?_
      obtain⟨y,j⟩:=y;obtain⟨rfl,L3,hA3⟩:=hJ;dsimp only at hA3⊢;have hl3:=hl.hle L3;have hC3:=hC.hle L3;have hu3:=hu.hle L3;have hdl:=ll d hmd;have hfl:((d.take m).filter fun x => !(x == -p)).length<=400000:=Nat.le_trans (List.length_filter_le ..) (by have:=ll d hmd;simp;omega);unfold S.z135.b0
      repeat' with_reducible first|refine W.asV ?_|refine W.fldp ?_|refine W.nck ?_|refine W.u0 ?_
      refine W.ixkLS hC3 at_le hd fun u3 hu3=>?_
      repeat' (with_reducible refine W.len (by assumption) ?_)
      (with_reducible refine W.cnd (fun hlt=>?_) (fun hlt=>?_)<;>(try simp only[qq,Kd.ty]at hlt)<;>(try (exfalso;omega)))
      ·obtain⟨a,ha⟩:∃a,d[m]?=some a:=⟨_,kb_ (by omega)⟩
       have htm:d.take (m+1)=d.take m++[a]:=by rw[kk_,ha];rfl
       repeat' with_reducible first|refine W.bind ?_|refine W.asV ?_|refine W.fldp ?_|refine W.nck ?_|refine W.u0 ?_
       refine W.ixkLS hC3 at_le hd fun u4 hu4=>?_
       repeat' (with_reducible refine W.ixIc (SlV.up (by assumption)) (by assumption) ?_)
       rw[w]
       (with_reducible refine W.cnd (fun hne=>?_) (fun hne=>?_)<;>(try simp only[qq,Kd.ty]at hne)<;>(try (exfalso;omega)))
       ·repeat' with_reducible first|refine W.asV ?_|refine W.fldp ?_|refine W.nck ?_|refine W.u0 ?_
        refine W.ixkLS hC3 at_le hd fun u5 hu5=>?_
        repeat' (with_reducible refine W.ixIc (SlV.up (by assumption)) (by assumption) ?_)
        refine W.pushI hA3 L3 (by simp;omega) (by simp;omega) fun y4 τ4 L4 hA4 _=>?_
        repeat' with_reducible first|refine W.next ?_|refine W.ret ?_
        refine⟨by omega,sk,L4,?_⟩;rw[htm,List.filter_append,<-kn_];have:[a].filter (fun x => !(x == -p))=[a]:=by simp[hne]
        rw[this];exact hA4
       ·repeat' with_reducible first|refine W.next ?_|refine W.ret ?_
        refine⟨by omega,sk,L3,?_⟩;rw[htm,List.filter_append];have:[a].filter (fun x => !(x == -p))=[]:=by simp[hne]
        rw[this,List.append_nil];exact hA3
      ·repeat' (with_reducible refine W.stop ?_)
       rw[ki_ (by omega)]at hA3;exact⟨L3,hA3⟩
     ·obtain⟨z2,τ3⟩:=r
      obtain⟨L3,hZ2⟩:=hr;dsimp only at L3 hZ2⊢;have hn3:Tn τ' T:=hn.mono L';have hz0:=hZ2.at0 (T:=T) fun k hk=>hn3.z k hk;have hfl:(d.filter fun x => !(x == -p)).length<=400000:=Nat.le_trans (List.length_filter_le ..) (ll d hmd)
      repeat' (with_reducible refine W.bind ?_)
      refine W.mono (y2s_ (h.hle L3) hz0 (by rw[List.length_append];omega)) fun r hr=>?_;obtain⟨b,τ4⟩:=r;obtain⟨hb,L4⟩:=hr;dsimp only at hb L4⊢;subst hb
      (with_reducible refine W.cnd (fun hi2=>?_) (fun hi2=>?_)<;>(try simp only[qq,Kd.ty]at hi2)<;>(try (exfalso;omega)))
      ·repeat' with_reducible first|refine W.stop ?_|refine W.ret ?_
       refine⟨?_,L.trans (L'.trans (L3.trans L4))⟩;rw[Bool.eq_iff_iff,hbv];simp only[Bool.false_eq_true,false_iff];intro hall;have:=hall d hmd hhas;rw[this]at hi2;cases hi2
      ·repeat' with_reducible first|refine W.next ?_|refine W.ret ?_
       refine⟨by omega,sk,L'.trans (L3.trans L4),fun e he hpe=>?_⟩;rw[ht]at he;rcases kh_.1 he with he|he
       ·exact hk e he hpe
       ·rw[kj_.1 he];exact hi2
   ·repeat' with_reducible first|refine W.stop ?_|refine W.ret ?_
    rw[ki_ (by omega)]at hk;refine⟨?_,L.trans L'⟩;rw[Bool.eq_iff_iff,hbv];simp only[true_iff];exact hk
  ·have hb2:b=false:=by
    cases b
    ·rfl
    ·exact absurd (hb.1 rfl) hR
   subst hb2
   repeat' with_reducible refine W.ret ?_
   refine W.condT rfl ?_
   repeat' with_reducible refine W.ret ?_
   refine⟨?_,L⟩;rw[Bool.eq_iff_iff,hcc,y3d_,<-hcc,hq];simp[hR]
end
end
section
open Go
theorem y4s_(f:Er×Option Int):∃a p x,yu_ (some f)=[.int .i64 a,.bool p,.int .i64 x]/\a≠0:=by
 match f with
 |(e,none)=>exact⟨_,_,_,rfl,e.code_ne⟩
 |(e,some pos)=>exact⟨_,_,_,rfl,e.code_ne⟩
section
variable{σ:Heap}{vars:Int}{cs:List (List Int)}{ss:List (Bool×List Int)}{x y:AVal}
theorem yb2_(hy:SlV vB σ ss y)(hs:∀s∈ss,s.2.length<=1000000000/\∀x∈s.2,-4000<=x/\x<=4000)(hl:ss.length<=1000000000) :
  W (S.z143 (.agg [.int .i64 vars,x]) y σ) fun r=>r.1=yb_ vars ss/\Hle σ r.2:=by
 unfold S.z143
 repeat' (with_reducible refine W.e3 ?_)
 refine W.new fun lc τ hlc L h hnτ=>?_;have hy:=hy.mono L
 repeat' with_reducible first|refine W.bind ?_|refine W.asI ?_|refine W.e0 ?_
 refine W.mono (P:=fun r=>r=yb_ vars ss) ?_ fun r hr=>?_
 ·refine W.loopP ss.length (fun i (z:Int×Int)=>z=(yb_ vars (ss.take i),(i:Int))) rfl fun i z hi hI=>?_
  subst hI;unfold S.z143.b1;dsimp only
  repeat' (with_reducible refine W.len (by assumption) ?_)
  (with_reducible refine W.cnd (fun hc=>?_) (fun hc=>?_)<;>(try simp only[qq,Kd.ty]at hc)<;>(try (exfalso;omega)))
  ·obtain⟨s,hsi⟩:∃s,ss[i]?=some s:=⟨_,kb_ (by omega)⟩
   obtain⟨hsl,hsx⟩:=hs s (ka_ hsi)
   repeat' (with_reducible refine W.bind ?_)
   refine W.mono (P:=fun r=>r=maxV (yb_ vars (ss.take i)) s.2) ?_ fun r hr=>?_
   ·refine W.loopP s.2.length (fun j (z:Int×Int)=>z=(maxV (yb_ vars (ss.take i)) (s.2.take j),(j:Int))) rfl fun j z hj hI=>?_
    subst hI;unfold S.z143.b0;dsimp only;refine W.ixkc hy hsi fun p us hp hr=>?_;obtain⟨w,rfl,hw⟩:=y2d_ hr
    repeat' with_reducible first|refine W.asV ?_|refine W.len (by assumption) ?_|refine W.fldld (by assumption) (by with_unfolding_all rfl) ?_
    (with_reducible refine W.cnd (fun hq=>?_) (fun hq=>?_)<;>(try simp only[qq,Kd.ty]at hq)<;>(try (exfalso;omega)))
    ·obtain⟨a,ha⟩:∃a,s.2[j]?=some a:=⟨_,kb_ (by omega)⟩
     have:=hsx a (ka_ ha);refine W.ixkc hy hsi fun p us hp hr=>?_;obtain⟨w,rfl,hw⟩:=y2d_ hr
     repeat' with_reducible first|refine W.bind ?_|refine W.asV ?_|refine W.fldld (by assumption) (by with_unfolding_all rfl) ?_|refine W.e2 ?_
     refine W.to (y97_ ⟨by omega,by omega⟩) ?_
     repeat' with_reducible first|refine W.nextP ?_|refine W.ret ?_
     refine⟨by omega,?_⟩;have ht:s.2.take (j+1)=s.2.take j++[a]:=by rw[kk_,ha];rfl
     rw[ht,yfc_,sk]
    ·repeat' (with_reducible refine W.stopP ?_)
     rw[ki_ (l:=s.2) (by omega)]
   ·subst hr
    repeat' (with_reducible refine W.nextP ?_)
    have ht:ss.take (i+1)=ss.take i++[s]:=by rw[kk_,hsi];rfl
    refine⟨by omega,?_⟩;rw[ht,yb3_,sk]
  ·repeat' (with_reducible refine W.stopP ?_)
   rw[ki_ (by omega)]
 ·subst hr
  repeat' with_reducible refine W.ret ?_
  exact⟨rfl,L⟩
theorem ycf_(hy:SlV vB σ ss y)(hb:(yk_ ss).flatten.length<=1000000000)(hl:ss.length<=1000000000) :
  W (S.z140 y σ) fun r=>r.1=.agg (yu_ (chkP ss))/\Hle σ r.2:=by
 have hll:(yk_ ss).length=ss.length:=by simp[yk_]
 have hn:Tn σ Tz:=Tn.tz;have hy:SlV vB (σ.at Tz 0) ss y:=by rw[at_tz];exact hy
 have HH:Hop stI σ Tz σ Tz:=Hop.refl hn;unfold S.z140;refine W.newT 14 hn fun lb τ T hlb H h hnτ=>?_;replace hy:=hy.hop H;replace HH:=HH.hop H;replace hn:=H.tn;have hyu:=hy.up;refine W.bind ?_;refine W.mono (P:=fun r=>r=((yk_ ss).flatten.length:Int)) ?_ fun r hr=>?_
 ·refine W.loopP ss.length (fun i (z:Int×Int)=>z=((((yk_ ss).take i).flatten.length:Int),(i:Int))) (by simp) fun i z hi hI=>?_
  subst hI;unfold S.z140.b0;dsimp only
  repeat' (with_reducible refine W.len (by assumption) ?_)
  (with_reducible refine W.cnd (fun hc=>?_) (fun hc=>?_)<;>(try simp only[qq,Kd.ty]at hc)<;>(try (exfalso;omega)))
  ·obtain⟨s,hsi⟩:∃s,ss[i]?=some s:=⟨_,kb_ (by omega)⟩
   have hz:(yk_ ss)[i]?=some s.2:=by unfold yk_;rw[List.getElem?_map,hsi];rfl
   refine W.ixkc hyu hsi fun p us hp hr=>?_;obtain⟨w,rfl,hw⟩:=y2d_ hr
   repeat' with_reducible first|refine W.nextP ?_|refine W.asV ?_|refine W.len (by assumption) ?_|refine W.fldld (by assumption) (by with_unfolding_all rfl) ?_
   have h1:=y1i_ (yk_ ss) (i+1);rw[y1j_ hz,List.length_append]at h1;have:i<ss.length:=by omega
   refine⟨this,?_⟩;rw[y1j_ hz,List.length_append,sk]
   congr 1
   rw[wrapS]<;>omega
  ·repeat' (with_reducible refine W.stopP ?_)
   rw[ki_ (by omega)]
 ·subst hr
  (with_reducible refine W.cnd (fun hq=>?_) (fun hq=>?_)<;>(try simp only[qq,Kd.ty]at hq)<;>(try (exfalso;omega)))
  ·refine W.bind ?_
   refine W.mono ybk_ fun r hr=>?_;obtain⟨v,τ2⟩:=r;obtain⟨e,L2⟩:=hr;dsimp only at e L2⊢;subst e;replace h:=h.hle L2;replace HH:=HH.hle L2;replace hn:=hn.mono L2
   repeat' (with_reducible refine W.e3 ?_)
   refine W.stT h hn (kc_ (by rfl)) fun τ3 H3 h hnτ3=>?_;replace HH:=HH.hop H3
   repeat' with_reducible first|refine W.ret ?_|refine W.u1 ?_
   have e:chkP ss=some (.limit,none):=if_pos (by omega);rw[e];exact⟨rfl,y22_ HH⟩
  ·have e:chkP ss=((yk_ ss).findIdx? (badC 4000)).map fun k=>(.range,some (k:Int)):=if_neg (by omega)
   rw[e];refine W.bind ?_;refine W.loop ss.length (fun i (z:Int) τ'=>z=(i:Int)/\τ=τ'/\∀j a,j<i->(yk_ ss)[j]?=some a->badC 4000 a=false) ⟨rfl,rfl,upto0⟩ fun i z τ' hi hI=>?_;obtain⟨rfl,rfl,hI⟩:=hI;unfold S.z140.b2
   repeat' (with_reducible refine W.len (by assumption) ?_)
   (with_reducible refine W.cnd (fun hlt=>?_) (fun hlt=>?_)<;>(try simp only[qq,Kd.ty]at hlt)<;>(try (exfalso;omega)))
   ·obtain⟨s,hsi⟩:∃s,ss[i]?=some s:=⟨_,kb_ (by omega)⟩
    have hz:(yk_ ss)[i]?=some s.2:=by unfold yk_;rw[List.getElem?_map,hsi];rfl
    have hsl:s.2.length<=1000000000:=by have:=y5y_ (ka_ hsi);omega
    repeat' (with_reducible refine W.bind ?_)
    refine W.mono (P:=fun r=>(badC 4000 s.2=false/\r=(.inl (),τ))\/(badC 4000 s.2=true/\r.1=.inr ()/\∃T',Hop stI σ Tz r.2 T'/\Loc (r.2.at T' 14) lb (yu_ (some (.range,some (i:Int)))))) ?_ fun r hr=>?_
    ·refine W.loop s.2.length (fun k (z:Int) τ'=>z=(k:Int)/\τ=τ'/\∀l∈s.2.take k,isL l 4000=true) ⟨rfl,rfl,by simp⟩ fun k z τ' hk hJ=>?_
     obtain⟨rfl,rfl,hJ⟩:=hJ;unfold S.z140.b1;refine W.ixkc hyu hsi fun p us hp hr=>?_;obtain⟨w,rfl,hw⟩:=y2d_ hr
     repeat' with_reducible first|refine W.asV ?_|refine W.len (by assumption) ?_|refine W.fldld (by assumption) (by with_unfolding_all rfl) ?_
     (with_reducible refine W.cnd (fun hlt2=>?_) (fun hlt2=>?_)<;>(try simp only[qq,Kd.ty]at hlt2)<;>(try (exfalso;omega)))
     ·obtain⟨a,ha⟩:∃a,s.2[k]?=some a:=⟨_,kb_ (by omega)⟩
      refine W.ixkc hyu hsi fun p us hp hr=>?_;obtain⟨w,rfl,hw⟩:=y2d_ hr
      repeat' with_reducible first|refine W.bind ?_|refine W.asV ?_|refine W.fldld (by assumption) (by with_unfolding_all rfl) ?_|refine W.e2 ?_
      refine W.to (y48_ (by omega) (by omega)) ?_
      repeat' with_reducible refine W.ret ?_
      (with_reducible refine W.cnd (fun hbad=>?_) (fun hbad=>?_)<;>(try simp only[qq,Kd.ty]at hbad)<;>(try (exfalso;omega)))
      ·refine W.bind ?_
       refine W.mono (y7p_ (by decide)) fun r hr=>?_;obtain⟨v,τ2⟩:=r;obtain⟨e,L2⟩:=hr;dsimp only at e L2⊢;subst e;have h2:=h.hle L2;have HH2:=HH.hle L2;have hn:=HH2.tn
       repeat' (with_reducible refine W.e3 ?_)
       refine W.stT h2 hn (kc_ (by rfl)) fun τ3 H3 h2 hnτ3=>?_;replace HH2:=HH2.hop H3
       repeat' (with_reducible refine W.stop ?_)
       refine .inr ⟨?_,rfl,T,HH2,h2⟩;unfold badC;rw[List.any_eq_true];exact⟨a,ka_ ha,by simpa using hbad⟩
      ·repeat' (with_reducible refine W.next ?_)
       refine⟨by omega,sk,rfl,fun l hl=>?_⟩;rw[kk_,ha]at hl;rcases kh_.1 hl with h|h
       ·exact hJ l h
       ·have:l=a:=by simpa using h
        rw[this];exact hbad
     ·repeat' (with_reducible refine W.stop ?_)
      rw[ki_ (by omega)]at hJ;refine .inl ⟨?_,rfl⟩;unfold badC;rw[List.any_eq_false];intro l hl;simp[hJ l hl]
    ·rcases hr with ⟨hb,rfl⟩|⟨hb,e,T',HH2,h2⟩
     ·repeat' (with_reducible refine W.next ?_)
      exact⟨by omega,sk,rfl,upto (P:=fun _ a=>badC 4000 a=false) hI hz hb⟩
     ·obtain⟨r,τ3⟩:=r
      dsimp only at e HH2 h2⊢;subst e;rw[y45_ (p:=badC 4000) (i:=i) hI hz hb]
      repeat' with_reducible first|refine W.stop ?_|refine W.ret ?_|refine W.u1 ?_
      exact⟨rfl,y22_ HH2⟩
   ·repeat' with_reducible first|refine W.stop ?_|refine W.bind ?_
    rw[y44_ (p:=badC 4000) (i:=i) hI (by omega)];refine W.mono ybm_ fun r hr=>?_;obtain⟨v,τ2⟩:=r;obtain⟨e,L2⟩:=hr;dsimp only at e L2⊢;subst e;replace h:=h.hle L2;replace HH:=HH.hle L2;replace hn:=hn.mono L2
    repeat' (with_reducible refine W.e3 ?_)
    refine W.stT h hn (kc_ (by rfl)) fun τ3 H3 h hnτ3=>?_;replace HH:=HH.hop H3
    repeat' with_reducible first|refine W.ret ?_|refine W.u1 ?_
    exact⟨rfl,y22_ HH⟩
theorem yk2_(h:SlV vIs σ cs x):∃ws,SlV vRaw σ ws x/\ws.length=cs.length/\∀(i:Nat) (c:List Int),cs[i]?=some c->∃w,ws[i]?=some w/\SlV .int σ c w:=by
 rcases h with ⟨rfl,rfl⟩|⟨l,off,c,md,us,rfl,h2,h3,h4,h5⟩
 ·exact⟨[],.inl ⟨rfl,rfl⟩,rfl,fun i c hc=>by simp at hc⟩
 ·have h4':(off+cs.length)*1<=us.length:=h4
  have hlen:((us.drop off).take cs.length).length=cs.length:=by simp;omega
  have hget:∀(i:Nat) (w:AVal),((us.drop off).take cs.length)[i]?=some w->(us.drop ((off+i)*1)).take 1=[w]:=fun i w hw=>by
   have hi:=(kf_.1 hw).1;rw[hlen]at hi;rw[ke_ hi,List.getElem?_drop]at hw;obtain⟨h8,h9⟩:=kf_.1 hw;rw[Nat.mul_one,List.drop_eq_getElem_cons h8,h9];rfl
  refine⟨(us.drop off).take cs.length,.inr ⟨l,off,c,md,us,by rw[hlen],h2,h3,by rw[hlen];exact h4,fun i w hw=>hget i w hw⟩,hlen,fun i c hc=>?_⟩;obtain⟨w,e,hw⟩:=h5 i c hc;refine⟨w,?_,hw⟩;have hi:=(kf_.1 hc).1;obtain⟨w',hw'⟩:∃w',((us.drop off).take cs.length)[i]?=some w':=⟨_,kb_ (by rw[hlen];exact hi)⟩;have e2:=hget i w' hw';have e:(us.drop ((off+i)*1)).take 1=[w]:=e;rw[e]at e2;cases e2;exact hw'
theorem yb8_{T:Tg}{l lf V:Nat}{C:List (List Int)}{bl:Bool}{f0:List AVal}(h:RB σ T l V C)(hn:Tn σ T)(hf:Loc (σ.at T 14) lf f0)(hf3:f0.length=3)(hy:SlV vB (σ.at T 0) ss y)(hR:∀s∈ss,s.2.length<=400000/\s.2.all inB=true)(hsz:C.length+ss.length<=800000) :
  W (loopW (S.z144.b0 y bl (.ptr lf 0) (.ptr l 0)) 0 σ) fun r=>Hop (fun j=>j==1||j==14) σ T r.2 T/\match runD bl V 0 (C.map normL) ss with
   | .inl k=>r.1=.inr .nilp/\Loc (r.2.at T 14) lf (yu_ (some (.proof,some (k:Int))))
   | .inr D=>r.1=.inl ()/\Loc (r.2.at T 14) lf f0/\∃C',RB r.2 T l V C'/\C'.map normL=D:=by
 have HH:Hop (fun j=>j==1||j==14) σ T σ T:=Hop.refl hn;have hy0:=hy;refine W.loop ss.length (fun i (z:Int) τ=>z=(i:Int)/\Hop (fun j=>j==1||j==14) σ T τ T/\Loc (τ.at T 14) lf f0/\∃C',RB τ T l V C'/\C'.length<=C.length+i/\runD bl V 0 (C.map normL) ss=runD bl V i (C'.map normL) (ss.drop i)) ⟨rfl,HH,hf,C,h,by omega,rfl⟩ fun i z τ hi hI=>?_;obtain⟨rfl,HH,hf,C',h,hcl,hrun⟩:=hI;replace hn:=HH.tn;replace hy:=hy0.hop HH;have hyu:=hy.up;have finE:∀(τ:Heap),Hop (fun j=>j==1||j==14) σ T τ T->Loc (τ.at T 14) lf f0->W ((S.z151 106 (i:Int) τ).bind fun r60=>aggK r60.1 3 fun cs61=>stC r60.2 (.ptr lf 0) cs61 fun σ62=>some ((Sum.inr AVal.nilp:Unit⊕AVal),σ62)) fun r=>r.1=.inr .nilp/\Hop (fun j=>j==1||j==14) σ T r.2 T/\Loc (r.2.at T 14) lf (yu_ (some (.proof,some (i:Int)))):=fun τ HH hf=>by
  refine W.bind ?_;refine W.mono (y7p_ (by decide)) fun r hr=>?_;obtain⟨v,τ2⟩:=r;obtain⟨e,L2⟩:=hr;dsimp only at e L2⊢;subst e;have hn:=HH.tn;replace hf:=hf.hle L2;replace HH:=HH.hle L2;replace hn:=hn.mono L2
  repeat' (with_reducible refine W.e3 ?_)
  refine W.st0T hf hn (by rw[hf3];rfl) fun τ3 H3 hf hn3=>?_
  repeat' with_reducible refine W.ret ?_
  exact⟨rfl,HH.hop H3,hf⟩
 unfold S.z144.b0
 repeat' (with_reducible refine W.len (by assumption) ?_)
 (with_reducible refine W.cnd (fun hc=>?_) (fun hc=>?_)<;>(try simp only[qq,Kd.ty]at hc)<;>(try (exfalso;omega)))
 ·obtain⟨⟨del,c⟩,hsi⟩:∃s,ss[i]?=some s:=⟨_,kb_ (by omega)⟩
  obtain⟨hcl2,hin⟩:=hR _ (ka_ hsi);dsimp only at hcl2 hin;rw[y54_ hsi]at hrun;have hrunc:runD bl V i (C'.map normL) ((del,c)::ss.drop (i+1))=bif del then(if normL c∈C'.map normL then runD bl V (i+1) ((C'.map normL).erase (normL c)) (ss.drop (i+1))else .inl i) else
   bif mayC bl V (C'.map normL) c then runD bl V (i+1) (C'.map normL++[normL c]) (ss.drop (i+1))else .inl i:=by rw[runD]
  rw[hrunc]at hrun;refine W.bind ?_;refine W.bind ?_;refine W.ixL hy at_le (by omega) fun p us s hs hp hr=>?_;rw[hsi]at hs;cases hs;obtain⟨w0,rfl,hw0⟩:=y2d_ hr;have hp':=hp.mono (at_le (σ:=τ) (T:=T) (i:=0))
  repeat' with_reducible first|refine W.asB ?_|refine W.fldld (by assumption) (by with_unfolding_all rfl) ?_
  cases del with
  | true=>
   simp only[cond_true]at hrun;refine W.condT rfl ?_;refine W.ixL hy at_le (by omega) fun p us s hs hp hr=>?_;rw[hsi]at hs;cases hs;obtain⟨w,rfl,hw⟩:=y2d_ hr;have hp':=hp.mono (at_le (σ:=τ) (T:=T) (i:=0))
   repeat' with_reducible first|refine W.bind ?_|refine W.asV ?_|refine W.fldld (by assumption) (by with_unfolding_all rfl) ?_
   refine W.mono (yfj_ (c:=c) h hn hw hin (by omega)) fun r hr=>?_;obtain⟨b,τ4⟩:=r;obtain⟨hbm,H4,C4,h,hm4,hl4⟩:=hr;dsimp only at hbm H4 h⊢;replace hf:=hf.hop H4;replace HH:=HH.hop H4;replace hn:=H4.tn
   repeat' with_reducible refine W.ret ?_
   by_cases hm:normL c∈C'.map normL
   ·rw[hbm.2 hm]
    refine W.condF rfl ?_
    repeat' with_reducible first|refine W.next ?_|refine W.ret ?_
    refine⟨by omega,sk,HH,hf,C4,h,by omega,?_⟩;rw[hrun,if_pos hm,hm4]
   ·have e:b=false:=by
     cases b
     ·rfl
     ·exact absurd (hbm.1 rfl) hm
    subst e;refine W.condT rfl ?_;refine W.mono (finE τ4 HH hf) fun r hr=>?_;obtain⟨r,τ5⟩:=r;obtain⟨e,HH,hf⟩:=hr;dsimp only at e HH hf⊢;subst e
    repeat' (with_reducible refine W.stop ?_)
    rw[hrun,if_neg hm];exact⟨HH,rfl,hf⟩
  | false=>
   simp only[cond_false]at hrun;refine W.condF rfl ?_;refine W.mono (P:=fun r=>r.1=mayC bl V (C'.map normL) c/\Hop (fun j=>j==1||j==14) σ T r.2 T/\Loc (r.2.at T 14) lf f0/\(mayC bl V (C'.map normL) c=true->RB r.2 T l V (C'++[c]))) ?_ fun r hr=>?_
   ·have step:∀(τ4:Heap) (b:Bool),b=mayC bl V (C'.map normL) c->Hle τ τ4->W (ixA τ4 y 2 (i:Int) fun a47=>fld a47 1 fun a48=>ld τ4 a48 (.V) fun v49=>(S.z134 (.ptr l 0) v49 τ4).bind fun r50=>some (b,r50.2)) fun r=>r.1=mayC bl V (C'.map normL) c/\Hop (fun j=>j==1||j==14) σ T r.2 T/\Loc (r.2.at T 14) lf f0/\(mayC bl V (C'.map normL) c=true->RB r.2 T l V (C'++[c])):=fun τ4 b hb L4=>by
     have hy4:=hy.hle L4;have hn4:=hn.mono L4;refine W.ixL hy4 at_le (by omega) fun p us s hs hp hr=>?_;rw[hsi]at hs;cases hs;obtain⟨w,rfl,hw⟩:=y2d_ hr;have hp':=hp.mono (at_le (σ:=τ4) (T:=T) (i:=0))
     repeat' with_reducible first|refine W.bind ?_|refine W.asV ?_|refine W.fldld (by assumption) (by with_unfolding_all rfl) ?_
     refine W.mono (yhc_ (h.hle L4) hn4 hw (by omega) (by omega)) fun r hr=>?_;obtain⟨b2,τ5⟩:=r;obtain⟨_,H5,_,h5⟩:=hr;dsimp only at H5 h5⊢
     repeat' with_reducible refine W.ret ?_
     exact⟨hb,(HH.hle L4).hop H5,(hf.hle L4).hop H5,fun hm=>h5 (yg2_ hm)⟩
    cases bl with
    |true=>
     refine W.condT rfl ?_;refine W.ixL hy at_le (by omega) fun p us s hs hp hr=>?_;rw[hsi]at hs;cases hs;obtain⟨w,rfl,hw⟩:=y2d_ hr;have hp':=hp.mono (at_le (σ:=τ) (T:=T) (i:=0))
     repeat' with_reducible first|refine W.bind ?_|refine W.asV ?_|refine W.fldld (by assumption) (by with_unfolding_all rfl) ?_
     refine W.mono (yc1_ h hw hcl2 hn) fun r hr=>?_;exact step r.2 r.1 hr.1 hr.2
    |false=>
     refine W.condF rfl ?_;refine W.ixL hy at_le (by omega) fun p us s hs hp hr=>?_;rw[hsi]at hs;cases hs;obtain⟨w,rfl,hw⟩:=y2d_ hr;have hp':=hp.mono (at_le (σ:=τ) (T:=T) (i:=0))
     repeat' with_reducible first|refine W.bind ?_|refine W.asV ?_|refine W.fldld (by assumption) (by with_unfolding_all rfl) ?_
     refine W.mono (y2s_ (c:=c) h hw (by omega)) fun r hr=>?_;exact step r.2 r.1 hr.1 hr.2
   ·obtain⟨b,τ4⟩:=r
    obtain⟨hb,HH,hf,h4⟩:=hr;dsimp only at hb HH hf h4⊢;subst hb
    skip
    cases hmay:mayC bl V (C'.map normL) c with
    |true=>
     rw[hmay]at hrun;refine W.condF rfl ?_
     repeat' with_reducible first|refine W.next ?_|refine W.ret ?_
     refine⟨by omega,sk,HH,hf,_,h4 hmay,by simp;omega,?_⟩;rw[hrun,List.map_append];rfl
    |false=>
     rw[hmay]at hrun;refine W.condT rfl ?_;refine W.mono (finE τ4 HH hf) fun r hr=>?_;obtain⟨r,τ5⟩:=r;obtain⟨e,HH,hf⟩:=hr;dsimp only at e HH hf⊢;subst e
     repeat' (with_reducible refine W.stop ?_)
     rw[hrun];exact⟨HH,rfl,hf⟩
 ·repeat' (with_reducible refine W.stop ?_)
  rw[List.drop_eq_nil_of_le (by omega),runD]at hrun;rw[hrun];exact⟨HH,rfl,hf,C',h,rfl⟩
end
end
section
open Go
theorem yv_(f:Flt):(yu_ f).length=3:=by
 match f with
 |none=>rfl
 |some (e,none)=>rfl
 |some (e,some p)=>rfl
section
variable{σ:Heap}{vars:Int}{cs:List (List Int)}{ss:List (Bool×List Int)}{x y:AVal}{bl:Bool}
def RunR(σ:Heap)(bl:Bool)(vars:Int)(cs:List (List Int))(ss:List (Bool×List Int))(r:(AVal×AVal)×Heap):Prop:=(∃f,preF vars cs ss=some f/\r.1.2=.agg (yu_ (some f)))\/(preF vars cs ss=none/\((∃k:Nat,runD bl (yb_ vars ss) 0 (cs.map normL) ss=.inl k/\r.1.2=.agg (yu_ (some (.proof,some (k:Int))))) \/
 ∃D,runD bl (yb_ vars ss) 0 (cs.map normL) ss=.inr D/\r.1.2=.agg (yu_ none)/\((yb_ vars ss).toNat:Int)=yb_ vars ss/\yb_ vars ss<=4000/\∃l T C,r.1.1=.ptr l 0/\Tn r.2 T/\RB r.2 T l (yb_ vars ss).toNat C/\C.map normL=D/\Hle σ (r.2.at T 0)))
theorem yho_(hx:SlV vIs σ cs x)(hy:SlV vB σ ss y)(h1:cs.flatten.length<=1000000000)(h2:cs.length<=1000000000)(h3:(yk_ ss).flatten.length<=1000000000)(h4:ss.length<=700000) :
  W (S.z144 (.agg [.int .i64 vars,x]) y bl σ) fun r=>Hle σ r.2/\RunR σ bl vars cs ss r:=by
 have hn:Tn σ Tz:=Tn.tz;have hx:SlV vIs (σ.at Tz 0) cs x:=by rw[at_tz];exact hx
 have hy:SlV vB (σ.at Tz 0) ss y:=by rw[at_tz];exact hy
 have HH:Hop stI σ Tz σ Tz:=Hop.refl hn;unfold S.z144
 repeat' (with_reducible refine W.e3 ?_)
 refine W.new0 hn fun l2 τ1 _ L1 hb2 _=>?_;replace hx:=hx.hle L1;replace hy:=hy.hle L1;replace HH:=HH.hle L1;replace hn:=hn.mono L1;refine W.newT 14 hn fun l4 τ2 T2 hl4 H2 hb4 hnτ2=>?_;replace hx:=hx.hop H2;replace hy:=hy.hop H2;replace HH:=HH.hop H2;replace hb2:=hb2.hop H2;replace hn:=H2.tn
 repeat' with_reducible first|refine W.bind ?_|refine W.u1 ?_
 refine W.mono (yb1_ (vars:=vars) hx.up h1 h2) fun r hr=>?_;obtain⟨v3,τ3⟩:=r;obtain⟨e3,L3⟩:=hr;dsimp only at e3 L3⊢;subst e3;replace hx:=hx.hle L3;replace hy:=hy.hle L3;replace HH:=HH.hle L3;replace hb2:=hb2.hle L3;replace hb4:=hb4.hle L3;replace hn:=hn.mono L3;refine W.newT 15 hn fun l8 τ4 T4 hl8 H4 hb8 hnτ4=>?_;replace hx:=hx.hop H4;replace hy:=hy.hop H4;replace HH:=HH.hop H4;replace hb2:=hb2.hop H4;replace hb4:=hb4.hop H4;replace hn:=H4.tn;refine W.aggK (yv_ _) ?_;refine W.st0T hb8 hn (by rw[yv_];rfl) fun τ5 H5 hb8 hn5=>?_;replace hx:=hx.hop H5;replace hy:=hy.hop H5;replace HH:=HH.hop H5;replace hb2:=hb2.hop H5;replace hb4:=hb4.hop H5;replace hn:=H5.tn;have errEnd:∀(τ:Heap) (f:Er×Option Int),Hop stI σ Tz τ T4->Loc (τ.at T4 14) l4 [.int .i64 0,.bool false,.int .i64 0]->Loc (τ.at T4 15) l8 (yu_ (some f))->preF vars cs ss=some f->∀(X:Option ((AVal×AVal)×Heap)),W (ld τ (.ptr l8 0) (.I .i64) fun n17=>cond (n17 != 0) (ldG τ (.ptr l8 0) 3 fun g18=>aggK g18 3 fun cs19=>stC τ (.ptr l4 0) cs19 fun σ20=>ldG σ20 (.ptr l4 0) 3 fun g21=>some ((AVal.nilp,g21),σ20)) X) fun r=>Hle σ r.2/\RunR σ bl vars cs ss r:=fun τ f HH hb4 hb8 hp X=>by
  obtain⟨a,p,u,e,ha⟩:=y4s_ f;rw[e]at hb8;have hn:=HH.tn
  repeat' with_reducible first|refine W.asI ?_|refine W.u0 ?_
  refine W.condT (by simpa using ha) ?_
  repeat' with_reducible first|refine W.e3 ?_|refine W.u1 ?_
  refine W.stT hb4 hn (kc_ (by rfl)) fun τ6 H6 hb4 hnτ6=>?_;replace HH:=HH.hop H6
  repeat' with_reducible first|refine W.ret ?_|refine W.u1 ?_
  exact⟨y22_ HH,.inl ⟨f,hp,by rw[e];rfl⟩⟩
 cases hC:chkC vars cs with
 |some f=>
  rw[hC]at hb8;have hp:preF vars cs ss=some f:=by unfold preF;rw[hC]
  have hb8':=hb8;obtain⟨a,p,u,e,ha⟩:=y4s_ f;rw[e]at hb8'
  repeat' with_reducible first|refine W.bind ?_|refine W.asI ?_|refine W.u0 ?_
  refine W.condF (by simpa using ha) ?_;refine W.ret ?_;exact errEnd τ5 f HH hb4 hb8 hp _
 | none=>
  rw[hC]at hb8;have hb8':Loc (τ5.at T4 15) l8 [.int .i64 0,.bool false,.int .i64 0]:=hb8
  repeat' with_reducible first|refine W.bind ?_|refine W.asI ?_|refine W.u0 ?_
  refine W.condT rfl ?_
  repeat' (with_reducible refine W.bind ?_)
  refine W.mono (ycf_ hy.up h3 (by omega)) fun r hr=>?_;obtain⟨v6,τ6⟩:=r;obtain⟨e6,L6⟩:=hr;dsimp only at e6 L6⊢;subst e6;replace hx:=hx.hle L6;replace hy:=hy.hle L6;replace HH:=HH.hle L6;replace hb2:=hb2.hle L6;replace hb4:=hb4.hle L6;replace hb8:=hb8.hle L6;replace hn:=hn.mono L6;refine W.aggK (yv_ _) ?_;refine W.st0T hb8 hn (by rw[yv_];rfl) fun τ7 H7 hb8 hn7=>?_;replace hx:=hx.hop H7;replace hy:=hy.hop H7;replace HH:=HH.hop H7;replace hb2:=hb2.hop H7;replace hb4:=hb4.hop H7;replace hn:=H7.tn;refine W.ret ?_;cases hP:chkP ss with
  |some f=>
   rw[hP]at hb8;exact errEnd τ7 f HH hb4 hb8 (by unfold preF;rw[hC];exact hP) _
  | none=>
   rw[hP]at hb8;have hb8:Loc (τ7.at T4 15) l8 [.int .i64 0,.bool false,.int .i64 0]:=hb8;have hp:preF vars cs ss=none:=by unfold preF;rw[hC];exact hP
   obtain⟨g1,g2,g3,g4⟩:=yct_ hC hP;obtain⟨c1,c2,c3,c4,c5⟩:=yaq_ hC;obtain⟨p1,p2⟩:=yap_ hP
   repeat' with_reducible first|refine W.asI ?_|refine W.u0 ?_
   refine W.condF rfl ?_
   repeat' with_reducible first|refine W.bind ?_|refine W.u1 ?_
   refine W.mono (yb2_ (vars:=vars) hy.up (fun s hs=>⟨by have:=y5y_ hs;omega,fun x hx=>by have:=p2 s hs x hx;omega⟩) (by omega)) fun r hr=>?_;obtain⟨v8,τ8⟩:=r;obtain⟨e8,L8⟩:=hr;dsimp only at e8 L8⊢;subst e8;have hb2o:=hb2;replace hx:=hx.hle L8;replace hy:=hy.hle L8;replace HH:=HH.hle L8;replace hb2:=hb2.hle L8;replace hb4:=hb4.hle L8;replace hn:=hn.mono L8;obtain⟨ws,hws,hwl,hwc⟩:=yk2_ hx;have hA:AllV τ8 T4 cs ws:=⟨hwl,hwc⟩;have hn8:=hn
   repeat' with_reducible first|refine W.bind ?_|refine W.asV ?_|refine W.chk rfl ?_|refine W.u0 ?_
   refine W.mono (y4j_ hws.up (by omega) hA.scal) fun r hr=>?_;obtain⟨z,τ9⟩:=r;obtain⟨L9,hZ⟩:=hr;dsimp only at L9 hZ⊢;have hZ0:=hZ.at0F (T:=T4) y2n_ fun k hk=>hn8.z k hk;replace hy:=hy.hle L9;replace HH:=HH.hle L9;replace hb4:=hb4.hle L9;replace hA:=hA.hle L9;replace hn:=hn.mono L9;refine W.scalS hZ0.up ?_;refine W.newT 1 hn fun l27 τ10 T10 hl27 H10 hb27 hnτ10=>?_;replace hy:=hy.hop H10;replace HH:=HH.hop H10;replace hb4:=hb4.hop H10;replace hA:=hA.hop H10;replace hZ0:=hZ0.hop H10;replace hn:=H10.tn;rw[<-g1]at hb27;have hB:RB τ10 T10 l27 (yb_ vars ss).toNat cs:=⟨⟨_,ws,hb27,hZ0,hA⟩,fun c hc k hk=>by have:=c5 c hc k hk;omega,by omega,by omega,fun c hc=>by have:=y5z_ hc;omega⟩;refine W.bind ?_;refine W.mono (yb8_ (bl:=bl) hB hn hb4 rfl hy (fun s hs=>⟨by have:=y5y_ hs;omega,by
    rw[List.all_eq_true];intro k hk;have:=p2 s hs k hk;simp[inB];omega⟩) (by omega)) fun r hr=>?_
   obtain⟨r,τ11⟩:=r;obtain⟨H11,hr⟩:=hr;dsimp only at H11 hr⊢;replace HH:=HH.hop H11;rw[g1]at hr;cases hrun:runD bl (yb_ vars ss) 0 (cs.map normL) ss with
   |inl k=>
    rw[hrun]at hr;obtain⟨rfl,hb4⟩:=hr;have hb4:Loc (τ11.at T10 14) l4 [.int .i64 106,.bool true,.int .i64 k]:=hb4
    repeat' with_reducible first|refine W.ret ?_|refine W.u1 ?_
    exact⟨y22_ HH,.inr ⟨hp,.inl ⟨k,hrun,rfl⟩⟩⟩
   |inr D=>
    rw[hrun]at hr;obtain⟨rfl,hb4,C',hB,hD⟩:=hr;replace hn:=H11.tn
    repeat' (with_reducible refine W.bind ?_)
    refine W.mono ybm_ fun r hr=>?_;obtain⟨v12,τ12⟩:=r;obtain⟨e12,L12⟩:=hr;dsimp only at e12 L12⊢;subst e12;replace hB:=hB.hle L12;replace hb4:=hb4.hle L12;replace HH:=HH.hle L12;replace hn:=hn.mono L12
    repeat' (with_reducible refine W.e3 ?_)
    refine W.stT hb4 hn (kc_ (by rfl)) fun τ13 H13 hb4 hnτ13=>?_;replace hB:=hB.hop H13;replace HH:=HH.hop H13
    repeat' with_reducible first|refine W.ret ?_|refine W.u1 ?_
    exact⟨y22_ HH,.inr ⟨hp,.inr ⟨D,hrun,rfl,g1,g2,l27,T10,C',rfl,HH.tn,hB,hD,by have h:=HH.le (j:=0) rfl;rw[at_tz]at h;exact h⟩⟩⟩
theorem ycn_{goal:List Int}{z:AVal}(hx:SlV vIs σ cs x)(hy:SlV vB σ ss y)(hz:SlV .int σ goal z)(h1:cs.flatten.length<=1000000000)(h2:cs.length<=1000000000)(h3:(yk_ ss).flatten.length<=1000000000)(h4:ss.length<=700000)(h5:goal.length<=1000000) :
  W (S.z142 (.agg [.int .i64 vars,x]) y z σ) fun r=>Hle σ r.2/\r.1=.agg (yu_ (y24_ vars cs ss goal)):=by
 unfold S.z142
 repeat' (with_reducible refine W.e3 ?_)
 refine W.new fun l2 τ1 hl2 L1 hb2 hnτ1=>?_;refine W.new fun l4 τ2 hl4 L2 hb4 hnτ2=>?_;replace hb2:=hb2.mono L2;have hnx:=L2.next;have LL:=L1.trans L2;replace hx:=hx.mono LL;replace hy:=hy.mono LL;replace hz:=hz.mono LL;have hnx:=LL.next;have hl4lt:σ.next<=l4:=by have:=L1.next;omega
 have hz2:=hz
 repeat' with_reducible first|refine W.bind ?_|refine W.e1 ?_
 refine W.mono (yho_ (vars:=vars) (bl:=false) hx hy h1 h2 h3 h4) fun r hr=>?_;obtain⟨⟨vb,vf⟩,τ3⟩:=r;obtain⟨L3,hr⟩:=hr;dsimp only at L3 hr⊢;replace hb4:=hb4.mono L3;replace hz:=hz.mono L3;have hnx:=L3.next;replace LL:=LL.trans L3;have fin:∀(τ:Heap) (f:Flt) (l8:Nat),l8≠l4->Hle σ τ->Loc τ l4 [.int .i64 0,.bool false,.int .i64 0]->Loc τ l8 (yu_ f)->W (ldG τ (.ptr l8 0) 3 fun g19=>aggK g19 3 fun cs20=>stC τ (.ptr l4 0) cs20 fun σ21=>ldG σ21 (.ptr l4 0) 3 fun g22=>some (g22,σ21)) fun r=>Hle σ r.2/\r.1=.agg (yu_ f):=fun τ f l8 hne LL hb4 hb8=>by
  obtain⟨a,p,u,e⟩:=yg8_ f;rw[e]at hb8⊢
  repeat' with_reducible first|refine W.e3 ?_|refine W.e1 ?_
  refine W.st0 hb4 (by rfl) fun τ' L' hnτ' hb4=>?_
  repeat' with_reducible first|refine W.ret ?_|refine W.e1 ?_
  exact⟨LL.ofk hl4lt L',rfl⟩
 have finB:∀(τ:Heap) (n:Int) (e:Er),n=e.code->Hle σ τ->Loc τ l4 [.int .i64 0,.bool false,.int .i64 0]->W ((S.z146 n τ).bind fun r18=>aggK r18.1 3 fun cs19=>stC r18.2 (.ptr l4 0) cs19 fun σ20=>ldG σ20 (.ptr l4 0) 3 fun g21=>some (g21,σ20)) fun r=>Hle σ r.2/\r.1=.agg (yu_ (some (e,none))):=fun τ n e hne LL hb4=>by
  subst hne;refine W.bind ?_;refine W.mono ybk_ fun r hr=>?_;obtain⟨v7,τ7⟩:=r;obtain⟨e7,L7⟩:=hr;dsimp only at e7 L7⊢;subst e7;replace hb4:=hb4.mono L7;have hnx:=L7.next
  repeat' (with_reducible refine W.e3 ?_)
  refine W.st0 hb4 (by rfl) fun τ' L' hnτ' hb4=>?_
  repeat' with_reducible first|refine W.ret ?_|refine W.e1 ?_
  exact⟨(LL.trans L7).ofk hl4lt L',rfl⟩
 refine W.new fun l8 τ4 hl8 L4 hb8 hnτ4=>?_;have hl8:τ3.next=l8:=by omega
 rcases hr with ⟨f,hp,e⟩|⟨hp,⟨k,hrun,e⟩|⟨D,hrun,e,g1,g2,l,T,C,e2,hn,hB,hD,L0⟩⟩
 ·dsimp only at e
  subst e;have hrf:y24_ vars cs ss goal=some f:=by unfold y24_;rw[hp]
  rw[hrf];refine W.aggK (yv_ _) ?_;refine W.st0 hb8 (by rw[yv_];rfl) fun τ5 L5 hn5 hb8=>?_;have L45:=L4.ofk (by omega) L5;replace hb4:=hb4.mono L45;have hnx:=L45.next;obtain⟨a,p,u,ef,ha⟩:=y4s_ f;have hb8':=hb8;rw[ef]at hb8'
  repeat' with_reducible first|refine W.asI ?_|refine W.e0 ?_
  refine W.condT (by simpa using ha) ?_;exact fin τ5 (some f) l8 (by have:=hb4.lt;omega) (LL.trans L45) hb4 hb8
 ·dsimp only at e
  subst e;have hrf:y24_ vars cs ss goal=some (.proof,some (k:Int)):=by unfold y24_;rw[hp];dsimp only;rw[hrun]
  rw[hrf];refine W.aggK (yv_ _) ?_;refine W.st0 hb8 (by rw[yv_];rfl) fun τ5 L5 hn5 hb8=>?_;have L45:=L4.ofk (by omega) L5;replace hb4:=hb4.mono L45;have hnx:=L45.next;have hb8':Loc τ5 l8 [.int .i64 106,.bool true,.int .i64 k]:=hb8
  repeat' with_reducible first|refine W.asI ?_|refine W.e0 ?_
  refine W.condT rfl ?_;exact fin τ5 _ l8 (by have:=hb4.lt;omega) (LL.trans L45) hb4 hb8
 ·dsimp only at e e2
  subst e e2;refine W.aggK (yv_ _) ?_;refine W.st0 hb8 (by rw[yv_];rfl) fun τ5 L5 hn5 hb8=>?_;have L45:=L4.ofk (by omega) L5;have hne:l8≠l4:=by have:=hb4.lt;omega
  replace hb4:=hb4.mono L45;replace hz:=hz.mono L45;have hnx:=L45.next;have hb8:Loc τ5 l8 [.int .i64 0,.bool false,.int .i64 0]:=hb8;have hB5:=hB.hle L45;have hn5':Tn τ5 T:=hn.mono L45;have LL5:=LL.trans L45
  repeat' with_reducible first|refine W.asI ?_|refine W.e0 ?_
  refine W.condF rfl ?_;refine W.bind ?_;obtain⟨v,ws,hlb,_,_⟩:=hB5.ex;refine W.mono (y3t_ hlb.up hB5.vl hz (by omega)) fun b hb=>?_;rw[g1]at hb;have hdf:y24_ vars cs ss goal=(open Classical in if ye_ (yb_ vars ss) goal then(bif impl (yb_ vars ss) D goal then none else some (Er.proof,none))else some (Er.range,none):Flt):=by unfold y24_;rw[hp];dsimp only;rw[hrun]
  rw[hdf];by_cases hR:ye_ (yb_ vars ss) goal
  ·rw[hb.2 hR,if_pos hR]
   refine W.condF rfl ?_;refine W.bind ?_;refine W.mono (y2s_ hB5 ((hz2.mono L0).hle L45) (by omega)) fun r hr=>?_;obtain⟨b2,τ6⟩:=r;obtain⟨hb2,L6⟩:=hr;dsimp only at hb2 L6⊢;rw[hD,g1]at hb2;subst hb2;replace hb4:=hb4.mono L6;replace hb8:=hb8.mono L6;have hnx:=L6.next
   (with_reducible refine W.cnd (fun hq=>?_) (fun hq=>?_)<;>(try simp only[qq,Kd.ty]at hq)<;>(try (exfalso;omega)))
   ·rw[hq]
    exact finB τ6 106 .proof rfl (LL5.trans L6) hb4
   ·rw[hq]
    exact fin τ6 none l8 hne (LL5.trans L6) hb4 hb8
  ·have:b=false:=by
    cases b
    ·rfl
    ·exact absurd (hb.1 rfl) hR
   subst this;rw[if_neg hR];refine W.condT rfl ?_;exact finB τ5 104 .range rfl LL5 hb4
end
end
section
open Go
theorem W.agI{R:Type}{Q:R->Prop}{a:Int}{cs:List AVal}{K:Int->Option R}(c:W (K a) Q):W (agS (.agg (.int .i64 a::cs)) 0 (.I .i64) K) Q:=c
section
variable{σ:Heap}{vars:Int}{cs:List (List Int)}{ss:List (Bool×List Int)}{x y:AVal}
end
end
section
open Go
section
variable{bl:Bool}{V vars:Int}{n k:Nat}{C D D0 E cs:List (List Int)}{lg lg' ss a b:List (Bool×List Int)}{c:List Int}
theorem y4m_:∀{a b:List (Bool×List Int)} {k:Nat} {D E:List (List Int)},runD bl V k D a=.inr E->runD bl V k D (a++b)=runD bl V (k+a.length) E b
 |[],b,k,D,E,h=>by rw[runD]at h;cases h;rfl
 | (true,c)::t,b,k,D,E,h=>by
  rw[List.cons_append,runD];rw[runD]at h;simp only[cond_true]at h⊢
  split at h
  ·rename_i hm
   rw[if_pos hm,y4m_ h,List.length_cons,show k+1+t.length=k+(t.length+1) by omega]
  ·cases h
 | (false,c)::t,b,k,D,E,h=>by
  rw[List.cons_append,runD];rw[runD]at h;simp only[cond_false]at h⊢;cases hm:mayC bl V D c with
  |false=>rw[hm]at h;cases h
  |true=>
   rw[hm]at h;simp only[cond_true]at h⊢;rw[y4m_ h,List.length_cons,show k+1+t.length=k+(t.length+1) by omega]
theorem yj8_(hR:ye_ V c)(hC:Conf D (negs c)):mayC bl V D c=true:=by
 have hi:impl V D c=true:=y2k_.2 ⟨hR,hC⟩;unfold mayC;cases bl with
 |false=>exact hi
 |true=>
  cases c with
  |nil=>rw[cond_true,y50_];exact hi
  |cons p t=>rw[cond_true];exact y3d_.2 (.inl hi)
theorem RunS.runD(h:RunS D0 lg D)(hR:∀s∈lg,ye_ V s.2):∀k,YtafbldhedkallaaGreatDoor.A.runD bl V k D0 lg=.inr D:=by
 induction h with
 |nil=>intro k;rw[YtafbldhedkallaaGreatDoor.A.runD]
 |@add lg D c h hC ih=>
  intro k;have ih:=ih (fun s hs=>hR s (by simp[hs])) k;rw[y4m_ ih,YtafbldhedkallaaGreatDoor.A.runD,yj8_ (hR (false,c) (by simp)) hC];simp only[cond_false,cond_true];rw[YtafbldhedkallaaGreatDoor.A.runD]
 |@del lg D c h hm ih=>
  intro k;have ih:=ih (fun s hs=>hR s (by simp[hs])) k;rw[y4m_ ih,YtafbldhedkallaaGreatDoor.A.runD];simp only[cond_true];rw[if_pos hm,YtafbldhedkallaaGreatDoor.A.runD]
theorem RunS.last(h:RunS D0 (lg++[(false,c)]) D):∃D',RunS D0 lg D'/\Conf D' (negs c)/\D=D'++[normL c]:=by
 generalize e:lg++[(false,c)]=l at h;cases h with
 |nil=>simp at e
 |add h1 h2=>
  obtain⟨rfl,e2⟩:=List.append_inj' e rfl;cases e2;exact⟨_,h1,h2,rfl⟩
 |del h1 h2=>
  obtain⟨_,e2⟩:=List.append_inj' e rfl;cases e2
theorem yid_(hl:(yk_ lg).flatten.length<=320000)(hR:∀s∈lg,ye_ 4000 s.2):chkP lg=none:=by
 unfold chkP;rw[if_neg (by omega)];have:(yk_ lg).findIdx? (badC 4000)=none:=by
  rw[List.findIdx?_eq_none_iff];intro c hc;obtain⟨s,hs,rfl⟩:=kq_.1 hc;have:=y5i_.2 (hR s hs);simpa using this
 rw[this];rfl
theorem y5e_{m:Nat}:∀{lg:List (Bool×List Int)},(∀s∈lg,s.2.length<=m)->(yk_ lg).flatten.length<=m*lg.length
 |[],_=>by simp[yk_]
 |s::t,h=>by
  have ih:=y5e_ (lg:=t) fun x hx=>h x (by simp[hx]);have:=h s (by simp);show(s.2++(yk_ t).flatten).length<=_;rw[List.length_append,List.length_cons,Nat.mul_succ];omega
theorem ya8_{m:Int}:∀{c:List Int},(∀x∈c,(x.natAbs:Int)<=m)->maxV m c=m
 |[],_=>rfl
 |x::c,h=>by
  unfold maxV;rw[List.foldl_cons,if_neg (by have:=h x (by simp);omega)];exact ya8_ fun y hy=>h y (by simp[hy])
theorem y65_{m:Int}:∀{lg:List (Bool×List Int)},(∀s∈lg,∀x∈s.2,(x.natAbs:Int)<=m)->yb_ m lg=m
 |[],_=>rfl
 |s::t,h=>by
  unfold yb_;rw[List.foldl_cons,ya8_ (h s (by simp))];exact y65_ fun x hx=>h x (by simp[hx])
end
section
variable{σ τ:Heap}{T T':Tg}{e:EnP}{n k l vars:Nat}{s:PS}{hs:List Int}{ln:List (Int×Int)}{lg:List (Bool×List Int)}{since least:Int}{x y:AVal}{C D:List (List Int)}
theorem ygu_(E:EnX σ T e n s hs ln lg since least)(hn:Tn σ T)(hl:lg.length<=1000000)(hcl:∀st∈lg,st.2.length<=1000000) :
  W (S.z102 (.ptr e.le 0) σ) fun r=>∃T',Hop (only 28) σ T r.2 T'/\SlV vB (r.2.at T' 0) lg r.1:=by
 obtain⟨h,xs,xl,xg,conf,bump,most,sv,ws,k1,kp,kh,kq,km,ks,ksl,kl,kg,ka⟩:=E
 clear kp kh kq ks kl
 have kgs:=kg.slT;have hwl:=ka.1;unfold S.z102
 repeat' with_reducible first|refine W.bind ?_|refine W.asV ?_|refine W.fldp ?_|refine W.len (by assumption) ?_|refine W.nck ?_|refine W.u0 ?_
 refine W.mono (P:=fun r=>∃T' ws',Hop (only 28) σ T r.2 T'/\Own vBR (r.2.at T' 28) ws' r.1/\AllB (r.2.at T' 0) lg ws') ?_ fun r hr=>?_
 ·refine W.loop ws.length (fun i (z:AVal×Int) τ=>z.2=(i:Int)/\∃T' ws',Hop (only 28) σ T τ T'/\Own vBR (τ.at T' 34) ws xg/\AllB (τ.at T' 0) lg ws/\Own vBR (τ.at T' 28) ws' z.1/\AllB (τ.at T' 0) (lg.take i) ws') ⟨rfl,T,[],Hop.refl hn,kg,ka,Own.nil,rfl,fun i c hc=>by simp at hc⟩ fun i z τ1 hi hI=>?_
  obtain⟨z1,z2⟩:=z;obtain⟨rfl,T1,ws',HH,kg,ka,kO,kB⟩:=hI;have wr:IntKind.i64.wrap ((i:Int)+1)=((i+1:Nat):Int):=by rw[wrapS]<;>omega
  have hwl':=kB.1;rw[List.length_take]at hwl';unfold S.z102.b0
  (with_reducible refine W.cnd (fun hlt=>?_) (fun hlt=>?_)<;>(try simp only[qq,Kd.ty]at hlt)<;>(try (exfalso;omega)))
  ·obtain⟨st,hst⟩:=y3_ (xs:=lg) (i:=i) (by omega)
   obtain⟨w,hw,hx⟩:=ka.2 i st hst;refine W.ixO kg.slT (i:=i) (by omega) ?_;refine W.ldGO kg.slT hw [.bool st.1,w] (fun bs h=>h) ?_;refine W.newA HH.tn rfl rfl fun l10 τ2 _ L2 k10 hn2=>?_;replace kg:=kg.hle L2;replace ka:=ka.hle L2;replace kO:=kO.hle L2;replace kB:=kB.hle L2;replace hx:=hx.hle L2;have k10u:=k10.up
   repeat' with_reducible first|refine W.bind ?_|refine W.asB ?_|refine W.asV ?_|refine W.e0 ?_
   refine W.mono (y72_ hx.up (hcl st (ka_ hst))) fun r hr=>?_;obtain⟨y2,τ3⟩:=r;obtain⟨hA,L3⟩:=hr;dsimp only at hA L3⊢;have hy:=hA.at0 fun k hk=>hn2.z k hk;have k10u:=k10u.mono L3;replace kg:=kg.hle L3;replace ka:=ka.hle L3;replace kO:=kO.hle L3;replace kB:=kB.hle L3;have hn3:=hn2.mono L3;have hyu:=hy.up
   repeat' with_reducible first|refine W.asB ?_|refine W.chk rfl ?_|refine W.e0 ?_|refine W.scalS (by assumption) ?_
   refine W.own_push (bytes:=32) y4l_ kO hn3 (a:=(st.1,y2)) rfl (by omega) (by omega) fun x' τ4 T4 kO H4=>?_
   repeat' (with_reducible refine W.next ?_)
   refine⟨by omega,wr,T4,ws'++[(st.1,y2)],((HH.hle L2).hle L3).trans H4,kg.hop H4,ka.hop H4,kO,?_⟩;have htk:lg.take (i+1)=lg.take i++[st]:=by rw[kk_,hst];rfl
   rw[htk];exact(kB.hop H4).push (hy.hop H4)
  ·repeat' (with_reducible refine W.stop ?_)
   rw[ki_ (by omega)]at kB;exact⟨T1,ws',HH,kO,kB⟩
 ·obtain⟨xo,τ1⟩:=r
  obtain⟨T1,ws',HH,kO,kB⟩:=hr;dsimp only at HH kO kB⊢;obtain⟨T2,H2,hO⟩:=kO.freeze y4l_ HH.tn
  repeat' with_reducible refine W.ret ?_
  exact⟨T2,HH.trans H2,(kB.hop H2).vB hO⟩
end
end
section
open Go
section
variable{σ τ:Heap}{T T':Tg}{e:EnP}{n k id t li:Nat}{x y xc xl:AVal}{A c l:List Int}{C cs:List (List Int)}{w:Nat}{gl:Bool}{s:PS}{hs:List Int}{ln:List (Int×Int)}{lg:List (Bool×List Int)}{since least:Int}{sc:(List Int×List Int×List Int×List Int)×Int×Int}{r:AVal×AVal}{I:Nat->Bool}
theorem EnL.off(L:EnL gl n C s hs ln lg since least w):EnL false n C s hs ln lg since least w:=⟨L.si,L.hp,L.lnI,L.lnN,L.orI,L.snd,L.cl,(fun h=>by cases h),L.z1,L.z2,L.z3,L.z4,L.z5,L.z6⟩
structure IncE(σ:Heap)(T:Tg)(li:Nat)(e:EnP)(n:Nat)(C:List (List Int))(w:Nat)(xc:AVal)(lg:List (Bool×List Int)):Prop where
 obj:Loc (σ.at T 36) li [.ptr e.le 0,.int .i64 n,xc,.int .i64 (C.flatten.length:Int)]
 en:∃s hs ln since least,EnX σ T e n s hs ln lg since least/\EnL false n C s hs ln lg since least w/\s.marks=[]
 cl:OL σ T 38 C xc
theorem IncE.inc(h:IncE σ T li e n C w xc lg):Inc σ T li e n C w xc:=by
 obtain⟨h1,⟨s,hs,ln,since,least,g1,g2,g3⟩,h3⟩:=h;exact⟨h1,⟨s,hs,ln,lg,since,least,g1,g2,g3,fun h=>by cases h⟩,h3⟩
theorem IncE.hop{u:Nat}(h:IncE σ T li e n C w xc lg)(H:Hop (only u) σ T τ T')(h1:(only u) 36=false:=by rfl)(h2:(only u) 38=false:=by rfl)(h0:(only u) 0=false:=by rfl)(ht:(decide (15<=u)&&decide (u<=29))||(decide (35<=u)&&decide (u<=49))=true:=by rfl):IncE τ T' li e n C w xc lg:=by
 obtain⟨k1,⟨s,hs,ln,since,least,g1,g2,g3⟩,k3⟩:=h;exact⟨k1.hop H h1,⟨s,hs,ln,since,least,g1.hopE H ht,g2,g3⟩,k3.hop H h2 h0⟩
theorem IncE.hle(h:IncE σ T li e n C w xc lg)(L:Hle σ τ):IncE τ T li e n C w xc lg:=by
 obtain⟨k1,⟨s,hs,ln,since,least,g1,g2,g3⟩,k3⟩:=h;exact⟨k1.hle L,⟨s,hs,ln,since,least,g1.hle L,g2,g3⟩,k3.hle L⟩
theorem SoR.hop(h:SoR σ T n C A lg r)(H:Hop I σ T τ T')(h0:I 0=false:=by rfl):SoR τ T' n C A lg r:=by
 rcases h with ⟨y,M,e,h1,h2⟩|⟨y,core,lg0,e,h1,h2⟩
 ·exact .inl ⟨y,M,e,h1.hop H h0,h2⟩
 ·exact .inr ⟨y,core,lg0,e,h1.hop H h0,h2⟩
theorem SoR.hle(h:SoR σ T n C A lg r)(L:Hle σ τ):SoR τ T n C A lg r:=by
 rcases h with ⟨y,M,e,h1,h2⟩|⟨y,core,lg0,e,h1,h2⟩
 ·exact .inl ⟨y,M,e,h1.hle L,h2⟩
 ·exact .inr ⟨y,core,lg0,e,h1.hle L,h2⟩
theorem SoR.agg(h:SoR σ T n C A lg r):r.2=.nili/\∃b u v,r.1=.agg [.bool b,u,v]:=by
 rcases h with ⟨y,M,rfl,_⟩|⟨y,core,_,rfl,_⟩
 ·exact⟨rfl,_,_,_,rfl⟩
 ·exact⟨rfl,_,_,_,rfl⟩
theorem ycv_(h:IncG gl σ T li e n C w xc)(hn:Tn σ T)(hn13:n<=20)(hc:SlV .int (σ.at T 0) A x)(hAl:A.length<=100000)(hAL:∀l∈A,isL l n=true)(hw:w+6*mu n<=850000000000) :
  W (S.z32 (.ptr li 0) x σ) fun r=>∃T' w' lg,Hop iI σ T r.2 T'/\IncE r.2 T' li e n C w' xc lg/\w'<=w+6*mu n+10/\SoR r.2 T' n C A lg r.1/\(gl=true->LgF n lg/\∃D,RunS (C.map normL) lg D):=by
 obtain⟨k1,E,hO⟩:=h;unfold S.z32;refine W.newT 39 hn fun l1 τ1 T1 hl1 H1 k39 hnτ1=>?_;replace E:=E.hop H1;replace k1:=k1.hop H1;replace hO:=hO.hop H1;replace hc:=hc.hop H1;replace hn:=H1.tn
 repeat' with_reducible first|refine W.bind ?_|refine W.asV ?_|refine W.fldp ?_|refine W.nck ?_|refine W.u0 ?_
 obtain⟨s,hs,ln,lg,since,least,E,L,hm,hg'⟩:=E;refine W.mono (yi9_ E hn L hn13 hm hc hAl hAL hw fun h=>by
  obtain⟨rfl,rfl,rfl,rfl⟩:=hg' h;exact⟨rfl,rfl,by simp,by simp,by simp[addsL]⟩) fun r hr=>?_
 obtain⟨r,τ2⟩:=r;obtain⟨T2,s',hs',ln',lg',since',least',w1,H2,E,L,hw1,hm',hso,hLF⟩:=hr;dsimp only at H2 E hso⊢;replace k1:=k1.hop H2;replace hO:=hO.hop H2;replace k39:=k39.hop H2;replace hn:=H2.tn;obtain⟨e2,b,u,v,e1⟩:=hso.agg;obtain⟨r1,r2⟩:=r;dsimp only at e1 e2⊢;subst e1 e2
 repeat' (with_reducible refine W.e3 ?_)
 refine W.stT k39 hn (kc_ (by rfl)) fun τ3 H3 k39 hnτ3=>?_;replace E:=E.hopE H3;replace k1:=k1.hop H3;replace hO:=hO.hop H3;replace hn:=H3.tn;replace hso:=hso.hop H3
 repeat' with_reducible first|refine W.ret ?_|refine W.u1 ?_
 exact⟨T2,w1,lg',(H1.oi.trans H2.jk.ki).trans H3.oi,⟨k1,⟨s',hs',ln',since',least',E,L.off,hm'⟩,hO⟩,hw1,hso,fun h=>⟨hLF h,(L.lgI h).imp fun D hD=>hD.elim fun X hX=>hX.1⟩⟩
theorem yhu_(h:IncE σ T li e n C w xc lg)(hn:Tn σ T)(hl:lg.length<=1000000)(hcl:∀st∈lg,st.2.length<=1000000) :
  W (S.z31 (.ptr li 0) σ) fun r=>∃T',Hop (only 28) σ T r.2 T'/\SlV vB (r.2.at T' 0) lg r.1:=by
 obtain⟨k1,⟨s,hs,ln,since,least,E,L,hm⟩,hO⟩:=h;unfold S.z31
 repeat' with_reducible first|refine W.bind ?_|refine W.asV ?_|refine W.fldp ?_|refine W.nck ?_|refine W.u0 ?_
 refine W.mono (ygu_ E hn hl hcl) fun r hr=>?_
 repeat' with_reducible refine W.ret ?_
 exact hr
def vI:Nat->Bool:=fun j=>iI j||j==40
theorem Hop.iv(H:Hop iI σ T τ T'):Hop vI σ T τ T':=H.sub fun i hi=>by simp[vI,hi]
theorem Hop.ov{u:Nat}(H:Hop (only u) σ T τ T')(hu:vI u=true:=by rfl):Hop vI σ T τ T':=H.sub fun i hi=>by
 have:i=u:=by simpa using hi
 rw[this];exact hu
theorem yhy_(h:OL σ T 40 cs x)(hn:Tn σ T)(hl:cs.length<=10000):W (S.z147 x σ) fun r=>∃T',Hop (only 28) σ T r.2 T'/\OL r.2 T' 28 cs r.1:=by
 have hsl:=h.sl;unfold S.z147
 repeat' (with_reducible refine W.len (by assumption) ?_)
 refine W.mk0T (v:=vRaw) 28 hn rfl (by omega) (by omega) fun y τ1 T1 H1 k1=>?_;have hO1:OL τ1 T1 28 [] y:=⟨[],k1,rfl,fun i c h=>by simp at h⟩;refine W.bind ?_;refine W.mono (P:=fun r=>∃T',Hop (only 28) σ T r.2 T'/\OL r.2 T' 28 cs r.1) ?_ fun r hr=>W.ret hr;refine W.loop cs.length (fun i (z:AVal×Int) τ=>z.2=(i:Int)/\∃T',Hop (only 28) σ T τ T'/\OL τ T' 40 cs x/\OL τ T' 28 (cs.take i) z.1) ⟨rfl,T1,H1,h.hop H1,by simpa using hO1⟩ fun i z τ2 hi hI=>?_;obtain⟨z1,z2⟩:=z;obtain⟨rfl,T2,HH,h,hO⟩:=hI;have wr:IntKind.i64.wrap ((i:Int)+1)=((i+1:Nat):Int):=by rw[wrapS]<;>omega
 have hsl:=h.sl;unfold S.z147.b0
 repeat' (with_reducible refine W.len (by assumption) ?_)
 (with_reducible refine W.cnd (fun hlt=>?_) (fun hlt=>?_)<;>(try simp only[qq,Kd.ty]at hlt)<;>(try (exfalso;omega)))
 ·obtain⟨a,ha⟩:=y3_ (xs:=cs) (i:=i) (by omega)
  refine W.ol_ix h ha fun y hy=>?_;refine W.scalS hy.up ?_;refine W.ol_push hO HH.tn hy (by decide) (by simp;omega) fun x' τ3 T3 hO H3=>?_
  repeat' (with_reducible refine W.next ?_)
  exact⟨by omega,wr,T3,HH.trans H3,h.hop H3,by rw[kk_,ha];exact hO⟩
 ·repeat' (with_reducible refine W.stop ?_)
  have:i=cs.length:=by omega
  subst this;rw[List.take_length]at hO;exact⟨T2,HH,hO⟩
theorem RunS.derive{core:List Int}{lg0:List (Bool×List Int)}{D:List (List Int)}(h:RunS (cs.map normL) (lg0++[(false,negs core)]) D)(hc:chkC (n:Int) cs=none)(hL:LgF n (lg0++[(false,negs core)]))(hn:n<=9):y24_ (n:Int) cs (lg0++[(false,negs core)]) (negs core)=none:=by
 have hB:2 ^ n<=512:=Nat.le_trans (Nat.pow_le_pow_right (by omega) hn) (by decide);obtain⟨h1,h2⟩:=hL;generalize hlg:lg0++[(false,negs core)]=lg at *;have hlen:lg.length<=17500:=by
  have e1:=Nat.mul_le_mul (show 2 ^ n / 2<=256 by omega) (show 2 ^ n / 2 / 8+2<=34 by omega);omega
 have hR:∀s∈lg,ye_ (n:Int) s.2:=fun s hs l hl=>by
  have:=yh_.1 ((h1 s hs).2 l hl);omega
 have hfb:=y5e_ (m:=10) fun s hs=>Nat.le_trans (h1 s hs).1 (by omega);have hP:=yid_ (lg:=lg) (by omega) fun s hs l hl=>by have:=hR s hs l hl;omega
 have hG:yb_ (n:Int) lg=n:=y65_ fun s hs x hx=>by have:=hR s hs x hx;omega
 unfold y24_;have hp:preF (n:Int) cs lg=none:=by unfold preF;rw[hc];exact hP
 rw[hp];dsimp only;rw[hG,h.runD hR 0];dsimp only;have hmem:((false,negs core):Bool×List Int)∈lg:=by rw[<-hlg];simp
 have hgr:=hR _ hmem;dsimp only at hgr;rw[if_pos hgr];rw[<-hlg]at h;obtain⟨D',_,_,rfl⟩:=h.last;have:impl (n:Int) (D'++[normL (negs core)]) (negs core)=true:=y2k_.2 ⟨hgr,.inr ⟨normL (negs core),by simp,fun k hk=>.start (kq_.2 ⟨k,y8_.1 hk,rfl⟩)⟩⟩;rw[this];rfl
theorem yi6_(gl:Bool)(h:ScV (σ.at T 0) x sc)(hn:Tn σ T)(hs:ScS sc)(hl:SlV .int (σ.at T 0) l xl)(hl100:l.length<=1000) :
  W (S.z116 xl x σ) fun r=>∃T' li e w xc y,r.1=(.ptr li 0,y)/\Hop vI σ T r.2 T'/\IncG gl r.2 T' li e 8 (y16_ l 8) w xc/\OL r.2 T' 40 (y16_ l 8) y/\w<=1000:=by
 obtain⟨x0,x1,x2,x3,rfl,h0,h1,h2,h3⟩:=h;unfold S.z116
 repeat' (with_reducible refine W.e3 ?_)
 refine W.new0 hn fun l2 τ1 _ L1 k1 hn1=>?_;have hx:ScV (τ1.at T 0) (.agg [x0,x1,x2,x3,.int .i64 sc.2.1,.int .i64 sc.2.2]) sc:=⟨x0,x1,x2,x3,rfl,h0.hle L1,h1.hle L1,h2.hle L1,h3.hle L1⟩;replace hl:=hl.hle L1;have HH:Hop iI σ T τ1 T:=Hop.of hn L1
 repeat' with_reducible first|refine W.bind ?_|refine W.u1 ?_
 refine W.mono (yjp_ hx hn1) fun r hr=>?_;obtain⟨y1,τ2⟩:=r;obtain⟨T2,H2,hy1⟩:=hr;dsimp only at H2 hy1⊢;replace hl:=hl.hop H2;replace HH:=HH.trans H2.fi;refine W.bind ?_;refine W.mono (yc7_ gl hy1 HH.tn hs (by simp)) fun r hr=>?_;obtain⟨r,τ3⟩:=r;obtain⟨T3,li,e,xc,er,H3,h⟩:=hr;dsimp only at er H3 h⊢;subst er;replace hl:=hl.hop H3;replace HH:=HH.trans H3;refine W.bind ?_;refine W.mono (P:=fun r=>r.1=false/\∃T',Hop iI τ3 T3 r.2 T'/\IncG gl r.2 T' li e 8 [] 0 xc) ?_ fun r hr=>?_
 ·refine W.condF (x:=some (true,τ3)) rfl ?_
  refine W.condF rfl ?_;refine W.bind ?_;refine W.mono (ydf_ (m:=8) h HH.tn (by omega) (by omega)) fun r hr=>?_;obtain⟨r,τ4⟩:=r;obtain⟨T4,er,H4,h⟩:=hr;dsimp only at er H4 h⊢;subst er
  repeat' with_reducible refine W.ret ?_
  exact⟨rfl,T4,H4,h⟩
 obtain⟨r,τ4⟩:=r;obtain⟨er,T4,H4,h⟩:=hr;dsimp only at er H4 h⊢;subst er;replace hl:=hl.hop H4;replace HH:=HH.trans H4;refine W.condF rfl ?_;refine W.bind ?_;refine W.mono (y9y_ hl.up (by omega) (vars:=8) (by omega)) fun r hr=>?_;obtain⟨y,τ5⟩:=r;obtain⟨L5,hA⟩:=hr;dsimp only at L5 hA⊢;obtain⟨T5,H5,hcs⟩:=hA.ol HH.tn L5 40;replace h:=h.hop H5;have HH:Hop vI σ T τ5 T5:=HH.iv.trans H5.ov;obtain⟨ck1,ck2,ck3⟩:=y4c_ l 8;generalize hcse:y16_ l 8=cs at *;have hcsu:=hcs.sl;refine W.bind ?_;refine W.mono (P:=fun r=>r.1=.inl ()/\∃T' xc',Hop iI τ5 T5 r.2 T'/\IncG gl r.2 T' li e 8 cs cs.length xc'/\OL r.2 T' 40 cs y) ?_ fun r hr=>?_
 ·refine W.loop cs.length (fun i (z:Int) τ=>z=(i:Int)/\∃T' xc',Hop iI τ5 T5 τ T'/\OL τ T' 40 cs y/\IncG gl τ T' li e 8 (cs.take i) i xc') ⟨rfl,T5,xc,Hop.refl HH.tn,hcs,by simpa using h⟩ fun i z τ6 hi hI=>?_
  obtain⟨rfl,T6,xc6,H6,hcs,h⟩:=hI;have wr:IntKind.i64.wrap ((i:Int)+1)=((i+1:Nat):Int):=by rw[wrapS]<;>omega
  have hcsu:=hcs.sl;unfold S.z116.b0
  repeat' (with_reducible refine W.len (by assumption) ?_)
  (with_reducible refine W.cnd (fun hlt=>?_) (fun hlt=>?_)<;>(try simp only[qq,Kd.ty]at hlt)<;>(try (exfalso;omega)))
  ·obtain⟨a,ha⟩:=y3_ (xs:=cs) (i:=i) (by omega)
   have ham:=ka_ ha;have hal:=(ck1 a ham).2.1;have htk:cs.take (i+1)=cs.take i++[a]:=by rw[kk_,ha];rfl
   have hle:=y1i_ cs i;refine W.ol_ix hcs ha fun v hv=>?_;refine W.bind ?_;refine W.mono (ybx_ h H6.tn (by omega) (by omega) hv (fun l hl=>y6p_ ((ck1 a ham).2.2 l hl)) (by rw[List.length_take];omega) (by omega)) fun r hr=>?_;obtain⟨r,τ7⟩:=r;obtain⟨er,T7,xc7,H7,h⟩:=hr;dsimp only at er H7 h⊢;subst er;refine W.fnil (f:=none) rfl (W.condF rfl ?_)
   repeat' (with_reducible refine W.next ?_)
   exact⟨by omega,wr,T7,xc7,H6.trans H7,hcs.hop H7,by rw[htk];exact h⟩
  ·repeat' (with_reducible refine W.stop ?_)
   have:i=cs.length:=by omega
   subst this;rw[List.take_length]at h;exact⟨rfl,T6,xc6,H6,h,hcs⟩
 ·obtain⟨r,τ6⟩:=r
  obtain⟨er,T6,xc6,H6,h,hcs⟩:=hr;dsimp only at er H6 h hcs⊢;subst er;refine W.ret ?_;exact⟨T6,li,e,_,xc6,y,rfl,HH.trans H6.iv,h,hcs,by omega⟩
end
end
section
open Go
section
variable{σ τ:Heap}{T T':Tg}{e:EnP}{n k id t li i:Nat}{x y xc xl x0 xm xa yA xall:AVal}{A c l m:List Int}{C cs ass more:List (List Int)}{w:Nat}{gl:Bool}{lg:List (Bool×List Int)}{b:Bool}
theorem so0_w(hass:SlV vIs (σ.at T 0) ass xa)(ha:ass[i]?=some l)(hl:l.length<=10)(hn:Tn σ T){p28:AVal} :
  W (loopW (S.z114.b0 xa xm true x p28 (i:Int)) (.nils,0) σ) fun r=>∃T',Hop (only 29) σ T r.2 T'/\Own .int (r.2.at T' 29) (y1p_ l) r.1:=by
 refine W.loop l.length (fun j (z:AVal×Int) τ=>z.2=(j:Int)/\∃T',Hop (only 29) σ T τ T'/\SlV vIs (τ.at T' 0) ass xa/\Own .int (τ.at T' 29) (y1p_ (l.take j)) z.1) ⟨rfl,T,Hop.refl hn,hass,by simpa[y1p_]using Own.nil⟩ fun j z τ1 hj hI=>?_;obtain⟨z1,z2⟩:=z;obtain⟨rfl,T1,HH,hass,kO⟩:=hI;have wr:IntKind.i64.wrap ((j:Int)+1)=((j+1:Nat):Int):=by rw[wrapS]<;>omega
 unfold S.z114.b0;refine W.ixkLS hass at_le ha fun v hv=>?_;have hvu:=hv.up
 repeat' (with_reducible refine W.len (by assumption) ?_)
 (with_reducible refine W.cnd (fun hlt=>?_) (fun hlt=>?_)<;>(try simp only[qq,Kd.ty]at hlt)<;>(try (exfalso;omega)))
 ·obtain⟨a,hae⟩:=y3_ (xs:=l) (i:=j) (by omega)
  refine W.ixkLS hass at_le ha fun v2 hv2=>?_;have hvu2:=hv2.up
  repeat' with_reducible first|refine W.bind ?_|refine W.e2 ?_
  refine W.to (ygn_ (by decide) (by decide)) ?_
  repeat' with_reducible refine W.ret ?_
  refine W.own_push (bytes:=8) Vw.int_flat kO HH.tn (a:=lit a 8) rfl (by simp[y1p_];omega) (by simp[y1p_];omega) fun x2 τ2 T2 kO H2=>?_
  repeat' (with_reducible refine W.next ?_)
  refine⟨by omega,wr,T2,HH.trans H2,hass.hop H2,?_⟩;rw[show y1p_ (l.take (j+1))=y1p_ (l.take j)++[lit a 8] by rw[kk_,hae];simp[y1p_]];exact kO
 ·repeat' (with_reducible refine W.stop ?_)
  have:j=l.length:=by omega
  subst this;rw[List.take_length]at kO;exact⟨T1,HH,kO⟩
theorem so1_w(hA:SlV .int (σ.at T 0) A yA)(hAl:A.length<=10)(hO:OL σ T 28 C y)(hn:Tn σ T)(hCl:C.length<=2000){p50:AVal} :
  W (loopW (S.z114.b1 xa xm true x p50 (i:Int) yA) (y,0) σ) fun r=>∃T',Hop (only 28) σ T r.2 T'/\OL r.2 T' 28 (C++ones A) r.1:=by
 refine W.loop A.length (fun j (z:AVal×Int) τ=>z.2=(j:Int)/\∃T',Hop (only 28) σ T τ T'/\SlV .int (τ.at T' 0) A yA/\OL τ T' 28 (C++ones (A.take j)) z.1) ⟨rfl,T,Hop.refl hn,hA,by simpa[ones]using hO⟩ fun j z τ1 hj hI=>?_;obtain⟨z1,z2⟩:=z;obtain⟨rfl,T1,HH,hA,hO⟩:=hI;have wr:IntKind.i64.wrap ((j:Int)+1)=((j+1:Nat):Int):=by rw[wrapS]<;>omega
 have hAu:=hA.up;unfold S.z114.b1
 repeat' (with_reducible refine W.len (by assumption) ?_)
 (with_reducible refine W.cnd (fun hlt=>?_) (fun hlt=>?_)<;>(try simp only[qq,Kd.ty]at hlt)<;>(try (exfalso;omega)))
 ·obtain⟨a,hae⟩:=y3_ (xs:=A) (i:=j) (by omega)
  repeat' (with_reducible refine W.e2 ?_)
  refine W.newI1 HH.tn fun l8 τ3 _ L3 h8 hn3=>?_;refine W.ol_push (hO.hle L3) hn3 h8 (by decide) (by rw[List.length_append];simp[ones];omega) fun x' τ4 T4 hO H4=>?_
  repeat' (with_reducible refine W.next ?_)
  have htk:A.take (j+1)=A.take j++[a]:=by rw[kk_,hae];rfl
  exact⟨by omega,wr,T4,(HH.hle L3).trans H4,(hA.hle L3).hop H4,by rw[htk,ygy_,<-kn_];exact hO⟩
 ·repeat' (with_reducible refine W.stop ?_)
  have:j=A.length:=by omega
  subst this;rw[List.take_length]at hO;exact⟨T1,HH,hO⟩
theorem so2_w{l66:Nat}{core:List Int}{u v:AVal}{bb:Bool}(hk:Loc (σ.at T 0) l66 [.bool bb,u,v])(hc:SlV .int (σ.at T 0) core v)(hA:SlV .int (σ.at T 0) A yA)(hAl:A.length<=10)(hs:∀l∈core,l∈A/\l≠0/\-8<=l/\l<=8)(hcl:core.length<=1000)(hn:Tn σ T){p80:AVal} :
  W (loopW (S.z114.b2 xa xm true x p80 (i:Int) yA (.ptr l66 0)) (.nils,0) σ) fun r=>∃x',r.1=.inl x'/\∃T',Hop (only 29) σ T r.2 T'/\Own .int (r.2.at T' 29) (negs core) x':=by
 refine W.loop core.length (fun j (z:AVal×Int) τ=>z.2=(j:Int)/\∃T',Hop (only 29) σ T τ T'/\Loc (τ.at T' 0) l66 [.bool bb,u,v]/\SlV .int (τ.at T' 0) core v/\SlV .int (τ.at T' 0) A yA/\Own .int (τ.at T' 29) (negs (core.take j)) z.1) ⟨rfl,T,Hop.refl hn,hk,hc,hA,Own.nil⟩ fun j z τ1 hj hI=>?_;obtain⟨z1,z2⟩:=z;obtain⟨rfl,T1,HH,hk,hc,hA,kO⟩:=hI;have wr:IntKind.i64.wrap ((j:Int)+1)=((j+1:Nat):Int):=by rw[wrapS]<;>omega
 have hku:=hk.up;have hcu:=hc.up;unfold S.z114.b2
 repeat' with_reducible first|refine W.asV ?_|refine W.fldp ?_|refine W.len (by assumption) ?_|refine W.e0 ?_
 (with_reducible refine W.cnd (fun hlt=>?_) (fun hlt=>?_)<;>(try simp only[qq,Kd.ty]at hlt)<;>(try (exfalso;omega)))
 ·obtain⟨a,hae⟩:=y3_ (xs:=core) (i:=j) (by omega)
  obtain⟨h1,h2⟩:=hs a (ka_ hae);have wa:IntKind.i64.wrap (0-a) = -a:=by rw[wrapS]<;>omega
  repeat' with_reducible first|refine W.bind ?_|refine W.asV ?_|refine W.fldp ?_|refine W.e0 ?_|refine W.e2 ?_
  refine W.to (y9g_ hA.up (by omega)) ?_
  repeat' with_reducible refine W.ret ?_
  refine W.condF (by simp[h1]) ?_
  repeat' with_reducible first|refine W.asV ?_|refine W.fldp ?_|refine W.e0 ?_|refine W.e2 ?_
  rw[wa];refine W.own_push (bytes:=8) Vw.int_flat kO HH.tn (a:=-a) rfl (by simp;omega) (by simp;omega) fun x2 τ2 T2 kO H2=>?_
  repeat' (with_reducible refine W.next ?_)
  refine⟨by omega,wr,T2,HH.trans H2,hk.hop H2,hc.hop H2,hA.hop H2,?_⟩;rw[show negs (core.take (j+1))=negs (core.take j)++[-a] by rw[kk_,hae];simp[negs]];exact kO
 ·repeat' (with_reducible refine W.stop ?_)
  have:j=core.length:=by omega
  subst this;rw[List.take_length]at kO;exact⟨_,rfl,T1,HH,kO⟩
theorem so3_w(h:Inc σ T li e 8 C w xc)(hn:Tn σ T)(hcs:SlV vIs (σ.at T 0) cs y)(hr:∀c∈cs,c.length<=5/\ye_ 8 c)(hO:OL σ T 40 C x0)(hw:w<=100000000)(hCl:C.length+cs.length<=10000)(hCf:C.flatten.length+cs.flatten.length<=50000) :
  W (loopW (S.z114.b3 xa xm true (.ptr li 0) (i:Int) y) (x0,0) σ) fun r=>∃x',r.1=.inl x'/\∃T' xc',Hop vI σ T r.2 T'/\Inc r.2 T' li e 8 (C++cs) (w+cs.length) xc'/\OL r.2 T' 40 (C++cs) x':=by
 refine W.loop cs.length (fun j (z:AVal×Int) τ=>z.2=(j:Int)/\∃T' xc',Hop vI σ T τ T'/\SlV vIs (τ.at T' 0) cs y/\Inc τ T' li e 8 (C++cs.take j) (w+j) xc'/\OL τ T' 40 (C++cs.take j) z.1) ⟨rfl,T,xc,Hop.refl hn,hcs,by simpa using h,by simpa using hO⟩ fun j z τ1 hj hI=>?_;obtain⟨z1,z2⟩:=z;obtain⟨rfl,T1,xc1,HH,hcs,h,hO⟩:=hI;have wr:IntKind.i64.wrap ((j:Int)+1)=((j+1:Nat):Int):=by rw[wrapS]<;>omega
 have hcu:=hcs.up;unfold S.z114.b3
 repeat' (with_reducible refine W.len (by assumption) ?_)
 (with_reducible refine W.cnd (fun hlt=>?_) (fun hlt=>?_)<;>(try simp only[qq,Kd.ty]at hlt)<;>(try (exfalso;omega)))
 ·obtain⟨a,ha⟩:=y3_ (xs:=cs) (i:=j) (by omega)
  have ham:=ka_ ha;have htk:cs.take (j+1)=cs.take j++[a]:=by rw[kk_,ha];rfl
  have hle:=y1i_ cs (j+1);rw[htk,List.flatten_append,List.length_append]at hle;have e1:[a].flatten.length=a.length:=by simp
  have hf:(C++cs.take j).flatten.length=C.flatten.length+(cs.take j).flatten.length:=by rw[List.flatten_append,List.length_append]
  refine W.ixkLS hcs at_le ha fun v hv=>?_;refine W.bind ?_;refine W.mono (ybx_ h HH.tn (by omega) (by omega) hv (fun l hl=>y6p_ ((hr a ham).2 l hl)) (by rw[List.length_append,List.length_take];omega) (by omega)) fun r hr=>?_;obtain⟨r,τ7⟩:=r;obtain⟨er,T7,xc7,H7,h⟩:=hr;dsimp only at er H7 h⊢;subst er;replace hcs:=hcs.hop H7;replace hO:=hO.hop H7;replace HH:=HH.trans H7.iv;refine W.fnil (f:=none) rfl (W.condF rfl ?_);refine W.ixkLS hcs at_le ha fun v2 hv2=>?_;refine W.scalS hv2.up ?_;refine W.ol_push hO HH.tn hv2 (by decide) (by rw[List.length_append,List.length_take];omega) fun x' τ8 T8 hO H8=>?_
  repeat' (with_reducible refine W.next ?_)
  exact⟨by omega,wr,T8,xc7,HH.trans H8.ov,hcs.hop H8,by rw[htk,<-kn_];exact h.hop H8,by rw[htk,<-kn_];exact hO⟩
 ·repeat' (with_reducible refine W.stop ?_)
  have:j=cs.length:=by omega
  subst this;rw[List.take_length]at h hO;exact⟨_,rfl,T1,xc1,HH,h,hO⟩
end
end
section
open Go
section
variable{σ τ:Heap}{T T':Tg}{e:EnP}{n k id t li i:Nat}{x y xc xl x0 xm xa yA xall:AVal}{A c l m:List Int}{C cs ass more:List (List Int)}{w:Nat}{gl:Bool}{lg:List (Bool×List Int)}{sc:(List Int×List Int×List Int×List Int)×Int×Int}
theorem so4_w(hi:i<ass.length)(hib:i<=10)(hml:more.length<=10)(hmore:SlV vIs (σ.at T 0) more xm)(hass:SlV vIs (σ.at T 0) ass xa)(hmc:∀c∈more,c.length<=4611686018427387904)(hac:∀c∈ass,c.length<=4611686018427387904)(h:IncG gl σ T li e 8 C w xc)(hgl:i=0->gl=true)(hO:OL σ T 40 C x0)(hn:Tn σ T)(hC:gd8 C)(hCl:C.length<=1000)(hw:w<=50000000) :
  W (S.z114.b4 xa xm true (.ptr li 0) (x0,(i:Int)) σ) fun r=>r.1=.inr (.inr true)\/∃x' C' w' T' xc',r.1=.inl (x',((i+1:Nat):Int))/\Hop vI σ T r.2 T'/\Inc r.2 T' li e 8 C' w' xc'/\OL r.2 T' 40 C' x'/\gd8 C'/\C'.length<=C.length+30/\w'<=w+5000000:=by
 have wr:IntKind.i64.wrap ((i:Int)+1)=((i+1:Nat):Int):=by rw[wrapS]<;>omega
 have hmu8:6*mu 8<=4900000:=by decide
 have hau:=hass.up;have hCf:C.flatten.length<=5*C.length:=by
  have key:∀cs:List (List Int),(∀c∈cs,c.length<=5)->cs.flatten.length<=5*cs.length:=by
   intro cs
   induction cs with
   |nil=>intro _;simp
   |cons c cs ih=>
    intro h;have h1:=ih fun d hd=>h d (by simp[hd]);have h2:=h c (by simp);rw[List.flatten_cons,List.length_append,List.length_cons];omega
  exact key C fun c hc=>(hC c hc).1
 have hchk:chkC ((8:Nat):Int) C=none:=yfg_ (by omega) (by omega) (by omega) (by omega) fun c hc=>(hC c hc).2;unfold S.z114.b4
 repeat' (with_reducible refine W.len (by assumption) ?_)
 refine W.condT (by simp;omega) ?_;refine W.bind ?_;refine W.mono (P:=fun r=>r.1=.inr true\/∃x' C' w' T' xc',r.1=.inl x'/\Hop vI σ T r.2 T'/\Inc r.2 T' li e 8 C' w' xc'/\OL r.2 T' 40 C' x'/\gd8 C'/\C'.length<=C.length+30/\w'<=w+5000000) ?_ fun r hr=>?_
 ·obtain⟨a,hae⟩:=y3_ (xs:=ass) (i:=i) (by omega)
  have ham:=hac a (ka_ hae);refine W.ixkLS hass at_le hae fun v hv=>?_;have hvu:=hv.up
  repeat' (with_reducible refine W.len (by assumption) ?_)
  (with_reducible refine W.cnd (fun h10=>?_) (fun h10=>?_)<;>(try simp only[qq,Kd.ty]at h10)<;>(try (exfalso;omega)))
  ·repeat' with_reducible refine W.ret ?_
   exact .inl rfl
  refine W.bind ?_;refine W.mono (so0_w hass hae (by omega) hn) fun r hr=>?_;obtain⟨yA,τ1⟩:=r;obtain⟨T1,H1,kA⟩:=hr;dsimp only at H1 kA⊢;obtain⟨T2,H2,hA⟩:=kA.freeze Vw.int_flat H1.tn;have H12:=H1.trans H2;have HH:Hop vI σ T τ1 T2:=H12.ov;replace h:=h.hop H12;replace hmore:=hmore.hop H12;replace hass:=hass.hop H12;replace hO:=hO.hop H12;replace hn:=H12.tn;generalize hAe:y1p_ a=A at hA;have hAl:A.length<=10:=by rw[<-hAe];simp[y1p_];omega
  have hA8:∀l∈A,l≠0/\-8<=l/\l<=8:=fun l hl=>by
   rw[<-hAe]at hl;obtain⟨b,_,rfl⟩:=kq_.1 hl;exact yga_ (by decide)
  refine W.bind ?_;refine W.mono (yhy_ hO hn (by omega)) fun r hr=>?_;obtain⟨y2,τ2⟩:=r;obtain⟨T3,H3,hAll⟩:=hr;dsimp only at H3 hAll⊢;replace h:=h.hop H3;replace hmore:=hmore.hop H3;replace hass:=hass.hop H3;replace hO:=hO.hop H3;replace hA:=hA.hop H3;replace hn:=H3.tn;replace HH:=HH.trans H3.ov;refine W.bind ?_;refine W.mono (so1_w hA hAl hAll hn (by omega)) fun r hr=>?_;obtain⟨y3,τ3⟩:=r;obtain⟨T4,H4,hAll⟩:=hr;dsimp only at H4 hAll⊢;replace h:=h.hop H4;replace hmore:=hmore.hop H4;replace hass:=hass.hop H4;replace hO:=hO.hop H4;replace hA:=hA.hop H4;replace hn:=H4.tn;replace HH:=HH.trans H4.ov;obtain⟨T5,H5,hall⟩:=hAll.freeze hn (by decide);replace h:=h.hop H5;replace hmore:=hmore.hop H5;replace hass:=hass.hop H5;replace hO:=hO.hop H5;replace hA:=hA.hop H5;replace hn:=H5.tn;replace HH:=HH.trans H5.ov;refine W.bind ?_;refine W.mono (ycv_ h hn (by omega) hA (by omega) (fun l hl=>y6p_ (hA8 l hl)) (by omega)) fun r hr=>?_;obtain⟨r,τ6⟩:=r;obtain⟨T6,w6,lg,H6,h,hw6,hso,hgf⟩:=hr;dsimp only at H6 h hso⊢;replace hmore:=hmore.hop H6;replace hass:=hass.hop H6;replace hO:=hO.hop H6;replace hA:=hA.hop H6;replace hall:=hall.hop H6;replace hn:=H6.tn;replace HH:=HH.trans H6.iv;obtain⟨e2,b,u,v',e1⟩:=hso.agg;obtain⟨r1,r2⟩:=r;dsimp only at e1 e2⊢;subst e1 e2;refine W.newA hn rfl rfl fun l66 τ7 _ L7 k66 _=>?_;replace hmore:=hmore.hle L7;replace hass:=hass.hle L7;replace hO:=hO.hle L7;replace hA:=hA.hle L7;replace hall:=hall.hle L7;replace h:=h.hle L7;replace hn:=hn.mono L7;replace hso:=hso.hle L7;replace HH:=HH.hle L7;refine W.scalS hall.up ?_;have hgd:gd8 (C++ones A):=yd6_ hC (yhm_ hA8);have hol:(ones A).length=A.length:=by simp[ones]
  refine W.bind ?_;refine W.mono (sat_w (vars:=8) (by omega) hall.up (fun c hc=>(hgd c hc).2) (by rw[List.length_append];omega) fun c hc=>by have:=(hgd c hc).1;omega) fun r hr=>?_;obtain⟨⟨yr,is⟩,τ8⟩:=r;obtain⟨L8,hs⟩:=hr;dsimp only at L8 hs⊢;replace hmore:=hmore.hle L8;replace hass:=hass.hle L8;replace hO:=hO.hle L8;replace hA:=hA.hle L8;replace hall:=hall.hle L8;replace h:=h.hle L8;replace k66:=k66.hle L8;replace hn:=hn.mono L8;replace hso:=hso.hle L8;replace HH:=HH.hle L8;have key:(∃M,b=true/\is=true/\SlV .bool (τ8.at T6 0) M u/\M.length=9/\mods (mOf M) (C++ones A))\/(∃core lg0,b=false/\is=false/\SlV .int (τ8.at T6 0) core v'/\(∀l∈core,l∈A)/\core.length<=9/\lg=lg0++[(false,negs core)]):=by
   rcases hso with ⟨_,M,e,hM,hMl,hmo,hh⟩|⟨_,core,lg0,e,hc,hsub,hno,hlc,hlg⟩
   ·cases e
    have hall:mods (mOf M) (C++ones A):=ybb_.2 ⟨hmo,ya7_.2 hh⟩;rcases hs with ⟨rfl,_⟩|⟨_,_,hno⟩
    ·exact .inl ⟨M,rfl,rfl,hM,hMl,hall⟩
    ·exact absurd hall (hno _)
   ·cases e
    rcases hs with ⟨_,m,_,_,hmo⟩|⟨rfl,_⟩
    ·obtain⟨h1,h2⟩:=ybb_.1 hmo
     exact absurd (fun l hl=>ya7_.1 h2 l (hsub l hl)) (hno _ h1)
    ·exact .inr ⟨core,lg0,rfl,rfl,hc,hsub,hlc,hlg⟩
  have k66u:=k66.up;refine W.bind ?_;refine W.mono (P:=fun r=>r=false) ?_ fun r hr=>?_
  ·refine W.fnil (f:=none) rfl (W.condF rfl ?_)
   repeat' with_reducible first|refine W.asB ?_|refine W.e0 ?_
   rcases key with ⟨M,rfl,rfl,hM,hMl,hmo⟩|⟨core,lg0,rfl,rfl,_⟩
   ·refine W.condF rfl ?_
    refine W.condT rfl ?_;have hMu:=hM.up
    repeat' with_reducible first|refine W.bind ?_|refine W.asV ?_|refine W.e0 ?_
    refine W.mono (of_w hall.up hMu (by rw[List.length_append];omega) fun c hc=>⟨by have:=(hgd c hc).1;omega,fun l hl=>by have:=(hgd c hc).2 l hl;simp[inB];omega⟩) fun r hr=>?_;subst hr
    repeat' with_reducible refine W.ret ?_
    rw[(y8d_ fun c hc l hl=>by have:=(hgd c hc).2 l hl;rw[hMl];omega).2 hmo];rfl
   ·refine W.condF rfl ?_
    refine W.condF rfl ?_
    repeat' with_reducible refine W.ret ?_
    rfl
  subst hr;refine W.condF rfl ?_;refine W.bind ?_;refine W.mono (P:=fun r=>r.1=.inl ()/\∃T',Hop vI σ T r.2 T'/\Inc r.2 T' li e 8 C w6 xc/\OL r.2 T' 40 C x0/\SlV vIs (r.2.at T' 0) more xm) ?_ fun r hr=>?_
  ·rcases key with ⟨M,rfl,rfl,_⟩|⟨core,lg0,rfl,rfl,hc,hsub,hlc,hlg⟩
   ·refine W.condF rfl ?_
    repeat' with_reducible refine W.ret ?_
    exact⟨rfl,T6,HH,h.inc,hO,hmore⟩
   ·refine W.condT rfl ?_
    refine W.bind ?_;refine W.mono (so2_w k66 hc hA hAl (fun l hl=>⟨hsub l hl,hA8 l (hsub l hl)⟩) (by omega) hn) fun r hr=>?_;obtain⟨r,τ9⟩:=r;obtain⟨yg,er,T9,H9,kG⟩:=hr;dsimp only at er H9 kG⊢;subst er;replace h:=h.hop H9;replace hmore:=hmore.hop H9;replace hO:=hO.hop H9;replace hn:=H9.tn;replace HH:=HH.trans H9.ov;obtain⟨T10,H10,hG⟩:=kG.freeze Vw.int_flat hn;replace h:=h.hop H10;replace hmore:=hmore.hop H10;replace hO:=hO.hop H10;replace hn:=H10.tn;replace HH:=HH.trans H10.ov;refine W.bind ?_;refine W.mono (P:=fun r=>r.1=false/\∃T',Hop vI σ T r.2 T'/\Inc r.2 T' li e 8 C w6 xc/\OL r.2 T' 40 C x0/\SlV vIs (r.2.at T' 0) more xm) ?_ fun r hr=>?_
    ·by_cases hi0:i=0
     ·subst hi0
      obtain⟨hLF,D,hrun⟩:=hgf (hgl rfl);obtain⟨hl1,hl2⟩:=hLF;have hll:lg.length<=20000:=by
       have e:2*((2 ^ 8 / 2)*(2 ^ 8 / 2 / 8+2))+1<=20000:=by decide
       omega
      have hlc':∀st∈lg,st.2.length<=10:=fun st hst=>by have:=(hl1 st hst).1;omega
      have hfb:=y5e_ hlc';refine W.condT rfl ?_;refine W.bind ?_;refine W.mono (yf5_ h.inc hn (by omega) fun c hc=>by have:=(hC c hc).1;omega) fun r hr=>?_;obtain⟨r,τ11⟩:=r;obtain⟨T11,yb,er,H11,hb⟩:=hr;dsimp only at er H11 hb⊢;subst er;replace h:=h.hop H11;replace hmore:=hmore.hop H11;replace hO:=hO.hop H11;replace hG:=hG.hop H11;replace hn:=H11.tn;replace HH:=HH.trans H11.ov;refine W.bind ?_;refine W.mono (yhu_ h hn (by omega) fun st hst=>by have:=hlc' st hst;omega) fun r hr=>?_;obtain⟨yl,τ12⟩:=r;obtain⟨T12,H12,hL⟩:=hr;dsimp only at H12 hL⊢;replace h:=h.hop H12;replace hmore:=hmore.hop H12;replace hO:=hO.hop H12;replace hG:=hG.hop H12;replace hb:=hb.hop H12;replace hn:=H12.tn;replace HH:=HH.trans H12.ov;refine W.bind ?_;refine W.mono (ycn_ (vars:=((8:Nat):Int)) hb.up hL.up hG.up (by omega) (by omega) (by omega) (by omega) (by simp[negs];omega)) fun r hr=>?_;obtain⟨r,τ13⟩:=r;obtain⟨L13,er⟩:=hr;dsimp only at L13 er⊢;subst er;subst hlg;rw[hrun.derive hchk ⟨hl1,hl2⟩ (by omega)];refine W.agI ?_
      repeat' with_reducible refine W.ret ?_
      exact⟨rfl,T12,HH.hle L13,h.inc.hle L13,hO.hle L13,hmore.hle L13⟩
     ·refine W.condF (by simp;exact hi0) ?_
      repeat' with_reducible refine W.ret ?_
      exact⟨rfl,T10,HH,h.inc,hO,hmore⟩
    ·obtain⟨r,τ11⟩:=r
     obtain⟨er,hr⟩:=hr;dsimp only at er;subst er;refine W.condF rfl ?_
     repeat' with_reducible refine W.ret ?_
     exact⟨rfl,hr⟩
  obtain⟨r,τ9⟩:=r;obtain⟨er,T9,HH,h,hO,hmore⟩:=hr;dsimp only at er HH h hO hmore;subst er;dsimp only;have hn:=HH.tn;have hmu:=hmore.up;refine W.bind ?_;refine W.mono (P:=fun r=>r=true->∃m,more[i]?=some m/\m.length<=30) ?_ fun r hr=>?_
  ·repeat' (with_reducible refine W.len (by assumption) ?_)
   (with_reducible refine W.cnd (fun hm=>?_) (fun hm=>?_)<;>(try simp only[qq,Kd.ty]at hm)<;>(try (exfalso;omega)))
   ·obtain⟨m,hme⟩:=y3_ (xs:=more) (i:=i) (by omega)
    refine W.ixkLS hmore at_le hme fun v hv=>?_;have hvu:=hv.up
    repeat' with_reducible first|refine W.ret ?_|refine W.len (by assumption) ?_
    exact fun q=>⟨m,hme,by
     have:(m.length:Int)<=30:=by simpa using q
     omega⟩
   ·repeat' with_reducible refine W.ret ?_
    exact fun q=>by cases q
  cases r with
  |false=>
   refine W.condF rfl ?_
   repeat' with_reducible refine W.ret ?_
   exact .inr ⟨x0,C,w6,T9,xc,rfl,HH,h,hO,hC,by omega,by omega⟩
  |true=>
   obtain⟨m,hme,hm30⟩:=hr rfl;refine W.condT rfl ?_;refine W.ixkLS hmore at_le hme fun v2 hv2=>?_;refine W.bind ?_;refine W.mono (y9y_ hv2.up (by omega) (vars:=8) (by omega)) fun r hr=>?_;obtain⟨y3,τ10⟩:=r;obtain⟨L10,hAc⟩:=hr;dsimp only at L10 hAc⊢;have hds:=hAc.atF fun k hk=>hn.z k hk;obtain⟨ck1,ck2,ck3⟩:=y4c_ m 8;refine W.bind ?_;refine W.mono (so3_w (h.hle L10) (hn.mono L10) hds (fun c hc=>(ck1 c hc).2) (hO.hle L10) (by omega) (by omega) (by omega)) fun r hr=>?_;obtain⟨r,τ11⟩:=r;obtain⟨x',er,T11,xc11,H11,h,hO⟩:=hr;dsimp only at er H11 h hO⊢;subst er
   repeat' with_reducible refine W.ret ?_
   exact .inr ⟨x',_,_,T11,xc11,rfl,(HH.hle L10).trans H11,h,hO,yd6_ hC fun c hc=>(ck1 c hc).2,by rw[List.length_append];omega,by omega⟩
 ·obtain⟨r,τ2⟩:=r
  rcases hr with er|⟨x',C',w',T2,xc',er,H2,h,hO,hC',hl',hw'⟩
  ·dsimp only at er
   subst er;exact W.ret (.inl rfl)
  ·dsimp only at er H2 h hO
   subst er;refine W.ret (.inr ⟨x',C',w',T2,xc',?_,H2,h,hO,hC',hl',hw'⟩);rw[wr]
theorem y7m_{l:List Int}{xl xa xm xs:AVal}(hl:SlV .int σ l xl)(hsc:ScV σ xs sc)(hass:SlV vIs σ ass xa)(hmore:SlV vIs σ more xm)(b1:l.length<=4611686018427387904)(b2:ass.length<=4611686018427387904)(b3:more.length<=4611686018427387904)(hac:∀c∈ass,c.length<=4611686018427387904)(hmc:∀c∈more,c.length<=4611686018427387904):W (S.z114 xl xs xa xm σ) fun r=>r.1=true:=by
 have hl:=hl.tz0;have hass:=hass.tz0;have hmore:=hmore.tz0;have hn:Tn σ Tz:=Tn.tz;obtain⟨x0,x1,x2,x3,rfl,s0,s1,s2,s3⟩:=hsc;unfold S.z114
 repeat' (with_reducible refine W.e3 ?_)
 refine W.new0 hn fun l2 τ1 _ L1 k2 hn=>?_;have hx:ScV (τ1.at Tz 0) (.agg [x0,x1,x2,x3,.int .i64 sc.2.1,.int .i64 sc.2.2]) sc:=⟨x0,x1,x2,x3,rfl,s0.tz0.hle L1,s1.tz0.hle L1,s2.tz0.hle L1,s3.tz0.hle L1⟩
 clear s0 s1 s2 s3
 replace hl:=hl.hle L1;replace hass:=hass.hle L1;replace hmore:=hmore.hle L1
 repeat' (with_reducible refine W.bind ?_)
 refine W.mono (ygk_ hn) fun r hr=>?_;obtain⟨r,τ2⟩:=r;obtain⟨er,T2,H2⟩:=hr;dsimp only at er H2⊢;subst er;replace hl:=hl.hop H2;replace hass:=hass.hop H2;replace hmore:=hmore.hop H2;replace hx:=hx.hop H2;replace k2:=k2.hop H2;replace hn:=H2.tn;have hlu:=hl.up;have hau:=hass.up;have hmu:=hmore.up;refine W.condF rfl ?_
 repeat' with_reducible first|refine W.bind ?_|refine W.len (by assumption) ?_
 (with_reducible refine W.cnd (fun hbig=>?_) (fun hbig=>?_)<;>(try simp only[qq,Kd.ty]at hbig)<;>(try (exfalso;omega)))
 ·repeat' with_reducible refine W.ret ?_
  refine W.condT rfl ?_
  repeat' with_reducible refine W.ret ?_
  rfl
 repeat' (with_reducible refine W.len (by assumption) ?_)
 (with_reducible refine W.cnd (fun hbig2=>?_) (fun hbig2=>?_)<;>(try simp only[qq,Kd.ty]at hbig2)<;>(try (exfalso;omega)))
 ·repeat' with_reducible refine W.ret ?_
  refine W.condT rfl ?_
  repeat' with_reducible refine W.ret ?_
  rfl
 repeat' (with_reducible refine W.len (by assumption) ?_)
 (with_reducible refine W.cnd (fun hbig3=>?_) (fun hbig3=>?_)<;>(try simp only[qq,Kd.ty]at hbig3)<;>(try (exfalso;omega)))
 ·repeat' with_reducible refine W.ret ?_
  refine W.condT rfl ?_
  repeat' with_reducible refine W.ret ?_
  rfl
 repeat' with_reducible first|refine W.bind ?_|refine W.u1 ?_
 refine W.mono (yi2_ hx.up) fun r hr=>?_;obtain⟨r,τ3⟩:=r;obtain⟨er,L3⟩:=hr;dsimp only at er L3⊢;replace hl:=hl.hle L3;replace hass:=hass.hle L3;replace hmore:=hmore.hle L3;replace hx:=hx.hle L3;replace k2:=k2.hle L3;replace hn:=hn.mono L3
 repeat' with_reducible refine W.ret ?_
 by_cases hsm:¬ScS sc
 ·have:r=false:=by
   cases r
   ·rfl
   ·exact absurd (er.1 rfl) hsm
  subst this;refine W.condT rfl ?_
  repeat' with_reducible refine W.ret ?_
  rfl
 replace hsm:=Classical.not_not.1 hsm;obtain rfl:r=true:=er.2 hsm;refine W.condF rfl ?_
 repeat' with_reducible first|refine W.bind ?_|refine W.u1 ?_
 refine W.mono (yi6_ true hx hn hsm hl (by omega)) fun r hr=>?_;obtain⟨r,τ4⟩:=r;obtain⟨T4,li,e,w,xc,yc,er,H4,h,hO,hw⟩:=hr;dsimp only at er H4 h hO⊢;subst er;replace hass:=hass.hop H4;replace hmore:=hmore.hop H4;replace hn:=H4.tn;obtain⟨ck1,ck2,ck3⟩:=y4c_ l 8;generalize hcse:y16_ l 8=cs at *;refine W.condF (x:=some (false,τ4)) rfl ?_;refine W.bind ?_;refine W.mono (P:=fun r=>r.1=.inl ()\/r.1=.inr true) ?_ fun r hr=>?_
 ·refine W.loop ass.length (fun i (z:AVal×Int) τ=>z.2=(i:Int)/\∃T' C w xc gl,Hop vI τ4 T4 τ T'/\SlV vIs (τ.at T' 0) ass xa/\SlV vIs (τ.at T' 0) more xm/\IncG gl τ T' li e 8 C w xc/\(i=0->gl=true)/\OL τ T' 40 C z.1/\gd8 C/\C.length<=100+30*i/\w<=1000+5000000*i) ⟨rfl,T4,cs,w,xc,true,Hop.refl hn,hass,hmore,h,fun _=>rfl,hO,fun c hc=>(ck1 c hc).2,by omega,by omega⟩ fun i z τ5 hi hI=>?_
  obtain⟨z1,z2⟩:=z;obtain⟨rfl,T5,C,w5,xc5,gl,HH,hass,hmore,h,hgl,hO,hC,hCl,hw5⟩:=hI;by_cases hlt:i<ass.length
  ·refine W.mono (so4_w hlt (by omega) (by omega) hmore hass hmc hac h hgl hO HH.tn hC (by omega) (by omega)) fun r hr=>?_
   obtain⟨r,τ6⟩:=r;rcases hr with er|⟨x',C',w',T6,xc',er,H6,h,hO,hC',hl',hw'⟩
   ·dsimp only at er
    subst er;exact .inr rfl
   ·dsimp only at er H6 h hO
    subst er;have e1:C'.length<=100+30*(i+1):=by omega
    have e2:w'<=1000+5000000*(i+1):=Nat.le_trans (Nat.le_trans hw' (Nat.add_le_add_right hw5 5000000)) (Nat.le_of_eq (by rw[Nat.mul_succ,Nat.add_assoc]));exact⟨hlt,rfl,T6,C',w',xc',false,HH.trans H6,hass.hop H6,hmore.hop H6,h,(fun q=>absurd q (Nat.succ_ne_zero i)),hO,hC',e1,e2⟩
  ·have hau:=hass.up
   unfold S.z114.b4
   repeat' (with_reducible refine W.len (by assumption) ?_)
   refine W.condF (by simp;omega) ?_
   repeat' (with_reducible refine W.stop ?_)
   exact .inl rfl
 ·obtain⟨r,τ5⟩:=r
  rcases hr with er|er
  ·dsimp only at er
   subst er
   repeat' with_reducible refine W.ret ?_
   rfl
  ·dsimp only at er
   subst er
   repeat' with_reducible refine W.ret ?_
   rfl
end
end
end Go.Proofs.YtafbldhedkallaaGreatDoor.A
end
