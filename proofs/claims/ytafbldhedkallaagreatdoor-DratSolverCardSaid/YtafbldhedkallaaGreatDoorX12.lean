/- Parts of the proof, one behind another. -/
import Derived.Test.YtafbldhedkallaaGreatDoorX11
import Derived.Test.YtafbldhedkallaaGreatDoorX10
import Derived.Test.YtafbldhedkallaaGreatDoorX9
set_option linter.all false
noncomputable section
namespace Go.Proofs.YtafbldhedkallaaGreatDoor.A
section
open Go
def eJ:Nat->Bool:=fun j=>eI j||j==37
theorem Hop.ej{σ τ:Heap}{T T':Tg}(H:Hop eI σ T τ T'):Hop eJ σ T τ T':=H.sub fun i hi=>by simp[eJ,hi]
theorem Hop.ej37{σ τ:Heap}{T T':Tg}(H:Hop (only 37) σ T τ T'):Hop eJ σ T τ T':=H.sub fun i hi=>by
 have:i=37:=by simpa using hi
 rw[this];rfl
def mu(n:Nat):Nat:=(2 ^ n / 2 / 8+2)*(2 ^ (n+1)+1)+2 ^ (n+1)
def addsL(lg:List (Bool×List Int)):Nat:=(lg.filter fun st => !st.1).length
theorem yat_{a b:List (Bool×List Int)}:addsL (a++b)=addsL a+addsL b:=by unfold addsL;rw[List.filter_append,List.length_append]
theorem yen_{ds:List (Bool×List Int)}(h:∀d∈ds,d.1=true):addsL ds=0:=by
 unfold addsL;rw[List.filter_eq_nil_iff.2 fun d hd=>by simp[h d hd]];rfl
def LgB(n:Nat)(ln:List (Int×Int))(lg:List (Bool×List Int))(since least:Int):Prop:=
 (∀st∈lg,st.2.length<=n/\∀x∈st.2,isL x n=true)/\lg.length+ln.length<=2*addsL lg/\8*(addsL lg:Int)<=(least-16)*(2 ^ n / 2:Nat)+8*since
theorem LgB.learn{n:Nat}{ln ln':List (Int×Int)}{lg lg':List (Bool×List Int)}{since least:Int}(h:LgB n ln lg since least)(hs:LgS n ln lg ln' lg'):LgB n ln' lg' (since+1) least:=by
 obtain⟨h1,h2,h3⟩:=h;obtain⟨k,hk,ds,rfl,hd,hl⟩:=hs;have e:addsL (lg++[(false,k)]++ds)=addsL lg+1:=by
  rw[yat_,yat_,yen_ fun d hm=>(hd d hm).1];rfl
 refine⟨fun st hst=>?_,?_,?_⟩
 ·rcases List.mem_append.1 hst with q|q
  ·rcases List.mem_append.1 q with q|q
   ·exact h1 st q
   ·rw[List.mem_singleton.1 q];exact hk
  ·exact(hd st q).2
 ·rw[e];simp;omega
 ·rw[e];omega
theorem LgB.anew{n:Nat}{ln:List (Int×Int)}{lg:List (Bool×List Int)}{since least:Int}(h:LgB n ln lg since least)(hs:since<=(2 ^ n / 2:Nat)):LgB n ln lg 0 (least+8):=by
 obtain⟨h1,h2,h3⟩:=h;refine⟨h1,h2,?_⟩;generalize (2 ^ n / 2:Nat)=B at h3 hs⊢;rw[show least+8-16=(least-16)+8 by omega,Int.add_mul];omega
def LgF(n:Nat)(lg:List (Bool×List Int)):Prop:=(∀st∈lg,st.2.length<=n+1/\∀x∈st.2,isL x n=true)/\lg.length<=2*((2 ^ n / 2)*(2 ^ n / 2 / 8+2))+1
theorem LgB.fin{n:Nat}{ln:List (Int×Int)}{lg:List (Bool×List Int)}{since least:Int}(h:LgB n ln lg since least)(hs:since<=(2 ^ n / 2:Nat))(hl:least<=(2 ^ n / 2:Nat)+16){c:List Int}(hc:c.length<=n+1/\∀x∈c,isL x n=true):LgF n (lg++[(false,c)])/\LgF n lg:=by
 obtain⟨h1,h2,h3⟩:=h;have key:lg.length<=2*((2 ^ n / 2)*(2 ^ n / 2 / 8+2)):=by
  generalize (2 ^ n / 2:Nat)=B at h3 hs hl⊢;have h4:(least-16)*(B:Int)<=(B:Int)*B:=Int.mul_le_mul_of_nonneg_right (by omega) (by omega);have h6:8*(addsL lg:Int)<=(B:Int)*B+8*B:=by omega
  have h7:B*B<=B*(8*(B / 8)+7):=Nat.mul_le_mul_left _ (by omega);have h8:B*(8*(B / 8)+7)=8*(B*(B / 8))+7*B:=by rw[Nat.mul_add,Nat.mul_left_comm];omega
  have h9:B*(B / 8+2)=B*(B / 8)+2*B:=by rw[Nat.mul_add];omega
  rw[<-Int.natCast_mul]at h6;omega
 refine⟨⟨fun st hst=>?_,by simp;omega⟩,fun st hst=>⟨Nat.le_trans (h1 st hst).1 (Nat.le_succ n),(h1 st hst).2⟩,by omega⟩;rcases List.mem_append.1 hst with q|q
 ·exact⟨Nat.le_trans (h1 st q).1 (Nat.le_succ n),(h1 st q).2⟩
 ·rw[List.mem_singleton.1 q];exact hc
def SoR(σ:Heap)(T:Tg)(n:Nat)(C:List (List Int))(A:List Int)(lg:List (Bool×List Int))(r:AVal×AVal):Prop:=
 (∃y M,r=(.agg [.bool true,y,.nils],.nili)/\SlV .bool (σ.at T 0) M y/\M.length=n+1/\mods (mOf M) C/\∀a∈A,holds (mOf M) a=true) \/
 (∃y core lg0,r=(.agg [.bool false,.nils,y],.nili)/\SlV .int (σ.at T 0) core y/\(∀l∈core,l∈A)/\(∀m,mods m C->¬ ∀l∈core,holds m l=true)/\core.length<=n+1/\lg=lg0++[(false,negs core)])
section
variable{σ τ:Heap}{T T':Tg}{e:EnP}{n k id:Nat}{s:PS}{hs:List Int}{ln:List (Int×Int)}{lg:List (Bool×List Int)}{since least:Int}{x:AVal}{A:List Int}{gl:Bool}{C:List (List Int)}{w:Nat}
theorem W.eqSn{R:Type}{Q:R->Prop}{K:Bool->Option R}(c:W (K true) Q):W (eqS .nils .nils K) Q:=c
theorem id'{p:Prop}(h:p):p:=h
theorem AsI.addC{l:List Int}(h:AsI s A):AsI (s.addC l) A:=h
theorem yh0_{l1:Nat}(E:EnX σ T e n s hs ln lg since least)(hc:SlV .int (σ.at T 0) A x)(hAL:A.length<=100000)(hl1:Loc (σ.at T 0) l1 [.ptr e.le 0])(hv:s.vs.length=n+1)(hn4:n<=4000)(hAb:∀l∈A,inB l=true){f:AVal}(hf:∀l∈A,∀{Rt:Type} (K:AVal->Heap->Option Rt),callV S.z132.T f [.int .i64 l] σ K=(S.z105 l (.ptr l1 0) σ).bind fun x=>K (retV [.B] x) σ) :
  W (S.z128 x f σ) fun r=>r=(A.any fun l => !isL l n,σ):=by
 refine y1c_ (fun l => !isL l n) hc.up (by omega) fun l hl Rt K=>?_;rw[hf l hl];have e1:S.z105 l (.ptr l1 0) σ=some (!isL l n):=by
  obtain⟨r,er,rfl⟩:W (S.z105 l (.ptr l1 0) σ) fun r=>r = !isL l n:=by
   obtain⟨h,xs,xl,xg,conf,bump,most,sv,ws,E⟩:=E;have k1:=E.obj;have hlb:=hAb l hl;simp only[inB,Bool.and_eq_true,decide_eq_true_eq]at hlb;unfold S.z105
   repeat' with_reducible first|refine W.bind ?_|refine W.asV ?_|refine W.fldp ?_|refine W.nck ?_|refine W.u0 ?_
   refine W.to (y3f_ E.prop hv hn4) ?_
   repeat' with_reducible first|refine W.ret ?_|refine W.bind ?_
   refine W.to (y18_ (by omega) (by omega)) ?_
   repeat' with_reducible refine W.ret ?_
   rfl
  exact er
 rw[e1];rfl
theorem yix_(E:EnX σ T e n s hs ln lg since least)(hn:Tn σ T)(L:EnL gl n C s hs ln lg since least w)(hn20:n<=20)(hmk:s.marks=[])(hc:SlV .int (σ.at T 0) A x)(hAl:A.length<=100000)(hAL:∀l∈A,isL l n=true)(hw:w+6*mu n<=850000000000)(hgl:gl=true->since=0/\least=16/\LgB n ln lg since least) :
    W (S.z104 (.ptr e.le 0) x σ) fun r=>∃T' s' hs' ln' lg' since' least' w',Hop eJ σ T r.2 T'/\EnX r.2 T' e n s' hs' ln' lg' since' least'/\EnL gl n C s' hs' ln' lg' since' least' w'/\w'<=w+6*mu n+10/\s'.marks=[]/\SoR r.2 T' n C A lg' r.1/\(gl=true->LgF n lg'):=by
  have hn4:n<=4000:=by omega
  have hAb:∀l∈A,inB l=true:=fun l hl=>y7f_ (hAL l hl) hn4;unfold S.z104
  repeat' (with_reducible refine W.scP ?_)
  refine W.new0 hn fun l1 τ1 _ L1 hl1 hn1=>?_;have hE1:EnX τ1 T e n s hs ln lg since least:=by
    obtain⟨h,xs,xl,xg,conf,bump,most,sv,ws,E⟩:=E;exact⟨h,xs,xl,xg,conf,bump,most,sv,ws,E.hle L1⟩
  replace hc:=hc.hle L1;have HH:Hop eJ σ T τ1 T:=Hop.of hn L1;have hn:=hn1;refine W.newT 37 hn fun l3 τ2 T2 hl3 H2 k37 hnτ2=>?_;replace HH:=HH.trans H2.ej37;have hE2:EnX τ2 T2 e n s hs ln lg since least:=by
    obtain⟨h,xs,xl,xg,conf,bump,most,sv,ws,E⟩:=hE1;exact⟨h,xs,xl,xg,conf,bump,most,sv,ws,E.hopE H2⟩
  replace hc:=hc.hop H2;replace hl1:=hl1.hop H2;refine W.bind ?_;refine W.mono (yh0_ hE2 hc (by omega) hl1 L.si.ti.len.vs hn4 hAb (fun l hl Rt K=>rfl)) fun r hr=>?_;subst hr;dsimp only;have hany:(A.any fun l => !isL l n)=false:=by
    rw[List.any_eq_false];intro l hl;simp[hAL l hl]
  refine W.condF hany ?_
  repeat' with_reducible first|refine W.bind ?_|refine W.asV ?_|refine W.u0 ?_
  have hB1:1<=2 ^ n:=Nat.one_le_two_pow;obtain⟨B,hBd⟩:∃B,B=2 ^ n / 2:=⟨_,rfl⟩;obtain⟨M,hMd⟩:∃M,M=2 ^ (n+1):=⟨_,rfl⟩;have hmuB:mu n=(B / 8+2)*(M+1)+M:=by unfold mu;rw[hBd,hMd]
  refine W.mono (P:=fun r=>r.1=.nili/\∃T' s' hs' ln' lg' since' least' w',Hop eJ σ T r.2 T'/\EnX r.2 T' e n s' hs' ln' lg' since' least'/\EnL gl n C s' hs' ln' lg' since' least' w'/\w'<=w+6*mu n+6/\(gl=true->LgF n lg')/\∃cs,Loc (r.2.at T' 37) l3 cs/\cs.length=3/\SoR r.2 T' n C A lg' (.agg cs,.nili)) ?_ fun r hr=>?_
  · refine W.loopI (m:=mu n) (fun m (_:Unit) τ=>∃(T':Tg) (s':PS) (hs':List Int) (ln':List (Int×Int)) (lg':List (Bool×List Int)) (since' least':Int) (w' cc uu fs:Nat) (cs:List AVal),Hop eJ σ T τ T'/\EnX τ T' e n s' hs' ln' lg' since' least'/\EnL gl n C s' hs' ln' lg' since' least' w' /\
        SlV .int (τ.at T' 0) A x/\Loc (τ.at T' 0) l1 [.ptr e.le 0]/\Loc (τ.at T' 37) l3 cs/\cs.length=3/\AsI s' A/\Rd s' s'.loose (-1)/\CdI n s' (2*cc) uu/\cc<=B/\uu<=M/\fs<=1/\(fs=0->since'<=cc) /\
        (((B:Int)+8-least').toNat / 8+fs)*(M+1)+(M-uu)<=m/\w'+6*m<=w+6*mu n/\(gl=true->fs=0/\least'<=(B:Int)+16/\LgB n ln' lg' since' least')) ?_ fun m _ τ hI2=>?_
    · have z6:=L.z6
      have hR:(((B:Int)+8-least).toNat / 8+(if gl=true then 0 else 1))*(M+1)<=(B / 8+2)*(M+1):=Nat.mul_le_mul_right _ (by split<;>omega);exact⟨T2,s,hs,ln,lg,since,least,w,0,0,if gl=true then 0 else 1,_,HH,hE2,L,hc,hl1,k37,rfl,AsI.nil hmk,.inl hmk,.inl ⟨Nat.zero_le _,Nat.zero_le _⟩,Nat.zero_le _,Nat.zero_le _,by split<;>omega,fun q=>by
        split at q
        · rename_i hg
          have:=(hgl hg).1;omega
        · omega,by rw[hmuB,Nat.sub_zero];omega,by omega,fun hg=>⟨if_pos hg,by have:=(hgl hg).2.1;omega,(hgl hg).2.2⟩⟩
    · obtain ⟨T1,s1,hs1,ln1,lg1,since1,least1,w1,cc,uu,fs,cs,HH,E1,L1,hc,hl1,k37,hcs,hAs,hRd,hCd,hcc,huu,hfs,hsf,hmm,hww,hLg⟩:=hI2
      have hw1:w1<=850000000000:=by omega
      have z1:=L1.z1;have z2:=L1.z2;have z5:=L1.z5;have z6:=L1.z6;have hl1u:=hl1.up;unfold S.z104.b0
      repeat' with_reducible first|refine W.asV ?_|refine W.fldp ?_|refine W.e0 ?_|refine W.nck ?_
      obtain⟨h,xs,xl,xg,conf,bump,most,sv,ws,E1⟩:=E1;have k1:=E1.obj
      repeat' with_reducible first|refine W.bind ?_|refine W.asV ?_|refine W.u0 ?_
      refine W.mono (ycu_ E1.prop HH.tn L1.si hn4 (by omega) (by omega) hRd) fun r hr=>?_;obtain⟨out,τ3⟩:=r;obtain⟨T3,h3,s3,H3,p3,ho,PR⟩:=hr;dsimp only at H3 p3 ho PR⊢;have hti3:=PR.si.ti;have hlT3:=hti3.lenT;have hlE:=PR.ex.lenT;have hen:=PR.en;have L3:EnL gl n C s3 hs1 ln1 lg1 since1 least1 (w1+1):=L1.step PR.si PR.ex.ceq (fun v h1 h2 h4=>L1.hp v h1 h2 (by
        rw[L1.si.ti.zero];rw[hti3.zero]at h4;exact⟨fun q=>h4.1 (PR.ex.mem q),fun q=>h4.2 (PR.ex.mem q)⟩)) (by omega)
      have E3:EnX τ3 T3 e n s3 hs1 ln1 lg1 since1 least1:=⟨h3,xs,xl,xg,conf,bump,most,sv,ws,E1.obj.hop H3,p3,E1.heap.hopJ H3,E1.pace.hop H3,E1.most,E1.sav.hop H3,E1.svl,E1.lrn.hop H3,E1.log.hop H3,E1.all.hop H3⟩;have hAs3:=hAs.ext L1.si.ti PR.ex;have hCW:=hCd.ext PR.ex L1.si.ti hti3;replace HH:=HH.trans H3.je.ej;replace hc:=hc.hop H3;replace hl1:=hl1.hop H3;replace k37:=k37.hop H3;have hl1u:=hl1.up
      clear k1
      (with_reducible refine W.cnd (fun hout=>?_) (fun hout=>?_)<;>(try simp only[qq,Kd.ty]at hout)<;>(try (exfalso;omega)))
      · have hne:out≠-1:=by omega
        obtain⟨id,c,fl,eid,hcl,hfl,hcx⟩:=PR.bad hne;subst eid
        repeat' with_reducible first|refine W.asV ?_|refine W.fldp ?_|refine W.e0 ?_|refine W.nck ?_
        obtain⟨h',xs',xl',xg',conf',bump',most',sv',ws',E3'⟩:=id' E3;have k1:=E3'.obj
        repeat' with_reducible first|refine W.bind ?_|refine W.asV ?_|refine W.u0 ?_
        refine W.to (y7c_ E3'.prop) ?_
        repeat' with_reducible refine W.ret ?_
        by_cases hm0:s3.marks=[]
        · refine W.condT (by simp[hm0]) ?_
          have hC0:=yjz_ hti3 hm0 hcl hfl
          repeat' with_reducible first|refine W.bind ?_|refine W.asV ?_|refine W.e0 ?_
          refine W.mono (yc4_ (core:=[]) (x:=.nils) E3 HH.tn L3 (by omega) (.inl ⟨rfl,rfl⟩) (by simp) (fun l hl=>by cases hl) hC0) fun r hr=>?_;obtain⟨r,τ4⟩:=r;obtain⟨T4,H4,er,E4,L4⟩:=hr;dsimp only at er H4 E4⊢;subst er;replace HH:=HH.trans H4.ej;replace k37:=k37.hop H4
          repeat' (with_reducible refine W.e3 ?_)
          have hn:=HH.tn;refine W.stT k37 hn (by simp[hcs]) fun τ5 H5 k37 _=>?_;have e5:cs.take 0++[.bool false,.nils,.nils]++cs.drop (0+[AVal.bool false,.nils,.nils].length)=[.bool false,.nils,.nils]:=by simp[hcs]
          rw[e5]at k37;have E5:EnX τ5 T4 e n s3 hs1 ln1 (lg1++[(false,negs [])]) since1 least1:=by
            obtain⟨h,xs,xl,xg,conf,bump,most,sv,ws,E4⟩:=E4;exact⟨h,xs,xl,xg,conf,bump,most,sv,ws,E4.hopE H5⟩
          repeat' (with_reducible refine W.stop ?_)
          exact⟨rfl,T4,s3,hs1,ln1,_,since1,least1,_,HH.trans H5.ej37,E5,L4,by omega,fun hg=>by
            obtain⟨g1,g2,g3⟩:=hLg hg;have:=hsf g1;exact(g3.fin (by omega) (by omega) (c:=negs []) ⟨by simp[negs],by simp[negs]⟩).1,_,k37,rfl,.inr ⟨.nils,[],lg1,rfl,.inl ⟨rfl,rfl⟩,(fun l hl=>by cases hl),yc2_ L3 hC0 (fun l hl=>by cases hl),by simp,rfl⟩⟩
        · have hmp:0<s3.marks.length:=List.length_pos_iff.2 hm0
          refine W.condF (by simpa using hm0) ?_
          repeat' with_reducible first|refine W.bind ?_|refine W.asV ?_|refine W.e0 ?_
          refine W.mono (yh8_ E3 HH.tn L3 hn4 (by omega) hmp (PR.lo hm0) hcl hfl (hcx hm0)) fun r hr=>?_;obtain⟨r,τ4⟩:=r;obtain⟨er,T4,s4,hs4,ln4,lg4,since4,least4,H4,E4,L4,hcase,hLS⟩:=hr;dsimp only at er H4 E4⊢;subst er;replace HH:=HH.trans H4.ej;replace hc:=hc.hop H4;replace hl1:=hl1.hop H4;replace k37:=k37.hop H4;have hlT4:=L4.si.ti.lenT;have htwo:=(PR.si.pp (PR.lo hm0)).two hcl hfl;refine W.condF rfl ?_
          repeat' (with_reducible refine W.next ?_)
          rcases hcase with ⟨es,el,b,a,k,hma,e4,hRy⟩|⟨hm4,es,el,hls⟩
          · subst es el
            obtain⟨hg1,hg2,hg3⟩:=y8w_ (c:=normL k) hti3 PR.si hma;have hg4:=hg3 (htwo _ (List.mem_of_getElem? hma));rw[<-e4]at hg1 hg2 hg4;have hmax:=ybb_ (n:=n) (ms:=s4.marks) hlT4;have hmax2:=yda_ (n:=n) (ms:=s4.marks) hlT4;rw[<-hMd]at hmax2;have hc2:2*(cc+1)<=codeW n s4.marks s4.trail.length:=by omega
            have hlo4:s4.loose=[((s3.cls.length:Nat):Int)]:=by
              rw[e4];show(s3.back b a).loose++[((s3.back b a).cls.length:Int)]=_;obtain⟨_,_,_,g3,g4,_⟩:=PR.si.back hma;rw[g3,g4,PR.lo hm0];rfl
            refine⟨_,?_,T4,s4,hs4,ln4,lg4,_,_,w1+1+4,cc+1,uu+1,fs,cs,HH,E4,L4,hc,hl1,k37,hcs,?_,?_,.inr ⟨⟨hc2,show uu+1<=_ by omega⟩,_,hlo4,hRy⟩,by omega,by omega,hfs,fun q=>by have:=hsf q;omega,Nat.le_refl _,?_,fun hg=>⟨(hLg hg).1,(hLg hg).2.1,(hLg hg).2.2.learn hLS⟩⟩
            · omega
            · rw[e4];exact(hAs3.back PR.si hma).addC
            · rw[hlo4];exact .inr ⟨rfl,.inr ⟨_,rfl,hRy⟩⟩
            · omega
          · subst es el
            have htb:cc+1<=B:=by
              have hmp2:∃(b a:Nat),s3.marks[b]?=some (a:Int):=by
                obtain⟨m,hm⟩:=y3_ (xs:=s3.marks) (i:=0) hmp;obtain⟨a,ea,_⟩:=hti3.mks 0 m hm;exact⟨0,a,by rw[hm,ea]⟩
              obtain⟨b,a,hma⟩:=hmp2;obtain⟨hg1,_,hg3⟩:=y8w_ (c:=[]) hti3 PR.si hma;have hg4:=hg3 (htwo _ (List.mem_of_getElem? hma));have hbk:=PR.si.back hma;have hl5:((s3.back b a).addC []).trail.length<=n:=hbk.1.ti.lenT;have hmax:=ybb_ (n:=n) (ms:=((s3.back b a).addC []).marks) hl5;omega
            have hRl:((B:Int)+8-(least1+8)).toNat / 8+1<=((B:Int)+8-least1).toNat / 8+fs:=by
              by_cases hf0:fs=0
              · have:=hsf hf0
                omega
              · omega
            have hmul:=Nat.mul_le_mul_right (M+1) hRl;rw[Nat.succ_mul]at hmul;refine⟨_,?_,T4,s4,hs4,ln4,lg4,0,_,w1+1+4,0,0,0,cs,HH,E4,L4,hc,hl1,k37,hcs,AsI.nil hm4,.inl hm4,.inl ⟨Nat.zero_le _,Nat.zero_le _⟩,Nat.zero_le _,Nat.zero_le _,by omega,fun _=>by omega,Nat.le_refl _,?_,fun hg=>?_⟩
            · simp only[Nat.sub_zero,Nat.add_zero];omega
            · simp only[Nat.sub_zero,Nat.add_zero];omega
            · obtain⟨g1,g2,g3⟩:=hLg hg
              have:=hsf g1;exact⟨rfl,by omega,(g3.learn hLS).anew (by omega)⟩
      · have hne:out = -1:=by omega
        subst hne;obtain⟨hlo3,hhd3⟩:=PR.fine rfl;have hP3:=PR.si.pp hlo3;have hCF:=hCd.fine PR.ex L1.si.ti hP3 hhd3
        repeat' with_reducible first|refine W.bind ?_|refine W.asV ?_|refine W.e0 ?_
        refine W.mono (ygl_ E3 HH.tn L3 hn4 hAs3 hc hAl hAL) fun r hr=>?_;obtain⟨r,τ4⟩:=r;obtain⟨T4,H4,hcase⟩:=hr;dsimp only at H4 hcase⊢;replace HH:=HH.trans H4.ej;replace hc:=hc.hop H4;replace hl1:=hl1.hop H4;replace k37:=k37.hop H4;have hl1u:=hl1.up;have goOn:∀(τ5:Heap) (T5:Tg) (l:Int) (hs5:List Int),Hop eJ σ T τ5 T5->EnX τ5 T5 e n (s3.dec l) hs5 ln1 lg1 since1 least1->val s3.vs l=0->isL l n=true->AsI (s3.dec l) A->(∀v:Nat,1<=v->v<=n->val s3.vs v=0->v≠l.natAbs->(v:Int)∈hs5)->SlV .int (τ5.at T5 0) A x->Loc (τ5.at T5 0) l1 [.ptr e.le 0]->Loc (τ5.at T5 37) l3 cs ->
            ∃m',m'<m/\∃(T':Tg) (s':PS) (hs':List Int) (ln':List (Int×Int)) (lg':List (Bool×List Int)) (since' least':Int) (w' cc uu fs:Nat) (cs:List AVal),Hop eJ σ T τ5 T'/\EnX τ5 T' e n s' hs' ln' lg' since' least'/\EnL gl n C s' hs' ln' lg' since' least' w' /\
            SlV .int (τ5.at T' 0) A x/\Loc (τ5.at T' 0) l1 [.ptr e.le 0]/\Loc (τ5.at T' 37) l3 cs/\cs.length=3/\AsI s' A/\Rd s' s'.loose (-1)/\CdI n s' (2*cc) uu/\cc<=B/\uu<=M/\fs<=1/\(fs=0->since'<=cc) /\
            (((B:Int)+8-least').toNat / 8+fs)*(M+1)+(M-uu)<=m'/\w'+6*m'<=w+6*mu n/\(gl=true->fs=0/\least'<=(B:Int)+16/\LgB n ln' lg' since' least'):=by
          intro τ5 T5 l hs5 H5 E5 hv0 hlL hAs5 hcov hc5 hl5 hk5;have hS5:=StI.dec hP3 hhd3 hlL hv0;have htr5:(s3.dec l).trail.length=s3.trail.length+1:=by show(s3.trail++[l]).length=_;simp
          have hlT5:=hS5.ti.lenT;have L5:EnL gl n C (s3.dec l) hs5 ln1 lg1 since1 least1 (w1+1+1):=L3.step hS5 ⟨rfl,(CEq.refl s3).2⟩ (fun v h1 h2 h4=>by
            rw[hS5.ti.zero]at h4;have e5:(s3.dec l).trail=s3.trail++[l]:=rfl;rw[e5]at h4;refine hcov v h1 h2 (hti3.zero.2 ⟨fun q=>h4.1 (by simp[q]),fun q=>h4.2 (by simp[q])⟩) fun q=>?_;rcases Int.natAbs_eq l with u|u
            · exact h4.1 (by rw[q,<-u];simp)
            · exact h4.2 (by rw[q];have : -((l.natAbs:Nat):Int)=l:=by omega
                             rw[this];simp)) (by
            have e1:(s3.dec l).ent=s3.ent:=rfl;have e2:(s3.dec l).loose=s3.loose:=rfl;have:=L3.z2;rw[e1,e2];omega)
          have hmax2:=yda_ (n:=n) (ms:=(s3.dec l).marks) hlT5;have hrk:=yj8_ (n:=n) (l:=l) hti3;rw[<-hMd]at hmax2;have huu5:uu+1<=rkF n (s3.dec l).marks (s3.dec l).trail.length:=by omega
          have huuM:uu+1<=M:=by unfold rkW at hmax2;omega
          refine⟨(((B:Int)+8-least1).toNat / 8+fs)*(M+1)+(M-(uu+1)),by omega,T5,s3.dec l,hs5,ln1,lg1,since1,least1,w1+1+1,cc,uu+1,fs,cs,H5,E5,L5,hc5,hl5,hk5,hcs,hAs5,?_,.inl ⟨by rw[yfi_ hti3];exact hCF.1,huu5⟩,hcc,huuM,hfs,hsf,Nat.le_refl _,by omega,hLg⟩;have e2:(s3.dec l).loose=s3.loose:=rfl;rw[e2,hlo3];exact .inr ⟨rfl,.inl rfl⟩
        rcases hcase with ⟨l,hlA,er,hv0,hlL,hAs5,E5⟩|⟨core,y,er,hy,hcne,hcA,hC,hcl,E5⟩|⟨er,hAt,E5⟩
        · subst er
          refine W.condT rfl ?_
          repeat' (with_reducible refine W.next ?_)
          exact goOn _ T4 l hs1 HH E5 hv0 hlL hAs5 (fun v h1 h2 h4 _=>L3.hp v h1 h2 h4) hc hl1 k37
        · subst er
          refine W.condF rfl ?_;have hyns:∃a b c d,y=.sl a b c d:=by
            rcases hy with ⟨_,q⟩|⟨a,b,c,_,_,q,_⟩
            · exact absurd q hcne
            · exact⟨_,_,_,_,q⟩
          have heq:∀(K:Bool->Option ((Unit⊕AVal)×Heap)),eqS y .nils K=K false:=by
            obtain⟨a,b,c,d,rfl⟩:=hyns;intro K;rfl
          refine W.to (heq _) ?_;refine W.condT rfl ?_
          repeat' with_reducible first|refine W.bind ?_|refine W.asV ?_|refine W.e0 ?_
          refine W.mono (yc4_ E5 HH.tn L3 (by omega) hy (by omega) (fun l hl=>hAb l (hcA l hl)) hC) fun r hr=>?_;obtain⟨r,τ5⟩:=r;obtain⟨T5,H5,er,E6,L6⟩:=hr;dsimp only at er H5 E6⊢;subst er;replace HH:=HH.trans H5.ej;replace k37:=k37.hop H5;replace hy:=hy.hop H5
          repeat' (with_reducible refine W.e3 ?_)
          have hn:=HH.tn;refine W.stT k37 hn (by simp[hcs]) fun τ6 H6 k37 _=>?_;have e5:cs.take 0++[.bool false,.nils,y]++cs.drop (0+[AVal.bool false,.nils,y].length)=[.bool false,.nils,y]:=by simp[hcs]
          rw[e5]at k37;have E7:EnX τ6 T5 e n s3 hs1 ln1 (lg1++[(false,negs core)]) since1 least1:=by
            obtain⟨h,xs,xl,xg,conf,bump,most,sv,ws,E6⟩:=E6;exact⟨h,xs,xl,xg,conf,bump,most,sv,ws,E6.hopE H6⟩
          repeat' (with_reducible refine W.stop ?_)
          exact⟨rfl,T5,s3,hs1,ln1,_,since1,least1,_,HH.trans H6.ej37,E7,L6,by omega,fun hg=>by
            obtain⟨g1,g2,g3⟩:=hLg hg;have:=hsf g1;exact(g3.fin (by omega) (by omega) (c:=negs core) ⟨by simp[negs];exact hcl,fun x hx=>by
              obtain⟨y,hy,rfl⟩:=List.mem_map.1 hx;rw[y7l_];exact hAL y (hcA y hy)⟩).1,_,k37,rfl,.inr ⟨y,core,lg1,rfl,hy.hop H6,hcA,yc2_ L3 hC (fun l hl=>hAL l (hcA l hl)),hcl,rfl⟩⟩
        · subst er
          refine W.condF rfl ?_;refine W.eqSn ?_;refine W.condF rfl ?_
          repeat' with_reducible first|refine W.bind ?_|refine W.asV ?_|refine W.e0 ?_
          refine W.mono (yfw_ E5 HH.tn L3 hn4) fun r hr=>?_;obtain⟨r,τ5⟩:=r;obtain⟨T5,hs5,H5,hcase⟩:=hr;dsimp only at H5 hcase⊢;replace HH:=HH.trans H5.ej;replace hc:=hc.hop H5;replace hl1:=hl1.hop H5;replace k37:=k37.hop H5;have hl1u:=hl1.up;rcases hcase with ⟨er,l,hv0,hlL,E6,hcov⟩|⟨er,hall,E6⟩
          · subst er
            refine W.condF rfl ?_
            repeat' (with_reducible refine W.next ?_)
            exact goOn _ T5 l hs5 HH E6 hv0 hlL (hAs3.decF hti3 hlL hv0 hAt) hcov hc hl1 k37
          · subst er
            refine W.condT rfl ?_
            repeat' with_reducible first|refine W.bind ?_|refine W.asV ?_|refine W.e0 ?_
            have L5:EnL gl n C s3 hs5 ln1 lg1 since1 least1 (w1+1):=L3.heap fun v h1 h2 h4=>absurd h4 (hall v (yi_.2 ⟨by omega,by omega,by omega⟩));refine W.mono (ydy_ E6 HH.tn L5 hn4) fun r hr=>?_;obtain⟨y,τ6⟩:=r;obtain⟨T6,Mo,H6,E7,hy,hMl,hMv⟩:=hr;dsimp only at H6 E7 hy⊢;replace HH:=HH.trans H6.ej;replace k37:=k37.hop H6;have hyu:=hy.up
            repeat' (with_reducible refine W.scalS (by assumption) ?_)
            have hn:=HH.tn;refine W.stT k37 hn (by simp[hcs]) fun τ7 H7 k37 _=>?_;have e5:cs.take 0++[.bool true,y,.nils]++cs.drop (0+[AVal.bool true,y,.nils].length)=[.bool true,y,.nils]:=by simp[hcs]
            rw[e5]at k37;have E8:EnX τ7 T6 e n s3 hs5 ln1 lg1 since1 least1:=by
              obtain⟨h,xs,xl,xg,conf,bump,most,sv,ws,E7⟩:=E7;exact⟨h,xs,xl,xg,conf,bump,most,sv,ws,E7.hopE H7⟩
            repeat' (with_reducible refine W.stop ?_)
            exact⟨rfl,T6,s3,hs5,ln1,lg1,since1,least1,_,HH.trans H7.ej37,E8,L5,by omega,fun hg=>by
              obtain⟨g1,g2,g3⟩:=hLg hg;have:=hsf g1;exact(g3.fin (by omega) (by omega) (c:=[]) ⟨by simp,by simp⟩).2,_,k37,rfl,.inl ⟨y,Mo,rfl,hy.hop H7,hMl,L3.model hlo3 hhd3 hall hMv,fun a ha=>yam_ hti3 hMv (hAL a ha) (hAt a ha)⟩⟩
  · obtain⟨v,τ3⟩:=r
    obtain⟨ev,T3,s3,hs3,ln3,lg3,since3,least3,w3,HH,E3,L3,hw3,hLF,cs,k37,hcs,hR⟩:=hr;dsimp only at ev HH E3 k37 hR⊢;subst ev;refine W.bind ?_;refine W.mono (y74_ (k:=0) E3 HH.tn L3 hn4) fun r hr=>?_;obtain⟨r,τ4⟩:=r;obtain⟨T4,hs4,H4,E4,L4⟩:=hr;dsimp only at H4 E4⊢;replace k37:=k37.hop H4;have hg:=k37.up;refine W.ldGL hg (by omega) ?_;have e3:(cs.drop 0).take 3=cs:=by rw[List.drop_zero,List.take_of_length_le (by omega)]
    rw[e3]
    repeat' with_reducible refine W.ret ?_
    refine⟨T4,_,hs4,ln3,lg3,since3,least3,w3+1,HH.trans H4.ej,E4,L4,by omega,y7v_ L3.si,?_,hLF⟩;rcases hR with ⟨y,M,er,h1,h2⟩|⟨y,core,lg0,er,h1,h2⟩
    · exact .inl ⟨y,M,er,h1.hop H4,h2⟩
    · exact .inr ⟨y,core,lg0,er,h1.hop H4,h2⟩
end
end
section
open Go
def eK:Nat->Bool:=fun j=>eJ j||j==39
theorem Hop.ek{σ τ:Heap}{T T':Tg}(H:Hop eI σ T τ T'):Hop eK σ T τ T':=H.sub fun i hi=>by simp[eK,eJ,hi]
theorem Hop.ok{σ τ:Heap}{T T':Tg}{t:Nat}(H:Hop (only t) σ T τ T')(ht:eK t=true:=by rfl):Hop eK σ T τ T':=H.sub fun i hi=>by
 have:i=t:=by simpa using hi
 rw[this];exact ht
section
variable{σ τ:Heap}{T T':Tg}{e:EnP}{n k id:Nat}{s:PS}{hs c:List Int}{ln:List (Int×Int)}{lg:List (Bool×List Int)}{since least:Int}{x:AVal}{A xs:List Int}{gl:Bool}{C:List (List Int)}{w:Nat}
theorem y44_(h:SlV .int (σ.at T 0) xs x)(hn:Tn σ T)(hb:xs.length<=1000000):W (S.z48 x σ) fun r=>∃T' y,r.1=.agg [y,.int .i64 0]/\Hop (only 39) σ T r.2 T'/\SlV .int (r.2.at T' 0) xs y:=by
 unfold S.z48;refine W.newT 39 hn fun l1 τ1 T1 hl1 H1 k1 hnτ1=>?_;replace h:=h.hop H1;replace hn:=H1.tn;refine W.bind ?_;refine W.mono (y9p_ h hn hb) fun r hr=>?_;obtain⟨y,τ2⟩:=r;obtain⟨L2,_,hy⟩:=hr;dsimp only at L2 hy⊢;replace k1:=k1.hle L2;replace hn:=hn.mono L2;have hyu:=hy.up;refine W.scalS hyu ?_;refine W.stT k1 hn (Nat.le_of_ble_eq_true (by rfl)) fun τ3 H3 k1 hnτ3=>?_;replace hy:=hy.hop H3
 repeat' with_reducible first|refine W.ret ?_|refine W.u1 ?_
 exact⟨T1,y,rfl,(H1.trans (Hop.of H1.tn L2)).trans H3,hy⟩
def ScV(σ:Heap)(x:AVal)(s:(List Int×List Int×List Int×List Int)×Int×Int):Prop:=∃x0 x1 x2 x3,x=.agg [x0,x1,x2,x3,.int .i64 s.2.1,.int .i64 s.2.2]/\SlV .int σ s.1.1 x0/\SlV .int σ s.1.2.1 x1/\SlV .int σ s.1.2.2.1 x2/\SlV .int σ s.1.2.2.2 x3
def ScS(s:(List Int×List Int×List Int×List Int)×Int×Int):Prop:=s.1.1.length<=50/\s.1.2.1.length<=50/\s.1.2.2.1.length<=50/\s.1.2.2.2.length<=50
variable{sc:(List Int×List Int×List Int×List Int)×Int×Int}
theorem ScV.hle(h:ScV (σ.at T 0) x sc)(L:Hle σ τ):ScV (τ.at T 0) x sc:=by
 obtain⟨x0,x1,x2,x3,e,h1,h2,h3,h4⟩:=h;exact⟨x0,x1,x2,x3,e,h1.hle L,h2.hle L,h3.hle L,h4.hle L⟩
theorem yfj_(h:ScV (σ.at T 0) x sc)(hn:Tn σ T)(hs:ScS sc):W (S.z47 x σ) fun r=>∃T' lq,r.1=.ptr lq 0/\Hop eK σ T r.2 T'/\PcI r.2 T' lq sc.2.1 0 16:=by
 obtain⟨x0,x1,x2,x3,rfl,h0,h1,h2,h3⟩:=h;obtain⟨b0,b1,b2,b3⟩:=hs;unfold S.z47
 repeat' (with_reducible refine W.e3 ?_)
 refine W.new0 hn fun l2 τ1 _ L1 k1 hn1=>?_;replace h0:=h0.hle L1;replace h1:=h1.hle L1;replace h2:=h2.hle L1;replace h3:=h3.hle L1;have HH:Hop eK σ T τ1 T:=Hop.of hn L1;have hn:=hn1
 repeat' with_reducible first|refine W.bind ?_|refine W.asV ?_|refine W.u0 ?_
 refine W.mono (y44_ h0 hn (by omega)) fun r hr=>?_;obtain⟨r,τ2⟩:=r;obtain⟨T2,y0,er,H2,j0⟩:=hr;dsimp only at er H2 j0⊢;subst er;replace HH:=HH.trans H2.ok;have k2:=k1.hop H2;replace h1:=h1.hop H2;replace h2:=h2.hop H2;replace h3:=h3.hop H2;replace hn:=H2.tn
 repeat' with_reducible first|refine W.bind ?_|refine W.asV ?_|refine W.chk rfl ?_|refine W.u0 ?_
 refine W.mono (y44_ h1 hn (by omega)) fun r hr=>?_;obtain⟨r,τ3⟩:=r;obtain⟨T3,y1,er,H3,j1⟩:=hr;dsimp only at er H3 j1⊢;subst er;replace HH:=HH.trans H3.ok;have k3:=k2.hop H3;replace h2:=h2.hop H3;replace h3:=h3.hop H3;replace j0:=j0.hop H3;replace hn:=H3.tn
 repeat' with_reducible first|refine W.bind ?_|refine W.asV ?_|refine W.chk rfl ?_|refine W.u0 ?_
 refine W.mono (y44_ h2 hn (by omega)) fun r hr=>?_;obtain⟨r,τ4⟩:=r;obtain⟨T4,y2,er,H4,j2⟩:=hr;dsimp only at er H4 j2⊢;subst er;replace HH:=HH.trans H4.ok;have k4:=k3.hop H4;replace h3:=h3.hop H4;replace j0:=j0.hop H4;replace j1:=j1.hop H4;replace hn:=H4.tn
 repeat' with_reducible first|refine W.bind ?_|refine W.asV ?_|refine W.chk rfl ?_|refine W.u0 ?_
 refine W.mono (y44_ h3 hn (by omega)) fun r hr=>?_;obtain⟨r,τ5⟩:=r;obtain⟨T5,y3,er,H5,j3⟩:=hr;dsimp only at er H5 j3⊢;subst er;replace HH:=HH.trans H5.ok;have k5:=k4.hop H5;replace j0:=j0.hop H5;replace j1:=j1.hop H5;replace j2:=j2.hop H5;replace hn:=H5.tn
 repeat' with_reducible first|refine W.asI ?_|refine W.chk rfl ?_|refine W.e3 ?_|refine W.putC (by with_unfolding_all rfl) ?_|refine W.u0 ?_
 refine W.newT 30 hn fun l34 τ6 T6 hl34 H6 k30 hnτ6=>?_;replace HH:=HH.trans H6.ok;replace j0:=j0.hop H6;replace j1:=j1.hop H6;replace j2:=j2.hop H6;replace j3:=j3.hop H6;replace hn:=H6.tn
 repeat' with_reducible refine W.ret ?_
 exact⟨T6,l34,rfl,HH,⟨y0,0,y1,0,y2,0,y3,0,0,k30,⟨_,j0,by omega,by omega,by omega⟩,⟨_,j1,by omega,by omega,by omega⟩,⟨_,j2,by omega,by omega,by omega⟩,⟨_,j3,by omega,by omega,by omega⟩⟩⟩
def EnW(σ:Heap)(T:Tg)(e:EnP)(n:Nat)(s:PS)(hs:List Int)(ln:List (Int×Int))(lg:List (Bool×List Int))(since least:Int)(k:Nat):Prop:=∃h xs xl xg conf bump most sv ws,Loc (σ.at T 31) e.le [.ptr e.lp 0,.ptr e.lh 0,.ptr e.lq 0,xs,xl,xg,.int .i64 conf,.int .i64 bump]/\PropH σ T e.lp h s/\HpI σ T e.lh n hs/\PcI σ T e.lq most since least/\most<=0/\Own .int (σ.at T 32) sv xs/\sv.length=k/\Own vLn (σ.at T 33) ln xl/\Own vBR (σ.at T 34) ws xg/\AllB (σ.at T 0) lg ws
theorem ygo_{vars:Nat}(E:EnW σ T e n s hs ln lg since least k)(hn:Tn σ T)(hL:PLen (n+1) s)(hk:k<=n+1)(hn4:n<=4000)(hv:vars<=4000) :
  W (S.z102 (.ptr e.le 0) (vars:Int) σ) fun r=>∃T' hs',Hop eI σ T r.2 T'/\EnX r.2 T' e (n+(vars-n)) (s.grow (vars-n)) hs' ln lg since least/\∀x:Int,x∈hs'↔x∈hs\/((n:Int)<x/\x<=vars):=by
 obtain⟨h,xs,xl,xg,conf,bump,most,sv,ws,k1,kp,kh,kq,km,ks,ksl,kl,kg,ka⟩:=E;unfold S.z102
 repeat' with_reducible first|refine W.bind ?_|refine W.asV ?_|refine W.fldp ?_|refine W.nck ?_|refine W.u0 ?_
 refine W.mono (y9n_ (vars:=vars) kp hn hL (by omega) hv (by omega)) fun r hr=>?_;obtain⟨r,τ1⟩:=r;obtain⟨T1,h1,H1,kp⟩:=hr;dsimp only at H1 kp⊢;rw[show vars+1-(n+1)=vars-n from by omega]at kp;replace kh:=kh.hopP H1;replace kq:=kq.hop H1;replace ka:=ka.hop H1;have HH:=H1.pe;replace k1:=k1.hop H1;replace ks:=ks.hop H1;replace kl:=kl.hop H1;replace kg:=kg.hop H1;replace hn:=H1.tn
 repeat' with_reducible first|refine W.bind ?_|refine W.asV ?_|refine W.fldp ?_|refine W.nck ?_|refine W.u0 ?_
 refine W.mono (y8x_ (vars:=vars) kh hn hn4 hv) fun r hr=>?_;obtain⟨r,τ2⟩:=r;obtain⟨T2,hs2,H2,kh,hm⟩:=hr;dsimp only at H2 kh⊢;rw[show max n vars=n+(vars-n)from by omega]at kh;replace kp:=kp.hopH H2;replace kq:=kq.hop H2;replace ka:=ka.hop H2;replace HH:=HH.trans H2.he;replace k1:=k1.hop H2;replace ks:=ks.hop H2;replace kl:=kl.hop H2;replace kg:=kg.hop H2;replace hn:=H2.tn
 repeat' (with_reducible refine W.bind ?_)
 have hvs:(s.grow (vars-n)).vs.length=n+(vars-n)+1:=by
  simp only[PS.grow,List.length_append,List.length_replicate,hL.vs];omega
 generalize hN:n+(vars-n)=N at kh hvs⊢;have hN4:N<=4000:=by omega
 generalize hS:s.grow (vars-n)=s1 at kp hvs⊢;refine W.mono (P:=fun r=>∃T',Hop eI σ T r.2 T'/\EnX r.2 T' e N s1 hs2 ln lg since least) ?_ fun r hr=>?_
 ·refine W.loopI (m:=N+1-sv.length) (fun m (_:Unit) τ=>∃(T':Tg) (sv':List Int) (xs':AVal),Hop eI σ T τ T'/\Loc (τ.at T' 31) e.le [.ptr e.lp 0,.ptr e.lh 0,.ptr e.lq 0,xs',xl,xg,.int .i64 conf,.int .i64 bump]/\PropH τ T' e.lp h1 s1/\HpI τ T' e.lh N hs2/\PcI τ T' e.lq most since least/\Own .int (τ.at T' 32) sv' xs'/\sv'.length<=N+1/\m=N+1-sv'.length/\Own vLn (τ.at T' 33) ln xl/\Own vBR (τ.at T' 34) ws xg/\AllB (τ.at T' 0) lg ws) ⟨T2,sv,xs,HH,k1,kp,kh,kq,ks,by omega,rfl,kl,kg,ka⟩ fun m _ τ hI2=>?_
  clear kp kh kq ks kl kg ka k1 HH
  obtain⟨T3,sv3,xs3,HH,k1,kp,kh,kq,ks,hsv,rfl,kl,kg,ka⟩:=hI2;unfold S.z102.b0;have ksl:=ks.slT
  repeat' with_reducible first|refine W.bind ?_|refine W.asV ?_|refine W.fldp ?_|refine W.len (by assumption) ?_|refine W.nck ?_|refine W.u0 ?_
  refine W.to (y3f_ kp hvs hN4) ?_
  repeat' with_reducible refine W.ret ?_
  (with_reducible refine W.cnd (fun hlt=>?_) (fun hlt=>?_)<;>(try simp only[qq,Kd.ty]at hlt)<;>(try (exfalso;omega)))
  ·repeat' with_reducible first|refine W.asV ?_|refine W.fldp ?_|refine W.nck ?_|refine W.u0 ?_
   refine W.own_push (bytes:=8) Vw.int_flat ks HH.tn (a:=(0:Int)) rfl (by omega) (by omega) fun x2 τ5 T5 ks H5=>?_;replace HH:=HH.trans H5.oe;replace k1:=k1.hop H5;replace kp:=kp.hopO H5;replace kh:=kh.hopB H5;replace kq:=kq.hop H5;replace kl:=kl.hop H5;replace kg:=kg.hop H5;replace ka:=ka.hop H5;have hn:=HH.tn
   repeat' with_reducible first|refine W.fldp ?_|refine W.nck ?_|refine W.u4 ?_
   refine W.stT k1 hn (Nat.le_of_ble_eq_true (by rfl)) fun τ6 H6 k1 hnτ6=>?_;replace HH:=HH.trans H6.oe;replace kp:=kp.hopO H6;replace kh:=kh.hopB H6;replace kq:=kq.hop H6;replace ka:=ka.hop H6;replace ks:=ks.hop H6;replace kl:=kl.hop H6;replace kg:=kg.hop H6;replace hn:=H6.tn
   repeat' (with_reducible refine W.next ?_)
   exact⟨N+1-(sv3++[0]).length,by simp;omega,T5,_,x2,HH,k1,kp,kh,kq,ks,by simp;omega,rfl,kl,kg,ka⟩
  ·repeat' (with_reducible refine W.stop ?_)
   exact⟨T3,HH,h1,xs3,xl,xg,conf,bump,most,sv3,ws,k1,kp,kh,kq,km,ks,by omega,kl,kg,ka⟩
 ·obtain⟨r,τ3⟩:=r
  obtain⟨T3,HH,E⟩:=hr
  repeat' with_reducible refine W.ret ?_
  exact⟨T3,hs2,HH,E,hm⟩
theorem EnL.grow{hs':List Int}(L:EnL gl n C s hs ln lg since least w)(m:Nat)(hm:∀x:Int,x∈hs'↔x∈hs\/((n:Int)<x/\x<=(n:Int)+m)):EnL gl (n+m) C (s.grow m) hs' ln lg since least w:=by
 obtain⟨S1,S2⟩:=L.si.grow m;have hv:∀v:Nat,v<=n->val (s.grow m).vs v=val s.vs v:=fun v hv=>by
  have:=L.si.ti.len.vs;unfold val PS.grow;simp only[Int.natAbs_natCast];rw[y8q_ (by omega)];have e1:¬(s.vs++List.replicate m 0).length<=v:=by simp;omega
  have e2:¬s.vs.length<=v:=by omega
  simp only[e1,e2]
 refine⟨S1,fun v h1 h2 h3=>(hm v).2 ?_,L.lnI,L.lnN,L.orI,L.snd,fun c hc x hx=>yc3_ (L.cl c hc x hx) (by omega),L.lgI,L.z1,?_,L.z3,L.z4,L.z5,L.z6⟩
 ·by_cases hvn:v<=n
  ·exact .inl (L.hp v h1 hvn (by rw[<-hv v hvn];exact h3))
  ·exact .inr (by omega)
 ·have:=L.z2
  rw[S2];exact this
end
end
section
open Go
theorem StI.zero:StI 0 PS.zero:=by
 have hc:∀(id:Nat) x,¬PS.zero.cls[id]?=some x:=fun id x h=>by simp[PS.zero]at h
 have ht:∀l,¬l∈PS.zero.trail:=fun l h=>by simp[PS.zero]at h
 have htg:∀(i:Nat) l,¬PS.zero.trail[i]?=some l:=fun i l h=>by simp[PS.zero]at h
 refine⟨⟨⟨rfl,rfl,rfl,rfl⟩,?_,fun l h=>absurd h (ht l),fun l=>⟨fun h=>?_,fun h=>absurd h (ht l)⟩,by simp[PS.zero],fun l h=>absurd h (ht l),fun k m h=>by simp[PS.zero]at h,fun i l h=>absurd h (htg i l)⟩,fun id c f h=>absurd h (hc _ _),⟨by simp[PS.zero],fun x h=>by simp[PS.zero]at h,fun id c b h=>absurd h (hc _ _)⟩,fun id c f h=>absurd h (hc _ _),fun w hw e he=>?_,⟨0,rfl,Nat.zero_le _,fun m h=>by simp[PS.zero]at h,fun id c h=>absurd h (hc _ _)⟩⟩
 ·intro i x;simp[PS.zero]at x;omega
 ·exfalso
  unfold val PS.zero at h;have:([0]:List Int).getD l.natAbs 0=0:=by
   rcases hq:l.natAbs with _|k
   ·rfl
   ·simp
  rw[this]at h;simp at h
 ·simp[PS.zero]at hw
  subst hw;cases he
section
variable{σ τ:Heap}{T T':Tg}{e:EnP}{n k id:Nat}{s:PS}{hs c:List Int}{ln:List (Int×Int)}{lg:List (Bool×List Int)}{since least most:Int}{x:AVal}{A xs:List Int}{gl:Bool}{C:List (List Int)}{w:Nat}{sc:(List Int×List Int×List Int×List Int)×Int×Int}
theorem EnL.zero:EnL gl 0 [] PS.zero [] [] [] 0 16 0:=
 ⟨StI.zero,fun v h1 h2=>(by omega),fun e h=>(by cases h),List.nodup_nil,fun c h=>(by cases h),fun m h c hc=>(by simp[PS.db,PS.zero]at hc),fun c h=>(by cases h),fun _=>⟨[],[],.nil,by simp[PS.db,PS.zero]⟩,Nat.le_refl _,by decide,Nat.le_refl _,Nat.le_refl _,by omega,by omega⟩
theorem yel_{lq vars:Nat}(hq:PcI σ T lq most 0 16)(hm:most<=0)(hn:Tn σ T)(hv:vars<=4000) :
  W (S.z115 (vars:Int) (.ptr lq 0) σ) fun r=>∃T' e s hs,r.1=.ptr e.le 0/\Hop eI σ T r.2 T'/\EnX r.2 T' e vars s hs [] [] 0 16/\EnL gl vars [] s hs [] [] 0 16 0/\s.marks=[]:=by
 unfold S.z115;refine W.bind ?_;refine W.mono (ygb_ hn) fun r hr=>?_;obtain⟨r,τ1⟩:=r;obtain⟨T1,lp,h1,er,H1,kp⟩:=hr;dsimp only at er H1 kp⊢;subst er;replace hq:=hq.hop H1;have HH:=H1.pe;refine W.bind ?_;refine W.mono (yfu_ HH.tn) fun r hr=>?_;obtain⟨r,τ2⟩:=r;obtain⟨T2,lh,er,H2,kh⟩:=hr;dsimp only at er H2 kh⊢;subst er;replace hq:=hq.hop H2;replace kp:=kp.hopH H2;replace HH:=HH.trans H2.he;have hn:=HH.tn
 repeat' (with_reducible refine W.scP ?_)
 refine W.newT 31 hn fun l3 τ3 T3 hl3 H3 k1 hnτ3=>?_;replace hq:=hq.hop H3;replace kp:=kp.hopO H3;replace kh:=kh.hopB H3;replace HH:=HH.trans H3.oe;have E:EnW τ3 T3 ⟨l3,lp,lh,lq⟩ 0 PS.zero [] [] [] 0 16 0:=⟨_,_,_,_,_,_,most,[],[],k1,kp,kh,hq,hm,Own.nil,rfl,Own.nil,Own.nil,⟨rfl,fun i a y=>(by simp at y)⟩⟩;refine W.bind ?_;refine W.mono (ygo_ (vars:=vars) E HH.tn ⟨rfl,rfl,rfl,rfl⟩ (by omega) (by omega) hv) fun r hr=>?_;obtain⟨r,τ4⟩:=r;obtain⟨T4,hs4,H4,E4,hm4⟩:=hr;dsimp only at H4 E4⊢;have hL:=(EnL.zero (gl:=gl)).grow (hs':=hs4) (vars-0) (fun x=>by rw[hm4];simp);rw[show 0+(vars-0)=vars from by omega]at E4 hL
 repeat' with_reducible refine W.ret ?_
 exact⟨T4,⟨l3,lp,lh,lq⟩,_,hs4,rfl,HH.trans H4,E4,hL,rfl⟩
theorem yhu_{vars:Nat}(h:ScV (σ.at T 0) x sc)(hn:Tn σ T)(hs:ScS sc)(hm:sc.2.1<=0)(hv:vars<=4000) :
  W (S.z114 (vars:Int) x σ) fun r=>∃T' e s hs,r.1=.ptr e.le 0/\Hop eK σ T r.2 T'/\EnX r.2 T' e vars s hs [] [] 0 16/\EnL gl vars [] s hs [] [] 0 16 0/\s.marks=[]:=by
 obtain⟨x0,x1,x2,x3,rfl,h0,h1,h2,h3⟩:=h;unfold S.z114
 repeat' (with_reducible refine W.e3 ?_)
 refine W.new0 hn fun l2 τ1 _ L1 k1 hn1=>?_;have hx:ScV (τ1.at T 0) (.agg [x0,x1,x2,x3,.int .i64 sc.2.1,.int .i64 sc.2.2]) sc:=⟨x0,x1,x2,x3,rfl,h0.hle L1,h1.hle L1,h2.hle L1,h3.hle L1⟩;have HH:Hop eK σ T τ1 T:=Hop.of hn L1
 repeat' with_reducible first|refine W.bind ?_|refine W.u1 ?_
 refine W.mono (yfj_ hx hn1 hs) fun r hr=>?_;obtain⟨r,τ2⟩:=r;obtain⟨T2,lq,er,H2,hq⟩:=hr;dsimp only at er H2 hq⊢;subst er;replace HH:=HH.trans H2
 repeat' (with_reducible refine W.bind ?_)
 refine W.mono (yel_ (gl:=gl) (vars:=vars) hq hm HH.tn hv) fun r hr=>?_;obtain⟨r,τ3⟩:=r;obtain⟨T3,e,s,hs,er,H3,hE,hL,hmk⟩:=hr;dsimp only at er H3 hE⊢;subst er
 repeat' with_reducible refine W.ret ?_
 exact⟨T3,e,s,hs,rfl,HH.trans H3.ek,hE,hL,hmk⟩
theorem yjs_{l1 u:Nat}{y:AVal}(E:EnX σ T e n s hs ln lg since least)(hc:SlV .int (σ.at T u) A x)(hAL:A.length<=1000000)(hl1:Loc (σ.at T 0) l1 [.ptr e.le 0])(hv:s.vs.length=n+1)(hn4:n<=4000){f:AVal}(hf:∀l∈A,∀{Rt:Type} (K:AVal->Heap->Option Rt),callV S.z132.T f [.int .i64 l] σ K=(S.z101 l (.ptr l1 0) σ).bind fun x=>K (retV [.B] x) σ) :
  W (S.z128 x f σ) fun r=>r=(A.any fun l => !isL l n,σ):=by
 refine y1c_ (fun l => !isL l n) hc.up (by omega) fun l hl Rt K=>?_;rw[hf l hl];have e1:S.z101 l (.ptr l1 0) σ=some (!isL l n):=by
  obtain⟨r,er,rfl⟩:W (S.z101 l (.ptr l1 0) σ) fun r=>r = !isL l n:=by
   obtain⟨h,xs,xl,xg,conf,bump,most,sv,ws,E⟩:=E;have k1:=E.obj;unfold S.z101
   repeat' with_reducible first|refine W.bind ?_|refine W.asV ?_|refine W.fldp ?_|refine W.nck ?_|refine W.u0 ?_
   refine W.to (y3f_ E.prop hv hn4) ?_
   repeat' with_reducible first|refine W.ret ?_|refine W.bind ?_
   refine W.to (y18_ (by omega) (by omega)) ?_
   repeat' with_reducible refine W.ret ?_
   rfl
  exact er
 rw[e1];rfl
theorem EnX.hle(E:EnX σ T e n s hs ln lg since least)(L:Hle σ τ):EnX τ T e n s hs ln lg since least:=by
 obtain⟨h,xs,xl,xg,conf,bump,most,sv,ws,E⟩:=E;exact⟨h,xs,xl,xg,conf,bump,most,sv,ws,E.hle L⟩
theorem ygs_{u:Nat}(E:EnX σ T e n s hs ln lg since least)(hn:Tn σ T)(L:EnL gl n C s hs ln lg since least w)(hn4:n<=4000)(hw:w<=1000000000)(hc:SlV .int (σ.at T u) c x)(hl:c.length<=1000000)(hb:∀l∈c,isL l n=true)(hg:gl=true->lg=[]) :
  W (S.z100 (.ptr e.le 0) x σ) fun r=>r.1=true/\∃T' s',Hop eI σ T r.2 T'/\EnX r.2 T' e n s' hs ln lg since least/\EnL gl n (C++[c]) s' hs ln lg since least (w+1)/\s'.marks=s.marks:=by
 have hL2:=L.add hb hg;unfold S.z100
 repeat' (with_reducible refine W.scP ?_)
 refine W.new0 hn fun l1 τ1 _ L1 hl1 hn1=>?_;replace E:=E.hle L1;replace hc:=hc.hle L1;have HH:Hop eI σ T τ1 T:=Hop.of hn L1;refine W.bind ?_;refine W.mono (yjs_ E hc hl hl1 L.si.ti.len.vs hn4 (y:=x) (fun l hl Rt K=>rfl)) fun r hr=>?_;subst hr;dsimp only;refine W.condF (by rw[List.any_eq_false];intro l hl;simp[hb l hl]) ?_;obtain⟨h,xs,xl,xg,conf,bump,most,sv,ws,E⟩:=E;obtain⟨k1,kp,kh,kq,km,ks,ksl,kl,kg,ka⟩:=E
 repeat' with_reducible first|refine W.bind ?_|refine W.asV ?_|refine W.fldp ?_|refine W.nck ?_|refine W.u0 ?_
 have z1:=L.z1;have z2:=L.z2;refine W.mono (ya7_ (n:=n) kp hn1 L.si.ti.len hn4 hc (by
  rw[List.all_eq_true];exact fun l hl=>y7f_ (hb l hl) hn4) hl (by omega) (by omega) (fun w' hw'=>by have:=y6r_ hw';omega)) fun r hr=>?_
 obtain⟨r,τ2⟩:=r;obtain⟨T2,h2,H2,hr⟩:=hr;dsimp only at H2 hr⊢
 repeat' with_reducible refine W.ret ?_
 have hbad:y2e_ n c = !saysN c:=by
  unfold y2e_;have:((normL c).any fun l => !isL l n)=false:=by
   rw[List.any_eq_false];intro l hl;simp[hb l (yc_.1 hl)]
  rw[this];simp
 refine⟨rfl,T2,_,HH.trans H2.pe,⟨h2,xs,xl,xg,conf,bump,most,sv,ws,k1.hop H2,?_,kh.hopP H2,kq.hop H2,km,ks.hop H2,ksl,kl.hop H2,kg.hop H2,ka.hop H2⟩,hL2,?_⟩
 ·rcases hr with ⟨q,_,kp⟩|⟨q,_,kp⟩
  ·rw[hbad]at q
   rw[if_neg (by simpa using q)];exact kp
  ·rw[hbad]at q
   rw[if_pos (by simpa using q),<-ygg_];exact kp
 ·split<;>rfl
end
end
section
open Go
section
variable{σ τ:Heap}{T T':Tg}{e:EnP}{n k id:Nat}{s:PS}{hs c:List Int}{ln:List (Int×Int)}{lg:List (Bool×List Int)}{since least most:Int}{x y:AVal}{A xs:List Int}{gl:Bool}{C cs:List (List Int)}{w:Nat}{sc:(List Int×List Int×List Int×List Int)×Int×Int}
def En(gl:Bool)(σ:Heap)(T:Tg)(e:EnP)(n:Nat)(C:List (List Int))(w:Nat):Prop:=∃s hs ln lg since least,EnX σ T e n s hs ln lg since least/\EnL gl n C s hs ln lg since least w/\s.marks=[]/\(gl=true->lg=[]/\ln=[]/\since=0/\least=16)
theorem yic_(gl:Bool){vars:Nat}(h:ScV (σ.at T 0) x sc)(hn:Tn σ T)(hs:ScS sc)(hm:sc.2.1<=0)(hv:vars<=4000) :
  W (S.z114 (vars:Int) x σ) fun r=>∃T' e,r.1=.ptr e.le 0/\Hop eK σ T r.2 T'/\En gl r.2 T' e vars [] 0:=
 (yhu_ (gl:=gl) h hn hs hm hv).mono fun r hr=>by
  obtain⟨T',e,s,hs,h1,h2,h3,h4,h5⟩:=hr;exact⟨T',e,h1,h2,s,hs,[],[],0,16,h3,h4,h5,fun _=>⟨rfl,rfl,rfl,rfl⟩⟩
theorem yhg_{u:Nat}(E:En gl σ T e n C w)(hn:Tn σ T)(hn4:n<=4000)(hw:w<=1000000000)(hc:SlV .int (σ.at T u) c x)(hl:c.length<=1000000)(hb:∀l∈c,isL l n=true) :
  W (S.z100 (.ptr e.le 0) x σ) fun r=>r.1=true/\∃T',Hop eI σ T r.2 T'/\En gl r.2 T' e n (C++[c]) (w+1):=by
 obtain⟨s,hs,ln,lg,since,least,E,L,hm,hg⟩:=E;exact(ygs_ E hn L hn4 hw hc hl hb fun h=>(hg h).1).mono fun r hr=>⟨hr.1,hr.2.elim fun T' hr=>hr.elim fun s' hr=>⟨T',hr.1,s',hs,ln,lg,since,least,hr.2.1,hr.2.2.1,by rw[hr.2.2.2,hm],hg⟩⟩
theorem yhx_(E:En gl σ T e n C w)(hn:Tn σ T)(hn4:n<=4000)(hw:w<=1000000000)(hc:SlV .int (σ.at T 0) c x)(hl:c.length<=1000000)(hb:∀l∈c,isL l n=true) :
  W (S.z100 (.ptr e.le 0) x σ) fun r=>r.1=true/\∃T',Hop eK σ T r.2 T'/\En gl r.2 T' e n (C++[c]) (w+1):=by
 exact(yhg_ E hn hn4 hw hc hl hb).mono fun r hr=>⟨hr.1,hr.2.elim fun T' hr=>⟨T',hr.1.ek,hr.2⟩⟩
def SoL(σ:Heap)(T:Tg)(e:EnP)(n:Nat)(C:List (List Int))(w:Nat)(A:List Int)(r:AVal×AVal):Prop:=∃s hs ln lg since least,EnX σ T e n s hs ln lg since least/\EnL true n C s hs ln lg since least w/\s.marks=[]/\LgF n lg/\SoR σ T n C A lg r
theorem yey_(E:En true σ T e n C w)(hn:Tn σ T)(hn13:n<=20)(hc:SlV .int (σ.at T 0) A x)(hAl:A.length<=100000)(hAL:∀l∈A,isL l n=true)(hw:w+6*mu n<=850000000000) :
  W (S.z104 (.ptr e.le 0) x σ) fun r=>∃T' w',Hop eJ σ T r.2 T'/\w'<=w+6*mu n+10/\SoL r.2 T' e n C w' A r.1:=by
 obtain⟨s,hs,ln,lg,since,least,E,L,hm,hg'⟩:=E;obtain⟨rfl,rfl,rfl,rfl⟩:=hg' rfl;refine(yix_ E hn L hn13 hm hc hAl hAL hw fun _=>⟨rfl,rfl,by simp,by simp,by simp[addsL]⟩).mono fun r hr=>?_;obtain⟨T',s',hs',ln',lg',since',least',w',h1,h2,h3,h4,h5,h6,h7⟩:=hr;exact⟨T',w',h1,h4,s',hs',ln',lg',since',least',h2,h3,h5,h7 rfl,h6⟩
theorem yfp_{l:Int}{n:Nat}(h:l≠0/\-(n:Int)<=l/\l<=n):isL l n=true:=yi_.2 (by omega)
end
end
section
open Go
section
variable{R:Type}{Q:R->Prop}{σ τ:Heap}{T T':Tg}
theorem Acc.atF{n0:Nat}{cs:List (List Int)}{y:AVal}(h:Acc (vIsF n0) n0 τ cs y)(hT:∀k,n0<=k->T k=0):SlV vIs (τ.at T 0) cs y:=by
 rcases h with h|⟨l,us,rfl,h2,h3,h4,h5,h6⟩
 ·exact .inl h
 ·refine .inr ⟨l,0,none,.rw,us,rfl,h3,at_of (hT l h2) h4,by rw[Nat.zero_add];exact h5,fun i a hi=>?_⟩
  obtain⟨x,e1,e2,e3⟩:=h6 i a hi;have e1:List.take 1 (List.drop (i*1) us)=[x]:=e1;refine⟨x,by rw[Nat.zero_add];exact e1,?_⟩;rcases e2 with e2|⟨j,off,c,md,vs,rfl,g2,g3,g4,g5⟩
  ·exact .inl e2
  ·have hj:=e3 _ _ _ _ rfl
   have hne:j≠l:=fun e=>by
    subst e;rw[ys_,if_pos rfl]at g3;cases g3
   rw[ys_,if_neg hne]at g3;exact .inr ⟨j,off,c,md,vs,rfl,g2,at_of (hT j hj) g3,g4,g5⟩
end
section
variable{σ τ:Heap}{T T':Tg}{e:EnP}{n k id:Nat}{x y:AVal}{A:List Int}{C cs:List (List Int)}{w:Nat}{sc:(List Int×List Int×List Int×List Int)×Int×Int}
theorem yj7_(h:ScV σ y sc):W (S.z122 y σ) fun r=>(r.1=true↔ScS sc)/\Hle σ r.2:=by
 obtain⟨x0,x1,x2,x3,rfl,h0,h1,h2,h3⟩:=h;unfold S.z122
 repeat' (with_reducible refine W.e3 ?_)
 refine W.new fun l2 τ1 hl2 L1 k1 hnτ1=>?_;replace h0:=h0.mono L1;replace h1:=h1.mono L1;replace h2:=h2.mono L1;replace h3:=h3.mono L1
 repeat' with_reducible first|refine W.bind ?_|refine W.asV ?_|refine W.len (by assumption) ?_|refine W.e0 ?_
 have hh:(decide ((sc.1.1.length:Int)<=50)&&decide ((sc.1.2.1.length:Int)<=50)&&decide ((sc.1.2.2.1.length:Int)<=50)&&decide ((sc.1.2.2.2.length:Int)<=50))=true↔ScS sc:=by
  unfold ScS;simp only[Bool.and_eq_true,decide_eq_true_eq];omega
 (with_reducible refine W.cnd (fun hq1=>?_) (fun hq1=>?_)<;>(try simp only[qq,Kd.ty]at hq1)<;>(try (exfalso;omega)))
 ·repeat' with_reducible first|refine W.asV ?_|refine W.len (by assumption) ?_|refine W.e0 ?_
  (with_reducible refine W.cnd (fun hq2=>?_) (fun hq2=>?_)<;>(try simp only[qq,Kd.ty]at hq2)<;>(try (exfalso;omega)))
  ·repeat' with_reducible first|refine W.asV ?_|refine W.len (by assumption) ?_|refine W.e0 ?_
   (with_reducible refine W.cnd (fun hq3=>?_) (fun hq3=>?_)<;>(try simp only[qq,Kd.ty]at hq3)<;>(try (exfalso;omega)))
   ·repeat' with_reducible first|refine W.ret ?_|refine W.asV ?_|refine W.len (by assumption) ?_|refine W.e0 ?_
    refine⟨?_,L1⟩;rw[<-hh];simp[hq1,hq2,hq3]
   ·repeat' with_reducible refine W.ret ?_
    exact⟨⟨fun h=>(by cases h),fun h=>(by unfold ScS at h;omega)⟩,L1⟩
  ·repeat' with_reducible refine W.ret ?_
   exact⟨⟨fun h=>(by cases h),fun h=>(by unfold ScS at h;omega)⟩,L1⟩
 ·repeat' with_reducible refine W.ret ?_
  exact⟨⟨fun h=>(by cases h),fun h=>(by unfold ScS at h;omega)⟩,L1⟩
def frL:Nat->Bool:=fun j=>j==38||j==39
theorem yjl_(h:ScV (σ.at T 0) y sc)(hn:Tn σ T):W (S.z120 y σ) fun r=>∃T',Hop frL σ T r.2 T'/\ScV (r.2.at T' 0) r.1 (sc.1,0,0):=by
 obtain⟨x0,x1,x2,x3,rfl,h0,h1,h2,h3⟩:=h;unfold S.z120
 repeat' (with_reducible refine W.e3 ?_)
 refine W.newT 38 hn fun l2 τ1 T1 hl2 H1 k1 hnτ1=>?_;replace h0:=h0.hop H1;replace h1:=h1.hop H1;replace h2:=h2.hop H1;replace h3:=h3.hop H1;replace hn:=H1.tn;refine W.newT 39 hn fun l4 τ2 T2 hl4 H2 k2 hnτ2=>?_;replace h0:=h0.hop H2;replace h1:=h1.hop H2;replace h2:=h2.hop H2;replace h3:=h3.hop H2;replace k1:=k1.hop H2;replace hn:=H2.tn;refine W.stT k1 hn (Nat.le_of_ble_eq_true (by rfl)) fun τ3 H3 k1 hnτ3=>?_;replace h0:=h0.hop H3;replace h1:=h1.hop H3;replace h2:=h2.hop H3;replace h3:=h3.hop H3;replace k2:=k2.hop H3;replace hn:=H3.tn;refine W.stT k1 hn (Nat.le_of_ble_eq_true (by rfl)) fun τ4 H4 k1 hnτ4=>?_;replace h0:=h0.hop H4;replace h1:=h1.hop H4;replace h2:=h2.hop H4;replace h3:=h3.hop H4;replace k2:=k2.hop H4;replace hn:=H4.tn
 repeat' with_reducible first|refine W.e3 ?_|refine W.u1 ?_
 refine W.stT k2 hn (Nat.le_of_ble_eq_true (by rfl)) fun τ5 H5 k2 hnτ5=>?_;replace h0:=h0.hop H5;replace h1:=h1.hop H5;replace h2:=h2.hop H5;replace h3:=h3.hop H5;replace hn:=H5.tn
 repeat' with_reducible first|refine W.ret ?_|refine W.u1 ?_
 have f8:∀{σ τ:Heap} {T T':Tg},Hop (only 38) σ T τ T'->Hop frL σ T τ T':=fun H=>H.sub fun i hi=>by simp[frL]at hi⊢;omega
 have f9:∀{σ τ:Heap} {T T':Tg},Hop (only 39) σ T τ T'->Hop frL σ T τ T':=fun H=>H.sub fun i hi=>by simp[frL]at hi⊢;omega
 exact⟨T2,((((f8 H1).trans (f9 H2)).trans (f8 H3)).trans (f8 H4)).trans (f9 H5),x0,x1,x2,x3,rfl,h0,h1,h2,h3⟩
end
end
section
open Go
theorem ygp_{vars:Int}{cs:List (List Int)}(h0:0<=vars)(h1:vars<=4000)(h2:cs.length<=20000)(h3:cs.flatten.length<=80000)(h4:∀c∈cs,y8_ vars c):chkC vars cs=none:=by
 unfold chkC;rw[if_neg (by omega)];have:cs.findIdx? (badC vars)=none:=by
  rw[List.findIdx?_eq_none_iff];intro c hc;have:=y4n_.2 (h4 c hc);simpa using this
 rw[this];rfl
theorem ybh_(l:List Int){n:Nat}(hn:n<=4000)(hl:l.length<=20000):chkC (n:Int) (y19_ l n)=none:=by
 obtain⟨h1,h2,h3⟩:=y6m_ l (n:Int);exact ygp_ (by omega) (by omega) (by omega) (by omega) fun c hc=>(h1 c hc).2.2
theorem SlV.tz0{α:Type}{v:Vw α}{σ:Heap}{xs:List α}{x:AVal}(h:SlV v σ xs x):SlV v (σ.at Tz 0) xs x:=by rw[at_tz];exact h
theorem GlS.tz0{σ:Heap}{E:List Er}(h:GlS E σ):GlS E (σ.at Tz 0):=by rw[at_tz];exact h
section
variable{σ τ:Heap}{T T':Tg}{e:EnP}{n k id:Nat}{x y:AVal}{A:List Int}{C cs:List (List Int)}{w:Nat}{sc:(List Int×List Int×List Int×List Int)×Int×Int}
theorem ScV.up(h:ScV (σ.at T 0) x sc):ScV σ x sc:=by
 obtain⟨x0,x1,x2,x3,e,h1,h2,h3,h4⟩:=h;exact⟨x0,x1,x2,x3,e,h1.up,h2.up,h3.up,h4.up⟩
theorem GlS.up{E:List Er}(h:GlS E (σ.at T 0)):GlS E σ:=h.mono at_le
theorem W.newA{R:Type}{Q:R->Prop}(hn:Tn σ T){sz m:Nat}{zs ds:List AVal}{K:Nat->Heap->Option R}(hz:zs.length=m)(hd:ds.length=m)
  (c:∀l τ,l=σ.next->Hle σ τ->Loc (τ.at T 0) l ds->Tn τ T->W (K l τ) Q):W (YtafbldhedkallaaGreatDoor.A.newK σ sz zs fun l σ'=>YtafbldhedkallaaGreatDoor.A.aggK (.agg ds) m fun cs=>YtafbldhedkallaaGreatDoor.A.stC σ' (.ptr l 0) cs (K l)) Q:=by
 refine W.newg fun l τ1 hl L1 _ g1 n1=>?_;refine W.aggK hd ?_;refine W.st0 (cs:=zs) (vs:=ds) ⟨by omega,sz,g1⟩ (by omega) fun τ2 L2 e2 h2=>?_;have L:=L1.ofk (by omega) L2;obtain⟨sz2,g2⟩:=h2.get;exact c l τ2 hl L ⟨h2.lt,sz2,at_of (hn.z _ (by omega)) g2⟩ (hn.mono L)
end
end
section
open Go
section
variable{σ τ:Heap}{T T':Tg}{t:Nat}{x y:AVal}{xs:List Int}
theorem Own.freeze{α:Type}{v:Vw α}{zs:List α}(hf:v.Flat)(h:Own v (σ.at T t) zs x)(hn:Tn σ T):∃T',Hop (only t) σ T σ T'/\SlV v (σ.at T' 0) zs x:=by
 rcases h with ⟨rfl,rfl⟩|⟨l,off,c,cs,rfl,h1,h2,h3,h4,h5⟩
 ·exact⟨T,Hop.refl hn,.inl ⟨rfl,rfl⟩⟩
 ·obtain⟨e1,e2⟩:=y1g_.1 h2
  have h1:l<σ.next:=h1;refine⟨T.upd l 0,⟨Nat.le_refl _,⟨fun k hk=>by rw[y1e_ (by omega)];exact hn.z k hk⟩,fun k _ hI=>y1e_ (fun e=>by subst e;simp[only,e1]at hI),fun k o _ _ hg=>hg⟩,.inr ⟨l,off,c,.rw,cs,rfl,h1,at_of y16_ e2,h4,fun i a hi=>hf _ _ _ _ (h5 i a hi)⟩⟩
end
end
section
open Go
theorem y4m_{bl:Bool}{V:Int}:∀{ss:List (Bool×List Int)} {k k':Nat} {D E:List (List Int)},runD bl V k D ss=.inr E->runD bl V k' D ss=.inr E
 |[],k,k',D,E,h=>by rw[runD]at h⊢;exact h
 | (del,c)::t,k,k',D,E,h=>by
  rw[runD]at h⊢;cases del with
  |true=>
   simp only[cond_true]at h⊢
   split at h
   ·rename_i hm;rw[if_pos hm];exact y4m_ h
   ·cases h
  |false=>
   simp only[cond_false]at h⊢;cases hm:mayC bl V D c with
   |true=>rw[hm]at h;simp only[cond_true]at h⊢;exact y4m_ h
   |false=>rw[hm]at h;cases h
theorem yab_{V V':Int}{c:List Int}(h:y8_ V c)(hV:V<=V'):y8_ V' c:=fun l hl=>by have:=h l hl;omega
theorem y50_{V V':Int}{D:List (List Int)}{c:List Int}(h:y8_ V c)(h':y8_ V' c):impl V D c=impl V' D c:=by
 rw[Bool.eq_iff_iff,y1h_,y1h_];simp[h,h']
theorem ybg_{V V':Int}{D:List (List Int)}{c:List Int}(h:y8_ V c)(h':y8_ V' c)(hD:∀d∈D,y8_ V d)(hD':∀d∈D,y8_ V' d):y1b_ V D c=y1b_ V' D c:=by
 cases c with
 |nil=>rw[y1r_,y1r_];exact y50_ h h'
 | cons p t=>
  rw[Bool.eq_iff_iff,y1k_,y1k_,y50_ h h'];have:∀d∈D,impl V D ((p::t)++d.filter fun x => !(x == -p))=impl V' D ((p::t)++d.filter fun x => !(x == -p)):=fun d hd=>y50_
   (fun l hl=>(List.mem_append.1 hl).elim (h l) fun hl=>hD d hd l (List.mem_filter.1 hl).1) (fun l hl=>(List.mem_append.1 hl).elim (h' l) fun hl=>hD' d hd l (List.mem_filter.1 hl).1)
  constructor
  ·rintro(k|⟨_,k⟩)
   ·exact .inl k
   ·exact .inr ⟨h',fun d hd hp=>by rw[<-this d hd];exact k d hd hp⟩
  ·rintro(k|⟨_,k⟩)
   ·exact .inl k
   ·exact .inr ⟨h,fun d hd hp=>by rw[this d hd];exact k d hd hp⟩
theorem y6i_{V V':Int}:∀{ss:List (Bool×List Int)} {k:Nat} {D:List (List Int)},(∀s∈ss,y8_ V s.2/\y8_ V' s.2)->(∀d∈D,y8_ V d/\y8_ V' d)->runD true V k D ss=runD true V' k D ss
 |[],k,D,_,_=>by rw[runD,runD]
 | (del,c)::t,k,D,hs,hD=>by
  have hc:=hs _ (List.mem_cons_self ..);have ht:∀s∈t,y8_ V s.2/\y8_ V' s.2:=fun s h=>hs s (List.mem_cons_of_mem _ h);rw[runD,runD];cases del with
  |true=>
   simp only[cond_true]
   split
   ·exact y6i_ ht fun d hd=>hD d (List.mem_of_mem_erase hd)
   ·rfl
  | false=>
   simp only[cond_false];have hm:mayC true V D c=mayC true V' D c:=ybg_ hc.1 hc.2 (fun d hd=>(hD d hd).1) fun d hd=>(hD d hd).2;rw[hm];cases mayC true V' D c with
   | true=>
    simp only[cond_true];exact y6i_ ht fun d hd=>by
     rcases List.mem_append.1 hd with hd|hd
     ·exact hD d hd
     ·rw[List.mem_singleton.1 hd];exact⟨y2c_.2 hc.1,y2c_.2 hc.2⟩
   |false=>rfl
theorem y6k_{bl:Bool}{V:Int}:∀{ss:List (Bool×List Int)} {k n:Nat} {D E:List (List Int)},runD bl V k D ss=.inr E->∃F,runD bl V 0 D (ss.take n)=.inr F
 |ss,k,0,D,E,_=>⟨D,by rw[List.take_zero,runD]⟩
 |[],k,n+1,D,E,_=>⟨D,by rw[List.take_nil,runD]⟩
 | (del,c)::t,k,n+1,D,E,h=>by
  rw[List.take_succ_cons];rw[runD]at h⊢;cases del with
  | true=>
   simp only[cond_true]at h⊢
   split at h
   ·rename_i hm
    rw[if_pos hm];obtain⟨F,hF⟩:=y6k_ (n:=n) h;exact⟨F,y4m_ hF⟩
   ·cases h
  | false=>
   simp only[cond_false]at h⊢;cases hm:mayC bl V D c with
   |true=>
    rw[hm]at h;simp only[cond_true]at h⊢;obtain⟨F,hF⟩:=y6k_ (n:=n) h;exact⟨F,y4m_ hF⟩
   |false=>rw[hm]at h;cases h
theorem y95_{V:Int}:∀{ss:List (Bool×List Int)} {k k0:Nat} {D E:List (List Int)},runD true V k0 D ss=.inr E->∃n,n<=ss.length/\usedK V k D ss=k+n/\(∀j F,j<n->runD true V 0 D (ss.take j)=.inr F->impl V F []=false)/\(n<ss.length->∃F,runD true V 0 D (ss.take n)=.inr F/\impl V F []=true)
 |[],k,k0,D,E,_=>⟨0,Nat.le_refl _,by rw[usedK];rfl,fun j F h=>by omega,fun h=>by simp at h⟩
 | s::t,k,k0,D,E,h=>by
  rw[usedK];cases hi:impl V D [] with
  |true=>exact⟨0,Nat.zero_le _,rfl,fun j F h=>by omega,fun _=>⟨D,by rw[List.take_zero,runD],hi⟩⟩
  | false=>
   obtain⟨D1,h1,h2⟩:=y6g_ h;simp only[cond_false,h1];obtain⟨n,n1,n2,n3,n4⟩:=y95_ (k:=k+1) h2;have hstep:∀j F,runD true V 0 D ((s::t).take (j+1))=.inr F↔runD true V 0 D1 (t.take j)=.inr F:=fun j F=>by
    rw[List.take_succ_cons];constructor
    ·intro hF
     obtain⟨D2,h3,h4⟩:=y6g_ hF;rw[h1]at h3;cases h3;exact y4m_ h4
    ·intro hF
     obtain⟨del,c⟩:=s;rw[runD]at h1⊢;cases del with
     | true=>
      simp only[cond_true]at h1⊢
      split at h1
      ·rename_i hm
       rw[runD]at h1;cases h1;rw[if_pos hm];exact y4m_ hF
      ·cases h1
     | false=>
      simp only[cond_false]at h1⊢;cases hm:mayC true V D c with
      |true=>
       rw[hm]at h1;simp only[cond_true]at h1⊢;rw[runD]at h1;cases h1;exact y4m_ hF
      |false=>rw[hm]at h1;cases h1
   refine⟨n+1,by simp;omega,by rw[n2];omega,fun j F hj hF=>?_,fun hn=>?_⟩
   ·cases j with
    |zero=>rw[List.take_zero,runD]at hF;cases hF;exact hi
    |succ j=>exact n3 j F (by omega) ((hstep j F).1 hF)
   ·obtain⟨F,hF,hi2⟩:=n4 (by simpa using hn)
    exact⟨F,(hstep n F).2 hF,hi2⟩
theorem y49_{vars:Int}{cs:List (List Int)}{ss:List (Bool×List Int)}(h:yj_ vars cs ss=none)(n:Nat):∃F,runD true (y5_ vars ss) 0 (cs.map normL) (ss.take n)=.inr F/\(yj_ vars cs (ss.take n)=none↔impl (y5_ vars ss) F []=true):=by
 have h0:=h;unfold yj_ at h;cases hp:preF vars cs ss with
 |some f=>rw[hp]at h;cases h
 | none=>
  rw[hp]at h;dsimp only at h;obtain⟨hC,hP⟩:chkC vars cs=none/\chkP ss=none:=by
   unfold preF at hp;cases hC:chkC vars cs with
   |some f=>rw[hC]at hp;cases hp
   |none=>rw[hC]at hp;exact⟨rfl,hp⟩
  obtain⟨c1,c2,c3,c4,c5⟩:=y3s_ hC;obtain⟨p1,p2⟩:=y52_ hP;obtain⟨g1,g2,g3,g4⟩:=y3g_ hC hP;have hP2:chkP (ss.take n)=none:=yig_ (by
   refine Nat.le_trans ?_ p1;have e:yf_ (ss.take n)=(yf_ ss).take n:=by unfold yf_;rw[List.map_take]
   rw[e];exact y30_ _ _) fun s hs=>p2 s (List.mem_of_mem_take hs)
  cases hrun:runD true (y5_ vars ss) 0 (cs.map normL) ss with
  |inl k=>rw[hrun]at h;cases h
  | inr E=>
   obtain⟨F,hF⟩:=y6k_ (n:=n) hrun;refine⟨F,hF,?_⟩;obtain⟨g1',g2',g3',g4'⟩:=y3g_ (ss:=ss.take n) hC hP2;have hv:runD true (y5_ vars (ss.take n)) 0 (cs.map normL) (ss.take n)=.inr F:=by
    rw[<-hF];refine y6i_ (fun s hs=>⟨g4' s hs,g4 s (List.mem_of_mem_take hs)⟩) fun d hd=>?_;obtain⟨c,hc,rfl⟩:=List.mem_map.1 hd;exact⟨y2c_.2 (yab_ (c5 c hc) g3'),y2c_.2 (yab_ (c5 c hc) g3)⟩
   unfold yj_;rw[yi3_ hC hP2];dsimp only;rw[hv];dsimp only;rw[y50_ (V:=y5_ vars (ss.take n)) (V':=y5_ vars ss) (by simp[y8_]) (by simp[y8_])];cases impl (y5_ vars ss) F []<;>simp
theorem ydt_{vars:Int}{cs:List (List Int)}{ss:List (Bool×List Int)}(h:yj_ vars cs ss=none):∃n,n<=ss.length/\usedF vars cs ss=(n,none)/\(∀j,j<n->yj_ vars cs (ss.take j)≠none)/\(n<ss.length->yj_ vars cs (ss.take n)=none):=by
 obtain⟨E,hE⟩:∃E,runD true (y5_ vars ss) 0 (cs.map normL) ss=.inr E:=by
  obtain⟨F,h1,_⟩:=y49_ h ss.length;rw[List.take_length]at h1;exact⟨F,h1⟩
 obtain⟨n,n1,n2,n3,n4⟩:=y95_ (k:=0) hE;refine⟨n,n1,?_,fun j hj hn=>?_,fun hn=>?_⟩
 ·unfold usedF
  rw[h];dsimp only;rw[n2,Nat.zero_add]
 ·obtain⟨F,h1,h2⟩:=y49_ h j
  have:=n3 j F hj h1;rw[h2.1 hn]at this;cases this
 ·obtain⟨F,h1,h2⟩:=y49_ h n
  obtain⟨F',h3,h4⟩:=n4 hn;rw[h1]at h3;cases h3;exact h2.2 h4
section
variable{σ:Heap}{vars:Int}{cs:List (List Int)}{ss:List (Bool×List Int)}{x y:AVal}
end
end
section
open Go
section
variable{bl:Bool}{V vars:Int}{n k:Nat}{C D D0 E cs:List (List Int)}{lg lg' ss a b:List (Bool×List Int)}{c:List Int}
theorem y4u_:∀{a b:List (Bool×List Int)} {k:Nat} {D E:List (List Int)},runD bl V k D a=.inr E->runD bl V k D (a++b)=runD bl V (k+a.length) E b
 |[],b,k,D,E,h=>by rw[runD]at h;cases h;rfl
 | (true,c)::t,b,k,D,E,h=>by
  rw[List.cons_append,runD];rw[runD]at h;simp only[cond_true]at h⊢
  split at h
  ·rename_i hm
   rw[if_pos hm,y4u_ h,List.length_cons,show k+1+t.length=k+(t.length+1) by omega]
  ·cases h
 | (false,c)::t,b,k,D,E,h=>by
  rw[List.cons_append,runD];rw[runD]at h;simp only[cond_false]at h⊢;cases hm:mayC bl V D c with
  |false=>rw[hm]at h;cases h
  |true=>
   rw[hm]at h;simp only[cond_true]at h⊢;rw[y4u_ h,List.length_cons,show k+1+t.length=k+(t.length+1) by omega]
theorem yii_(hR:y8_ V c)(hC:Conf D (negs c)):mayC bl V D c=true:=by
 have hi:impl V D c=true:=y1h_.2 ⟨hR,hC⟩;unfold mayC;cases bl with
 |false=>exact hi
 |true=>
  cases c with
  |nil=>rw[cond_true,y1r_];exact hi
  |cons p t=>rw[cond_true];exact y1k_.2 (.inl hi)
theorem RunS.runD(h:RunS D0 lg D)(hR:∀s∈lg,y8_ V s.2):∀k,YtafbldhedkallaaGreatDoor.A.runD bl V k D0 lg=.inr D:=by
 induction h with
 |nil=>intro k;rw[YtafbldhedkallaaGreatDoor.A.runD]
 |@add lg D c h hC ih=>
  intro k;have ih:=ih (fun s hs=>hR s (by simp[hs])) k;rw[y4u_ ih,YtafbldhedkallaaGreatDoor.A.runD,yii_ (hR (false,c) (by simp)) hC];simp only[cond_false,cond_true];rw[YtafbldhedkallaaGreatDoor.A.runD]
 |@del lg D c h hm ih=>
  intro k;have ih:=ih (fun s hs=>hR s (by simp[hs])) k;rw[y4u_ ih,YtafbldhedkallaaGreatDoor.A.runD];simp only[cond_true];rw[if_pos hm,YtafbldhedkallaaGreatDoor.A.runD]
theorem RunS.last(h:RunS D0 (lg++[(false,c)]) D):∃D',RunS D0 lg D'/\Conf D' (negs c)/\D=D'++[normL c]:=by
 generalize e:lg++[(false,c)]=l at h;cases h with
 |nil=>simp at e
 |add h1 h2=>
  obtain⟨rfl,e2⟩:=List.append_inj' e rfl;cases e2;exact⟨_,h1,h2,rfl⟩
 |del h1 h2=>
  obtain⟨_,e2⟩:=List.append_inj' e rfl;cases e2
theorem yja_(hl:(yf_ lg).flatten.length<=320000)(hR:∀s∈lg,y8_ 4000 s.2):chkP lg=none:=by
 unfold chkP;rw[if_neg (by omega)];have:(yf_ lg).findIdx? (badC 4000)=none:=by
  rw[List.findIdx?_eq_none_iff];intro c hc;obtain⟨s,hs,rfl⟩:=List.mem_map.1 hc;have:=y4n_.2 (hR s hs);simpa using this
 rw[this];rfl
theorem y2y_{m:Nat}:∀{lg:List (Bool×List Int)},(∀s∈lg,s.2.length<=m)->(yf_ lg).flatten.length<=m*lg.length
 |[],_=>by simp[yf_]
 |s::t,h=>by
  have ih:=y2y_ (lg:=t) fun x hx=>h x (by simp[hx]);have:=h s (by simp);show(s.2++(yf_ t).flatten).length<=_;rw[List.length_append,List.length_cons,Nat.mul_succ];omega
theorem ybd_{m:Int}:∀{c:List Int},(∀x∈c,(x.natAbs:Int)<=m)->maxV m c=m
 |[],_=>rfl
 |x::c,h=>by
  unfold maxV;rw[List.foldl_cons,if_neg (by have:=h x (by simp);omega)];exact ybd_ fun y hy=>h y (by simp[hy])
theorem y6f_{m:Int}:∀{lg:List (Bool×List Int)},(∀s∈lg,∀x∈s.2,(x.natAbs:Int)<=m)->y5_ m lg=m
 |[],_=>rfl
 |s::t,h=>by
  unfold y5_;rw[List.foldl_cons,ybd_ (h s (by simp))];exact y6f_ fun x hx=>h x (by simp[hx])
theorem RunS.refute(h:RunS (cs.map normL) (lg++[(false,[])]) D)(hc:chkC (n:Int) cs=none)(hL:LgF n (lg++[(false,[])]))(hn:n<=9):yj_ (n:Int) cs (lg++[(false,[])])=none:=by
 have hB:2 ^ n<=512:=Nat.le_trans (Nat.pow_le_pow_right (by omega) hn) (by decide);obtain⟨h1,h2⟩:=hL;have hlen:(lg++[(false,([]:List Int))]).length<=17500:=by
  have e1:=Nat.mul_le_mul (show 2 ^ n / 2<=256 by omega) (show 2 ^ n / 2 / 8+2<=34 by omega);omega
 have hR:∀s∈lg++[(false,([]:List Int))],y8_ (n:Int) s.2:=fun s hs l hl=>by
  have:=yi_.1 ((h1 s hs).2 l hl);omega
 have hfb:=y2y_ (m:=10) fun s hs=>Nat.le_trans (h1 s hs).1 (by omega);have hP:=yja_ (lg:=lg++[(false,([]:List Int))]) (by omega) fun s hs l hl=>by have:=hR s hs l hl;omega
 have hG:y5_ (n:Int) (lg++[(false,([]:List Int))])=n:=y6f_ fun s hs x hx=>by have:=hR s hs x hx;omega
 unfold yj_;have hp:preF (n:Int) cs (lg++[(false,([]:List Int))])=none:=by unfold preF;rw[hc];exact hP
 rw[hp];dsimp only;rw[hG,h.runD hR 0];dsimp only;obtain⟨D',_,_,rfl⟩:=h.last;have:impl (n:Int) (D'++[normL []]) []=true:=y1h_.2 ⟨fun l hl=>(by cases hl),.inr ⟨[],by
  have e:normL []=[]:=List.eq_nil_iff_forall_not_mem.2 fun x hx=>(by have:=yc_.1 hx;cases this);rw[e];simp,fun k hk=>(by cases hk)⟩⟩
 rw[this];rfl
end
section
variable{σ τ:Heap}{T T':Tg}{e:EnP}{n k l vars:Nat}{s:PS}{hs:List Int}{ln:List (Int×Int)}{lg:List (Bool×List Int)}{since least:Int}{x y:AVal}{C D:List (List Int)}
theorem ycf_(E:EnX σ T e n s hs ln lg since least)(hn:Tn σ T)(hl:lg.length<=1000000)(hcl:∀st∈lg,st.2.length<=1000000) :
  W (S.z103 (.ptr e.le 0) σ) fun r=>∃T',Hop (only 28) σ T r.2 T'/\SlV vB (r.2.at T' 0) lg r.1:=by
 obtain⟨h,xs,xl,xg,conf,bump,most,sv,ws,k1,kp,kh,kq,km,ks,ksl,kl,kg,ka⟩:=E
 clear kp kh kq ks kl
 have kgs:=kg.slT;have hwl:=ka.1;unfold S.z103
 repeat' with_reducible first|refine W.bind ?_|refine W.asV ?_|refine W.fldp ?_|refine W.len (by assumption) ?_|refine W.nck ?_|refine W.u0 ?_
 refine W.mono (P:=fun r=>∃T' ws',Hop (only 28) σ T r.2 T'/\Own vBR (r.2.at T' 28) ws' r.1/\AllB (r.2.at T' 0) lg ws') ?_ fun r hr=>?_
 ·refine W.loop ws.length (fun i (z:AVal×Int) τ=>z.2=(i:Int)/\∃T' ws',Hop (only 28) σ T τ T'/\Own vBR (τ.at T' 34) ws xg/\AllB (τ.at T' 0) lg ws/\Own vBR (τ.at T' 28) ws' z.1/\AllB (τ.at T' 0) (lg.take i) ws') ⟨rfl,T,[],Hop.refl hn,kg,ka,Own.nil,rfl,fun i c hc=>by simp at hc⟩ fun i z τ1 hi hI=>?_
  obtain⟨z1,z2⟩:=z;obtain⟨rfl,T1,ws',HH,kg,ka,kO,kB⟩:=hI;have wr:IntKind.i64.wrap ((i:Int)+1)=((i+1:Nat):Int):=by rw[wrapS]<;>omega
  have hwl':=kB.1;rw[List.length_take]at hwl';unfold S.z103.b0
  (with_reducible refine W.cnd (fun hlt=>?_) (fun hlt=>?_)<;>(try simp only[qq,Kd.ty]at hlt)<;>(try (exfalso;omega)))
  ·obtain⟨st,hst⟩:=y3_ (xs:=lg) (i:=i) (by omega)
   obtain⟨w,hw,hx⟩:=ka.2 i st hst;refine W.ixO kg.slT (i:=i) (by omega) ?_;refine W.ldGO kg.slT hw [.bool st.1,w] (fun bs h=>h) ?_;refine W.newA HH.tn rfl rfl fun l10 τ2 _ L2 k10 hn2=>?_;replace kg:=kg.hle L2;replace ka:=ka.hle L2;replace kO:=kO.hle L2;replace kB:=kB.hle L2;replace hx:=hx.hle L2;have k10u:=k10.up
   repeat' with_reducible first|refine W.bind ?_|refine W.asB ?_|refine W.asV ?_|refine W.e0 ?_
   refine W.mono (y7o_ hx.up (hcl st (List.mem_of_getElem? hst))) fun r hr=>?_;obtain⟨y2,τ3⟩:=r;obtain⟨hA,L3⟩:=hr;dsimp only at hA L3⊢;have hy:=hA.at0 fun k hk=>hn2.z k hk;have k10u:=k10u.mono L3;replace kg:=kg.hle L3;replace ka:=ka.hle L3;replace kO:=kO.hle L3;replace kB:=kB.hle L3;have hn3:=hn2.mono L3;have hyu:=hy.up
   repeat' with_reducible first|refine W.asB ?_|refine W.chk rfl ?_|refine W.e0 ?_|refine W.scalS (by assumption) ?_
   refine W.own_push (bytes:=32) y4b_ kO hn3 (a:=(st.1,y2)) rfl (by omega) (by omega) fun x' τ4 T4 kO H4=>?_
   repeat' (with_reducible refine W.next ?_)
   refine⟨by omega,wr,T4,ws'++[(st.1,y2)],((HH.hle L2).hle L3).trans H4,kg.hop H4,ka.hop H4,kO,?_⟩;have htk:lg.take (i+1)=lg.take i++[st]:=by rw[List.take_add_one,hst];rfl
   rw[htk];exact(kB.hop H4).push (hy.hop H4)
  ·repeat' (with_reducible refine W.stop ?_)
   rw[List.take_of_length_le (by omega)]at kB;exact⟨T1,ws',HH,kO,kB⟩
 ·obtain⟨xo,τ1⟩:=r
  obtain⟨T1,ws',HH,kO,kB⟩:=hr;dsimp only at HH kO kB⊢;obtain⟨T2,H2,hO⟩:=kO.freeze y4b_ HH.tn
  repeat' with_reducible refine W.ret ?_
  exact⟨T2,HH.trans H2,(kB.hop H2).vB hO⟩
end
end
section
open Go
def AddsC(p19 p20:AVal):Int->Heap->Option ((Int⊕Unit)×Heap):=fun x21 σ22=>A.fld p19 1 fun a23=>A.ld σ22 a23 (.V) fun v24=>A.lenV v24 fun n25=>cond (decide (x21<n25)) (A.fld p19 1 fun a26=>A.ld σ22 a26 (.V) fun v27=>A.ixA σ22 v27 1 x21 fun a28=>A.ld σ22 a28 (.V) fun v29=>(S.z100 p20 v29 σ22).bind fun r30=>some (.inl (IntKind.i64.wrap (x21+1)),r30.2)) (some (.inr (),σ22))
section
variable{σ τ:Heap}{T T':Tg}{e:EnP}{n k l10:Nat}{x y:AVal}{C cs:List (List Int)}{w:Nat}{gl:Bool}{a0:AVal}{sc:(List Int×List Int×List Int×List Int)×Int×Int}
theorem yiz_(E:En gl σ T e n C w)(hn:Tn σ T)(hn4:n<=4000)(hw:w+cs.length<=900000000)(k10:Loc (σ.at T 0) l10 [a0,y])(hc:SlV vIs (σ.at T 0) cs y)(hb:∀c∈cs,c.length<=100000/\y8_ n c) :
  W (loopW (AddsC (.ptr l10 0) (.ptr e.le 0)) 0 σ) fun r=>∃T',Hop eK σ T r.2 T'/\En gl r.2 T' e n (C++cs) (w+cs.length):=by
 refine W.loop cs.length (fun i (z:Int) τ=>z=(i:Int)/\∃T',Hop eK σ T τ T'/\SlV vIs (τ.at T' 0) cs y/\Loc (τ.at T' 0) l10 [a0,y]/\En gl τ T' e n (C++cs.take i) (w+i)) ⟨rfl,T,Hop.refl hn,hc,k10,by simpa using E⟩ fun i z τ5 hi hI2=>?_;obtain⟨rfl,T5,HH,hc,k10,E⟩:=hI2;have wr:IntKind.i64.wrap ((i:Int)+1)=((i+1:Nat):Int):=by rw[wrapS]<;>omega
 have hcu:=hc.up;have k10u:=k10.up;unfold AddsC
 repeat' with_reducible first|refine W.asV ?_|refine W.fldp ?_|refine W.len (by assumption) ?_|refine W.e0 ?_
 (with_reducible refine W.cnd (fun hlt=>?_) (fun hlt=>?_)<;>(try simp only[qq,Kd.ty]at hlt)<;>(try (exfalso;omega)))
 ·obtain⟨a,ha⟩:=y3_ (xs:=cs) (i:=i) (by omega)
  have ham:=List.mem_of_getElem? ha
  repeat' with_reducible first|refine W.asV ?_|refine W.fldp ?_|refine W.e0 ?_
  refine W.ixkLS hc at_le ha fun y hy=>?_;refine W.bind ?_;refine W.mono (yhx_ E HH.tn hn4 (by omega) hy (by have:=(hb a ham).1;omega) fun l hl=>yfp_ ((hb a ham).2 l hl)) fun r hr=>?_;obtain⟨r,τ6⟩:=r;obtain⟨_,T6,H6,E⟩:=hr;dsimp only at H6 E⊢
  repeat' (with_reducible refine W.next ?_)
  exact⟨by omega,wr,T6,HH.trans H6,hc.hop H6,k10.hop H6,by rw[List.take_add_one,ha,<-List.append_assoc];exact E⟩
 ·repeat' (with_reducible refine W.stop ?_)
  have:i=cs.length:=by omega
  subst this;rw[List.take_length]at E;exact⟨T5,HH,E⟩
theorem logR{lg:List (Bool×List Int)}(h:LgF 9 lg):lg.length<=17409/\(∀s∈lg,s.2.length<=10/\y8_ ((9:Nat):Int) s.2):=by
 obtain⟨h1,h2⟩:=h;have e:2*((2 ^ 9 / 2)*(2 ^ 9 / 2 / 8+2))+1=17409:=by decide
 refine⟨by omega,fun s hs=>⟨(h1 s hs).1,fun l hl=>?_⟩⟩;have:=yi_.1 ((h1 s hs).2 l hl);omega
end
end
section
open Go
section
variable{σ τ:Heap}{T T':Tg}{e:EnP}{n k l10:Nat}{x y:AVal}{C cs:List (List Int)}{w:Nat}{sc:(List Int×List Int×List Int×List Int)×Int×Int}
theorem W.takeB{R:Type}{Q:R->Prop}{ss:List (Bool×List Int)}(h:SlV vB (σ.at T 0) ss x){m:Nat}(hm:m<=ss.length){K:AVal->Option R}(k:∀x',SlV vB (σ.at T 0) (ss.take m) x'->W (K x') Q):W (YtafbldhedkallaaGreatDoor.A.slS σ 2 x 0 (some (m:Int)) none K) Q:=by
 obtain⟨x',hs,hx'⟩:=h.slice (lo:=0) (hi:=m) (Nat.zero_le _) hm;exact W.to (hs at_le K).1 (k x' hx')
theorem y8m_{l:List Int}{xl xs:AVal}(hg:GlS [.limit,.range,.proof] σ)(hl:SlV .int σ l xl)(hsc:ScV σ xs sc)(b1:l.length<=4611686018427387904):W (S.z116 xl xs σ) fun r=>r.1=true:=by
 have hg:=hg.tz0;have hl:=hl.tz0;have hn:Tn σ Tz:=Tn.tz;obtain⟨x0,x1,x2,x3,rfl,s0,s1,s2,s3⟩:=hsc;unfold S.z116
 repeat' (with_reducible refine W.e3 ?_)
 refine W.new0 hn fun l2 τ1 _ L1 k2 hn=>?_;have hx:ScV (τ1.at Tz 0) (.agg [x0,x1,x2,x3,.int .i64 sc.2.1,.int .i64 sc.2.2]) sc:=⟨x0,x1,x2,x3,rfl,s0.tz0.hle L1,s1.tz0.hle L1,s2.tz0.hle L1,s3.tz0.hle L1⟩
 clear s0 s1 s2 s3
 replace hl:=hl.hle L1;replace hg:=hg.hle L1
 repeat' (with_reducible refine W.bind ?_)
 refine W.mono (yfq_ hg.up) fun r hr=>?_;obtain⟨r,τ2⟩:=r;obtain⟨er,L2⟩:=hr;dsimp only at er L2⊢;subst er;replace hl:=hl.hle L2;replace hx:=hx.hle L2;replace k2:=k2.hle L2;replace hg:=hg.hle L2;replace hn:=hn.mono L2;have hlu:=hl.up;refine W.condF rfl ?_
 repeat' with_reducible first|refine W.bind ?_|refine W.len (by assumption) ?_
 (with_reducible refine W.cnd (fun hbig=>?_) (fun hbig=>?_)<;>(try simp only[qq,Kd.ty]at hbig)<;>(try (exfalso;omega)))
 ·repeat' with_reducible refine W.ret ?_
  refine W.condT rfl ?_
  repeat' with_reducible refine W.ret ?_
  rfl
 repeat' with_reducible first|refine W.bind ?_|refine W.u1 ?_
 refine W.mono (yj7_ hx.up) fun r hr=>?_;obtain⟨r,τ3⟩:=r;obtain⟨er,L3⟩:=hr;dsimp only at er L3⊢;replace hl:=hl.hle L3;replace hx:=hx.hle L3;replace k2:=k2.hle L3;replace hg:=hg.hle L3;replace hn:=hn.mono L3
 repeat' with_reducible refine W.ret ?_
 by_cases hsm:¬ScS sc
 ·have:r=false:=by
   cases r
   ·rfl
   ·exact absurd (er.1 rfl) hsm
  subst this;refine W.condT rfl ?_
  repeat' with_reducible refine W.ret ?_
  rfl
 replace hsm:=Classical.not_not.1 hsm;obtain rfl:r=true:=er.2 hsm;refine W.condF rfl ?_;refine W.bind ?_;refine W.mono (cnf_w hl.up (by omega) (vars:=9) (by omega)) fun r hr=>?_;obtain⟨r,τ4⟩:=r;obtain⟨L4,y,er,hA⟩:=hr;dsimp only at L4 er hA⊢;subst er;have hcs:=hA.atF fun k hk=>hn.z k hk;replace hx:=hx.hle L4;replace k2:=k2.hle L4;replace hg:=hg.hle L4;replace hn:=hn.mono L4;obtain⟨ck1,ck2,ck3⟩:=y6m_ l 9;have hchk:=ybh_ l (n:=9) (by omega) (by omega);have hchk:chkC ((9:Nat):Int) (y19_ l 9)=none:=hchk;generalize hcse:y19_ l 9=cs at *;refine W.newA hn rfl rfl fun l10 τ5 _ L5 k10 _=>?_;replace hx:=hx.hle L5;replace k2:=k2.hle L5;replace hcs:=hcs.hle L5;replace hg:=hg.hle L5;replace hn:=hn.mono L5
 repeat' with_reducible first|refine W.bind ?_|refine W.u1 ?_
 refine W.mono (yjl_ hx hn) fun r hr=>?_;obtain⟨y1,τ7⟩:=r;obtain⟨T7,H7,hy1⟩:=hr;dsimp only at H7 hy1⊢;replace hcs:=hcs.hop H7;replace k10:=k10.hop H7;replace hg:=hg.hop H7;replace hn:=H7.tn;refine W.bind ?_;refine W.mono (yic_ true (vars:=9) hy1 hn hsm (by simp) (by omega)) fun r hr=>?_;obtain⟨r,τ8⟩:=r;obtain⟨T8,e,er,H8,E⟩:=hr;dsimp only at er H8 E⊢;subst er;replace hcs:=hcs.hop H8;replace k10:=k10.hop H8;replace hg:=hg.hop H8;replace hn:=H8.tn;refine W.condF (x:=some (false,τ8)) rfl ?_;refine W.bind ?_;refine W.mono (yiz_ (n:=9) (cs:=cs) E hn (by omega) (by omega) k10 hcs fun c hc=>⟨by have:=(ck1 c hc).2.1;omega,(ck1 c hc).2.2⟩) fun r hr=>?_;obtain⟨r,τ10⟩:=r;obtain⟨T10,H10,E⟩:=hr;dsimp only at H10 E⊢;rw[List.nil_append]at E;replace hcs:=hcs.hop H10;replace k10:=k10.hop H10;replace hg:=hg.hop H10;replace hn:=H10.tn;have hmu9:6*mu 9<=20000000:=by decide
 refine W.bind ?_;refine W.mono (yey_ (A:=[]) E hn (by omega) (.inl ⟨rfl,rfl⟩) (by simp) (fun l hl=>by cases hl) (by omega)) fun r hr=>?_;obtain⟨r,τ11⟩:=r;obtain⟨T11,w11,H11,_,s,hs,ln,lg,since,least,E,L,_,hLF,hso⟩:=hr;dsimp only at H11 E hso⊢;replace hcs:=hcs.hop H11;replace k10:=k10.hop H11;replace hg:=hg.hop H11;replace hn:=H11.tn;obtain⟨hll,hlr⟩:=logR hLF;obtain⟨D,X,hrun,_⟩:=L.lgI rfl;have hlr':∀st∈lg,st.2.length<=10:=fun st hst=>(hlr st hst).1;have hfb:=y2y_ hlr';have hcl:∀st∈lg,st.2.length<=1000000:=fun st hst=>by have:=hlr' st hst;omega
 have hso2:(∃u v,r=(.agg [.bool true,u,v],.nili)/\∃m,mods m cs)\/(∃u v,r=(.agg [.bool false,u,v],.nili)/\yj_ ((9:Nat):Int) cs lg=none):=by
  rcases hso with ⟨y',M,er,_,_,hm,_⟩|⟨y',core,lg0,er,_,hcA,_,_,hlg⟩
  ·exact .inl ⟨_,_,er,_,hm⟩
  ·have:core=[]:=by
    cases core with
    |nil=>rfl
    |cons a t=>exact absurd (hcA a (by simp)) (by simp)
   subst this;have hlg:lg=lg0++[(false,[])]:=hlg;subst hlg;exact .inr ⟨_,_,er,hrun.refute hchk hLF (by omega)⟩
 rcases hso2 with ⟨u,v,rfl,m,hm⟩|⟨u,v,rfl,href⟩
 ·refine W.newA hn rfl rfl fun l33 τ12 _ L12 k33 _=>?_
  replace hcs:=hcs.hle L12;replace k10:=k10.hle L12;replace hg:=hg.hle L12;replace hn:=hn.mono L12;replace E:=E.hle L12;have k33u:=k33.up;have k10u:=k10.up;refine W.fnil (f:=none) rfl (W.condF rfl ?_)
  repeat' with_reducible first|refine W.asB ?_|refine W.e0 ?_
  refine W.condT rfl ?_;refine W.bind ?_;refine W.condT rfl ?_
  repeat' with_reducible first|refine W.bind ?_|refine W.e1 ?_
  refine W.mono (ycf_ E hn (by omega) hcl) fun r hr=>?_;obtain⟨xg,τ13⟩:=r;obtain⟨T13,H13,hlog⟩:=hr;dsimp only at H13 hlog⊢;replace hcs:=hcs.hop H13;replace k10:=k10.hop H13;replace hg:=hg.hop H13;replace hn:=H13.tn;have k10u:=k10.up
  repeat' with_reducible first|refine W.bind ?_|refine W.chk rfl ?_|refine W.e1 ?_
  refine W.mono (y2j_ (vars:=((9:Nat):Int)) hg.up hcs.up hlog.up (by omega) (by omega) (by omega) (by omega)) fun r hr=>?_;obtain⟨r,τ14⟩:=r;obtain⟨L14,hF⟩:=hr;dsimp only at L14 hF⊢;refine W.fnil hF ?_
  repeat' with_reducible refine W.ret ?_
  cases hr:yj_ ((9:Nat):Int) cs lg with
  |some f=>rfl
  |none=>exact(ybf_ hr hm).elim
 ·refine W.newA hn rfl rfl fun l33 τ12 _ L12 k33 _=>?_
  replace hcs:=hcs.hle L12;replace k10:=k10.hle L12;replace hg:=hg.hle L12;replace hn:=hn.mono L12;replace E:=E.hle L12;have k33u:=k33.up;refine W.fnil (f:=none) rfl (W.condF rfl ?_)
  repeat' with_reducible first|refine W.asB ?_|refine W.e0 ?_
  refine W.condF rfl ?_;refine W.bind ?_;refine W.mono (ycf_ E hn (by omega) hcl) fun r hr=>?_;obtain⟨xg,τ13⟩:=r;obtain⟨T13,H13,hlog⟩:=hr;dsimp only at H13 hlog⊢;replace hcs:=hcs.hop H13;replace k10:=k10.hop H13;replace hg:=hg.hop H13;replace hn:=H13.tn;have k10u:=k10.up;obtain⟨n,hnl,hus,hfew,hat⟩:=ydt_ href
  repeat' with_reducible first|refine W.bind ?_|refine W.e1 ?_
  refine W.mono (yk0_ (vars:=((9:Nat):Int)) hg.up hcs.up hlog.up (by omega) (by omega) (by omega) (by omega)) fun r hr=>?_;obtain⟨⟨n1,er1⟩,τ14⟩:=r;obtain⟨L14,e1,hF⟩:=hr;dsimp only at L14 e1 hF⊢;rw[hus]at e1 hF;dsimp only at e1 hF;subst e1;replace hcs:=hcs.hle L14;replace k10:=k10.hle L14;replace hg:=hg.hle L14;replace hlog:=hlog.hle L14;replace hn:=hn.mono L14;have k10u:=k10.up;refine W.bind ?_;refine W.mono (P:=fun r=>r.1=true) ?_ fun r hr=>W.ret hr;refine W.condT rfl ?_
  repeat' with_reducible first|refine W.bind ?_|refine W.e1 ?_
  refine W.mono (y2j_ (vars:=((9:Nat):Int)) hg.up hcs.up hlog.up (by omega) (by omega) (by omega) (by omega)) fun r hr=>?_;obtain⟨r,τ15⟩:=r;obtain⟨L15,hF2⟩:=hr;dsimp only at L15 hF2⊢;rw[href]at hF2;replace hF:=hF.mono L15;replace hcs:=hcs.hle L15;replace k10:=k10.hle L15;replace hg:=hg.hle L15;replace hlog:=hlog.hle L15;replace hn:=hn.mono L15;have k10u:=k10.up;have hlogu:=hlog.up;refine W.fnil hF2 (W.condT rfl ?_);refine W.fnil hF (W.condT rfl ?_);refine W.condT (by simp) ?_
  repeat' (with_reducible refine W.len (by assumption) ?_)
  refine W.condT (by simp;exact hnl) ?_
  repeat' (with_reducible refine W.e1 ?_)
  refine W.takeB hlog hnl fun x1 hx1=>?_;have hfb1:(yf_ (lg.take n)).flatten.length<=10*(lg.take n).length:=y2y_ fun s hs=>hlr' s (List.mem_of_mem_take hs);have hlt1:(lg.take n).length<=lg.length:=by rw[List.length_take];omega
  refine W.bind ?_;refine W.mono (y2j_ (vars:=((9:Nat):Int)) hg.up hcs.up hx1.up (by omega) (by omega) (by omega) (by omega)) fun r hr=>?_;obtain⟨r,τ16⟩:=r;obtain⟨L16,hF3⟩:=hr;dsimp only at L16 hF3⊢;have hr1:yj_ ((9:Nat):Int) cs (lg.take n)=none:=by
   by_cases q:n<lg.length
   ·exact hat q
   ·rw[List.take_of_length_le (by omega)];exact href
  rw[hr1]at hF3;replace hcs:=hcs.hle L16;replace k10:=k10.hle L16;replace hg:=hg.hle L16;replace hlog:=hlog.hle L16;replace hn:=hn.mono L16;have k10u:=k10.up;refine W.fnil hF3 (W.condT rfl ?_);by_cases h0:n=0
  ·subst h0
   refine W.condT rfl ?_
   repeat' with_reducible refine W.ret ?_
   rfl
  ·refine W.condF (by simp;exact h0) ?_
   repeat' (with_reducible refine W.e1 ?_)
   have wn1:IntKind.i64.wrap ((n:Int)-1)=((n-1:Nat):Int):=by rw[wrapS]<;>omega
   rw[wn1];refine W.takeB hlog (show n-1<=lg.length by omega) fun x2 hx2=>?_;have hfb2:(yf_ (lg.take (n-1))).flatten.length<=10*(lg.take (n-1)).length:=y2y_ fun s hs=>hlr' s (List.mem_of_mem_take hs);have hlt2:(lg.take (n-1)).length<=lg.length:=by rw[List.length_take];omega
   refine W.bind ?_;refine W.mono (y2j_ (vars:=((9:Nat):Int)) hg.up hcs.up hx2.up (by omega) (by omega) (by omega) (by omega)) fun r hr=>?_;obtain⟨r,τ17⟩:=r;obtain⟨L17,hF4⟩:=hr;dsimp only at L17 hF4⊢;refine W.fnil hF4 ?_
   repeat' with_reducible refine W.ret ?_
   cases hr:yj_ ((9:Nat):Int) cs (lg.take (n-1)) with
   |some f=>rfl
   |none=>exact absurd hr (hfew (n-1) (by omega))
end
end
end Go.Proofs.YtafbldhedkallaaGreatDoor.A
end
