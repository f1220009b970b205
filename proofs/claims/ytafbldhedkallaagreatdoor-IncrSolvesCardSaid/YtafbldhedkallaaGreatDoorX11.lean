/- Parts of the proof, one behind another. -/
import Derived.Test.YtafbldhedkallaaGreatDoorX10
import Derived.Test.YtafbldhedkallaaGreatDoorX9
set_option linter.all false
noncomputable section
namespace Go.Proofs.YtafbldhedkallaaGreatDoor.A
section
open Go
section
variable{σ τ:Heap}{T T':Tg}{lh k v N vars:Nat}{hs:List Int}{I:Nat->Bool}
theorem y94_(p:HpI σ T lh N hs)(hn:Tn σ T)(hN:N<=4000)(hv:vars<=4000):W (S.z12 (.ptr lh 0) (vars:Int) σ) fun r=>∃T' hs',Hop hI σ T r.2 T'/\HpI r.2 T' lh (max N vars) hs'/\∀x:Int,x∈hs'↔x∈hs\/((N:Int)<x/\x<=vars):=by
 unfold S.z12;refine W.bind ?_;refine W.mono (P:=fun r=>∃T' hs',Hop hI σ T r.2 T'/\HpI r.2 T' lh (max N vars) hs'/\∀x:Int,x∈hs'↔x∈hs\/((N:Int)<x/\x<=vars)) ?_ fun r hr=>W.ret hr;refine W.loopI (m:=vars-N) (fun m (_:Unit) τ=>∃(T':Tg) (hs':List Int) (K:Nat),Hop hI σ T τ T'/\HpI τ T' lh K hs'/\N<=K/\(K=N\/K<=vars)/\m=vars-K/\∀x:Int,x∈hs'↔x∈hs\/((N:Int)<x/\x<=K)) ⟨T,hs,N,Hop.refl hn,p,Nat.le_refl _,.inl rfl,rfl,fun x=>⟨.inl,fun q=>q.elim id fun q=>by omega⟩⟩ fun m _ τ hI2=>?_;obtain⟨T1,hs1,K,HH,p1,hK,hK2,rfl,hmm⟩:=hI2;have hlen:=p1.len;obtain⟨xs,xp,xh,sc,pl,⟨k1,k2,k3,k4⟩,H,e⟩:=p1;have hl:=H.len;unfold S.z12.b0
 repeat' with_reducible first|refine W.bind ?_|refine W.asV ?_|refine W.fldp ?_|refine W.nck ?_|refine W.u0 ?_|refine W.u3 ?_
 refine W.to (ycb_ (by omega) (by omega)) ?_
 repeat' with_reducible refine W.ret ?_
 (with_reducible refine W.cnd (fun hlt=>?_) (fun hlt=>?_)<;>(try simp only[qq,Kd.ty]at hlt)<;>(try (exfalso;omega)))
 ·have k1o:=k1
  repeat' with_reducible first|refine W.asV ?_|refine W.fldp ?_|refine W.nck ?_|refine W.u0 ?_
  refine W.own_push (bytes:=8) Vw.int_flat k2 HH.tn (a:=(0:Int)) rfl (by omega) (by omega) fun x2 τ2 T2 k2 H2=>?_;replace HH:=HH.inH H2;replace k1:=k1.hop H2;replace k3:=k3.hop H2;replace k4:=k4.hop H2;replace hn:=H2.tn
  repeat' with_reducible first|refine W.asV ?_|refine W.chk rfl ?_|refine W.fldp ?_|refine W.nck ?_|refine W.u0 ?_
  refine W.own_push (bytes:=8) Vw.int_flat k3 HH.tn (a:=(0:Int)) rfl (by omega) (by omega) fun x3 τ3 T3 k3 H3=>?_;replace HH:=HH.inH H3;replace k1:=k1.hop H3;replace k2:=k2.hop H3;replace k4:=k4.hop H3;replace hn:=H3.tn
  repeat' with_reducible first|refine W.fldp ?_|refine W.nck ?_|refine W.u4 ?_
  refine W.stT k1 hn (kc_ (by rfl)) fun τ4 H4 k1 hnτ4=>?_;replace HH:=HH.inH H4;replace k2:=k2.hop H4;replace k3:=k3.hop H4;replace k4:=k4.hop H4;replace hn:=H4.tn
  repeat' with_reducible first|refine W.fldp ?_|refine W.nck ?_|refine W.u4 ?_
  refine W.stT k1 hn (kc_ (by rfl)) fun τ5 H5 k1 hnτ5=>?_;replace HH:=HH.inH H5;replace k2:=k2.hop H5;replace k3:=k3.hop H5;replace k4:=k4.hop H5;replace hn:=H5.tn
  repeat' with_reducible first|refine W.bind ?_|refine W.asV ?_|refine W.fldp ?_|refine W.nck ?_|refine W.u0 ?_|refine W.u3 ?_
  have w:IntKind.i64.wrap (((sc++[(0:Int)]).length:Int)-1)=((K+1:Nat):Int):=by rw[wrapS]<;>simp<;>omega
  rw[w];have p5:HpI τ5 T3 lh (K+1) hs1:=⟨_,_,_,_,_,⟨k1,k2,k3,k4⟩,H.grow,by simp[e]⟩;refine W.mono (y8j_ (v:=K+1) p5 HH.tn (by omega) (by omega) (by omega)) fun r hr=>?_;obtain⟨r,τ6⟩:=r;obtain⟨T6,hs6,H6,p6,hm6⟩:=hr
  repeat' (with_reducible refine W.next ?_)
  refine⟨vars-(K+1),by omega,T6,hs6,K+1,HH.trans H6,p6,by omega,.inr (by omega),rfl,fun x=>?_⟩;rw[hm6,hmm];constructor
  ·rintro((q|q)|q)
   ·exact .inl q
   ·exact .inr (by omega)
   ·exact .inr (by omega)
  ·rintro(q|q)
   ·exact .inl (.inl q)
   ·by_cases e2:x=((K+1:Nat):Int)
    ·exact .inr e2
    ·exact .inl (.inr (by omega))
 ·repeat' (with_reducible refine W.stop ?_)
  have:max N vars=K:=by omega
  rw[this];refine⟨T1,hs1,HH,⟨_,_,_,_,_,⟨k1,k2,k3,k4⟩,H,e⟩,fun x=>?_⟩;rw[hmm];constructor
  ·rintro(q|q)
   ·exact .inl q
   ·rcases hK2 with w|w
    ·omega
    ·exact .inr (by omega)
  ·rintro(q|q)
   ·exact .inl q
   ·exact .inr (by omega)
theorem yfo_(hn:Tn σ T):W (S.z25 0 σ) fun r=>∃T' lh,r.1=.ptr lh 0/\Hop hI σ T r.2 T'/\HpI r.2 T' lh 0 []:=by
 unfold S.z25;refine W.mkT (v:=Vw.int) 12 hn (0:Int) rfl (fun _=>rfl) (n:=1) (by omega) (by omega) rfl fun x τ1 T1 H1 k2 _=>?_;have HH:Hop hI σ T τ1 T1:=(Hop.refl hn).inH H1;refine W.mkT (v:=Vw.int) 13 HH.tn (0:Int) rfl (fun _=>rfl) (n:=1) (by omega) (by omega) rfl fun y τ2 T2 H2 k3 _=>?_;replace HH:=HH.inH H2;replace k2:=k2.hop H2;replace hn:=H2.tn
 repeat' (with_reducible refine W.u4 ?_)
 refine W.newT 11 hn fun l τ3 T3 hl H3 k1 hnτ3=>?_;replace HH:=HH.inH H3;replace k2:=k2.hop H3;replace k3:=k3.hop H3;replace hn:=H3.tn;have p3:HpI τ3 T3 l 0 []:=⟨_,_,_,_,_,⟨k1,k2,k3,.nil⟩,⟨rfl,fun k v h=>by simp at h,fun v k hv=>by
  have:v=0:=by simpa using hv
  subst this;simp;omega,fun v=>by
  cases v with
  |zero=>simp
  |succ v=>simp⟩,rfl⟩
 refine W.bind ?_;refine W.mono (y94_ (vars:=0) p3 HH.tn (by omega) (by omega)) fun r hr=>?_;obtain⟨r,τ4⟩:=r;obtain⟨T4,hs4,H4,p4,hm4⟩:=hr
 repeat' with_reducible refine W.ret ?_
 have:hs4=[]:=by
  cases hs4 with
  |nil=>rfl
  |cons a t=>
   have:=(hm4 a).1 (by simp);rcases this with q|q
   ·cases q
   ·omega
 subst this;exact⟨T4,l,rfl,HH.trans H4,p4⟩
theorem MO.packs{R:Type}:∀(vs:List AVal) (ks:List Kd) {K K':Tu ks->Option R},(∀x,MO (K x) (K' x))->MO (packs vs ks K) (packs vs ks K')
 |[],[],K,K',h=>h ()
 |[v],[k],K,K',h=>MO.asK h
 |v::v'::vs,k::k'::ks,K,K',h=>MO.asK fun a=>MO.packs (v'::vs) (k'::ks) fun b=>h (a,b)
 |[],_::_,K,K',h=>MO.none _
 |[_],[],K,K',h=>MO.none _
 |_::_::_,[],K,K',h=>MO.none _
 |[_],_::_::_,K,K',h=>MO.none _
 |_::_::_,[_],K,K',h=>MO.none _
theorem MO.callB{self self':Int->AVal->AVal->AVal->Heap->Option (Unit×Heap)}(h:∀a b c d σ,MO (self a b c d σ) (self' a b c d σ)){R:Type}{K K':AVal->Heap->Option R}(hK:∀a b,MO (K a b) (K' a b))(v:AVal)(args:List AVal)(σ:Heap) :
  MO (callV (S.z19.T self) v args σ K) (callV (S.z19.T self') v args σ K'):=by
 unfold callV
 split
 ·rename_i id fi ca
  unfold S.z19.T tab;generalize Nat.beq id _=b;cases b with
  |true=>exact MO.bind (MO.packs _ _ fun x=>h _ _ _ _ _) fun r=>hK _ _
  |false=>exact MO.none _
 ·exact MO.none _
theorem yic_{self self':Int->AVal->AVal->AVal->Heap->Option (Unit×Heap)}(h:∀a b c d σ,MO (self a b c d σ) (self' a b c d σ))(k:Int)(a b c:AVal)(σ:Heap):MO (S.z19.r self k a b c σ) (S.z19.r self' k a b c σ):=by
 unfold S.z19.r;refine MO.bind (MO.rfl _) fun r=>MO.cond ?_ (MO.rfl _);refine MO.ld fun v=>MO.ld fun v=>MO.nilck (MO.fld fun a=>MO.ld fun v=>MO.ixA fun a=>MO.ld fun n=>MO.newK fun l σ=>MO.appS fun v σ=>MO.scal (MO.stC fun σ=>MO.ld fun v=>MO.callB h (fun r σ=>MO.ld fun v=>MO.callB h (fun r σ=>MO.rfl _) _ _ _) _ _ _))
theorem ygh_(n:Nat):∀k a b c σ,MO (S.z19.n n k a b c σ) (S.z19.n (n+1) k a b c σ):=by
 induction n with
 |zero=>exact fun _ _ _ _ _=>MO.none _
 |succ n ih=>exact fun k a b c σ=>yic_ ih k a b c σ
structure BsH(σ:Heap)(T:Tg)(lh N l1 l3 l5:Nat)(hs out:List Int):Prop where
 hp:HpI σ T lh N hs
 b1:Loc (σ.at T 26) l1 [.ptr lh 0]
 b3:∃x,Loc (σ.at T 24) l3 [x]/\Own .int (σ.at T 25) out x
 b5:∃f,Loc (σ.at T 27) l5 [f]/\∀(self:Int->AVal->AVal->AVal->Heap->Option (Unit×Heap)) {R:Type} (K:AVal->Heap->Option R) (k:Int) (σ:Heap),callV (S.z19.T self) f [.int .i64 k] σ K=(self k (.ptr l1 0) (.ptr l3 0) (.ptr l5 0) σ).bind fun r=>K (retV [] r.1) r.2
def bI:Nat->Bool:=fun j=>decide (24<=j)&&decide (j<=29)
theorem Hop.inB{σ0 σ τ:Heap}{T0 T T':Tg}{t:Nat}(h:Hop bI σ0 T0 σ T)(H:Hop (only t) σ T τ T')(ht:bI t=true:=by rfl):Hop bI σ0 T0 τ T':=h.trans (H.sub (fun i hi=>by
 have:i=t:=by simpa using hi
 rw[this];exact ht))
theorem hI_bI(j:Nat)(h:hI j=true):bI j=false:=by
 simp only[hI,bI,Bool.and_eq_true,decide_eq_true_eq,Bool.and_eq_false_iff,decide_eq_false_iff_not]at h⊢;omega
section
variable{σ τ:Heap}{T T':Tg}{lh N l1 l3 l5:Nat}{hs out:List Int}
theorem HpI.hopB(p:HpI σ T lh N hs){t:Nat}(H:Hop (only t) σ T τ T')(ht:hI t=false:=by rfl):HpI τ T' lh N hs:=p.hop H fun j hj=>by
 simp only[only,beq_eq_false_iff_ne];intro e;subst e;rw[ht]at hj;cases hj
theorem ye7_(hN:N<=4000):∀(m:Nat) {σ:Heap} {T:Tg} {out:List Int} (k:Nat),BsH σ T lh N l1 l3 l5 hs out->Tn σ T->hs.length<2 ^ m*(k+1)->m<=20->k<=1000000->out.length+2 ^ m<=10000000->(∀x∈out,x∈hs) ->
  W (S.z19.n (m+1) (k:Int) (.ptr l1 0) (.ptr l3 0) (.ptr l5 0) σ) fun r=>∃T' out',Hop bI σ T r.2 T'/\BsH r.2 T' lh N l1 l3 l5 hs out'/\(∀x∈out',x∈hs)/\out'.length+1<=out.length+2 ^ m/\(out≠[]\/(k=0/\hs≠[])->out'≠[]):=by
 intro m
 induction m with
 | zero=>
  intro σ T out k B hn hk _ _ _ hout;have hlen:=B.hp.len;obtain⟨xs,xp,xh,sc,pl,⟨k1,k2,k3,k4⟩,H,e⟩:=id B.hp;have b1:=B.b1;show W (S.z19.r (S.z19.n 0) (k:Int) (.ptr l1 0) (.ptr l3 0) (.ptr l5 0) σ) _;unfold S.z19.r
  repeat' with_reducible first|refine W.bind ?_|refine W.asV ?_|refine W.fldp ?_|refine W.nck ?_|refine W.u0 ?_|refine W.u3 ?_
  refine W.condF (by simp;omega) ?_
  repeat' with_reducible refine W.ret ?_
  refine W.condF rfl ?_
  repeat' with_reducible refine W.ret ?_
  refine⟨T,out,Hop.refl hn,B,hout,by simp,fun q=>?_⟩;rcases q with q|⟨q1,q2⟩
  ·exact q
  ·subst q1
   have:hs.length=0:=by omega
   exact absurd (km_ this) q2
 | succ m ih=>
  intro σ T out k B hn hk hm hk6 ho7 hout;have hlen:=B.hp.len;have hp0:=B.hp;obtain⟨xs,xp,xh,sc,pl,⟨k1,k2,k3,k4⟩,H,e⟩:=hp0;have b1:=B.b1;obtain⟨x3,b3,k25⟩:=B.b3;obtain⟨f,b5,hf⟩:=B.b5;show W (S.z19.r (S.z19.n (m+1)) (k:Int) (.ptr l1 0) (.ptr l3 0) (.ptr l5 0) σ) _;unfold S.z19.r;have hnil:∀(q:k=0/\hs≠[]) ,k<hs.length:=fun q=>by
   have:=List.length_pos_iff.2 q.2;omega
  have hpow:1<=2 ^ m:=Nat.one_le_two_pow;have hp2:2 ^ (m+1)=2 ^ m+2 ^ m:=by rw[Nat.pow_succ];omega
  have hsmall:2 ^ (m+1)<=1048576:=Nat.pow_le_pow_right (n:=2) (by omega) hm;refine W.bind ?_;refine W.mono (P:=fun b=>(b=true->k<hs.length)/\(k=0->hs≠[]->b=true)) ?_ fun b hb=>?_
  ·repeat' with_reducible first|refine W.asV ?_|refine W.fldp ?_|refine W.nck ?_|refine W.u0 ?_|refine W.u3 ?_
   (with_reducible refine W.cnd (fun hkl=>?_) (fun hkl=>?_)<;>(try simp only[qq,Kd.ty]at hkl)<;>(try (exfalso;omega)))
   ·obtain⟨a,ha⟩:=y3_ (xs:=hs) (i:=k) (by omega)
    obtain⟨d,hd⟩:=y3_ (xs:=hs) (i:=0) (by omega);obtain⟨wa,rfl,hwa⟩:=H.nat ha;obtain⟨wd,rfl,hwd⟩:=H.nat hd;obtain⟨sa,hsa⟩:=y3_ (xs:=sc) (i:=wa) hwa;obtain⟨sd,hsd⟩:=y3_ (xs:=sc) (i:=wd) hwd
    repeat' with_reducible first|refine W.asV ?_|refine W.fldp ?_|refine W.nck ?_|refine W.u0 ?_|refine W.u2 ?_
    refine W.ixIc (i:=0) k4.slT hd ?_
    repeat' with_reducible first|refine W.ret ?_|refine W.u2 ?_
    refine⟨fun _=>by omega,fun q _=>?_⟩;subst q;rw[ha]at hd;have:wa=wd:=Int.ofNat.inj (kp_ hd);subst this;rw[hsa]at hsd;have:=kp_ hsd;simp[this]
   ·repeat' with_reducible refine W.ret ?_
    refine⟨fun q=>by simp at q,fun q1 q2=>?_⟩;have:=List.length_pos_iff.2 q2;omega
  ·cases b with
   |false=>
    refine W.condF rfl ?_
    repeat' with_reducible refine W.ret ?_
    refine⟨T,out,Hop.refl hn,B,hout,by omega,fun q=>?_⟩;rcases q with q|⟨q1,q2⟩
    ·exact q
    ·have:=hb.2 q1 q2;cases this
   | true=>
    have hkl:=hb.1 rfl;refine W.condT rfl ?_;obtain⟨a,ha⟩:=y3_ (xs:=hs) (i:=k) hkl
    repeat' with_reducible first|refine W.asV ?_|refine W.fldp ?_|refine W.nck ?_|refine W.u0 ?_|refine W.u2 ?_
    refine W.own_push (bytes:=8) Vw.int_flat k25 hn (a:=a) rfl (by omega) (by omega) fun x2 τ2 T2 k25 H2=>?_;have HH:Hop bI σ T τ2 T2:=(Hop.refl hn).inB H2;have p2:=B.hp.hopB H2;replace b1:=b1.hop H2;replace b3:=b3.hop H2;replace b5:=b5.hop H2;replace hn:=H2.tn
    repeat' (with_reducible refine W.u4 ?_)
    refine W.stT b3 hn (kc_ (by rfl)) fun τ3 H3 b3 hnτ3=>?_;replace HH:=HH.inB H3;have p3:=p2.hopB H3;replace b1:=b1.hop H3;replace b5:=b5.hop H3;replace k25:=k25.hop H3;replace hn:=H3.tn;have B3:BsH τ3 T2 lh N l1 l3 l5 hs (out++[a]):=⟨p3,b1,⟨x2,b3,k25⟩,f,b5,hf⟩;have w1:IntKind.i64.wrap (2*(k:Int))=((2*k:Nat):Int):=by rw[wrapS]<;>omega
    have w2:IntKind.i64.wrap (((2*k:Nat):Int)+1)=((2*k+1:Nat):Int):=by rw[wrapS]<;>omega
    have w3:IntKind.i64.wrap (((2*k:Nat):Int)+2)=((2*k+2:Nat):Int):=by rw[wrapS]<;>omega
    rw[w1,w2,w3]
    repeat' with_reducible first|refine W.asV ?_|refine W.u0 ?_
    refine W.to (hf _ _ _ _) ?_;have hmul:2 ^ (m+1)*(k+1)=2 ^ m*(2*k+1+1):=by
     have e2:2*k+1+1=2*(k+1):=by omega
     rw[e2,hp2,<-Nat.two_mul,Nat.mul_comm 2,Nat.mul_assoc]
    have hlt1:hs.length<2 ^ m*(2*k+1+1):=by rw[<-hmul];exact hk
    have hmul2:2 ^ m*(2*k+1+1)<=2 ^ m*(2*k+2+1):=Nat.mul_le_mul_left _ (by omega);refine W.bind ?_;have hlt2:hs.length<2 ^ m*(2*k+2+1):=Nat.lt_of_lt_of_le hlt1 hmul2;refine W.mono (ih (2*k+1) B3 hn hlt1 (by omega) (by omega) (by simp;omega) (fun x hx=>by
     rcases kh_.1 hx with q|q
     ·exact hout x q
     ·rw[kj_.1 q];exact ka_ ha)) fun r hr=>?_
    obtain⟨r,τ4⟩:=r;obtain⟨T4,out4,H4,B4,hout4,hlen4,hne4⟩:=hr;dsimp only at H4 B4⊢;replace HH:=HH.trans H4;obtain⟨f',b5,hf'⟩:=B4.b5
    repeat' with_reducible first|refine W.asV ?_|refine W.u0 ?_
    refine W.to (hf' _ _ _ _) ?_;simp at hlen4;refine W.bind ?_;refine W.mono (ih (2*k+2) B4 H4.tn hlt2 (by omega) (by omega) (by omega) hout4) fun r hr=>?_;obtain⟨r,τ5⟩:=r;obtain⟨T5,out5,H5,B5,hout5,hlen5,hne5⟩:=hr
    repeat' with_reducible refine W.ret ?_
    exact⟨T5,out5,HH.trans H5,B5,hout5,by omega,fun _=>hne5 (.inl (hne4 (.inl (by simp))))⟩
theorem yjw_{t:Nat}{xs:List Int}{x:AVal}(h:Own .int (σ.at T t) xs x)(hn:Tn σ T)(hne:xs≠[])(hb:xs.length<=100000000):W (S.z164 x σ) fun r=>Own .int (r.2.at T t) (yw_ xs) x/\Hop (only t) σ T r.2 T:=by
 rcases h with ⟨_,rfl⟩|⟨l,off,c,cs,rfl,h2,h3,h4,h5,h6⟩
 ·exact absurd rfl hne
 obtain⟨e1,e2⟩:=y19_.1 h3;have hsz:Vw.int.sz=1:=rfl;rw[hsz]at h3 h4 h5 h6 e2;simp only[Nat.mul_one]at h4 h5 h6;have hpos:=List.length_pos_iff.2 hne;have hcs:(cs.drop off).take xs.length=xs.map (.int .i64):=by
  apply List.ext_getElem? fun i=>?_;by_cases hi:i<xs.length
  ·obtain⟨a,ha⟩:=y3_ (xs:=xs) (i:=i) hi
   have:=h6 i a ha;have this:(cs.drop (off+i)).take 1=[.int .i64 a]:=this;rw[ke_ hi,List.getElem?_map,ha,List.getElem?_drop];have h7:=congrArg (·[0]?) this;simp only[List.getElem?_take_of_lt (show 0<1 by omega),List.getElem?_drop,Nat.add_zero]at h7;rw[h7];rfl
  ·rw[ko_ (by simp;omega),ko_ (by simp;omega)]
 unfold S.z164;refine⟨((),σ.set l (.cells .rw 1 (cs.take off++(yw_ xs).map (.int .i64)++cs.drop (off+xs.length)))),?_,?_,y40_ hn e1⟩
 ·simp only[sortS,e2]
  rw[if_pos ⟨hpos,h5,by omega⟩,hcs,ya0_]
 ·have hsl:=y3r_ xs
  refine .inr ⟨l,off,c,_,by rw[hsl],h2,at_of e1 (y5w_ ..),fun k e=>?_,?_,fun i a ha=>?_⟩
  ·have:=h4 k e
   simp[hsz,hsl];omega
  ·simp[hsz,hsl];omega
  ·have hi:=y2_ ha
   rw[hsz,Nat.mul_one];show _=_;rw[List.drop_eq_getElem_cons (by simp;omega),List.take_succ_cons,List.take_zero]
   congr 1
   have:(cs.take off++(yw_ xs).map (AVal.int .i64)++cs.drop (off+xs.length))[off+i]?=some (.int .i64 a):=by
    rw[kn_,kl_ (by simp;omega),kg_ (by simp;omega),List.getElem?_map];rw[show off+i-(cs.take off).length=i by simp;omega,ha];rfl
   exact(kf_.1 this).2
theorem yk1_(p:HpI σ T lh N hs)(hn:Tn σ T)(hN:N<=4000)(hne:hs≠[]):W (S.z18 (.ptr lh 0) σ) fun r=>∃T' out,Hop bI σ T r.2 T'/\Own .int (r.2.at T' 25) out r.1/\out≠[]/\out.length<=10000000/\∀x∈out,x∈hs:=by
 have hlen:=p.len;unfold S.z18
 repeat' (with_reducible refine W.scP ?_)
 refine W.newT 26 hn fun l1 τ1 T1 hl1 H1 b1 hnτ1=>?_;have HH:Hop bI σ T τ1 T1:=(Hop.refl hn).inB H1;replace p:=p.hopB H1;replace hn:=HH.tn;refine W.newT 24 hn fun l3 τ2 T2 hl3 H2 b3 hnτ2=>?_;replace HH:=HH.inB H2;replace p:=p.hopB H2;replace b1:=b1.hop H2;replace hn:=H2.tn;refine W.newT 27 hn fun l5 τ3 T3 hl5 H3 b5 hnτ3=>?_;replace HH:=HH.inB H3;replace p:=p.hopB H3;replace b1:=b1.hop H3;replace b3:=b3.hop H3;replace hn:=H3.tn;refine W.stT b5 hn (kc_ (by rfl)) fun τ4 H4 b5 hnτ4=>?_;replace HH:=HH.inB H4;replace p:=p.hopB H4;replace b1:=b1.hop H4;replace b3:=b3.hop H4;replace hn:=H4.tn
 repeat' with_reducible first|refine W.asV ?_|refine W.u0 ?_
 have B:BsH τ4 T3 lh N l1 l3 l5 hs []:=⟨p,b1,⟨_,b3,.nil⟩,_,b5,fun self R K k σ=>rfl⟩;show W ((S.z19 ((0:Nat):Int) (.ptr l1 0) (.ptr l3 0) (.ptr l5 0) τ4).bind fun r=>_) _;refine W.bind ?_;unfold S.z19;refine W.mono (W.lim (fun m=>ygh_ m _ _ _ _ _) 13 (ye7_ hN 12 0 B HH.tn (by omega) (by omega) (by omega) (by simp) (fun x hx=>by cases hx))) fun r hr=>?_;obtain⟨r,τ5⟩:=r;obtain⟨T5,out,H5,B5,hout,hol,hone⟩:=hr;dsimp only at H5 B5⊢;replace HH:=HH.trans H5;obtain⟨x,b3,k25⟩:=B5.b3;simp at hol
 repeat' with_reducible first|refine W.bind ?_|refine W.asV ?_|refine W.u0 ?_
 refine W.mono (yjw_ k25 HH.tn (hone (.inr ⟨rfl,hne⟩)) (by omega)) fun r hr=>?_;obtain⟨r,τ6⟩:=r;obtain⟨k25,H6⟩:=hr;dsimp only at k25 H6⊢;replace b3:=b3.hop H6
 repeat' with_reducible first|refine W.ret ?_|refine W.asV ?_|refine W.u0 ?_
 have hmem:∀x,x∈yw_ out↔x∈out:=fun x=>(List.mergeSort_perm _ _).mem_iff;refine⟨T5,yw_ out,HH.inB H6,k25,fun e=>?_,by rw[y3r_];omega,fun x hx=>hout x ((hmem x).1 hx)⟩;have:=y3r_ out;rw[e]at this;exact hone (.inr ⟨rfl,hne⟩) (km_ this.symm)
end
end
end
section
open Go
def hbI:Nat->Bool:=fun j=>(decide (11<=j)&&decide (j<=14))||(decide (24<=j)&&decide (j<=29))
theorem Hop.hb{σ τ:Heap}{T T':Tg}(H:Hop hI σ T τ T'):Hop hbI σ T τ T':=H.sub fun i hi=>by simp only[hI,hbI,Bool.or_eq_true,Bool.and_eq_true,decide_eq_true_eq]at hi⊢;omega
theorem Hop.bb{σ τ:Heap}{T T':Tg}(H:Hop bI σ T τ T'):Hop hbI σ T τ T':=H.sub fun i hi=>by simp only[bI,hbI,Bool.or_eq_true,Bool.and_eq_true,decide_eq_true_eq]at hi⊢;omega
section
variable{σ τ:Heap}{T T':Tg}{lh N:Nat}{hs:List Int}
theorem yfz_(p:HpI σ T lh N hs)(hn:Tn σ T)(hN:N<=4000)(hne:hs≠[]){tie:Int}:W (S.z15 (.ptr lh 0) tie σ) fun r=>∃v:Nat,r.1=((v:Int),true)/\(v:Int)∈hs/\∃T' hs',Hop hbI σ T r.2 T'/\HpI r.2 T' lh N hs'/\∀x,x∈hs'↔x∈hs/\x≠(v:Int):=by
 have hlen:=p.len;have hpos:=List.length_pos_iff.2 hne;have p0:=p;obtain⟨xs,xp,xh,sc,pl,⟨k1,k2,k3,k4⟩,H,e⟩:=p;obtain⟨a,ha⟩:=y3_ (xs:=hs) (i:=0) hpos;unfold S.z15
 repeat' with_reducible first|refine W.asV ?_|refine W.fldp ?_|refine W.nck ?_|refine W.u0 ?_|refine W.u3 ?_
 refine W.condF (by simpa using hne) ?_
 repeat' with_reducible first|refine W.asV ?_|refine W.fldp ?_|refine W.nck ?_|refine W.u0 ?_
 refine W.ixIc (i:=0) k4.slT ha ?_;refine W.bind ?_;refine W.mono (P:=fun r=>r.1∈hs/\∃T',Hop hbI σ T r.2 T'/\HpI r.2 T' lh N hs) ?_ fun r hr=>?_
 ·by_cases ht:tie=0
  ·refine W.condF (by simp[ht]) ?_
   repeat' with_reducible refine W.ret ?_
   exact⟨ka_ ha,T,Hop.refl hn,p0⟩
  ·refine W.condT (by simp[ht]) ?_
   refine W.bind ?_;refine W.mono (yk1_ p0 hn hN hne) fun r hr=>?_;obtain⟨y,τ1⟩:=r;obtain⟨T1,out,H1,k25,hone,hol,hout⟩:=hr;dsimp only at H1 k25⊢;have p1:=p0.hop H1 hI_bI;have hopos:=List.length_pos_iff.2 hone
   repeat' (with_reducible refine W.u3 ?_)
   rw[if_neg (by omega)]
   repeat' (with_reducible refine W.u3 ?_)
   rw[if_neg (by omega)];have r1 : -(out.length:Int)<Int.tmod tie out.length/\Int.tmod tie out.length<out.length:=⟨by have:=Int.tmod_lt_of_pos (-tie) (show(0:Int)<out.length by omega);rw[Int.neg_tmod]at this;omega,Int.tmod_lt_of_pos _ (by omega)⟩;have w:IntKind.i64.wrap (Int.tmod tie out.length+out.length)=Int.tmod tie out.length+out.length:=by rw[wrapS]<;>omega
   rw[w];have r2:0<=Int.tmod (Int.tmod tie out.length+out.length) out.length/\Int.tmod (Int.tmod tie out.length+out.length) out.length<out.length:=⟨Int.tmod_nonneg _ (by omega),Int.tmod_lt_of_pos _ (by omega)⟩;refine W.ixIn k25.slT r2.1 r2.2 fun d hd=>?_
   repeat' with_reducible refine W.ret ?_
   exact⟨hout d (ka_ hd),T1,H1.bb,p1⟩
 ·obtain⟨d,τ1⟩:=r
  obtain⟨hd,T1,H1,p1⟩:=hr;dsimp only at hd H1 p1⊢;have p1':=p1;obtain⟨xs,xp,xh,sc,pl,⟨k1,k2,k3,k4⟩,H,e⟩:=p1;obtain⟨j,hj⟩:=ya_ hd;obtain⟨v,rfl,hv⟩:=H.nat hj;have hl:=H.len;have hpj:=(H.at_ v j hv).2 hj;have hpw:pl[v]?=some ((j:Int)+1):=by
   obtain⟨b,hb⟩:=y3_ (xs:=pl) (i:=v) (by omega);rw[kd_,hb]at hpj;rw[hb];exact congrArg some hpj
  have hjl:=y2_ hj;have w2:IntKind.i64.wrap (((j:Int)+1)-1)=(j:Int):=by rw[wrapS]<;>omega
  repeat' with_reducible first|refine W.bind ?_|refine W.asV ?_|refine W.fldp ?_|refine W.nck ?_|refine W.u0 ?_|refine W.u2 ?_
  rw[w2];refine W.mono (ye5_ p1' H1.tn hN hj) fun r hr=>?_;obtain⟨r,τ2⟩:=r;obtain⟨er,T2,hs2,H2,p2,hm2⟩:=hr;dsimp only at er H2 p2⊢;subst er
  repeat' with_reducible refine W.ret ?_
  exact⟨v,rfl,hd,T2,hs2,H1.trans H2.hb,p2,hm2⟩
def TnI(σ:Heap)(T:Tg)(x:AVal)(k:Int):Prop:=∃xs:List Int,SlV .int (σ.at T 0) xs x/\xs.length<=1000000/\0<=k/\(xs.length=0\/k<xs.length)
structure PcI(σ:Heap)(T:Tg)(lq:Nat)(most since least:Int):Prop where
 ex:∃x0 k0 x1 k1 x2 k2 x3 k3 came,Loc (σ.at T 30) lq [x0,.int .i64 k0,x1,.int .i64 k1,x2,.int .i64 k2,x3,.int .i64 k3,.int .i64 most,.int .i64 came,.int .i64 since,.int .i64 least]/\TnI σ T x0 k0/\TnI σ T x1 k1/\TnI σ T x2 k2/\TnI σ T x3 k3
variable{lq:Nat}{most since least k:Int}{x:AVal}{I:Nat->Bool}
theorem TnI.hop(h:TnI σ T x k)(H:Hop I σ T τ T')(h0:I 0=false:=by rfl):TnI τ T' x k:=by
 obtain⟨xs,h1,h2⟩:=h;exact⟨xs,h1.hop H h0,h2⟩
theorem PcI.hop(p:PcI σ T lq most since least)(H:Hop I σ T τ T')(h0:I 0=false:=by rfl)(h30:I 30=false:=by rfl):PcI τ T' lq most since least:=by
 obtain⟨x0,k0,x1,k1,x2,k2,x3,k3,came,h,q0,q1,q2,q3⟩:=p.ex;exact⟨⟨x0,k0,x1,k1,x2,k2,x3,k3,came,h.hop H h30,q0.hop H h0,q1.hop H h0,q2.hop H h0,q3.hop H h0⟩⟩
theorem TnI.hle(h:TnI σ T x k)(L:Hle σ τ):TnI τ T x k:=by
 obtain⟨xs,h1,h2⟩:=h;exact⟨xs,h1.hle L,h2⟩
theorem PcI.hle(p:PcI σ T lq most since least)(L:Hle σ τ):PcI τ T lq most since least:=by
 obtain⟨x0,k0,x1,k1,x2,k2,x3,k3,came,h,q0,q1,q2,q3⟩:=p.ex;exact⟨⟨x0,k0,x1,k1,x2,k2,x3,k3,came,h.hle L,q0.hle L,q1.hle L,q2.hle L,q3.hle L⟩⟩
theorem y8m_{cs:List AVal}{o:Nat}(h:Loc (σ.at T 30) lq cs)(hn:Tn σ T)(ho:o+2<=cs.length)(hx:cs[o]?=some x)(hk:cs[o+1]?=some (.int .i64 k))(ht:TnI σ T x k) :
  W (S.z60 (.ptr lq o) σ) fun r=>∃k',Hop (only 30) σ T r.2 T/\Loc (r.2.at T 30) lq (cs.set (o+1) (.int .i64 k'))/\TnI r.2 T x k':=by
 obtain⟨xs,h1,h2,h3,h4⟩:=ht;have h1u:=h1.up;have hu:=h.up;unfold S.z60;have R0:∀{Q:(Int×Heap)->Prop} {K:AVal->Option (Int×Heap)},W (K x) Q->W (fld (.ptr lq o) 0 fun a=>ld σ a .V K) Q:=fun {Q K} c=>by
  refine W.fldp ?_;exact W.ldL hu hx (W.asV c)
 have R1:∀{Q:(Int×Heap)->Prop} {K:Int->Option (Int×Heap)},W (K k) Q->W (fld (.ptr lq o) 1 fun a=>ld σ a (.I .i64) K) Q:=fun {Q K} c=>by
  refine W.fldp ?_;exact W.ldL hu hk (W.asI c)
 refine W.nck (R0 (W.len h1u ?_));by_cases hz:xs.length=0
 ·refine W.condT (by simpa using hz) ?_
  refine W.ret ⟨k,Hop.refl hn,?_,xs,h1,h2,h3,h4⟩;have:cs.set (o+1) (.int .i64 k)=cs:=by
   obtain⟨g1,g2⟩:=kf_.1 hk;rw[<-g2,List.set_getElem_self]
  rw[this];exact h
 ·refine W.condF (by simpa using hz) ?_
  have hkl:k<xs.length:=h4.resolve_left hz;refine W.nck (R0 (W.nck (R1 ?_)));refine W.ixIn h1u h3 hkl fun d hd=>?_;refine W.nck (R1 (W.nck (R0 (W.len h1u ?_))));rw[if_neg (by omega)];refine W.nck (W.fldp ?_);refine W.stT h hn (by simp;omega) fun τ1 H1 h5 _=>?_;refine W.ret ?_;have w:IntKind.i64.wrap (k+1)=k+1:=by rw[wrapS]<;>omega
  rw[w]at h5;have e:cs.take (o+1)++[AVal.int .i64 (Int.tmod (k+1) xs.length)]++cs.drop (o+1+[AVal.int .i64 (Int.tmod (k+1) xs.length)].length)=cs.set (o+1) (.int .i64 (Int.tmod (k+1) xs.length)):=by
   rw[List.set_eq_take_append_cons_drop,if_pos (by omega)];simp
  rw[e]at h5;exact⟨_,H1,h5,xs,h1.hop H1,h2,Int.tmod_nonneg _ (by omega),.inr (Int.tmod_lt_of_pos _ (by omega))⟩
theorem yej_(p:PcI σ T lq most since least)(hn:Tn σ T)(hm:most<=0)(hs0:0<=since/\since<=4000000000000000000):W (S.z55 (.ptr lq 0) σ) fun r=>r.1=true/\Hop (only 30) σ T r.2 T/\PcI r.2 T lq most (since+1) least:=by
 obtain⟨x0,k0,x1,k1,x2,k2,x3,k3,came,h,u0,u1,u2,u3⟩:=p.ex;have w:IntKind.i64.wrap (since+1)=since+1:=by rw[wrapS]<;>omega
 unfold S.z55
 repeat' with_reducible first|refine W.asI ?_|refine W.fldp ?_|refine W.nck ?_|refine W.u0 ?_
 refine W.stT h hn (kc_ (by rfl)) fun τ1 H1 h hnτ1=>?_;replace hn:=H1.tn
 repeat' with_reducible first|refine W.asI ?_|refine W.fldp ?_|refine W.nck ?_|refine W.u0 ?_
 rw[w];refine W.stT h hn (kc_ (by rfl)) fun τ2 H2 h hnτ2=>?_
 repeat' with_reducible first|refine W.bind ?_|refine W.asI ?_|refine W.fldp ?_|refine W.nck ?_|refine W.u0 ?_
 refine W.condT (by simpa using hm) ?_
 repeat' with_reducible refine W.ret ?_
 have HH:=H1.trans H2;exact⟨rfl,HH,x0,k0,x1,k1,x2,k2,x3,k3,_,h,u0.hop HH,u1.hop HH,u2.hop HH,u3.hop HH⟩
theorem yge_(p:PcI σ T lq most since least)(hn:Tn σ T)(hl:0<=least/\least<=4000000000000000000):W (S.z57 (.ptr lq 0) σ) fun r=>∃since' least',Hop (only 30) σ T r.2 T/\PcI r.2 T lq most since' least'/\((r.1=false/\since'=since/\least'=least)\/(r.1=true/\least<=since/\since'=0/\least'=least+8)):=by
 obtain⟨x0,k0,x1,k1,x2,k2,x3,k3,came,h,u0,u1,u2,u3⟩:=p.ex;have w:IntKind.i64.wrap (least+8)=least+8:=by rw[wrapS]<;>omega
 unfold S.z57
 repeat' with_reducible first|refine W.bind ?_|refine W.asI ?_|refine W.fldp ?_|refine W.nck ?_|refine W.u0 ?_
 (with_reducible refine W.cnd (fun hc=>?_) (fun hc=>?_)<;>(try simp only[qq,Kd.ty]at hc)<;>(try (exfalso;omega)))
 ·repeat' with_reducible refine W.ret ?_
  refine W.condT rfl ?_
  repeat' with_reducible refine W.ret ?_
  exact⟨since,least,Hop.refl hn,p,.inl ⟨rfl,rfl,rfl⟩⟩
 ·have hls:least<=since:=by omega
  repeat' with_reducible first|refine W.bind ?_|refine W.fldp ?_|refine W.nck ?_
  refine W.mono (y8m_ (o:=0) h hn (by simp) rfl rfl u0) fun r hr=>?_;obtain⟨n,τ1⟩:=r;obtain⟨k',H1,h,u0⟩:=hr;dsimp only at H1 h u0⊢;simp only[List.set_cons_succ,List.set_cons_zero]at h;have u1:=u1.hop H1;have u2:=u2.hop H1;have u3:=u3.hop H1;replace hn:=H1.tn
  repeat' with_reducible refine W.ret ?_
  generalize (IntKind.i64.wrap _==(0:Int))=b;cases b with
  |true=>
   refine W.condT rfl ?_
   repeat' with_reducible refine W.ret ?_
   exact⟨since,least,H1,⟨x0,k',x1,k1,x2,k2,x3,k3,came,h,u0,u1,u2,u3⟩,.inl ⟨rfl,rfl,rfl⟩⟩
  |false=>
   refine W.condF rfl ?_
   repeat' with_reducible first|refine W.fldp ?_|refine W.nck ?_
   refine W.stT h hn (kc_ (by rfl)) fun τ2 H2 h hnτ2=>?_;replace hn:=H2.tn
   repeat' with_reducible first|refine W.asI ?_|refine W.fldp ?_|refine W.nck ?_|refine W.u0 ?_
   rw[w];refine W.stT h hn (kc_ (by rfl)) fun τ3 H3 h hnτ3=>?_
   repeat' with_reducible refine W.ret ?_
   have HH:=H2.trans H3;exact⟨0,least+8,H1.trans HH,⟨x0,k',x1,k1,x2,k2,x3,k3,came,h,u0.hop HH,u1.hop HH,u2.hop HH,u3.hop HH⟩,.inr ⟨rfl,hls,rfl,rfl⟩⟩
theorem yjh_(p:PcI σ T lq most since least)(hn:Tn σ T){score:Int}:W (S.z56 (.ptr lq 0) score σ) fun r=>Hop (only 30) σ T r.2 T/\PcI r.2 T lq most since least:=by
 obtain⟨x0,k0,x1,k1,x2,k2,x3,k3,came,h,u0,u1,u2,u3⟩:=p.ex;unfold S.z56;refine W.bind ?_
 (with_reducible refine W.cnd (fun hc=>?_) (fun hc=>?_)<;>(try simp only[qq,Kd.ty]at hc)<;>(try (exfalso;omega)))
 ·repeat' with_reducible refine W.ret ?_
  exact⟨Hop.refl hn,p⟩
 ·repeat' with_reducible first|refine W.bind ?_|refine W.fldp ?_|refine W.nck ?_
  refine W.mono (y8m_ (o:=2) h hn (by simp) rfl rfl u1) fun r hr=>?_;obtain⟨n,τ1⟩:=r;obtain⟨k',H1,h,u1⟩:=hr;dsimp only at H1 h u1⊢;simp only[List.set_cons_succ,List.set_cons_zero]at h
  repeat' with_reducible refine W.ret ?_
  exact⟨H1,x0,k0,x1,k',x2,k2,x3,k3,came,h,u0.hop H1,u1,u2.hop H1,u3.hop H1⟩
theorem tie_w(p:PcI σ T lq most since least)(hn:Tn σ T):W (S.z59 (.ptr lq 0) σ) fun r=>Hop (only 30) σ T r.2 T/\PcI r.2 T lq most since least:=by
 obtain⟨x0,k0,x1,k1,x2,k2,x3,k3,came,h,u0,u1,u2,u3⟩:=p.ex;unfold S.z59
 repeat' with_reducible first|refine W.bind ?_|refine W.fldp ?_|refine W.nck ?_
 refine W.mono (y8m_ (o:=4) h hn (by simp) rfl rfl u2) fun r hr=>?_;obtain⟨n,τ1⟩:=r;obtain⟨k',H1,h,u2⟩:=hr;dsimp only at H1 h u2⊢;simp only[List.set_cons_succ,List.set_cons_zero]at h;have p1:PcI τ1 T lq most since least:=⟨x0,k0,x1,k1,x2,k',x3,k3,came,h,u0.hop H1,u1.hop H1,u2,u3.hop H1⟩
 (with_reducible refine W.cnd (fun hc=>?_) (fun hc=>?_)<;>(try simp only[qq,Kd.ty]at hc)<;>(try (exfalso;omega)))
 ·repeat' with_reducible refine W.ret ?_
  exact⟨H1,p1⟩
 ·repeat' with_reducible refine W.ret ?_
  exact⟨H1,p1⟩
theorem yjs_(p:PcI σ T lq most since least)(hn:Tn σ T){saved:Int}:W (S.z58 (.ptr lq 0) saved σ) fun r=>Hop (only 30) σ T r.2 T/\PcI r.2 T lq most since least:=by
 obtain⟨x0,k0,x1,k1,x2,k2,x3,k3,came,h,u0,u1,u2,u3⟩:=p.ex;unfold S.z58
 repeat' with_reducible first|refine W.bind ?_|refine W.fldp ?_|refine W.nck ?_
 refine W.mono (y8m_ (o:=6) h hn (by simp) rfl rfl u3) fun r hr=>?_;obtain⟨n,τ1⟩:=r;obtain⟨k',H1,h,u3⟩:=hr;dsimp only at H1 h u3⊢;simp only[List.set_cons_succ,List.set_cons_zero]at h;have p1:Hop (only 30) σ T τ1 T/\PcI τ1 T lq most since least:=⟨H1,x0,k0,x1,k1,x2,k2,x3,k',came,h,u0.hop H1,u1.hop H1,u2.hop H1,u3⟩;generalize Int.tmod _ 4=m;refine W.bind ?_;refine W.mono (P:=fun _=>True) ?_ fun r _=>?_
 ·refine W.bind ?_
  refine W.mono (P:=fun _=>True) ?_ fun r _=>?_
  ·(with_reducible refine W.cnd (fun h1=>?_) (fun h1=>?_)<;>(try simp only[qq,Kd.ty]at h1)<;>(try (exfalso;omega)))
   ·(with_reducible refine W.cnd (fun h2=>?_) (fun h2=>?_)<;>(try simp only[qq,Kd.ty]at h2)<;>(try (exfalso;omega)))
    ·repeat' with_reducible refine W.ret ?_
     trivial
    ·repeat' with_reducible refine W.ret ?_
     trivial
   ·(with_reducible refine W.cnd (fun h2=>?_) (fun h2=>?_)<;>(try simp only[qq,Kd.ty]at h2)<;>(try (exfalso;omega)))
    ·repeat' with_reducible refine W.ret ?_
     trivial
    ·(with_reducible refine W.cnd (fun h3=>?_) (fun h3=>?_)<;>(try simp only[qq,Kd.ty]at h3)<;>(try (exfalso;omega)))
     ·repeat' with_reducible refine W.ret ?_
      trivial
     ·repeat' with_reducible refine W.ret ?_
      trivial
  ·rcases r with r|r|r|r
   ·repeat' with_reducible refine W.ret ?_
    trivial
   ·repeat' with_reducible refine W.ret ?_
    trivial
   ·repeat' with_reducible refine W.ret ?_
    trivial
   ·repeat' with_reducible refine W.ret ?_
    trivial
 ·rcases r with r|r
  ·repeat' with_reducible refine W.ret ?_
   exact p1
  ·repeat' with_reducible refine W.ret ?_
   exact p1
end
end
section
open Go
def codeF(n:Nat)(ms:List Int):Nat->Nat
 |0=>0
 |k+1=>codeF n ms k+(if(k:Int)∈ms then 0 else 2 ^ (n-1-k))
def codeW(n:Nat)(ms:List Int)(k:Nat):Nat:=codeF n ms k+(if k<n then 2 ^ (n-1-k)else 0)
section
variable{n k p:Nat}{ms ms':List Int}
theorem y6h_(h:k<n):2 ^ (n-k)=2 ^ (n-1-k)+2 ^ (n-1-k):=by
 obtain⟨d,rfl⟩:∃d,n=k+1+d:=⟨n-(k+1),by omega⟩;rw[show k+1+d-k=d+1 by omega,show k+1+d-1-k=d by omega,Nat.pow_succ];omega
theorem ye4_(h:k<n):codeF n ms (k+1)+2 ^ (n-(k+1))<=codeF n ms k+2 ^ (n-k):=by
 have:=y6h_ h;have hp0:0<2 ^ (n-1-k):=Nat.two_pow_pos _;rw[show n-(k+1)=n-1-k by omega];simp only[codeF]
 split<;>omega
theorem y5a_:∀(d p:Nat),p+d<=n->codeF n ms (p+d)+2 ^ (n-(p+d))<=codeF n ms p+2 ^ (n-p)
 |0,p,_=>Nat.le_refl _
 |d+1,p,h=>by
  have h1:=y5a_ d p (by omega);have h2:=ye4_ (n:=n) (ms:=ms) (k:=p+d) (by omega);rw[show p+(d+1)=p+d+1 by omega];omega
theorem y88_(h:p<=k):codeF n ms p<=codeF n ms k:=by
 obtain⟨d,rfl⟩:∃d,k=p+d:=⟨k-p,by omega⟩
 clear h
 induction d with
 |zero=>exact Nat.le_refl _
 |succ d ih=>rw[show p+(d+1)=p+d+1 by omega];simp only[codeF];omega
theorem y7g_(h:∀j:Nat,j<k->((j:Int)∈ms↔(j:Int)∈ms')):codeF n ms k=codeF n ms' k:=by
 induction k with
 |zero=>rfl
 |succ k ih=>
  simp only[codeF];rw[ih fun j hj=>h j (by omega)]
  congr 1
  by_cases e:(k:Int)∈ms
  ·rw[if_pos e,if_pos ((h k (by omega)).1 e)]
  ·rw[if_neg e,if_neg fun q=>e ((h k (by omega)).2 q)]
theorem yam_(h:k<=n):codeW n ms k<=2 ^ n:=by
 have h1:=y5a_ (n:=n) (ms:=ms) k 0 (by omega);simp only[Nat.zero_add,codeF,Nat.sub_zero]at h1;have hp0:0<2 ^ (n-1-k):=Nat.two_pow_pos _;have hp1:0<2 ^ (n-k):=Nat.two_pow_pos _;unfold codeW
 split
 ·rename_i hk
  have:=y6h_ hk;omega
 ·omega
theorem yef_(hp:(p:Int)∈ms)(hpk:p<k)(hk:k<=n)(h:∀j:Nat,j<p->((j:Int)∈ms↔(j:Int)∈ms')):codeW n ms k<codeW n ms' p:=by
 obtain⟨d,rfl⟩:∃d,k=p+1+d:=⟨k-(p+1),by omega⟩;have h1:=y5a_ (n:=n) (ms:=ms) d (p+1) hk;have h2:codeF n ms (p+1)=codeF n ms p:=by simp only[codeF];rw[if_pos hp];omega
 have h3:=y7g_ (n:=n) h;have h4:0<2 ^ (n-(p+1+d)):=Nat.two_pow_pos _;unfold codeW;rw[if_pos (show p<n by omega),<-h3];have h5:n-(p+1)=n-1-p:=by omega
 rw[h5,h2]at h1
 split
 ·rename_i hlt
  have:=y6h_ hlt;omega
 ·omega
theorem ybz_(h:p<=k)(hk:k<=n)(hms:∀j:Nat,p<=j->(j:Int)∉ms):codeW n ms p<=codeW n ms k/\(p<k->codeW n ms p<=codeF n ms k):=by
 have key:p<k->codeW n ms p<=codeF n ms k:=fun hlt=>by
  have h1:=y88_ (n:=n) (ms:=ms) (p:=p+1) (k:=k) (by omega);have h2:codeF n ms (p+1)=codeF n ms p+2 ^ (n-1-p):=by simp only[codeF];rw[if_neg (hms p (Nat.le_refl _))]
  unfold codeW;rw[if_pos (by omega)];omega
 refine⟨?_,key⟩;by_cases e:p=k
 ·subst e;exact Nat.le_refl _
 ·have:=key (by omega)
  unfold codeW at this⊢;omega
def rkF(n:Nat)(ms:List Int):Nat->Nat
 |0=>0
 |k+1=>rkF n ms k+(if(k:Int)∈ms then 1 else 2 ^ (n-k))
def rkW(n:Nat)(ms:List Int)(k:Nat):Nat:=rkF n ms k+(if k<n then 2 ^ (n-k)else 0)
theorem yhs_(h:k<n):rkF n ms (k+1)+2 ^ (n-(k+1)+1)<=rkF n ms k+2 ^ (n-k+1):=by
 have hp0:0<2 ^ (n-k):=Nat.two_pow_pos _;rw[show n-(k+1)+1=n-k by omega,Nat.pow_succ 2 (n-k)];simp only[rkF]
 split<;>omega
theorem y7o_:∀(d p:Nat),p+d<=n->rkF n ms (p+d)+2 ^ (n-(p+d)+1)<=rkF n ms p+2 ^ (n-p+1)
 |0,p,_=>Nat.le_refl _
 |d+1,p,h=>by
  have h1:=y7o_ d p (by omega);have h2:=yhs_ (n:=n) (ms:=ms) (k:=p+d) (by omega);rw[show p+(d+1)=p+d+1 by omega];omega
theorem yce_(h:p<=k):rkF n ms p<=rkF n ms k:=by
 obtain⟨d,rfl⟩:∃d,k=p+d:=⟨k-p,by omega⟩
 clear h
 induction d with
 |zero=>exact Nat.le_refl _
 |succ d ih=>rw[show p+(d+1)=p+d+1 by omega];simp only[rkF];omega
theorem yat_(h:∀j:Nat,j<k->((j:Int)∈ms↔(j:Int)∈ms')):rkF n ms k=rkF n ms' k:=by
 induction k with
 |zero=>rfl
 |succ k ih=>
  simp only[rkF];rw[ih fun j hj=>h j (by omega)]
  congr 1
  by_cases e:(k:Int)∈ms
  ·rw[if_pos e,if_pos ((h k (by omega)).1 e)]
  ·rw[if_neg e,if_neg fun q=>e ((h k (by omega)).2 q)]
theorem ydm_(h:k<=n):rkW n ms k<=2 ^ (n+1):=by
 have h1:=y7o_ (n:=n) (ms:=ms) k 0 (by omega);simp only[Nat.zero_add,rkF,Nat.sub_zero]at h1;have hp:=Nat.pow_succ 2 (n-k);unfold rkW
 split<;>omega
theorem yh7_(hp:(p:Int)∈ms)(hpk:p<k)(hk:k<=n)(h:∀j:Nat,j<p->((j:Int)∈ms↔(j:Int)∈ms')):rkW n ms k<rkW n ms' p:=by
 obtain⟨d,rfl⟩:∃d,k=p+1+d:=⟨k-(p+1),by omega⟩;have h1:=y7o_ (n:=n) (ms:=ms) d (p+1) hk;have h2:rkF n ms (p+1)=rkF n ms p+1:=by simp only[rkF];rw[if_pos hp]
 have h3:=yat_ (n:=n) h;have h4:0<2 ^ (n-(p+1+d)):=Nat.two_pow_pos _;have h5:=Nat.pow_succ 2 (n-(p+1+d));unfold rkW;rw[if_pos (show p<n by omega),<-h3];have h6:n-(p+1)+1=n-p:=by omega
 rw[h6,h2]at h1
 split
 ·rename_i hlt
  obtain⟨z,hz⟩:∃z,n-(p+1+d)=z+1:=⟨n-(p+1+d)-1,by omega⟩;have h7:0<2 ^ z:=Nat.two_pow_pos _;rw[hz]at h1 h5⊢;have h8:=Nat.pow_succ 2 z;omega
 ·omega
theorem yg7_(h:p<k)(hk:k<=n)(hms:∀j:Nat,p<=j->(j:Int)∉ms):rkW n ms p<=rkF n ms k:=by
 have h1:=yce_ (n:=n) (ms:=ms) (p:=p+1) (k:=k) (by omega);have h2:rkF n ms (p+1)=rkF n ms p+2 ^ (n-p):=by simp only[rkF];rw[if_neg (hms p (Nat.le_refl _))]
 unfold rkW;rw[if_pos (by omega)];omega
theorem y8i_:∀k:Nat,k+1<=n->codeF n ms k % 2=0
 |0,_=>rfl
 | k+1,h=>by
  have ih:=y8i_ k (by omega);simp only[codeF]
  split
  ·omega
  ·obtain⟨d,hd⟩:∃d,n-1-k=d+1:=⟨n-1-k-1,by omega⟩
   rw[hd,Nat.pow_succ];omega
theorem yew_(h:k+2<=n):codeW n ms k % 2=0:=by
 have:=y8i_ (n:=n) (ms:=ms) k (by omega);unfold codeW;rw[if_pos (by omega)];obtain⟨d,hd⟩:∃d,n-1-k=d+1:=⟨n-1-k-1,by omega⟩;rw[hd,Nat.pow_succ];omega
end
def AsI(s:PS)(A:List Int):Prop:=∃k,k<=s.marks.length/\(∀(i:Nat) (a:Nat) d,i<k->s.marks[i]?=some (a:Int)->s.trail[a]?=some d->d∈A)/\(k<s.marks.length->∀a∈A,a∈s.trail/\s.lv a<=k)
section
variable{n k a:Nat}{s s':PS}{A:List Int}{l:Int}
theorem AsI.nil(h:s.marks=[]):AsI s A:=⟨0,by omega,fun i a d hi=>by omega,fun h2=>by rw[h]at h2;simp at h2⟩
theorem AsI.ext(h:AsI s A)(ht:TrI n s)(E:PEx s s'):AsI s' A:=by
 obtain⟨k,h1,h2,h3⟩:=h;refine⟨k,by rw[E.mks];exact h1,fun i a d hi hm hd=>?_,fun hk x hx=>?_⟩
 ·rw[E.mks]at hm
  obtain⟨a',e,⟨w,g1,_⟩,_⟩:=ht.mks i _ hm;have e:a=a':=by omega
  subst e;exact h2 i a d hi hm (E.got (y2_ g1) hd)
 ·rw[E.mks]at hk
  obtain⟨g1,g2⟩:=h3 hk x hx;exact⟨E.mem g1,by rw[E.lv x g1];exact g2⟩
theorem AsI.back(h:AsI s A)(hS:StI n s){b:Nat}(hm:s.marks[b]?=some (a:Int)):AsI (s.back b a) A:=by
 obtain⟨k,h1,h2,h3⟩:=h;obtain⟨_,e1,e2,_,_,_,_,hal,hlv,hle,_⟩:=hS.back hm;have hbl:=y2_ hm;have hlen:(s.marks.take b).length=b:=by simp;omega
 by_cases hkb:k<=b
 ·refine⟨k,by rw[e1,hlen];exact hkb,fun i c d hi hmc hd=>?_,fun hk x hx=>?_⟩
  ·rw[e1]at hmc
   rw[ke_ (by omega)]at hmc;rw[e2]at hd;have:c<a:=by have:=y2_ hd;simp at this;omega
   rw[ke_ this]at hd;exact h2 i c d hi hmc hd
  ·obtain⟨g1,g2⟩:=h3 (by omega) x hx
   have:=(hle x g1).2 (by omega);rw[e2];exact⟨this,by rw[hlv x this];exact g2⟩
 ·refine⟨b,by rw[e1,hlen];exact Nat.le_refl _,fun i c d hi hmc hd=>?_,fun hk=>?_⟩
  ·rw[e1]at hmc
   rw[ke_ (by omega)]at hmc;rw[e2]at hd;have:c<a:=by have:=y2_ hd;simp at this;omega
   rw[ke_ this]at hd;exact h2 i c d (by omega) hmc hd
  ·rw[e1,hlen]at hk;omega
theorem AsI.decA(h:AsI s A)(ht:TrI n s)(hl:isL l n=true)(hv:val s.vs l=0)(hlA:l∈A):AsI (s.dec l) A/\∀(i:Nat) (a:Nat) d,s.marks[i]?=some (a:Int)->s.trail[a]?=some d->d∈A:=by
 obtain⟨k,h1,h2,h3⟩:=h;have hk:k=s.marks.length:=by
  refine Decidable.byContradiction fun hne=>?_;have:=(h3 (by omega) l hlA).1;exact(ht.zero.1 hv).1 this
 have hall:∀(i:Nat) (a:Nat) d,s.marks[i]?=some (a:Int)->s.trail[a]?=some d->d∈A:=fun i a d hm=>h2 i a d (by have:=y2_ hm;omega) hm;refine⟨⟨k+1,by simp[PS.dec,PS.setL,hk],fun i c d hi hm hd=>?_,fun hk2=>?_⟩,hall⟩
 ·have hm:(s.marks++[(s.trail.length:Int)])[i]?=some (c:Int):=hm
  have hd:(s.trail++[l])[c]?=some d:=hd;rcases y36_ hm with w|⟨_,w⟩
  ·obtain⟨a',e,⟨u,g1,_⟩,_⟩:=ht.mks i _ w
   have e:c=a':=by omega
   subst e;rw[kg_ (y2_ g1)]at hd;exact hall i c d w hd
  ·have:c=s.trail.length:=by omega
   subst this;simp at hd;rw[<-hd];exact hlA
 ·simp[PS.dec,PS.setL,hk]at hk2
theorem AsI.decF(h:AsI s A)(ht:TrI n s)(hl:isL l n=true)(hv:val s.vs l=0)(hA:∀a∈A,a∈s.trail):AsI (s.dec l) A:=by
 obtain⟨k,h1,h2,h3⟩:=h;have hlv:∀x∈s.trail,(s.dec l).lv x=s.lv x:=fun x hx=>by
  obtain⟨z1,z2⟩:=ht.zero.1 hv;have:=(ht.push (s':=s.dec l) _ (.inr rfl) hl hv (r:=-1) rfl (.inl ⟨?_,s.marks.length,?_,?_⟩)).2 x ?_
  ·exact this
  ·simp only[PS.re,PS.dec,PS.setL];rw[getD_set' (by have:=ht.len.rea;have:=yc_ hl;omega),if_pos rfl]
  ·simp only[PS.lv,PS.dec,PS.setL];rw[getD_set' (by have:=ht.len.lev;have:=yc_ hl;omega),if_pos rfl];simp
  ·simp[PS.dec,PS.setL]
  ·intro e
   rcases Int.natAbs_eq_natAbs_iff.1 e with e|e
   ·exact z1 (e▸hx)
   ·exact z2 (e▸hx)
 refine⟨k,by simp[PS.dec,PS.setL];omega,fun i c d hi hm hd=>?_,fun _ x hx=>?_⟩
 ·have hm:(s.marks++[(s.trail.length:Int)])[i]?=some (c:Int):=hm
  have hd:(s.trail++[l])[c]?=some d:=hd;rw[kg_ (by omega)]at hm;obtain⟨a',e,⟨u,g1,_⟩,_⟩:=ht.mks i _ hm;have e:c=a':=by omega
  subst e;rw[kg_ (y2_ g1)]at hd;exact h2 i c d hi hm hd
 ·have hxt:=hA x hx
  refine⟨by show x∈s.trail++[l];simp[hxt],?_⟩;rw[hlv x hxt];by_cases hk:k<s.marks.length
  ·exact(h3 hk x hx).2
  ·have:=(ht.lv x hxt).2
   omega
end
end
section
open Go
section
variable{n:Nat}(hn:2<=n)(hn2:n<=1000)
include hn hn2
end
def AllB(σ:Heap)(ss:List (Bool×List Int))(ws:List (Bool×AVal)):Prop:=ws.length=ss.length/\∀(i:Nat) (s:Bool×List Int),ss[i]?=some s->∃w,ws[i]?=some (s.1,w)/\SlV .int σ s.2 w
section
variable{σ τ:Heap}{ss tt:List (Bool×List Int)}{ws us:List (Bool×AVal)}{s:Bool×List Int}{w:AVal}
theorem AllB.mono(h:AllB σ ss ws)(L:Hle σ τ):AllB τ ss ws:=⟨h.1,fun i c hc=>(h.2 i c hc).imp fun w hw=>⟨hw.1,hw.2.mono L⟩⟩
theorem AllB.app(h:AllB σ ss ws)(k:AllB σ tt us):AllB σ (ss++tt) (ws++us):=⟨by simp[h.1,k.1],fun i d hd=>by
 by_cases hlt:i<ss.length
 ·rw[kg_ hlt]at hd
  rw[kg_ (by rw[h.1];exact hlt)];exact h.2 i d hd
 ·rw[kl_ (by omega)]at hd
  rw[kl_ (by rw[h.1];omega),h.1];exact k.2 _ d hd⟩
theorem AllB.one(hw:SlV .int σ s.2 w):AllB σ [s] [(s.1,w)]:=⟨rfl,fun i d hd=>by
 match i,hd with
 |0,hd=>cases hd;exact⟨w,rfl,hw⟩
 |i+1,hd=>simp at hd⟩
theorem AllB.vB{x:AVal}(h:AllB σ ss ws)(hx:SlV vBR σ ws x):SlV A.vB σ ss x:=yk4_ hx h.1 h.2
end
theorem AllB.hop{I:Nat->Bool}{σ τ:Heap}{T T':Tg}{ss:List (Bool×List Int)}{ws:List (Bool×AVal)}{t:Nat}(h:AllB (σ.at T t) ss ws)(H:Hop I σ T τ T')(hI:I t=false:=by rfl):AllB (τ.at T' t) ss ws:=h.mono (H.le hI)
theorem AllB.hle{σ τ:Heap}{T:Tg}{ss:List (Bool×List Int)}{ws:List (Bool×AVal)}{t:Nat}(h:AllB (σ.at T t) ss ws)(L:Hle σ τ):AllB (τ.at T t) ss ws:=h.mono (L.ats T t)
end
section
open Go
theorem yhz_{a:Int}{t:List Int}(h:adj (a::t)=true):adj t=true:=by
 cases t with
 |nil=>rfl
 |cons b t=>simp[adj]at h;exact h.2
theorem yaz_:∀{xs:List Int},xs.Pairwise ltL->adj xs=true->(xs.map Int.natAbs).Pairwise (· < ·)
 |[],_,_=>by simp
 |[a],_,_=>by simp
 | a::b::t,hp,h=>by
  have ih:=yaz_ (xs:=b::t) (List.pairwise_cons.1 hp).2 (yhz_ h);simp only[adj,Bool.and_eq_true,decide_eq_true_eq]at h;have hab:=(List.pairwise_cons.1 hp).1 b (by simp);have hlt:a.natAbs<b.natAbs:=by unfold ltL at hab;omega
  rw[List.map_cons];refine List.pairwise_cons.2 ⟨fun x hx=>?_,ih⟩;rw[List.map_cons]at ih hx;rcases List.mem_cons.1 hx with e|hx
  ·rw[e];exact hlt
  ·have:=(List.pairwise_cons.1 ih).1 x hx
   omega
theorem y79_{c:List Int}(h:saysN c=true):((normL c).map Int.natAbs).Nodup:=(yaz_ (y18_ c) h).imp fun h=>by omega
theorem y9e_{c:List Int}(h:(c.map Int.natAbs).Nodup):saysN c=true:=by
 have key:∀xs:List Int,xs.Pairwise ltL->(∀x∈xs,∀y∈xs,x.natAbs=y.natAbs->x=y)->adj xs=true:=by
  intro xs
  induction xs with
  |nil=>intros;rfl
  | cons a t ih=>
   intro hp hi;cases t with
   |nil=>rfl
   |cons b t=>
    simp only[adj,Bool.and_eq_true,decide_eq_true_eq];refine⟨fun e=>?_,ih (List.pairwise_cons.1 hp).2 fun x hx y hy=>hi x (by simp[hx]) y (by simp[hy])⟩;have h1:=hi a (by simp) b (by simp) e;have h2:=(List.pairwise_cons.1 hp).1 b (by simp);subst h1;unfold ltL at h2;omega
 refine key _ (y18_ c) fun x hx y hy e=>?_;obtain⟨i,hi⟩:=ya_ (y8_.1 hx);obtain⟨j,hj⟩:=ya_ (y8_.1 hy);have:i=j:=nd_ix h (a:=x.natAbs) (by simp[hi]) (by simp[hj,e]);subst this;rw[hi]at hj;exact kp_ hj
theorem ygp_{c:List Int}(h:saysN c=false):∃x∈c,-x∈c:=by
 have key:∀xs:List Int,xs.Pairwise ltL->adj xs=false->∃x∈xs,-x∈xs:=by
  intro xs
  induction xs with
  |nil=>intro _ h;cases h
  | cons a t ih=>
   intro hp h;cases t with
   |nil=>cases h
   | cons b t=>
    by_cases e:a.natAbs=b.natAbs
    ·have h2:=(List.pairwise_cons.1 hp).1 b (by simp)
     have:b = -a:=by unfold ltL at h2;omega
     exact⟨a,by simp,by rw[<-this];simp⟩
    ·simp[adj,e]at h
     obtain⟨x,hx,hx2⟩:=ih (List.pairwise_cons.1 hp).2 h;exact⟨x,List.mem_cons_of_mem _ hx,List.mem_cons_of_mem _ hx2⟩
 obtain⟨x,h1,h2⟩:=key _ (y18_ c) h;exact⟨x,y8_.1 h1,y8_.1 h2⟩
theorem ygx_{c:List Int}{m:Nat->Bool}{x:Int}(h0:x≠0)(h1:x∈c)(h2 : -x∈c):tru m c:=by
 cases e:holds m x with
 |true=>exact⟨x,h1,e⟩
 |false=>exact⟨-x,h2,by rw[y3g_ h0,e];rfl⟩
inductive RunS(D0:List (List Int)):List (Bool×List Int)->List (List Int)->Prop where
 |nil:RunS D0 [] D0
 |add {lg:List (Bool×List Int)} {D:List (List Int)} {c:List Int}:RunS D0 lg D->Conf D (negs c)->RunS D0 (lg++[(false,c)]) (D++[normL c])
 |del {lg:List (Bool×List Int)} {D:List (List Int)} {c:List Int}:RunS D0 lg D->normL c∈D->RunS D0 (lg++[(true,c)]) (D.erase (normL c))
def LgI(C:List (List Int))(s:PS)(lg:List (Bool×List Int)):Prop:=∃D X,RunS (C.map normL) lg D/\D.Perm (s.db.map normL++X)
structure EnL(gl:Bool)(n:Nat)(C:List (List Int))(s:PS)(hs:List Int)(ln:List (Int×Int))(lg:List (Bool×List Int))(since least:Int)(w:Nat):Prop where
 si:StI n s
 hp:∀v:Nat,1<=v->v<=n->val s.vs v=0->(v:Int)∈hs
 lnI:∀e∈ln,∃(id:Nat) (c:List Int) (f:Bool),e.1=id/\s.cls[id]?=some (c,true,f)
 lnN:(ln.map (·.1)).Nodup
 orI:∀c∈C,saysN c=true->∃(id:Nat) (d:List Int) (f:Bool),s.cls[id]?=some (d,true,f)/\(∀x,x∈d↔x∈c)/\∀e∈ln,e.1≠id
 snd:∀m,mods m C->mods m s.db
 cl:∀c∈C,∀x∈c,isL x n=true
 lgI:gl=true->LgI C s lg
 z1:s.cls.length<=w
 z2:s.ent+2*s.loose.length<=10*w
 z3:ln.length<=w
 z4:lg.length+ln.length<=2*w
 z5:0<=since/\since<=w
 z6:0<=least/\least<=16+8*w
section
variable{gl:Bool}{n id k a:Nat}{C:List (List Int)}{s s':PS}{hs hs':List Int}{ln:List (Int×Int)}{lg:List (Bool×List Int)}{since least since' least':Int}{w:Nat}{c d:List Int}{b f:Bool}
theorem yjj_(E:CEq s s'):s'.db.map normL=s.db.map normL:=by
 have key:∀(a b:List (List Int×Bool×Bool)),b.length=a.length->(∀(i:Nat) x y,a[i]?=some x->b[i]?=some y->y.2.1=x.2.1/\y.1.Perm x.1)->((b.filter fun x=>x.2.1).map (·.1)).map normL=((a.filter fun x=>x.2.1).map (·.1)).map normL:=by
  intro a
  induction a with
  |nil=>intro b hl _;rw[km_ hl]
  | cons x a ih=>
   intro b hl h;cases b with
   |nil=>simp at hl
   | cons y b=>
    obtain⟨e1,e2⟩:=h 0 x y rfl rfl;have e3:=ih b (by simpa using hl) fun i u v hu hv=>h (i+1) u v (by simpa using hu) (by simpa using hv);rw[List.filter_cons,List.filter_cons,e1]
    split
    ·rw[List.map_cons,List.map_cons,List.map_cons,List.map_cons,e3]
     congr 1
     exact y6m_.2 fun v=>e2.mem_iff
    ·exact e3
 exact key s.cls s'.cls E.1 fun i x y hx hy=>E.2 i x y hx hy
theorem yib_(E:CEq s s'){m:Nat->Bool}(h:mods m s.db):mods m s'.db:=fun c hc=>by
 obtain⟨id,f,h1⟩:=y2z_.1 hc;obtain⟨c',f',h2,p⟩:=E.symm.get h1;obtain⟨l,hl,h3⟩:=h c' (y2z_.2 ⟨id,f',h2⟩);exact⟨l,p.mem_iff.1 hl,h3⟩
theorem ClI.nz(h:ClI n s):nz s.db:=fun c hc l hl=>by
 obtain⟨id,f,h1⟩:=y2z_.1 hc;exact(yc_ ((h id c f h1).1 l hl)).1
theorem EnL.step(E:EnL gl n C s hs ln lg since least w)(hS:StI n s')(hE:CEq s s')(hh:∀v:Nat,1<=v->v<=n->val s'.vs v=0->(v:Int)∈hs')(hz:s'.ent+2*s'.loose.length<=10*w+2):EnL gl n C s' hs' ln lg since least (w+1):=by
 refine⟨hS,hh,fun e he=>?_,E.lnN,fun c hc hsy=>?_,fun m hm=>yib_ hE (E.snd m hm),E.cl,fun hg=>?_,by rw[hE.1];have:=E.z1;omega,by omega,by have:=E.z3;omega,by have:=E.z4;omega,by have:=E.z5;omega,by have:=E.z6;omega⟩
 ·obtain⟨id,c,f,h1,h2⟩:=E.lnI e he
  obtain⟨c',f',h3,_⟩:=hE.get h2;exact⟨id,c',f',h1,h3⟩
 ·obtain⟨id,d,f,h1,h2,h3⟩:=E.orI c hc hsy
  obtain⟨d',f',h4,p⟩:=hE.get h1;exact⟨id,d',f',h4,fun x=>by rw[p.mem_iff];exact h2 x,h3⟩
 ·obtain⟨D,X,h1,h2⟩:=E.lgI hg
  exact⟨D,X,h1,by rw[yjj_ hE];exact h2⟩
theorem EnL.heap(E:EnL gl n C s hs ln lg since least w)(h:∀v:Nat,1<=v->v<=n->val s.vs v=0->(v:Int)∈hs'):EnL gl n C s hs' ln lg since least w:=⟨E.si,h,E.lnI,E.lnN,E.orI,E.snd,E.cl,E.lgI,E.z1,E.z2,E.z3,E.z4,E.z5,E.z6⟩
theorem EnL.pace(E:EnL gl n C s hs ln lg since least w)(h5:0<=since'/\since'<=w)(h6:0<=least'/\least'<=16+8*w):EnL gl n C s hs ln lg since' least' w:=⟨E.si,E.hp,E.lnI,E.lnN,E.orI,E.snd,E.cl,E.lgI,E.z1,E.z2,E.z3,E.z4,h5,h6⟩
theorem EnL.more(E:EnL gl n C s hs ln lg since least w){w':Nat}(h:w<=w'):EnL gl n C s hs ln lg since least w':=⟨E.si,E.hp,E.lnI,E.lnN,E.orI,E.snd,E.cl,E.lgI,by have:=E.z1;omega,by have:=E.z2;omega,by have:=E.z3;omega,by have:=E.z4;omega,by have:=E.z5;omega,by have:=E.z6;omega⟩
theorem y8l_(s:PS)(l:List Int):(s.addC l).db=s.db++[l]:=by
 unfold PS.db;show((s.cls++[(l,true,true)]).filter _).map _=_;rw[List.filter_append,List.map_append];rfl
theorem y5l_{j:Nat}{e:List Int×Bool×Bool}(h:s.cls[j]?=some e):(s.addC c).cls[j]?=some e:=by
 show(s.cls++[(c,true,true)])[j]?=_;rw[kg_ (y2_ h)];exact h
theorem y6z_:(s.addC c).cls[s.cls.length]?=some (c,true,true):=by
 show(s.cls++[(c,true,true)])[s.cls.length]?=_;simp
theorem EnL.learn(E:EnL gl n C s hs ln lg since least w)(hc:∀x∈c,isL x n=true)(hd:(c.map Int.natAbs).Nodup)(hC:Conf s.db (negs c)){score:Int}:EnL gl n C (s.addC (normL c)) hs (ln++[((s.cls.length:Int),score)]) (lg++[(false,c)]) since least (w+1):=by
 have hsy:=y9e_ hd;obtain⟨hS,hent⟩:=E.si.addC (l':=normL c) (fun x hx=>hc x (y8_.1 hx)) (y79_ hsy);have hvs:(s.addC (normL c)).vs=s.vs:=rfl;refine⟨hS,E.hp,fun e he=>?_,?_,fun d hdC hds=>?_,fun m hm=>?_,E.cl,fun hg=>?_,?_,?_,by simp;have:=E.z3;omega,by simp;have:=E.z4;omega,by have:=E.z5;omega,by have:=E.z6;omega⟩
 ·rcases kh_.1 he with q|q
  ·obtain⟨id,d,f,h1,h2⟩:=E.lnI e q
   exact⟨id,d,f,h1,y5l_ h2⟩
  ·rw[kj_.1 q]
   exact⟨s.cls.length,_,true,rfl,y6z_⟩
 ·rw[List.map_append]
  refine List.nodup_append.2 ⟨E.lnN,by simp,fun x hx y hy e=>?_⟩;obtain⟨u,hu,rfl⟩:=kq_.1 hx;obtain⟨id,d,f,h1,h2⟩:=E.lnI u hu;have:=y2_ h2;simp at hy;omega
 ·obtain⟨id,d',f,h1,h2,h3⟩:=E.orI d hdC hds
  refine⟨id,d',f,y5l_ h1,h2,fun e he=>?_⟩;rcases kh_.1 he with q|q
  ·exact h3 e q
  ·rw[kj_.1 q]
   have:=y2_ h1;show(s.cls.length:Int)≠id;omega
 ·rw[y8l_]
  intro d hdm;rcases kh_.1 hdm with q|q
  ·exact E.snd m hm d q
  ·rw[kj_.1 q,yca_]
   refine Classical.byContradiction fun hn=>?_;refine hC.false (E.snd m hm) E.si.ci.nz (fun l hl=>?_) fun l hl=>?_
   ·obtain⟨x,hx,rfl⟩:=kq_.1 hl
    rw[y3g_ (yc_ (hc x hx)).1];cases e:holds m x with
    |true=>exact absurd ⟨x,hx,e⟩ hn
    |false=>rfl
   ·obtain⟨x,hx,rfl⟩:=kq_.1 hl
    have:=(yc_ (hc x hx)).1;omega
 ·obtain⟨D,X,h1,h2⟩:=E.lgI hg
  refine⟨_,X,h1.add (hC.mono (fun d hdm=>?_) fun _ h=>h),?_⟩
  ·refine⟨normL d,h2.mem_iff.2 (kh_.2 (.inl (kq_.2 ⟨d,hdm,rfl⟩))),fun v=>y8_⟩
  ·rw[y8l_,List.map_append,List.map_singleton,y9b_]
   refine(h2.append_right _).trans ?_;rw[kn_,kn_];exact List.Perm.append_left _ List.perm_append_comm
 ·show(s.cls++[_]).length<=_
  simp;have:=E.z1;omega
 ·have:(s.addC (normL c)).loose.length=s.loose.length+1:=by simp[PS.addC]
  have:=E.z2;omega
theorem yia_(hc:s.cls[id]?=some (c,true,f)):s.db.Perm (c::(s.dropC id f).db):=by
 have key:∀(xs:List (List Int×Bool×Bool)) (i:Nat),xs[i]?=some (c,true,f)->((xs.filter fun x=>x.2.1).map (·.1)).Perm (c::(((xs.set i ([],false,f)).filter fun x=>x.2.1).map (·.1))):=by
  intro xs
  induction xs with
  |nil=>intro i h;simp at h
  | cons x t ih=>
   intro i h;cases i with
   |zero=>
    simp at h;subst h;simp
   | succ i=>
    have:=ih i (by simpa using h);rw[List.set_cons_succ,List.filter_cons,List.filter_cons]
    split
    ·rw[List.map_cons,List.map_cons]
     exact(this.cons _).trans (List.Perm.swap _ _ _)
    ·exact this
 exact key s.cls id hc
theorem EnL.drop{ln1 ln2:List (Int×Int)}{score:Int}(E:EnL gl n C s hs (ln1++((id:Int),score)::ln2) lg since least w)(hc:s.cls[id]?=some (c,true,f))(hr:∀x∈s.trail,x∈c->s.re x≠id):EnL gl n C (s.dropC id f) hs (ln1++ln2) (lg++[(true,c)]) since least w:=by
 have hS:=E.si.dropC hc hr;have hoth:∀j,j≠id->(s.dropC id f).cls[j]?=s.cls[j]?:=fun j hj=>by show(s.cls.set id _)[j]?=_;rw[List.getElem?_set,if_neg fun e=>hj e.symm]
 have hN:=E.lnN;rw[List.map_append,List.map_cons,List.nodup_append]at hN;obtain⟨g1,g2,g3⟩:=hN;obtain⟨g4,g5⟩:=List.nodup_cons.1 g2;have hne:∀e∈ln1++ln2,e.1≠(id:Int):=fun e he q=>by
  rcases kh_.1 he with w|w
  ·exact g3 e.1 (kq_.2 ⟨e,w,rfl⟩) (id:Int) (by simp) q
  ·exact g4 (kq_.2 ⟨e,w,q⟩)
 have hsub:∀e,e∈ln1++ln2->e∈ln1++((id:Int),score)::ln2:=fun e he=>by
  rcases kh_.1 he with w|w
  ·exact kh_.2 (.inl w)
  ·exact kh_.2 (.inr (List.mem_cons_of_mem _ w))
 have hdb:=yia_ hc;refine⟨hS,E.hp,fun e he=>?_,?_,fun d hdC hds=>?_,fun m hm d hd=>?_,E.cl,fun hg=>?_,by show(s.cls.set id _).length<=w;rw[List.length_set];exact E.z1,E.z2,?_,by have:=E.z4;simp at this⊢;omega,E.z5,E.z6⟩
 ·obtain⟨j,d,g,h1,h2⟩:=E.lnI e (hsub e he)
  refine⟨j,d,g,h1,?_⟩;rw[hoth j fun q=>hne e he (by rw[h1,q])];exact h2
 ·rw[List.map_append]
  exact List.nodup_append.2 ⟨g1,g5,fun x hx y hy=>g3 x hx y (by simp[hy])⟩
 ·obtain⟨j,d',g,h1,h2,h3⟩:=E.orI d hdC hds
  refine⟨j,d',g,?_,h2,fun e he=>h3 e (hsub e he)⟩;rw[hoth j fun q=>h3 ((id:Int),score) (by simp) (by rw[q])];exact h1
 ·exact E.snd m hm d (hdb.mem_iff.2 (List.mem_cons_of_mem _ hd))
 ·obtain⟨D,X,h1,h2⟩:=E.lgI hg
  have hperm:D.Perm (normL c::((s.dropC id f).db.map normL++X)):=h2.trans (by
   have:=(hdb.map normL).append_right X;rw[List.map_cons,List.cons_append]at this;exact this)
  have hmem:normL c∈D:=hperm.mem_iff.2 (by simp);refine⟨_,X,h1.del hmem,?_⟩;have h3:=hperm.erase (normL c)
  rwa [List.erase_cons_head]at h3
 ·have:=E.z3
  simp at this⊢;omega
theorem EnL.final{core:List Int}(E:EnL gl n C s hs ln lg since least w)(hC:Conf s.db core):EnL gl n C s hs ln (lg++[(false,negs core)]) since least (w+1):=by
 have hnn:negs (negs core)=core:=by simp[negs,Function.comp_def]
 refine⟨E.si,E.hp,E.lnI,E.lnN,E.orI,E.snd,E.cl,fun hg=>?_,by have:=E.z1;omega,by have:=E.z2;omega,by have:=E.z3;omega,by simp;have:=E.z4;omega,by have:=E.z5;omega,by have:=E.z6;omega⟩;obtain⟨D,X,h1,h2⟩:=E.lgI hg;refine⟨_,X++[normL (negs core)],h1.add ?_,?_⟩
 ·rw[hnn]
  refine hC.mono (fun d hdm=>⟨normL d,h2.mem_iff.2 (kh_.2 (.inl (kq_.2 ⟨d,hdm,rfl⟩))),fun v=>y8_⟩) fun _ h=>h
 ·rw[<-kn_]
  exact h2.append_right _
theorem EnL.add(E:EnL gl n C s hs ln lg since least w)(hc:∀x∈c,isL x n=true)(hg:gl=true->lg=[]) :
  EnL gl n (C++[c]) (if saysN c=true then s.addC (normL c)else s) hs ln lg since least (w+1):=by
 have hlgn:gl=true->∀D X,RunS (C.map normL) lg D->D.Perm (s.db.map normL++X)->RunS ((C++[c]).map normL) lg (D++[normL c]):=fun hgl D X h1 _=>by
  have:=hg hgl;subst this;have e:D=C.map normL:=by
   generalize hlg:([]:List (Bool×List Int))=lg0 at h1;cases h1 with
   |nil=>rfl
   |add _ _=>simp at hlg
   |del _ _=>simp at hlg
  subst e;rw[List.map_append,List.map_singleton];exact .nil
 have hcl:∀d∈C++[c],∀x∈d,isL x n=true:=fun d hd=>by
  rcases kh_.1 hd with q|q
  ·exact E.cl d q
  ·rw[kj_.1 q];exact hc
 by_cases hsy:saysN c=true
 ·rw[if_pos hsy]
  obtain⟨hS,hent⟩:=E.si.addC (l':=normL c) (fun x hx=>hc x (y8_.1 hx)) (y79_ hsy);refine⟨hS,E.hp,fun e he=>?_,E.lnN,fun d hdC hds=>?_,fun m hm=>?_,hcl,fun hgl=>?_,?_,?_,by have:=E.z3;omega,by have:=E.z4;omega,by have:=E.z5;omega,by have:=E.z6;omega⟩
  ·obtain⟨id,d,f,h1,h2⟩:=E.lnI e he
   exact⟨id,d,f,h1,y5l_ h2⟩
  ·rcases kh_.1 hdC with q|q
   ·obtain⟨id,d',f,h1,h2,h3⟩:=E.orI d q hds
    exact⟨id,d',f,y5l_ h1,h2,h3⟩
   ·rw[kj_.1 q]
    refine⟨s.cls.length,_,true,y6z_,fun x=>y8_,fun e he=>?_⟩;obtain⟨id,d',f,h1,h2⟩:=E.lnI e he;have:=y2_ h2;omega
  ·rw[y8l_]
   intro d hd;rcases kh_.1 hd with q|q
   ·exact E.snd m (fun e he=>hm e (by simp[he])) d q
   ·rw[kj_.1 q,yca_]
    exact hm c (by simp)
  ·obtain⟨D,X,h1,h2⟩:=E.lgI hgl
   refine⟨_,X,hlgn hgl D X h1 h2,?_⟩;rw[y8l_,List.map_append,List.map_singleton,y9b_];refine(h2.append_right _).trans ?_;rw[kn_,kn_];exact List.Perm.append_left _ List.perm_append_comm
  ·show(s.cls++[_]).length<=_
   simp;have:=E.z1;omega
  ·have:(s.addC (normL c)).loose.length=s.loose.length+1:=by simp[PS.addC]
   have:=E.z2;omega
 ·rw[if_neg hsy]
  refine⟨E.si,E.hp,E.lnI,E.lnN,fun d hdC hds=>?_,fun m hm=>E.snd m fun e he=>hm e (by simp[he]),hcl,fun hgl=>?_,by have:=E.z1;omega,by have:=E.z2;omega,by have:=E.z3;omega,by have:=E.z4;omega,by have:=E.z5;omega,by have:=E.z6;omega⟩
  ·rcases kh_.1 hdC with q|q
   ·exact E.orI d q hds
   ·rw[kj_.1 q]at hds;exact absurd hds hsy
  ·obtain⟨D,X,h1,h2⟩:=E.lgI hgl
   refine⟨_,X++[normL c],hlgn hgl D X h1 h2,?_⟩;rw[<-kn_];exact h2.append_right _
end
end
section
open Go
def eI:Nat->Bool:=fun j=>decide (1<=j) && !(decide (36<=j)&&decide (j<=49))
def vLn:Vw (Int×Int):=⟨2,fun _ a us=>us=[.int .i64 a.1,.int .i64 a.2],by decide,fun h=>by rw[h];rfl,fun _ h=>h⟩
theorem y83_:vLn.Flat:=fun _ _ _ _ h=>h
structure EnP where
 le:Nat
 lp:Nat
 lh:Nat
 lq:Nat
structure EnH(σ:Heap)(T:Tg)(e:EnP)(n:Nat)(s:PS)(hs:List Int)(ln:List (Int×Int))(lg:List (Bool×List Int))(since least:Int)(h:PH)(xs xl xg:AVal)(conf bump most:Int)(sv:List Int)(ws:List (Bool×AVal)):Prop where
 obj:Loc (σ.at T 31) e.le [.ptr e.lp 0,.ptr e.lh 0,.ptr e.lq 0,xs,xl,xg,.int .i64 conf,.int .i64 bump]
 prop:PropH σ T e.lp h s
 heap:HpI σ T e.lh n hs
 pace:PcI σ T e.lq most since least
 most:most<=0
 sav:Own .int (σ.at T 32) sv xs
 svl:sv.length=n+1
 lrn:Own vLn (σ.at T 33) ln xl
 log:Own vBR (σ.at T 34) ws xg
 all:AllB (σ.at T 0) lg ws
def EnX(σ:Heap)(T:Tg)(e:EnP)(n:Nat)(s:PS)(hs:List Int)(ln:List (Int×Int))(lg:List (Bool×List Int))(since least:Int):Prop:=∃h xs xl xg conf bump most sv ws,EnH σ T e n s hs ln lg since least h xs xl xg conf bump most sv ws
section
variable{σ τ:Heap}{T T':Tg}{I:Nat->Bool}
theorem pI_e{j:Nat}(h:pI j=true):eI j=true:=by
 simp only[pI,eI,Bool.or_eq_true,Bool.and_eq_true,decide_eq_true_eq,Bool.not_eq_true',Bool.and_eq_false_iff,decide_eq_false_iff_not]at h⊢;omega
theorem Hop.pe(H:Hop pI σ T τ T'):Hop eI σ T τ T':=H.sub fun i hi=>pI_e hi
theorem Hop.je(H:Hop pJ σ T τ T'):Hop eI σ T τ T':=H.sub fun i hi=>by
 unfold pJ at hi;rcases Bool.or_eq_true_iff.1 hi with q|q
 ·exact pI_e q
 ·have:i=15:=by simpa using q
  subst this;rfl
theorem Hop.he(H:Hop hI σ T τ T'):Hop eI σ T τ T':=H.sub fun i hi=>by
 simp only[hI,eI,Bool.and_eq_true,decide_eq_true_eq,Bool.not_eq_true',Bool.and_eq_false_iff,decide_eq_false_iff_not]at hi⊢;omega
theorem Hop.hbe(H:Hop hbI σ T τ T'):Hop eI σ T τ T':=H.sub fun i hi=>by
 simp only[hbI,eI,Bool.or_eq_true,Bool.and_eq_true,decide_eq_true_eq,Bool.not_eq_true',Bool.and_eq_false_iff,decide_eq_false_iff_not]at hi⊢;omega
theorem Hop.te(H:Hop tI σ T τ T'):Hop eI σ T τ T':=H.sub fun i hi=>by
 simp only[tI,eI,Bool.and_eq_true,decide_eq_true_eq,Bool.not_eq_true',Bool.and_eq_false_iff,decide_eq_false_iff_not]at hi⊢;omega
theorem Hop.oe{t:Nat}(H:Hop (only t) σ T τ T')(ht:eI t=true:=by rfl):Hop eI σ T τ T':=H.sub fun i hi=>by
 have:i=t:=by simpa using hi
 rw[this];exact ht
theorem pI_hI{j:Nat}(h:pI j=true):hI j=false:=by
 simp only[pI,hI,Bool.or_eq_true,Bool.and_eq_true,decide_eq_true_eq,Bool.and_eq_false_iff,decide_eq_false_iff_not]at h⊢;omega
theorem hI_pI{j:Nat}(h:hI j=true):pI j=false:=by
 simp only[pI,hI,Bool.or_eq_false_iff,Bool.and_eq_true,decide_eq_true_eq,Bool.and_eq_false_iff,decide_eq_false_iff_not]at h⊢;omega
theorem PropH.hopH{lp:Nat}{h:PH}{s:PS}(p:PropH σ T lp h s)(H:Hop hI σ T τ T'):PropH τ T' lp h s:=p.hop H fun j hj=>pI_hI hj
theorem PropH.hopHB{lp:Nat}{h:PH}{s:PS}(p:PropH σ T lp h s)(H:Hop hbI σ T τ T'):PropH τ T' lp h s:=p.hop H fun j hj=>by
 simp only[pI,hbI,Bool.or_eq_true,Bool.or_eq_false_iff,Bool.and_eq_true,decide_eq_true_eq,Bool.and_eq_false_iff,decide_eq_false_iff_not]at hj⊢;omega
theorem PropH.hopO{lp:Nat}{h:PH}{s:PS}(p:PropH σ T lp h s){t:Nat}(H:Hop (only t) σ T τ T')(ht:pI t=false:=by rfl):PropH τ T' lp h s:=p.hop H fun j hj=>by
 simp only[only,beq_eq_false_iff_ne];intro e;subst e;rw[ht]at hj;cases hj
theorem HpI.hopP{lh N:Nat}{hs:List Int}(p:HpI σ T lh N hs)(H:Hop pI σ T τ T'):HpI τ T' lh N hs:=p.hop H fun j hj=>hI_pI hj
theorem HpI.hopJ{lh N:Nat}{hs:List Int}(p:HpI σ T lh N hs)(H:Hop pJ σ T τ T'):HpI τ T' lh N hs:=p.hop H fun j hj=>by
 simp only[pJ,Bool.or_eq_false_iff];refine⟨hI_pI hj,?_⟩;simp only[hI,Bool.and_eq_true,decide_eq_true_eq]at hj;simp;omega
theorem HpI.hopT{lh N:Nat}{hs:List Int}(p:HpI σ T lh N hs)(H:Hop tI σ T τ T'):HpI τ T' lh N hs:=p.hop H fun j hj=>by
 simp only[hI,tI,Bool.and_eq_true,decide_eq_true_eq,Bool.and_eq_false_iff,decide_eq_false_iff_not]at hj⊢;omega
variable{e:EnP}{n k:Nat}{s:PS}{hs:List Int}{ln:List (Int×Int)}{lg:List (Bool×List Int)}{since least:Int}{h:PH}{xs xl xg:AVal}{conf bump most:Int}{sv:List Int}{ws:List (Bool×AVal)}{gl:Bool}{C:List (List Int)}{w:Nat}
theorem EnH.hopT(E:EnH σ T e n s hs ln lg since least h xs xl xg conf bump most sv ws)(H:Hop tI σ T τ T'):EnH τ T' e n s hs ln lg since least h xs xl xg conf bump most sv ws:=
 ⟨E.obj.hop H,E.prop.hopT H,E.heap.hopT H,E.pace.hop H,E.most,E.sav.hop H,E.svl,E.lrn.hop H,E.log.hop H,E.all.hop H⟩
theorem EnH.hopE{t:Nat}(E:EnH σ T e n s hs ln lg since least h xs xl xg conf bump most sv ws)(H:Hop (only t) σ T τ T')(ht:(decide (15<=t)&&decide (t<=29))||(decide (35<=t)&&decide (t<=49))=true:=by rfl):EnH τ T' e n s hs ln lg since least h xs xl xg conf bump most sv ws:=by
 have hne:∀u,u≠t->(only t) u=false:=fun u hu=>by simpa using hu
 simp only[Bool.or_eq_true,Bool.and_eq_true,decide_eq_true_eq]at ht;exact⟨E.obj.hop H (hne _ (by omega)),E.prop.hopO H (by simp only[pI,Bool.or_eq_false_iff,Bool.and_eq_false_iff,decide_eq_false_iff_not];omega),E.heap.hopB H (by simp only[hI,Bool.and_eq_false_iff,decide_eq_false_iff_not];omega),E.pace.hop H (hne _ (by omega)) (hne _ (by omega)),E.most,E.sav.hop H (hne _ (by omega)),E.svl,E.lrn.hop H (hne _ (by omega)),E.log.hop H (hne _ (by omega)),E.all.hop H (hne _ (by omega))⟩
theorem EnH.hle(E:EnH σ T e n s hs ln lg since least h xs xl xg conf bump most sv ws)(L:Hle σ τ):EnH τ T e n s hs ln lg since least h xs xl xg conf bump most sv ws:=
 ⟨E.obj.hle L,E.prop.hle L,E.heap.hle L,E.pace.hle L,E.most,E.sav.hle L,E.svl,E.lrn.hle L,E.log.hle L,E.all.hle L⟩
theorem ycx_(ht:TrI n s):∀l∈s.sinceL k,l∈s.trail:=fun l hl=>by
 unfold PS.sinceL at hl
 split at hl
 ·exact List.mem_of_mem_drop hl
 ·cases hl
theorem y6f_(E:EnX σ T e n s hs ln lg since least)(hn:Tn σ T)(L:EnL gl n C s hs ln lg since least w)(hn4:n<=4000) :
  W (S.z106 (.ptr e.le 0) (k:Int) σ) fun r=>∃T' hs',Hop eI σ T r.2 T'/\EnX r.2 T' e n (s.backK k) hs' ln lg since least/\EnL gl n C (s.backK k) hs' ln lg since least (w+1):=by
 obtain⟨h,xs,xl,xg,conf,bump,most,sv,ws,E⟩:=E;have ht:=L.si.ti;have hlt:=ht.lenT;have k1:=E.obj;unfold S.z106
 repeat' with_reducible first|refine W.bind ?_|refine W.asV ?_|refine W.fldp ?_|refine W.nck ?_|refine W.u0 ?_
 refine W.mono (yi1_ (k:=k) E.prop hn ht hn4) fun r hr=>?_;obtain⟨y,τ1⟩:=r;obtain⟨L1,hy⟩:=hr;dsimp only at L1 hy⊢;replace E:=E.hle L1;have HH:Hop eI σ T τ1 T:=Hop.of hn L1;have hyu:=hy.up
 clear k1
 have hsl:(s.sinceL k).length<=n:=by
  unfold PS.sinceL
  split
  ·simp;omega
  ·simp
 repeat' with_reducible first|refine W.bind ?_|refine W.len (by assumption) ?_
 refine W.mono (P:=fun r=>∃T' hs' sv',Hop eI σ T r.2 T'/\EnH r.2 T' e n s hs' ln lg since least h xs xl xg conf bump most sv' ws/\∀x,x∈hs'↔x∈hs\/∃l∈s.sinceL k,x=(l.natAbs:Int)) ?_ fun r hr=>?_
 ·refine W.loop (s.sinceL k).length (fun i (z:Int) τ=>z=(i:Int)/\∃T' hs' sv',Hop eI σ T τ T'/\SlV .int (τ.at T' 0) (s.sinceL k) y/\EnH τ T' e n s hs' ln lg since least h xs xl xg conf bump most sv' ws/\∀x,x∈hs'↔x∈hs\/∃l∈(s.sinceL k).take i,x=(l.natAbs:Int)) ⟨rfl,T,hs,sv,HH,hy,E,fun x=>by simp⟩ fun i z τ2 hi hI2=>?_
  obtain⟨rfl,T2,hs2,sv2,HH,hy,E,hmem⟩:=hI2;have wr:IntKind.i64.wrap ((i:Int)+1)=((i+1:Nat):Int):=by rw[wrapS]<;>omega
  unfold S.z106.b0
  (with_reducible refine W.cnd (fun hlt2=>?_) (fun hlt2=>?_)<;>(try simp only[qq,Kd.ty]at hlt2)<;>(try (exfalso;omega)))
  ·obtain⟨a,ha⟩:=y3_ (xs:=s.sinceL k) (i:=i) (by omega)
   have hat:=ycx_ ht a (ka_ ha);have haL:=ht.rng a hat;have ha0:=yc_ haL;obtain⟨k1,kp,kh,kq,km,ks,ksl,kl,kg,ka⟩:=E;have hyu:=hy.up
   repeat' with_reducible first|refine W.bind ?_|refine W.e2 ?_
   refine W.to (yn_ haL hn4) ?_
   repeat' with_reducible first|refine W.ret ?_|refine W.asV ?_|refine W.fldp ?_|refine W.nck ?_|refine W.u0 ?_
   refine W.ixO ks.slT (i:=a.natAbs) (by omega) ?_;refine W.own_setI ks HH.tn (by omega) fun τ3 ks H3 _=>?_;replace HH:=HH.trans H3.oe;replace hy:=hy.hop H3;replace kp:=kp.hopO H3;replace kh:=kh.hopB H3;replace kq:=kq.hop H3;replace ka:=ka.hop H3;replace k1:=k1.hop H3;replace kl:=kl.hop H3;replace kg:=kg.hop H3;replace hn:=H3.tn;refine W.bind ?_;refine W.mono (P:=fun r=>∃sv',Hop (only 32) τ3 T2 r.2 T2/\Own .int (r.2.at T2 32) sv' xs/\sv'.length=n+1) ?_ fun r hr=>?_
   ·(with_reducible refine W.cnd (fun hp=>?_) (fun hp=>?_)<;>(try simp only[qq,Kd.ty]at hp)<;>(try (exfalso;omega)))
    ·repeat' with_reducible first|refine W.asV ?_|refine W.fldp ?_|refine W.nck ?_|refine W.u0 ?_
     refine W.ixO ks.slT (i:=a.natAbs) (by simp;omega) ?_;refine W.own_setI ks HH.tn (by simp;omega) fun τ4 ks H4 _=>?_
     repeat' with_reducible refine W.ret ?_
     exact⟨_,H4,ks,by simp[ksl]⟩
    ·repeat' with_reducible refine W.ret ?_
     exact⟨_,Hop.refl HH.tn,ks,by simp[ksl]⟩
   ·obtain⟨r,τ4⟩:=r
    obtain⟨sv4,H4,ks,ksl⟩:=hr;dsimp only at H4 ks⊢;replace HH:=HH.trans H4.oe;replace hy:=hy.hop H4;replace kp:=kp.hopO H4;replace kh:=kh.hopB H4;replace kq:=kq.hop H4;replace ka:=ka.hop H4;replace k1:=k1.hop H4;replace kl:=kl.hop H4;replace kg:=kg.hop H4;replace hn:=H4.tn
    repeat' with_reducible first|refine W.bind ?_|refine W.asV ?_|refine W.fldp ?_|refine W.nck ?_|refine W.u0 ?_
    refine W.mono (y8j_ (v:=a.natAbs) kh HH.tn hn4 (by omega) ha0.2) fun r hr=>?_;obtain⟨r,τ5⟩:=r;obtain⟨T5,hs5,H5,kh,hm5⟩:=hr;dsimp only at H5 kh⊢;replace HH:=HH.trans H5.he
    repeat' with_reducible first|refine W.next ?_|refine W.ret ?_
    refine⟨by omega,wr,T5,hs5,sv4,HH,hy.hop H5,⟨k1.hop H5,kp.hopH H5,kh,kq.hop H5,km,ks.hop H5,ksl,kl.hop H5,kg.hop H5,ka.hop H5⟩,fun x=>?_⟩;have htk:(s.sinceL k).take (i+1)=(s.sinceL k).take i++[a]:=by rw[kk_,ha];rfl
    rw[hm5,hmem,htk];constructor
    ·rintro((q|⟨l,hl,q⟩)|q)
     ·exact .inl q
     ·exact .inr ⟨l,by simp[hl],q⟩
     ·exact .inr ⟨a,by simp,q⟩
    ·rintro(q|⟨l,hl,q⟩)
     ·exact .inl (.inl q)
     ·rcases kh_.1 hl with hl|hl
      ·exact .inl (.inr ⟨l,hl,q⟩)
      ·rw[kj_.1 hl]at q;exact .inr q
  ·repeat' (with_reducible refine W.stop ?_)
   rw[ki_ (by omega)]at hmem;exact⟨T2,hs2,sv2,HH,E,hmem⟩
 ·obtain⟨r,τ2⟩:=r
  obtain⟨T2,hs2,sv2,HH,E,hmem⟩:=hr;dsimp only at HH E⊢;obtain⟨k1,kp,kh,kq,km,ks,ksl,kl,kg,ka⟩:=E
  repeat' with_reducible first|refine W.bind ?_|refine W.asV ?_|refine W.fldp ?_|refine W.nck ?_|refine W.u0 ?_
  refine W.mono (yjk_ (k:=k) kp HH.tn L.si hn4) fun r hr=>?_;obtain⟨r,τ3⟩:=r;obtain⟨T3,h3,H3,kp⟩:=hr;dsimp only at H3 kp⊢
  repeat' with_reducible refine W.ret ?_
  refine⟨T3,hs2,HH.trans H3.pe,⟨_,_,_,_,_,_,_,_,_,k1.hop H3,kp,kh.hopP H3,kq.hop H3,km,ks.hop H3,ksl,kl.hop H3,kg.hop H3,ka.hop H3⟩,?_⟩;have hz:=L.z2;cases hm:s.marks[k]? with
  |none=>
   have e1:s.backK k=s:=by unfold PS.backK;rw[hm]
   rw[e1];exact L.step L.si (CEq.refl s) (fun v h1 h2 h3=>(hmem _).2 (.inl (L.hp v h1 h2 h3))) (by omega)
  | some a'=>
   obtain⟨a,ea,_,_⟩:=ht.mks k a' hm;subst ea;have e1:s.backK k=s.back k a:=by unfold PS.backK;rw[hm];rfl
   have e2:s.sinceL k=s.trail.drop a:=by unfold PS.sinceL;rw[hm];rfl
   obtain⟨g0,g1,g2,g3,g4,g5,g6,g7,g8,g9,g10⟩:=L.si.back hm;rw[e1];refine L.step g0 ⟨by rw[g3],fun id a b h1 h2=>by rw[g3]at h2;exact(CEq.refl s).2 id a b h1 h2⟩ (fun v h1 h2 h3=>?_) (by
    have:(s.back k a).ent=s.ent:=by simp only[PS.ent,g5]
    rw[this,g4];omega)
   rw[hmem,e2];by_cases hv:val s.vs v=0
   ·exact .inl (L.hp v h1 h2 hv)
   ·right
    have hsplit:∀y,y∈s.trail->y∈s.trail.take a\/y∈s.trail.drop a:=fun y hy=>by
     rw[<-List.take_append_drop a s.trail]at hy;exact kh_.1 hy
    rw[g10]at h3;have hval:=y2y_ ht.ok (v:Int);rcases(show val s.vs v=1\/val s.vs v=2 by omega)with q|q
    ·rcases hsplit _ ((ht.tr _).1 q)with u|u
     ·rw[if_pos u]at h3;omega
     ·exact⟨_,u,by simp⟩
    ·rcases hsplit _ (ht.neg.1 q)with u|u
     ·split at h3
      ·omega
      ·omega
     ·exact⟨_,u,by simp⟩
end
end
section
open Go
section
variable{σ τ:Heap}{T T':Tg}{e:EnP}{n k:Nat}{s:PS}{hs:List Int}{ln:List (Int×Int)}{lg:List (Bool×List Int)}{since least:Int}{h:PH}{xs xl xg x:AVal}{conf bump most:Int}{sv o:List Int}{ws:List (Bool×AVal)}{gl:Bool}{C:List (List Int)}{w:Nat}
theorem ye1_(E:EnX σ T e n s hs ln lg since least)(hn:Tn σ T)(hn4:n<=4000)(ho:SlV .int (σ.at T 0) o x)(hv:∀v∈o,1<=v/\v<=(n:Int))(hol:o.length<=1000000) :
  W (S.z107 (.ptr e.le 0) x σ) fun r=>∃T' hs',Hop eI σ T r.2 T'/\EnX r.2 T' e n s hs' ln lg since least/\∀x,x∈hs'↔x∈hs:=by
 obtain⟨h,xs,xl,xg,conf,bump,most,sv,ws,E⟩:=E;have hou:=ho.up;unfold S.z107
 repeat' with_reducible first|refine W.bind ?_|refine W.len (by assumption) ?_
 refine W.mono (P:=fun r=>∃T' hs',Hop eI σ T r.2 T'/\EnH r.2 T' e n s hs' ln lg since least h xs xl xg conf bump most sv ws/\∀x,x∈hs'↔x∈hs) ?_ fun r hr=>?_
 ·refine W.loop o.length (fun i (z:Int) τ=>z=(i:Int)/\∃T' hs',Hop eI σ T τ T'/\SlV .int (τ.at T' 0) o x/\EnH τ T' e n s hs' ln lg since least h xs xl xg conf bump most sv ws/\∀x,x∈hs'↔x∈hs) ⟨rfl,T,hs,Hop.refl hn,ho,E,fun _=>Iff.rfl⟩ fun i z τ1 hi hI2=>?_
  obtain⟨rfl,T1,hs1,HH,ho,E,hm1⟩:=hI2;have wr:IntKind.i64.wrap ((i:Int)+1)=((i+1:Nat):Int):=by rw[wrapS]<;>omega
  unfold S.z107.b0
  (with_reducible refine W.cnd (fun hlt=>?_) (fun hlt=>?_)<;>(try simp only[qq,Kd.ty]at hlt)<;>(try (exfalso;omega)))
  ·obtain⟨a,ha⟩:=y3_ (xs:=o) (i:=i) (by omega)
   have hav:=hv a (ka_ ha);obtain⟨v,rfl⟩:∃v:Nat,a=v:=⟨a.toNat,by omega⟩;obtain⟨k1,kp,kh,kq,km,ks,ksl,kl,kg,ka⟩:=E;have hou:=ho.up
   repeat' with_reducible first|refine W.bind ?_|refine W.asI ?_|refine W.asV ?_|refine W.fldp ?_|refine W.e2 ?_|refine W.nck ?_|refine W.u0 ?_
   refine W.mono (ye9_ (v:=v) kh HH.tn hn4 (by omega) (by omega)) fun r hr=>?_;obtain⟨r,τ5⟩:=r;obtain⟨T5,hs5,H5,kh,hm5⟩:=hr;dsimp only at H5 kh⊢
   repeat' (with_reducible refine W.next ?_)
   exact⟨by omega,wr,T5,hs5,HH.trans H5.he,ho.hop H5,⟨k1.hop H5,kp.hopH H5,kh,kq.hop H5,km,ks.hop H5,ksl,kl.hop H5,kg.hop H5,ka.hop H5⟩,fun x=>by rw[hm5,hm1]⟩
  ·repeat' (with_reducible refine W.stop ?_)
   exact⟨T1,hs1,HH,E,hm1⟩
 ·obtain⟨r,τ1⟩:=r
  obtain⟨T1,hs1,HH,E,hm1⟩:=hr;dsimp only at HH E⊢;obtain⟨k1,kp,kh,kq,km,ks,ksl,kl,kg,ka⟩:=E;have hn:=HH.tn
  repeat' with_reducible first|refine W.asI ?_|refine W.fldp ?_|refine W.nck ?_|refine W.u0 ?_
  refine W.stT k1 hn (kc_ (by rfl)) fun τ2 H2 k1 hnτ2=>?_;replace HH:=HH.trans H2.oe;replace kp:=kp.hopO H2;replace kh:=kh.hopB H2;replace kq:=kq.hop H2;replace ka:=ka.hop H2;replace ks:=ks.hop H2;replace kl:=kl.hop H2;replace kg:=kg.hop H2;replace hn:=H2.tn
  repeat' with_reducible first|refine W.asI ?_|refine W.fldp ?_|refine W.nck ?_|refine W.u0 ?_
  (with_reducible refine W.cnd (fun hbm=>?_) (fun hbm=>?_)<;>(try simp only[qq,Kd.ty]at hbm)<;>(try (exfalso;omega)))
  ·repeat' (with_reducible refine W.bind ?_)
   refine W.mono (P:=fun r=>∃T' hs',Hop hI τ2 T1 r.2 T'/\HpI r.2 T' e.lh n hs'/\∀x,x∈hs'↔x∈hs) ?_ fun r hr=>?_
   ·refine W.loop 20 (fun i (z:Int) τ=>z=(i:Int)/\∃T' hs',Hop hI τ2 T1 τ T'/\Loc (τ.at T' 31) e.le [.ptr e.lp 0,.ptr e.lh 0,.ptr e.lq 0,xs,xl,xg,.int .i64 conf,.int .i64 (IntKind.i64.wrap (bump+IntKind.i64.wrap (Int.tdiv bump 16)))]/\HpI τ T' e.lh n hs'/\∀x,x∈hs'↔x∈hs) ⟨rfl,T1,hs1,Hop.refl HH.tn,k1,kh,hm1⟩ fun i z τ3 hi hI2=>?_
    obtain⟨rfl,T3,hs3,H3,k1,kh,hm3⟩:=hI2;have wr:IntKind.i64.wrap ((i:Int)+1)=((i+1:Nat):Int):=by rw[wrapS]<;>omega
    unfold S.z107.b1
    (with_reducible refine W.cnd (fun hlt=>?_) (fun hlt=>?_)<;>(try simp only[qq,Kd.ty]at hlt)<;>(try (exfalso;omega)))
    ·repeat' with_reducible first|refine W.bind ?_|refine W.asV ?_|refine W.fldp ?_|refine W.nck ?_|refine W.u0 ?_
     refine W.mono (ycw_ kh H3.tn hn4) fun r hr=>?_;obtain⟨r,τ5⟩:=r;obtain⟨T5,hs5,H5,kh,hm5⟩:=hr;dsimp only at H5 kh⊢
     repeat' (with_reducible refine W.next ?_)
     exact⟨by omega,wr,T5,hs5,H3.trans H5,k1.hop H5,kh,fun x=>by rw[hm5,hm3]⟩
    ·repeat' (with_reducible refine W.stop ?_)
     exact⟨T3,hs3,H3,kh,hm3⟩
   ·obtain⟨r,τ3⟩:=r
    obtain⟨T3,hs3,H3,kh,hm3⟩:=hr;dsimp only at H3 kh⊢;replace HH:=HH.trans H3.he;replace kp:=kp.hopH H3;replace kq:=kq.hop H3;replace ka:=ka.hop H3;replace k1:=k1.hop H3;replace ks:=ks.hop H3;replace kl:=kl.hop H3;replace kg:=kg.hop H3;replace hn:=H3.tn
    repeat' with_reducible first|refine W.asI ?_|refine W.fldp ?_|refine W.nck ?_|refine W.u0 ?_
    refine W.stT k1 hn (kc_ (by rfl)) fun τ4 H4 k1 hnτ4=>?_
    repeat' with_reducible refine W.ret ?_
    exact⟨T3,hs3,HH.trans H4.oe,⟨_,_,_,_,_,_,_,_,_,k1,kp.hopO H4,kh.hopB H4,kq.hop H4,km,ks.hop H4,ksl,kl.hop H4,kg.hop H4,ka.hop H4⟩,hm3⟩
  ·repeat' with_reducible refine W.ret ?_
   exact⟨T1,hs1,HH,⟨_,_,_,_,_,_,_,_,_,k1,kp,kh,kq,km,ks,ksl,kl,kg,ka⟩,hm1⟩
theorem y7c_(hS:StI n s):(s.backK 0).marks=[]:=by
 unfold PS.backK;cases hm:s.marks[0]? with
 |none=>
  have:=List.getElem?_eq_none_iff.1 hm;show s.marks=[];exact km_ (by omega)
 |some a'=>
  obtain⟨a,ea,_,_⟩:=hS.ti.mks 0 a' hm;subst ea;exact(hS.back hm).2.1
theorem AllB.push{ss:List (Bool×List Int)}{ws:List (Bool×AVal)}{b:Bool}{c:List Int}(h:AllB (σ.at T 0) ss ws)(hx:SlV .int (σ.at T 0) c x):AllB (σ.at T 0) (ss++[(b,c)]) (ws++[(b,x)]):=h.app (AllB.one (s:=(b,c)) hx)
def LgX(n i:Nat)(lg:List (Bool×List Int))(k:Nat)(lg':List (Bool×List Int)):Prop:=∃ds:List (Bool×List Int),lg'=lg++ds/\(∀d∈ds,d.1=true/\d.2.length<=n/\∀x∈d.2,isL x n=true)/\k+ds.length<=i
theorem LgX.zero{lg:List (Bool×List Int)}:LgX n 0 lg 0 lg:=⟨[],by simp,by simp,by simp⟩
theorem LgX.stay{i:Nat}{lg':List (Bool×List Int)}(h:LgX n i lg k lg'):LgX n (i+1) lg (k+1) lg':=by
 obtain⟨ds,h1,h2,h3⟩:=h;exact⟨ds,h1,h2,by omega⟩
theorem LgX.drop{i:Nat}{lg':List (Bool×List Int)}{c:List Int}(h:LgX n i lg k lg')(hc:c.length<=n/\∀x∈c,isL x n=true):LgX n (i+1) lg k (lg'++[(true,c)]):=by
 obtain⟨ds,h1,h2,h3⟩:=h;refine⟨ds++[(true,c)],by rw[h1,kn_],fun d hd=>?_,by simp;omega⟩;rcases kh_.1 hd with q|q
 ·exact h2 d q
 ·rw[kj_.1 q];exact⟨rfl,hc⟩
theorem yeo_(E:EnX σ T e n s hs ln lg since least)(hn:Tn σ T)(L:EnL gl n C s hs ln lg since least w)(hn4:n<=4000)(hw:w<=860000000000) :
  W (S.z112 (.ptr e.le 0) σ) fun r=>∃T' s' hs' ln' lg',Hop eI σ T r.2 T'/\EnX r.2 T' e n s' hs' ln' lg' since least/\EnL gl n C s' hs' ln' lg' since least (w+1)/\s'.marks=[]/\LgX n ln.length lg ln'.length lg':=by
 unfold S.z112;refine W.bind ?_;refine W.mono (y6f_ (k:=0) E hn L hn4) fun r hr=>?_;obtain⟨r,τ1⟩:=r;obtain⟨T1,hs1,HH,E,L⟩:=hr;dsimp only at HH E⊢;have hmk:=y7c_ (s:=s) (n:=n) (by
  exact ‹EnL gl n C s hs ln lg since least w›.si)
 generalize s.backK 0=s1 at E L hmk;obtain⟨h,xs,xl,xg,conf,bump,most,sv,ws,E⟩:=E;have k1:=E.obj;have kl0:=E.lrn.slT;have hll:=L.z3
 repeat' with_reducible first|refine W.bind ?_|refine W.asV ?_|refine W.fldp ?_|refine W.len (by assumption) ?_|refine W.nck ?_|refine W.u0 ?_
 refine W.mono (P:=fun r=>∃T' s' ln' lg' h' xg' ws',Hop eI σ T r.2 T'/\EnH r.2 T' e n s' hs1 ln lg' since least h' xs xl xg' conf bump most sv ws'/\Own vLn (r.2.at T' 35) ln' r.1/\EnL gl n C s' hs1 ln' lg' since least (w+1)/\s'.marks=[]/\LgX n ln.length lg ln'.length lg') ?_ fun r hr=>?_
 ·refine W.loop ln.length (fun i (z:AVal×Int) τ=>z.2=(i:Int)/\∃T' s' st lg' h' xg' ws',Hop eI σ T τ T'/\EnH τ T' e n s' hs1 ln lg' since least h' xs xl xg' conf bump most sv ws'/\Own vLn (τ.at T' 35) st z.1/\EnL gl n C s' hs1 (st++ln.drop i) lg' since least (w+1)/\s'.marks=[]/\st.length<=i/\LgX n i lg st.length lg') ⟨rfl,T1,s1,[],lg,h,xg,ws,HH,E,.nil,by simpa using L,hmk,by simp,.zero⟩ fun i z τ2 hi hI2=>?_
  obtain⟨z,zi⟩:=z;obtain⟨hz,T2,s2,st,lg2,h2,xg2,ws2,HH,E,kS,L,hmk,hst,hX⟩:=hI2;dsimp only at hz kS⊢;subst hz;have wr:IntKind.i64.wrap ((i:Int)+1)=((i+1:Nat):Int):=by rw[wrapS]<;>omega
  unfold S.z112.b0
  (with_reducible refine W.cnd (fun hlt=>?_) (fun hlt=>?_)<;>(try simp only[qq,Kd.ty]at hlt)<;>(try (exfalso;omega)))
  ·obtain⟨⟨idv,score⟩,ha⟩:=y3_ (xs:=ln) (i:=i) (by omega)
   have hdr:ln.drop i=(idv,score)::ln.drop (i+1):=by
    rw[List.drop_eq_getElem_cons (by omega)];rw[(kf_.1 ha).2]
   rw[hdr]at L;obtain⟨id,c,f,eid,hc⟩:=L.lnI (idv,score) (by simp);dsimp only at eid;subst eid;have ht:=L.si.ti;have hcn:=L.si.ci.len hc;have hcL:=(L.si.ci id c f hc).1;have hlg:=L.z4;have hlgw:lg2.length<=2*w+2:=by omega
   repeat' (with_reducible refine W.bind ?_)
   refine W.ixO E.lrn.slT (i:=i) (by omega) ?_;refine W.ldGO E.lrn.slT ha [.int .i64 (id:Int),.int .i64 score] (fun bs h=>h) ?_;have hn:=HH.tn;refine W.newT 28 hn fun l12 τ3 T3 hl12 H3 k28 hnτ3=>?_;replace HH:=HH.trans H3.oe;replace E:=E.hopE H3;replace kS:=kS.hop H3
   repeat' (with_reducible refine W.e3 ?_)
   have hn:=HH.tn;refine W.stT k28 hn (kc_ (by rfl)) fun τ4 H4 k28 hnτ4=>?_;replace HH:=HH.trans H4.oe;replace E:=E.hopE H4;replace kS:=kS.hop H4;obtain⟨k1,kp,kh,kq,km,ks,ksl,kl,kg,ka⟩:=E
   repeat' with_reducible first|refine W.bind ?_|refine W.asI ?_|refine W.asV ?_|refine W.fldp ?_|refine W.nck ?_|refine W.u0 ?_
   refine W.mono (y1x_ kp HH.tn hc (by omega)) fun r hr=>?_;obtain⟨y,τ5⟩:=r;obtain⟨L5,hy⟩:=hr;dsimp only at L5 hy⊢;rw[if_pos rfl]at hy;replace HH:=HH.hle L5;replace kp:=kp.hle L5;replace kh:=kh.hle L5;replace kq:=kq.hle L5;replace ka:=ka.hle L5;replace k1:=k1.hle L5;replace ks:=ks.hle L5;replace kl:=kl.hle L5;replace kg:=kg.hle L5;replace kS:=kS.hle L5;replace k28:=k28.hle L5;have hyu:=hy.up
   repeat' with_reducible first|refine W.bind ?_|refine W.asI ?_|refine W.asV ?_|refine W.fldp ?_|refine W.nck ?_|refine W.u0 ?_
   refine W.mono (yjh_ kq HH.tn) fun r hr=>?_;obtain⟨kb,τ6⟩:=r;obtain⟨H6,kq⟩:=hr;dsimp only at H6 kq⊢;replace HH:=HH.trans H6.oe;replace kp:=kp.hopO H6;replace kh:=kh.hopB H6;replace ka:=ka.hop H6;replace kS:=kS.hop H6;replace k28:=k28.hop H6;replace hy:=hy.hop H6;replace k1:=k1.hop H6;replace ks:=ks.hop H6;replace kl:=kl.hop H6;replace kg:=kg.hop H6;replace hn:=H6.tn;have hyu:=hy.up;refine W.mono (P:=fun r=>(r.1=true/\r.2=τ6)\/(r.1=false/\(∀x∈s2.trail,x∈c->s2.re x≠id)/\∃T' h',Hop pI τ6 T3 r.2 T'/\PropH r.2 T' e.lp h' (s2.dropC id f))) ?_ fun r hr=>?_
   ·cases kb with
    |true=>
     refine W.condT rfl ?_
     repeat' with_reducible refine W.ret ?_
     exact .inl ⟨rfl,rfl⟩
    | false=>
     refine W.condF rfl ?_
     repeat' (with_reducible refine W.len (by assumption) ?_)
     (with_reducible refine W.cnd (fun hl2=>?_) (fun hl2=>?_)<;>(try simp only[qq,Kd.ty]at hl2)<;>(try (exfalso;omega)))
     ·repeat' with_reducible refine W.ret ?_
      exact .inl ⟨rfl,rfl⟩
     ·repeat' with_reducible first|refine W.bind ?_|refine W.asI ?_|refine W.asV ?_|refine W.fldp ?_|refine W.nck ?_|refine W.u0 ?_
      refine W.mono (yep_ kp HH.tn ht hn4 hc hcL (by omega)) fun r hr=>?_;rcases hr with er|⟨e1,e2,e3⟩
      ·subst er
       repeat' with_reducible refine W.ret ?_
       exact .inl ⟨rfl,rfl⟩
      ·obtain⟨r,τ7⟩:=r
       dsimp only at e1 e3⊢;subst e1
       repeat' with_reducible refine W.ret ?_
       exact .inr ⟨rfl,e2,e3⟩
   ·obtain⟨b,τ7⟩:=r
    rcases hr with ⟨e1,e2⟩|⟨e1,e2,T7,h7,H7,kp⟩
    ·dsimp only at e1 e2⊢
     subst e1 e2;refine W.condT rfl ?_
     repeat' with_reducible first|refine W.e3 ?_|refine W.putC (by with_unfolding_all rfl) ?_|refine W.u1 ?_
     refine W.own_push (bytes:=16) y83_ kS HH.tn (a:=((id:Int),score)) rfl (by omega) (by omega) fun x2 τ8 T8 kS H8=>?_
     repeat' with_reducible first|refine W.next ?_|refine W.ret ?_
     refine⟨by omega,wr,T8,s2,st++[((id:Int),score)],lg2,h2,xg2,ws2,HH.trans H8.oe,EnH.hopE ⟨k1,kp,kh,kq,km,ks,ksl,kl,kg,ka⟩ H8,kS,by rw[kn_];exact L,hmk,by simp;omega,by rw[List.length_append];exact hX.stay⟩
    ·dsimp only at e1 H7 kp⊢
     subst e1;refine W.condF rfl ?_;replace HH:=HH.trans H7.pe;replace kh:=kh.hopP H7;replace kq:=kq.hop H7;replace ka:=ka.hop H7;replace kS:=kS.hop H7;replace hy:=hy.hop H7;have hyu:=hy.up;replace k1:=k1.hop H7;replace ks:=ks.hop H7;replace kl:=kl.hop H7;replace kg:=kg.hop H7;replace hn:=H7.tn;have hwl:=ka.1
     repeat' with_reducible first|refine W.asV ?_|refine W.fldp ?_|refine W.scalS (by assumption) ?_|refine W.nck ?_|refine W.u0 ?_
     refine W.own_push (bytes:=32) y4l_ kg HH.tn (a:=(true,y)) rfl (by omega) (by omega) fun x2 τ8 T8 kg H8=>?_;replace HH:=HH.trans H8.oe;replace kp:=kp.hopO H8;replace kh:=kh.hopB H8;replace kq:=kq.hop H8;replace ka:=ka.hop H8;replace kS:=kS.hop H8;replace hy:=hy.hop H8;replace k1:=k1.hop H8;replace ks:=ks.hop H8;replace kl:=kl.hop H8;replace hn:=H8.tn
     repeat' with_reducible first|refine W.fldp ?_|refine W.nck ?_|refine W.u4 ?_
     refine W.stT k1 hn (kc_ (by rfl)) fun τ9 H9 k1 hnτ9=>?_;replace HH:=HH.trans H9.oe;replace kp:=kp.hopO H9;replace kh:=kh.hopB H9;replace kq:=kq.hop H9;replace ka:=ka.hop H9;replace kS:=kS.hop H9;replace hy:=hy.hop H9;replace ks:=ks.hop H9;replace kl:=kl.hop H9;replace kg:=kg.hop H9;replace hn:=H9.tn
     repeat' with_reducible first|refine W.next ?_|refine W.ret ?_
     exact⟨by omega,wr,T8,s2.dropC id f,st,_,h7,x2,_,HH,⟨k1,kp,kh,kq,km,ks,ksl,kl,kg,ka.push hy⟩,kS,L.drop hc e2,hmk,by omega,hX.drop ⟨hcn,hcL⟩⟩
  ·repeat' (with_reducible refine W.stop ?_)
   have:i=ln.length:=by omega
   subst this;rw[List.drop_length,List.append_nil]at L;exact⟨T2,s2,st,lg2,h2,xg2,ws2,HH,E,kS,L,hmk,hX⟩
 ·obtain⟨z,τ2⟩:=r
  obtain⟨T2,s2,st,lg2,h2,xg2,ws2,HH,E,kS,L,hmk,hX⟩:=hr;dsimp only at HH E kS⊢;obtain⟨T3,H3,kS⟩:=kS.retag (u:=33) y83_ HH.tn;replace HH:=HH.trans H3.oe;obtain⟨k1,kp,kh,kq,km,ks,ksl,kl,kg,ka⟩:=E.hopE H3
  repeat' with_reducible first|refine W.fldp ?_|refine W.nck ?_|refine W.u4 ?_
  have hn:=HH.tn;refine W.stT k1 hn (kc_ (by rfl)) fun τ4 H4 k1 hnτ4=>?_
  repeat' with_reducible refine W.ret ?_
  exact⟨T3,s2,hs1,st,lg2,HH.trans H4.oe,⟨_,_,_,_,_,_,_,_,_,k1,kp.hopO H4,kh.hopB H4,kq.hop H4,km,ks.hop H4,ksl,kS.hop H4,kg.hop H4,ka.hop H4⟩,L,hmk,hX⟩
end
end
section
open Go
section
variable{σ τ:Heap}{T T':Tg}{e:EnP}{n k id:Nat}{s:PS}{hs:List Int}{ln:List (Int×Int)}{lg:List (Bool×List Int)}{since least:Int}{h:PH}{xs xl xg x:AVal}{conf bump most:Int}{sv o c:List Int}{ws:List (Bool×AVal)}{gl f:Bool}{C:List (List Int)}{w:Nat}
theorem yfa_(hd:(c.map Int.natAbs).Nodup):(normL c).Perm c:=by
 have h1:c.Nodup:=by
  unfold List.Nodup at hd⊢;rw[List.pairwise_map]at hd;exact hd.imp fun hne e=>hne (by rw[e])
 exact(List.perm_ext_iff_of_nodup (ych_ c) h1).2 fun x=>y8_
theorem ycz_(hS:StI n s)(L:Lrn n s c){b a:Nat}(hm:s.marks[b]?=some (a:Int))(h1:∀y∈c.tail,s.lv y<=b)(h2:b=0\/∃y∈c.tail,s.lv y=b):Ready ((s.back b a).addC (normL c)) s.cls.length:=by
 obtain⟨u,t,e,hu,ht⟩:=L.hd;subst e;obtain⟨g0,g1,g2,g3,g4,g5,g6,g7,g8,g9,g10⟩:=hS.back hm;have hbl:=y2_ hm;have hP:=yfa_ L.nd;have hum:u∈u::t:=by simp
 have htl:∀y∈t,-y∈s.trail.take a:=fun y hy=>by
  have h3:=L.fs y (by simp[hy]);exact(g9 _ h3.1).2 (by rw[PS.lv_neg];exact h1 y hy)
 have hvu:val (s.back b a).vs u=0:=by
  have h3:=L.fs u hum;rw[g10,if_neg fun q=>hS.ti.notBoth (kr_ q) h3.1,if_neg fun q=>?_];have:=(g9 _ h3.1).1 q;rw[PS.lv_neg]at this;omega
 have hvy:∀y∈t,val (s.back b a).vs y=2:=fun y hy=>by
  have h3:=htl y hy;rw[g10,if_neg fun q=>g0.ti.notBoth (by rw[g2];exact q) (by rw[g2];exact h3),if_pos h3]
 refine⟨normL (u::t),true,?_,u,y8_.2 hum,hvu,fun y hy hne=>?_,fun hl=>?_,fun hl=>?_⟩
 ·have:=y6z_ (s:=s.back b a) (c:=normL (u::t))
  rwa [g3]at this
 ·have:=y8_.1 hy
  rcases List.mem_cons.1 this with q|q
  ·exact absurd q hne
  ·exact hvy y q
 ·rw[hP.length_eq]at hl
  rcases h2 with q|⟨y,hy,q⟩
  ·exfalso
   subst q;cases t with
   |nil=>simp at hl
   |cons y t=>
    have h3:=(L.fs y (by simp)).2;have h4:=h1 y (by simp);omega
  ·refine⟨y,y8_.2 (by simp at hy⊢;exact .inr hy),fun e=>?_,?_⟩
   ·subst e
    have:=ht y hy;omega
   ·have h3:=g8 _ (htl y hy)
    rw[PS.lv_neg,PS.lv_neg]at h3;show(s.back b a).lv y=((s.back b a).marks.length:Int);rw[h3,q,g1];simp;omega
 ·rw[hP.length_eq]at hl
  have:t=[]:=by
   cases t with
   |nil=>rfl
   |cons y t=>simp at hl
  subst this;rcases h2 with q|⟨y,hy,_⟩
  ·subst q
   show(s.back 0 a).marks=[];rw[g1];simp
  ·simp at hy
def LgS(n:Nat)(ln:List (Int×Int))(lg:List (Bool×List Int))(ln':List (Int×Int))(lg':List (Bool×List Int)):Prop:=∃k:List Int,(k.length<=n/\∀x∈k,isL x n=true)/\LgX n (ln.length+1) (lg++[(false,k)]) ln'.length lg'
theorem yhf_(E:EnX σ T e n s hs ln lg since least)(hn:Tn σ T)(L:EnL gl n C s hs ln lg since least w)(hn4:n<=4000)(hw:w<=851000000000)(hm:0<s.marks.length)(hlo:s.loose=[])(hc:s.cls[id]?=some (c,true,f))(hf:∀y∈c,val s.vs y=2)(hx:∃y∈c,s.lv y=s.marks.length) :
  W (S.z110 (.ptr e.le 0) (id:Int) σ) fun r=>r.1=true/\∃T' s' hs' ln' lg' since' least',Hop eI σ T r.2 T'/\EnX r.2 T' e n s' hs' ln' lg' since' least'/\EnL gl n C s' hs' ln' lg' since' least' (w+4) /\
   ((since'=since+1/\least'=least/\∃(b a:Nat) (k:List Int),s.marks[b]?=some (a:Int)/\s'=(s.back b a).addC (normL k)/\Ready s' s.cls.length)\/(s'.marks=[]/\since'=0/\least'=least+8/\least<=since+1))/\LgS n ln lg ln' lg':=by
 have hti:=L.si.ti;have hci:=L.si.ci;have z5:=L.z5;have z6:=L.z6;obtain⟨h,xs,xl,xg,conf,bump,most,sv,ws,E⟩:=E;obtain⟨k1,kp,kh,kq,km,ks,ksl,kl,kg,ka⟩:=E;unfold S.z110
 repeat' with_reducible first|refine W.asI ?_|refine W.fldp ?_|refine W.nck ?_|refine W.u0 ?_
 refine W.stT k1 hn (kc_ (by rfl)) fun τ1 H1 k1 hnτ1=>?_;have HH:Hop eI σ T τ1 T:=H1.oe;replace kp:=kp.hopO H1;replace kh:=kh.hopB H1;replace kq:=kq.hop H1;replace ka:=ka.hop H1;replace ks:=ks.hop H1;replace kl:=kl.hop H1;replace kg:=kg.hop H1;replace hn:=H1.tn
 repeat' with_reducible first|refine W.bind ?_|refine W.asV ?_|refine W.fldp ?_|refine W.nck ?_|refine W.u0 ?_
 refine W.mono (yej_ kq HH.tn km (by omega)) fun r hr=>?_;obtain⟨b,τ2⟩:=r;obtain⟨e2,H2,kq⟩:=hr;dsimp only at e2 H2 kq⊢;subst e2;replace HH:=HH.trans H2.oe;replace kp:=kp.hopO H2;replace kh:=kh.hopB H2;replace ka:=ka.hop H2;replace k1:=k1.hop H2;replace ks:=ks.hop H2;replace kl:=kl.hop H2;replace kg:=kg.hop H2;replace hn:=H2.tn;refine W.condF rfl ?_
 repeat' with_reducible first|refine W.bind ?_|refine W.asV ?_|refine W.fldp ?_|refine W.nck ?_|refine W.u0 ?_
 refine W.mono (yjt_ kp HH.tn hti hci hn4 hm hc hf hx) fun r hr=>?_;obtain⟨r,τ3⟩:=r;obtain⟨T3,xc,bk,sco,xsn,c1,o,H3,er,q1',q2',hL1,hov,hol⟩:=hr;dsimp only at er H3 q1' q2'⊢;subst er;replace HH:=HH.trans H3.te;have E3:EnH τ3 T3 e n s hs ln lg (since+1) least h xs xl xg _ bump most sv ws:=EnH.hopT ⟨k1,kp,kh,kq,km,ks,ksl,kl,kg,ka⟩ H3
 clear k1 kp kh kq ks kl kg ka
 dsimp only;have hn:=HH.tn;refine W.newT 35 hn fun l11 τ4 T4 hl11 H4 k29 hnτ4=>?_;replace HH:=HH.trans H4.oe;replace E3:=E3.hopE H4;replace q1':=q1'.hop H4;replace q2':=q2'.hop H4
 repeat' (with_reducible refine W.e3 ?_)
 have hn:=HH.tn;refine W.stT k29 hn (kc_ (by rfl)) fun τ5 H5 k29 hnτ5=>?_;replace HH:=HH.trans H5.oe;replace E3:=E3.hopE H5;replace q1':=q1'.hop H5;replace q2':=q2'.hop H5;have k1:=E3.obj;refine W.condF rfl ?_
 repeat' with_reducible first|refine W.bind ?_|refine W.asV ?_|refine W.fldp ?_|refine W.nck ?_|refine W.u0 ?_
 refine W.mono (yft_ E3.prop HH.tn hti hci hn4 hL1 q1') fun r hr=>?_;obtain⟨y,τ6⟩:=r;obtain⟨T6,k,H6,hk,hLk,_⟩:=hr;dsimp only at H6 hk⊢;obtain⟨hkL,hkn⟩:=hLk.lits hti;replace HH:=HH.trans H6.te;replace E3:=E3.hopT H6;replace q2':=q2'.hop H6;replace k29:=k29.hop H6;have k1:=E3.obj
 repeat' with_reducible first|refine W.bind ?_|refine W.asV ?_|refine W.fldp ?_|refine W.nck ?_|refine W.u0 ?_
 refine W.mono (ydj_ E3.prop hti hn4 HH.tn (t:=0) rfl hk hkL (by omega)) fun r hr=>?_;obtain⟨score,τ7⟩:=r;obtain⟨T7,H7⟩:=hr;dsimp only at H7⊢;replace HH:=HH.trans H7.oe;replace E3:=E3.hopE H7;replace q2':=q2'.hop H7;replace hk:=hk.hop H7;replace k29:=k29.hop H7;have k1:=E3.obj;have hkne:k≠[]:=by
  obtain⟨u,t,e,_⟩:=hLk.hd;rw[e];simp
 repeat' with_reducible first|refine W.bind ?_|refine W.asV ?_|refine W.fldp ?_|refine W.nck ?_|refine W.u0 ?_
 refine W.mono (y7h_ E3.prop hti hn4 hk.up hkne hkL (by omega)) fun bk hbk=>?_;obtain⟨hb0,hb1,hb2⟩:=hbk;obtain⟨b,rfl⟩:∃b:Nat,bk=b:=⟨bk.toNat,by omega⟩;have hbm:b<s.marks.length:=by
  obtain⟨u,t,e,hu,ht⟩:=hLk.hd;rcases hb2 with q|⟨y,hy,q⟩
  ·omega
  ·rw[e]at hy
   have:=ht y (by simpa using hy);omega
 obtain⟨am,hma⟩:=y3_ (xs:=s.marks) (i:=b) hbm;obtain⟨a,ea,_,_⟩:=hti.mks b am hma;subst ea
 repeat' with_reducible first|refine W.bind ?_|refine W.asV ?_|refine W.u0 ?_
 have L1:EnL gl n C s hs ln lg (since+1) least (w+1):=(L.more (Nat.le_succ w)).pace (by omega) (by omega);refine W.mono (ye1_ ⟨_,_,_,_,_,_,_,_,_,E3⟩ HH.tn hn4 q2' hov (by omega)) fun r hr=>?_;obtain⟨r,τ8⟩:=r;obtain⟨T8,hs8,H8,E8,hm8⟩:=hr;dsimp only at H8 E8⊢;replace HH:=HH.trans H8;replace hk:=hk.hop H8;have L8:EnL gl n C s hs8 ln lg (since+1) least (w+1):=L1.heap fun v h1 h2 h3=>(hm8 _).2 (L1.hp v h1 h2 h3);refine W.bind ?_;refine W.mono (y6f_ (k:=b) E8 HH.tn L8 hn4) fun r hr=>?_;obtain⟨r,τ9⟩:=r;obtain⟨T9,hs9,H9,E9,L9⟩:=hr;dsimp only at H9 E9⊢;replace HH:=HH.trans H9;replace hk:=hk.hop H9;have eb:s.backK b=s.back b a:=by unfold PS.backK;rw[hma];rfl
 rw[eb]at E9 L9;have hRdy:=ycz_ L.si hLk hma hb1 (hb2.imp (fun q=>by omega) fun q=>q);obtain⟨_,g1,g2,g3,g4,g5,_⟩:=L.si.back hma;have hdbE:(s.back b a).db=s.db:=by unfold PS.db;rw[g3]
 have hL10:EnL gl n C ((s.back b a).addC (normL k)) hs9 (ln++[((s.cls.length:Int),score)]) (lg++[(false,k)]) (since+1) least (w+1+1+1):=by
  have:=L9.learn hkL hLk.nd (by rw[hdbE];exact hLk.conf) (score:=score)
  rwa [g3]at this
 have z1:=L9.z1;have z2:=L9.z2;obtain⟨h9,xs9,xl9,xg9,conf9,bump9,most9,sv9,ws9,k1,kp,kh,kq,km,ks,ksl,kl,kg,ka⟩:=E9;have hwat:∀w'∈(s.back b a).wat,w'.length+10<=8700000000000:=fun w' hw'=>by
  have:=y6j_ hw';omega
 repeat' with_reducible first|refine W.bind ?_|refine W.asV ?_|refine W.fldp ?_|refine W.nck ?_|refine W.u0 ?_
 refine W.mono (yax_ (n:=n) kp HH.tn L9.si.ti.len hn4 hk (by
  rw[List.all_eq_true];exact fun l hl=>y6r_ (hkL l hl) hn4) (by omega) (by omega) (by omega) hwat) fun r hr=>?_
 have hgood:y2e_ n k=false:=by
  unfold y2e_;rw[y9e_ hLk.nd];simp only[Bool.not_true,Bool.false_or,List.any_eq_false];intro l hl;simp[hkL l (y8_.1 hl)]
 obtain⟨r,τ10⟩:=r;obtain⟨T10,h10,H10,hr⟩:=hr;rcases hr with ⟨q,_⟩|⟨_,er,kp⟩
 ·rw[hgood]at q;cases q
 dsimp only at H10 er kp⊢;subst er;rw[yfe_]at kp;replace HH:=HH.trans H10.pe;replace hk:=hk.hop H10;replace kh:=kh.hopP H10;replace kq:=kq.hop H10;replace ka:=ka.hop H10;replace k1:=k1.hop H10;replace ks:=ks.hop H10;replace kl:=kl.hop H10;replace kg:=kg.hop H10;replace hn:=H10.tn;refine W.bind ?_;refine W.condT rfl ?_;rw[g3];have z3:=L9.z3;have z4:=L9.z4;have hwl:=ka.1
 repeat' with_reducible first|refine W.asV ?_|refine W.fldp ?_|refine W.nck ?_|refine W.u0 ?_
 refine W.own_push (bytes:=16) y83_ kl HH.tn (a:=((s.cls.length:Int),score)) rfl (by omega) (by omega) fun x2 τ11 T11 kl H11=>?_;replace HH:=HH.trans H11.oe;replace hk:=hk.hop H11;replace kp:=kp.hopO H11;replace kh:=kh.hopB H11;replace kq:=kq.hop H11;replace ka:=ka.hop H11;replace k1:=k1.hop H11;replace ks:=ks.hop H11;replace kg:=kg.hop H11;replace hn:=H11.tn
 repeat' with_reducible first|refine W.fldp ?_|refine W.nck ?_|refine W.u4 ?_
 refine W.stT k1 hn (kc_ (by rfl)) fun τ12 H12 k1 hnτ12=>?_;replace HH:=HH.trans H12.oe;replace hk:=hk.hop H12;replace kp:=kp.hopO H12;replace kh:=kh.hopB H12;replace kq:=kq.hop H12;replace ka:=ka.hop H12;replace ks:=ks.hop H12;replace kl:=kl.hop H12;replace kg:=kg.hop H12;replace hn:=H12.tn;have hku:=hk.up
 repeat' with_reducible first|refine W.ret ?_|refine W.asV ?_|refine W.fldp ?_|refine W.scalS (by assumption) ?_|refine W.nck ?_|refine W.u0 ?_
 refine W.own_push (bytes:=32) y4l_ kg HH.tn (a:=(false,y)) rfl (by omega) (by omega) fun x3 τ13 T13 kg H13=>?_;replace HH:=HH.trans H13.oe;replace hk:=hk.hop H13;replace kp:=kp.hopO H13;replace kh:=kh.hopB H13;replace kq:=kq.hop H13;replace ka:=ka.hop H13;replace k1:=k1.hop H13;replace ks:=ks.hop H13;replace kl:=kl.hop H13;replace hn:=H13.tn
 repeat' with_reducible first|refine W.fldp ?_|refine W.nck ?_|refine W.u4 ?_
 refine W.stT k1 hn (kc_ (by rfl)) fun τ14 H14 k1 hnτ14=>?_;replace HH:=HH.trans H14.oe;replace hk:=hk.hop H14;replace kp:=kp.hopO H14;replace kh:=kh.hopB H14;replace kq:=kq.hop H14;replace ka:=ka.hop H14;replace ks:=ks.hop H14;replace kl:=kl.hop H14;replace kg:=kg.hop H14;replace hn:=H14.tn
 repeat' with_reducible first|refine W.bind ?_|refine W.asV ?_|refine W.fldp ?_|refine W.nck ?_|refine W.u0 ?_
 refine W.mono (yge_ kq HH.tn (by omega)) fun r hr=>?_;obtain⟨rb,τ15⟩:=r;obtain⟨since',least',H15,kq,hcase⟩:=hr;dsimp only at H15 kq hcase⊢;replace HH:=HH.trans H15.oe;have E15:EnX τ15 T13 e n ((s.back b a).addC (normL k)) hs9 (ln++[((s.cls.length:Int),score)]) (lg++[(false,k)]) since' least':=⟨_,_,_,_,_,_,_,_,_,k1.hop H15,kp.hopO H15,kh.hopB H15,kq,km,ks.hop H15,ksl,kl.hop H15,kg.hop H15,(ka.push hk).hop H15⟩;rcases hcase with ⟨er,es,el⟩|⟨er,hls,es,el⟩
 ·subst er es el
  refine W.bind ?_;refine W.condF rfl ?_
  repeat' with_reducible refine W.ret ?_
  exact⟨rfl,T13,_,hs9,_,_,_,_,HH,E15,hL10.more (by omega),.inl ⟨rfl,rfl,b,a,k,hma,rfl,hRdy⟩,k,⟨hkn,hkL⟩,[],by simp,by simp,by simp⟩
 ·subst er es el
  refine W.bind ?_;refine W.condT rfl ?_;have hL15:EnL gl n C ((s.back b a).addC (normL k)) hs9 (ln++[((s.cls.length:Int),score)]) (lg++[(false,k)]) 0 (least+8) (w+1+1+1):=hL10.pace (by omega) (by omega);refine W.bind ?_;refine W.mono (yeo_ E15 HH.tn hL15 hn4 (by omega)) fun r hr=>?_;obtain⟨r,τ16⟩:=r;obtain⟨T16,s16,hs16,ln16,lg16,H16,E16,L16,hm16,hX16⟩:=hr
  repeat' with_reducible refine W.ret ?_
  exact⟨rfl,T16,s16,hs16,ln16,lg16,_,_,HH.trans H16,E16,L16,.inr ⟨hm16,rfl,rfl,hls⟩,k,⟨hkn,hkL⟩,by rw[List.length_append]at hX16;exact hX16⟩
end
end
section
open Go
theorem yg1_{α:Type}[BEq α][LawfulBEq α]:∀{xs ys:List α},xs.Nodup->(∀x∈xs,x∈ys)->xs.length<=ys.length
 |[],ys,_,_=>by simp
 |a::t,ys,hn,h=>by
  obtain⟨h1,h2⟩:=List.nodup_cons.1 hn;have:=yg1_ (xs:=t) (ys:=ys.erase a) h2 fun x hx=>(List.mem_erase_of_ne (show x≠a from fun e=>h1 (by rw[<-e];exact hx))).2 (h x (by simp[hx]));have h3:=List.length_erase_of_mem (h a (by simp));have h4:=List.length_pos_of_mem (h a (by simp));simp;omega
theorem W.mk0T{α R:Type}{Q:R->Prop}{v:Vw α}(t:Nat){σ:Heap}{T:Tg}(hn:Tn σ T){n bytes sz:Nat}{z:List AVal}(hsz:sz=v.sz)(hb:n*bytes<=70368744177664)(hb':n<=70368744177664){K:AVal->Heap->Option R}
  (c:∀x τ T',Hop (only t) σ T τ T'->Own v (τ.at T' t) [] x->W (K x τ) Q):W (mkS σ sz bytes z 0 (n:Int) K) Q:=by
 subst hsz;have e:mkS σ v.sz bytes z 0 (n:Int) K=K (.sl σ.next 0 0 none) (σ.new (.cells .rw v.sz (rep n z))):=by
  simp only[mkS,newK];rw[if_pos ⟨by omega,by omega,by omega,by omega⟩,Int.toNat_natCast];rfl
 refine W.to e (c _ _ (T.upd σ.next t) (y28_ hn) (.inr ⟨σ.next,0,none,_,rfl,Nat.lt_succ_self _,at_of y10_ (by rw[yj_,if_pos rfl]),(fun k e=>by cases e),by simp,fun i b hi=>by simp at hi⟩))
section
variable{σ τ:Heap}{T T':Tg}{e:EnP}{n k id:Nat}{s:PS}{hs:List Int}{ln:List (Int×Int)}{lg:List (Bool×List Int)}{since least:Int}{h:PH}{xs xl xg x:AVal}{conf bump most:Int}{sv o c A core:List Int}{ws:List (Bool×AVal)}{gl f:Bool}{C:List (List Int)}{w:Nat}
theorem ycd_(E:EnX σ T e n s hs ln lg since least)(hn:Tn σ T)(L:EnL gl n C s hs ln lg since least w)(hw:w<=860000000000)(hc:SlV .int (σ.at T 0) core x)(hcl:core.length<=100000)(hcb:∀l∈core,inB l=true)(hC:Conf s.db core) :
  W (S.z108 (.ptr e.le 0) x σ) fun r=>∃T',Hop eI σ T r.2 T'/\r.1=.agg [.bool false,.nils,x]/\EnX r.2 T' e n s hs ln (lg++[(false,negs core)]) since least/\EnL gl n C s hs ln (lg++[(false,negs core)]) since least (w+1):=by
 have L':=L.final hC;have z4:=L.z4;obtain⟨h,xs,xl,xg,conf,bump,most,sv,ws,E⟩:=E;have hcu:=hc.up;unfold S.z108;refine W.newT 35 hn fun l1 τ1 T1 hl1 H1 k35 hnτ1=>?_;have HH:Hop eI σ T τ1 T1:=H1.oe;replace E:=E.hopE H1;replace hc:=hc.hop H1
 repeat' (with_reducible refine W.len (by assumption) ?_)
 refine W.mk0T (v:=.int) 28 HH.tn rfl (by omega) (by omega) fun y τ2 T2 H2 k28=>?_;replace HH:=HH.trans H2.oe;replace E:=E.hopE H2;replace hc:=hc.hop H2;replace k35:=k35.hop H2
 repeat' with_reducible first|refine W.bind ?_|refine W.len (by assumption) ?_
 refine W.mono (P:=fun r=>∃T',Hop (only 28) τ2 T2 r.2 T'/\Own .int (r.2.at T' 28) (negs core) r.1) ?_ fun r hr=>?_
 ·refine W.loop core.length (fun i (z:AVal×Int) τ=>z.2=(i:Int)/\∃T',Hop (only 28) τ2 T2 τ T'/\SlV .int (τ.at T' 0) core x/\Own .int (τ.at T' 28) (negs (core.take i)) z.1) ⟨rfl,T2,Hop.refl HH.tn,hc,k28⟩ fun i z τ3 hi hI2=>?_
  obtain⟨z,zi⟩:=z;obtain⟨hz,T3,H3,hc,k28⟩:=hI2;dsimp only at hz k28;subst hz;have wr:IntKind.i64.wrap ((i:Int)+1)=((i+1:Nat):Int):=by rw[wrapS]<;>omega
  unfold S.z108.b0
  (with_reducible refine W.cnd (fun hlt=>?_) (fun hlt=>?_)<;>(try simp only[qq,Kd.ty]at hlt)<;>(try (exfalso;omega)))
  ·obtain⟨a,ha⟩:=y3_ (xs:=core) (i:=i) (by omega)
   have hab:=hcb a (ka_ ha);simp only[inB,Bool.and_eq_true,decide_eq_true_eq]at hab;have wa:IntKind.i64.wrap (0-a) = -a:=by rw[wrapS]<;>omega
   have hcu:=hc.up
   repeat' (with_reducible refine W.e2 ?_)
   rw[wa];refine W.own_push (bytes:=8) Vw.int_flat k28 H3.tn (a:=-a) rfl (by simp;omega) (by simp;omega) fun x2 τ4 T4 k28 H4=>?_
   repeat' (with_reducible refine W.next ?_)
   have htk:core.take (i+1)=core.take i++[a]:=by rw[kk_,ha];rfl
   refine⟨by omega,wr,T4,H3.trans H4,hc.hop H4,?_⟩;rw[htk,show negs (core.take i++[a])=negs (core.take i)++[-a] by simp[negs]];exact k28
  ·repeat' (with_reducible refine W.stop ?_)
   rw[ki_ (by omega)]at k28;exact⟨T3,H3,k28⟩
 ·obtain⟨y2,τ3⟩:=r
  obtain⟨T3,H3,k28⟩:=hr;dsimp only at H3 k28⊢;replace HH:=HH.trans H3.oe;replace E:=E.hopE H3;replace hc:=hc.hop H3;replace k35:=k35.hop H3;obtain⟨T4,H4,k0⟩:=k28.retag (u:=0) Vw.int_flat HH.tn;replace HH:=HH.trans H4.oe;obtain⟨k1,kp,kh,kq,km,ks,ksl,kl,kg,ka⟩:=E.hopE H4;replace hc:=hc.hop H4;replace k35:=k35.hop H4;replace k0:=k0.sl;have k0u:=k0.up;have hwl:=ka.1
  repeat' with_reducible first|refine W.asV ?_|refine W.fldp ?_|refine W.scalS (by assumption) ?_|refine W.nck ?_|refine W.u0 ?_
  refine W.own_push (bytes:=32) y4l_ kg HH.tn (a:=(false,y2)) rfl (by omega) (by omega) fun x3 τ5 T5 kg H5=>?_;replace HH:=HH.trans H5.oe;replace hc:=hc.hop H5;replace k0:=k0.hop H5;replace k35:=k35.hop H5;replace kp:=kp.hopO H5;replace kh:=kh.hopB H5;replace kq:=kq.hop H5;replace ka:=ka.hop H5;replace k1:=k1.hop H5;replace ks:=ks.hop H5;replace kl:=kl.hop H5;replace hn:=H5.tn
  repeat' with_reducible first|refine W.fldp ?_|refine W.nck ?_|refine W.u4 ?_
  refine W.stT k1 hn (kc_ (by rfl)) fun τ6 H6 k1 hnτ6=>?_;replace HH:=HH.trans H6.oe;replace hc:=hc.hop H6;replace k0:=k0.hop H6;replace k35:=k35.hop H6;replace kp:=kp.hopO H6;replace kh:=kh.hopB H6;replace kq:=kq.hop H6;replace ka:=ka.hop H6;replace ks:=ks.hop H6;replace kl:=kl.hop H6;replace kg:=kg.hop H6;replace hn:=H6.tn;have hcu:=hc.up
  repeat' (with_reducible refine W.scalS (by assumption) ?_)
  have hn:=HH.tn;refine W.stT k35 hn (kc_ (by rfl)) fun τ7 H7 k35 hnτ7=>?_
  repeat' with_reducible first|refine W.ret ?_|refine W.u1 ?_
  exact⟨T5,HH.trans H7.oe,rfl,⟨_,_,_,_,_,_,_,_,_,EnH.hopE ⟨k1,kp,kh,kq,km,ks,ksl,kl,kg,ka.push k0⟩ H7⟩,L'⟩
theorem yfw_(E:EnX σ T e n s hs ln lg since least)(hn:Tn σ T)(L:EnL gl n C s hs ln lg since least w)(hn4:n<=4000)(hA:AsI s A)(hc:SlV .int (σ.at T 0) A x)(hAl:A.length<=100000)(hAL:∀l∈A,isL l n=true) :
    W (S.z105 (.ptr e.le 0) x σ) fun r=>∃T',Hop eI σ T r.2 T' /\
      ((∃l∈A,r.1=(true,.nils)/\val s.vs l=0/\isL l n=true/\AsI (s.dec l) A/\EnX r.2 T' e n (s.dec l) hs ln lg since least) \/
       (∃core y,r.1=(false,y)/\SlV .int (r.2.at T' 0) core y/\core≠[]/\(∀l∈core,l∈A)/\Conf s.db core/\core.length<=n+1/\EnX r.2 T' e n s hs ln lg since least) \/
       (r.1=(false,.nils)/\(∀l∈A,l∈s.trail)/\EnX r.2 T' e n s hs ln lg since least)):=by
  have ht:=L.si.ti;have hcu:=hc.up;unfold S.z105
  repeat' with_reducible first|refine W.bind ?_|refine W.len (by assumption) ?_
  refine W.mono (P:=fun(r:(Unit⊕(Bool×AVal))×Heap)=>∃T',Hop eI σ T r.2 T' /\
      ((∃l∈A,r.1=.inr (true,.nils)/\val s.vs l=0/\isL l n=true/\AsI (s.dec l) A/\EnX r.2 T' e n (s.dec l) hs ln lg since least) \/
       (∃core y,r.1=.inr (false,y)/\SlV .int (r.2.at T' 0) core y/\core≠[]/\(∀l∈core,l∈A)/\Conf s.db core/\core.length<=n+1/\EnX r.2 T' e n s hs ln lg since least) \/
       (r.1=.inl ()/\(∀l∈A,l∈s.trail)/\EnX r.2 T' e n s hs ln lg since least))) ?_ fun r hr=>?_
  · refine W.loop A.length (fun i (z:Int) τ=>z=(i:Int)/\τ=σ/\∀(j:Nat) l,j<i->A[j]?=some l->l∈s.trail) ⟨rfl,rfl,fun j l hj=>by omega⟩ fun i z τ hi hI2=>?_
    obtain⟨rfl,rfl,hall⟩:=hI2;have wr:IntKind.i64.wrap ((i:Int)+1)=((i+1:Nat):Int):=by rw[wrapS]<;>omega
    unfold S.z105.b0
    (with_reducible refine W.cnd (fun hlt=>?_) (fun hlt=>?_)<;>(try simp only[qq,Kd.ty]at hlt)<;>(try (exfalso;omega)))
    · obtain ⟨a,ha⟩:=y3_ (xs:=A) (i:=i) (by omega)
      have haA:=ka_ ha;have haL:=hAL a haA;have hE:=E;obtain⟨h,xs,xl,xg,conf,bump,most,sv,ws,E⟩:=E;have E0:=E;obtain⟨k1,kp,kh,kq,km,ks,ksl,kl,kg,ka⟩:=E
      repeat' with_reducible first|refine W.bind ?_|refine W.asV ?_|refine W.fldp ?_|refine W.e2 ?_|refine W.nck ?_|refine W.u0 ?_
      refine W.to (y1y_ kp ht hn4 haL) ?_
      repeat' with_reducible refine W.ret ?_
      by_cases hv0:val s.vs a=0
      · refine W.condT (by simp[hv0]) ?_
        repeat' with_reducible first|refine W.bind ?_|refine W.asV ?_|refine W.fldp ?_|refine W.nck ?_|refine W.u0 ?_
        refine W.mono (y8b_ kp hn ht hn4 haL hv0) fun r hr=>?_;obtain⟨b,τ1⟩:=r;obtain⟨_,T1,h1,H1,kp⟩:=hr;dsimp only at H1 kp⊢
        repeat' (with_reducible refine W.stop ?_)
        exact⟨T1,H1.pe,.inl ⟨a,haA,rfl,hv0,haL,(hA.decA ht haL hv0 haA).1,_,_,_,_,_,_,_,_,_,k1.hop H1,kp,kh.hopP H1,kq.hop H1,km,ks.hop H1,ksl,kl.hop H1,kg.hop H1,ka.hop H1⟩⟩
      · refine W.condF (by simp[hv0]) ?_
        by_cases hv2:val s.vs a=2
        · refine W.condT (by simp[hv2]) ?_
          repeat' with_reducible first|refine W.bind ?_|refine W.asV ?_|refine W.fldp ?_|refine W.nck ?_|refine W.u0 ?_
          refine W.mono (yj9_ kp hn ht L.si.ci hn4 haL hv2) fun r hr=>?_;obtain⟨y,τ1⟩:=r;obtain⟨T1,ds,H1,k20,hds,hD,hdl⟩:=hr;dsimp only at H1 k20⊢;refine W.own_push (bytes:=8) Vw.int_flat k20 H1.tn (a:=a) rfl (by omega) (by omega) fun x2 τ2 T2 k20 H2=>?_
          repeat' (with_reducible refine W.stop ?_)
          obtain⟨T3,H3,k0⟩:=k20.retag (u:=0) Vw.int_flat H2.tn;refine⟨T3,(H1.te.trans H2.oe).trans H3.oe,.inr (.inl ⟨ds++[a],x2,rfl,k0.sl,by simp,fun l hl=>?_,.inl ⟨a,.start (by simp),hD.mono (fun c hc=>⟨c,hc,fun v=>Iff.rfl⟩) fun l hl=>by simp[hl]⟩,by simp;omega,_,_,_,_,_,_,_,_,_,((E0.hopT H1).hopE H2).hopE H3⟩)⟩;rcases kh_.1 hl with q|q
          · obtain⟨g1,g2⟩:=hds l q
            obtain⟨i',hi'⟩:=ya_ g1;obtain⟨kk,a1,a2,a3⟩:=hA;have hkk:kk=s.marks.length:=Decidable.byContradiction fun hne=>by
              have:=(a3 (by omega) a haA).1;exact ht.notBoth this (ht.neg.1 hv2)
            rcases ht.rs i' l hi' with ⟨_,k',b1,b2⟩|⟨id,c,f,b1,_⟩
            · exact a2 k' i' l (by have:=y2_ b2;omega) b2 hi'
            · omega
          · rw[kj_.1 q];exact haA
        · refine W.condF (by simp[hv2]) ?_
          repeat' (with_reducible refine W.next ?_)
          have:=y2y_ ht.ok a;refine⟨by omega,wr,rfl,fun j l hj hl=>?_⟩;by_cases ej:j=i
          · subst ej;rw[ha]at hl;cases hl;exact(ht.tr a).1 (by omega)
          · exact hall j l (by omega) hl
    · repeat' (with_reducible refine W.stop ?_)
      exact⟨T,Hop.refl hn,.inr (.inr ⟨rfl,fun l hl=>by
        obtain⟨j,hj⟩:=ya_ hl;exact hall j l (by have:=y2_ hj;omega) hj,E⟩)⟩
  · obtain⟨r,τ1⟩:=r
    obtain⟨T1,H1,hr⟩:=hr;rcases hr with ⟨l,hl,er,g⟩|⟨core,y,er,g⟩|⟨er,g⟩
    · dsimp only at er⊢
      subst er
      repeat' with_reducible refine W.ret ?_
      exact⟨T1,H1,.inl ⟨l,hl,rfl,g⟩⟩
    · dsimp only at er⊢
      subst er
      repeat' with_reducible refine W.ret ?_
      exact⟨T1,H1,.inr (.inl ⟨core,y,rfl,g⟩)⟩
    · dsimp only at er⊢
      subst er
      repeat' with_reducible refine W.ret ?_
      exact⟨T1,H1,.inr (.inr ⟨rfl,g⟩)⟩
theorem yf7_(E:EnX σ T e n s hs ln lg since least)(hn:Tn σ T)(L:EnL gl n C s hs ln lg since least w)(hn4:n<=4000) :
    W (S.z109 (.ptr e.le 0) σ) fun r=>∃T' hs',Hop eI σ T r.2 T' /\
      ((r.1=true/\∃l,val s.vs l=0/\isL l n=true/\EnX r.2 T' e n (s.dec l) hs' ln lg since least/\∀v:Nat,1<=v->v<=n->val s.vs v=0->v≠l.natAbs->(v:Int)∈hs') \/
       (r.1=false/\(∀l,isL l n=true->val s.vs l≠0)/\EnX r.2 T' e n s hs' ln lg since least)):=by
  have ht:=L.si.ti;unfold S.z109;refine W.bind ?_;refine W.mono (P:=fun(r:(Unit⊕Bool)×Heap)=>∃T' hs',Hop eI σ T r.2 T' /\
      ((r.1=.inr true/\∃l,val s.vs l=0/\isL l n=true/\EnX r.2 T' e n (s.dec l) hs' ln lg since least/\∀v:Nat,1<=v->v<=n->val s.vs v=0->v≠l.natAbs->(v:Int)∈hs') \/
       (r.1=.inl ()/\(∀l,isL l n=true->val s.vs l≠0)/\EnX r.2 T' e n s hs' ln lg since least))) ?_ fun r hr=>?_
  · refine W.loopI (m:=hs.length) (fun m (_:Unit) τ=>∃(T':Tg) (hs':List Int),Hop eI σ T τ T'/\EnX τ T' e n s hs' ln lg since least/\hs'.length=m/\∀v:Nat,1<=v->v<=n->val s.vs v=0->(v:Int)∈hs') ⟨T,hs,Hop.refl hn,E,rfl,L.hp⟩ fun m _ τ hI2=>?_
    obtain⟨T1,hs1,HH,E,hm,hcov⟩:=hI2;obtain⟨h,xs,xl,xg,conf,bump,most,sv,ws,k1,kp,kh,kq,km,ks,ksl,kl,kg,ka⟩:=E;unfold S.z109.b0
    repeat' with_reducible first|refine W.bind ?_|refine W.asV ?_|refine W.fldp ?_|refine W.nck ?_|refine W.u0 ?_
    refine W.to (ydw_ kh) ?_
    repeat' with_reducible refine W.ret ?_
    (with_reducible refine W.cnd (fun hpos=>?_) (fun hpos=>?_)<;>(try simp only[qq,Kd.ty]at hpos)<;>(try (exfalso;omega)))
    · have hne:hs1≠[]:=fun q=>by rw[q]at hpos;simp at hpos
      repeat' with_reducible first|refine W.bind ?_|refine W.asV ?_|refine W.fldp ?_|refine W.nck ?_|refine W.u0 ?_
      refine W.mono (tie_w kq HH.tn) fun r hr=>?_;obtain⟨tie,τ2⟩:=r;obtain⟨H2,kq⟩:=hr;dsimp only at H2 kq⊢;replace HH:=HH.trans H2.oe;replace kp:=kp.hopO H2;replace kh:=kh.hopB H2;replace ka:=ka.hop H2;replace k1:=k1.hop H2;replace ks:=ks.hop H2;replace kl:=kl.hop H2;replace kg:=kg.hop H2;replace hn:=H2.tn
      repeat' with_reducible first|refine W.bind ?_|refine W.asV ?_|refine W.chk rfl ?_|refine W.u0 ?_
      refine W.mono (yfz_ kh HH.tn hn4 hne) fun r hr=>?_;obtain⟨r,τ3⟩:=r;obtain⟨v,er,hvm,T3,hs3,H3,kh3,hm3⟩:=hr;dsimp only at er H3 kh3⊢;subst er;have hvr:=kh.rng hvm;have hvL:isL (v:Int) n=true:=yh_.2 ⟨by omega,by omega,by omega⟩;have hlen3:hs3.length<hs1.length:=by
        have hnd:hs3.Nodup:=by
          obtain⟨_,_,_,_,_,_,H,_⟩:=kh3;exact H.nod
        have hsub:∀x∈(v:Int)::hs3,x∈hs1:=fun x hx=>by
          rcases List.mem_cons.1 hx with q|q
          · rw[q];exact hvm
          · exact((hm3 x).1 q).1
        have hnd2:((v:Int)::hs3).Nodup:=List.nodup_cons.2 ⟨fun q=>((hm3 _).1 q).2 rfl,hnd⟩;have:=yg1_ hnd2 hsub;simp at this;omega
      replace HH:=HH.trans H3.hbe;replace kp:=kp.hopHB H3;replace kq:=kq.hop H3;replace ka:=ka.hop H3;replace k1:=k1.hop H3;replace ks:=ks.hop H3;replace kl:=kl.hop H3;replace kg:=kg.hop H3;replace hn:=H3.tn
      repeat' with_reducible first|refine W.bind ?_|refine W.asV ?_|refine W.fldp ?_|refine W.nck ?_|refine W.u0 ?_
      refine W.to (y1y_ kp ht hn4 hvL) ?_
      repeat' with_reducible refine W.ret ?_
      have hcov3:∀u:Nat,1<=u->u<=n->val s.vs u=0->u≠v->(u:Int)∈hs3:=fun u h1 h2 h3 h4=>(hm3 _).2 ⟨hcov u h1 h2 h3,fun q=>h4 (Int.ofNat.inj q)⟩;by_cases hv0:val s.vs v=0
      · refine W.condF (by simp[hv0]) ?_
        obtain⟨sa,hsa⟩:=y3_ (xs:=sv) (i:=v) (by omega)
        repeat' with_reducible first|refine W.bind ?_|refine W.asV ?_|refine W.fldp ?_|refine W.nck ?_|refine W.u0 ?_|refine W.u2 ?_
        refine W.mono (yjs_ kq HH.tn) fun r hr=>?_;obtain⟨sb,τ4⟩:=r;obtain⟨H4,kq⟩:=hr;dsimp only at H4 kq⊢;replace HH:=HH.trans H4.oe;replace kp:=kp.hopO H4;replace kh3:=kh3.hopB H4;replace ka:=ka.hop H4;replace k1:=k1.hop H4;replace ks:=ks.hop H4;replace kl:=kl.hop H4;replace kg:=kg.hop H4;replace hn:=H4.tn;have wn:IntKind.i64.wrap (0-(v:Int)) = -(v:Int):=by rw[wrapS]<;>omega
        cases sb with
        | true=>
          refine W.condT rfl ?_
          repeat' with_reducible first|refine W.bind ?_|refine W.asV ?_|refine W.fldp ?_|refine W.nck ?_|refine W.u0 ?_
          refine W.mono (y8b_ kp HH.tn ht hn4 hvL hv0) fun r hr=>?_;obtain⟨b,τ5⟩:=r;obtain⟨eb,T5,h5,H5,kp⟩:=hr;dsimp only at eb H5 kp⊢;subst eb
          repeat' (with_reducible refine W.stop ?_)
          exact⟨T5,hs3,HH.trans H5.pe,.inl ⟨rfl,v,hv0,hvL,⟨_,_,_,_,_,_,_,_,_,k1.hop H5,kp,kh3.hopP H5,kq.hop H5,km,ks.hop H5,ksl,kl.hop H5,kg.hop H5,ka.hop H5⟩,fun u h1 h2 h3 h4=>hcov3 u h1 h2 h3 (by simpa using h4)⟩⟩
        | false=>
          have hvL':=y74_ hvL;have hv0':val s.vs (-(v:Int))=0:=by rw[y52_ ht.ok,if_pos hv0]
          refine W.condF rfl ?_
          repeat' with_reducible first|refine W.bind ?_|refine W.asV ?_|refine W.fldp ?_|refine W.nck ?_|refine W.u0 ?_
          rw[wn];refine W.mono (y8b_ kp HH.tn ht hn4 hvL' hv0') fun r hr=>?_;obtain⟨b,τ5⟩:=r;obtain⟨eb,T5,h5,H5,kp⟩:=hr;dsimp only at eb H5 kp⊢;subst eb
          repeat' (with_reducible refine W.stop ?_)
          exact⟨T5,hs3,HH.trans H5.pe,.inl ⟨rfl,-(v:Int),hv0',hvL',⟨_,_,_,_,_,_,_,_,_,k1.hop H5,kp,kh3.hopP H5,kq.hop H5,km,ks.hop H5,ksl,kl.hop H5,kg.hop H5,ka.hop H5⟩,fun u h1 h2 h3 h4=>hcov3 u h1 h2 h3 (by simpa using h4)⟩⟩
      · refine W.condT (by simp[hv0]) ?_
        repeat' (with_reducible refine W.next ?_)
        exact⟨hs3.length,by omega,T3,hs3,HH,⟨_,_,_,_,_,_,_,_,_,k1,kp,kh3,kq,km,ks,ksl,kl,kg,ka⟩,rfl,fun u h1 h2 h3=>hcov3 u h1 h2 h3 fun q=>hv0 (by rw[<-q];exact h3)⟩
    · have hnil:hs1=[]:=km_ (by omega)
      repeat' (with_reducible refine W.stop ?_)
      refine⟨T1,hs1,HH,.inr ⟨rfl,fun l hl hv=>?_,_,_,_,_,_,_,_,_,_,k1,kp,kh,kq,km,ks,ksl,kl,kg,ka⟩⟩;have h0:=yc_ hl;have hv':val s.vs (l.natAbs:Int)=0:=by
        rcases Int.natAbs_eq l with q|q
        · rw[<-q];exact hv
        · have:(l.natAbs:Int) = -l:=by omega
          rw[this,y52_ ht.ok,if_pos hv]
      have:=hcov l.natAbs (by omega) h0.2 hv';rw[hnil]at this;cases this
  · obtain⟨r,τ1⟩:=r
    obtain⟨T1,hs1,H1,hr⟩:=hr;rcases hr with ⟨er,g⟩|⟨er,g⟩
    · dsimp only at er⊢
      subst er
      repeat' with_reducible refine W.ret ?_
      exact⟨T1,hs1,H1,.inl ⟨rfl,g⟩⟩
    · dsimp only at er⊢
      subst er
      repeat' with_reducible refine W.ret ?_
      exact⟨T1,hs1,H1,.inr ⟨rfl,g⟩⟩
theorem yf1_(E:EnX σ T e n s hs ln lg since least)(hn:Tn σ T)(L:EnL gl n C s hs ln lg since least w)(hn4:n<=4000) :
  W (S.z111 (.ptr e.le 0) σ) fun r=>∃T' M,Hop eI σ T r.2 T'/\EnX r.2 T' e n s hs ln lg since least/\SlV .bool (r.2.at T' 0) M r.1/\M.length=n+1/\∀v:Nat,v<=n->M[v]?=some (val s.vs v==1):=by
 have ht:=L.si.ti;obtain⟨h,xs,xl,xg,conf,bump,most,sv,ws,E⟩:=E;have k1:=E.obj;have w1:IntKind.i64.wrap ((n:Int)+1)=((n+1:Nat):Int):=by rw[wrapS]<;>omega
 unfold S.z111
 repeat' with_reducible first|refine W.bind ?_|refine W.asV ?_|refine W.fldp ?_|refine W.nck ?_|refine W.u0 ?_
 refine W.to (y3e_ E.prop ht.len.vs hn4) ?_
 repeat' with_reducible refine W.ret ?_
 rw[w1];refine W.mkT (v:=Vw.bool) 28 hn false rfl (fun _=>rfl) (n:=n+1) (by omega) (by omega) rfl fun y τ1 T1 H1 k28 _=>?_;replace E:=E.hopE H1
 repeat' with_reducible first|refine W.bind ?_|refine W.u3 ?_
 refine W.mono (P:=fun r=>∃M,Hop (only 28) τ1 T1 r.2 T1/\Own .bool (r.2.at T1 28) M y/\M.length=n+1/\∀v:Nat,v<=n->M[v]?=some (val s.vs v==1)) ?_ fun r hr=>?_
 ·refine W.loop (n+1) (fun i (z:Int) τ=>z=(i:Int)/\∃M,Hop (only 28) τ1 T1 τ T1/\EnH τ T1 e n s hs ln lg since least h xs xl xg conf bump most sv ws/\Own .bool (τ.at T1 28) M y/\M.length=n+1/\∀v:Nat,v<i->M[v]?=some (val s.vs v==1)) ⟨rfl,_,Hop.refl H1.tn,E,k28,by simp,fun v hv=>by omega⟩ fun i z τ2 hi hI2=>?_
  obtain⟨rfl,M,H2,E,k28,hM,hall⟩:=hI2;have wr:IntKind.i64.wrap ((i:Int)+1)=((i+1:Nat):Int):=by rw[wrapS]<;>omega
  have k1:=E.obj;unfold S.z111.b0;simp only[List.length_replicate]
  (with_reducible refine W.cnd (fun hlt=>?_) (fun hlt=>?_)<;>(try simp only[qq,Kd.ty]at hlt)<;>(try (exfalso;omega)))
  ·have hV:S.z75 (.ptr e.lp 0) (i:Int) τ2=some (val s.vs (i:Int)):=by
    by_cases h0:i=0
    ·obtain⟨r,er,rfl⟩:W (S.z75 (.ptr e.lp 0) ((i:Nat):Int) τ2) fun r=>r=val s.vs (i:Int):=by
      have k2:=E.prop.obj;unfold S.z75
      repeat' with_reducible first|refine W.bind ?_|refine W.asV ?_|refine W.fldp ?_|refine W.nck ?_|refine W.u0 ?_
      refine W.to (y7v_ E.prop.asgv ht.ok (by have:=ht.len.vs;omega) (by have:=ht.len.vs;omega) (by simp[inB];omega)) ?_
      repeat' with_reducible refine W.ret ?_
      rfl
     exact er
    ·exact y1y_ E.prop ht hn4 (yh_.2 ⟨by omega,by omega,by omega⟩)
   repeat' with_reducible first|refine W.bind ?_|refine W.asV ?_|refine W.fldp ?_|refine W.nck ?_|refine W.u0 ?_
   refine W.to hV ?_
   repeat' with_reducible refine W.ret ?_
   refine W.ixO k28.slT (i:=i) (by omega) ?_;refine W.own_setB k28 H2.tn (by omega) fun τ3 k28 H3 _=>?_
   repeat' (with_reducible refine W.next ?_)
   refine⟨by omega,wr,_,H2.trans H3,E.hopE H3,k28,by simp[hM],fun v hv=>?_⟩;rw[List.getElem?_set];by_cases ev:i=v
   ·subst ev;rw[if_pos rfl,if_pos (by omega)]
   ·rw[if_neg ev];exact hall v (by omega)
  ·repeat' (with_reducible refine W.stop ?_)
   exact⟨M,H2,k28,hM,fun v hv=>hall v (by omega)⟩
 ·obtain⟨r,τ2⟩:=r
  obtain⟨M,H2,k28,hM,hall⟩:=hr;dsimp only at H2 k28⊢;obtain⟨T3,H3,k0⟩:=k28.retag (u:=0) Vw.bool_flat H2.tn
  repeat' with_reducible refine W.ret ?_
  exact⟨T3,M,(H1.oe.trans H2.oe).trans H3.oe,⟨_,_,_,_,_,_,_,_,_,(E.hopE H2).hopE H3⟩,k0.sl,hM,hall⟩
end
end
section
open Go
section
variable{n k a b id:Nat}{s s':PS}{A C:List (List Int)}{l x:Int}{M:List Bool}{tt uu:Nat}{c d:List Int}{f:Bool}
theorem StI.dec(P:PrI n s)(hh:s.head=s.trail.length)(hl:isL l n=true)(hv:val s.vs l=0):StI n (s.dec l):=by
 obtain⟨h,e1,e2,e3,e4⟩:=P.hd;have eh:h=s.trail.length:=by omega
 subst eh;obtain⟨z1,z2⟩:=P.ti.zero.1 hv;have hlv:∀x∈s.trail,(s.dec l).lv x=s.lv x:=fun x hx=>by
  simp only[PS.lv,PS.dec,PS.setL];rw[getD_set' (by have:=P.ti.len.lev;have:=yc_ hl;omega),if_neg fun e=>?_];rcases Int.natAbs_eq_natAbs_iff.1 e with e|e
  ·exact z1 (e▸hx)
  ·exact z2 (e▸hx)
 have htr:(s.dec l).trail=s.trail++[l]:=rfl;refine⟨P.ti.dec hl hv,P.ci,⟨P.li.nd,P.li.fl,P.li.lf⟩,P.wi,P.wr,s.trail.length,e1,by rw[htr];simp,fun m hm=>?_,fun j d hd=>?_⟩
 ·have hm:m∈s.marks++[(s.trail.length:Int)]:=hm
  rcases kh_.1 hm with q|q
  ·exact e3 m q
  ·rw[kj_.1 q];exact Int.le_refl _
 ·have J:=e4 j d hd
  refine⟨J.ne,fun x hx=>?_,fun i x y hi hx hy ⟨q,hq1,hq2⟩=>?_⟩
  ·obtain⟨g1,g2⟩:=J.one x hx
   exact⟨by rw[htr];simp[g1],by rw[hlv x g1];exact g2⟩
  ·rw[htr,kg_ hq1]at hq2
   obtain⟨g1,g2⟩:=J.two i x y hi hx hy ⟨q,hq1,hq2⟩;have:=hlv _ (ka_ hq2);rw[PS.lv_neg,PS.lv_neg]at this;exact⟨by rw[htr];simp[g1],by rw[hlv y g1,this];exact g2⟩
theorem y5u_(ht:TrI n s){j:Nat}(hj:s.trail.length<=j):(j:Int)∉s.marks:=fun hm=>by
 obtain⟨i,hi⟩:=ya_ hm;obtain⟨a,e,⟨w,g1,_⟩,_⟩:=ht.mks i _ hi;have:=y2_ g1;omega
theorem y8k_(ht:TrI n s)(hm:s.marks[b]?=some (a:Int)):∀j:Nat,j<a->((j:Int)∈s.marks↔(j:Int)∈s.marks.take b):=fun j hj=>by
 refine⟨fun h=>?_,kr_⟩;obtain⟨i,hi⟩:=ya_ h;obtain⟨j',e,⟨w,g1,g2⟩,g3⟩:=ht.mks i _ hi;have e:j=j':=by omega
 subst e;obtain⟨a',e,_,g6⟩:=ht.mks b _ hm;have e:a=a':=by omega
 subst e;have:=g6 j w g1;have hib:i<b:=by omega
 exact ka_ (i:=i) (by rw[ke_ hib];exact hi)
def CdI(n:Nat)(s:PS)(tt uu:Nat):Prop:=(tt<=codeF n s.marks s.trail.length/\uu<=rkF n s.marks s.trail.length)\/((tt<=codeW n s.marks s.trail.length/\uu<=rkW n s.marks s.trail.length)/\∃id,s.loose=[((id:Nat):Int)]/\Ready s id)
theorem CdI.ext(h:CdI n s tt uu)(E:PEx s s')(ht:TrI n s)(ht':TrI n s'):tt<=codeW n s'.marks s'.trail.length/\uu<=rkW n s'.marks s'.trail.length:=by
 have hl:=E.lenT;have hn:=ht'.lenT;rw[E.mks];have h2:=ybz_ (n:=n) hl hn fun j hj=>y5u_ ht hj;rcases h with ⟨q,q2⟩|⟨⟨q,q2⟩,_⟩
 ·have:=y88_ (n:=n) (ms:=s.marks) hl
  have:=yce_ (n:=n) (ms:=s.marks) hl;unfold codeW rkW;omega
 ·refine⟨by omega,?_⟩
  by_cases e:s.trail.length=s'.trail.length
  ·rw[<-e];exact q2
  ·have:=yg7_ (n:=n) (show s.trail.length<s'.trail.length by omega) hn fun j hj=>y5u_ ht hj
   unfold rkW at q2 this⊢;omega
theorem CdI.fine(h:CdI n s tt uu)(E:PEx s s')(ht:TrI n s)(P:PrI n s')(hh:s'.head=s'.trail.length):tt<=codeF n s'.marks s'.trail.length/\uu<=rkF n s'.marks s'.trail.length:=by
 have hl:=E.lenT;have hn:=P.ti.lenT;rw[E.mks];have h2:=ybz_ (n:=n) hl hn fun j hj=>y5u_ ht hj;rcases h with ⟨q,q2⟩|⟨⟨q,q2⟩,id,_,c,f,hc,l,hlc,hv,hf,_⟩
 ·have:=y88_ (n:=n) (ms:=s.marks) hl
  have:=yce_ (n:=n) (ms:=s.marks) hl;omega
 ·obtain⟨c',f',hc',p⟩:=E.ceq.get hc
  have hm:=P.unit hh hc' (p.mem_iff.2 hlc) fun x hx hne=>by
   have:=hf x (p.mem_iff.1 hx) hne;exact P.ti.neg.2 (E.mem (ht.neg.1 this))
  have hlt:s.trail.length<s'.trail.length:=by
   refine Nat.lt_of_le_of_ne hl fun e=>?_;obtain⟨ex,he⟩:=E.tr;have:ex=[]:=by
    have:=congrArg List.length he;simp at this;exact km_ (by omega)
   rw[he,this,List.append_nil]at hm;exact(ht.zero.1 hv).1 hm
  have:=h2.2 hlt;have:=yg7_ (n:=n) hlt hn fun j hj=>y5u_ ht hj;omega
theorem ygs_(ht:TrI n s):codeF n (s.dec l).marks (s.dec l).trail.length=codeF n s.marks s.trail.length:=by
 have e1:(s.dec l).marks=s.marks++[(s.trail.length:Int)]:=rfl;have e2:(s.dec l).trail.length=s.trail.length+1:=by show(s.trail++[l]).length=_;simp
 rw[e1,e2];simp only[codeF];rw[if_pos (by simp)];exact y7g_ fun j hj=>by
  simp only[List.mem_append,List.mem_singleton];constructor
  ·rintro(q|q)
   ·exact q
   ·omega
  ·exact .inl
theorem yiy_(ht:TrI n s):rkF n (s.dec l).marks (s.dec l).trail.length=rkF n s.marks s.trail.length+1:=by
 have e1:(s.dec l).marks=s.marks++[(s.trail.length:Int)]:=rfl;have e2:(s.dec l).trail.length=s.trail.length+1:=by show(s.trail++[l]).length=_;simp
 rw[e1,e2];simp only[rkF];rw[if_pos (by simp)]
 congr 1
 exact yat_ fun j hj=>by
  simp only[List.mem_append,List.mem_singleton];constructor
  ·rintro(q|q)
   ·exact q
   ·omega
  ·exact .inl
theorem PrI.two(P:PrI n s)(hc:s.cls[id]?=some (c,true,f))(hf:∀x∈c,val s.vs x=2):∀m∈s.marks,m+2<=(s.trail.length:Int):=by
 obtain⟨h,e1,e2,e3,e4⟩:=P.hd;have hg:=P.li.flag P.lo hc;subst hg;have J:=e4 id c hc;have hnd:=(P.ci id c false hc).2;intro m hm;have h3:=e3 m hm;rcases c with _|⟨a,_|⟨d,t⟩⟩
 ·exact absurd rfl J.ne
 ·have h1:=(P.ti.tr a).2 (J.one a rfl).1
  have:=hf a (by simp);omega
 ·have ha:=hf a (by simp)
  have hd:=hf d (by simp);obtain⟨i,hi⟩:=ya_ (P.ti.neg.1 ha);obtain⟨j,hj⟩:=ya_ (P.ti.neg.1 hd);have hi2:h<=i:=Decidable.byContradiction fun q=>by
   have:=(P.ti.tr d).2 (J.two 0 a d (by omega) rfl rfl ⟨i,by omega,hi⟩).1;omega
  have hj2:h<=j:=Decidable.byContradiction fun q=>by
   have:=(P.ti.tr a).2 (J.two 1 d a (by omega) rfl rfl ⟨j,by omega,hj⟩).1;omega
  have hne:i≠j:=fun e=>by
   subst e;rw[hi]at hj;have:a=d:=by have:=kp_ hj;omega
   subst this;simp at hnd
  have:=y2_ hi;have:=y2_ hj;omega
theorem y8g_(ht:TrI n s)(hS:StI n s)(hm:s.marks[b]?=some (a:Int)):codeW n s.marks s.trail.length<codeW n ((s.back b a).addC c).marks ((s.back b a).addC c).trail.length/\rkW n s.marks s.trail.length<rkW n ((s.back b a).addC c).marks ((s.back b a).addC c).trail.length/\((a:Int)+2<=s.trail.length->codeW n ((s.back b a).addC c).marks ((s.back b a).addC c).trail.length % 2=0):=by
 obtain⟨_,g1,g2,_,_,_,_,g7,_⟩:=hS.back hm;have e1:((s.back b a).addC c).marks=s.marks.take b:=g1;have e2:((s.back b a).addC c).trail=s.trail.take a:=g2;rw[e1,e2];have:(s.trail.take a).length=a:=by simp;omega
 rw[this];have hlt:=ht.lenT;exact⟨yef_ (ka_ hm) g7 ht.lenT (y8k_ ht hm),yh7_ (ka_ hm) g7 ht.lenT (y8k_ ht hm),fun h2=>yew_ (by omega)⟩
def mOf(M:List Bool)(v:Nat):Bool:=M.getD v false
theorem y9r_(ht:TrI n s)(hM:∀v:Nat,v<=n->M[v]?=some (val s.vs v==1))(hl:isL l n=true)(hm:l∈s.trail):holds (mOf M) l=true:=by
 have h0:=yc_ hl;have h1:=hM l.natAbs h0.2;unfold holds mOf;rw[kd_,h1];show((val s.vs (l.natAbs:Int)==1)==decide (0<l))=true;have hv:=(ht.tr l).2 hm;by_cases hp:0<l
 ·have:(l.natAbs:Int)=l:=by omega
  rw[this,hv];simp[hp]
 ·have:(l.natAbs:Int) = -l:=by omega
  rw[this,y52_ ht.ok,hv];simp[hp]
theorem EnL.model{gl:Bool}{C:List (List Int)}{hs:List Int}{ln:List (Int×Int)}{lg:List (Bool×List Int)}{since least:Int}{w:Nat}(L:EnL gl n C s hs ln lg since least w)(hlo:s.loose=[])(hh:s.head=s.trail.length)(hall:∀l,isL l n=true->val s.vs l≠0)(hM:∀v:Nat,v<=n->M[v]?=some (val s.vs v==1)):mods (mOf M) C:=fun c hc=>by
 by_cases hs:saysN c=true
 ·obtain⟨id,d,f,h1,h2,_⟩:=L.orI c hc hs
  obtain⟨x,hx,hxm⟩:=(L.si.pp hlo).full hh hall h1;exact⟨x,(h2 x).1 hx,y9r_ L.si.ti hM ((L.si.ci id d f h1).1 x hx) hxm⟩
 ·obtain⟨x,h1,h2⟩:=ygp_ (by simpa using hs)
  exact ygx_ (yc_ (L.cl c hc x h1)).1 h1 h2
theorem yjq_(ht:TrI n s)(hm:s.marks=[])(hc:s.cls[id]?=some (c,true,f))(hf:∀x∈c,val s.vs x=2):Conf s.db []:=.inr ⟨c,y2z_.2 ⟨id,f,hc⟩,fun x hx=>by
 have hxm:=ht.neg.1 (hf x hx);obtain⟨i,hi⟩:=ya_ hxm;have:=ht.lv _ hxm;rw[hm]at this;simp at this;exact ht.der0 i _ hi (by omega)⟩
theorem yb9_{gl:Bool}{C:List (List Int)}{hs core:List Int}{ln:List (Int×Int)}{lg:List (Bool×List Int)}{since least:Int}{w:Nat}(L:EnL gl n C s hs ln lg since least w)(hC:Conf s.db core)(hl:∀l∈core,isL l n=true):∀m,mods m C->¬ ∀l∈core,holds m l=true:=fun m hm hall=>
 hC.false (L.snd m hm) L.si.ci.nz hall fun l h=>(yc_ (hl l h)).1
end
end
section
open Go
def eJ:Nat->Bool:=fun j=>eI j||j==37
theorem Hop.ej{σ τ:Heap}{T T':Tg}(H:Hop eI σ T τ T'):Hop eJ σ T τ T':=H.sub fun i hi=>by simp[eJ,hi]
theorem Hop.ej37{σ τ:Heap}{T T':Tg}(H:Hop (only 37) σ T τ T'):Hop eJ σ T τ T':=H.sub fun i hi=>by
 have:i=37:=by simpa using hi
 rw[this];rfl
def mu(n:Nat):Nat:=(2 ^ n / 2 / 8+2)*(2 ^ (n+1)+1)+2 ^ (n+1)
def addsL(lg:List (Bool×List Int)):Nat:=(lg.filter fun st => !st.1).length
theorem yaw_{a b:List (Bool×List Int)}:addsL (a++b)=addsL a+addsL b:=by unfold addsL;rw[List.filter_append,List.length_append]
theorem ye0_{ds:List (Bool×List Int)}(h:∀d∈ds,d.1=true):addsL ds=0:=by
 unfold addsL;rw[List.filter_eq_nil_iff.2 fun d hd=>by simp[h d hd]];rfl
def LgB(n:Nat)(ln:List (Int×Int))(lg:List (Bool×List Int))(since least:Int):Prop:=
 (∀st∈lg,st.2.length<=n/\∀x∈st.2,isL x n=true)/\lg.length+ln.length<=2*addsL lg/\8*(addsL lg:Int)<=(least-16)*(2 ^ n / 2:Nat)+8*since
theorem LgB.learn{n:Nat}{ln ln':List (Int×Int)}{lg lg':List (Bool×List Int)}{since least:Int}(h:LgB n ln lg since least)(hs:LgS n ln lg ln' lg'):LgB n ln' lg' (since+1) least:=by
 obtain⟨h1,h2,h3⟩:=h;obtain⟨k,hk,ds,rfl,hd,hl⟩:=hs;have e:addsL (lg++[(false,k)]++ds)=addsL lg+1:=by
  rw[yaw_,yaw_,ye0_ fun d hm=>(hd d hm).1];rfl
 refine⟨fun st hst=>?_,?_,?_⟩
 ·rcases kh_.1 hst with q|q
  ·rcases kh_.1 q with q|q
   ·exact h1 st q
   ·rw[kj_.1 q];exact hk
  ·exact(hd st q).2
 ·rw[e];simp;omega
 ·rw[e];omega
theorem LgB.anew{n:Nat}{ln:List (Int×Int)}{lg:List (Bool×List Int)}{since least:Int}(h:LgB n ln lg since least)(hs:since<=(2 ^ n / 2:Nat)):LgB n ln lg 0 (least+8):=by
 obtain⟨h1,h2,h3⟩:=h;refine⟨h1,h2,?_⟩;generalize (2 ^ n / 2:Nat)=B at h3 hs⊢;rw[show least+8-16=(least-16)+8 by omega,Int.add_mul];omega
def LgF(n:Nat)(lg:List (Bool×List Int)):Prop:=(∀st∈lg,st.2.length<=n+1/\∀x∈st.2,isL x n=true)/\lg.length<=2*((2 ^ n / 2)*(2 ^ n / 2 / 8+2))+1
theorem LgB.fin{n:Nat}{ln:List (Int×Int)}{lg:List (Bool×List Int)}{since least:Int}(h:LgB n ln lg since least)(hs:since<=(2 ^ n / 2:Nat))(hl:least<=(2 ^ n / 2:Nat)+16){c:List Int}(hc:c.length<=n+1/\∀x∈c,isL x n=true):LgF n (lg++[(false,c)])/\LgF n lg:=by
 obtain⟨h1,h2,h3⟩:=h;have key:lg.length<=2*((2 ^ n / 2)*(2 ^ n / 2 / 8+2)):=by
  generalize (2 ^ n / 2:Nat)=B at h3 hs hl⊢;have h4:(least-16)*(B:Int)<=(B:Int)*B:=Int.mul_le_mul_of_nonneg_right (by omega) (by omega);have h6:8*(addsL lg:Int)<=(B:Int)*B+8*B:=by omega
  have h7:B*B<=B*(8*(B / 8)+7):=Nat.mul_le_mul_left _ (by omega);have h8:B*(8*(B / 8)+7)=8*(B*(B / 8))+7*B:=by rw[Nat.mul_add,Nat.mul_left_comm];omega
  have h9:B*(B / 8+2)=B*(B / 8)+2*B:=by rw[Nat.mul_add];omega
  rw[<-Int.natCast_mul]at h6;omega
 refine⟨⟨fun st hst=>?_,by simp;omega⟩,fun st hst=>⟨Nat.le_trans (h1 st hst).1 (Nat.le_succ n),(h1 st hst).2⟩,by omega⟩;rcases kh_.1 hst with q|q
 ·exact⟨Nat.le_trans (h1 st q).1 (Nat.le_succ n),(h1 st q).2⟩
 ·rw[kj_.1 q];exact hc
def SoR(σ:Heap)(T:Tg)(n:Nat)(C:List (List Int))(A:List Int)(lg:List (Bool×List Int))(r:AVal×AVal):Prop:=
 (∃y M,r=(.agg [.bool true,y,.nils],.nili)/\SlV .bool (σ.at T 0) M y/\M.length=n+1/\mods (mOf M) C/\∀a∈A,holds (mOf M) a=true) \/
 (∃y core lg0,r=(.agg [.bool false,.nils,y],.nili)/\SlV .int (σ.at T 0) core y/\(∀l∈core,l∈A)/\(∀m,mods m C->¬ ∀l∈core,holds m l=true)/\core.length<=n+1/\lg=lg0++[(false,negs core)])
section
variable{σ τ:Heap}{T T':Tg}{e:EnP}{n k id:Nat}{s:PS}{hs:List Int}{ln:List (Int×Int)}{lg:List (Bool×List Int)}{since least:Int}{x:AVal}{A:List Int}{gl:Bool}{C:List (List Int)}{w:Nat}
theorem W.eqSn{R:Type}{Q:R->Prop}{K:Bool->Option R}(c:W (K true) Q):W (eqS .nils .nils K) Q:=c
theorem id'{p:Prop}(h:p):p:=h
theorem AsI.addC{l:List Int}(h:AsI s A):AsI (s.addC l) A:=h
theorem yhd_{l1:Nat}(E:EnX σ T e n s hs ln lg since least)(hc:SlV .int (σ.at T 0) A x)(hAL:A.length<=100000)(hl1:Loc (σ.at T 0) l1 [.ptr e.le 0])(hv:s.vs.length=n+1)(hn4:n<=4000)(hAb:∀l∈A,inB l=true){f:AVal}(hf:∀l∈A,∀{Rt:Type} (K:AVal->Heap->Option Rt),callV S.z161.T f [.int .i64 l] σ K=(S.z104 l (.ptr l1 0) σ).bind fun x=>K (retV [.B] x) σ) :
  W (S.z158 x f σ) fun r=>r=(A.any fun l => !isL l n,σ):=by
 refine y1g_ (fun l => !isL l n) hc.up (by omega) fun l hl Rt K=>?_;rw[hf l hl];have e1:S.z104 l (.ptr l1 0) σ=some (!isL l n):=by
  obtain⟨r,er,rfl⟩:W (S.z104 l (.ptr l1 0) σ) fun r=>r = !isL l n:=by
   obtain⟨h,xs,xl,xg,conf,bump,most,sv,ws,E⟩:=E;have k1:=E.obj;have hlb:=hAb l hl;simp only[inB,Bool.and_eq_true,decide_eq_true_eq]at hlb;unfold S.z104
   repeat' with_reducible first|refine W.bind ?_|refine W.asV ?_|refine W.fldp ?_|refine W.nck ?_|refine W.u0 ?_
   refine W.to (y3e_ E.prop hv hn4) ?_
   repeat' with_reducible first|refine W.ret ?_|refine W.bind ?_
   refine W.to (y1w_ (by omega) (by omega)) ?_
   repeat' with_reducible refine W.ret ?_
   rfl
  exact er
 rw[e1];rfl
theorem yi9_(E:EnX σ T e n s hs ln lg since least)(hn:Tn σ T)(L:EnL gl n C s hs ln lg since least w)(hn20:n<=20)(hmk:s.marks=[])(hc:SlV .int (σ.at T 0) A x)(hAl:A.length<=100000)(hAL:∀l∈A,isL l n=true)(hw:w+6*mu n<=850000000000)(hgl:gl=true->since=0/\least=16/\LgB n ln lg since least) :
    W (S.z103 (.ptr e.le 0) x σ) fun r=>∃T' s' hs' ln' lg' since' least' w',Hop eJ σ T r.2 T'/\EnX r.2 T' e n s' hs' ln' lg' since' least'/\EnL gl n C s' hs' ln' lg' since' least' w'/\w'<=w+6*mu n+10/\s'.marks=[]/\SoR r.2 T' n C A lg' r.1/\(gl=true->LgF n lg'):=by
  have hn4:n<=4000:=by omega
  have hAb:∀l∈A,inB l=true:=fun l hl=>y6r_ (hAL l hl) hn4;unfold S.z103
  repeat' (with_reducible refine W.scP ?_)
  refine W.new0 hn fun l1 τ1 _ L1 hl1 hn1=>?_;have hE1:EnX τ1 T e n s hs ln lg since least:=by
    obtain⟨h,xs,xl,xg,conf,bump,most,sv,ws,E⟩:=E;exact⟨h,xs,xl,xg,conf,bump,most,sv,ws,E.hle L1⟩
  replace hc:=hc.hle L1;have HH:Hop eJ σ T τ1 T:=Hop.of hn L1;have hn:=hn1;refine W.newT 37 hn fun l3 τ2 T2 hl3 H2 k37 hnτ2=>?_;replace HH:=HH.trans H2.ej37;have hE2:EnX τ2 T2 e n s hs ln lg since least:=by
    obtain⟨h,xs,xl,xg,conf,bump,most,sv,ws,E⟩:=hE1;exact⟨h,xs,xl,xg,conf,bump,most,sv,ws,E.hopE H2⟩
  replace hc:=hc.hop H2;replace hl1:=hl1.hop H2;refine W.bind ?_;refine W.mono (yhd_ hE2 hc (by omega) hl1 L.si.ti.len.vs hn4 hAb (fun l hl Rt K=>rfl)) fun r hr=>?_;subst hr;dsimp only;have hany:(A.any fun l => !isL l n)=false:=by
    rw[List.any_eq_false];intro l hl;simp[hAL l hl]
  refine W.condF hany ?_
  repeat' with_reducible first|refine W.bind ?_|refine W.asV ?_|refine W.u0 ?_
  have hB1:1<=2 ^ n:=Nat.one_le_two_pow;obtain⟨B,hBd⟩:∃B,B=2 ^ n / 2:=⟨_,rfl⟩;obtain⟨M,hMd⟩:∃M,M=2 ^ (n+1):=⟨_,rfl⟩;have hmuB:mu n=(B / 8+2)*(M+1)+M:=by unfold mu;rw[hBd,hMd]
  refine W.mono (P:=fun r=>r.1=.nili/\∃T' s' hs' ln' lg' since' least' w',Hop eJ σ T r.2 T'/\EnX r.2 T' e n s' hs' ln' lg' since' least'/\EnL gl n C s' hs' ln' lg' since' least' w'/\w'<=w+6*mu n+6/\(gl=true->LgF n lg')/\∃cs,Loc (r.2.at T' 37) l3 cs/\cs.length=3/\SoR r.2 T' n C A lg' (.agg cs,.nili)) ?_ fun r hr=>?_
  · refine W.loopI (m:=mu n) (fun m (_:Unit) τ=>∃(T':Tg) (s':PS) (hs':List Int) (ln':List (Int×Int)) (lg':List (Bool×List Int)) (since' least':Int) (w' cc uu fs:Nat) (cs:List AVal),Hop eJ σ T τ T'/\EnX τ T' e n s' hs' ln' lg' since' least'/\EnL gl n C s' hs' ln' lg' since' least' w' /\
        SlV .int (τ.at T' 0) A x/\Loc (τ.at T' 0) l1 [.ptr e.le 0]/\Loc (τ.at T' 37) l3 cs/\cs.length=3/\AsI s' A/\Rd s' s'.loose (-1)/\CdI n s' (2*cc) uu/\cc<=B/\uu<=M/\fs<=1/\(fs=0->since'<=cc) /\
        (((B:Int)+8-least').toNat / 8+fs)*(M+1)+(M-uu)<=m/\w'+6*m<=w+6*mu n/\(gl=true->fs=0/\least'<=(B:Int)+16/\LgB n ln' lg' since' least')) ?_ fun m _ τ hI2=>?_
    · have z6:=L.z6
      have hR:(((B:Int)+8-least).toNat / 8+(if gl=true then 0 else 1))*(M+1)<=(B / 8+2)*(M+1):=Nat.mul_le_mul_right _ (by split<;>omega);exact⟨T2,s,hs,ln,lg,since,least,w,0,0,if gl=true then 0 else 1,_,HH,hE2,L,hc,hl1,k37,rfl,AsI.nil hmk,.inl hmk,.inl ⟨Nat.zero_le _,Nat.zero_le _⟩,Nat.zero_le _,Nat.zero_le _,by split<;>omega,fun q=>by
        split at q
        · rename_i hg
          have:=(hgl hg).1;omega
        · omega,by rw[hmuB,Nat.sub_zero];omega,by omega,fun hg=>⟨if_pos hg,by have:=(hgl hg).2.1;omega,(hgl hg).2.2⟩⟩
    · obtain ⟨T1,s1,hs1,ln1,lg1,since1,least1,w1,cc,uu,fs,cs,HH,E1,L1,hc,hl1,k37,hcs,hAs,hRd,hCd,hcc,huu,hfs,hsf,hmm,hww,hLg⟩:=hI2
      have hw1:w1<=850000000000:=by omega
      have z1:=L1.z1;have z2:=L1.z2;have z5:=L1.z5;have z6:=L1.z6;have hl1u:=hl1.up;unfold S.z103.b0
      repeat' with_reducible first|refine W.asV ?_|refine W.fldp ?_|refine W.e0 ?_|refine W.nck ?_
      obtain⟨h,xs,xl,xg,conf,bump,most,sv,ws,E1⟩:=E1;have k1:=E1.obj
      repeat' with_reducible first|refine W.bind ?_|refine W.asV ?_|refine W.u0 ?_
      refine W.mono (ycm_ E1.prop HH.tn L1.si hn4 (by omega) (by omega) hRd) fun r hr=>?_;obtain⟨out,τ3⟩:=r;obtain⟨T3,h3,s3,H3,p3,ho,PR⟩:=hr;dsimp only at H3 p3 ho PR⊢;have hti3:=PR.si.ti;have hlT3:=hti3.lenT;have hlE:=PR.ex.lenT;have hen:=PR.en;have L3:EnL gl n C s3 hs1 ln1 lg1 since1 least1 (w1+1):=L1.step PR.si PR.ex.ceq (fun v h1 h2 h4=>L1.hp v h1 h2 (by
        rw[L1.si.ti.zero];rw[hti3.zero]at h4;exact⟨fun q=>h4.1 (PR.ex.mem q),fun q=>h4.2 (PR.ex.mem q)⟩)) (by omega)
      have E3:EnX τ3 T3 e n s3 hs1 ln1 lg1 since1 least1:=⟨h3,xs,xl,xg,conf,bump,most,sv,ws,E1.obj.hop H3,p3,E1.heap.hopJ H3,E1.pace.hop H3,E1.most,E1.sav.hop H3,E1.svl,E1.lrn.hop H3,E1.log.hop H3,E1.all.hop H3⟩;have hAs3:=hAs.ext L1.si.ti PR.ex;have hCW:=hCd.ext PR.ex L1.si.ti hti3;replace HH:=HH.trans H3.je.ej;replace hc:=hc.hop H3;replace hl1:=hl1.hop H3;replace k37:=k37.hop H3;have hl1u:=hl1.up
      clear k1
      (with_reducible refine W.cnd (fun hout=>?_) (fun hout=>?_)<;>(try simp only[qq,Kd.ty]at hout)<;>(try (exfalso;omega)))
      · have hne:out≠-1:=by omega
        obtain⟨id,c,fl,eid,hcl,hfl,hcx⟩:=PR.bad hne;subst eid
        repeat' with_reducible first|refine W.asV ?_|refine W.fldp ?_|refine W.e0 ?_|refine W.nck ?_
        obtain⟨h',xs',xl',xg',conf',bump',most',sv',ws',E3'⟩:=id' E3;have k1:=E3'.obj
        repeat' with_reducible first|refine W.bind ?_|refine W.asV ?_|refine W.u0 ?_
        refine W.to (y6v_ E3'.prop) ?_
        repeat' with_reducible refine W.ret ?_
        by_cases hm0:s3.marks=[]
        · refine W.condT (by simp[hm0]) ?_
          have hC0:=yjq_ hti3 hm0 hcl hfl
          repeat' with_reducible first|refine W.bind ?_|refine W.asV ?_|refine W.e0 ?_
          refine W.mono (ycd_ (core:=[]) (x:=.nils) E3 HH.tn L3 (by omega) (.inl ⟨rfl,rfl⟩) (by simp) (fun l hl=>by cases hl) hC0) fun r hr=>?_;obtain⟨r,τ4⟩:=r;obtain⟨T4,H4,er,E4,L4⟩:=hr;dsimp only at er H4 E4⊢;subst er;replace HH:=HH.trans H4.ej;replace k37:=k37.hop H4
          repeat' (with_reducible refine W.e3 ?_)
          have hn:=HH.tn;refine W.stT k37 hn (by simp[hcs]) fun τ5 H5 k37 _=>?_;have e5:cs.take 0++[.bool false,.nils,.nils]++cs.drop (0+[AVal.bool false,.nils,.nils].length)=[.bool false,.nils,.nils]:=by simp[hcs]
          rw[e5]at k37;have E5:EnX τ5 T4 e n s3 hs1 ln1 (lg1++[(false,negs [])]) since1 least1:=by
            obtain⟨h,xs,xl,xg,conf,bump,most,sv,ws,E4⟩:=E4;exact⟨h,xs,xl,xg,conf,bump,most,sv,ws,E4.hopE H5⟩
          repeat' (with_reducible refine W.stop ?_)
          exact⟨rfl,T4,s3,hs1,ln1,_,since1,least1,_,HH.trans H5.ej37,E5,L4,by omega,fun hg=>by
            obtain⟨g1,g2,g3⟩:=hLg hg;have:=hsf g1;exact(g3.fin (by omega) (by omega) (c:=negs []) ⟨by simp[negs],by simp[negs]⟩).1,_,k37,rfl,.inr ⟨.nils,[],lg1,rfl,.inl ⟨rfl,rfl⟩,(fun l hl=>by cases hl),yb9_ L3 hC0 (fun l hl=>by cases hl),by simp,rfl⟩⟩
        · have hmp:0<s3.marks.length:=List.length_pos_iff.2 hm0
          refine W.condF (by simpa using hm0) ?_
          repeat' with_reducible first|refine W.bind ?_|refine W.asV ?_|refine W.e0 ?_
          refine W.mono (yhf_ E3 HH.tn L3 hn4 (by omega) hmp (PR.lo hm0) hcl hfl (hcx hm0)) fun r hr=>?_;obtain⟨r,τ4⟩:=r;obtain⟨er,T4,s4,hs4,ln4,lg4,since4,least4,H4,E4,L4,hcase,hLS⟩:=hr;dsimp only at er H4 E4⊢;subst er;replace HH:=HH.trans H4.ej;replace hc:=hc.hop H4;replace hl1:=hl1.hop H4;replace k37:=k37.hop H4;have hlT4:=L4.si.ti.lenT;have htwo:=(PR.si.pp (PR.lo hm0)).two hcl hfl;refine W.condF rfl ?_
          repeat' (with_reducible refine W.next ?_)
          rcases hcase with ⟨es,el,b,a,k,hma,e4,hRy⟩|⟨hm4,es,el,hls⟩
          · subst es el
            obtain⟨hg1,hg2,hg3⟩:=y8g_ (c:=normL k) hti3 PR.si hma;have hg4:=hg3 (htwo _ (ka_ hma));rw[<-e4]at hg1 hg2 hg4;have hmax:=yam_ (n:=n) (ms:=s4.marks) hlT4;have hmax2:=ydm_ (n:=n) (ms:=s4.marks) hlT4;rw[<-hMd]at hmax2;have hc2:2*(cc+1)<=codeW n s4.marks s4.trail.length:=by omega
            have hlo4:s4.loose=[((s3.cls.length:Nat):Int)]:=by
              rw[e4];show(s3.back b a).loose++[((s3.back b a).cls.length:Int)]=_;obtain⟨_,_,_,g3,g4,_⟩:=PR.si.back hma;rw[g3,g4,PR.lo hm0];rfl
            refine⟨_,?_,T4,s4,hs4,ln4,lg4,_,_,w1+1+4,cc+1,uu+1,fs,cs,HH,E4,L4,hc,hl1,k37,hcs,?_,?_,.inr ⟨⟨hc2,show uu+1<=_ by omega⟩,_,hlo4,hRy⟩,by omega,by omega,hfs,fun q=>by have:=hsf q;omega,Nat.le_refl _,?_,fun hg=>⟨(hLg hg).1,(hLg hg).2.1,(hLg hg).2.2.learn hLS⟩⟩
            · omega
            · rw[e4];exact(hAs3.back PR.si hma).addC
            · rw[hlo4];exact .inr ⟨rfl,.inr ⟨_,rfl,hRy⟩⟩
            · omega
          · subst es el
            have htb:cc+1<=B:=by
              have hmp2:∃(b a:Nat),s3.marks[b]?=some (a:Int):=by
                obtain⟨m,hm⟩:=y3_ (xs:=s3.marks) (i:=0) hmp;obtain⟨a,ea,_⟩:=hti3.mks 0 m hm;exact⟨0,a,by rw[hm,ea]⟩
              obtain⟨b,a,hma⟩:=hmp2;obtain⟨hg1,_,hg3⟩:=y8g_ (c:=[]) hti3 PR.si hma;have hg4:=hg3 (htwo _ (ka_ hma));have hbk:=PR.si.back hma;have hl5:((s3.back b a).addC []).trail.length<=n:=hbk.1.ti.lenT;have hmax:=yam_ (n:=n) (ms:=((s3.back b a).addC []).marks) hl5;omega
            have hRl:((B:Int)+8-(least1+8)).toNat / 8+1<=((B:Int)+8-least1).toNat / 8+fs:=by
              by_cases hf0:fs=0
              · have:=hsf hf0
                omega
              · omega
            have hmul:=Nat.mul_le_mul_right (M+1) hRl;rw[Nat.succ_mul]at hmul;refine⟨_,?_,T4,s4,hs4,ln4,lg4,0,_,w1+1+4,0,0,0,cs,HH,E4,L4,hc,hl1,k37,hcs,AsI.nil hm4,.inl hm4,.inl ⟨Nat.zero_le _,Nat.zero_le _⟩,Nat.zero_le _,Nat.zero_le _,by omega,fun _=>by omega,Nat.le_refl _,?_,fun hg=>?_⟩
            · simp only[Nat.sub_zero,Nat.add_zero];omega
            · simp only[Nat.sub_zero,Nat.add_zero];omega
            · obtain⟨g1,g2,g3⟩:=hLg hg
              have:=hsf g1;exact⟨rfl,by omega,(g3.learn hLS).anew (by omega)⟩
      · have hne:out = -1:=by omega
        subst hne;obtain⟨hlo3,hhd3⟩:=PR.fine rfl;have hP3:=PR.si.pp hlo3;have hCF:=hCd.fine PR.ex L1.si.ti hP3 hhd3
        repeat' with_reducible first|refine W.bind ?_|refine W.asV ?_|refine W.e0 ?_
        refine W.mono (yfw_ E3 HH.tn L3 hn4 hAs3 hc hAl hAL) fun r hr=>?_;obtain⟨r,τ4⟩:=r;obtain⟨T4,H4,hcase⟩:=hr;dsimp only at H4 hcase⊢;replace HH:=HH.trans H4.ej;replace hc:=hc.hop H4;replace hl1:=hl1.hop H4;replace k37:=k37.hop H4;have hl1u:=hl1.up;have goOn:∀(τ5:Heap) (T5:Tg) (l:Int) (hs5:List Int),Hop eJ σ T τ5 T5->EnX τ5 T5 e n (s3.dec l) hs5 ln1 lg1 since1 least1->val s3.vs l=0->isL l n=true->AsI (s3.dec l) A->(∀v:Nat,1<=v->v<=n->val s3.vs v=0->v≠l.natAbs->(v:Int)∈hs5)->SlV .int (τ5.at T5 0) A x->Loc (τ5.at T5 0) l1 [.ptr e.le 0]->Loc (τ5.at T5 37) l3 cs ->
            ∃m',m'<m/\∃(T':Tg) (s':PS) (hs':List Int) (ln':List (Int×Int)) (lg':List (Bool×List Int)) (since' least':Int) (w' cc uu fs:Nat) (cs:List AVal),Hop eJ σ T τ5 T'/\EnX τ5 T' e n s' hs' ln' lg' since' least'/\EnL gl n C s' hs' ln' lg' since' least' w' /\
            SlV .int (τ5.at T' 0) A x/\Loc (τ5.at T' 0) l1 [.ptr e.le 0]/\Loc (τ5.at T' 37) l3 cs/\cs.length=3/\AsI s' A/\Rd s' s'.loose (-1)/\CdI n s' (2*cc) uu/\cc<=B/\uu<=M/\fs<=1/\(fs=0->since'<=cc) /\
            (((B:Int)+8-least').toNat / 8+fs)*(M+1)+(M-uu)<=m'/\w'+6*m'<=w+6*mu n/\(gl=true->fs=0/\least'<=(B:Int)+16/\LgB n ln' lg' since' least'):=by
          intro τ5 T5 l hs5 H5 E5 hv0 hlL hAs5 hcov hc5 hl5 hk5;have hS5:=StI.dec hP3 hhd3 hlL hv0;have htr5:(s3.dec l).trail.length=s3.trail.length+1:=by show(s3.trail++[l]).length=_;simp
          have hlT5:=hS5.ti.lenT;have L5:EnL gl n C (s3.dec l) hs5 ln1 lg1 since1 least1 (w1+1+1):=L3.step hS5 ⟨rfl,(CEq.refl s3).2⟩ (fun v h1 h2 h4=>by
            rw[hS5.ti.zero]at h4;have e5:(s3.dec l).trail=s3.trail++[l]:=rfl;rw[e5]at h4;refine hcov v h1 h2 (hti3.zero.2 ⟨fun q=>h4.1 (by simp[q]),fun q=>h4.2 (by simp[q])⟩) fun q=>?_;rcases Int.natAbs_eq l with u|u
            · exact h4.1 (by rw[q,<-u];simp)
            · exact h4.2 (by rw[q];have : -((l.natAbs:Nat):Int)=l:=by omega
                             rw[this];simp)) (by
            have e1:(s3.dec l).ent=s3.ent:=rfl;have e2:(s3.dec l).loose=s3.loose:=rfl;have:=L3.z2;rw[e1,e2];omega)
          have hmax2:=ydm_ (n:=n) (ms:=(s3.dec l).marks) hlT5;have hrk:=yiy_ (n:=n) (l:=l) hti3;rw[<-hMd]at hmax2;have huu5:uu+1<=rkF n (s3.dec l).marks (s3.dec l).trail.length:=by omega
          have huuM:uu+1<=M:=by unfold rkW at hmax2;omega
          refine⟨(((B:Int)+8-least1).toNat / 8+fs)*(M+1)+(M-(uu+1)),by omega,T5,s3.dec l,hs5,ln1,lg1,since1,least1,w1+1+1,cc,uu+1,fs,cs,H5,E5,L5,hc5,hl5,hk5,hcs,hAs5,?_,.inl ⟨by rw[ygs_ hti3];exact hCF.1,huu5⟩,hcc,huuM,hfs,hsf,Nat.le_refl _,by omega,hLg⟩;have e2:(s3.dec l).loose=s3.loose:=rfl;rw[e2,hlo3];exact .inr ⟨rfl,.inl rfl⟩
        rcases hcase with ⟨l,hlA,er,hv0,hlL,hAs5,E5⟩|⟨core,y,er,hy,hcne,hcA,hC,hcl,E5⟩|⟨er,hAt,E5⟩
        · subst er
          refine W.condT rfl ?_
          repeat' (with_reducible refine W.next ?_)
          exact goOn _ T4 l hs1 HH E5 hv0 hlL hAs5 (fun v h1 h2 h4 _=>L3.hp v h1 h2 h4) hc hl1 k37
        · subst er
          refine W.condF rfl ?_;have hyns:∃a b c d,y=.sl a b c d:=by
            rcases hy with ⟨_,q⟩|⟨a,b,c,_,_,q,_⟩
            · exact absurd q hcne
            · exact⟨_,_,_,_,q⟩
          have heq:∀(K:Bool->Option ((Unit⊕AVal)×Heap)),eqS y .nils K=K false:=by
            obtain⟨a,b,c,d,rfl⟩:=hyns;intro K;rfl
          refine W.to (heq _) ?_;refine W.condT rfl ?_
          repeat' with_reducible first|refine W.bind ?_|refine W.asV ?_|refine W.e0 ?_
          refine W.mono (ycd_ E5 HH.tn L3 (by omega) hy (by omega) (fun l hl=>hAb l (hcA l hl)) hC) fun r hr=>?_;obtain⟨r,τ5⟩:=r;obtain⟨T5,H5,er,E6,L6⟩:=hr;dsimp only at er H5 E6⊢;subst er;replace HH:=HH.trans H5.ej;replace k37:=k37.hop H5;replace hy:=hy.hop H5
          repeat' (with_reducible refine W.e3 ?_)
          have hn:=HH.tn;refine W.stT k37 hn (by simp[hcs]) fun τ6 H6 k37 _=>?_;have e5:cs.take 0++[.bool false,.nils,y]++cs.drop (0+[AVal.bool false,.nils,y].length)=[.bool false,.nils,y]:=by simp[hcs]
          rw[e5]at k37;have E7:EnX τ6 T5 e n s3 hs1 ln1 (lg1++[(false,negs core)]) since1 least1:=by
            obtain⟨h,xs,xl,xg,conf,bump,most,sv,ws,E6⟩:=E6;exact⟨h,xs,xl,xg,conf,bump,most,sv,ws,E6.hopE H6⟩
          repeat' (with_reducible refine W.stop ?_)
          exact⟨rfl,T5,s3,hs1,ln1,_,since1,least1,_,HH.trans H6.ej37,E7,L6,by omega,fun hg=>by
            obtain⟨g1,g2,g3⟩:=hLg hg;have:=hsf g1;exact(g3.fin (by omega) (by omega) (c:=negs core) ⟨by simp[negs];exact hcl,fun x hx=>by
              obtain⟨y,hy,rfl⟩:=kq_.1 hx;rw[y74_];exact hAL y (hcA y hy)⟩).1,_,k37,rfl,.inr ⟨y,core,lg1,rfl,hy.hop H6,hcA,yb9_ L3 hC (fun l hl=>hAL l (hcA l hl)),hcl,rfl⟩⟩
        · subst er
          refine W.condF rfl ?_;refine W.eqSn ?_;refine W.condF rfl ?_
          repeat' with_reducible first|refine W.bind ?_|refine W.asV ?_|refine W.e0 ?_
          refine W.mono (yf7_ E5 HH.tn L3 hn4) fun r hr=>?_;obtain⟨r,τ5⟩:=r;obtain⟨T5,hs5,H5,hcase⟩:=hr;dsimp only at H5 hcase⊢;replace HH:=HH.trans H5.ej;replace hc:=hc.hop H5;replace hl1:=hl1.hop H5;replace k37:=k37.hop H5;have hl1u:=hl1.up;rcases hcase with ⟨er,l,hv0,hlL,E6,hcov⟩|⟨er,hall,E6⟩
          · subst er
            refine W.condF rfl ?_
            repeat' (with_reducible refine W.next ?_)
            exact goOn _ T5 l hs5 HH E6 hv0 hlL (hAs3.decF hti3 hlL hv0 hAt) hcov hc hl1 k37
          · subst er
            refine W.condT rfl ?_
            repeat' with_reducible first|refine W.bind ?_|refine W.asV ?_|refine W.e0 ?_
            have L5:EnL gl n C s3 hs5 ln1 lg1 since1 least1 (w1+1):=L3.heap fun v h1 h2 h4=>absurd h4 (hall v (yh_.2 ⟨by omega,by omega,by omega⟩));refine W.mono (yf1_ E6 HH.tn L5 hn4) fun r hr=>?_;obtain⟨y,τ6⟩:=r;obtain⟨T6,Mo,H6,E7,hy,hMl,hMv⟩:=hr;dsimp only at H6 E7 hy⊢;replace HH:=HH.trans H6.ej;replace k37:=k37.hop H6;have hyu:=hy.up
            repeat' (with_reducible refine W.scalS (by assumption) ?_)
            have hn:=HH.tn;refine W.stT k37 hn (by simp[hcs]) fun τ7 H7 k37 _=>?_;have e5:cs.take 0++[.bool true,y,.nils]++cs.drop (0+[AVal.bool true,y,.nils].length)=[.bool true,y,.nils]:=by simp[hcs]
            rw[e5]at k37;have E8:EnX τ7 T6 e n s3 hs5 ln1 lg1 since1 least1:=by
              obtain⟨h,xs,xl,xg,conf,bump,most,sv,ws,E7⟩:=E7;exact⟨h,xs,xl,xg,conf,bump,most,sv,ws,E7.hopE H7⟩
            repeat' (with_reducible refine W.stop ?_)
            exact⟨rfl,T6,s3,hs5,ln1,lg1,since1,least1,_,HH.trans H7.ej37,E8,L5,by omega,fun hg=>by
              obtain⟨g1,g2,g3⟩:=hLg hg;have:=hsf g1;exact(g3.fin (by omega) (by omega) (c:=[]) ⟨by simp,by simp⟩).2,_,k37,rfl,.inl ⟨y,Mo,rfl,hy.hop H7,hMl,L3.model hlo3 hhd3 hall hMv,fun a ha=>y9r_ hti3 hMv (hAL a ha) (hAt a ha)⟩⟩
  · obtain⟨v,τ3⟩:=r
    obtain⟨ev,T3,s3,hs3,ln3,lg3,since3,least3,w3,HH,E3,L3,hw3,hLF,cs,k37,hcs,hR⟩:=hr;dsimp only at ev HH E3 k37 hR⊢;subst ev;refine W.bind ?_;refine W.mono (y6f_ (k:=0) E3 HH.tn L3 hn4) fun r hr=>?_;obtain⟨r,τ4⟩:=r;obtain⟨T4,hs4,H4,E4,L4⟩:=hr;dsimp only at H4 E4⊢;replace k37:=k37.hop H4;have hg:=k37.up;refine W.ldGL hg (by omega) ?_;have e3:(cs.drop 0).take 3=cs:=by rw[List.drop_zero,ki_ (by omega)]
    rw[e3]
    repeat' with_reducible refine W.ret ?_
    refine⟨T4,_,hs4,ln3,lg3,since3,least3,w3+1,HH.trans H4.ej,E4,L4,by omega,y7c_ L3.si,?_,hLF⟩;rcases hR with ⟨y,M,er,h1,h2⟩|⟨y,core,lg0,er,h1,h2⟩
    · exact .inl ⟨y,M,er,h1.hop H4,h2⟩
    · exact .inr ⟨y,core,lg0,er,h1.hop H4,h2⟩
end
end
section
open Go
def eK:Nat->Bool:=fun j=>eJ j||j==39
theorem Hop.ek{σ τ:Heap}{T T':Tg}(H:Hop eI σ T τ T'):Hop eK σ T τ T':=H.sub fun i hi=>by simp[eK,eJ,hi]
theorem Hop.jk{σ τ:Heap}{T T':Tg}(H:Hop eJ σ T τ T'):Hop eK σ T τ T':=H.sub fun i hi=>by simp[eK,hi]
theorem Hop.ok{σ τ:Heap}{T T':Tg}{t:Nat}(H:Hop (only t) σ T τ T')(ht:eK t=true:=by rfl):Hop eK σ T τ T':=H.sub fun i hi=>by
 have:i=t:=by simpa using hi
 rw[this];exact ht
section
variable{σ τ:Heap}{T T':Tg}{e:EnP}{n k id:Nat}{s:PS}{hs c:List Int}{ln:List (Int×Int)}{lg:List (Bool×List Int)}{since least:Int}{x:AVal}{A xs:List Int}{gl:Bool}{C:List (List Int)}{w:Nat}
theorem y3q_(h:SlV .int (σ.at T 0) xs x)(hn:Tn σ T)(hb:xs.length<=1000000):W (S.z54 x σ) fun r=>∃T' y,r.1=.agg [y,.int .i64 0]/\Hop (only 39) σ T r.2 T'/\SlV .int (r.2.at T' 0) xs y:=by
 unfold S.z54;refine W.newT 39 hn fun l1 τ1 T1 hl1 H1 k1 hnτ1=>?_;replace h:=h.hop H1;replace hn:=H1.tn;refine W.bind ?_;refine W.mono (y69_ h hn hb) fun r hr=>?_;obtain⟨y,τ2⟩:=r;obtain⟨L2,_,hy⟩:=hr;dsimp only at L2 hy⊢;replace k1:=k1.hle L2;replace hn:=hn.mono L2;have hyu:=hy.up;refine W.scalS hyu ?_;refine W.stT k1 hn (kc_ (by rfl)) fun τ3 H3 k1 hnτ3=>?_;replace hy:=hy.hop H3
 repeat' with_reducible first|refine W.ret ?_|refine W.u1 ?_
 exact⟨T1,y,rfl,(H1.trans (Hop.of H1.tn L2)).trans H3,hy⟩
def ScV(σ:Heap)(x:AVal)(s:(List Int×List Int×List Int×List Int)×Int×Int):Prop:=∃x0 x1 x2 x3,x=.agg [x0,x1,x2,x3,.int .i64 s.2.1,.int .i64 s.2.2]/\SlV .int σ s.1.1 x0/\SlV .int σ s.1.2.1 x1/\SlV .int σ s.1.2.2.1 x2/\SlV .int σ s.1.2.2.2 x3
def ScS(s:(List Int×List Int×List Int×List Int)×Int×Int):Prop:=s.1.1.length<=50/\s.1.2.1.length<=50/\s.1.2.2.1.length<=50/\s.1.2.2.2.length<=50
variable{sc:(List Int×List Int×List Int×List Int)×Int×Int}
theorem ScV.hop{I:Nat->Bool}(h:ScV (σ.at T 0) x sc)(H:Hop I σ T τ T')(h0:I 0=false:=by rfl):ScV (τ.at T' 0) x sc:=by
 obtain⟨x0,x1,x2,x3,e,h1,h2,h3,h4⟩:=h;exact⟨x0,x1,x2,x3,e,h1.hop H h0,h2.hop H h0,h3.hop H h0,h4.hop H h0⟩
theorem ScV.hle(h:ScV (σ.at T 0) x sc)(L:Hle σ τ):ScV (τ.at T 0) x sc:=by
 obtain⟨x0,x1,x2,x3,e,h1,h2,h3,h4⟩:=h;exact⟨x0,x1,x2,x3,e,h1.hle L,h2.hle L,h3.hle L,h4.hle L⟩
theorem ygc_(h:ScV (σ.at T 0) x sc)(hn:Tn σ T)(hs:ScS sc):W (S.z53 x σ) fun r=>∃T' lq,r.1=.ptr lq 0/\Hop eK σ T r.2 T'/\PcI r.2 T' lq sc.2.1 0 16:=by
 obtain⟨x0,x1,x2,x3,rfl,h0,h1,h2,h3⟩:=h;obtain⟨b0,b1,b2,b3⟩:=hs;unfold S.z53
 repeat' (with_reducible refine W.e3 ?_)
 refine W.new0 hn fun l2 τ1 _ L1 k1 hn1=>?_;replace h0:=h0.hle L1;replace h1:=h1.hle L1;replace h2:=h2.hle L1;replace h3:=h3.hle L1;have HH:Hop eK σ T τ1 T:=Hop.of hn L1;have hn:=hn1
 repeat' with_reducible first|refine W.bind ?_|refine W.asV ?_|refine W.u0 ?_
 refine W.mono (y3q_ h0 hn (by omega)) fun r hr=>?_;obtain⟨r,τ2⟩:=r;obtain⟨T2,y0,er,H2,j0⟩:=hr;dsimp only at er H2 j0⊢;subst er;replace HH:=HH.trans H2.ok;have k2:=k1.hop H2;replace h1:=h1.hop H2;replace h2:=h2.hop H2;replace h3:=h3.hop H2;replace hn:=H2.tn
 repeat' with_reducible first|refine W.bind ?_|refine W.asV ?_|refine W.chk rfl ?_|refine W.u0 ?_
 refine W.mono (y3q_ h1 hn (by omega)) fun r hr=>?_;obtain⟨r,τ3⟩:=r;obtain⟨T3,y1,er,H3,j1⟩:=hr;dsimp only at er H3 j1⊢;subst er;replace HH:=HH.trans H3.ok;have k3:=k2.hop H3;replace h2:=h2.hop H3;replace h3:=h3.hop H3;replace j0:=j0.hop H3;replace hn:=H3.tn
 repeat' with_reducible first|refine W.bind ?_|refine W.asV ?_|refine W.chk rfl ?_|refine W.u0 ?_
 refine W.mono (y3q_ h2 hn (by omega)) fun r hr=>?_;obtain⟨r,τ4⟩:=r;obtain⟨T4,y2,er,H4,j2⟩:=hr;dsimp only at er H4 j2⊢;subst er;replace HH:=HH.trans H4.ok;have k4:=k3.hop H4;replace h3:=h3.hop H4;replace j0:=j0.hop H4;replace j1:=j1.hop H4;replace hn:=H4.tn
 repeat' with_reducible first|refine W.bind ?_|refine W.asV ?_|refine W.chk rfl ?_|refine W.u0 ?_
 refine W.mono (y3q_ h3 hn (by omega)) fun r hr=>?_;obtain⟨r,τ5⟩:=r;obtain⟨T5,y3,er,H5,j3⟩:=hr;dsimp only at er H5 j3⊢;subst er;replace HH:=HH.trans H5.ok;have k5:=k4.hop H5;replace j0:=j0.hop H5;replace j1:=j1.hop H5;replace j2:=j2.hop H5;replace hn:=H5.tn
 repeat' with_reducible first|refine W.asI ?_|refine W.chk rfl ?_|refine W.e3 ?_|refine W.putC (by with_unfolding_all rfl) ?_|refine W.u0 ?_
 refine W.newT 30 hn fun l34 τ6 T6 hl34 H6 k30 hnτ6=>?_;replace HH:=HH.trans H6.ok;replace j0:=j0.hop H6;replace j1:=j1.hop H6;replace j2:=j2.hop H6;replace j3:=j3.hop H6;replace hn:=H6.tn
 repeat' with_reducible refine W.ret ?_
 exact⟨T6,l34,rfl,HH,⟨y0,0,y1,0,y2,0,y3,0,0,k30,⟨_,j0,by omega,by omega,by omega⟩,⟨_,j1,by omega,by omega,by omega⟩,⟨_,j2,by omega,by omega,by omega⟩,⟨_,j3,by omega,by omega,by omega⟩⟩⟩
def EnW(σ:Heap)(T:Tg)(e:EnP)(n:Nat)(s:PS)(hs:List Int)(ln:List (Int×Int))(lg:List (Bool×List Int))(since least:Int)(k:Nat):Prop:=∃h xs xl xg conf bump most sv ws,Loc (σ.at T 31) e.le [.ptr e.lp 0,.ptr e.lh 0,.ptr e.lq 0,xs,xl,xg,.int .i64 conf,.int .i64 bump]/\PropH σ T e.lp h s/\HpI σ T e.lh n hs/\PcI σ T e.lq most since least/\most<=0/\Own .int (σ.at T 32) sv xs/\sv.length=k/\Own vLn (σ.at T 33) ln xl/\Own vBR (σ.at T 34) ws xg/\AllB (σ.at T 0) lg ws
theorem EnX.toW(E:EnX σ T e n s hs ln lg since least):EnW σ T e n s hs ln lg since least (n+1):=by
 obtain⟨h,xs,xl,xg,conf,bump,most,sv,ws,E⟩:=E;exact⟨h,xs,xl,xg,conf,bump,most,sv,ws,E.obj,E.prop,E.heap,E.pace,E.most,E.sav,E.svl,E.lrn,E.log,E.all⟩
theorem y9p_{vars:Nat}(E:EnW σ T e n s hs ln lg since least k)(hn:Tn σ T)(hL:PLen (n+1) s)(hk:k<=n+1)(hn4:n<=4000)(hv:vars<=4000) :
  W (S.z101 (.ptr e.le 0) (vars:Int) σ) fun r=>∃T' hs',Hop eI σ T r.2 T'/\EnX r.2 T' e (n+(vars-n)) (s.grow (vars-n)) hs' ln lg since least/\∀x:Int,x∈hs'↔x∈hs\/((n:Int)<x/\x<=vars):=by
 obtain⟨h,xs,xl,xg,conf,bump,most,sv,ws,k1,kp,kh,kq,km,ks,ksl,kl,kg,ka⟩:=E;unfold S.z101
 repeat' with_reducible first|refine W.bind ?_|refine W.asV ?_|refine W.fldp ?_|refine W.nck ?_|refine W.u0 ?_
 refine W.mono (y9h_ (vars:=vars) kp hn hL (by omega) hv (by omega)) fun r hr=>?_;obtain⟨r,τ1⟩:=r;obtain⟨T1,h1,H1,kp⟩:=hr;dsimp only at H1 kp⊢;rw[show vars+1-(n+1)=vars-n from by omega]at kp;replace kh:=kh.hopP H1;replace kq:=kq.hop H1;replace ka:=ka.hop H1;have HH:=H1.pe;replace k1:=k1.hop H1;replace ks:=ks.hop H1;replace kl:=kl.hop H1;replace kg:=kg.hop H1;replace hn:=H1.tn
 repeat' with_reducible first|refine W.bind ?_|refine W.asV ?_|refine W.fldp ?_|refine W.nck ?_|refine W.u0 ?_
 refine W.mono (y94_ (vars:=vars) kh hn hn4 hv) fun r hr=>?_;obtain⟨r,τ2⟩:=r;obtain⟨T2,hs2,H2,kh,hm⟩:=hr;dsimp only at H2 kh⊢;rw[show max n vars=n+(vars-n)from by omega]at kh;replace kp:=kp.hopH H2;replace kq:=kq.hop H2;replace ka:=ka.hop H2;replace HH:=HH.trans H2.he;replace k1:=k1.hop H2;replace ks:=ks.hop H2;replace kl:=kl.hop H2;replace kg:=kg.hop H2;replace hn:=H2.tn
 repeat' (with_reducible refine W.bind ?_)
 have hvs:(s.grow (vars-n)).vs.length=n+(vars-n)+1:=by
  simp only[PS.grow,List.length_append,List.length_replicate,hL.vs];omega
 generalize hN:n+(vars-n)=N at kh hvs⊢;have hN4:N<=4000:=by omega
 generalize hS:s.grow (vars-n)=s1 at kp hvs⊢;refine W.mono (P:=fun r=>∃T',Hop eI σ T r.2 T'/\EnX r.2 T' e N s1 hs2 ln lg since least) ?_ fun r hr=>?_
 ·refine W.loopI (m:=N+1-sv.length) (fun m (_:Unit) τ=>∃(T':Tg) (sv':List Int) (xs':AVal),Hop eI σ T τ T'/\Loc (τ.at T' 31) e.le [.ptr e.lp 0,.ptr e.lh 0,.ptr e.lq 0,xs',xl,xg,.int .i64 conf,.int .i64 bump]/\PropH τ T' e.lp h1 s1/\HpI τ T' e.lh N hs2/\PcI τ T' e.lq most since least/\Own .int (τ.at T' 32) sv' xs'/\sv'.length<=N+1/\m=N+1-sv'.length/\Own vLn (τ.at T' 33) ln xl/\Own vBR (τ.at T' 34) ws xg/\AllB (τ.at T' 0) lg ws) ⟨T2,sv,xs,HH,k1,kp,kh,kq,ks,by omega,rfl,kl,kg,ka⟩ fun m _ τ hI2=>?_
  clear kp kh kq ks kl kg ka k1 HH
  obtain⟨T3,sv3,xs3,HH,k1,kp,kh,kq,ks,hsv,rfl,kl,kg,ka⟩:=hI2;unfold S.z101.b0;have ksl:=ks.slT
  repeat' with_reducible first|refine W.bind ?_|refine W.asV ?_|refine W.fldp ?_|refine W.len (by assumption) ?_|refine W.nck ?_|refine W.u0 ?_
  refine W.to (y3e_ kp hvs hN4) ?_
  repeat' with_reducible refine W.ret ?_
  (with_reducible refine W.cnd (fun hlt=>?_) (fun hlt=>?_)<;>(try simp only[qq,Kd.ty]at hlt)<;>(try (exfalso;omega)))
  ·repeat' with_reducible first|refine W.asV ?_|refine W.fldp ?_|refine W.nck ?_|refine W.u0 ?_
   refine W.own_push (bytes:=8) Vw.int_flat ks HH.tn (a:=(0:Int)) rfl (by omega) (by omega) fun x2 τ5 T5 ks H5=>?_;replace HH:=HH.trans H5.oe;replace k1:=k1.hop H5;replace kp:=kp.hopO H5;replace kh:=kh.hopB H5;replace kq:=kq.hop H5;replace kl:=kl.hop H5;replace kg:=kg.hop H5;replace ka:=ka.hop H5;have hn:=HH.tn
   repeat' with_reducible first|refine W.fldp ?_|refine W.nck ?_|refine W.u4 ?_
   refine W.stT k1 hn (kc_ (by rfl)) fun τ6 H6 k1 hnτ6=>?_;replace HH:=HH.trans H6.oe;replace kp:=kp.hopO H6;replace kh:=kh.hopB H6;replace kq:=kq.hop H6;replace ka:=ka.hop H6;replace ks:=ks.hop H6;replace kl:=kl.hop H6;replace kg:=kg.hop H6;replace hn:=H6.tn
   repeat' (with_reducible refine W.next ?_)
   exact⟨N+1-(sv3++[0]).length,by simp;omega,T5,_,x2,HH,k1,kp,kh,kq,ks,by simp;omega,rfl,kl,kg,ka⟩
  ·repeat' (with_reducible refine W.stop ?_)
   exact⟨T3,HH,h1,xs3,xl,xg,conf,bump,most,sv3,ws,k1,kp,kh,kq,km,ks,by omega,kl,kg,ka⟩
 ·obtain⟨r,τ3⟩:=r
  obtain⟨T3,HH,E⟩:=hr
  repeat' with_reducible refine W.ret ?_
  exact⟨T3,hs2,HH,E,hm⟩
theorem EnL.grow{hs':List Int}(L:EnL gl n C s hs ln lg since least w)(m:Nat)(hm:∀x:Int,x∈hs'↔x∈hs\/((n:Int)<x/\x<=(n:Int)+m)):EnL gl (n+m) C (s.grow m) hs' ln lg since least w:=by
 obtain⟨S1,S2⟩:=L.si.grow m;have hv:∀v:Nat,v<=n->val (s.grow m).vs v=val s.vs v:=fun v hv=>by
  have:=L.si.ti.len.vs;unfold val PS.grow;simp only[Int.natAbs_natCast];rw[y7z_ (by omega)];have e1:¬(s.vs++List.replicate m 0).length<=v:=by simp;omega
  have e2:¬s.vs.length<=v:=by omega
  simp only[e1,e2]
 refine⟨S1,fun v h1 h2 h3=>(hm v).2 ?_,L.lnI,L.lnN,L.orI,L.snd,fun c hc x hx=>ybe_ (L.cl c hc x hx) (by omega),L.lgI,L.z1,?_,L.z3,L.z4,L.z5,L.z6⟩
 ·by_cases hvn:v<=n
  ·exact .inl (L.hp v h1 hvn (by rw[<-hv v hvn];exact h3))
  ·exact .inr (by omega)
 ·have:=L.z2
  rw[S2];exact this
end
end
section
open Go
theorem StI.zero:StI 0 PS.zero:=by
 have hc:∀(id:Nat) x,¬PS.zero.cls[id]?=some x:=fun id x h=>by simp[PS.zero]at h
 have ht:∀l,¬l∈PS.zero.trail:=fun l h=>by simp[PS.zero]at h
 have htg:∀(i:Nat) l,¬PS.zero.trail[i]?=some l:=fun i l h=>by simp[PS.zero]at h
 refine⟨⟨⟨rfl,rfl,rfl,rfl⟩,?_,fun l h=>absurd h (ht l),fun l=>⟨fun h=>?_,fun h=>absurd h (ht l)⟩,by simp[PS.zero],fun l h=>absurd h (ht l),fun k m h=>by simp[PS.zero]at h,fun i l h=>absurd h (htg i l)⟩,fun id c f h=>absurd h (hc _ _),⟨by simp[PS.zero],fun x h=>by simp[PS.zero]at h,fun id c b h=>absurd h (hc _ _)⟩,fun id c f h=>absurd h (hc _ _),fun w hw e he=>?_,⟨0,rfl,Nat.zero_le _,fun m h=>by simp[PS.zero]at h,fun id c h=>absurd h (hc _ _)⟩⟩
 ·intro i x;simp[PS.zero]at x;omega
 ·exfalso
  unfold val PS.zero at h;have:([0]:List Int).getD l.natAbs 0=0:=by
   rcases hq:l.natAbs with _|k
   ·rfl
   ·simp
  rw[this]at h;simp at h
 ·simp[PS.zero]at hw
  subst hw;cases he
section
variable{σ τ:Heap}{T T':Tg}{e:EnP}{n k id:Nat}{s:PS}{hs c:List Int}{ln:List (Int×Int)}{lg:List (Bool×List Int)}{since least most:Int}{x:AVal}{A xs:List Int}{gl:Bool}{C:List (List Int)}{w:Nat}{sc:(List Int×List Int×List Int×List Int)×Int×Int}
theorem EnL.zero:EnL gl 0 [] PS.zero [] [] [] 0 16 0:=
 ⟨StI.zero,fun v h1 h2=>(by omega),fun e h=>(by cases h),List.nodup_nil,fun c h=>(by cases h),fun m h c hc=>(by simp[PS.db,PS.zero]at hc),fun c h=>(by cases h),fun _=>⟨[],[],.nil,by simp[PS.db,PS.zero]⟩,Nat.le_refl _,by decide,Nat.le_refl _,Nat.le_refl _,by omega,by omega⟩
theorem yex_{lq vars:Nat}(hq:PcI σ T lq most 0 16)(hm:most<=0)(hn:Tn σ T)(hv:vars<=4000) :
  W (S.z113 (vars:Int) (.ptr lq 0) σ) fun r=>∃T' e s hs,r.1=.ptr e.le 0/\Hop eI σ T r.2 T'/\EnX r.2 T' e vars s hs [] [] 0 16/\EnL gl vars [] s hs [] [] 0 16 0/\s.marks=[]:=by
 unfold S.z113;refine W.bind ?_;refine W.mono (yfr_ hn) fun r hr=>?_;obtain⟨r,τ1⟩:=r;obtain⟨T1,lp,h1,er,H1,kp⟩:=hr;dsimp only at er H1 kp⊢;subst er;replace hq:=hq.hop H1;have HH:=H1.pe;refine W.bind ?_;refine W.mono (yfo_ HH.tn) fun r hr=>?_;obtain⟨r,τ2⟩:=r;obtain⟨T2,lh,er,H2,kh⟩:=hr;dsimp only at er H2 kh⊢;subst er;replace hq:=hq.hop H2;replace kp:=kp.hopH H2;replace HH:=HH.trans H2.he;have hn:=HH.tn
 repeat' (with_reducible refine W.scP ?_)
 refine W.newT 31 hn fun l3 τ3 T3 hl3 H3 k1 hnτ3=>?_;replace hq:=hq.hop H3;replace kp:=kp.hopO H3;replace kh:=kh.hopB H3;replace HH:=HH.trans H3.oe;have E:EnW τ3 T3 ⟨l3,lp,lh,lq⟩ 0 PS.zero [] [] [] 0 16 0:=⟨_,_,_,_,_,_,most,[],[],k1,kp,kh,hq,hm,Own.nil,rfl,Own.nil,Own.nil,⟨rfl,fun i a y=>(by simp at y)⟩⟩;refine W.bind ?_;refine W.mono (y9p_ (vars:=vars) E HH.tn ⟨rfl,rfl,rfl,rfl⟩ (by omega) (by omega) hv) fun r hr=>?_;obtain⟨r,τ4⟩:=r;obtain⟨T4,hs4,H4,E4,hm4⟩:=hr;dsimp only at H4 E4⊢;have hL:=(EnL.zero (gl:=gl)).grow (hs':=hs4) (vars-0) (fun x=>by rw[hm4];simp);rw[show 0+(vars-0)=vars from by omega]at E4 hL
 repeat' with_reducible refine W.ret ?_
 exact⟨T4,⟨l3,lp,lh,lq⟩,_,hs4,rfl,HH.trans H4,E4,hL,rfl⟩
theorem yjg_{l1 u:Nat}{y:AVal}(E:EnX σ T e n s hs ln lg since least)(hc:SlV .int (σ.at T u) A x)(hAL:A.length<=1000000)(hl1:Loc (σ.at T 0) l1 [.ptr e.le 0])(hv:s.vs.length=n+1)(hn4:n<=4000){f:AVal}(hf:∀l∈A,∀{Rt:Type} (K:AVal->Heap->Option Rt),callV S.z161.T f [.int .i64 l] σ K=(S.z100 l (.ptr l1 0) σ).bind fun x=>K (retV [.B] x) σ) :
  W (S.z158 x f σ) fun r=>r=(A.any fun l => !isL l n,σ):=by
 refine y1g_ (fun l => !isL l n) hc.up (by omega) fun l hl Rt K=>?_;rw[hf l hl];have e1:S.z100 l (.ptr l1 0) σ=some (!isL l n):=by
  obtain⟨r,er,rfl⟩:W (S.z100 l (.ptr l1 0) σ) fun r=>r = !isL l n:=by
   obtain⟨h,xs,xl,xg,conf,bump,most,sv,ws,E⟩:=E;have k1:=E.obj;unfold S.z100
   repeat' with_reducible first|refine W.bind ?_|refine W.asV ?_|refine W.fldp ?_|refine W.nck ?_|refine W.u0 ?_
   refine W.to (y3e_ E.prop hv hn4) ?_
   repeat' with_reducible first|refine W.ret ?_|refine W.bind ?_
   refine W.to (y1w_ (by omega) (by omega)) ?_
   repeat' with_reducible refine W.ret ?_
   rfl
  exact er
 rw[e1];rfl
theorem EnX.hle(E:EnX σ T e n s hs ln lg since least)(L:Hle σ τ):EnX τ T e n s hs ln lg since least:=by
 obtain⟨h,xs,xl,xg,conf,bump,most,sv,ws,E⟩:=E;exact⟨h,xs,xl,xg,conf,bump,most,sv,ws,E.hle L⟩
theorem EnX.hopE{t:Nat}(E:EnX σ T e n s hs ln lg since least)(H:Hop (only t) σ T τ T')(ht:(decide (15<=t)&&decide (t<=29))||(decide (35<=t)&&decide (t<=49))=true:=by rfl):EnX τ T' e n s hs ln lg since least:=by
 obtain⟨h,xs,xl,xg,conf,bump,most,sv,ws,E⟩:=E;exact⟨h,xs,xl,xg,conf,bump,most,sv,ws,E.hopE H ht⟩
theorem yh0_{u:Nat}(E:EnX σ T e n s hs ln lg since least)(hn:Tn σ T)(L:EnL gl n C s hs ln lg since least w)(hn4:n<=4000)(hw:w<=1000000000)(hc:SlV .int (σ.at T u) c x)(hl:c.length<=1000000)(hb:∀l∈c,isL l n=true)(hg:gl=true->lg=[]) :
  W (S.z99 (.ptr e.le 0) x σ) fun r=>r.1=true/\∃T' s',Hop eI σ T r.2 T'/\EnX r.2 T' e n s' hs ln lg since least/\EnL gl n (C++[c]) s' hs ln lg since least (w+1)/\s'.marks=s.marks:=by
 have hL2:=L.add hb hg;unfold S.z99
 repeat' (with_reducible refine W.scP ?_)
 refine W.new0 hn fun l1 τ1 _ L1 hl1 hn1=>?_;replace E:=E.hle L1;replace hc:=hc.hle L1;have HH:Hop eI σ T τ1 T:=Hop.of hn L1;refine W.bind ?_;refine W.mono (yjg_ E hc hl hl1 L.si.ti.len.vs hn4 (y:=x) (fun l hl Rt K=>rfl)) fun r hr=>?_;subst hr;dsimp only;refine W.condF (by rw[List.any_eq_false];intro l hl;simp[hb l hl]) ?_;obtain⟨h,xs,xl,xg,conf,bump,most,sv,ws,E⟩:=E;obtain⟨k1,kp,kh,kq,km,ks,ksl,kl,kg,ka⟩:=E
 repeat' with_reducible first|refine W.bind ?_|refine W.asV ?_|refine W.fldp ?_|refine W.nck ?_|refine W.u0 ?_
 have z1:=L.z1;have z2:=L.z2;refine W.mono (yax_ (n:=n) kp hn1 L.si.ti.len hn4 hc (by
  rw[List.all_eq_true];exact fun l hl=>y6r_ (hb l hl) hn4) hl (by omega) (by omega) (fun w' hw'=>by have:=y6j_ hw';omega)) fun r hr=>?_
 obtain⟨r,τ2⟩:=r;obtain⟨T2,h2,H2,hr⟩:=hr;dsimp only at H2 hr⊢
 repeat' with_reducible refine W.ret ?_
 have hbad:y2e_ n c = !saysN c:=by
  unfold y2e_;have:((normL c).any fun l => !isL l n)=false:=by
   rw[List.any_eq_false];intro l hl;simp[hb l (y8_.1 hl)]
  rw[this];simp
 refine⟨rfl,T2,_,HH.trans H2.pe,⟨h2,xs,xl,xg,conf,bump,most,sv,ws,k1.hop H2,?_,kh.hopP H2,kq.hop H2,km,ks.hop H2,ksl,kl.hop H2,kg.hop H2,ka.hop H2⟩,hL2,?_⟩
 ·rcases hr with ⟨q,_,kp⟩|⟨q,_,kp⟩
  ·rw[hbad]at q
   rw[if_neg (by simpa using q)];exact kp
  ·rw[hbad]at q
   rw[if_pos (by simpa using q),<-yfe_];exact kp
 ·split<;>rfl
end
end
section
open Go
section
variable{σ τ:Heap}{T T':Tg}{e:EnP}{n k id:Nat}{s:PS}{hs c:List Int}{ln:List (Int×Int)}{lg:List (Bool×List Int)}{since least most:Int}{x y:AVal}{A xs:List Int}{gl:Bool}{C cs:List (List Int)}{w:Nat}{sc:(List Int×List Int×List Int×List Int)×Int×Int}
def En(gl:Bool)(σ:Heap)(T:Tg)(e:EnP)(n:Nat)(C:List (List Int))(w:Nat):Prop:=∃s hs ln lg since least,EnX σ T e n s hs ln lg since least/\EnL gl n C s hs ln lg since least w/\s.marks=[]/\(gl=true->lg=[]/\ln=[]/\since=0/\least=16)
theorem En.hop{t:Nat}(E:En gl σ T e n C w)(H:Hop (only t) σ T τ T')(ht:(decide (15<=t)&&decide (t<=29))||(decide (35<=t)&&decide (t<=49))=true:=by rfl):En gl τ T' e n C w:=by
 obtain⟨s,hs,ln,lg,since,least,E,h⟩:=E;exact⟨s,hs,ln,lg,since,least,E.hopE H ht,h⟩
theorem En.hle(E:En gl σ T e n C w)(L:Hle σ τ):En gl τ T e n C w:=by
 obtain⟨s,hs,ln,lg,since,least,E,h⟩:=E;exact⟨s,hs,ln,lg,since,least,E.hle L,h⟩
theorem yhl_{u:Nat}(E:En gl σ T e n C w)(hn:Tn σ T)(hn4:n<=4000)(hw:w<=1000000000)(hc:SlV .int (σ.at T u) c x)(hl:c.length<=1000000)(hb:∀l∈c,isL l n=true) :
  W (S.z99 (.ptr e.le 0) x σ) fun r=>r.1=true/\∃T',Hop eI σ T r.2 T'/\En gl r.2 T' e n (C++[c]) (w+1):=by
 obtain⟨s,hs,ln,lg,since,least,E,L,hm,hg⟩:=E;exact(yh0_ E hn L hn4 hw hc hl hb fun h=>(hg h).1).mono fun r hr=>⟨hr.1,hr.2.elim fun T' hr=>hr.elim fun s' hr=>⟨T',hr.1,s',hs,ln,lg,since,least,hr.2.1,hr.2.2.1,by rw[hr.2.2.2,hm],hg⟩⟩
theorem y6p_{l:Int}{n:Nat}(h:l≠0/\-(n:Int)<=l/\l<=n):isL l n=true:=yh_.2 (by omega)
end
end
section
open Go
section
variable{R:Type}{Q:R->Prop}{σ τ:Heap}{T T':Tg}
theorem W.new1{α:Type}{v:Vw α}(hn:Tn σ T){u:AVal}(a:α)(hsz:v.sz=1)(hr:∀τ,Hle (σ.at T 0) τ->v.rel τ a [u]){K:Nat->Heap->Option R}
  (c:∀l τ,l=σ.next->Hle σ τ->SlV v (τ.at T 0) [a] (.sl l 0 1 none)->Tn τ T->W (K l τ) Q):W (newK σ 1 [u] K) Q:=
 have L:=(Hle.refl σ).new (.cells .rw 1 [u])
 c σ.next _ rfl L (.inr ⟨σ.next,0,none,.rw,[u],rfl,Nat.lt_succ_self _,by rw[hsz];exact at_of (hn.z _ (Nat.le_refl _)) (by rw[yj_,if_pos rfl]),by simp[hsz],fun i b hi=>by
  match i,hi with
  |0,hi=>cases hi;simp only[hsz];exact hr _ (L.ats T 0)
  |i+1,hi=>simp at hi⟩) (hn.mono L)
theorem W.newI1(hn:Tn σ T){a:Int}{K:Nat->Heap->Option R}
  (c:∀l τ,l=σ.next->Hle σ τ->SlV .int (τ.at T 0) [a] (.sl l 0 1 none)->Tn τ T->W (K l τ) Q):W (newK σ 1 [.int .i64 a] K) Q:=W.new1 hn a rfl (fun _ _=>rfl) c
theorem Acc.atF{n0:Nat}{cs:List (List Int)}{y:AVal}(h:Acc (vIsF n0) n0 τ cs y)(hT:∀k,n0<=k->T k=0):SlV vIs (τ.at T 0) cs y:=by
 rcases h with h|⟨l,us,rfl,h2,h3,h4,h5,h6⟩
 ·exact .inl h
 ·refine .inr ⟨l,0,none,.rw,us,rfl,h3,at_of (hT l h2) h4,by rw[Nat.zero_add];exact h5,fun i a hi=>?_⟩
  obtain⟨x,e1,e2,e3⟩:=h6 i a hi;have e1:List.take 1 (List.drop (i*1) us)=[x]:=e1;refine⟨x,by rw[Nat.zero_add];exact e1,?_⟩;rcases e2 with e2|⟨j,off,c,md,vs,rfl,g2,g3,g4,g5⟩
  ·exact .inl e2
  ·have hj:=e3 _ _ _ _ rfl
   have hne:j≠l:=fun e=>by
    subst e;rw[ys_,if_pos rfl]at g3;cases g3
   rw[ys_,if_neg hne]at g3;exact .inr ⟨j,off,c,md,vs,rfl,g2,at_of (hT j hj) g3,g4,g5⟩
end
section
variable{σ τ:Heap}{T T':Tg}{e:EnP}{n k id:Nat}{x y:AVal}{A:List Int}{C cs:List (List Int)}{w:Nat}{sc:(List Int×List Int×List Int×List Int)×Int×Int}
theorem yi2_(h:ScV σ y sc):W (S.z120 y σ) fun r=>(r.1=true↔ScS sc)/\Hle σ r.2:=by
 obtain⟨x0,x1,x2,x3,rfl,h0,h1,h2,h3⟩:=h;unfold S.z120
 repeat' (with_reducible refine W.e3 ?_)
 refine W.new fun l2 τ1 hl2 L1 k1 hnτ1=>?_;replace h0:=h0.mono L1;replace h1:=h1.mono L1;replace h2:=h2.mono L1;replace h3:=h3.mono L1
 repeat' with_reducible first|refine W.bind ?_|refine W.asV ?_|refine W.len (by assumption) ?_|refine W.e0 ?_
 have hh:(decide ((sc.1.1.length:Int)<=50)&&decide ((sc.1.2.1.length:Int)<=50)&&decide ((sc.1.2.2.1.length:Int)<=50)&&decide ((sc.1.2.2.2.length:Int)<=50))=true↔ScS sc:=by
  unfold ScS;simp only[Bool.and_eq_true,decide_eq_true_eq];omega
 (with_reducible refine W.cnd (fun hq1=>?_) (fun hq1=>?_)<;>(try simp only[qq,Kd.ty]at hq1)<;>(try (exfalso;omega)))
 ·repeat' with_reducible first|refine W.asV ?_|refine W.len (by assumption) ?_|refine W.e0 ?_
  (with_reducible refine W.cnd (fun hq2=>?_) (fun hq2=>?_)<;>(try simp only[qq,Kd.ty]at hq2)<;>(try (exfalso;omega)))
  ·repeat' with_reducible first|refine W.asV ?_|refine W.len (by assumption) ?_|refine W.e0 ?_
   (with_reducible refine W.cnd (fun hq3=>?_) (fun hq3=>?_)<;>(try simp only[qq,Kd.ty]at hq3)<;>(try (exfalso;omega)))
   ·repeat' with_reducible first|refine W.ret ?_|refine W.asV ?_|refine W.len (by assumption) ?_|refine W.e0 ?_
    refine⟨?_,L1⟩;rw[<-hh];simp[hq1,hq2,hq3]
   ·repeat' with_reducible refine W.ret ?_
    exact⟨⟨fun h=>(by cases h),fun h=>(by unfold ScS at h;omega)⟩,L1⟩
  ·repeat' with_reducible refine W.ret ?_
   exact⟨⟨fun h=>(by cases h),fun h=>(by unfold ScS at h;omega)⟩,L1⟩
 ·repeat' with_reducible refine W.ret ?_
  exact⟨⟨fun h=>(by cases h),fun h=>(by unfold ScS at h;omega)⟩,L1⟩
def frL:Nat->Bool:=fun j=>j==38||j==39
theorem yjp_(h:ScV (σ.at T 0) y sc)(hn:Tn σ T):W (S.z118 y σ) fun r=>∃T',Hop frL σ T r.2 T'/\ScV (r.2.at T' 0) r.1 (sc.1,0,0):=by
 obtain⟨x0,x1,x2,x3,rfl,h0,h1,h2,h3⟩:=h;unfold S.z118
 repeat' (with_reducible refine W.e3 ?_)
 refine W.newT 38 hn fun l2 τ1 T1 hl2 H1 k1 hnτ1=>?_;replace h0:=h0.hop H1;replace h1:=h1.hop H1;replace h2:=h2.hop H1;replace h3:=h3.hop H1;replace hn:=H1.tn;refine W.newT 39 hn fun l4 τ2 T2 hl4 H2 k2 hnτ2=>?_;replace h0:=h0.hop H2;replace h1:=h1.hop H2;replace h2:=h2.hop H2;replace h3:=h3.hop H2;replace k1:=k1.hop H2;replace hn:=H2.tn;refine W.stT k1 hn (kc_ (by rfl)) fun τ3 H3 k1 hnτ3=>?_;replace h0:=h0.hop H3;replace h1:=h1.hop H3;replace h2:=h2.hop H3;replace h3:=h3.hop H3;replace k2:=k2.hop H3;replace hn:=H3.tn;refine W.stT k1 hn (kc_ (by rfl)) fun τ4 H4 k1 hnτ4=>?_;replace h0:=h0.hop H4;replace h1:=h1.hop H4;replace h2:=h2.hop H4;replace h3:=h3.hop H4;replace k2:=k2.hop H4;replace hn:=H4.tn
 repeat' with_reducible first|refine W.e3 ?_|refine W.u1 ?_
 refine W.stT k2 hn (kc_ (by rfl)) fun τ5 H5 k2 hnτ5=>?_;replace h0:=h0.hop H5;replace h1:=h1.hop H5;replace h2:=h2.hop H5;replace h3:=h3.hop H5;replace hn:=H5.tn
 repeat' with_reducible first|refine W.ret ?_|refine W.u1 ?_
 have f8:∀{σ τ:Heap} {T T':Tg},Hop (only 38) σ T τ T'->Hop frL σ T τ T':=fun H=>H.sub fun i hi=>by simp[frL]at hi⊢;omega
 have f9:∀{σ τ:Heap} {T T':Tg},Hop (only 39) σ T τ T'->Hop frL σ T τ T':=fun H=>H.sub fun i hi=>by simp[frL]at hi⊢;omega
 exact⟨T2,((((f8 H1).trans (f9 H2)).trans (f8 H3)).trans (f8 H4)).trans (f9 H5),x0,x1,x2,x3,rfl,h0,h1,h2,h3⟩
end
end
section
open Go
theorem yfg_{vars:Int}{cs:List (List Int)}(h0:0<=vars)(h1:vars<=4000)(h2:cs.length<=20000)(h3:cs.flatten.length<=80000)(h4:∀c∈cs,ye_ vars c):chkC vars cs=none:=by
 unfold chkC;rw[if_neg (by omega)];have:cs.findIdx? (badC vars)=none:=by
  rw[List.findIdx?_eq_none_iff];intro c hc;have:=y5i_.2 (h4 c hc);simpa using this
 rw[this];rfl
theorem SlV.tz0{α:Type}{v:Vw α}{σ:Heap}{xs:List α}{x:AVal}(h:SlV v σ xs x):SlV v (σ.at Tz 0) xs x:=by rw[at_tz];exact h
section
variable{σ τ:Heap}{T T':Tg}{e:EnP}{n k id:Nat}{x y:AVal}{A:List Int}{C cs:List (List Int)}{w:Nat}{sc:(List Int×List Int×List Int×List Int)×Int×Int}
theorem ScV.up(h:ScV (σ.at T 0) x sc):ScV σ x sc:=by
 obtain⟨x0,x1,x2,x3,e,h1,h2,h3,h4⟩:=h;exact⟨x0,x1,x2,x3,e,h1.up,h2.up,h3.up,h4.up⟩
theorem W.newA{R:Type}{Q:R->Prop}(hn:Tn σ T){sz m:Nat}{zs ds:List AVal}{K:Nat->Heap->Option R}(hz:zs.length=m)(hd:ds.length=m)
  (c:∀l τ,l=σ.next->Hle σ τ->Loc (τ.at T 0) l ds->Tn τ T->W (K l τ) Q):W (YtafbldhedkallaaGreatDoor.A.newK σ sz zs fun l σ'=>YtafbldhedkallaaGreatDoor.A.aggK (.agg ds) m fun cs=>YtafbldhedkallaaGreatDoor.A.stC σ' (.ptr l 0) cs (K l)) Q:=by
 refine W.newg fun l τ1 hl L1 _ g1 n1=>?_;refine W.aggK hd ?_;refine W.st0 (cs:=zs) (vs:=ds) ⟨by omega,sz,g1⟩ (by omega) fun τ2 L2 e2 h2=>?_;have L:=L1.ofk (by omega) L2;obtain⟨sz2,g2⟩:=h2.get;exact c l τ2 hl L ⟨h2.lt,sz2,at_of (hn.z _ (by omega)) g2⟩ (hn.mono L)
end
end
section
open Go
def OL(σ:Heap)(T:Tg)(t:Nat)(cs:List (List Int))(x:AVal):Prop:=∃ws,Own vRaw (σ.at T t) ws x/\ws.length=cs.length/\∀(i:Nat) c,cs[i]?=some c->∃w,ws[i]?=some w/\SlV .int (σ.at T 0) c w
section
variable{σ τ:Heap}{T T':Tg}{e:EnP}{n k id t:Nat}{x y:AVal}{A c:List Int}{C cs:List (List Int)}{w:Nat}{sc:(List Int×List Int×List Int×List Int)×Int×Int}{gl:Bool}{I:Nat->Bool}
theorem OL.hop(h:OL σ T t cs x)(H:Hop I σ T τ T')(ht:I t=false:=by rfl)(h0:I 0=false:=by rfl):OL τ T' t cs x:=by
 obtain⟨ws,h1,h2,h3⟩:=h;exact⟨ws,h1.hop H ht,h2,fun i c hi=>(h3 i c hi).imp fun w hw=>⟨hw.1,hw.2.hop H h0⟩⟩
theorem OL.hle(h:OL σ T t cs x)(L:Hle σ τ):OL τ T t cs x:=by
 obtain⟨ws,h1,h2,h3⟩:=h;exact⟨ws,h1.hle L,h2,fun i c hi=>(h3 i c hi).imp fun w hw=>⟨hw.1,hw.2.hle L⟩⟩
theorem OL.sl(h:OL σ T t cs x):SlV vIs σ cs x:=by
 obtain⟨ws,h1,h2,h3⟩:=h;rcases h1.slT with ⟨rfl,rfl⟩|⟨l,off,c,md,us,rfl,g2,g3,g4,g5⟩
 ·exact .inl ⟨rfl,km_ (by simpa using h2.symm)⟩
 ·refine .inr ⟨l,off,c,md,us,by rw[h2],g2,g3,by rw[<-h2];exact g4,fun i a hi=>?_⟩
  obtain⟨w,e1,e2⟩:=h3 i a hi;exact⟨w,g5 i w e1,e2.up⟩
theorem OL.nil:OL σ T t [] .nils:=⟨[],Own.nil,rfl,fun i c h=>by simp at h⟩
theorem W.ol_push{R:Type}{Q:R->Prop}(h:OL σ T t cs x)(hn:Tn σ T)(hy:SlV .int (σ.at T 0) c y)(ht:t≠0)(hb:cs.length<=1000000){K:AVal->Heap->Option R}
  (k:∀x' τ T',OL τ T' t (cs++[c]) x'->Hop (only t) σ T τ T'->W (K x' τ) Q):W (YtafbldhedkallaaGreatDoor.A.newK σ 1 [y] fun l τ=>YtafbldhedkallaaGreatDoor.A.appS τ 1 24 x (.sl l 0 1 none) K) Q:=by
 obtain⟨ws,h1,h2,h3⟩:=h;refine W.own_push (bytes:=24) y2n_ h1 hn (a:=y) rfl (by omega) (by omega) fun x' τ T' h1' H=>?_;have h0:(only t) 0=false:=by simp;omega
 refine k x' τ T' ⟨_,h1',by simp[h2],fun i d hi=>?_⟩ H;rcases y36_ hi with q|⟨rfl,rfl⟩
 ·obtain⟨w,e1,e2⟩:=h3 i d q
  exact⟨w,by rw[kg_ (y2_ e1)];exact e1,e2.hop H h0⟩
 ·exact⟨y,by rw[<-h2];simp,hy.hop H h0⟩
theorem Acc.ol{σ0:Heap}(h:Acc (vIsF σ0.next) σ0.next τ cs y)(hn:Tn σ0 T)(L:Hle σ0 τ)(t:Nat):∃T',Hop (only t) σ0 T τ T'/\OL τ T' t cs y:=by
 rcases h with ⟨rfl,rfl⟩|⟨l,us,rfl,h1,h2,h3,h4,h5⟩
 ·exact⟨T,Hop.of hn L,OL.nil⟩
 ·have H:Hop (only t) σ0 T τ (T.upd l t):=yir_ hn L h1 h2
  refine⟨T.upd l t,H,us.take cs.length,.inr ⟨l,0,none,us,by rw[List.length_take,Nat.min_eq_left (by simpa[vIsF,Vw.slF]using h4)],h2,at_of y10_ h3,(fun k e=>by cases e),?_,fun i a hi=>?_⟩,?_,fun i c hi=>?_⟩
  ·rw[Nat.zero_add,List.length_take];exact Nat.le_trans (Nat.mul_le_mul_right _ (Nat.min_le_right _ _)) (by simp[vRaw])
  ·rw[List.getElem?_take]at hi
   split at hi
   ·show List.take 1 (List.drop ((0+i)*1) us)=[a]
    rw[Nat.zero_add,Nat.mul_one,List.take_one,List.head?_drop,hi];rfl
   ·cases hi
  ·rw[List.length_take,Nat.min_eq_left (by simpa[vIsF,Vw.slF]using h4)]
  ·obtain⟨z,e1,e2,e3⟩:=h5 i c hi
   have e1:List.take 1 (List.drop (i*1) us)=[z]:=e1;have hil:=y2_ hi;rw[Nat.mul_one,List.take_one,List.head?_drop]at e1;have e1:us[i]?=some z:=by
    cases hu:us[i]? with
    |none=>rw[hu]at e1;cases e1
    |some v=>rw[hu]at e1;cases e1;rfl
   refine⟨z,by rw[List.getElem?_take,if_pos hil];exact e1,?_⟩;rcases e2 with e2|⟨j,off,c',md,vs,rfl,g2,g3,g4,g5⟩
   ·exact .inl e2
   ·have hj:=e3 _ _ _ _ rfl
    have hne:j≠l:=fun e=>by
     subst e;rw[ys_,if_pos rfl]at g3;cases g3
    rw[ys_,if_neg hne]at g3;have hT:(T.upd l t) j=0:=by rw[y1f_ hne];exact hn.z j hj
    exact .inr ⟨j,off,c',md,vs,rfl,g2,at_of hT g3,g4,g5⟩
end
end
section
open Go
section
variable{σ τ:Heap}{T T':Tg}{e:EnP}{n k id:Nat}{x y:AVal}{A:List Int}{C cs:List (List Int)}{w:Nat}{sc:(List Int×List Int×List Int×List Int)×Int×Int}
theorem ybb_{f:Nat->Bool}{C D:List (List Int)}:mods f (C++D)↔mods f C/\mods f D:=by
 unfold mods;simp only[List.mem_append];exact⟨fun h=>⟨fun c hc=>h c (.inl hc),fun c hc=>h c (.inr hc)⟩,fun h c hc=>hc.elim (h.1 c) (h.2 c)⟩
end
end
section
open Go
section
variable{σ τ:Heap}{T T':Tg}{t:Nat}{x y:AVal}{xs:List Int}
theorem Own.freeze{α:Type}{v:Vw α}{zs:List α}(hf:v.Flat)(h:Own v (σ.at T t) zs x)(hn:Tn σ T):∃T',Hop (only t) σ T σ T'/\SlV v (σ.at T' 0) zs x:=by
 rcases h with ⟨rfl,rfl⟩|⟨l,off,c,cs,rfl,h1,h2,h3,h4,h5⟩
 ·exact⟨T,Hop.refl hn,.inl ⟨rfl,rfl⟩⟩
 ·obtain⟨e1,e2⟩:=y19_.1 h2
  have h1:l<σ.next:=h1;refine⟨T.upd l 0,⟨Nat.le_refl _,⟨fun k hk=>by rw[y1f_ (by omega)];exact hn.z k hk⟩,fun k _ hI=>y1f_ (fun e=>by subst e;simp[only,e1]at hI),fun k o _ _ hg=>hg⟩,.inr ⟨l,off,c,.rw,cs,rfl,h1,at_of y10_ e2,h4,fun i a hi=>hf _ _ _ _ (h5 i a hi)⟩⟩
end
end
section
open Go
section
variable{σ τ:Heap}{T T':Tg}{e:EnP}{n k id t:Nat}{x y:AVal}{A c:List Int}{C cs:List (List Int)}{w:Nat}{sc:(List Int×List Int×List Int×List Int)×Int×Int}{gl:Bool}
def ones(A:List Int):List (List Int):=A.map fun a=>[a]
theorem ya7_{f:Nat->Bool}:mods f (ones A)↔∀a∈A,holds f a=true:=by
 unfold mods ones tru;constructor
 ·intro h a ha
  obtain⟨l,hl,ht⟩:=h [a] (kq_.2 ⟨a,ha,rfl⟩);have:l=a:=by simpa using hl
  subst this;exact ht
 ·intro h c hc
  obtain⟨a,ha,rfl⟩:=kq_.1 hc;exact⟨a,by simp,h a ha⟩
theorem ygy_{A B:List Int}:ones (A++B)=ones A++ones B:=List.map_append
theorem W.ol_ix{R:Type}{Q:R->Prop}{i:Nat}{a:List Int}(h:OL σ T t cs x)(ha:cs[i]?=some a){K:AVal->Option R}(k:∀y,SlV .int (σ.at T 0) a y->W (K y) Q):W (YtafbldhedkallaaGreatDoor.A.ixA σ x 1 (i:Int) fun p=>YtafbldhedkallaaGreatDoor.A.ld σ p .V K) Q:=by
 obtain⟨ws,h1,h2,h3⟩:=h;obtain⟨w,e1,e2⟩:=h3 i a ha;exact W.ixV h1.slT e1 (k w e2)
def y1p_(l:List Int):List Int:=l.map fun v=>lit v 8
end
end
section
open Go
section
variable{σ τ:Heap}{T T':Tg}{e:EnP}{n k id t:Nat}{x y:AVal}{A c:List Int}{C cs:List (List Int)}{w:Nat}{sc:(List Int×List Int×List Int×List Int)×Int×Int}{gl:Bool}
theorem yh5_{vars:Nat}(E:En gl σ T e n C w)(hn:Tn σ T)(hn4:n<=4000)(hv:vars<=4000) :
  W (S.z101 (.ptr e.le 0) (vars:Int) σ) fun r=>∃T',Hop eI σ T r.2 T'/\En gl r.2 T' e (n+(vars-n)) C w:=by
 obtain⟨s,hs,ln,lg,since,least,E,L,hm,hg⟩:=E;refine(y9p_ (vars:=vars) E.toW hn L.si.ti.len (Nat.le_refl _) hn4 hv).mono fun r hr=>?_;obtain⟨T',hs',H,E',hmm⟩:=hr;exact⟨T',H,_,hs',ln,lg,since,least,E',L.grow _ (fun x=>by rw[hmm];exact or_congr Iff.rfl (by omega)),hm,hg⟩
end
end
section
open Go
section
variable{σ τ:Heap}{T T':Tg}{e:EnP}{n k id t li:Nat}{x y:AVal}{A c:List Int}{C cs:List (List Int)}{w:Nat}{sc:(List Int×List Int×List Int×List Int)×Int×Int}{gl:Bool}
def iI:Nat->Bool:=fun j=>eK j||j==36||j==38
theorem Hop.ki(H:Hop eK σ T τ T'):Hop iI σ T τ T':=H.sub fun i hi=>by simp[iI,hi]
theorem Hop.oi{u:Nat}(H:Hop (only u) σ T τ T')(hu:iI u=true:=by rfl):Hop iI σ T τ T':=H.sub fun i hi=>by
 have:i=u:=by simpa using hi
 rw[this];exact hu
structure IncG(gl:Bool)(σ:Heap)(T:Tg)(li:Nat)(e:EnP)(n:Nat)(C:List (List Int))(w:Nat)(xc:AVal):Prop where
 obj:Loc (σ.at T 36) li [.ptr e.le 0,.int .i64 n,xc,.int .i64 (C.flatten.length:Int)]
 en:En gl σ T e n C w
 cl:OL σ T 38 C xc
abbrev Inc(σ:Heap)(T:Tg)(li:Nat)(e:EnP)(n:Nat)(C:List (List Int))(w:Nat)(xc:AVal):Prop:=IncG false σ T li e n C w xc
variable{xc:AVal}
theorem IncG.hop{u:Nat}(h:IncG gl σ T li e n C w xc)(H:Hop (only u) σ T τ T')(h1:(only u) 36=false:=by rfl)(h2:(only u) 38=false:=by rfl)(h0:(only u) 0=false:=by rfl)(ht:(decide (15<=u)&&decide (u<=29))||(decide (35<=u)&&decide (u<=49))=true:=by rfl):IncG gl τ T' li e n C w xc:=
 ⟨h.obj.hop H h1,h.en.hop H ht,h.cl.hop H h2 h0⟩
theorem IncG.hle(h:IncG gl σ T li e n C w xc)(L:Hle σ τ):IncG gl τ T li e n C w xc:=⟨h.obj.hle L,h.en.hle L,h.cl.hle L⟩
theorem yc7_(gl:Bool)(h:ScV (σ.at T 0) x sc)(hn:Tn σ T)(hs:ScS sc)(hm:sc.2.1<=0) :
  W (S.z26 x σ) fun r=>∃T' li e xc,r.1=.ptr li 0/\Hop iI σ T r.2 T'/\IncG gl r.2 T' li e 0 [] 0 xc:=by
 obtain⟨x0,x1,x2,x3,rfl,h0,h1,h2,h3⟩:=h;unfold S.z26
 repeat' (with_reducible refine W.e3 ?_)
 refine W.new0 hn fun l2 τ1 _ L1 k1 hn1=>?_;have hx:ScV (τ1.at T 0) (.agg [x0,x1,x2,x3,.int .i64 sc.2.1,.int .i64 sc.2.2]) sc:=⟨x0,x1,x2,x3,rfl,h0.hle L1,h1.hle L1,h2.hle L1,h3.hle L1⟩;have HH:Hop iI σ T τ1 T:=Hop.of hn L1
 repeat' with_reducible first|refine W.bind ?_|refine W.u1 ?_
 refine W.mono (ygc_ hx hn1 hs) fun r hr=>?_;obtain⟨r,τ2⟩:=r;obtain⟨T2,lq,er,H2,hq⟩:=hr;dsimp only at er H2 hq⊢;subst er;replace HH:=HH.trans H2.ki;unfold S.z27
 repeat' (with_reducible refine W.bind ?_)
 refine W.mono (yex_ (gl:=gl) (vars:=0) hq hm HH.tn (by omega)) fun r hr=>?_;obtain⟨r,τ3⟩:=r;obtain⟨T3,e,s,hs,er,H3,hE,hL,hmk⟩:=hr;dsimp only at er H3 hE⊢;subst er;replace HH:=HH.trans H3.ek.ki
 repeat' (with_reducible refine W.scP ?_)
 have hn:=HH.tn;refine W.newT 36 hn fun li τ4 T4 hli H4 k4 hnτ4=>?_
 repeat' with_reducible refine W.ret ?_
 exact⟨T4,li,e,.nils,rfl,HH.trans H4.oi,k4,⟨s,hs,[],[],0,16,hE.hopE H4,hL,hmk,fun _=>⟨rfl,rfl,rfl,rfl⟩⟩,OL.nil⟩
theorem ydf_{m:Nat}(h:IncG gl σ T li e n C w xc)(hn:Tn σ T)(h1:1<=m)(hm:n+m<=4000) :
  W (S.z30 (.ptr li 0) (m:Int) σ) fun r=>∃T',r.1=(n:Int)+1/\Hop iI σ T r.2 T'/\IncG gl r.2 T' li e (n+m) C w xc:=by
 obtain⟨k1,E,hO⟩:=h;have w1:IntKind.i64.wrap (4000-(n:Int))=4000-n:=by rw[wrapS]<;>omega
 have w2:IntKind.i64.wrap ((n:Int)+(m:Int))=((n+m:Nat):Int):=by rw[wrapS]<;>omega
 have w3:IntKind.i64.wrap ((n:Int)+1)=(n:Int)+1:=by rw[wrapS]<;>omega
 unfold S.z30
 repeat' (with_reducible refine W.bind ?_)
 refine W.condF (by simp;omega) ?_
 repeat' with_reducible first|refine W.ret ?_|refine W.asI ?_|refine W.fldp ?_|refine W.nck ?_|refine W.u0 ?_
 rw[w1];refine W.condF (by simp;omega) ?_
 repeat' with_reducible first|refine W.asI ?_|refine W.fldp ?_|refine W.nck ?_|refine W.u0 ?_
 rw[w2];refine W.stT k1 hn (kc_ (by rfl)) fun τ1 H1 k1 hnτ1=>?_;replace E:=E.hop H1;replace hO:=hO.hop H1
 repeat' with_reducible first|refine W.bind ?_|refine W.asI ?_|refine W.asV ?_|refine W.fldp ?_|refine W.nck ?_|refine W.u0 ?_
 refine W.mono (yh5_ (vars:=n+m) E H1.tn (by omega) (by omega)) fun r hr=>?_;obtain⟨r,τ2⟩:=r;obtain⟨T2,H2,E⟩:=hr;dsimp only at H2 E⊢;rw[show n+(n+m-n)=n+m from by omega]at E
 repeat' with_reducible refine W.ret ?_
 exact⟨T2,w3,H1.oi.trans H2.ek.ki,k1.hop H2.ek,E,hO.hop H2.ek⟩
theorem yh6_{m:Int}(h:IncG gl σ T li e n C w xc)(hn4:n<=4000)(h1:m<1\/4000-(n:Int)<m) :
  W (S.z30 (.ptr li 0) m σ) fun r=>r=(0,σ):=by
 obtain⟨k1,E,hO⟩:=h;have w1:IntKind.i64.wrap (4000-(n:Int))=4000-n:=by rw[wrapS]<;>omega
 unfold S.z30
 repeat' (with_reducible refine W.bind ?_)
 (with_reducible refine W.cnd (fun hm1=>?_) (fun hm1=>?_)<;>(try simp only[qq,Kd.ty]at hm1)<;>(try (exfalso;omega)))
 ·repeat' with_reducible refine W.ret ?_
  refine W.condT rfl ?_
  repeat' with_reducible refine W.ret ?_
  rfl
 ·repeat' with_reducible first|refine W.ret ?_|refine W.asI ?_|refine W.fldp ?_|refine W.nck ?_|refine W.u0 ?_
  rw[w1];refine W.condT (by simp;omega) ?_
  repeat' with_reducible refine W.ret ?_
  rfl
theorem yju_(h:IncG gl σ T li e n C w xc):S.z33 (.ptr li 0) σ=some (n:Int):=by
 obtain⟨r,er,rfl⟩:W (S.z33 (.ptr li 0) σ) fun r=>r=(n:Int):=by
  have k1:=h.obj;unfold S.z33
  repeat' with_reducible first|refine W.ret ?_|refine W.asI ?_|refine W.fldp ?_|refine W.nck ?_|refine W.u0 ?_
  rfl
 exact er
end
end
section
open Go
section
variable{σ τ:Heap}{T T':Tg}{e:EnP}{n k id t li:Nat}{x y xc:AVal}{A c:List Int}{C cs:List (List Int)}{w:Nat}{gl:Bool}
theorem yff_{l1:Nat}(h:IncG gl σ T li e n C w xc)(hn4:n<=4000)(hc:SlV .int σ A x)(hAL:A.length<=1000000)(hl1:Loc (σ.at T 0) l1 [.ptr li 0]){f:AVal}(hf:∀l∈A,∀{Rt:Type} (K:AVal->Heap->Option Rt),callV S.z161.T f [.int .i64 l] σ K=(S.z36 l (.ptr l1 0) σ).bind fun x=>K (retV [.B] x) σ) :
  W (S.z158 x f σ) fun r=>r=(A.any fun l => !isL l n,σ):=by
 refine y1g_ (fun l => !isL l n) hc (by omega) fun l hl Rt K=>?_;rw[hf l hl];have e1:S.z36 l (.ptr l1 0) σ=some (!isL l n):=by
  obtain⟨r,er,rfl⟩:W (S.z36 l (.ptr l1 0) σ) fun r=>r = !isL l n:=by
   have k1:=h.obj;unfold S.z36
   repeat' with_reducible first|refine W.bind ?_|refine W.asI ?_|refine W.asV ?_|refine W.fldp ?_|refine W.nck ?_|refine W.u0 ?_
   refine W.to (y1w_ (by omega) (by omega)) ?_
   repeat' with_reducible refine W.ret ?_
   rfl
  exact er
 rw[e1];rfl
theorem yhh_(h:IncG gl σ T li e n C w xc)(hn:Tn σ T)(hn4:n<=4000)(hc:SlV vIs σ cs x)(hb:∀c∈cs,∀l∈c,isL l n=true)(h1:C.length+cs.length<=20000)(h2:C.flatten.length+cs.flatten.length<=80000) :
  W (S.z35 (.ptr li 0) x σ) fun r=>r.1=.nili/\Hle σ r.2:=by
 unfold S.z35
 repeat' (with_reducible refine W.scP ?_)
 refine W.new0 hn fun l1 τ1 _ L1 k1 hn1=>?_;replace h:=h.hle L1;have hcu:=hc.mono L1;have ko:=h.obj
 repeat' with_reducible first|refine W.bind ?_|refine W.asI ?_|refine W.asV ?_|refine W.fldp ?_|refine W.len (by assumption) ?_|refine W.nck ?_|refine W.u0 ?_
 refine W.mono (P:=fun r=>r=(.inl ((C.flatten.length+cs.flatten.length:Nat):Int),τ1)) ?_ fun r hr=>?_
 ·refine W.loop cs.length (fun i (z:Int×Int) τ=>z=(((C.flatten.length+(cs.take i).flatten.length:Nat):Int),(i:Int))/\τ=τ1) ⟨by simp,rfl⟩ fun i z τ2 hi hI=>?_
  obtain⟨rfl,rfl⟩:=hI;have wr:IntKind.i64.wrap ((i:Int)+1)=((i+1:Nat):Int):=by rw[wrapS]<;>omega
  unfold S.z35.b0;dsimp only
  (with_reducible refine W.cnd (fun hlt=>?_) (fun hlt=>?_)<;>(try simp only[qq,Kd.ty]at hlt)<;>(try (exfalso;omega)))
  ·obtain⟨a,ha⟩:=y3_ (xs:=cs) (i:=i) (by omega)
   have ham:=ka_ ha;have hfl:=y5z_ ham;refine W.ixkLS hcu (Hle.refl _) ha fun y hy=>?_;refine W.bind ?_;refine W.mono (yff_ h hn4 hy (by omega) k1 (fun l hl Rt K=>rfl)) fun r hr=>?_;subst hr;dsimp only;refine W.condF (by rw[List.any_eq_false];intro l hl;simp[hb a ham l hl]) ?_
   repeat' with_reducible first|refine W.next ?_|refine W.len (by assumption) ?_
   have htk:cs.take (i+1)=cs.take i++[a]:=by rw[kk_,ha];rfl
   have hle:=y1i_ cs (i+1);rw[htk]at hle⊢;rw[List.flatten_append,List.length_append]at hle⊢;have he:[a].flatten.length=a.length:=by simp
   rw[he]at hle⊢;refine⟨by omega,?_,rfl⟩;rw[wr]
   congr 1
   rw[wrapS]<;>omega
  ·repeat' (with_reducible refine W.stop ?_)
   have:i=cs.length:=by omega
   subst this;rw[List.take_length]
 ·subst hr
  dsimp only;have hO:=h.cl.sl;refine W.bind ?_;refine W.mono (P:=fun r=>r=false) ?_ fun r hr=>?_
  ·repeat' with_reducible first|refine W.asV ?_|refine W.fldp ?_|refine W.len (by assumption) ?_|refine W.nck ?_|refine W.u0 ?_
   have w1:IntKind.i64.wrap ((C.length:Int)+(cs.length:Int))=((C.length+cs.length:Nat):Int):=by rw[wrapS]<;>omega
   rw[w1];refine W.condF (decide_eq_false (by omega)) ?_
   repeat' with_reducible refine W.ret ?_
   exact decide_eq_false (by omega)
  subst hr;refine W.condF rfl ?_
  repeat' with_reducible refine W.ret ?_
  exact⟨rfl,L1⟩
def uI:Nat->Bool:=fun j=>eI j||j==36||j==38
theorem Hop.eu(H:Hop eI σ T τ T'):Hop uI σ T τ T':=H.sub fun i hi=>by simp[uI,hi]
theorem Hop.ou{u:Nat}(H:Hop (only u) σ T τ T')(hu:uI u=true:=by rfl):Hop uI σ T τ T':=H.sub fun i hi=>by
 have:i=u:=by simpa using hi
 rw[this];exact hu
theorem Hop.ui(H:Hop uI σ T τ T'):Hop iI σ T τ T':=H.sub fun i hi=>by
 simp only[uI,Bool.or_eq_true]at hi;simp only[iI,eK,eJ,Bool.or_eq_true];rcases hi with (h|h)|h
 ·exact .inl (.inl (.inl (.inl h)))
 ·exact .inl (.inr h)
 ·exact .inr h
theorem SlV.rawIs(h:SlV vRaw σ [x] y)(hc:SlV .int σ c x):SlV vIs σ [c] y:=by
 rcases h with ⟨_,q⟩|⟨l,off,k,md,us,rfl,g2,g3,g4,g5⟩
 ·cases q
 ·refine .inr ⟨l,off,k,md,us,rfl,g2,g3,g4,fun i a hi=>?_⟩
  match i,hi with
  |0,hi=>cases hi;exact⟨x,g5 0 x rfl,hc⟩
  |i+1,hi=>simp at hi
theorem ygf_{u:Nat}(hu:uI u=false)(h:IncG gl σ T li e n C w xc)(hn:Tn σ T)(hn4:n<=4000)(hw:w<=900000000)(hc:SlV .int (σ.at T u) c x)(hb:∀l∈c,isL l n=true)(h1:C.length+1<=20000)(h2:C.flatten.length+c.length<=80000) :
  W (S.z28 (.ptr li 0) x σ) fun r=>r.1=.nili/\∃T' xc',Hop uI σ T r.2 T'/\IncG gl r.2 T' li e n (C++[c]) (w+1) xc':=by
 simp only[uI,Bool.or_eq_false_iff,beq_eq_false_iff_ne]at hu;obtain⟨⟨hu1,hu2⟩,hu3⟩:=hu;have hu4:(only 36) u=false:=by simp[hu2]
 have hu5:(only 38) u=false:=by simp[hu3]
 unfold S.z28;refine W.scalS hc.up ?_;refine W.new1 (v:=vRaw) hn x rfl (fun τ L=>rfl) fun l1 τ1 _ L1 hcs hn=>?_;replace h:=h.hle L1;replace hc:=hc.hle L1;refine W.bind ?_;unfold S.z34;refine W.bind ?_;refine W.mono (yhh_ h hn hn4 (hcs.up.rawIs hc.up) (fun d hd=>by
  have:d=c:=by simpa using hd
  rw[this];exact hb) (by simpa using h1) (by simpa using h2)) fun r hr=>?_
 obtain⟨r,τ2⟩:=r;obtain⟨er,L2⟩:=hr;dsimp only at er L2⊢;subst er;replace h:=h.hle L2;replace hc:=hc.hle L2;replace hcs:=hcs.hle L2;replace hn:=hn.mono L2;refine W.fnil (f:=none) rfl (W.condF rfl ?_);have hcsu:=hcs.up
 repeat' with_reducible first|refine W.bind ?_|refine W.len (by assumption) ?_
 refine W.mono (P:=fun r=>∃T' xc',Hop uI τ2 T r.2 T'/\IncG gl r.2 T' li e n (C++[c]) (w+1) xc') ?_ fun r hr=>?_
 ·refine W.loop 1 (fun i (z:Int) τ=>z=(i:Int)/\∃T' xc',Hop uI τ2 T τ T'/\SlV vRaw (τ.at T' 0) [x] (.sl l1 0 1 none)/\SlV .int (τ.at T' u) c x/\IncG gl τ T' li e n (C++[c].take i) (w+i) xc') ⟨rfl,T,xc,Hop.refl hn,hcs,hc,by simpa using h⟩ fun i z τ3 hi hI=>?_
  obtain⟨rfl,T3,xc3,HH,hcs,hy,h⟩:=hI;have wr:IntKind.i64.wrap ((i:Int)+1)=((i+1:Nat):Int):=by rw[wrapS]<;>omega
  obtain⟨k1,E,hO⟩:=h;unfold S.z34.b0;by_cases hi0:i=0
  ·subst hi0
   refine W.condT rfl ?_;refine W.ixV (i:=0) hcs.up rfl ?_;have hyu:=hy.up
   repeat' with_reducible first|refine W.bind ?_|refine W.asV ?_|refine W.fldp ?_|refine W.nck ?_|refine W.u0 ?_
   refine W.mono (yhl_ E HH.tn hn4 (by omega) hy (by omega) hb) fun r hr=>?_;obtain⟨r,τ4⟩:=r;obtain⟨_,T4,H4,E⟩:=hr;dsimp only at H4 E⊢;have hn:=HH.tn;replace HH:=HH.trans H4.eu;replace hy:=hy.hop H4 hu1;replace k1:=k1.hop H4;replace hO:=hO.hop H4;replace hcs:=hcs.hop H4;replace hn:=H4.tn
   repeat' with_reducible first|refine W.bind ?_|refine W.asV ?_|refine W.fldp ?_|refine W.nck ?_|refine W.u0 ?_
   refine W.mono (y69_ hy hn (by omega)) fun r hr=>?_;obtain⟨yc,τ5⟩:=r;obtain⟨L5,hA5,_⟩:=hr;dsimp only at L5 hA5⊢;have hyc:SlV .int (τ5.at T4 0) c yc:=hA5.at0 fun k hk=>hn.z k hk;replace HH:=HH.hle L5;replace E:=E.hle L5;replace k1:=k1.hle L5;replace hO:=hO.hle L5;replace hcs:=hcs.hle L5;replace hy:=hy.hle L5;replace hn:=hn.mono L5
   repeat' with_reducible first|refine W.asV ?_|refine W.chk rfl ?_|refine W.scalS (by assumption) ?_|refine W.u0 ?_
   have hlC:(C++List.take 0 [c])=C:=by simp
   rw[hlC]at E hO k1;refine W.ol_push hO hn hyc (by decide) (by omega) fun x' τ6 T6 hO H6=>?_;replace HH:=HH.trans H6.ou;replace E:=E.hop H6;replace hy:=hy.hop H6 hu5;replace k1:=k1.hop H6;replace hcs:=hcs.hop H6;replace hn:=H6.tn;have hOs:=hO.sl
   repeat' with_reducible first|refine W.fldp ?_|refine W.scalS (by assumption) ?_|refine W.nck ?_
   refine W.stT k1 hn (kc_ (by rfl)) fun τ7 H7 k1 hnτ7=>?_;replace HH:=HH.trans H7.ou;replace E:=E.hop H7;replace hy:=hy.hop H7 hu4;replace hO:=hO.hop H7;replace hcs:=hcs.hop H7;replace hn:=H7.tn;have hyu:=hy.up
   repeat' with_reducible first|refine W.asI ?_|refine W.fldp ?_|refine W.len (by assumption) ?_|refine W.nck ?_|refine W.u0 ?_
   have wl:IntKind.i64.wrap ((C.flatten.length:Int)+(c.length:Int))=((C++[c]).flatten.length:Int):=by
    have e:(C++[c]).flatten.length=C.flatten.length+c.length:=by rw[List.flatten_append,List.length_append];simp
    rw[e];rw[wrapS]<;>omega
   rw[wl];refine W.stT k1 hn (kc_ (by rfl)) fun τ8 H8 k1 hnτ8=>?_;replace HH:=HH.trans H8.ou;replace E:=E.hop H8;replace hy:=hy.hop H8 hu4;replace hO:=hO.hop H8;replace hcs:=hcs.hop H8;replace hn:=H8.tn
   repeat' (with_reducible refine W.next ?_)
   exact⟨by omega,wr,T6,x',HH,hcs,hy,k1,E,hO⟩
  ·have hi1:i=1:=by omega
   subst hi1;refine W.condF rfl ?_
   repeat' (with_reducible refine W.stop ?_)
   exact⟨T3,xc3,HH,k1,E,hO⟩
 ·obtain⟨r,τ3⟩:=r
  obtain⟨T3,xc3,HH,h⟩:=hr
  repeat' with_reducible refine W.ret ?_
  exact⟨rfl,T3,xc3,(Hop.of ‹Tn σ T› (L1.trans L2)).trans HH,h⟩
theorem ybx_(h:IncG gl σ T li e n C w xc)(hn:Tn σ T)(hn4:n<=4000)(hw:w<=900000000)(hc:SlV .int (σ.at T 0) c x)(hb:∀l∈c,isL l n=true)(h1:C.length+1<=20000)(h2:C.flatten.length+c.length<=80000) :
  W (S.z28 (.ptr li 0) x σ) fun r=>r.1=.nili/\∃T' xc',Hop iI σ T r.2 T'/\IncG gl r.2 T' li e n (C++[c]) (w+1) xc':=
 (ygf_ (u:=0) rfl h hn hn4 hw hc hb h1 h2).mono fun r hr=>⟨hr.1,hr.2.elim fun T' q=>q.elim fun xc' q=>⟨T',xc',q.1.ui,q.2⟩⟩
end
end
section
open Go
section
variable{σ τ:Heap}{T T':Tg}{e:EnP}{n k id t li:Nat}{x y xc xl:AVal}{A c l:List Int}{C cs:List (List Int)}{w:Nat}{sc:(List Int×List Int×List Int×List Int)×Int×Int}
theorem Hop.fi(H:Hop frL σ T τ T'):Hop iI σ T τ T':=H.sub fun i hi=>by simp[frL,iI,eK]at hi⊢;omega
theorem ygk_(hn:Tn σ T):W (S.z115 σ) fun r=>r.1=true/\∃T',Hop iI σ T r.2 T':=by
 unfold S.z115;refine W.bind ?_;refine W.mono (yc7_ false (sc:=(([],[],[],[]),0,0)) ⟨_,_,_,_,rfl,.inl ⟨rfl,rfl⟩,.inl ⟨rfl,rfl⟩,.inl ⟨rfl,rfl⟩,.inl ⟨rfl,rfl⟩⟩ hn ⟨by simp,by simp,by simp,by simp⟩ (Int.le_refl _)) fun r hr=>?_;obtain⟨r,τ1⟩:=r;obtain⟨T1,li,e,xc,er,H1,h⟩:=hr;dsimp only at er H1 h⊢;subst er;refine W.bind ?_;refine W.condT (y:=some (false,τ1)) rfl ?_;refine W.condT rfl ?_;refine W.bind ?_;refine W.mono (ydf_ (m:=2) h H1.tn (by omega) (by omega)) fun r hr=>?_;obtain⟨r,τ2⟩:=r;obtain⟨T2,er,H2,h⟩:=hr;dsimp only at er H2 h⊢;subst er;refine W.condT rfl ?_;refine W.bind ?_;refine W.to (yju_ h) ?_;refine W.ret ?_;refine W.condT rfl ?_;refine W.bind ?_;refine W.mono (yh6_ (m:=0) h (by omega) (by omega)) fun r hr=>?_;subst hr
 repeat' with_reducible refine W.ret ?_
 exact⟨rfl,T2,H1.trans H2⟩
end
end
section
open Go
section
variable{σ τ:Heap}{T T':Tg}{e:EnP}{n k id t i:Nat}{x y xm xa x0 p:AVal}{A c l core:List Int}{C cs ass more:List (List Int)}{w:Nat}{sc:(List Int×List Int×List Int×List Int)×Int×Int}{gl:Bool}
def gd8(C:List (List Int)):Prop:=∀c∈C,c.length<=5/\ye_ 8 c
theorem yhm_{A:List Int}(h:∀a∈A,a≠0/\-8<=a/\a<=8):gd8 (ones A):=fun c hc=>by
 obtain⟨a,ha,rfl⟩:=kq_.1 hc;exact⟨by simp,fun l hl=>by
  have:l=a:=by simpa using hl
  subst this;exact h l ha⟩
theorem yd6_{C D:List (List Int)}(h:gd8 C)(k:gd8 D):gd8 (C++D):=fun c hc=>(kh_.1 hc).elim (h c) (k c)
end
end
section
open Go
section
variable{σ τ:Heap}{T T':Tg}{e:EnP}{n k t li m l:Nat}{x y z xc:AVal}{A c:List Int}{C cs:List (List Int)}{w:Nat}{ns:List Nat}{ws:List AVal}{I:Nat->Bool}{s:PS}{hs:List Int}{ln:List (Int×Int)}{lg:List (Bool×List Int)}{since least:Int}{h:PH}{xs xl xg:AVal}{conf bump most:Int}{sv:List Int}{gl:Bool}{ws':List (Bool×AVal)}
theorem yf5_(h:IncG gl σ T li e n C w xc)(hn:Tn σ T)(hb:C.length<=100000)(hcl:∀c∈C,c.length<=1000000) :
  W (S.z29 (.ptr li 0) σ) fun r=>∃T' y,r.1=.agg [.int .i64 n,y]/\Hop (only 39) σ T r.2 T'/\SlV vIs (r.2.at T' 0) C y:=by
 unfold S.z29;refine W.newT 39 hn fun l1 τ1 T1 hl1 H1 k39 hnτ1=>?_;obtain⟨k1,E,hO⟩:=h.hop H1;have hu:=hO.sl
 repeat' with_reducible first|refine W.bind ?_|refine W.asI ?_|refine W.asV ?_|refine W.fldp ?_|refine W.nck ?_|refine W.u0 ?_
 refine W.mono (ycy_ hu (by omega) hcl) fun r hr=>?_;obtain⟨y,τ2⟩:=r;obtain⟨L2,hA⟩:=hr;dsimp only at L2 hA⊢;have hn1:=H1.tn;have hy:=hA.atF fun k hk=>hn1.z k hk;replace k1:=k1.hle L2;replace k39:=k39.hle L2;have hn:=hn1.mono L2;have hyu:=hy.up
 repeat' with_reducible first|refine W.asI ?_|refine W.chk rfl ?_|refine W.scalS (by assumption) ?_|refine W.u0 ?_
 refine W.stT k39 hn (kc_ (by rfl)) fun τ3 H3 k39 hnτ3=>?_
 repeat' with_reducible first|refine W.ret ?_|refine W.u1 ?_
 exact⟨T1,y,rfl,(H1.hle L2).trans H3,hy.hop H3⟩
end
end
section
open Go
section
variable{σ τ:Heap}{T T':Tg}{t:Nat}{x y:AVal}{cs:List (List Int)}{sc:(List Int×List Int×List Int×List Int)×Int×Int}
theorem OL.freeze(h:OL σ T t cs x)(hn:Tn σ T)(ht:t≠0):∃T',Hop (only t) σ T σ T'/\SlV vIs (σ.at T' 0) cs x:=by
 obtain⟨ws,h1,h2,h3⟩:=h;have h0:(only t) 0=false:=by simp;omega
 rcases h1 with ⟨rfl,rfl⟩|⟨l,off,c,us,rfl,g1,g2,g3,g4,g5⟩
 ·exact⟨T,Hop.refl hn,.inl ⟨rfl,km_ (by simpa using h2.symm)⟩⟩
 ·obtain⟨e1,e2⟩:=y19_.1 g2
  have g1:l<σ.next:=g1;have H:Hop (only t) σ T σ (T.upd l 0):=⟨Nat.le_refl _,⟨fun k hk=>by rw[y1f_ (by omega)];exact hn.z k hk⟩,fun k _ hI=>y1f_ (fun e=>by subst e;simp[only,e1]at hI),fun k o _ _ hg=>hg⟩;refine⟨T.upd l 0,H,.inr ⟨l,off,c,.rw,us,by rw[h2],g1,at_of y10_ e2,by rw[<-h2];exact g4,fun i a hi=>?_⟩⟩;obtain⟨w,q1',q2'⟩:=h3 i a hi;exact⟨w,g5 i w q1',q2'.hop H h0⟩
end
end
section
open Go
theorem W.ixZ{R α:Type}{v:Vw α}{σ:Heap}{xs:List α}{x:AVal}{i:Nat}{Q:R->Prop}(h:SlV v σ xs x){z:Int}(hz:z=(i:Int))(hi:i<xs.length){sz:Nat}{K:AVal->Option R}(c:W (K (ptrK x sz i 0)) Q)(hs:sz=v.sz:=by rfl):W (ixA σ x sz z K) Q:=by
 subst hz;exact W.ixO h hi c hs
theorem y7k_{σ:Heap}{l:Nat}{x:AVal}{vs:List Int}(h1:Loc σ l [x])(h2:SlV .int σ vs x)(hv:Vok vs)(hl:0<vs.length)(hb:vs.length<=1000000){k:Int}(hin:inB k=true):S.z124 (.ptr l 0) k σ=some (val vs k):=by
 obtain⟨r,e,rfl⟩:W (S.z124 (.ptr l 0) k σ) fun r=>r=val vs k:=by
  simp only[inB,Bool.and_eq_true,decide_eq_true_eq]at hin;have w:IntKind.i64.wrap ((vs.length:Int)-1)=(vs.length:Int)-1:=by rw[wrapS]<;>omega
  unfold S.z124 val
  repeat' with_reducible first|refine W.bind ?_|refine W.asV ?_|refine W.fldp ?_|refine W.len (by assumption) ?_|refine W.e0 ?_|refine W.nck ?_
  rw[w];refine W.to (y48_ (by omega) (by omega)) ?_
  repeat' with_reducible refine W.ret ?_
  by_cases hi:isL k ((vs.length:Int)-1)=true
  ·have hi':=yh_.1 hi
   refine W.condF (by simp[hi]) ?_;rw[if_neg (by omega)]
   repeat' with_reducible first|refine W.bind ?_|refine W.asV ?_|refine W.fldp ?_|refine W.e0 ?_|refine W.nck ?_
   refine W.to (y97_ ⟨by omega,by omega⟩) ?_
   repeat' with_reducible refine W.ret ?_
   obtain⟨a,ha⟩:∃a,vs[k.natAbs]?=some a:=⟨_,kb_ (by omega)⟩;have hg:vs.getD k.natAbs 0=a:=by rw[kd_,ha];rfl
   have hok:=y3z_ hv k.natAbs;rw[hg]at hok⊢;refine W.ixIc h2 ha ?_
   repeat' (with_reducible refine W.bind ?_)
   (with_reducible refine W.cnd (fun hc=>?_) (fun hc=>?_)<;>(try simp only[qq,Kd.ty]at hc)<;>(try (exfalso;omega)))
   ·repeat' with_reducible refine W.ret ?_
    by_cases h0:a=0
    ·subst h0
     refine W.condF (by rfl) ?_
     repeat' with_reducible refine W.ret ?_
     simp
    ·refine W.condT (by simpa using h0) ?_
     repeat' with_reducible refine W.ret ?_
     rw[if_pos ⟨by omega,h0⟩,wrapS]<;>omega
   ·repeat' with_reducible refine W.ret ?_
    refine W.condF rfl ?_
    repeat' with_reducible refine W.ret ?_
    rw[if_neg (by omega)]
  ·refine W.condT (by simpa using hi) ?_
   repeat' with_reducible refine W.ret ?_
   have:¬(k≠0/\-((vs.length:Int)-1)<=k/\k<=(vs.length:Int)-1):=fun e=>hi (yh_.2 e);rw[if_pos (by omega)]
 exact e
structure RA(σ:Heap)(T:Tg)(l:Nat)(x:AVal)(vs:List Int):Prop where
 loc:Loc (σ.at T 6) l [x]
 own:Own .int (σ.at T 7) vs x
theorem ybo_{σ:Heap}{T:Tg}{l vars:Nat}{x:AVal}{vs:List Int}{k:Int}(h:RA σ T l x vs)(hn:Tn σ T)(hv:Vok vs)(hlen:vs.length=vars+1)(hvl:vars<=4000)(h0:k≠0)(hk:k.natAbs<=vars) :
  W (S.z123 (.ptr l 0) k σ) fun r=>(val vs k=2/\r=(false,σ))\/(val vs k≠2/\r.1=true/\Hop (only 7) σ T r.2 T/\RA r.2 T l x (setV vs k)):=by
 obtain⟨hl,hO⟩:=h;have hin:inB k=true:=by simp[inB];omega
 have w:IntKind.i64.wrap ((vs.length:Int)-1)=(vs.length:Int)-1:=by rw[wrapS]<;>omega
 have hi:isL k ((vs.length:Int)-1)=true:=yh_.2 ⟨h0,by omega,by omega⟩;unfold S.z123
 repeat' with_reducible first|refine W.bind ?_|refine W.asV ?_|refine W.fldp ?_|refine W.nck ?_|refine W.u0 ?_|refine W.u3 ?_
 rw[w];refine W.to (y48_ (by omega) (by omega)) ?_
 repeat' with_reducible refine W.ret ?_
 refine W.condF (by simp[hi]) ?_
 repeat' (with_reducible refine W.bind ?_)
 refine W.to (y7k_ hl.up hO.slT hv (by omega) (by omega) hin) ?_
 repeat' with_reducible refine W.ret ?_
 (with_reducible refine W.cnd (fun h2=>?_) (fun h2=>?_)<;>(try simp only[qq,Kd.ty]at h2)<;>(try (exfalso;omega)))
 ·repeat' with_reducible refine W.ret ?_
  exact .inl ⟨h2,rfl⟩
 ·repeat' (with_reducible refine W.bind ?_)
  (with_reducible refine W.cnd (fun hp=>?_) (fun hp=>?_)<;>(try simp only[qq,Kd.ty]at hp)<;>(try (exfalso;omega)))
  ·repeat' with_reducible first|refine W.asV ?_|refine W.fldp ?_|refine W.nck ?_|refine W.u0 ?_
   refine W.ixZ hO.slT (i:=k.natAbs) (by omega) (by omega) ?_;refine W.own_setI hO hn (by omega) fun τ hO H hnx=>?_
   repeat' with_reducible refine W.ret ?_
   refine .inr ⟨h2,rfl,H,hl.hop H,?_⟩;unfold setV;rw[if_pos hp];exact hO
  ·have w2:IntKind.i64.wrap (0-k) = -k:=by rw[wrapS]<;>omega
   repeat' with_reducible first|refine W.asV ?_|refine W.fldp ?_|refine W.nck ?_|refine W.u0 ?_
   rw[w2];refine W.ixZ hO.slT (i:=k.natAbs) (by omega) (by omega) ?_;refine W.own_setI hO hn (by omega) fun τ hO H hnx=>?_
   repeat' with_reducible refine W.ret ?_
   refine .inr ⟨h2,rfl,H,hl.hop H,?_⟩;unfold setV;rw[if_neg (by omega)];exact hO
theorem ycl_{σ:Heap}{l:Nat}{x y:AVal}{vs c:List Int}(h1:Loc σ l [x])(h2:SlV .int σ vs x)(hv:Vok vs)(hl:0<vs.length)(hb:vs.length<=1000000)(hy:SlV .int σ c y)(hin:∀l∈c,inB l=true/\l≠0)(hcb:c.length<=1000000) :
  W (S.z121 (.ptr l 0) y σ) fun r=>ClW vs c r:=by
 unfold S.z121
 repeat' (with_reducible refine W.bind ?_)
 refine W.loopP c.length (fun i (z:Int×Int×Int)=>z.2.2=(i:Int)/\0<=z.2.1/\z.2.1<=i/\(∀k∈c.take i,val vs k≠1)/\(z.2.1=0↔∀k∈c.take i,val vs k=2)/\(z.2.1=0->z.1=0)/\(z.2.1≠0->z.1∈c.take i/\val vs z.1=0)/\(z.2.1=1->∀k∈c.take i,val vs k≠2->k=z.1) /\
  (2<=z.2.1->∃j∈c.take i,∃k∈c.take i,j≠k/\val vs j≠2/\val vs k≠2)) ⟨rfl,by simp,by simp,by simp,by simp,by simp,by simp,by simp,by simp⟩ fun i z hi hI=>?_
 obtain⟨one,many,j⟩:=z;obtain⟨rfl,m0,m1,i1,i2,i3,i4,i5,i6⟩:=hI;dsimp only at m0 m1 i2 i3 i4 i5 i6;unfold S.z121.b0;dsimp only
 repeat' (with_reducible refine W.len (by assumption) ?_)
 (with_reducible refine W.cnd (fun hc=>?_) (fun hc=>?_)<;>(try simp only[qq,Kd.ty]at hc)<;>(try (exfalso;omega)))
 ·obtain⟨a,ha⟩:∃a,c[i]?=some a:=⟨_,kb_ (by omega)⟩
  have hma:=hin a (ka_ ha);have ht:c.take (i+1)=c.take i++[a]:=by rw[kk_,ha];rfl
  have hall:∀P:Int->Prop,(∀k∈c.take (i+1),P k)↔(∀k∈c.take i,P k)/\P a:=fun P=>by
   rw[ht];simp only[List.mem_append,List.mem_singleton];exact⟨fun h=>⟨fun k hk=>h k (.inl hk),h a (.inr rfl)⟩,fun h k hk=>hk.elim (h.1 k) fun e=>e▸h.2⟩
  have hmem:∀{k},k∈c.take i->k∈c.take (i+1):=fun hk=>by rw[ht];exact kh_.2 (.inl hk)
  have hmea:a∈c.take (i+1):=by rw[ht];simp
  repeat' with_reducible first|refine W.bind ?_|refine W.e2 ?_
  refine W.to (y7k_ h1 h2 hv hl hb hma.1) ?_
  repeat' with_reducible refine W.ret ?_
  rcases y2y_ hv a with ea|ea|ea
  ·refine W.condF (by rw[ea];rfl) ?_
   refine W.condT (by rw[ea];rfl) ?_
   repeat' with_reducible first|refine W.bind ?_|refine W.e2 ?_
   have wm:IntKind.i64.wrap (many+1)=many+1:=by rw[wrapS]<;>omega
   refine W.mono (P:=fun r=>(a≠one/\r=many+1)\/(a=one/\r=many)) ?_ fun r hr=>?_
   ·(with_reducible refine W.cnd (fun hq=>?_) (fun hq=>?_)<;>(try simp only[qq,Kd.ty]at hq)<;>(try (exfalso;omega)))
    ·repeat' with_reducible refine W.ret ?_
     exact .inl ⟨hq,wm⟩
    ·repeat' with_reducible refine W.ret ?_
     exact .inr ⟨hq,rfl⟩
   ·repeat' with_reducible first|refine W.nextP ?_|refine W.ret ?_|refine W.e2 ?_
    have hn0:¬ ∀k∈c.take (i+1),val vs k=2:=fun e=>by have:=e a hmea;omega
    have hi1:∀k∈c.take (i+1),val vs k≠1:=(hall _).2 ⟨i1,by omega⟩;rcases hr with ⟨hne,rfl⟩|⟨rfl,rfl⟩
    ·refine⟨by omega,sk,by dsimp only;omega,by dsimp only;omega,hi1,⟨fun e=>by dsimp only at e;omega,fun e=>absurd e hn0⟩,fun e=>by dsimp only at e;omega,fun _=>⟨hmea,ea⟩,fun e k hk hk2=>?_,fun e=>?_⟩
     ·dsimp only at e⊢
      have hm0:many=0:=by omega
      rw[ht]at hk;rcases kh_.1 hk with hk|hk
      ·exact absurd (i2.1 hm0 k hk) hk2
      ·simpa using hk
     ·dsimp only at e
      obtain⟨b1,b2⟩:=i4 (by omega);exact⟨one,hmem b1,a,hmea,fun e=>hne e.symm,by omega,by omega⟩
    ·have hm0:r≠0:=fun e=>hma.2 (i3 e)
     refine⟨by omega,sk,m0,by dsimp only;omega,hi1,⟨fun e=>absurd e hm0,fun e=>absurd e hn0⟩,fun e=>absurd e hm0,fun _=>⟨hmea,ea⟩,fun e k hk hk2=>?_,fun e=>?_⟩
     ·rw[ht]at hk
      rcases kh_.1 hk with hk|hk
      ·exact i5 e k hk hk2
      ·simpa using hk
     ·obtain⟨u,hu,v,hv',b⟩:=i6 e
      exact⟨u,hmem hu,v,hmem hv',b⟩
  ·refine W.condT (by rw[ea];rfl) ?_
   repeat' with_reducible first|refine W.stopP ?_|refine W.ret ?_
   dsimp only;refine⟨⟨fun e=>absurd e (by decide),fun e=>by have:=e a (ka_ ha);omega⟩,fun _ e=>absurd rfl e,fun _ _=>.inl ⟨a,ka_ ha,ea⟩⟩
  ·refine W.condF (by rw[ea];rfl) ?_
   refine W.condF (by rw[ea];rfl) ?_
   repeat' with_reducible first|refine W.nextP ?_|refine W.ret ?_
   refine⟨by omega,sk,m0,by dsimp only;omega,(hall _).2 ⟨i1,by omega⟩,?_,i3,fun e=>⟨hmem (i4 e).1,(i4 e).2⟩,fun e k hk hk2=>?_,fun e=>?_⟩
   ·dsimp only
    rw[hall];exact⟨fun e=>⟨i2.1 e,ea⟩,fun e=>i2.2 e.1⟩
   ·rw[ht]at hk
    rcases kh_.1 hk with hk|hk
    ·exact i5 e k hk hk2
    ·have:k=a:=by simpa using hk
     subst this;exact absurd ea hk2
   ·obtain⟨u,hu,v,hv',b⟩:=i6 e
    exact⟨u,hmem hu,v,hmem hv',b⟩
 ·repeat' (with_reducible refine W.stopP ?_)
  rw[ki_ (by omega)]at i1 i2 i4 i5 i6
  (with_reducible refine W.cnd (fun h0=>?_) (fun h0=>?_)<;>(try simp only[qq,Kd.ty]at h0)<;>(try (exfalso;omega)))
  ·repeat' with_reducible refine W.ret ?_
   exact⟨⟨fun _=>i2.1 h0,fun _=>rfl⟩,fun e=>absurd rfl e,fun e=>absurd rfl e⟩
  ·have hn2:¬ ∀k∈c,val vs k=2:=fun e=>h0 (i2.2 e)
   obtain⟨b1,b2⟩:=i4 h0;refine W.bind ?_
   (with_reducible refine W.cnd (fun hm=>?_) (fun hm=>?_)<;>(try simp only[qq,Kd.ty]at hm)<;>(try (exfalso;omega)))
   ·repeat' with_reducible refine W.ret ?_
    refine⟨⟨fun e=>absurd e (by decide),fun e=>absurd e hn2⟩,fun _ e=>absurd rfl e,fun _ _=>.inr (i6 (by omega))⟩
   ·repeat' with_reducible refine W.ret ?_
    refine⟨⟨fun e=>absurd (show(0:Int)=2 from e) (by decide),fun e=>absurd e hn2⟩,fun _ _=>⟨b1,b2,fun k hk hne=>Classical.byContradiction fun h=>hne (i5 (by omega) k hk h)⟩,fun _ e=>absurd e (hin _ b1).2⟩
section
variable{vars:Nat}{C:List (List Int)}{s vs c:List Int}
theorem yj7_{r:Int×Int}(hok:Vok vs)(hr:ClW vs c r)(h2:r.1≠2)(h0:r.2=0):GP vs (fun l=>val vs l=1) c:=by
 have hP2:∀k,val vs (-k)=1->val vs k=2:=fun k hk=>(y30_ hok).1 hk;refine⟨fun l0 hl0 hk=>?_,fun hk=>h2 (hr.bad.2 fun k hkc=>hP2 k (hk k hkc))⟩;rcases hr.many h2 h0 with ⟨k,hkc,hk1⟩|⟨j,hj,k,hkc,hne,h3,h4⟩
 ·by_cases e:k=l0
  ·rw[<-e];exact hk1
  ·have:=hP2 k (hk k hkc e);omega
 ·exfalso
  by_cases e:j=l0
  ·exact h4 (hP2 k (hk k hkc fun e2=>hne (e.trans e2.symm)))
  ·exact h3 (hP2 j (hk j hj e))
structure Snd(vars:Nat)(C:List (List Int))(s vs:List Int):Prop where
 ok:Vok vs
 len:vs.length=vars+1
 snd:∀l,val vs l=1->Der C s l
theorem Snd.cin(h:Snd vars C s vs):Cin vars C s vs [] (fun l=>val vs l=1) (zeros vs):=⟨h.ok,h.len,h.snd,fun l hl=>.inl hl,fun l hl=>(by cases hl),fun l hl=>hl,Nat.le_refl _⟩
theorem Snd.set(h:Snd vars C s vs){l:Int}(h0:l≠0)(hl:l.natAbs<=vars)(hv:val vs l≠2)(hd:Der C s l):Snd vars C s (setV vs l)/\Vle vs (setV vs l)/\val (setV vs l) l=1:=by
 have hlt:l.natAbs<vs.length:=by rw[h.len];omega
 have hs:=yd3_ h0 hlt;refine⟨⟨h.ok.set l,by rw[y7s_,h.len],fun k hk=>?_⟩,fun k hk=>?_,by rw[hs,if_pos rfl]⟩
 ·rw[hs]at hk
  split at hk
  ·rename_i e;rw[e];exact hd
  ·split at hk
   ·cases hk
   ·exact h.snd k hk
 ·rw[hs]
  split
  ·rfl
  ·split
   ·rename_i e;subst e
    exact absurd ((y30_ h.ok).1 hk) hv
   ·exact hk
end
section
variable{T:Tg}{l vars:Nat}{x xC:AVal}{C:List (List Int)}{s:List Int}
theorem yet_{σ:Heap}{vs:List Int}{y p2:AVal}(h:RA σ T l x vs)(hn:Tn σ T)(hS:Snd vars C s vs)(hvl:vars<=4000)(hy:SlV .int (σ.at T 0) s y)(hs:∀k∈s,k≠0/\k.natAbs<=vars)(hsl:s.length<=1000000) :
  W (loopW (S.z141.b0 p2 y (.ptr l 0)) 0 σ) fun r=>Hop (only 7) σ T r.2 T/\((r.1=.inr (.nils,false)/\Conf C s)\/(r.1=.inl ()/\∃vs',RA r.2 T l x vs'/\Snd vars C s vs'/\∀k∈s,val vs' k=1)):=by
 have hy0:=hy;refine W.loop s.length (fun i (z:Int) τ=>z=(i:Int)/\Hop (only 7) σ T τ T/\∃vs',RA τ T l x vs'/\Snd vars C s vs'/\∀k∈s.take i,val vs' k=1) ⟨rfl,Hop.refl hn,vs,h,hS,by simp⟩ fun i z τ hi hI=>?_;obtain⟨rfl,H,vs',hR,hS,hk⟩:=hI;have hy:=hy0.hop H;unfold S.z141.b0
 repeat' (with_reducible refine W.len (by assumption) ?_)
 (with_reducible refine W.cnd (fun hc=>?_) (fun hc=>?_)<;>(try simp only[qq,Kd.ty]at hc)<;>(try (exfalso;omega)))
 ·obtain⟨a,ha⟩:∃a,s[i]?=some a:=⟨_,kb_ (by omega)⟩
  have hma:=ka_ ha
  repeat' with_reducible first|refine W.bind ?_|refine W.ixIc (SlV.up (by assumption)) (by assumption) ?_
  refine W.mono (ybo_ hR H.tn hS.ok hS.len hvl (hs a hma).1 (hs a hma).2) fun r hr=>?_;rcases hr with ⟨e,rfl⟩|⟨e,e2,H2,hR2⟩
  ·refine W.condT rfl ?_
   repeat' (with_reducible refine W.stop ?_)
   exact⟨H,.inl ⟨rfl,hS.cin.conf2 (.start hma) e⟩⟩
  ·obtain⟨b,τ2⟩:=r
   dsimp only at e2 H2 hR2⊢;subst e2;obtain⟨hS2,hV,hv1⟩:=hS.set (hs a hma).1 (hs a hma).2 e (.start hma);refine W.condF rfl ?_
   repeat' (with_reducible refine W.next ?_)
   refine⟨by omega,sk,H.trans H2,_,hR2,hS2,fun k hk2=>?_⟩;rw[kk_,ha]at hk2;rcases kh_.1 hk2 with hk2|hk2
   ·exact hV k (hk k hk2)
   ·have:k=a:=by simpa using hk2
    rw[this];exact hv1
 ·repeat' (with_reducible refine W.stop ?_)
  rw[ki_ (by omega)]at hk;exact⟨H,.inr ⟨rfl,vs',hR,hS,hk⟩⟩
theorem yfy_{σ:Heap}{vs:List Int}(h:RA σ T l x vs)(hn:Tn σ T)(hS:Snd vars C s vs)(hvl:vars<=4000)(hC:SlV vIs (σ.at T 0) C xC)(hR:∀c∈C,ye_ vars c)(hl:C.length<=1000000)(hll:∀c∈C,c.length<=1000000)(hs:∀k∈s,val vs k=1) :
  W (loopW (S.z141.b1 xC (.ptr l 0)) (false,0) σ) fun r=>Hop (only 7) σ T r.2 T/\((r.1=.inr (.nils,false)/\Conf C s)\/(r.1=.inl false/\RA r.2 T l x vs/\¬Conf C s)\/(r.1=.inl true/\∃vs',RA r.2 T l x vs'/\Snd vars C s vs'/\zeros vs'<zeros vs/\∀k∈s,val vs' k=1)):=by
 have hC0:=hC;refine W.loop C.length (fun i (z:Bool×Int) τ=>z.2=(i:Int)/\Hop (only 7) σ T τ T/\∃vs',RA τ T l x vs'/\Snd vars C s vs'/\(∀k∈s,val vs' k=1)/\((z.1=false/\vs'=vs/\∀c∈C.take i,GP vs (fun l=>val vs l=1) c)\/(z.1=true/\zeros vs'<zeros vs))) ⟨rfl,Hop.refl hn,vs,h,hS,hs,.inl ⟨rfl,rfl,by simp⟩⟩ fun i z τ hi hI=>?_;obtain⟨more,j⟩:=z;obtain⟨rfl,H,vs',hRA,hS',hs',hm⟩:=hI;dsimp only at hm;have hC:=hC0.hop H;unfold S.z141.b1;dsimp only;refine W.len hC.up ?_
 (with_reducible refine W.cnd (fun hc=>?_) (fun hc=>?_)<;>(try simp only[qq,Kd.ty]at hc)<;>(try (exfalso;omega)))
 ·refine W.bind ?_
  refine W.ixLS hC at_le (by omega) fun c w hc hw=>?_;have hmc:=ka_ hc;have hRc:=hR c hmc;have ht:C.take (i+1)=C.take i++[c]:=by rw[kk_,hc];rfl
  refine W.bind ?_;refine W.mono (ycl_ hRA.loc.up hRA.own.slT hS'.ok (by rw[hS'.len];omega) (by rw[hS'.len];omega) hw.up (fun k hk=>⟨by have:=hRc k hk;simp[inB];omega,(hRc k hk).1⟩) (hll c hmc)) fun r hr=>?_;obtain⟨a,b⟩:=r
  (with_reducible refine W.cnd (fun h2=>?_) (fun h2=>?_)<;>(try simp only[qq,Kd.ty]at h2)<;>(try (exfalso;omega)))
  ·repeat' with_reducible first|refine W.stop ?_|refine W.ret ?_
   exact⟨H,.inl ⟨rfl,hS'.cin.confC hmc (hr.bad.1 h2)⟩⟩
  ·(with_reducible refine W.cnd (fun h0=>?_) (fun h0=>?_)<;>(try simp only[qq,Kd.ty]at h0)<;>(try (exfalso;omega)))
   ·obtain⟨z1,z2,z3⟩:=hr.one h2 h0
    dsimp only at z1 z2 z3;have hb:=hRc b z1;refine W.bind ?_;refine W.mono (ybo_ hRA H.tn hS'.ok hS'.len hvl h0 (by omega)) fun r hr2=>?_;rcases hr2 with ⟨e,_⟩|⟨e,e2,H2,hR2⟩
    ·exact absurd (z2.symm.trans e) (by decide)
    ·obtain⟨b',τ2⟩:=r
     dsimp only at e2 H2 hR2⊢;subst e2;obtain⟨hS2,hV,hv1⟩:=hS'.set h0 (by omega) e (hS'.cin.unit hmc z1 z3);have hz:=yem_ hS'.ok h0 (by rw[hS'.len];omega) z2;refine W.condF rfl ?_
     repeat' with_reducible first|refine W.next ?_|refine W.ret ?_
     refine⟨by omega,sk,H.trans H2,_,hR2,hS2,fun k hk=>hV k (hs' k hk),.inr ⟨rfl,?_⟩⟩;rcases hm with ⟨_,rfl,_⟩|⟨_,hm⟩<;>omega
   ·repeat' with_reducible first|refine W.next ?_|refine W.ret ?_
    refine⟨by omega,sk,H,vs',hRA,hS',hs',?_⟩;rcases hm with ⟨e,rfl,hm⟩|⟨e,hm⟩
    ·refine .inl ⟨e,rfl,fun d hd=>?_⟩
     rw[ht]at hd;rcases kh_.1 hd with hd|hd
     ·exact hm d hd
     ·rw[kj_.1 hd];exact yj7_ hS'.ok hr h2 h0
    ·exact .inr ⟨e,hm⟩
 ·repeat' (with_reducible refine W.stop ?_)
  rcases hm with ⟨rfl,rfl,hm⟩|⟨rfl,hm⟩
  ·rw[ki_ (by omega)]at hm
   exact⟨H,.inr (.inl ⟨rfl,hRA,hS'.cin.done hm hs'⟩)⟩
  ·exact⟨H,.inr (.inr ⟨rfl,vs',hRA,hS',hm,hs'⟩)⟩
theorem yeh_{σ:Heap}{vs:List Int}(h1:Loc σ l [x])(h2:SlV .int σ vs x)(hb:vs.length<=100000)(hb0:1<=vs.length):W (S.z122 (.ptr l 0) σ) fun r=>Hle σ r.2:=by
 unfold S.z122;refine W.bind ?_;refine W.loop (vs.length-1) (fun i (y:AVal×Int) τ=>y.2=(i:Int)+1/\Hle σ τ/\∃ks:List Int,ks.length<=2*i/\Acc .int σ.next τ ks y.1) ⟨rfl,Hle.refl _,[],by simp,Acc.nil _ _ _⟩ fun i y τ hi hI=>?_;obtain⟨y,j⟩:=y;obtain⟨rfl,L,ks,hks,hA⟩:=hI;dsimp only at hA⊢;have h1':=h1.mono L;have h2':=h2.mono L;unfold S.z122.b0;dsimp only
 repeat' with_reducible first|refine W.asV ?_|refine W.fldp ?_|refine W.len (by assumption) ?_|refine W.e0 ?_|refine W.nck ?_
 (with_reducible refine W.cnd (fun hc=>?_) (fun hc=>?_)<;>(try simp only[qq,Kd.ty]at hc)<;>(try (exfalso;omega)))
 ·obtain⟨a,ha⟩:∃a,vs[i+1]?=some a:=⟨_,kb_ (by omega)⟩
  repeat' with_reducible first|refine W.bind ?_|refine W.asV ?_|refine W.fldp ?_|refine W.e0 ?_|refine W.nck ?_
  refine W.ixI h2' (i:=(i:Int)+1) (a:=a) (by rw[show((i:Int)+1).toNat=i+1 by omega];exact ha) (by omega) ?_;refine W.call (P:=fun r=>Hle σ r.2/\∃ks':List Int,ks'.length<=2*i+1/\Acc .int σ.next r.2 ks' r.1) ?_ fun r hr=>?_
  ·(with_reducible refine W.cnd (fun hq=>?_) (fun hq=>?_)<;>(try simp only[qq,Kd.ty]at hq)<;>(try (exfalso;omega)))
   ·refine W.pushI hA L (by omega) (by omega) fun y2 τ2 L2 hA2 _=>?_
    repeat' with_reducible refine W.ret ?_
    exact⟨L2,_,by simp;omega,hA2⟩
   ·repeat' with_reducible refine W.ret ?_
    exact⟨L,ks,by omega,hA⟩
  ·obtain⟨y2,τ2⟩:=r
   obtain⟨L2,ks2,hks2,hA2⟩:=hr;dsimp only at L2 hA2⊢;have h3:=h1.mono L2;have h4:=h2.mono L2
   repeat' with_reducible first|refine W.asV ?_|refine W.fldp ?_|refine W.e0 ?_|refine W.nck ?_
   refine W.ixI h4 (i:=(i:Int)+1) (a:=a) (by rw[show((i:Int)+1).toNat=i+1 by omega];exact ha) (by omega) ?_;have w1:IntKind.i64.wrap ((i:Int)+1+1)=((i+1:Nat):Int)+1:=by rw[wrapS]<;>omega
   (with_reducible refine W.cnd (fun hq=>?_) (fun hq=>?_)<;>(try simp only[qq,Kd.ty]at hq)<;>(try (exfalso;omega)))
   ·refine W.pushI hA2 L2 (by omega) (by omega) fun y3 τ3 L3 hA3 _=>?_
    repeat' with_reducible first|refine W.next ?_|refine W.ret ?_
    exact⟨by omega,w1,L3,_,by simp;omega,hA3⟩
   ·repeat' with_reducible first|refine W.next ?_|refine W.ret ?_
    exact⟨by omega,w1,L2,ks2,by omega,hA2⟩
 ·repeat' with_reducible first|refine W.stop ?_|refine W.ret ?_
  exact L
theorem ybn_{σ:Heap}{y:AVal}(hvl:vars<=4000)(hC:SlV vIs σ C xC)(hy:SlV .int σ s y)(hR:∀c∈C,ye_ vars c)(hCl:C.length<=1000000)(hll:∀c∈C,c.length<=1000000)(hs:∀k∈s,k≠0/\k.natAbs<=vars)(hsl:s.length<=1000000) :
  W (S.z141 (vars:Int) xC y σ) fun r=>(r.1.2=true↔¬Conf C s)/\Hle σ r.2:=by
 have hn:Tn σ Tz:=Tn.tz;have hC:SlV vIs (σ.at Tz 0) C xC:=by rw[at_tz];exact hC
 have hy:SlV .int (σ.at Tz 0) s y:=by rw[at_tz];exact hy
 unfold S.z141 S.z127;have e1:(if 4000<(if 0>(vars:Int)then 0 else(vars:Int))then 4000 else(if 0>(vars:Int)then 0 else(vars:Int)))=(vars:Int):=by
  rw[if_neg (c:=0>(vars:Int)) (by omega),if_neg (by omega)]
 rw[e1,sk];refine W.bind ?_;have hmk:∀{R:Type} (K:AVal->Heap->Option R),mkS σ 1 8 [AVal.int .i64 0] ((vars+1:Nat):Int) ((vars+1:Nat):Int) K=K (.sl σ.next 0 (vars+1) none) (σ.new (.cells .rw 1 (rep (vars+1) [AVal.int .i64 0]))):=fun K=>by
  simp only[mkS,newK];rw[if_pos ⟨by omega,by omega,by omega,by omega⟩,Int.toNat_natCast]
 refine W.to (hmk _) ?_;have hrep:∀n:Nat,rep n [AVal.int .i64 0]=(List.replicate n (0:Int)).map (AVal.int .i64):=fun n=>by
  induction n with
  |zero=>rfl
  |succ n ih=>rw[rep,ih,List.replicate_succ];rfl
 rw[hrep];have H1:Hop (only 7) σ Tz (σ.new (.cells .rw 1 ((List.replicate (vars+1) (0:Int)).map (AVal.int .i64)))) (Tg.upd Tz σ.next 7):=y28_ hn;have hO:Own .int ((σ.new (.cells .rw 1 ((List.replicate (vars+1) (0:Int)).map (AVal.int .i64)))).at (Tg.upd Tz σ.next 7) 7) (List.replicate (vars+1) 0) (.sl σ.next 0 (vars+1) none):=.inr ⟨σ.next,0,none,_,by simp,Nat.lt_succ_self _,at_of y10_ (by rw[yj_,if_pos rfl];rfl),(fun k e=>by cases e),by simp[Vw.int],fun i a hi=>by
  show _=_;obtain⟨h8,h9⟩:=kf_.1 hi;simp only[Vw.int,Nat.mul_one,Nat.zero_add];rw[List.drop_eq_getElem_cons (by simpa using h8)];simp[<-h9]⟩
 generalize (σ.new (.cells .rw 1 ((List.replicate (vars+1) (0:Int)).map (AVal.int .i64))))=τ1 at *;generalize Tg.upd Tz σ.next 7=T1 at *;have HH:Hop clJ σ Tz τ1 T1:=H1.sub fun i hi=>by simp at hi⊢;omega
 replace hC:=hC.hop H1;replace hy:=hy.hop H1;replace hn:=H1.tn
 repeat' (with_reducible refine W.scSl ?_)
 refine W.newT 6 hn fun l τ2 T2 hl H2 hl2 hnτ2=>?_;replace hC:=hC.hop H2;replace hy:=hy.hop H2;replace hO:=hO.hop H2;replace HH:=HH.hop H2;replace hn:=H2.tn
 repeat' with_reducible first|refine W.ret ?_|refine W.bind ?_
 have hS0:Snd vars C s (List.replicate (vars+1) 0):=⟨ygt_ _,by simp,fun k hk=>by rw[ygz_]at hk;cases hk⟩;refine W.mono (yet_ ⟨hl2,hO⟩ hn hS0 hvl hy hs hsl) fun r hr=>?_;obtain⟨r,τ3⟩:=r;obtain⟨H3,hr⟩:=hr;dsimp only at H3 hr⊢;replace HH:=HH.hop H3;rcases hr with ⟨rfl,hc⟩|⟨rfl,vs,hRA,hS,hsv⟩
 ·repeat' with_reducible refine W.ret ?_
  exact⟨by simp[hc],y22_ HH⟩
 replace hC:=hC.hop H3;replace hy:=hy.hop H3;replace hn:=H3.tn
 repeat' (with_reducible refine W.bind ?_)
 refine W.mono (P:=fun r=>(r.1.2=true↔¬Conf C s)/\Hle σ r.2) ?_ fun r hr=>?_
 ·have hC0:=hC
  refine W.loopI (m:=zeros vs) (fun m (_:Unit) τ=>∃vs',Hop (only 7) τ3 T2 τ T2/\RA τ T2 l _ vs'/\Snd vars C s vs'/\zeros vs'=m/\∀k∈s,val vs' k=1) ⟨vs,Hop.refl hn,hRA,hS,rfl,hsv⟩ fun m _ τ hI=>?_;obtain⟨vs',H,hRA,hS,rfl,hsv⟩:=hI;have hC:=hC0.hop H;unfold S.z141.b2;refine W.bind ?_;refine W.mono (yfy_ hRA H.tn hS hvl hC hR hCl hll hsv) fun r hr=>?_;obtain⟨r,τ4⟩:=r;obtain⟨H4,hr⟩:=hr;dsimp only at H4 hr⊢;rcases hr with ⟨rfl,hc⟩|⟨rfl,hRA,hc⟩|⟨rfl,vs2,hRA,hS2,hz,hs2⟩
  ·repeat' (with_reducible refine W.stop ?_)
   exact⟨by simp[hc],y22_ ((HH.hop H).hop H4)⟩
  ·dsimp only
   refine W.condT rfl ?_;refine W.bind ?_;refine W.mono (yeh_ hRA.loc.up hRA.own.slT (by rw[hS.len];omega) (by rw[hS.len];omega)) fun r hr=>?_
   repeat' (with_reducible refine W.stop ?_)
   exact⟨by simp[hc],(y22_ ((HH.hop H).hop H4)).trans hr⟩
  ·dsimp only
   refine W.condF rfl ?_
   repeat' (with_reducible refine W.next ?_)
   exact⟨_,hz,vs2,H.trans H4,hRA,hS2,rfl,hs2⟩
 ·repeat' with_reducible refine W.ret ?_
  exact hr
end
end
end Go.Proofs.YtafbldhedkallaaGreatDoor.A
end
