/- Parts of the proof, one behind another. -/
import Derived.Test.YtekehmgfedmflaaGreatDoorX11
set_option linter.all false
noncomputable section
namespace Go.Proofs.YtekehmgfedmflaaGreatDoor.A
section
open Go
theorem ygq_{l:Int}{n:Nat}(h1:1<l)(h2:l<=2*(n:Int)+1):isL (litT l) n=true:=by
 rw[ym_];unfold litT;rw[if_neg (by omega)]
 split<;>omega
theorem y5c_{l:Int}{n:Nat}(h0:0<=l)(h:l<=2*(n:Int)+1):notL l<=2*(n:Int)+1:=by unfold notL;split<;>omega
theorem y8v_{ls c:List Int}{n:Nat}(h:yo_ ls=some c)(hb:∀l∈ls,l<=2*(n:Int)+1):c.length<=ls.length/\∀l∈c,isL l n=true:=by
 unfold yo_ at h
 split at h
 ·cases h
 ·cases h
  refine⟨by rw[List.length_map];exact List.length_filter_le _ _,fun l hl=>?_⟩;obtain⟨x,hx,rfl⟩:=List.mem_map.1 hl;obtain⟨h1,h2⟩:=List.mem_filter.1 hx;exact ygq_ (by simpa using h2) (hb x h1)
theorem ygy_{n:Int}{a b:Int}{m:Nat}(hn:0<=n/\n<=2*(m:Int)+1)(ha:0<=a/\a<=2*(m:Int)+1)(hb:0<=b/\b<=2*(m:Int)+1):∀c∈gateT n (a,b),c.length<=3/\∀l∈c,isL l m=true:=fun c hc=>by
 have q1':=y5c_ hn.1 hn.2;have q2':=y5c_ ha.1 ha.2;have q3':=y5c_ hb.1 hb.2;unfold gateT at hc;obtain⟨ls,hls,hc⟩:=List.mem_filterMap.1 hc;simp only[List.mem_cons,List.not_mem_nil,or_false]at hls;have key:ls.length<=3/\∀l∈ls,l<=2*(m:Int)+1:=by
  rcases hls with rfl|rfl|rfl
  ·exact⟨by simp,fun z hz=>by
    simp only[List.mem_cons,List.not_mem_nil,or_false]at hz;rcases hz with rfl|rfl<;>omega⟩
  ·exact⟨by simp,fun z hz=>by
    simp only[List.mem_cons,List.not_mem_nil,or_false]at hz;rcases hz with rfl|rfl<;>omega⟩
  ·exact⟨by simp,fun z hz=>by
    simp only[List.mem_cons,List.not_mem_nil,or_false]at hz;rcases hz with rfl|rfl|rfl<;>omega⟩
 obtain⟨h1,h2⟩:=y8v_ hc key.2;exact⟨by omega,h2⟩
theorem yij_{N:Nat}{gs:List (Int×Int)}{fs:List Int}(hW:WFg N gs)(hf:∀l∈fs,okN l (N+gs.length)=true):∀c∈encT N gs fs,c.length<=3/\∀l∈c,isL l ((N+gs.length:Nat):Int)=true:=fun c hc=>by
 unfold encT at hc;rcases List.mem_append.1 hc with hc|hc
 ·unfold y30_ at hc
  obtain⟨D,hD,hc⟩:=List.mem_flatten.1 hc;obtain⟨i,hi,rfl⟩:=List.mem_map.1 hD;have hi:=List.mem_range.1 hi;obtain⟨⟨a,b⟩,hab⟩:=y3_ (xs:=gs) (i:=i) hi;obtain⟨h1,h2,h3⟩:=hW _ _ _ hab;rw[List.getD_eq_getElem?_getD,hab]at hc;exact ygy_ (by omega) (by omega) (by omega) c hc
 ·obtain⟨l,hl,hc⟩:=List.mem_filterMap.1 hc
  have:=ya_.1 (hf l hl);obtain⟨h1,h2⟩:=y8v_ (n:=N+gs.length) hc (fun z hz=>by rw[List.mem_singleton.1 hz];omega);exact⟨by simp at h1;omega,h2⟩
theorem flat3:∀{cs:List (List Int)},(∀c∈cs,c.length<=3)->cs.flatten.length<=3*cs.length
 |[],_=>by simp
 |c::cs,h=>by
  have h1:=flat3 (cs:=cs) fun d hd=>h d (by simp[hd]);have h2:=h c (by simp);rw[List.flatten_cons,List.length_append,List.length_cons];omega
theorem yh9_{cs:List (List Int)}{n:Nat}(h:n<=4000)(hl:cs.length<=20000)(hc:∀c∈cs,c.length<=3/\∀l∈c,isL l (n:Int)=true):chkC (n:Int) cs=none:=by
 have h3:=flat3 (cs:=cs) fun c hm=>(hc c hm).1;unfold chkC;rw[if_neg (by omega)];have e:cs.findIdx? (badC (n:Int))=none:=by
  rw[List.findIdx?_eq_none_iff];intro c hm;unfold badC;rw[Bool.eq_false_iff];intro h;obtain⟨l,hl,h2⟩:=List.any_eq_true.1 h;rw[(hc c hm).2 l hl]at h2;cases h2
 rw[e];rfl
def Fsd(ex:Bool)(Ou N:Nat)(gs:List (Int×Int))(o:Int)(g:List (Int×Int))(fs:List Int)(ms:List (List Bool)):Prop:=fs.length=ms.length/\∀(k:Nat) f m,fs[k]?=some f->ms[k]?=some m->okN f (Ou+g.length)=true/\∀inp,vL (nodes Ou inp g) f=(vL (nodes N (mixI Ou inp m) gs) o==ex)
theorem Fsd.ok{ex:Bool}{Ou N:Nat}{gs g:List (Int×Int)}{o:Int}{fs:List Int}{ms:List (List Bool)}(h:Fsd ex Ou N gs o g fs ms):∀l∈fs,okN l (Ou+g.length)=true:=fun l hl=>by
 obtain⟨k,hk⟩:=List.mem_iff_getElem?.1 hl;obtain⟨m,hm⟩:=y3_ (xs:=ms) (i:=k) (by have:=y2_ hk;have:=h.1;omega);exact(h.2 k l m hk hm).1
theorem Fsd.ext{ex:Bool}{Ou N:Nat}{gs g e:List (Int×Int)}{o:Int}{fs:List Int}{ms:List (List Bool)}(h:Fsd ex Ou N gs o g fs ms):Fsd ex Ou N gs o (g++e) fs ms:=
 ⟨h.1,fun k f m hf hm=>⟨by have:=ya_.1 (h.2 k f m hf hm).1;rw[ya_,List.length_append];omega,fun inp=>by rw[yfr_ (h.2 k f m hf hm).1];exact(h.2 k f m hf hm).2 inp⟩⟩
theorem Fsd.snoc{ex:Bool}{Ou N:Nat}{gs g:List (Int×Int)}{o f:Int}{fs:List Int}{ms:List (List Bool)}{m:List Bool}(h:Fsd ex Ou N gs o g fs ms)(h1:okN f (Ou+g.length)=true)(h2:∀inp,vL (nodes Ou inp g) f=(vL (nodes N (mixI Ou inp m) gs) o==ex)):Fsd ex Ou N gs o g (fs++[f]) (ms++[m]):=by
 refine⟨by simp[h.1],fun k f' m' hf hm=>?_⟩;by_cases hk:k<fs.length
 ·rw[List.getElem?_append_left hk]at hf
  rw[List.getElem?_append_left (by rw[<-h.1];exact hk)]at hm;exact h.2 k f' m' hf hm
 ·have hk2:=y2_ hf
  have hk3:k=fs.length:=by simp at hk2;omega
  subst hk3;rw[List.getElem?_concat_length]at hf;rw[h.1,List.getElem?_concat_length]at hm;cases hf;cases hm;exact⟨h1,h2⟩
def enI:Nat->Bool:=fun j=>decide (25<=j)&&decide (j<=28)||j==40||j==29||gI j
def restE(p1:AVal)(l30:Nat)(σ33:Heap):Option ((Bool×AVal)×Heap):=
 ldG σ33 (.ptr l30 0) 2 fun g35=>
 (S.z51 g35 σ33).bind fun r36=>
 eqI (tiOf Tryz.prog) r36.2 true r36.1 .nili fun b37=>
 cond (!b37) (
 some ((false,r36.1),r36.2))
 (ld r36.2 (.ptr l30 0) (.I .i64) fun n38=>
 (S.z109 n38 p1 r36.2).bind fun r39=>
 ld r39.2 (.ptr l30 1) (.V) fun v40=>
 lenV v40 fun n41=>
 (loopW (S.z134.b1 r39.1 v40 n41) 0 r39.2).bind fun r50=>
 (S.z99 r39.1 .nils r50.2).bind fun r51=>
 newK r51.2 3 [(.bool false),.nils,.nils] fun l52 σ53=>
 aggK r51.1.1 3 fun cs54=>
 stC σ53 (.ptr l52 0) cs54 fun σ55=>
 (ld σ55 (.ptr l52 0) (.B) fun b56=>
 cond (!b56) (
 eqI (tiOf Tryz.prog) σ55 true r51.1.2 .nili fun b57=>
 some (b57,r51.1.2))
 (some (false,r51.1.2))).bind fun r58=>
 some ((r58.1,r58.2),σ55))
section
variable{σ τ:Heap}{T T':Tg}{u t n lg lm M N Ou lq:Nat}{x y f xa xo xm:AVal}{ms:List (List Bool)}{I:Nat->Bool}{gs g0:List (Int×Int)}{os fs:List Int}{o:Int}{ex:Bool}{mv:List Bool}{Q:(Bool×AVal)×Heap->Prop}
theorem Hop.gen(H:Hop gI σ T τ T'):Hop enI σ T τ T':=H.sub fun i hi=>by simp[enI,hi]
theorem Hop.men(H:Hop mI σ T τ T'):Hop enI σ T τ T':=H.sub fun i hi=>by
 simp only[mI,cpI,enI,Bool.or_eq_true,beq_iff_eq,Bool.and_eq_true,decide_eq_true_eq]at hi⊢;rcases hi with (hi|(hi|hi)|hi)|hi
 ·exact .inr hi
 all_goals exact .inl (.inl (.inl (by omega)))
theorem Hop.uen(H:Hop uT σ T τ T'):Hop enI σ T τ T':=H.sub fun i hi=>by
 simp only[uT,enI,Bool.or_eq_true,beq_iff_eq,Bool.and_eq_true,decide_eq_true_eq]at hi⊢;by_cases h:i=29
 ·exact .inl (.inr h)
 ·exact .inl (.inl (.inl (by omega)))
theorem Hop.oen{u:Nat}(H:Hop (only u) σ T τ T')(hu:enI u=true:=by rfl):Hop enI σ T τ T':=H.sub fun i hi=>by
 have:i=u:=by simpa using hi
 rw[this];exact hu
theorem yg9_(hg:GlS [.range,.limit] (σ.at T 0))(hn:Tn σ T)(hc:SlV vLn (σ.at T 0) gs xa)(ho:SlV .int (σ.at T 0) [o] xo)(hok:yt_ (N:Int) gs [o]=none)(hOu:Ou<=N)(hms:SlV vBs (σ.at T 0) ms xm)(hml:∀m∈ms,m.length<=100000)(hmm:ms.length<=1000)(hM:Ou+ms.length*gs.length+gs.length<=4000)
  (hK:∀τ T' g fs l30 y,Hop enI σ T τ T'->WFg Ou g->Fsd ex Ou N gs o g fs ms->g.length<=ms.length*gs.length->Loc (τ.at T' 40) l30 [.int .i64 ((Ou+g.length:Nat):Int),y]->SlV vIs (τ.at T' 0) (encT Ou g fs) y->W (restE (.ptr lq 0) l30 τ) Q) :
  W (S.z134 (.agg [.bool ex,.int .i64 Ou,.int .i64 N,xa,xo]) (.ptr lq 0) xm σ) Q:=by
 have hn0:=hn;obtain⟨c1,c2,c3⟩:=yw_.1 hok;have hoo:okN o (N+gs.length)=true:=by simpa using c3
 have hoi:=ya_.1 hoo;unfold S.z134
 repeat' (with_reducible refine W.e3 ?_)
 refine W.new0 hn fun l2 τ1 _ L1 k2 hn1=>?_;replace hc:=hc.hle L1;replace ho:=ho.hle L1;replace hms:=hms.hle L1;replace hn:=hn.mono L1;replace hg:=hg.mono (L1.ats T 0);have k2u:=k2.up
 repeat' with_reducible first|refine W.bind ?_|refine W.asI ?_|refine W.e0 ?_
 refine W.mono (yed_ hn1 (i:=(Ou:Int)) (by omega) (by omega)) fun r hr=>?_;obtain⟨r,τ2⟩:=r;obtain⟨lg,lm,T2,er,H2,h⟩:=hr;dsimp only at er H2 h⊢;subst er;replace hc:=hc.hop H2;replace ho:=ho.hop H2;replace hms:=hms.hop H2;replace k2:=k2.hop H2;replace hn:=H2.tn;replace hg:=hg.mono (H2.le (by rfl));have HH:Hop enI σ T τ2 T2:=(Hop.of hn0 L1).trans H2.gen;have hmu:=hms.up;rw[show(Ou:Int).toNat=Ou from rfl]at h
 repeat' with_reducible first|refine W.bind ?_|refine W.len (by assumption) ?_
 refine W.mono (P:=fun r=>∃T' g fs,Hop enI σ T r.2 T'/\GrH r.2 T' lg Ou g none lm/\WFg Ou g/\Fsd ex Ou N gs o g fs ms/\g.length<=ms.length*gs.length/\Own .int (r.2.at T' 40) fs r.1/\GlS [.range,.limit] (r.2.at T' 0)) ?_ fun r hr=>?_
 ·refine W.loop ms.length (fun i (u:AVal×Int) τ=>u.2=(i:Int)/\∃T' g fs,Hop enI σ T τ T'/\GrH τ T' lg Ou g none lm/\WFg Ou g/\Fsd ex Ou N gs o g fs (ms.take i)/\g.length<=i*gs.length/\Own .int (τ.at T' 40) fs u.1/\GlS [.range,.limit] (τ.at T' 0)/\SlV vLn (τ.at T' 0) gs xa/\SlV .int (τ.at T' 0) [o] xo/\SlV vBs (τ.at T' 0) ms xm/\Loc (τ.at T' 0) l2 [.bool ex,.int .i64 Ou,.int .i64 N,xa,xo]) ⟨rfl,T2,[],[],HH,h,fun i a b h=>by simp at h,⟨by simp,fun k f m h=>by simp at h⟩,by simp,.nil,hg,hc,ho,hms,k2⟩ fun i u τ3 hi hI=>?_
  obtain⟨u1,u2⟩:=u;obtain⟨rfl,T3,g,fs,HH,h,hW,hF,hgl,hO,hg,hc,ho,hms,k2⟩:=hI;dsimp only at hO;have hn:=HH.tn;have wr:IntKind.i64.wrap ((i:Int)+1)=((i+1:Nat):Int):=by rw[wrapS]<;>omega
  unfold S.z134.b0
  (with_reducible refine W.cnd (fun hlt=>?_) (fun hlt=>?_)<;>(try simp only[qq,Kd.ty]at hlt)<;>(try (exfalso;omega)))
  ·obtain⟨m,hm⟩:=y3_ (xs:=ms) (i:=i) (by omega)
   have htk:ms.take (i+1)=ms.take i++[m]:=by rw[List.take_add_one,hm];rfl
   have hsl:(i+1)*gs.length<=ms.length*gs.length:=Nat.mul_le_mul_right _ (by omega);have hsm:(i+1)*gs.length=i*gs.length+gs.length:=Nat.succ_mul _ _;have hfl:fs.length=i:=by have:=hF.1;rw[List.length_take]at this;omega
   refine W.ixkLS hms at_le hm fun y hy=>?_;have k2u:=k2.up
   repeat' with_reducible first|refine W.bind ?_|refine W.e1 ?_
   refine W.mono (yjh_ (a:=.bool ex) hg h hn hW hc ho hok hOu hy (hml m (List.mem_of_getElem? hm)) (by omega)) fun r hr=>?_;obtain⟨f,τ4⟩:=r;obtain⟨T4,g2,H4,h,hW,⟨e2,rfl⟩,hgl2,hfo,hfv⟩:=hr;dsimp only at H4 h hfo hfv⊢;replace hc:=hc.hop H4;replace ho:=ho.hop H4;replace hms:=hms.hop H4;replace k2:=k2.hop H4;replace hO:=hO.hop H4;replace hn:=H4.tn;replace hg:=hg.mono (H4.le (by rfl));replace HH:=HH.trans H4.men;have k2u:=k2.up;have hfi:=ya_.1 hfo
   repeat' with_reducible first|refine W.bind ?_|refine W.chk rfl ?_|refine W.e1 ?_
   refine W.mono (yje_ (ex:=ex) (m:=.nili) hn (o:=f) (by omega) (by omega)) fun r hr=>?_;obtain⟨f2,τ5⟩:=r;obtain⟨er,L5⟩:=hr;dsimp only at er L5⊢;replace h:=h.hle L5;replace hc:=hc.hle L5;replace ho:=ho.hle L5;replace hms:=hms.hle L5;replace k2:=k2.hle L5;replace hO:=hO.hle L5;replace hn:=hn.mono L5;replace hg:=hg.mono (L5.ats T4 0);replace HH:=HH.hle L5;refine W.own_push (bytes:=8) Vw.int_flat hO hn (a:=f2) rfl (by omega) (by omega) fun x2 τ6 T6 hO H6=>?_;replace h:=h.hop H6;replace hc:=hc.hop H6;replace ho:=ho.hop H6;replace hms:=hms.hop H6;replace k2:=k2.hop H6;replace hn:=H6.tn;replace hg:=hg.mono (H6.le (by rfl));replace HH:=HH.trans H6.oen
   repeat' (with_reducible refine W.next ?_)
   refine⟨by omega,wr,T6,g++e2,fs++[f2],HH,h,hW,?_,by rw[hsm];omega,hO,hg,hc,ho,hms,k2⟩;rw[htk];refine hF.ext.snoc ?_ fun inp=>?_
   ·subst er
    cases ex with
    |true=>exact hfo
    |false=>
     rw[ya_];have:=y5c_ (n:=Ou+(g++e2).length) hfi.1 hfi.2;refine⟨?_,this⟩;show 0<=notL f;unfold notL;split<;>omega
   ·subst er
    cases ex with
    |true=>rw[if_pos rfl,hfv];simp
    |false=>rw[if_neg (by decide),y73_ hfi.1,hfv];simp
  ·repeat' (with_reducible refine W.stop ?_)
   have:i=ms.length:=by omega
   subst this;rw[List.take_length]at hF;exact⟨T3,g,fs,HH,h,hW,hF,hgl,hO,hg⟩
 obtain⟨xf,τ3⟩:=r;obtain⟨T3,g,fs,HH,h,hW,hF,hgl,hO,hg⟩:=hr;dsimp only at HH h hO hg⊢;have hn:=HH.tn;have hfl:=hF.1;have h':=h;obtain⟨⟨xg,ev,k1,k2',k3⟩,k4⟩:=h';have k1u:=k1.up;have e1:ev=.nili:=k3;subst e1;refine W.bind ?_;unfold S.z16
 repeat' with_reducible first|refine W.ret ?_|refine W.asV ?_|refine W.fldp ?_|refine W.e0 ?_|refine W.nnil ?_|refine W.nck ?_
 refine W.condF rfl ?_;refine W.bind ?_;refine W.mono (yfb_ h hn (by omega)) fun r hr=>?_;obtain⟨r,τ4⟩:=r;obtain⟨T4,xa',er,H4,hc4⟩:=hr;dsimp only at er H4 hc4⊢;subst er;replace hO:=hO.hop H4;replace hn:=H4.tn;replace hg:=hg.mono (H4.le (by rfl));replace HH:=HH.trans H4.uen;obtain⟨T5,H5,hf⟩:=hO.freeze Vw.int_flat hn;replace hc4:=hc4.hop H5;replace hn:=H5.tn;replace hg:=hg.mono (H5.le (by rfl));replace HH:=HH.trans H5.oen;refine W.bind ?_;refine W.mono (yh4_ (os:=[]) (N:=Ou) hg hn hc4 (.inl ⟨rfl,rfl⟩) (yw_.2 ⟨by omega,y3q_.2 hW,by simp⟩) (by simp) hf (by omega) hF.ok) fun r hr=>?_;obtain⟨⟨r1,r2⟩,τ6⟩:=r;obtain⟨T6,y,er,H6,hy⟩:=hr;dsimp only at er H6 hy⊢;cases er;replace HH:=HH.trans H6.uen;have hn:=HH.tn;refine W.newT 40 hn fun l30 τ7 T7 hl30 H7 k30 hnτ7=>?_;replace hy:=hy.hop H7;replace hn:=H7.tn;replace HH:=HH.trans H7.oen
 repeat' (with_reducible refine W.e3 ?_)
 refine W.stT k30 hn (Nat.le_of_ble_eq_true (by rfl)) fun τ8 H8 k30 hnτ8=>?_;replace hy:=hy.hop H8;replace hn:=H8.tn;replace HH:=HH.trans H8.oen
 repeat' (with_reducible refine W.nnil ?_)
 exact hK τ8 T7 g fs l30 y HH hW hF hgl k30 hy
end
end
section
open Go
def rI:Nat->Bool:=fun j=>decide (1<=j)
section
variable{σ τ:Heap}{T T':Tg}{u t n lg lm M N Ou lq l30:Nat}{x y f xa xo xm:AVal}{ms:List (List Bool)}{I:Nat->Bool}{gs g0:List (Int×Int)}{os fs:List Int}{o most:Int}{ex:Bool}{cs:List (List Int)}{sc:(List Int×List Int×List Int×List Int)×Int×Int}
theorem Hop.ri(H:Hop I σ T τ T')(h0:I 0=false:=by rfl):Hop rI σ T τ T':=H.sub fun i hi=>by
 unfold rI;by_cases h:i=0
 ·subst h;rw[h0]at hi;cases hi
 ·simp;omega
theorem yjy_(hg:GlS [.limit,.range] (σ.at T 0))(hn:Tn σ T)(hp:PcI σ T lq most 0 16)(hm:most<=0)(k30:Loc (σ.at T 40) l30 [.int .i64 (n:Int),y])(hy:SlV vIs (σ.at T 0) cs y)(hok:chkC n cs=none)(hn20:n<=20) :
  W (restE (.ptr lq 0) l30 σ) fun r=>∃T',Hop rI σ T r.2 T'/\((r.1=(false,.nili)/\∃m,mods m cs)\/(r.1=(true,.nili)/\∀m,¬mods m cs)):=by
 obtain⟨c1,c2,c3,c4,c5⟩:=yfs_ hok;have hfl:∀c∈cs,c.length<=80000:=fun c hm=>Nat.le_trans (yb8_ hm) c4;unfold restE;have k30u:=k30.up
 repeat' with_reducible first|refine W.bind ?_|refine W.e1 ?_
 refine W.mono (ycf_ (hg.mono at_le) hy.up (by omega) (by omega)) fun r hr=>?_;obtain⟨v,τ3⟩:=r;obtain⟨hF,L3⟩:=hr;dsimp only at hF L3⊢;rw[hok]at hF;refine W.fnil hF ?_;refine W.condF rfl ?_;have HH:Hop rI σ T τ3 T:=Hop.of (I:=rI) hn L3;replace hy:=hy.hle L3;replace k30:=k30.hle L3;replace hn:=hn.mono L3;replace hp:=hp.hle L3;have k30u:=k30.up
 repeat' with_reducible first|refine W.bind ?_|refine W.asI ?_|refine W.e0 ?_
 refine W.mono (yec_ (gl:=false) (vars:=n) hp hm hn (by omega)) fun r hr=>?_;obtain⟨r,τ4⟩:=r;obtain⟨T4,e,s,hs,er,H4,E,EL,hmk⟩:=hr;dsimp only at er H4 E⊢;subst er;have E:En false τ4 T4 e n [] 0:=⟨s,hs,[],[],0,16,E,EL,hmk,fun h=>by cases h⟩;replace hy:=hy.hop H4;replace k30:=k30.hop H4;replace hn:=H4.tn;replace HH:=HH.trans H4.ri;have k30u:=k30.up;have hyu:=hy.up
 repeat' with_reducible first|refine W.bind ?_|refine W.asV ?_|refine W.len (by assumption) ?_|refine W.e0 ?_
 refine W.mono (P:=fun r=>∃T',Hop rI σ T r.2 T'/\En false r.2 T' e n cs cs.length) ?_ fun r hr=>?_
 ·refine W.loop cs.length (fun i (z:Int) τ=>z=(i:Int)/\∃T',Hop rI σ T τ T'/\SlV vIs (τ.at T' 0) cs y/\En false τ T' e n (cs.take i) i) ⟨rfl,T4,HH,hy,by simpa using E⟩ fun i z τ5 hi hI2=>?_
  obtain⟨rfl,T5,HH,hc,E⟩:=hI2;have wr:IntKind.i64.wrap ((i:Int)+1)=((i+1:Nat):Int):=by rw[wrapS]<;>omega
  unfold S.z134.b1
  (with_reducible refine W.cnd (fun hlt=>?_) (fun hlt=>?_)<;>(try simp only[qq,Kd.ty]at hlt)<;>(try (exfalso;omega)))
  ·obtain⟨a,ha⟩:=y3_ (xs:=cs) (i:=i) (by omega)
   have ham:=List.mem_of_getElem? ha;refine W.ixkLS hc at_le ha fun y hy=>?_;refine W.bind ?_;refine W.mono (yi3_ E HH.tn (by omega) (by omega) hy (by have:=hfl a ham;omega) fun l hl=>ygh_ (c5 a ham l hl)) fun r hr=>?_;obtain⟨r,τ6⟩:=r;obtain⟨_,T6,H6,E⟩:=hr;dsimp only at H6 E⊢
   repeat' (with_reducible refine W.next ?_)
   exact⟨by omega,wr,T6,HH.trans H6.ri,hc.hop H6,by rw[List.take_add_one,ha];exact E⟩
  ·repeat' (with_reducible refine W.stop ?_)
   have:i=cs.length:=by omega
   subst this;rw[List.take_length]at E;exact⟨T5,HH,E⟩
 ·obtain⟨r,τ5⟩:=r
  obtain⟨T5,HH,E⟩:=hr;dsimp only at HH E⊢;refine W.bind ?_;have hmu:mu n<=mu 20:=by
   have p1:2 ^ n<=2 ^ 20:=Nat.pow_le_pow_right (by decide) hn20;have p2:2 ^ (n+1)<=2 ^ 21:=Nat.pow_le_pow_right (by decide) (by omega);have p3:2 ^ n / 2 / 8+2<=2 ^ 20 / 2 / 8+2:=by omega
   have:=Nat.mul_le_mul p3 (show 2 ^ (n+1)+1<=2 ^ 21+1 by omega);unfold mu;omega
  have h20:mu 20=137445310466:=by decide
  refine W.mono (yge_ (A:=[]) E HH.tn hn20 (.inl ⟨rfl,rfl⟩) (by simp) (by simp) (by omega)) fun r hr=>?_;obtain⟨r,τ6⟩:=r;obtain⟨T6,w',H6,E,_,hA⟩:=hr;dsimp only at H6 hA⊢;replace HH:=HH.trans H6.ri;have hn:=HH.tn;rcases hA with ⟨y,M,er,_,_,hM,_⟩|⟨y,core,er,_,hc1,hc2,_⟩
  ·subst er
   refine W.newT 35 hn fun l52 τ7 T7 hl52 H7 k52 hnτ7=>?_;replace hn:=H7.tn
   repeat' (with_reducible refine W.e3 ?_)
   refine W.stT k52 hn (Nat.le_of_ble_eq_true (by rfl)) fun τ8 H8 k52 hnτ8=>?_;have k52u:=k52.up
   repeat' with_reducible first|refine W.bind ?_|refine W.asB ?_|refine W.e0 ?_
   refine W.condF rfl ?_
   repeat' with_reducible refine W.ret ?_
   exact⟨T7,(HH.trans H7.ri).trans H8.ri,.inl ⟨rfl,_,hM⟩⟩
  ·subst er
   refine W.newT 35 hn fun l52 τ7 T7 hl52 H7 k52 hnτ7=>?_;replace hn:=H7.tn
   repeat' (with_reducible refine W.e3 ?_)
   refine W.stT k52 hn (Nat.le_of_ble_eq_true (by rfl)) fun τ8 H8 k52 hnτ8=>?_;have k52u:=k52.up
   repeat' with_reducible first|refine W.bind ?_|refine W.asB ?_|refine W.e0 ?_
   refine W.condT rfl ?_
   repeat' with_reducible first|refine W.ret ?_|refine W.nnil ?_
   exact⟨T7,(HH.trans H7.ri).trans H8.ri,.inr ⟨rfl,fun m hm=>hc2 m hm fun l hl=>by cases hc1 l hl⟩⟩
theorem SlV.bnil{l:Nat}(h:SlV .int σ [] (.sl l 0 0 none)):SlV .bool σ [] (.sl l 0 0 none):=by
 rcases h with ⟨e,_⟩|⟨l',off,c,md,us,e,h1,h2,h3,h4⟩
 ·cases e
 ·exact .inr ⟨l',off,c,md,us,e,h1,h2,h3,fun i a hi=>by simp at hi⟩
theorem W.newB2{R:Type}{Q:R->Prop}(hn:Tn σ T){a b:List Bool}{u v:AVal}(ha:SlV .bool (σ.at T 0) a u)(hb:SlV .bool (σ.at T 0) b v){K:Nat->Heap->Option R}
  (c:∀l τ,l=σ.next->Hle σ τ->SlV vBs (τ.at T 0) [a,b] (.sl l 0 2 none)->Tn τ T->W (K l τ) Q):W (YtekehmgfedmflaaGreatDoor.A.newK σ 1 [u,v] K) Q:=by
 refine W.newg fun l τ hl L _ g1 n1=>?_;refine c l τ hl L (.inr ⟨l,0,none,.rw,_,rfl,by show l<τ.next;omega,at_of (hn.z _ (by omega)) g1,Nat.le_of_ble_eq_true rfl,fun i z hi=>?_⟩) (hn.mono L)
 match i,hi with
 |0,hi=>cases hi;exact⟨_,rfl,ha.hle L⟩
 |1,hi=>cases hi;exact⟨_,rfl,hb.hle L⟩
 |i+2,hi=>simp at hi
theorem W.newB1{R:Type}{Q:R->Prop}(hn:Tn σ T){a:List Bool}{u:AVal}(ha:SlV .bool (σ.at T 0) a u){K:Nat->Heap->Option R}
  (c:∀l τ,l=σ.next->Hle σ τ->SlV vBs (τ.at T 0) [a] (.sl l 0 1 none)->Tn τ T->W (K l τ) Q):W (YtekehmgfedmflaaGreatDoor.A.newK σ 1 [u] K) Q:=by
 refine W.newg fun l τ hl L _ g1 n1=>?_;refine c l τ hl L (.inr ⟨l,0,none,.rw,_,rfl,by show l<τ.next;omega,at_of (hn.z _ (by omega)) g1,Nat.le_of_ble_eq_true rfl,fun i z hi=>?_⟩) (hn.mono L)
 match i,hi with
 |0,hi=>cases hi;exact⟨_,rfl,ha.hle L⟩
 |i+1,hi=>simp at hi
def y70_(Ou N:Int)(gs:List (Int×Int))(os:List Int)(ms:List (List Bool)):Option Er:=match y2m_ Ou N gs os with
 |some e=>some e
 |none=>if(ms.all fun c=>decide ((c.length:Int)=N-Ou))=true then none else some .range
theorem y5x_{o:Int}(h:y2m_ (Ou:Int) (N:Int) gs [o]=none):yt_ (N:Int) gs [o]=none/\Ou<=N:=by
 unfold y2m_ at h;have hcir:yt_ (N:Int) gs [o]=none:=by
  split at h
  ·cases h
  ·assumption
 rw[hcir]at h;dsimp only at h
 split at h
 ·cases h
 ·exact⟨hcir,by omega⟩
theorem ycm_(hg:GlS [.range,.limit] (σ.at T 0))(hn:Tn σ T)(hc:SlV vLn (σ.at T 0) gs xa)(ho:SlV .int (σ.at T 0) [o] xo)(hms:SlV vBs (σ.at T 0) ms xm)(hmm:ms.length<=1000)(hgl:gs.length<=10000) :
  W (S.z133 (.agg [.bool ex,.int .i64 Ou,.int .i64 N,xa,xo]) xm σ) fun r=>∃T',Hop (only 28) σ T r.2 T'/\IsF (r.2.at T' 0) r.1 ((y70_ Ou N gs [o] ms).map fun e=>(e,none)):=by
 have hn0:=hn;unfold S.z133
 repeat' (with_reducible refine W.e3 ?_)
 refine W.new0 hn fun l2 τ1 _ L1 k2 _=>?_;replace hc:=hc.hle L1;replace ho:=ho.hle L1;replace hms:=hms.hle L1;replace hn:=hn.mono L1;replace hg:=hg.mono (L1.ats T 0);have k2u:=k2.up
 repeat' with_reducible first|refine W.bind ?_|refine W.e1 ?_
 refine W.mono (yc9_ (ex:=ex) (Ou:=(Ou:Int)) (N:=(N:Int)) hg hn hc ho (by omega) (by simp)) fun r hr=>?_;obtain⟨v,τ2⟩:=r;obtain⟨L2,hF⟩:=hr;dsimp only at L2 hF⊢;replace hc:=hc.hle L2;replace ho:=ho.hle L2;replace hms:=hms.hle L2;replace k2:=k2.hle L2;replace hn:=hn.mono L2;replace hg:=hg.mono (L2.ats T 0);refine W.fnil (hF.mono at_le) ?_;unfold y70_;cases hm:y2m_ (Ou:Int) (N:Int) gs [o] with
 |some e=>
  rw[hm]at hF;refine W.condT rfl ?_;exact W.ret ⟨T,(Hop.of hn0 L1).hle L2,hF⟩
 | none=>
  refine W.condF rfl ?_;obtain⟨hcir,hOu⟩:=y5x_ hm;obtain⟨c1,c2,c3⟩:=yw_.1 hcir;have k2u:=k2.up
  repeat' with_reducible first|refine W.bind ?_|refine W.e1 ?_
  refine W.mono (yco_ hn hms (by omega) (by omega) (by omega)) fun r hr=>?_;obtain⟨b,τ3⟩:=r;obtain⟨T3,H3,er⟩:=hr;dsimp only at H3 er⊢;subst er;replace hg:=hg.mono (H3.le (by rfl));have HH:=(((Hop.of hn0 L1).hle L2).trans H3);by_cases hb:(ms.all fun c=>decide ((c.length:Int)=(N:Int)-Ou))=true
  ·rw[hb]
   refine W.condF rfl ?_;exact W.ret ⟨T3,HH,rfl⟩
  ·rw[Bool.not_eq_true]at hb
   rw[hb];refine W.condT rfl ?_;refine W.globT hg .range fun v hv=>?_;exact W.ret ⟨T3,HH,hv⟩
theorem yhn_(hg:GlS [.range,.limit] (σ.at T 0))(hn:Tn σ T)(hc:SlV vLn (σ.at T 0) gs xa)(ho:SlV .int (σ.at T 0) [o] xo)(hok:y70_ Ou N gs [o] ms=none)(hms:SlV vBs (σ.at T 0) ms xm)(hmm:ms.length<=1000)(hM:Ou+ms.length*gs.length+gs.length<=20)(hsc:ScV (σ.at T 0) x sc)(hs:ScS sc)(hm:sc.2.1<=0) :
  W (S.z130 (.agg [.bool ex,.int .i64 Ou,.int .i64 N,xa,xo]) x xm σ) fun r=>∃T' g fs,Hop rI σ T r.2 T'/\Fsd ex Ou N gs o g fs ms/\g.length<=ms.length*gs.length/\((r.1=(false,.nili)/\∃m,mods m (encT Ou g fs))\/(r.1=(true,.nili)/\∀m,¬mods m (encT Ou g fs))):=by
 have hmk:y2m_ (Ou:Int) (N:Int) gs [o]=none/\(ms.all fun c=>decide ((c.length:Int)=(N:Int)-Ou))=true:=by
  unfold y70_ at hok
  split at hok
  ·cases hok
  ·rename_i h
   split at hok
   ·rename_i h2;exact⟨h,h2⟩
   ·cases hok
 obtain⟨hcir,hOu⟩:=y5x_ hmk.1;obtain⟨c1,c2,c3⟩:=yw_.1 hcir;have hml:∀m∈ms,m.length<=100000:=fun m hm=>by
  have:=List.all_eq_true.1 hmk.2 m hm;simp at this;omega
 have hn0:=hn;obtain⟨x0,x1,x2,x3,rfl,s0,s1,s2,s3⟩:=hsc;unfold S.z130
 repeat' (with_reducible refine W.e3 ?_)
 refine W.new0 hn fun l2 τ1 _ L1 k2 hn1=>?_
 repeat' (with_reducible refine W.e3 ?_)
 refine W.new0 hn1 fun l5 τ2 _ L2 k5 _=>?_;have L12:=L1.trans L2;replace hc:=hc.hle L12;replace ho:=ho.hle L12;replace hms:=hms.hle L12;replace s0:=s0.hle L12;replace s1:=s1.hle L12;replace s2:=s2.hle L12;replace s3:=s3.hle L12;replace hn:=hn.mono L12;replace k2:=k2.hle L2;replace hg:=hg.mono (L12.ats T 0);have HH:Hop rI σ T τ2 T:=Hop.of hn0 L12;have k2u:=k2.up;have k5u:=k5.up
 repeat' with_reducible first|refine W.bind ?_|refine W.e1 ?_
 refine W.mono (ycm_ (ex:=ex) (Ou:=Ou) (N:=N) hg hn hc ho hms hmm (by omega)) fun r hr=>?_;obtain⟨v,τ3⟩:=r;obtain⟨T3,H3,hF⟩:=hr;dsimp only at H3 hF⊢;rw[hok]at hF;refine W.fnil (hF.mono at_le) ?_;refine W.condF rfl ?_;replace hc:=hc.hop H3;replace ho:=ho.hop H3;replace hms:=hms.hop H3;replace s0:=s0.hop H3;replace s1:=s1.hop H3;replace s2:=s2.hop H3;replace s3:=s3.hop H3;replace k2:=k2.hop H3;replace k5:=k5.hop H3;replace hn:=H3.tn;replace hg:=hg.mono (H3.le (by rfl));replace HH:=HH.trans H3.ri;have k2u:=k2.up;have k5u:=k5.up
 repeat' with_reducible first|refine W.bind ?_|refine W.e1 ?_
 refine W.mono (yfm_ (sc:=sc) ⟨x0,x1,x2,x3,rfl,s0,s1,s2,s3⟩ hn hs) fun r hr=>?_;obtain⟨r,τ4⟩:=r;obtain⟨T4,lq,er,H4,hp⟩:=hr;dsimp only at er H4 hp⊢;subst er;replace hc:=hc.hop H4;replace ho:=ho.hop H4;replace hms:=hms.hop H4;replace k2:=k2.hop H4;replace hn:=H4.tn;replace hg:=hg.mono (H4.le (by rfl));replace HH:=HH.trans H4.ri;have k2u:=k2.up
 repeat' with_reducible first|refine W.bind ?_|refine W.chk rfl ?_|refine W.e1 ?_
 refine W.mono (P:=fun r=>∃T' g fs,Hop rI σ T r.2 T'/\Fsd ex Ou N gs o g fs ms/\g.length<=ms.length*gs.length/\((r.1=(false,.nili)/\∃m,mods m (encT Ou g fs))\/(r.1=(true,.nili)/\∀m,¬mods m (encT Ou g fs)))) ?_ fun r hr=>W.ret hr;refine yg9_ (lq:=lq) hg hn hc ho hcir hOu hms hml hmm (by omega) fun τ5 T5 g fs l30 y H5 hW hF hgl k30 hy=>?_;replace hp:=hp.hop H5;replace hg:=hg.mono (H5.le (by rfl));have hn:=H5.tn;have hfl:=hF.1;have hel:(encT Ou g fs).length<=20000:=by
  have h1:=List.length_filterMap_le (fun l=>yo_ [l]) fs;have h2:=y3s_ (N:=Ou) (gs:=g) g.length;unfold encT;rw[List.length_append];omega
 refine W.mono (yjy_ (hg.sub fun e he=>by simp at he⊢;rcases he with rfl|rfl<;>simp) hn hp hm k30 hy (yh9_ (by omega) hel (yij_ hW hF.ok)) (by omega)) fun r hr=>?_;obtain⟨T6,H6,hr⟩:=hr;exact⟨T6,g,fs,(HH.trans H5.ri).trans H6,hF,hgl,hr⟩
theorem yfz_(hg:GlS [.range,.limit] (σ.at T 0))(hn:Tn σ T):W (S.z111 σ) fun r=>r.1=true/\∃T',Hop rI σ T r.2 T':=by
 have hn0:=hn;unfold S.z111;refine W.newI1 hn fun l1 τ1 _ L1 k1 hn=>?_;refine W.newIs hn [] rfl fun l3 τ2 _ L2 k3 hn=>?_;have k3:=SlV.bnil k3;refine W.newB1 hn k3 fun l5 τ3 _ L3 k5 hn=>?_;have L23:=L2.trans L3;have L:=L1.trans L23;replace k1:=k1.hle L23;replace hg:=hg.mono (L.ats T 0);refine W.bind ?_;refine W.mono (yhn_ (sc:=(([],[],[],[]),0,0)) (ex:=true) (Ou:=0) (N:=0) (gs:=[]) (o:=0) (ms:=[[]]) hg hn (.inl ⟨rfl,rfl⟩) k1 (by decide) k5 (by decide) (by decide) ⟨.nils,.nils,.nils,.nils,rfl,.inl ⟨rfl,rfl⟩,.inl ⟨rfl,rfl⟩,.inl ⟨rfl,rfl⟩,.inl ⟨rfl,rfl⟩⟩ ⟨by decide,by decide,by decide,by decide⟩ (by decide)) fun r hr=>?_;obtain⟨r,τ4⟩:=r;obtain⟨T4,g,fs,H4,hF,hgl,hr⟩:=hr;dsimp only at H4 hr⊢;have hg0:g=[]:=List.eq_nil_of_length_eq_zero (by simpa using hgl);subst hg0;obtain⟨f,hf⟩:=y3_ (xs:=fs) (i:=0) (by rw[hF.1];decide);have hfs:fs=[f]:=by
  have:=hF.1
  match fs,hf,this with
  |[a],hf,_=>simp at hf;rw[hf]
 subst hfs;obtain⟨h1,h2⟩:=hF.2 0 f [] rfl rfl;have h1:=ya_.1 h1;have h2:=h2 fun _=>false;have hf0:f=0:=by
  rcases(show f=0\/f=1 by simp at h1;omega)with e|e
  ·exact e
  ·subst e;exact absurd h2 (by decide)
 subst hf0;have her:r=(true,.nili):=by
  rcases hr with ⟨_,m,hm⟩|⟨er,_⟩
  ·obtain⟨l,hl,_⟩:=hm [] (by decide)
   cases hl
  ·exact er
 subst her;have HH:Hop rI σ T τ4 T4:=(Hop.of (I:=rI) hn0 L).trans H4;have hn:=H4.tn;refine W.new1 (v:=.bool) hn true rfl (fun _ _=>rfl) fun l8 τ5 _ L5 k8 hn=>?_;refine W.new1 (v:=.bool) hn true rfl (fun _ _=>rfl) fun l10 τ6 _ L6 k10 hn=>?_;replace k8:=k8.hle L6;refine W.newB2 hn k8 k10 fun l12 τ7 _ L7 k12 hn=>?_;replace HH:=((HH.hle L5).hle L6).hle L7;refine W.bind ?_;refine W.mono (yfc_ k12 hn (by decide) (fun c hc=>by simp at hc;subst hc;simp)) fun r hr=>?_;obtain⟨xo,τ8⟩:=r;obtain⟨T8,H8,hO⟩:=hr;dsimp only at H8 hO⊢;have hd:dedup [[true],[true]]=[[true]]:=by decide
 rw[hd]at hO;replace HH:=HH.trans H8.ri;have hs:=hO.sl;refine W.bind ?_;refine W.condT rfl ?_
 repeat' (with_reducible refine W.nnil ?_)
 refine W.condT rfl ?_
 repeat' with_reducible first|refine W.ret ?_|refine W.len (by assumption) ?_
 exact⟨rfl,T8,HH⟩
theorem y9q_{m:Int}{l:List Int}(hg:GlS [.range,.limit] σ)(hl:SlV .int σ l x)(b1:l.length<=4611686018427387904):W (S.z110 x m σ) fun r=>r.1=true:=
 ycr_ hl b1 (yfz_ hg.tz0 Tn.tz)
end
end
end Go.Proofs.YtekehmgfedmflaaGreatDoor.A
end
