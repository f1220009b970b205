/- Parts of the proof, one behind another. -/
import Derived.Test.YtafbldhedkallaaGreatDoorX9
set_option linter.all false
noncomputable section
namespace Go.Proofs.YtafbldhedkallaaGreatDoor.A
section
open Go
theorem y6z_{σ:Heap}{n b:Int}(hb:0<b)(hb2:b<=4611686018427387904):S.z123 n b σ=some (n % b):=by
 unfold S.z123;rw[if_neg (by omega)];have h0:=Int.emod_nonneg n (show b≠0 by omega);have h1:=Int.emod_lt_of_pos n hb;rcases(show n<0\/0<=n by omega)with hn|hn
 ·have e:Int.tmod n b=if n % b=0 then 0 else n % b-b:=by
   rw[Int.tmod_eq_emod]
   split
   ·rename_i h
    rcases h with h|h
    ·omega
    ·have:=Int.emod_eq_zero_of_dvd h;rw[if_pos this];omega
   ·rename_i h
    have:n % b≠0:=fun e=>h (.inr (Int.dvd_of_emod_eq_zero e));rw[if_neg this];omega
  rw[e];by_cases hz:n % b=0
  ·rw[if_pos hz,hz];rfl
  ·rw[if_neg hz]
   have:decide (n % b-b<0)=true:=by simp;omega
   rw[this];have w:IntKind.i64.wrap (n % b-b+b)=n % b:=by rw[wrapS]<;>omega
   rw[w];rfl
 ·have e:Int.tmod n b=n % b:=Int.tmod_eq_emod_of_nonneg hn
  rw[e];have:decide (n % b<0)=false:=by simp;omega
  rw[this];rfl
def lit(n vars:Int):Int:=if n % (2*vars)<vars then n % (2*vars)+1 else vars-n % (2*vars)-1
theorem yjo_{n vars:Int}(h:0<vars):lit n vars≠0/\-vars<=lit n vars/\lit n vars<=vars:=by
 unfold lit;have h0:=Int.emod_nonneg n (show 2*vars≠0 by omega);have h1:=Int.emod_lt_of_pos n (show 0<2*vars by omega)
 split<;>omega
theorem yjp_{σ:Heap}{n vars:Int}(h:0<vars)(h2:vars<=1000000):S.z121 n vars σ=some (lit n vars):=by
 unfold S.z121 lit;have w:IntKind.i64.wrap (2*vars)=2*vars:=by rw[wrapS]<;>omega
 have h0:=Int.emod_nonneg n (show 2*vars≠0 by omega);have h1:=Int.emod_lt_of_pos n (show 0<2*vars by omega);rw[w,y6z_ (by omega) (by omega)];simp only[Option.bind_some];by_cases hl:n % (2*vars)<vars
 ·simp only[hl,decide_true,cond_true,if_true]
  rw[wrapS]<;>omega
 ·simp only[hl,decide_false,cond_false,if_false]
  have w1:IntKind.i64.wrap (vars-n % (2*vars))=vars-n % (2*vars):=by rw[wrapS]<;>omega
  rw[w1,wrapS]<;>omega
def stepC(vars:Int)(s:List (List Int)×List Int)(n:Int):List (List Int)×List Int:=
 let t:=if(n % 7=0/\s.2.length>0)\/s.2.length>=5 then(s.1++[s.2],[])else s
 (t.1,t.2++[lit (n % 1099511627776 / 7) vars])
def endC(s:List (List Int)×List Int):List (List Int):=if s.2.length>0 then s.1++[s.2]else s.1
def y19_(l:List Int)(vars:Int):List (List Int):=if vars<1 then[]else endC (l.foldl (stepC vars) ([],[]))
theorem ybk_:∀{cs:List (List Int)},(∀c∈cs,c≠[])->cs.length<=cs.flatten.length
 |[],_=>by simp
 |c::cs,h=>by
  have h1:=ybk_ (cs:=cs) fun d hd=>h d (List.mem_cons_of_mem _ hd);have h2:c.length≠0:=fun e=>h c (by simp) (List.eq_nil_of_length_eq_zero e);simp only[List.flatten_cons,List.length_append,List.length_cons];omega
structure CI(vars:Int)(k:Nat)(s:List (List Int)×List Int):Prop where
 ok:∀c∈s.1,c≠[]/\c.length<=5/\∀l∈c,l≠0/\-vars<=l/\l<=vars
 ok2:s.2.length<=5/\∀l∈s.2,l≠0/\-vars<=l/\l<=vars
 len:s.1.flatten.length+s.2.length=k
theorem CI.len2{vars:Int}{k:Nat}{s:List (List Int)×List Int}(h:CI vars k s):s.1.length+s.2.length<=k:=by
 have:=ybk_ fun c hc=>(h.ok c hc).1;have:=h.len;omega
theorem yhf_{vars:Int}(hv:0<vars){k:Nat}{s:List (List Int)×List Int}(h:CI vars k s)(n:Int):CI vars (k+1) (stepC vars s n):=by
 obtain⟨h1,h2,h3⟩:=h;unfold stepC;have hl:=yjo_ (n:=n % 1099511627776 / 7) hv;by_cases hc:(n % 7=0/\s.2.length>0)\/s.2.length>=5
 ·rw[if_pos hc]
  have hp:0<s.2.length:=by rcases hc with ⟨_,h⟩|h<;>omega
  refine⟨fun c hc=>?_,⟨by simp,fun l hl'=>?_⟩,?_⟩
  ·rcases List.mem_append.1 hc with hc|hc
   ·exact h1 c hc
   ·simp at hc;subst hc
    exact⟨fun e=>by rw[e]at hp;simp at hp,h2⟩
  ·simp at hl';subst hl';exact hl
  ·simp only[List.flatten_append,List.length_append,List.flatten_cons,List.flatten_nil,List.append_nil,List.nil_append,List.length_singleton,List.length_nil];omega
 ·rw[if_neg hc]
  refine⟨h1,⟨?_,fun l hl'=>?_⟩,?_⟩
  ·simp only[List.length_append,List.length_singleton];omega
  ·rcases List.mem_append.1 hl' with hl'|hl'
   ·exact h2.2 l hl'
   ·simp at hl';subst hl';exact hl
  ·simp only[List.flatten_append,List.length_append,List.flatten_cons,List.flatten_nil,List.append_nil,List.nil_append,List.length_singleton,List.length_nil];omega
theorem y8n_{vars:Int}(hv:0<vars):∀(l:List Int) (k:Nat) (s:List (List Int)×List Int),CI vars k s->CI vars (k+l.length) (l.foldl (stepC vars) s)
 |[],k,s,h=>h
 |n::l,k,s,h=>by
  have:=y8n_ hv l (k+1) _ (yhf_ hv h n);rw[List.length_cons,show k+(l.length+1)=k+1+l.length by omega];exact this
theorem CI0(vars:Int):CI vars 0 ([],[]):=⟨fun c h=>(by cases h),⟨by simp,fun l h=>(by cases h)⟩,rfl⟩
theorem y6m_(l:List Int)(vars:Int):(∀c∈y19_ l vars,c≠[]/\c.length<=5/\∀x∈c,x≠0/\-vars<=x/\x<=vars)/\(y19_ l vars).flatten.length<=l.length/\(y19_ l vars).length<=l.length:=by
 unfold y19_
 split
 ·simp
 ·have h0:=y8n_ (show 0<vars by omega) l 0 _ (CI0 vars)
  have h4:=h0.len2;obtain⟨h1,h2,h3⟩:=h0;generalize l.foldl (stepC vars) ([],[])=s at *;unfold endC
  split
  ·rename_i hp
   refine⟨fun c hc=>?_,by simp only[List.flatten_append,List.length_append,List.flatten_cons,List.flatten_nil,List.append_nil,List.nil_append,List.length_singleton,List.length_nil];omega,by simp only[List.flatten_append,List.length_append,List.flatten_cons,List.flatten_nil,List.append_nil,List.nil_append,List.length_singleton,List.length_nil];omega⟩;rcases List.mem_append.1 hc with hc|hc
   ·exact h1 c hc
   ·simp at hc;subst hc
    exact⟨fun e=>by rw[e]at hp;simp at hp,h2⟩
  ·exact⟨h1,by omega,by omega⟩
theorem Acc.apart{α:Type}{v:Vw α}{n m:Nat}{τ:Heap}{os:List α}{cl:List Int}{o c:AVal}(hO:Acc v n (out τ c) os o)(hC:Acc .int m τ cl c):SlV .int (out τ o) cl c:=by
 refine hC.sl.flat Vw.int_flat (by rw[yby_];exact Nat.le_refl _) fun l off len k e=>?_;rcases hO with ⟨rfl,_⟩|⟨lo,cs,rfl,h1,h2,h3,_⟩
 ·rfl
 ·subst e
  have h3:(τ.kill l).get lo=_:=h3;rw[ys_]at h3
  split at h3
  ·cases h3
  ·rename_i h
   show(τ.kill lo).get l=_;rw[ys_,if_neg (fun e=>h e.symm)]
theorem yfk_{σ:Heap}{l:List Int}{vars:Int}{x:AVal}(hx:SlV .int σ l x)(hb:l.length<=1000000)(hv:vars<=1000000) :
  W (S.z119 x vars σ) fun r=>Hle σ r.2/\Acc (vIsF σ.next) σ.next r.2 (y19_ l vars) r.1:=by
 unfold S.z119 y19_;by_cases hv1:vars<1
 ·repeat' (first|(with_reducible refine W.ret ?_)|(with_reducible refine W.condT ?_ ?_;focus (first|(simp only[qq,Kd.ty];done)|(simp only[qq,Kd.ty];omega)|assumption)))
  rw[if_pos hv1];exact⟨Hle.refl _,Acc.nil _ _ _⟩
 repeat' (first|(with_reducible refine W.bind ?_)|(with_reducible refine W.condF ?_ ?_;focus (first|(simp only[qq,Kd.ty];done)|(simp only[qq,Kd.ty];omega)|assumption)))
 rw[if_neg hv1];refine W.loop l.length (fun i (y:AVal×AVal×Int) τ=>y.2.2=(i:Int)/\Hle σ τ/\Acc (vIsF σ.next) σ.next (out τ y.2.1) ((l.take i).foldl (stepC vars) ([],[])).1 y.1/\Acc .int σ.next τ ((l.take i).foldl (stepC vars) ([],[])).2 y.2.1)
  ⟨rfl,Hle.refl _,Acc.nil _ _ _,Acc.nil _ _ _⟩ fun i y τ hi hI=>?_
 obtain⟨o,c,j⟩:=y;obtain⟨rfl,L,hO,hC⟩:=hI;dsimp only at hO hC;have hci:=y8n_ (show 0<vars by omega) (l.take i) 0 _ (CI0 vars);have hti:(l.take i).length<=i:=by simp;omega
 unfold S.z119.b0;dsimp only;have hx':=hx.mono L
 repeat' (with_reducible refine W.len (by assumption) ?_)
 (with_reducible refine W.cnd (fun hq=>?_) (fun hq=>?_)<;>(try simp only[qq,Kd.ty]at hq)<;>(try (exfalso;omega)))
 ·obtain⟨n,hn⟩:∃n,l[i]?=some n:=⟨_,List.getElem?_eq_getElem (by omega)⟩
  have htk:l.take (i+1)=l.take i++[n]:=by rw[List.take_add_one,hn];rfl
  have hstep:(l.take (i+1)).foldl (stepC vars) ([],[])=stepC vars ((l.take i).foldl (stepC vars) ([],[])) n:=by rw[htk,List.foldl_append];rfl
  rw[hstep];generalize (l.take i).foldl (stepC vars) ([],[])=s at *;have hCl:=hC.sl;have c4:=hci.len2;obtain⟨c1,c2,c3⟩:=hci
  repeat' with_reducible first|refine W.bind ?_|refine W.e2 ?_
  refine W.to (y6z_ (by omega) (by omega)) ?_
  repeat' with_reducible refine W.ret ?_
  have hcut:W (cond (n % 7==0) (lenV c fun n9=>cond (decide (n9>0)) (some true) (lenV c fun n10=>some (decide (n10>=5)))) (lenV c fun n11=>some (decide (n11>=5)))) fun r=>r=decide ((n % 7=0/\s.2.length>0)\/s.2.length>=5):=by
   repeat' (first|(with_reducible (first|refine W.ret ?_|refine W.len (by assumption) ?_))|(with_reducible refine W.cnd (fun hc=>?_) (fun hc=>?_)<;>(try simp only[qq,Kd.ty]at hc)<;>(try (exfalso;omega))))
   all_goals first|exact(decide_eq_true (by omega)).symm|exact(decide_eq_false (by omega)).symm|exact decide_eq_decide.2 (by omega)
  refine W.mono hcut fun r hr=>?_;subst hr;have hmid:W (cond (decide ((n % 7=0/\s.2.length>0)\/s.2.length>=5)) (scal c (newK τ 1 [c] fun l13 σ14=>appS σ14 1 24 o (.sl l13 0 1 none) fun v15 σ16=>some ((v15,AVal.nils),σ16))) (some ((o,c),τ))) fun r=>
    Hle σ r.2/\∃t:List (List Int)×List Int,t=(if(n % 7=0/\s.2.length>0)\/s.2.length>=5 then(s.1++[s.2],[])else s)/\t.2.length<=5/\Acc (vIsF σ.next) σ.next (out r.2 r.1.2) t.1 r.1.1/\Acc .int σ.next r.2 t.2 r.1.2:=by
   (with_reducible refine W.cnd (fun hcc=>?_) (fun hcc=>?_)<;>(try simp only[qq,Kd.ty]at hcc)<;>(try (exfalso;omega)))
   ·refine W.scalS hCl ?_
    have hO':=hO.mono (Hle.out _ _);refine W.push hO' L (cs:=[c]) (a:=s.2) ⟨c,rfl,hO.apart hC,hC.from (Nat.le_refl _)⟩ (by omega) (by omega) fun o' τ' L' hO'' _=>?_
    repeat' with_reducible refine W.ret ?_
    exact⟨L',_,rfl,by rw[if_pos (by simpa using hcc)];simp,by rw[if_pos (by simpa using hcc)];exact hO'',by rw[if_pos (by simpa using hcc)];exact Acc.nil _ _ _⟩
   ·repeat' with_reducible refine W.ret ?_
    have hcc':¬((n % 7=0/\s.2.length>0)\/s.2.length>=5):=by simpa using hcc
    exact⟨L,_,rfl,by rw[if_neg hcc'];exact c2.1,by rw[if_neg hcc'];exact hO,by rw[if_neg hcc'];exact hC⟩
  repeat' (with_reducible refine W.bind ?_)
  refine W.mono hmid fun r hr=>?_;obtain⟨⟨o',c'⟩,τ'⟩:=r;obtain⟨L',t,ht,ht5,hO',hC'⟩:=hr;dsimp only at L' hO' hC'⊢;have hx2:=hx.mono L'
  repeat' with_reducible first|refine W.bind ?_|refine W.e2 ?_
  refine W.to (y6z_ (by omega) (by omega)) ?_
  repeat' with_reducible first|refine W.ret ?_|refine W.bind ?_
  have h0:=Int.emod_nonneg n (show(1099511627776:Int)≠0 by omega);have h1:=Int.emod_lt_of_pos n (show(0:Int)<1099511627776 by omega);have w:IntKind.i64.wrap (Int.tdiv (n % 1099511627776) 7)=n % 1099511627776 / 7:=by
   rw[Int.tdiv_eq_ediv_of_nonneg h0,wrapS]<;>omega
  rw[w];refine W.to (yjp_ (by omega) hv) ?_
  repeat' with_reducible refine W.ret ?_
  refine W.pushI hC' L' (by omega) (by omega) fun c2 τ2 L2 hC2 X2=>?_
  repeat' with_reducible first|refine W.next ?_|refine W.ret ?_
  refine⟨by omega,sk,L2,?_,?_⟩
  ·unfold stepC;rw[<-ht];exact hO'.mono X2
  ·unfold stepC;rw[<-ht];exact hC2
 ·repeat' (with_reducible refine W.stop ?_)
  rw[List.take_of_length_le (by omega)]at hO hC hci;generalize l.foldl (stepC vars) ([],[])=s at *;have c4:=hci.len2;obtain⟨c1,c2,c3⟩:=hci;have hCl:=hC.sl;unfold endC
  repeat' with_reducible first|refine W.bind ?_|refine W.len (by assumption) ?_
  (with_reducible refine W.cnd (fun hcc=>?_) (fun hcc=>?_)<;>(try simp only[qq,Kd.ty]at hcc)<;>(try (exfalso;omega)))
  ·refine W.scalS hCl ?_
   have hO':=hO.mono (Hle.out _ _);refine W.push hO' L (cs:=[c]) (a:=s.2) ⟨c,rfl,hO.apart hC,hC.from (Nat.le_refl _)⟩ (by omega) (by omega) fun o' τ' L' hO'' _=>?_
   repeat' with_reducible refine W.ret ?_
   rw[if_pos (by omega)];exact⟨L',hO''⟩
  ·repeat' with_reducible refine W.ret ?_
   rw[if_neg (by omega)];exact⟨L,hO.mono (Hle.out _ _)⟩
end
section
open Go
section
variable{α β:Type}{v:Vw α}{w:Vw β}{n m k l:Nat}{σ τ:Heap}{xs:List α}{ys:List β}{x y:AVal}{cs:List AVal}
theorem Acc.kill(h:Acc v n σ xs x)(hv:v.Over n)(hk:k<n):Acc v n (σ.kill k) xs x:=by
 rcases h with h|⟨l,cs,h1,h2,h3,h4,h5,h6⟩
 ·exact .inl h
 ·refine .inr ⟨l,cs,h1,h2,h3,by rw[ys_,if_neg (by omega)];exact h4,h5,fun i a hi=>?_⟩
  refine hv (σ.kill l) ((σ.kill k).kill l) _ _ (Nat.le_refl _) (fun j o hj hg=>?_) (h6 i a hi);rw[ys_]at hg⊢
  split at hg
  ·cases hg
  ·rename_i h;rw[if_neg h,ys_,if_neg (by omega)];exact hg
end
end
section
open Go
theorem Acc.widen{σ:Heap}{n m:Nat}{xs:List (List Int)}{x:AVal}(h:Acc (vIsF n) n σ xs x)(hm:m<=n):Acc (vIsF m) m σ xs x:=by
 rcases h with h|⟨j,cs,e1,e2,e3,e4,e5,e6⟩
 ·exact .inl h
 ·exact .inr ⟨j,cs,e1,by omega,e3,e4,e5,fun i a hi=>by
   obtain⟨u,q1,q2,q3⟩:=e6 i a hi;exact⟨u,q1,q2,fun l off len c e=>by have:=q3 l off len c e;omega⟩⟩
theorem cnf_w{σ:Heap}{l:List Int}{vars:Int}{x:AVal}(hx:SlV .int σ l x)(hb:l.length<=1000000)(hv:vars<=1000000) :
  W (S.z118 x vars σ) fun r=>Hle σ r.2/\∃y,r.1=.agg [.int .i64 vars,y]/\Acc (vIsF σ.next) σ.next r.2 (y19_ l vars) y:=by
 unfold S.z118;refine W.new fun l1 τ hl1 L h1 hnτ=>?_;refine W.call (yfk_ (hx.mono L) hb hv) fun r hr=>?_;obtain⟨y,τ2⟩:=r;obtain⟨L2,hA⟩:=hr;dsimp only at L2 hA⊢;replace L:=L.mono L2;replace h1:=h1.mono L2;have hnx:=L2.next;refine W.scalS hA.sl ?_;refine W.st0 h1 (by rfl) fun τ3 L3 hnτ3 h1=>?_
 repeat' with_reducible first|refine W.ret ?_|refine W.e1 ?_
 exact⟨L.ofk (by omega) L3,y,rfl,((hA.kill (k:=l1) (ygk_ _) (by omega)).mono L3).widen (by omega)⟩
end
section
open Go
def holds(m:Nat->Bool)(l:Int):Bool:=m l.natAbs==decide (0<l)
def tru(m:Nat->Bool)(c:List Int):Prop:=∃l∈c,holds m l=true
def mods(m:Nat->Bool)(D:List (List Int)):Prop:=∀c∈D,tru m c
def nz(D:List (List Int)):Prop:=∀c∈D,∀l∈c,l≠0
theorem y2o_{m:Nat->Bool}{l:Int}(h:l≠0):holds m (-l) = !holds m l:=by
 unfold holds;rw[Int.natAbs_neg];by_cases h1:0<l
 ·have:¬0 < -l:=by omega
  simp only[h1,this,decide_true,decide_false];cases m l.natAbs<;>rfl
 ·have:0 < -l:=by omega
  simp only[h1,this,decide_true,decide_false];cases m l.natAbs<;>rfl
theorem Der.holds{D:List (List Int)}{s:List Int}{m:Nat->Bool}(hD:mods m D)(hz:nz D)(hs:∀l∈s,A.holds m l=true){l:Int}(h:Der D s l):A.holds m l=true:=by
 induction h with
 |start h=>exact hs _ h
 | unit hc hl _ ih=>
  rename_i c l _;obtain⟨k,hk,ht⟩:=hD c hc;by_cases e:k=l
  ·rw[<-e];exact ht
  ·have:=ih k hk e
   rw[y2o_ (hz c hc k hk),ht]at this;cases this
theorem Conf.false{D:List (List Int)}{s:List Int}{m:Nat->Bool}(hD:mods m D)(hz:nz D)(hs:∀l∈s,A.holds m l=true)(h:Conf D s)(hs0:∀l∈s,l≠0):False:=by
 rcases h with ⟨l,h1,h2⟩|⟨c,hc,h⟩
 ·have e1:=h1.holds hD hz hs
  have e2:=h2.holds hD hz hs;have hl:l≠0:=by
   cases h1 with
   |start h=>exact hs0 _ h
   |unit hc hl _=>exact hz _ hc _ hl
  rw[y2o_ hl,e1]at e2;cases e2
 ·obtain⟨k,hk,ht⟩:=hD c hc
  have:=(h k hk).holds hD hz hs;rw[y2o_ (hz c hc k hk),ht]at this;cases this
theorem y4l_{vars:Int}{D:List (List Int)}{c:List Int}{m:Nat->Bool}(h:impl vars D c=true)(hD:mods m D)(hz:nz D):tru m c:=by
 obtain⟨hR,hC⟩:=y1h_.1 h;refine Classical.byContradiction fun hn=>?_;refine hC.false hD hz (fun l hl=>?_) fun l hl=>?_
 ·obtain⟨a,ha,rfl⟩:=List.mem_map.1 hl
  rw[y2o_ (hR a ha).1];cases e:holds m a with
  |true=>exact absurd ⟨a,ha,e⟩ hn
  |false=>rfl
 ·obtain⟨a,ha,rfl⟩:=List.mem_map.1 hl
  have:=(hR a ha).1;omega
theorem y4p_{m:Nat->Bool}{c:List Int}:tru m (normL c)↔tru m c:=⟨fun⟨l,h,k⟩=>⟨l,yc_.1 h,k⟩,fun⟨l,h,k⟩=>⟨l,yc_.2 h,k⟩⟩
theorem ycr_{vars:Int}{D:List (List Int)}{c:List Int}{m:Nat->Bool}(h:y1b_ vars D c=true)(hD:mods m D)(hz:nz D):∃m',mods m' D/\tru m' c:=by
 by_cases ht:tru m c
 ·exact⟨m,hD,ht⟩
 cases c with
 |nil=>rw[y1r_]at h;exact absurd (y4l_ h hD hz) ht
 | cons p t=>
  rcases y1k_.1 h with h|⟨hR,hB⟩
  ·exact absurd (y4l_ h hD hz) ht
  have hp0:=(hR p (by simp)).1;have hpf:holds m p=false:=by
   cases e:holds m p with
   |true=>exact absurd ⟨p,by simp,e⟩ ht
   |false=>rfl
  let m':Nat->Bool:=fun k=>if k=p.natAbs then decide (0<p)else m k
  have hm'p:holds m' p=true:=by simp[holds,m']
  have hm':∀k:Int,k≠p->k≠-p->holds m' k=holds m k:=fun k h1 h2=>by
   unfold holds;simp only[m'];rw[if_neg (by omega)]
  refine⟨m',fun d hd=>?_,p,by simp,hm'p⟩;by_cases hpd : -p∈d
  ·have:=y4l_ (hB d hd hpd) hD hz
   obtain⟨k,hk,hkt⟩:=this;rcases List.mem_append.1 hk with hk|hk
   ·exact absurd ⟨k,hk,hkt⟩ ht
   ·have hk:=List.mem_filter.1 hk
    refine⟨k,hk.1,?_⟩;have h1:k≠p:=fun e=>by rw[e,hpf]at hkt;cases hkt
    rw[hm' k h1 (by simpa using hk.2)];exact hkt
  ·obtain⟨k,hk,hkt⟩:=hD d hd
   refine⟨k,hk,?_⟩;have h1:k≠p:=fun e=>by rw[e,hpf]at hkt;cases hkt
   rw[hm' k h1 fun e=>hpd (e▸hk)];exact hkt
theorem yjg_{D:List (List Int)}{c:List Int}{vars:Int}(h:nz D)(k:y8_ vars c):nz (D++[normL c]):=fun d hd l hl=>by
 rcases List.mem_append.1 hd with hd|hd
 ·exact h d hd l hl
 ·rw[List.mem_singleton.1 hd]at hl
  exact(k l (yc_.1 hl)).1
theorem y8e_{vars:Int}:∀{ss:List (Bool×List Int)} {k:Nat} {D D':List (List Int)} {m:Nat->Bool},runD true vars k D ss=.inr D'->mods m D->nz D->(∃m',mods m' D')/\nz D'
 |[],k,D,D',m,h,hD,hz=>by rw[runD]at h;cases h;exact⟨⟨m,hD⟩,hz⟩
 |(true,c)::t,k,D,D',m,h,hD,hz=>by
  rw[runD]at h;simp only[cond_true]at h
  split at h
  ·exact y8e_ h (fun d hd=>hD d (List.mem_of_mem_erase hd)) fun d hd=>hz d (List.mem_of_mem_erase hd)
  ·cases h
 | (false,c)::t,k,D,D',m,h,hD,hz=>by
  rw[runD]at h;simp only[cond_false]at h;cases hm:mayC true vars D c with
  |false=>rw[hm]at h;cases h
  | true=>
   rw[hm]at h;simp only[cond_true]at h;obtain⟨m',h1,h2⟩:=ycr_ (show y1b_ vars D c=true from hm) hD hz;exact y8e_ (m:=m') h (fun d hd=>by
    rcases List.mem_append.1 hd with hd|hd
    ·exact h1 d hd
    ·rw[List.mem_singleton.1 hd];exact y4p_.2 h2) (yjg_ hz (y7b_ hm))
theorem yjq_{vars:Int}{cs:List (List Int)}(h:∀c∈cs,y8_ vars c):nz (cs.map normL):=fun d hd l hl=>by
 obtain⟨c,hc,rfl⟩:=List.mem_map.1 hd;exact(h c hc l (yc_.1 hl)).1
theorem ygq_{m:Nat->Bool}{cs:List (List Int)}:mods m (cs.map normL)↔mods m cs:=⟨fun h c hc=>y4p_.1 (h _ (List.mem_map_of_mem hc)),fun h d hd=>by
 obtain⟨c,hc,rfl⟩:=List.mem_map.1 hd;exact y4p_.2 (h c hc)⟩
theorem ybf_{vars:Int}{cs:List (List Int)}{ss:List (Bool×List Int)}{m:Nat->Bool}(h:yj_ vars cs ss=none)(hm:mods m cs):False:=by
 unfold yj_ at h;cases hp:preF vars cs ss with
 |some f=>rw[hp]at h;cases h
 | none=>
  rw[hp]at h;dsimp only at h;have hC:chkC vars cs=none:=by
   unfold preF at hp;cases hC:chkC vars cs with
   |some f=>rw[hC]at hp;cases hp
   |none=>rfl
  obtain⟨_,_,_,_,c5⟩:=y3s_ hC;cases hr:runD true (y5_ vars ss) 0 (cs.map normL) ss with
  |inl k=>rw[hr]at h;cases h
  | inr D=>
   rw[hr]at h;obtain⟨⟨m',h1⟩,h2⟩:=y8e_ hr (ygq_.2 hm) (yjq_ c5);cases hi:impl (y5_ vars ss) D [] with
   |false=>simp only[hi]at h;cases h
   |true=>
    obtain⟨l,hl,_⟩:=y4l_ hi h1 h2;cases hl
end
section
open Go
theorem yef_:Conf [[1],[-1]] []:=.inl ⟨1,.unit (c:=[1]) (by simp) (by simp) (fun k hk hne=>by simp at hk;exact absurd hk hne),.unit (c:=[-1]) (by simp) (by simp) (fun k hk hne=>by simp at hk;exact absurd hk hne)⟩
theorem yg3_(a:Int):normL [a]=[a]:=y5w_ (y1f_ _) (by simp) fun v=>yc_
theorem ycx_:yj_ 1 [[1],[-1]] []=none:=by
 unfold yj_;have hp:preF 1 [[1],[-1]] []=none:=by decide
 rw[hp];have hg:y5_ 1 []=1:=rfl;dsimp only;rw[runD];have hi:impl 1 [[1],[-1]] []=true:=y1h_.2 ⟨by simp[y8_],yef_⟩;have hm:([[1],[-1]]:List (List Int)).map normL=[[1],[-1]]:=by simp[yg3_]
 dsimp only;rw[hg,hm,hi];rfl
theorem ycm_:yj_ 1 [] []=some (.proof,none):=by
 unfold yj_;have hp:preF 1 [] []=none:=by decide
 rw[hp];dsimp only;rw[runD];dsimp only;have hi:impl (y5_ 1 []) (([]:List (List Int)).map normL) []=false:=by
  rw[Bool.eq_false_iff];intro h;obtain⟨l,hl,_⟩:=y4l_ (m:=fun _=>true) h (fun c hc=>by cases hc) (fun c hc=>by cases hc);cases hl
 rw[hi];rfl
theorem yfq_{σ:Heap}(hg:GlS [.limit,.range,.proof] σ):W (S.z117 σ) fun r=>r.1=true/\Hle σ r.2:=by
 unfold S.z117;refine W.newg fun l1 τ1 hl1 L1 _ g1 n1=>?_;refine W.newg fun l2 τ2 hl2 L2 _ g2 n2=>?_;refine W.newg fun l3 τ3 hl3 L3 _ g3 n3=>?_;have g1':=L3.get _ _ (by omega) (L2.get _ _ (by omega) g1);have g2':=L3.get _ _ (by omega) g2;have hs1:SlV .int τ3 [1] (.sl l1 0 1 none):=.inr ⟨l1,0,none,.rw,_,rfl,by omega,g1',Nat.le_of_ble_eq_true rfl,fun i a hi=>by
  match i,hi with
  |0,hi=>cases hi;rfl
  |i+1,hi=>simp at hi⟩
 have hs2:SlV .int τ3 [-1] (.sl l2 0 1 none):=.inr ⟨l2,0,none,.rw,_,rfl,by omega,g2',Nat.le_of_ble_eq_true rfl,fun i a hi=>by
  match i,hi with
  |0,hi=>cases hi;rfl
  |i+1,hi=>simp at hi⟩
 have hs:SlV vIs τ3 [[1],[-1]] (.sl l3 0 2 none):=.inr ⟨l3,0,none,.rw,_,rfl,by omega,g3,Nat.le_of_ble_eq_true rfl,fun i a hi=>by
  match i,hi with
  |0,hi=>cases hi;exact⟨_,rfl,hs1⟩
  |1,hi=>cases hi;exact⟨_,rfl,hs2⟩
  |i+2,hi=>simp at hi⟩
 refine W.new fun l4 τ4 hl4 L4 h4 hnτ4=>?_;refine W.st0 h4 (by rfl) fun τ5 L5 hnτ5 h4=>?_;have L45:=L4.ofk (by omega) L5;replace hs:=hs.mono L45;have hnx:=L45.next;have L:=((L1.mono L2).mono L3).mono L45;replace hg:=hg.mono L;have hnx:=L.next
 repeat' with_reducible first|refine W.bind ?_|refine W.e1 ?_
 refine W.mono (y2j_ (vars:=1) (ss:=[]) hg hs (SlV.nil _ _) (by decide) (by decide) (by decide) (by decide)) fun r hr=>?_;obtain⟨v,τ6⟩:=r;obtain⟨L6,hF⟩:=hr;dsimp only at L6 hF⊢;replace hg:=hg.mono L6;replace L:=L.mono L6;have hnx:=L6.next;refine W.fnil hF ?_;rw[ycx_];refine W.condT rfl ?_
 repeat' (with_reducible refine W.bind ?_)
 refine W.mono (y2j_ (vars:=1) (cs:=[]) (ss:=[]) hg (SlV.nil _ _) (SlV.nil _ _) (by decide) (by decide) (by decide) (by decide)) fun r hr=>?_;obtain⟨v,τ7⟩:=r;obtain⟨L7,hF⟩:=hr;dsimp only at L7 hF⊢;refine W.fnil hF ?_;rw[ycm_]
 repeat' with_reducible refine W.ret ?_
 exact⟨rfl,L.mono L7⟩
end
section
open Go
def vBR:Vw (Bool×AVal):=⟨2,fun _ a us=>us=[.bool a.1,a.2],by decide,fun h=>by rw[h];rfl,fun _ h=>h⟩
theorem y4b_:vBR.Flat:=fun _ _ _ _ h=>h
theorem yk8_{σ:Heap}{ws:List (Bool×AVal)}{ss:List (Bool×List Int)}{x:AVal}(h:SlV vBR σ ws x)(hl:ws.length=ss.length)(hc:∀(i:Nat) (s:Bool×List Int),ss[i]?=some s->∃w,ws[i]?=some (s.1,w)/\SlV .int σ s.2 w):SlV vB σ ss x:=by
 rcases h with ⟨rfl,rfl⟩|⟨l,off,c,md,us,rfl,h2,h3,h4,h5⟩
 ·have:ss=[]:=List.eq_nil_of_length_eq_zero (by simpa using hl.symm)
  exact .inl ⟨rfl,this⟩
 ·refine .inr ⟨l,off,c,md,us,by rw[hl],h2,h3,by rw[<-hl];exact h4,fun i a ha=>?_⟩
  obtain⟨w,hw,hs⟩:=hc i a ha;exact⟨[.bool a.1],[w],h5 i _ hw,rfl,w,rfl,hs⟩
theorem yi3_{vars:Int}{cs:List (List Int)}{ss:List (Bool×List Int)}(hC:chkC vars cs=none)(hP:chkP ss=none):preF vars cs ss=none:=by
 unfold preF;rw[hC];exact hP
end
section
open Go
theorem yig_{ss:List (Bool×List Int)}(h1:(yf_ ss).flatten.length<=320000)(h2:∀s∈ss,y8_ 4000 s.2):chkP ss=none:=by
 unfold chkP;rw[if_neg (by omega)];have:(yf_ ss).findIdx? (badC 4000)=none:=by
  rw[List.findIdx?_eq_none_iff];intro c hc;obtain⟨s,hs,rfl⟩:=List.mem_map.1 hc;simpa using y4n_.2 (h2 s hs)
 rw[this];rfl
section
variable{n a:Nat}(hn:2<=n)(hn2:n<=1000)
include hn hn2
end
end
section
open Go
section
variable{σ τ:Heap}{T T':Tg}{b k:Nat}{xs:List (List Int)}{ws:List AVal}{I:Nat->Bool}{a:List Int}{y:AVal}
def Fam(σ:Heap)(T:Tg)(b:Nat)(xs:List (List Int))(ws:List AVal):Prop:=ws.length=xs.length/\∀i a y,xs[i]?=some a->ws[i]?=some y->Own .int (σ.at T (b+2*i)) a y
theorem Fam.get(h:Fam σ T b xs ws)(hi:k<xs.length):∃a y,xs[k]?=some a/\ws[k]?=some y/\Own .int (σ.at T (b+2*k)) a y:=by
 have h1:=List.getElem?_eq_getElem hi;have h2:=List.getElem?_eq_getElem (show k<ws.length by rw[h.1];exact hi);exact⟨_,_,h1,h2,h.2 k _ _ h1 h2⟩
theorem Fam.nil:Fam σ T b [] []:=⟨rfl,fun i a y h=>by simp at h⟩
theorem Fam.hop(h:Fam σ T b xs ws)(H:Hop I σ T τ T')(hI:∀i,I (b+2*i)=false:=by intro i;simp<;>omega):Fam τ T' b xs ws:=⟨h.1,fun i a y h1 h2=>(h.2 i a y h1 h2).hop H (hI i)⟩
theorem Fam.hle(h:Fam σ T b xs ws)(L:Hle σ τ):Fam τ T b xs ws:=⟨h.1,fun i a y h1 h2=>(h.2 i a y h1 h2).hle L⟩
theorem Fam.hopAt(h:Fam σ T b xs ws)(H:Hop (only (b+2*k)) σ T τ T')(hO:Own .int (τ.at T' (b+2*k)) a y):Fam τ T' b (xs.set k a) (ws.set k y):=by
 refine⟨by simp[h.1],fun i c z h1 h2=>?_⟩;by_cases e:k=i
 ·subst e
  rw[List.getElem?_set]at h1 h2;simp only[if_true]at h1 h2
  split at h1
  ·split at h2
   ·cases h1;cases h2;exact hO
   ·cases h2
  ·cases h1
 ·rw[List.getElem?_set_ne e]at h1 h2
  exact(h.2 i c z h1 h2).hop H (by simp;omega)
theorem Fam.push(h:Fam σ T b xs ws)(hO:Own .int (σ.at T (b+2*xs.length)) a y):Fam σ T b (xs++[a]) (ws++[y]):=by
 refine⟨by simp[h.1],fun i c z h1 h2=>?_⟩;rcases Nat.lt_trichotomy i xs.length with hl|hl|hl
 ·rw[List.getElem?_append_left hl]at h1
  rw[List.getElem?_append_left (by rw[h.1];exact hl)]at h2;exact h.2 i c z h1 h2
 ·subst hl
  rw[List.getElem?_append_right (Nat.le_refl _)]at h1;rw[List.getElem?_append_right (by rw[h.1];exact Nat.le_refl _),h.1]at h2;simp only[Nat.sub_self,List.getElem?_cons_zero]at h1 h2;cases h1;cases h2;exact hO
 ·have:=(List.getElem?_eq_some_iff.1 h1).1
  simp at this;omega
end
theorem W.own_pushN{R:Type}{Q:R->Prop}{σ:Heap}{T:Tg}{t:Nat}{xs:List AVal}{x:AVal}(h:Own vRaw (σ.at T t) xs x)(hn:Tn σ T)(ws:List AVal){n bytes:Nat}(hw:ws.length=n)(hb:(xs.length+ws.length)*bytes<=70368744177664)(hb':xs.length+ws.length<=70368744177664){K:AVal->Heap->Option R}
  (c:∀x' τ T',Own vRaw (τ.at T' t) (xs++ws) x'->Hop (only t) σ T τ T'->W (K x' τ) Q):W (newK σ 1 ws fun l τ=>appS τ 1 bytes x (.sl l 0 n none) K) Q:=by
 subst hw;have L1:=(Hle.refl σ).new (.cells .rw 1 ws);have hsl:SlV vRaw (σ.new (.cells .rw 1 ws)) ws (.sl σ.next 0 ws.length none):=by
  refine .inr ⟨σ.next,0,none,.rw,ws,rfl,Nat.lt_succ_self _,by rw[yl_,if_pos rfl];rfl,by simp[vRaw],fun i a hi=>?_⟩;obtain⟨h8,h9⟩:=List.getElem?_eq_some_iff.1 hi;show _=_;simp only[vRaw,Nat.mul_one,Nat.zero_add];rw[List.drop_eq_getElem_cons h8];simp[h9]
 refine W.own_app y7d_ (h.mono (L1.ats T t)) (hn.mono L1) hsl hb hb' fun x' τ T' h1 h2=>?_;exact c x' τ T' h1 ((Hop.of hn L1).trans h2)
section
variable{σ τ:Heap}{T T':Tg}{la t u vars:Nat}{xa:AVal}{vs:List Int}
theorem yga_(h1:Loc (σ.at T t) la [xa])(h2:Own .i8 (σ.at T u) vs xa)(hn:Tn σ T)(htu:t≠u)(hv:vars<=4000)(hl:vs.length<=4001) :
  W (S.z1 (.ptr la 0) (vars:Int) σ) fun r=>∃T' xa',Hop (fun j=>j==t||j==u) σ T r.2 T'/\Loc (r.2.at T' t) la [xa']/\Own .i8 (r.2.at T' u) (vs++List.replicate (vars+1-vs.length) 0) xa':=by
 unfold S.z1;refine W.bind ?_;have hut:(only u) t=false:=by simp;exact htu
 have htu':(only t) u=false:=by simp;exact fun e=>htu e.symm
 refine W.mono (P:=fun r=>∃T' xa',Hop (fun j=>j==t||j==u) σ T r.2 T'/\Loc (r.2.at T' t) la [xa']/\Own .i8 (r.2.at T' u) (vs++List.replicate (vars+1-vs.length) 0) xa') ?_ fun r hr=>W.ret hr;refine W.loopI (m:=vars+1-vs.length) (fun m (_:Unit) τ=>∃T' xa' k,Hop (fun j=>j==t||j==u) σ T τ T'/\Loc (τ.at T' t) la [xa']/\Own .i8 (τ.at T' u) (vs++List.replicate k 0) xa'/\m+k=vars+1-vs.length) ⟨T,xa,0,Hop.refl hn,h1,by simpa using h2,by omega⟩ fun m _ τ hI=>?_;obtain⟨T',xa',k,H,h1,h2,e⟩:=hI;unfold S.z1.b0
 repeat' with_reducible first|refine W.bind ?_|refine W.asV ?_|refine W.fldp ?_|refine W.nck ?_|refine W.u0 ?_|refine W.u3 ?_
 refine W.to (y6x_ (by omega) (by omega)) ?_
 repeat' with_reducible refine W.ret ?_
 (with_reducible refine W.cnd (fun hc=>?_) (fun hc=>?_)<;>(try simp only[qq,Kd.ty]at hc)<;>(try (exfalso;omega)))
 ·repeat' with_reducible first|refine W.asV ?_|refine W.fldp ?_|refine W.nck ?_|refine W.u0 ?_
  refine W.own_push Vw.i8_flat h2 H.tn (a:=0) rfl (by simp;omega) (by simp;omega) fun x2 τ2 T2 h2 H2=>?_;have h1:=h1.hop H2 hut
  repeat' with_reducible first|refine W.fldp ?_|refine W.nck ?_|refine W.u4 ?_
  refine W.stT h1 H2.tn (Nat.le_of_ble_eq_true (by rfl)) fun τ3 H3 h1 _=>?_
  repeat' (with_reducible refine W.next ?_)
  refine⟨m-1,by simp at *;omega,T2,x2,k+1,(H.hop H2 (fun i hi=>by simp at hi⊢;exact .inr hi)).hop H3 (fun i hi=>by simp at hi⊢;exact .inl hi),h1,?_,by simp at *;omega⟩;have:=h2.hop H3 htu';rw[List.append_assoc]at this
  rwa [List.replicate_succ',]
 ·repeat' (with_reducible refine W.stop ?_)
  refine⟨T',xa',H,h1,?_⟩;have:k=vars+1-vs.length:=by simp at *;omega
  rw[<-this];exact h2
theorem y3v_(h1:Loc (σ.at T t) la [xa])(h2:Own .i8 (σ.at T u) vs xa)(hl:vs.length<=4001):S.z5 (.ptr la 0) σ=some ((vs.length:Int)-1):=by
 obtain⟨r,e,rfl⟩:W (S.z5 (.ptr la 0) σ) fun r=>r=(vs.length:Int)-1:=by
  unfold S.z5
  repeat' with_reducible first|refine W.ret ?_|refine W.asV ?_|refine W.fldp ?_|refine W.nck ?_|refine W.u0 ?_|refine W.u3 ?_
  rw[wrapS]<;>omega
 exact e
end
structure PS where
 vs:List Int
 lev:List Int
 rea:List Int
 trail:List Int
 marks:List Int
 head:Int
 cls:List (List Int×Bool×Bool)
 wat:List (List Int)
 loose:List Int
structure PH where
 la:Nat
 xa:AVal
 xl:AVal
 xr:AVal
 xt:AVal
 xm:AVal
 xc:AVal
 xw:AVal
 xo:AVal
 cs:List (AVal×Bool×Bool)
 ws:List AVal
def vCl:Vw (AVal×Bool×Bool):=⟨3,fun _ a us=>us=[a.1,.bool a.2.1,.bool a.2.2],by omega,fun h=>by rw[h];rfl,fun _ h=>h⟩
theorem y6c_:vCl.Flat:=fun _ _ _ _ h=>h
def pI:Nat->Bool:=fun j=>(decide (1<=j)&&decide (j<=10))||decide (40<=j)
theorem Hop.inP{σ0 σ τ:Heap}{T0 T T':Tg}{t:Nat}(h:Hop pI σ0 T0 σ T)(H:Hop (only t) σ T τ T')(ht:pI t=true:=by rfl):Hop pI σ0 T0 τ T':=h.trans (H.sub (fun i hi=>by
 have:i=t:=by simpa using hi
 rw[this];exact ht))
structure PropH(σ:Heap)(T:Tg)(lp:Nat)(h:PH)(s:PS):Prop where
 obj:Loc (σ.at T 1) lp [.ptr h.la 0,h.xl,h.xr,h.xt,h.xm,.int .i64 s.head,h.xc,h.xw,h.xo]
 asg:Loc (σ.at T 2) h.la [h.xa]
 vs:Own .i8 (σ.at T 3) s.vs h.xa
 lev:Own .int (σ.at T 4) s.lev h.xl
 rea:Own .int (σ.at T 5) s.rea h.xr
 trail:Own .int (σ.at T 6) s.trail h.xt
 marks:Own .int (σ.at T 7) s.marks h.xm
 cls:Own vCl (σ.at T 8) h.cs h.xc
 wat:Own vRaw (σ.at T 9) h.ws h.xw
 loose:Own .int (σ.at T 10) s.loose h.xo
 cf:Fam σ T 40 (s.cls.map (·.1)) (h.cs.map (·.1))
 cb:h.cs.map (·.2)=s.cls.map (·.2)
 wf:Fam σ T 41 s.wat h.ws
section
variable{σ τ:Heap}{T T':Tg}{lp vars:Nat}{h:PH}{s:PS}{I:Nat->Bool}
theorem PropH.hop(p:PropH σ T lp h s)(H:Hop I σ T τ T')(h1:∀j,pI j=true->I j=false):PropH τ T' lp h s:=
 ⟨p.obj.hop H (h1 _ rfl),p.asg.hop H (h1 _ rfl),p.vs.hop H (h1 _ rfl),p.lev.hop H (h1 _ rfl),p.rea.hop H (h1 _ rfl),p.trail.hop H (h1 _ rfl),p.marks.hop H (h1 _ rfl),p.cls.hop H (h1 _ rfl),p.wat.hop H (h1 _ rfl),p.loose.hop H (h1 _ rfl),
  p.cf.hop H (fun i=>h1 _ (by simp[pI])),p.cb,p.wf.hop H (fun i=>h1 _ (by simp[pI];omega))⟩
theorem PropH.hle(p:PropH σ T lp h s)(L:Hle σ τ):PropH τ T lp h s:=
 ⟨p.obj.hle L,p.asg.hle L,p.vs.hle L,p.lev.hle L,p.rea.hle L,p.trail.hle L,p.marks.hle L,p.cls.hle L,p.wat.hle L,p.loose.hle L,p.cf.hle L,p.cb,p.wf.hle L⟩
structure PLen(n:Nat)(s:PS):Prop where
 vs:s.vs.length=n
 lev:s.lev.length=n
 rea:s.rea.length=n
 wat:s.wat.length=2*n
def PS.grow(s:PS)(k:Nat):PS:={ s with vs:=s.vs++List.replicate k 0,lev:=s.lev++List.replicate k (-1),rea:=s.rea++List.replicate k (-1),wat:=s.wat++List.replicate (2*k) [] }
theorem y9n_{n:Nat}(p:PropH σ T lp h s)(hn:Tn σ T)(hL:PLen n s)(h0:1<=n)(hv:vars<=4000)(hl:n<=4001) :
  W (S.z64 (.ptr lp 0) (vars:Int) σ) fun r=>∃T' h',Hop pI σ T r.2 T'/\PropH r.2 T' lp h' (s.grow (vars+1-n)):=by
 obtain⟨k1,k2,k3,k4,k5,k6,k7,k8,k9,k10,k11,k12,k13⟩:=p;obtain⟨e1,e2,e3,e4⟩:=hL;unfold S.z64
 repeat' with_reducible first|refine W.bind ?_|refine W.asV ?_|refine W.fldp ?_|refine W.nck ?_|refine W.u0 ?_
 refine W.mono (yga_ k2 k3 hn (by decide) hv (by omega)) fun r hr=>?_;obtain⟨r,τ⟩:=r;obtain⟨T1,xa,H,k2,k3⟩:=hr;dsimp only at H k2 k3⊢;replace k1:=k1.hop H;replace k4:=k4.hop H;replace k5:=k5.hop H;replace k6:=k6.hop H;replace k7:=k7.hop H;replace k8:=k8.hop H;replace k9:=k9.hop H;replace k10:=k10.hop H;replace k11:=k11.hop H;replace k13:=k13.hop H;replace hn:=H.tn;rw[e1]at k3;refine W.bind ?_;refine W.mono (P:=fun r=>∃T' h',Hop pI σ T r.2 T'/\PropH r.2 T' lp h' (s.grow (vars+1-n))) ?_ fun r hr=>W.ret hr;have H0:Hop pI σ T τ T1:=H.sub (fun i hi=>by simp[pI]at hi⊢;omega);refine W.loopI (m:=vars+1-n) (fun m (_:Unit) τ=>∃T' xl xr xw ws k,Hop pI σ T τ T'/\m+k=vars+1-n /\
  Loc (τ.at T' 1) lp [.ptr h.la 0,xl,xr,h.xt,h.xm,.int .i64 s.head,h.xc,xw,h.xo]/\Loc (τ.at T' 2) h.la [xa]/\Own .i8 (τ.at T' 3) (s.vs++List.replicate (vars+1-n) 0) xa/\Own .int (τ.at T' 4) (s.lev++List.replicate k (-1)) xl /\
  Own .int (τ.at T' 5) (s.rea++List.replicate k (-1)) xr/\Own .int (τ.at T' 6) s.trail h.xt/\Own .int (τ.at T' 7) s.marks h.xm/\Own vCl (τ.at T' 8) h.cs h.xc/\Own vRaw (τ.at T' 9) ws xw/\Own .int (τ.at T' 10) s.loose h.xo /\
  Fam τ T' 40 (s.cls.map (·.1)) (h.cs.map (·.1))/\Fam τ T' 41 (s.wat++List.replicate (2*k) []) ws) ⟨T1,h.xl,h.xr,h.xw,h.ws,0,H0,by omega,k1,k2,k3,by simpa using k4,by simpa using k5,k6,k7,k8,k9,k10,k11,by simpa using k13⟩ fun m _ τ hI=>?_
 obtain⟨T2,xl,xr,xw,ws,k,HH,ek,k1,k2,k3,k4,k5,k6,k7,k8,k9,k10,k11,k13⟩:=hI;have hn:=HH.tn;have hws:=k13.1;simp only[List.length_append,List.length_replicate]at hws;unfold S.z64.b0
 repeat' with_reducible first|refine W.bind ?_|refine W.asV ?_|refine W.fldp ?_|refine W.nck ?_|refine W.u0 ?_|refine W.u3 ?_
 refine W.to (y3v_ k2 k3 (by simp;omega)) ?_
 repeat' with_reducible refine W.ret ?_
 (with_reducible refine W.cnd (fun hc=>?_) (fun hc=>?_)<;>(try simp only[qq,Kd.ty]at hc)<;>(try (exfalso;omega)))
 ·repeat' with_reducible first|refine W.asV ?_|refine W.fldp ?_|refine W.nck ?_|refine W.u0 ?_
  have k1':=k1;refine W.own_push (bytes:=8) Vw.int_flat k4 hn (a:=-1) rfl (by simp;omega) (by simp;omega) fun x1 τ1 T3 k4 H1=>?_;replace HH:=HH.inP H1;replace k1:=k1.hop H1;replace k2:=k2.hop H1;replace k3:=k3.hop H1;replace k5:=k5.hop H1;replace k6:=k6.hop H1;replace k7:=k7.hop H1;replace k8:=k8.hop H1;replace k9:=k9.hop H1;replace k10:=k10.hop H1;replace k11:=k11.hop H1;replace k13:=k13.hop H1;replace hn:=H1.tn
  repeat' with_reducible first|refine W.asV ?_|refine W.chk rfl ?_|refine W.fldp ?_|refine W.nck ?_|refine W.u0 ?_
  refine W.own_push (bytes:=8) Vw.int_flat k5 hn (a:=-1) rfl (by simp;omega) (by simp;omega) fun x2 τ2 T4 k5 H2=>?_;replace HH:=HH.inP H2;replace k1:=k1.hop H2;replace k2:=k2.hop H2;replace k3:=k3.hop H2;replace k4:=k4.hop H2;replace k6:=k6.hop H2;replace k7:=k7.hop H2;replace k8:=k8.hop H2;replace k9:=k9.hop H2;replace k10:=k10.hop H2;replace k11:=k11.hop H2;replace k13:=k13.hop H2;replace hn:=H2.tn
  repeat' with_reducible first|refine W.fldp ?_|refine W.nck ?_|refine W.u4 ?_
  refine W.stT k1 hn (Nat.le_of_ble_eq_true (by rfl)) fun τ3 H3 k1 hnτ3=>?_;replace HH:=HH.inP H3;replace k2:=k2.hop H3;replace k3:=k3.hop H3;replace k4:=k4.hop H3;replace k5:=k5.hop H3;replace k6:=k6.hop H3;replace k7:=k7.hop H3;replace k8:=k8.hop H3;replace k9:=k9.hop H3;replace k10:=k10.hop H3;replace k11:=k11.hop H3;replace k13:=k13.hop H3;replace hn:=H3.tn
  repeat' with_reducible first|refine W.fldp ?_|refine W.nck ?_|refine W.u4 ?_
  refine W.stT k1 hn (Nat.le_of_ble_eq_true (by rfl)) fun τ4 H4 k1 hnτ4=>?_;replace HH:=HH.inP H4;replace k2:=k2.hop H4;replace k3:=k3.hop H4;replace k4:=k4.hop H4;replace k5:=k5.hop H4;replace k6:=k6.hop H4;replace k7:=k7.hop H4;replace k8:=k8.hop H4;replace k9:=k9.hop H4;replace k10:=k10.hop H4;replace k11:=k11.hop H4;replace k13:=k13.hop H4;replace hn:=H4.tn
  repeat' with_reducible first|refine W.asV ?_|refine W.fldp ?_|refine W.nck ?_|refine W.u0 ?_
  refine W.own_pushN (bytes:=24) k9 hn [.nils,.nils] rfl (by simp;omega) (by simp;omega) fun x3 τ5 T5 k9 H5=>?_;replace HH:=HH.inP H5;replace k1:=k1.hop H5;replace k2:=k2.hop H5;replace k3:=k3.hop H5;replace k4:=k4.hop H5;replace k5:=k5.hop H5;replace k6:=k6.hop H5;replace k7:=k7.hop H5;replace k8:=k8.hop H5;replace k10:=k10.hop H5;replace k11:=k11.hop H5;replace k13:=k13.hop H5;replace hn:=H5.tn
  repeat' with_reducible first|refine W.fldp ?_|refine W.nck ?_|refine W.u4 ?_
  refine W.stT k1 hn (Nat.le_of_ble_eq_true (by rfl)) fun τ6 H6 k1 hnτ6=>?_;replace HH:=HH.inP H6;replace k2:=k2.hop H6;replace k3:=k3.hop H6;replace k4:=k4.hop H6;replace k5:=k5.hop H6;replace k6:=k6.hop H6;replace k7:=k7.hop H6;replace k8:=k8.hop H6;replace k9:=k9.hop H6;replace k10:=k10.hop H6;replace k11:=k11.hop H6;replace k13:=k13.hop H6;replace hn:=H6.tn
  repeat' (with_reducible refine W.next ?_)
  refine⟨m-1,by simp at *;omega,_,x1,x2,x3,ws++[.nils,.nils],k+1,HH,by simp at *;omega,k1,k2,k3,?_,?_,k6,k7,k8,k9,k10,k11,?_⟩
  ·rw[List.append_assoc]at k4;rwa [List.replicate_succ']
  ·rw[List.append_assoc]at k5;rwa [List.replicate_succ']
  ·have g:=(k13.push (a:=[]) (y:=.nils) Own.nil).push (a:=[]) (y:=.nils) Own.nil
   rw[show 2*(k+1)=2*k+2 by omega,<-List.replicate_append_replicate];simpa[List.append_assoc]using g
 ·repeat' (with_reducible refine W.stop ?_)
  have:k=vars+1-n:=by simp at *;omega
  subst this;exact⟨T2,{ h with xa:=xa,xl:=xl,xr:=xr,xw:=xw,ws:=ws },HH,k1,k2,k3,k4,k5,k6,k7,k8,k9,k10,k11,k12,k13⟩
end
end
section
open Go
theorem yd8_(u:AVal):∀n:Nat,rep n [u]=List.replicate n u
 |0=>rfl
 |n+1=>by rw[rep,yd8_ u n,List.replicate_succ];rfl
theorem W.mkT{α R:Type}{Q:R->Prop}{v:Vw α}(t:Nat){σ:Heap}{T:Tg}(hn:Tn σ T){u:AVal}(a:α)(hsz:v.sz=1)(hr:∀τ,v.rel τ a [u]){n bytes:Nat}(hb:n*bytes<=70368744177664)(hb':n<=70368744177664){z:Int}(hz:z=(n:Int)){K:AVal->Heap->Option R}
  (c:∀x τ T',Hop (only t) σ T τ T'->Own v (τ.at T' t) (List.replicate n a) x->τ.next=σ.next+1->W (K x τ) Q):W (mkS σ 1 bytes [u] z z K) Q:=by
 subst hz;have e:mkS σ 1 bytes [u] (n:Int) (n:Int) K=K (.sl σ.next 0 n none) (σ.new (.cells .rw 1 (List.replicate n u))):=by
  simp only[mkS,newK];rw[if_pos ⟨by omega,by omega,by omega,by omega⟩,Int.toNat_natCast,yd8_]
 refine W.to e (c _ _ (T.upd σ.next t) (y2r_ hn) (.inr ⟨σ.next,0,none,_,by simp,Nat.lt_succ_self _,at_of y16_ (by rw[yl_,if_pos rfl,hsz]),(fun k e=>by cases e),by simp[hsz],fun i b hi=>?_⟩) rfl);obtain⟨h8,h9⟩:=List.getElem?_eq_some_iff.1 hi;have h8':i<n:=by simpa using h8
 have:b=a:=by simpa using h9.symm
 subst this;rw[hsz,Nat.mul_one,Nat.zero_add,List.drop_eq_getElem_cons (by simpa using h8')];simpa using hr _
theorem W.newO{α R:Type}{Q:R->Prop}{v:Vw α}(t:Nat){σ:Heap}{T:Tg}(hn:Tn σ T){u:AVal}(a:α)(hsz:v.sz=1)(hr:∀τ,v.rel τ a [u]){K:Nat->Heap->Option R}
  (c:∀l τ T',Hop (only t) σ T τ T'->Own v (τ.at T' t) [a] (.sl l 0 1 none)->τ.next=σ.next+1->W (K l τ) Q):W (newK σ 1 [u] K) Q:=by
 refine c σ.next _ (T.upd σ.next t) (y2r_ hn) (.inr ⟨σ.next,0,none,[u],rfl,Nat.lt_succ_self _,at_of y16_ (by rw[yl_,if_pos rfl,hsz]),(fun k e=>by cases e),by simp[hsz],fun i b hi=>?_⟩) rfl
 match i,hi with
 |0,hi=>cases hi;simpa[hsz]using hr _
 |i+1,hi=>simp at hi
section
variable{σ τ:Heap}{T T':Tg}{lp vars:Nat}{h:PH}{s:PS}
theorem yj3_{t u:Nat}(hn:Tn σ T)(htu:t≠u):W (S.z7 0 σ) fun r=>∃T' la xa,r.1=.ptr la 0/\Hop (fun j=>j==t||j==u) σ T r.2 T'/\Loc (r.2.at T' t) la [xa]/\Own .i8 (r.2.at T' u) [0] xa:=by
 unfold S.z7;refine W.bind ?_;refine W.to (y6x_ (v:=0) (by omega) (by omega)) ?_;refine W.ret ?_;refine W.mkT (v:=Vw.i8) u hn (0:Int) rfl (fun _=>rfl) (n:=1) (by omega) (by omega) (by rw[wrapS]<;>omega) fun x τ T1 H1 h1 hnx=>?_;replace hn:=H1.tn
 repeat' (with_reducible refine W.u4 ?_)
 refine W.newT t hn fun l τ2 T2 hl H2 h2 hnτ2=>?_;replace h1:=h1.hop H2 (by simp;omega)
 repeat' with_reducible refine W.ret ?_
 exact⟨T2,l,x,rfl,(H1.sub (fun i hi=>by simp at hi⊢;exact .inr hi)).trans (H2.sub (fun i hi=>by simp at hi⊢;exact .inl hi)),h2,h1⟩
def PS.zero:PS:=⟨[0],[-1],[-1],[],[],0,[],[[],[]],[]⟩
theorem ygb_(hn:Tn σ T):W (S.z57 0 σ) fun r=>∃T' lp h',r.1=.ptr lp 0/\Hop pI σ T r.2 T'/\PropH r.2 T' lp h' PS.zero:=by
 unfold S.z57;refine W.bind ?_;refine W.mono (yj3_ (t:=2) (u:=3) hn (by decide)) fun r hr=>?_;obtain⟨r,τ⟩:=r;obtain⟨T1,la,xa,e,H,k2,k3⟩:=hr;dsimp only at e H k2 k3⊢;subst e;have HH:Hop pI σ T τ T1:=H.sub (fun i hi=>by simp[pI]at hi⊢;omega);replace hn:=HH.tn;refine W.newO (v:=Vw.int) 4 hn (-1) rfl (fun _=>rfl) fun l1 τ1 T2 H1 k4 _=>?_;replace HH:=HH.inP H1;replace k2:=k2.hop H1;replace k3:=k3.hop H1;replace hn:=H1.tn;refine W.newO (v:=Vw.int) 5 hn (-1) rfl (fun _=>rfl) fun l2 τ2 T3 H2 k5 _=>?_;replace HH:=HH.inP H2;replace k2:=k2.hop H2;replace k3:=k3.hop H2;replace k4:=k4.hop H2;replace hn:=H2.tn;refine W.mkT (v:=vRaw) 9 hn .nils rfl (fun _=>rfl) (n:=2) (by omega) (by omega) rfl fun x τ3 T4 H3 k9 _=>?_;replace HH:=HH.inP H3;replace k2:=k2.hop H3;replace k3:=k3.hop H3;replace k4:=k4.hop H3;replace k5:=k5.hop H3;replace hn:=H3.tn
 repeat' with_reducible first|refine W.scP ?_|refine W.u4 ?_
 refine W.newT 1 hn fun l τ4 T5 hl H4 k1 hnτ4=>?_;replace HH:=HH.inP H4;replace k2:=k2.hop H4;replace k3:=k3.hop H4;replace k4:=k4.hop H4;replace k5:=k5.hop H4;replace k9:=k9.hop H4;replace hn:=H4.tn
 repeat' (with_reducible refine W.bind ?_)
 have p:PropH τ4 T5 l ⟨la,xa,.sl l1 0 1 none,.sl l2 0 1 none,.nils,.nils,.nils,x,.nils,[],[.nils,.nils]⟩ PS.zero:=
  ⟨k1,k2,k3,k4,k5,.nil,.nil,.nil,k9,.nil,.nil,rfl,(Fam.nil.push (a:=[]) (y:=.nils) Own.nil).push (a:=[]) (y:=.nils) Own.nil⟩
 refine W.mono (y9n_ (vars:=0) (n:=1) p hn ⟨rfl,rfl,rfl,rfl⟩ (by omega) (by omega) (by omega)) fun r hr=>?_;obtain⟨r,τ5⟩:=r;obtain⟨T6,h',H,p⟩:=hr
 repeat' with_reducible refine W.ret ?_
 exact⟨T6,l,h',rfl,HH.trans H,by simpa[PS.grow,PS.zero]using p⟩
end
end
section
open Go
structure HeapH(σ:Heap)(T:Tg)(lh:Nat)(xs xp xh:AVal)(sc pl hs:List Int):Prop where
 obj:Loc (σ.at T 11) lh [xs,xp,xh]
 sc:Own .int (σ.at T 12) sc xs
 pl:Own .int (σ.at T 13) pl xp
 hs:Own .int (σ.at T 14) hs xh
def hI:Nat->Bool:=fun j=>decide (11<=j)&&decide (j<=14)
theorem Hop.inH{σ0 σ τ:Heap}{T0 T T':Tg}{t:Nat}(h:Hop hI σ0 T0 σ T)(H:Hop (only t) σ T τ T')(ht:hI t=true:=by rfl):Hop hI σ0 T0 τ T':=h.trans (H.sub (fun i hi=>by
 have:i=t:=by simpa using hi
 rw[this];exact ht))
section
variable{σ τ:Heap}{T T':Tg}{lh:Nat}{xs xp xh:AVal}{sc pl hs:List Int}{I:Nat->Bool}
theorem HeapH.hop(p:HeapH σ T lh xs xp xh sc pl hs)(H:Hop I σ T τ T')(h1:∀j,hI j=true->I j=false):HeapH τ T' lh xs xp xh sc pl hs:=⟨p.obj.hop H (h1 _ rfl),p.sc.hop H (h1 _ rfl),p.pl.hop H (h1 _ rfl),p.hs.hop H (h1 _ rfl)⟩
theorem HeapH.hle(p:HeapH σ T lh xs xp xh sc pl hs)(L:Hle σ τ):HeapH τ T lh xs xp xh sc pl hs:=⟨p.obj.hle L,p.sc.hle L,p.pl.hle L,p.hs.hle L⟩
theorem y3l_(p:HeapH σ T lh xs xp xh sc pl hs)(hn:Tn σ T){k v:Nat}(hk:k<hs.length)(hv:v<pl.length)(hb:hs.length<=1000000) :
  W (S.z26 (.ptr lh 0) (k:Int) (v:Int) σ) fun r=>Hop hI σ T r.2 T/\HeapH r.2 T lh xs xp xh sc (pl.set v ((k:Int)+1)) (hs.set k (v:Int)):=by
 obtain⟨k1,k2,k3,k4⟩:=p;unfold S.z26
 repeat' with_reducible first|refine W.asV ?_|refine W.fldp ?_|refine W.nck ?_|refine W.u0 ?_
 refine W.ixO k4.slT (i:=k) hk ?_;refine W.own_setI k4 hn hk fun τ1 k4 H1 _=>?_;have HH:Hop hI σ T τ1 T:=(Hop.refl hn).inH H1;replace k1:=k1.hop H1;replace k2:=k2.hop H1;replace k3:=k3.hop H1;replace hn:=H1.tn
 repeat' with_reducible first|refine W.asV ?_|refine W.fldp ?_|refine W.nck ?_|refine W.u0 ?_
 have w:IntKind.i64.wrap ((k:Int)+1)=(k:Int)+1:=by rw[wrapS]<;>omega
 rw[w];refine W.ixO k3.slT (i:=v) hv ?_;refine W.own_setI k3 hn hv fun τ2 k3 H2 _=>?_;replace HH:=HH.inH H2;replace k1:=k1.hop H2;replace k2:=k2.hop H2;replace k4:=k4.hop H2;replace hn:=H2.tn
 repeat' with_reducible refine W.ret ?_
 exact⟨HH,k1,k2,k3,k4⟩
theorem y59_(p:HeapH σ T lh xs xp xh sc pl hs){a b:Nat}(ha:a<sc.length)(hb:b<sc.length):W (S.z21 (.ptr lh 0) (a:Int) (b:Int) σ) fun _=>True:=by
 obtain⟨k1,k2,k3,k4⟩:=p;obtain⟨u,hu⟩:∃u,sc[a]?=some u:=⟨_,List.getElem?_eq_getElem ha⟩;obtain⟨w,hw⟩:∃w,sc[b]?=some w:=⟨_,List.getElem?_eq_getElem hb⟩;unfold S.z21
 repeat' with_reducible first|refine W.bind ?_|refine W.asV ?_|refine W.fldp ?_|refine W.nck ?_|refine W.u0 ?_|refine W.u2 ?_
 (with_reducible refine W.cnd (fun hc=>?_) (fun hc=>?_)<;>(try simp only[qq,Kd.ty]at hc)<;>(try (exfalso;omega)))
 ·repeat' with_reducible refine W.ret ?_
  trivial
 ·repeat' with_reducible first|refine W.asV ?_|refine W.fldp ?_|refine W.nck ?_|refine W.u0 ?_|refine W.u2 ?_
  (with_reducible refine W.cnd (fun hc=>?_) (fun hc=>?_)<;>(try simp only[qq,Kd.ty]at hc)<;>(try (exfalso;omega)))
  ·repeat' with_reducible refine W.ret ?_
   trivial
  ·repeat' with_reducible refine W.ret ?_
   trivial
theorem yah_(p:HeapH σ T lh xs xp xh sc pl hs){v:Int}:S.z25 (.ptr lh 0) v σ=some (decide (0<v/\v<sc.length)):=by
 obtain⟨r,e,rfl⟩:W (S.z25 (.ptr lh 0) v σ) fun r=>r=decide (0<v/\v<sc.length):=by
  obtain⟨k1,k2,k3,k4⟩:=p;unfold S.z25
  repeat' (with_reducible refine W.bind ?_)
  (with_reducible refine W.cnd (fun h0=>?_) (fun h0=>?_)<;>(try simp only[qq,Kd.ty]at h0)<;>(try (exfalso;omega)))
  ·repeat' with_reducible first|refine W.ret ?_|refine W.asV ?_|refine W.fldp ?_|refine W.nck ?_|refine W.u0 ?_|refine W.u3 ?_
   simp;omega
  ·repeat' with_reducible refine W.ret ?_
   simp;omega
 exact e
end
end
section
open Go
structure HW(sc pl hs:List Int):Prop where
 len:pl.length=sc.length
 rng:∀(k:Nat) (v:Int),hs[k]?=some v->0<v/\v<sc.length
 at_:∀(v k:Nat),v<sc.length->(pl.getD v 0=(k:Int)+1↔hs[k]?=some (v:Int))
 nn:∀v:Nat,0<=pl.getD v 0
theorem yg_{xs:List Int}{i j:Nat}{a:Int}(hi:i<xs.length):(xs.set i a).getD j 0=if i=j then a else xs.getD j 0:=by
 rw[List.getD_eq_getElem?_getD,List.getElem?_set,List.getD_eq_getElem?_getD];by_cases e:i=j
 ·subst e;simp[hi]
 ·simp[e]
theorem yr_{xs:List Int}{i j:Nat}{a:Int}(hi:i<xs.length):(xs.set i a)[j]?=if i=j then some a else xs[j]?:=by
 rw[List.getElem?_set];by_cases e:i=j
 ·subst e;simp[hi]
 ·simp[e]
theorem HW.swap{sc pl hs:List Int}{k q v w:Nat}(hpl:pl.length=sc.length)(hv:v<sc.length)(hk:k<hs.length)(hq:q<hs.length)(hne:q≠k)(hw:hs[q]?=some (w:Int))(H:HW sc (pl.set v ((k:Int)+1)) (hs.set k (v:Int))) :
  w<sc.length/\w≠v/\HW sc ((pl.set w ((k:Int)+1)).set v ((q:Int)+1)) ((hs.set k (w:Int)).set q (v:Int)):=by
 have hne':k≠q:=fun e=>hne e.symm;have r:=H.rng q w (by rw[yr_ hk,if_neg hne'];exact hw);have hwl:w<sc.length:=by omega
 have hwv:w≠v:=fun e=>by
  have h1:=(H.at_ v k hv).2 (by rw[yr_ hk,if_pos rfl]);have h2:=(H.at_ w q hwl).2 (by rw[yr_ hk,if_neg hne'];exact hw);rw[e,h1]at h2;omega
 refine⟨hwl,hwv,by simp[hpl],fun j u hj=>?_,fun u j hu=>?_,fun u=>?_⟩
 ·rw[yr_ (by simpa using hq),yr_ hk]at hj
  split at hj
  ·cases hj
   have:=H.rng k v (by rw[yr_ hk,if_pos rfl]);exact this
  ·split at hj
   ·cases hj;exact r
   ·rename_i h1 h2
    exact H.rng j u (by rw[yr_ hk,if_neg h2];exact hj)
 ·have A:=H.at_ u j hu
  have Bw:=(H.at_ w q hwl).2 (by rw[yr_ hk,if_neg hne'];exact hw);rw[yg_ (by omega),if_neg (fun e=>hwv e.symm)]at Bw;rw[yg_ (by omega),yr_ hk]at A;rw[yg_ (by simp;omega),yg_ (by omega),yr_ (by simpa using hq),yr_ hk];by_cases e1:v=u
  ·subst e1
   rw[if_pos rfl]at A⊢;by_cases e2:q=j
   ·subst e2;simp
   ·rw[if_neg e2]
    by_cases e3:k=j
    ·subst e3
     rw[if_pos rfl];constructor
     ·intro h;omega
     ·intro h;have:=Option.some.inj h;omega
    ·rw[if_neg e3]at A⊢
     constructor
     ·intro h;omega
     ·intro h;have:=A.2 h;omega
  ·rw[if_neg e1]at A⊢
   by_cases e2:w=u
   ·subst e2
    rw[if_pos rfl];by_cases e3:q=j
    ·subst e3
     rw[if_pos rfl];constructor
     ·intro h;omega
     ·intro h;have:=Option.some.inj h;omega
    ·rw[if_neg e3]
     by_cases e4:k=j
     ·subst e4;simp
     ·rw[if_neg e4]at A⊢
      constructor
      ·intro h;omega
      ·intro h;have:=A.2 h;omega
   ·rw[if_neg e2]
    by_cases e3:q=j
    ·subst e3
     rw[if_neg hne',hw]at A;rw[if_pos rfl];constructor
     ·intro h;have:=Option.some.inj (A.1 h);omega
     ·intro h;have:=Option.some.inj h;omega
    ·rw[if_neg e3]
     by_cases e4:k=j
     ·subst e4
      rw[if_pos rfl]at A⊢;constructor
      ·intro h;have:=Option.some.inj (A.1 h);omega
      ·intro h;have:=Option.some.inj h;omega
     ·rw[if_neg e4]at A⊢;exact A
 ·rw[yg_ (by simp;omega),yg_ (by omega)]
  have:=H.nn u;rw[yg_ (by omega)]at this
  split
  ·omega
  ·split
   ·omega
   ·rename_i h1 h2
    rw[if_neg h1]at this;exact this
end
section
open Go
theorem y2s_.own{σ τ:Heap}{T:Tg}{xs:List Int}{y:AVal}(u:Nat)(h:y2s_ σ.next τ xs y)(hn:Tn σ T)(L:Hle σ τ):∃T',Hop (only u) σ T τ T'/\Own .int (τ.at T' u) xs y:=by
 rcases h with ⟨rfl,rfl⟩|⟨l,off,c,cs,rfl,h1,h2,h3,h4,h5,h6⟩
 ·exact⟨T,Hop.of hn L,.nil⟩
 ·refine⟨T.upd l u,⟨L.next,⟨fun k hk=>by rw[y1e_ (by omega)];exact hn.z k (Nat.le_trans L.next hk)⟩,fun k hk hI=>?_,fun k o hk hI hg=>?_⟩,.inr ⟨l,off,c,cs,rfl,h2,at_of y16_ h3,h4,h5,h6⟩⟩
  ·exact y1e_ (by omega)
  ·exact L.get k o hk hg
def wAt(l:Int):Nat:=if l<0 then(-2*l+1).toNat else(2*l).toNat
theorem at_eq{σ:Heap}{l:Int}(h:l.natAbs<=1000000):S.z84 l σ=some (wAt l:Int):=by
 obtain⟨r,e,rfl⟩:W (S.z84 l σ) fun r=>r=(wAt l:Int):=by
  unfold S.z84 wAt
  (with_reducible refine W.cnd (fun hl=>?_) (fun hl=>?_)<;>(try simp only[qq,Kd.ty]at hl)<;>(try (exfalso;omega)))
  ·repeat' with_reducible refine W.ret ?_
   have w:IntKind.i64.wrap (-2*l) = -2*l:=by rw[wrapS]<;>omega
   rw[if_pos hl,w,wrapS]<;>omega
  ·repeat' with_reducible refine W.ret ?_
   rw[if_neg (by omega),wrapS]<;>omega
 exact e
section
variable{σ τ:Heap}{T T':Tg}{lp vars:Nat}{h:PH}{s:PS}
theorem PropH.clen(p:PropH σ T lp h s):h.cs.length=s.cls.length:=by have:=congrArg List.length p.cb;simpa using this
theorem PropH.cget(p:PropH σ T lp h s){id:Nat}{c:List Int}{b f:Bool}(hi:s.cls[id]?=some (c,b,f)):∃y,h.cs[id]?=some (y,b,f)/\Own .int (σ.at T (40+2*id)) c y:=by
 have hlt:=(List.getElem?_eq_some_iff.1 hi).1;obtain⟨z,hz⟩:∃z,h.cs[id]?=some z:=⟨_,List.getElem?_eq_getElem (by rw[p.clen];exact hlt)⟩;have h1:(h.cs.map (·.2))[id]?=some z.2:=by rw[List.getElem?_map,hz];rfl
 rw[p.cb,List.getElem?_map,hi]at h1;have h2:z.2=(b,f):=by simpa using h1.symm
 refine⟨z.1,by rw[hz];congr 1;exact Prod.ext rfl h2,p.cf.2 id c z.1 (by rw[List.getElem?_map,hi];rfl) (by rw[List.getElem?_map,hz];rfl)⟩
def PS.look(s:PS)(id:Nat):PS:=match s.cls[id]? with
 |some (l,b,false)=>{ s with cls:=s.cls.set id (l,b,true),loose:=s.loose++[(id:Int)] }
 |_=>s
theorem y1n_{α β:Type}{f:α->β}{xs:List α}{i:Nat}{a b:α}(h:xs[i]?=some a)(e:f b=f a):(xs.set i b).map f=xs.map f:=by
 obtain⟨hlt,h⟩:=List.getElem?_eq_some_iff.1 h;rw[List.map_set,e,<-h,<-List.getElem_map f (h:=by simpa using hlt),List.set_getElem_self]
theorem y5n_(p:PropH σ T lp h s)(hn:Tn σ T){id:Nat}(hi:id<s.cls.length)(hb:s.loose.length<=8700000000000)(hb2:s.cls.length<=1010000000000) :
  W (S.z78 (.ptr lp 0) (id:Int) σ) fun r=>∃T' h',Hop pI σ T r.2 T'/\PropH r.2 T' lp h' (s.look id):=by
 obtain⟨⟨c,b,f⟩,hc⟩:∃z,s.cls[id]?=some z:=⟨_,List.getElem?_eq_getElem hi⟩;obtain⟨y,hy,hO⟩:=p.cget hc;have hcl:=p.clen;have hll:PS.look s id=(bif f then s else { s with cls:=s.cls.set id (c,b,true),loose:=s.loose++[(id:Int)] }):=by
  unfold PS.look;rw[hc];cases f<;>rfl
 rw[hll];have p0:=p;obtain⟨k1,k2,k3,k4,k5,k6,k7,k8,k9,k10,k11,k12,k13⟩:=p;unfold S.z78
 repeat' with_reducible first|refine W.asV ?_|refine W.fldp ?_|refine W.nck ?_|refine W.u0 ?_
 refine W.ixO k8.slT (i:=id) (by omega) ?_;refine W.fldO k8.slT (i:=id) (k:=0) (j:=2) (by omega) ?_;refine W.ldO k8.slT hy (u:=.bool f) (fun us h=>by rw[show us=[y,.bool b,.bool f]from h];rfl) ?_
 repeat' (with_reducible refine W.asB ?_)
 cases f with
 |true=>
  refine W.condF rfl ?_
  repeat' with_reducible refine W.ret ?_
  exact⟨T,h,Hop.refl hn,p0⟩
 | false=>
  refine W.condT rfl ?_
  repeat' with_reducible first|refine W.asV ?_|refine W.fldp ?_|refine W.nck ?_|refine W.u0 ?_
  refine W.ixO k8.slT (i:=id) (by omega) ?_;refine W.fldO k8.slT (i:=id) (k:=0) (j:=2) (by omega) ?_;refine W.own_set y6c_ k8 hn hy (k:=2) [y,.bool b,.bool false] (y,b,true) (by decide) (fun bs h=>h) (fun _=>rfl) fun τ1 k8 H1 _=>?_;have HH:Hop pI σ T τ1 T:=(Hop.refl hn).inP H1;replace k1:=k1.hop H1;replace k2:=k2.hop H1;replace k3:=k3.hop H1;replace k4:=k4.hop H1;replace k5:=k5.hop H1;replace k6:=k6.hop H1;replace k7:=k7.hop H1;replace k9:=k9.hop H1;replace k10:=k10.hop H1;replace k11:=k11.hop H1;replace k13:=k13.hop H1;replace hn:=H1.tn
  repeat' with_reducible first|refine W.asV ?_|refine W.fldp ?_|refine W.nck ?_|refine W.u0 ?_
  refine W.own_push (bytes:=8) Vw.int_flat k10 hn (a:=(id:Int)) rfl (by omega) (by omega) fun x2 τ2 T2 k10 H2=>?_;replace HH:=HH.inP H2;replace k1:=k1.hop H2;replace k2:=k2.hop H2;replace k3:=k3.hop H2;replace k4:=k4.hop H2;replace k5:=k5.hop H2;replace k6:=k6.hop H2;replace k7:=k7.hop H2;replace k8:=k8.hop H2;replace k9:=k9.hop H2;replace k11:=k11.hop H2;replace k13:=k13.hop H2;replace hn:=H2.tn
  repeat' with_reducible first|refine W.fldp ?_|refine W.nck ?_|refine W.u4 ?_
  refine W.stT k1 hn (Nat.le_of_ble_eq_true (by rfl)) fun τ3 H3 k1 hnτ3=>?_;replace HH:=HH.inP H3;replace k2:=k2.hop H3;replace k3:=k3.hop H3;replace k4:=k4.hop H3;replace k5:=k5.hop H3;replace k6:=k6.hop H3;replace k7:=k7.hop H3;replace k8:=k8.hop H3;replace k9:=k9.hop H3;replace k10:=k10.hop H3;replace k11:=k11.hop H3;replace k13:=k13.hop H3;replace hn:=H3.tn
  repeat' with_reducible refine W.ret ?_
  refine⟨T2,{ h with xo:=x2,cs:=h.cs.set id (y,b,true) },HH,k1,k2,k3,k4,k5,k6,k7,k8,k9,k10,?_,?_,k13⟩
  ·show Fam τ3 T2 40 ((s.cls.set id (c,b,true)).map (·.1)) ((h.cs.set id (y,b,true)).map (·.1))
   rw[y1n_ (f:=(·.1)) (b:=(c,b,true)) hc rfl,y1n_ (f:=(·.1)) (b:=(y,b,true)) hy rfl];exact k11
  ·show(h.cs.set id (y,b,true)).map (·.2)=(s.cls.set id (c,b,true)).map (·.2)
   rw[List.map_set,List.map_set,k12]
end
end
section
open Go
section
variable{σ τ:Heap}{T T':Tg}{lp l1 n:Nat}{h:PH}{s:PS}
theorem ycz_(p:PropH σ T lp h s)(hL:s.vs.length=n+1)(hn:n<=4000)(hl:Loc (σ.at T 0) l1 [.ptr lp 0]){x:Int}(hx:inB x=true):S.z59 x (.ptr l1 0) σ=some (!isL x n):=by
 obtain⟨r,e,rfl⟩:W (S.z59 x (.ptr l1 0) σ) fun r=>r = !isL x n:=by
  have k1:=p.obj;have k2:=p.asg;have k3:=p.vs;simp only[inB,Bool.and_eq_true,decide_eq_true_eq]at hx;unfold S.z59
  repeat' with_reducible first|refine W.bind ?_|refine W.asV ?_|refine W.fldp ?_|refine W.nck ?_|refine W.u0 ?_
  refine W.to (y3v_ k2 k3 (by omega)) ?_
  repeat' with_reducible first|refine W.ret ?_|refine W.bind ?_
  rw[show(s.vs.length:Int)-1=(n:Int) by omega];refine W.to (y18_ (by omega) (by omega)) ?_
  repeat' with_reducible refine W.ret ?_
  rfl
 exact e
def PS.watch(s:PS)(l:Int)(id:Nat):PS:={ s with wat:=s.wat.set (wAt l) (s.wat.getD (wAt l) []++[(id:Int)]) }
theorem yj1_(p:PropH σ T lp h s)(hn:Tn σ T)(hl:Loc (σ.at T 0) l1 [.ptr lp 0]){y:AVal}{c:List Int}{id u:Nat}(hy:SlV .int (σ.at T u) c y)(hu:∀k,u≠41+2*k)(hu9:u≠9)(hc:∀l∈c,wAt l<s.wat.length/\l.natAbs<=1000000)(hcl:c.length<=10)(hb:∀w∈s.wat,w.length+10<=8700000000000) :
  W (loopW (S.z58.b0 (.ptr l1 0) (id:Int) y (c.length:Int)) 0 σ) fun r=>∃T' h',Hop pI σ T r.2 T'/\PropH r.2 T' lp h' (c.foldl (fun s l=>s.watch l id) s):=by
 refine W.loop c.length (fun i (z:Int) τ=>z=(i:Int)/\∃T' h',Hop pI σ T τ T'/\Loc (τ.at T' 0) l1 [.ptr lp 0]/\SlV .int (τ.at T' u) c y/\PropH τ T' lp h' ((c.take i).foldl (fun s l=>s.watch l id) s)/\((c.take i).foldl (fun s l=>s.watch l id) s).wat.length=s.wat.length /\
  ∀w∈((c.take i).foldl (fun s l=>s.watch l id) s).wat,w.length+10<=8700000000000+i) ⟨rfl,T,h,Hop.refl hn,hl,hy,p,rfl,hb⟩ fun i z τ hi hI=>?_
 obtain⟨rfl,T1,h1,HH,hl,hy,p,hwl,hwb⟩:=hI;have hn:=HH.tn;unfold S.z58.b0
 (with_reducible refine W.cnd (fun hlt=>?_) (fun hlt=>?_)<;>(try simp only[qq,Kd.ty]at hlt)<;>(try (exfalso;omega)))
 ·obtain⟨a,ha⟩:∃a,c[i]?=some a:=⟨_,List.getElem?_eq_getElem (by omega)⟩
  obtain⟨hw,hab⟩:=hc a (List.mem_of_getElem? ha);have ht:c.take (i+1)=c.take i++[a]:=by rw[List.take_add_one,ha];rfl
  rw[ht,List.foldl_append];generalize (c.take i).foldl (fun s l=>s.watch l id) s=s1 at p hwl hwb⊢;obtain⟨xs,z,hx,hz,hO⟩:=p.wf.get (k:=wAt a) (by omega);have hmx:=hwb xs (List.mem_of_getElem? hx);have hgd:s1.wat.getD (wAt a) []=xs:=by rw[List.getD_eq_getElem?_getD,hx];rfl
  have hlw:=p.wf.1;obtain⟨k1,k2,k3,k4,k5,k6,k7,k8,k9,k10,k11,k12,k13⟩:=p;have k9':=k9
  repeat' with_reducible first|refine W.bind ?_|refine W.asV ?_|refine W.fldp ?_|refine W.nck ?_|refine W.u0 ?_|refine W.ixIc (SlV.up (by assumption)) (by assumption) ?_
  refine W.to (at_eq hab) ?_
  repeat' with_reducible first|refine W.ret ?_|refine W.bind ?_|refine W.asV ?_|refine W.fldp ?_|refine W.nck ?_|refine W.u0 ?_
  refine W.to (at_eq hab) ?_
  repeat' with_reducible refine W.ret ?_
  refine W.ixV k9.slT hz ?_
  skip
  refine W.own_push (bytes:=8) Vw.int_flat hO hn (a:=(id:Int)) rfl (by omega) (by omega) fun x2 τ2 T2 hO H2=>?_;replace HH:=HH.inP H2 (by simp[pI];omega);replace hl:=hl.hop H2 (by simp;omega);replace hy:=hy.hop H2 (by have:=hu (wAt a);simp;omega);replace k1:=k1.hop H2 (by simp;omega);replace k2:=k2.hop H2 (by simp;omega);replace k3:=k3.hop H2 (by simp;omega);replace k4:=k4.hop H2 (by simp;omega);replace k5:=k5.hop H2 (by simp;omega);replace k6:=k6.hop H2 (by simp;omega);replace k7:=k7.hop H2 (by simp;omega);replace k8:=k8.hop H2 (by simp;omega);replace k9:=k9.hop H2 (by simp;omega);replace k10:=k10.hop H2 (by simp;omega);replace k11:=k11.hop H2 (by intro i;simp;omega);replace k13:=k13.hopAt H2 hO;replace hn:=H2.tn
  repeat' with_reducible first|refine W.asV ?_|refine W.chk rfl ?_|refine W.u0 ?_
  refine W.ixO k9.slT (i:=wAt a) (by omega) ?_
  repeat' (with_reducible refine W.u4 ?_)
  refine W.own_setV k9 hn (a:=x2) (by omega) fun τ3 k9 H3 _=>?_;replace HH:=HH.inP H3;replace hy:=hy.hop H3 (by simp;exact hu9);replace hl:=hl.hop H3;replace k1:=k1.hop H3;replace k2:=k2.hop H3;replace k3:=k3.hop H3;replace k4:=k4.hop H3;replace k5:=k5.hop H3;replace k6:=k6.hop H3;replace k7:=k7.hop H3;replace k8:=k8.hop H3;replace k10:=k10.hop H3;replace k11:=k11.hop H3;replace k13:=k13.hop H3;replace hn:=H3.tn
  repeat' (with_reducible refine W.next ?_)
  refine⟨by omega,sk,T2,{ h1 with ws:=h1.ws.set (wAt a) x2 },HH,hl,hy,?_,?_,fun w hw2=>?_⟩
  ·simp only[List.foldl_cons,List.foldl_nil,PS.watch,hgd]
   exact⟨k1,k2,k3,k4,k5,k6,k7,k8,k9,k10,k11,k12,k13⟩
  ·simp[PS.watch,hwl]
  ·simp only[List.foldl_cons,List.foldl_nil,PS.watch,hgd]at hw2
   rcases List.mem_or_eq_of_mem_set hw2 with e|e
   ·have:=hwb w e;omega
   ·rw[e];simp;omega
 ·repeat' (with_reducible refine W.stop ?_)
  rw[List.take_of_length_le (by omega)]at p;exact⟨T1,h1,HH,p⟩
theorem Fam.hopLt{b:Nat}{xs:List (List Int)}{ws:List AVal}{I:Nat->Bool}(h:Fam σ T b xs ws)(H:Hop I σ T τ T')(hI:∀i,i<xs.length->I (b+2*i)=false):Fam τ T' b xs ws:=⟨h.1,fun i a y h1 h2=>(h.2 i a y h1 h2).hop H (hI i (List.getElem?_eq_some_iff.1 h1).1)⟩
theorem PropH.hopNew(p:PropH σ T lp h s)(H:Hop (only (40+2*s.cls.length)) σ T τ T'):PropH τ T' lp h s:=
 ⟨p.obj.hop H (by simp;omega),p.asg.hop H (by simp;omega),p.vs.hop H (by simp;omega),p.lev.hop H (by simp;omega),p.rea.hop H (by simp;omega),p.trail.hop H (by simp;omega),p.marks.hop H (by simp;omega),p.cls.hop H (by simp;omega),p.wat.hop H (by simp;omega),p.loose.hop H (by simp;omega),
  p.cf.hopLt H (fun i hi=>by simp at hi⊢;omega),p.cb,p.wf.hop H (by intro i;simp;omega)⟩
def PS.add(s:PS)(l:List Int):PS:=((if 1<l.length then l.take 2 else[]).foldl (fun(q:PS) x=>q.watch x s.cls.length) { s with cls:=s.cls++[(l,true,false)] }).look s.cls.length
theorem y97_(id:Nat):∀(l:List Int) (s:PS),(l.foldl (fun(q:PS) x=>q.watch x id) s).cls=s.cls/\(l.foldl (fun(q:PS) x=>q.watch x id) s).loose=s.loose
 |[],s=>⟨rfl,rfl⟩
 |a::l,s=>by have:=y97_ id l (s.watch a id);exact this
def y2e_(n:Nat)(c:List Int):Bool:=!saysN c||(normL c).any fun l => !isL l n
theorem ya7_(p:PropH σ T lp h s)(hn:Tn σ T)(hL:PLen (n+1) s)(hv:n<=4000){c:List Int}{x:AVal}{u:Nat}(hx:SlV .int (σ.at T u) c x)(hin:c.all inB=true)(hcl:c.length<=1000000)(hb:s.loose.length<=8700000000000)(hb2:s.cls.length<=1000000000000)
  (hwb:∀w∈s.wat,w.length+10<=8700000000000) :
  W (S.z58 (.ptr lp 0) x σ) fun r=>∃T' h',Hop pI σ T r.2 T'/\((y2e_ n c=true/\r.1=(0,false)/\PropH r.2 T' lp h' s)\/(y2e_ n c=false/\r.1=((s.cls.length:Int),true)/\PropH r.2 T' lp h' (s.add (normL c)))):=by
 unfold S.z58;refine W.scP ?_;refine W.new0 hn fun l1 τ1 _ L1 hl hn1=>?_;replace p:=p.hle L1;replace hx:=hx.hle L1;have HH:Hop pI σ T τ1 T:=Hop.of hn L1;refine W.bind ?_;refine W.mono (ydi_ hx.up hin hcl) fun r hr=>?_;obtain⟨⟨z,says⟩,τ2⟩:=r;obtain⟨e,L2,hF⟩:=hr;dsimp only at e L2 hF⊢;subst e;obtain⟨T2,H2,hZ⟩:=hF.own (40+2*s.cls.length) hn1 L2;have p2:=p.hopNew H2;replace hl:=hl.hop H2 (by simp;omega);replace HH:=HH.inP H2 (by simp[pI]);have hn2:=H2.tn;have hnl:=y2m_ c;have hnin:∀l∈normL c,inB l=true:=fun l hl=>List.all_eq_true.1 hin l (yc_.1 hl);refine W.bind ?_;refine W.mono (P:=fun r=>r=(y2e_ n c,τ2)) ?_ fun r hr=>?_
 ·unfold y2e_
  cases hs:saysN c with
  |false=>
   refine W.condT rfl ?_
   repeat' with_reducible refine W.ret ?_
   rfl
  | true=>
   refine W.condF rfl ?_;refine W.bind ?_;refine W.mono (y1c_ (fun l => !isL l n) hZ.slT (by omega) fun l hl2 Rt K=>?_) fun r hr=>?_
   ·show((S.z59 l (.ptr l1 0) τ2).bind fun x=>K (retV [.B] x) τ2)=_
    rw[ycz_ p2 hL.vs hv hl (hnin l hl2)];rfl
   ·subst hr
    repeat' with_reducible refine W.ret ?_
    rfl
 subst hr;cases hbad:y2e_ n c with
 |true=>
  refine W.condT rfl ?_
  repeat' with_reducible refine W.ret ?_
  exact⟨T2,h,HH,.inl ⟨rfl,rfl,p2⟩⟩
 | false=>
  refine W.condF rfl ?_;have hall:∀l∈normL c,isL l n=true:=fun l hl2=>by
   unfold y2e_ at hbad;simp only[Bool.or_eq_false_iff,List.any_eq_false]at hbad;simpa using hbad.2 l hl2
  obtain⟨e1,e2,e3,e4⟩:=hL;obtain⟨k1,k2,k3,k4,k5,k6,k7,k8,k9,k10,k11,k12,k13⟩:=p2;have hcl2:h.cs.length=s.cls.length:=by have:=congrArg List.length k12;simpa using this
  have hn:=hn2
  repeat' with_reducible first|refine W.asV ?_|refine W.fldp ?_|refine W.nck ?_|refine W.u0 ?_|refine W.u3 ?_|refine W.u4 ?_
  refine W.own_push (bytes:=32) y6c_ k8 hn (a:=(z,true,false)) rfl (by omega) (by omega) fun x2 τ3 T3 k8 H3=>?_;replace HH:=HH.inP H3;replace hZ:=hZ.hop H3 (by simp;omega);replace hl:=hl.hop H3;replace k1:=k1.hop H3;replace k2:=k2.hop H3;replace k3:=k3.hop H3;replace k4:=k4.hop H3;replace k5:=k5.hop H3;replace k6:=k6.hop H3;replace k7:=k7.hop H3;replace k9:=k9.hop H3;replace k10:=k10.hop H3;replace k11:=k11.hop H3;replace k13:=k13.hop H3;replace hn:=H3.tn
  repeat' with_reducible first|refine W.asV ?_|refine W.chk rfl ?_|refine W.fldp ?_|refine W.nck ?_|refine W.u0 ?_|refine W.u4 ?_
  refine W.stT k1 hn (Nat.le_of_ble_eq_true (by rfl)) fun τ4 H4 k1 hnτ4=>?_;replace HH:=HH.inP H4;replace hZ:=hZ.hop H4 (by simp;omega);replace hl:=hl.hop H4;replace k2:=k2.hop H4;replace k3:=k3.hop H4;replace k4:=k4.hop H4;replace k5:=k5.hop H4;replace k6:=k6.hop H4;replace k7:=k7.hop H4;replace k8:=k8.hop H4;replace k9:=k9.hop H4;replace k10:=k10.hop H4;replace k11:=k11.hop H4;replace k13:=k13.hop H4;replace hn:=H4.tn;have p4:PropH τ4 T3 lp { h with xc:=x2,cs:=h.cs++[(z,true,false)] } { s with cls:=s.cls++[(normL c,true,false)] }:=
   ⟨k1,k2,k3,k4,k5,k6,k7,k8,k9,k10,by
    show Fam τ4 T3 40 ((s.cls++[(normL c,true,false)]).map (·.1)) ((h.cs++[(z,true,false)]).map (·.1));rw[List.map_append,List.map_append];exact k11.push (by simpa using hZ),by
    show(h.cs++[(z,true,false)]).map (·.2)=(s.cls++[(normL c,true,false)]).map (·.2);rw[List.map_append,List.map_append,k12];rfl,k13⟩
  repeat' with_reducible first|refine W.bind ?_|refine W.u3 ?_
  rw[hcl2];refine W.mono (P:=fun r=>∃T' h',Hop pI τ4 T3 r.2 T'/\PropH r.2 T' lp h' ((if 1<(normL c).length then(normL c).take 2 else[]).foldl (fun(q:PS) x=>q.watch x s.cls.length) { s with cls:=s.cls++[(normL c,true,false)] })) ?_ fun r hr=>?_
  ·(with_reducible refine W.cnd (fun hlen=>?_) (fun hlen=>?_)<;>(try simp only[qq,Kd.ty]at hlen)<;>(try (exfalso;omega)))
   ·rw[if_pos (by omega)]
    obtain⟨y2,e5,hy2⟩:=hZ.slice (lo:=0) (hi:=2) (by omega) (by omega);rw[List.drop_zero]at hy2;refine W.to ((e5 (at_le (σ:=τ4) (T:=T3) (i:=40+2*s.cls.length)) _).1) ?_
    repeat' with_reducible first|refine W.bind ?_|refine W.u3 ?_
    refine W.mono (yj1_ p4 hn hl (id:=s.cls.length) (u:=40+2*s.cls.length) hy2.sl (fun k=>by omega) (by omega) (fun l hl2=>?_) (by simp;omega) hwb) fun r hr=>W.ret hr;have:=yi_.1 (hall l (List.mem_of_mem_take hl2));refine⟨?_,by omega⟩;show wAt l<s.wat.length;unfold wAt;rw[e4]
    split<;>omega
   ·rw[if_neg (by omega)]
    repeat' with_reducible refine W.ret ?_
    exact⟨T3,_,Hop.refl hn,p4⟩
  ·obtain⟨r,τ5⟩:=r
   obtain⟨T5,h5,H5,p5⟩:=hr;dsimp only at H5 p5⊢;replace hl:=hl.hop H5
   repeat' with_reducible first|refine W.bind ?_|refine W.asV ?_|refine W.u0 ?_
   obtain⟨q1,q2⟩:=y97_ s.cls.length (if 1<(normL c).length then(normL c).take 2 else[]) { s with cls:=s.cls++[(normL c,true,false)] };refine W.mono (y5n_ p5 H5.tn (id:=s.cls.length) (by rw[q1];simp) (by rw[q2];show s.loose.length<=_;omega) (by rw[q1];simp;omega)) fun r hr=>?_;obtain⟨r,τ6⟩:=r;obtain⟨T6,h6,H6,p6⟩:=hr
   repeat' with_reducible refine W.ret ?_
   exact⟨T6,h6,(HH.trans H5).trans H6,.inr ⟨rfl,rfl,p6⟩⟩
end
end
section
open Go
def PS.lv(s:PS)(l:Int):Int:=s.lev.getD l.natAbs 0
def PS.re(s:PS)(l:Int):Int:=s.rea.getD l.natAbs 0
def PS.setL(s:PS)(l r:Int):PS:={ s with vs:=setV s.vs l,lev:=s.lev.set l.natAbs s.marks.length,rea:=s.rea.set l.natAbs r,trail:=s.trail++[l] }
def PS.dec(s:PS)(l:Int):PS:={ s with marks:=s.marks++[(s.trail.length:Int)] }.setL l (-1)
def PS.Rs(s:PS)(i:Nat)(l:Int):Prop:=(s.re l = -1/\∃k:Nat,s.lv l=(k:Int)+1/\s.marks[k]?=some (i:Int)) \/
 ∃(id:Nat) (c:List Int) (f:Bool),s.re l=id/\s.cls[id]?=some (c,true,f)/\l∈c/\∀x∈c,x≠l->∃j,j<i/\s.trail[j]?=some (-x)
structure TrI(n:Nat)(s:PS):Prop where
 len:PLen (n+1) s
 ok:Vok s.vs
 rng:∀l∈s.trail,isL l n=true
 tr:∀l,val s.vs l=1↔l∈s.trail
 nd:s.trail.Nodup
 lv:∀l∈s.trail,0<=s.lv l/\s.lv l<=s.marks.length
 mks:∀(k:Nat) m,s.marks[k]?=some m->∃a:Nat,m=a/\(∃l,s.trail[a]?=some l/\s.lv l=(k:Int)+1)/\∀i l,s.trail[i]?=some l->(a<=i↔(k:Int)<s.lv l)
 rs:∀i l,s.trail[i]?=some l->s.Rs i l
def ClI(n:Nat)(s:PS):Prop:=∀(id:Nat) c f,s.cls[id]?=some (c,true,f)->(∀l∈c,isL l n=true)/\(c.map Int.natAbs).Nodup
theorem ye_{l:Int}{n:Nat}(h:isL l n=true):l≠0/\l.natAbs<=n:=by
 obtain⟨h1,h2,h3⟩:=yi_.1 h;exact⟨h1,by omega⟩
theorem y7l_{l:Int}{n:Nat}(h:isL l n=true):isL (-l) n=true:=by
 obtain⟨h1,h2,h3⟩:=yi_.1 h;exact yi_.2 ⟨by omega,by omega,by omega⟩
theorem getD_set'{α:Type}{xs:List α}{i j:Nat}{a d:α}(hi:i<xs.length):(xs.set i a).getD j d=if j=i then a else xs.getD j d:=by
 rw[List.getD_eq_getElem?_getD,List.getElem?_set,List.getD_eq_getElem?_getD];by_cases e:i=j
 ·subst e;simp[hi]
 ·rw[if_neg e,if_neg (fun h=>e h.symm)]
theorem y2_{α:Type}{xs:List α}{i:Nat}{a:α}(h:xs[i]?=some a):i<xs.length:=(List.getElem?_eq_some_iff.1 h).1
theorem y3_{α:Type}{xs:List α}{i:Nat}(h:i<xs.length):∃a:α,xs[i]?=some a:=⟨_,List.getElem?_eq_getElem h⟩
theorem yb_{α:Type}{xs:List α}{a:α}(h:a∈xs):∃i:Nat,xs[i]?=some a:=by
 obtain⟨i,hi,e⟩:=List.getElem_of_mem h;exact⟨i,by rw[List.getElem?_eq_getElem hi,e]⟩
theorem nd_ix{α:Type}{xs:List α}(h:xs.Nodup){i j:Nat}{a:α}(h1:xs[i]?=some a)(h2:xs[j]?=some a):i=j:=
 (List.getElem?_inj (y2_ h1) h).1 (by rw[h1,h2])
section
variable{n:Nat}{s s':PS}{l x y:Int}
theorem TrI.neg(h:TrI n s):val s.vs l=2↔-l∈s.trail:=by
 rw[<-h.tr,y5e_ h.ok];have:=y1q_ h.ok l
 split<;>omega
theorem TrI.notBoth(h:TrI n s)(h1:l∈s.trail)(h2 : -l∈s.trail):False:=by
 rw[<-h.tr]at h1;rw[<-h.neg]at h2;omega
theorem TrI.zero(h:TrI n s):val s.vs l=0↔l∉s.trail/\-l∉s.trail:=by
 rw[<-h.tr,<-h.neg];have:=y1q_ h.ok l;omega
theorem PS.lv_neg(s:PS)(l:Int):s.lv (-l)=s.lv l:=by simp[PS.lv]
theorem TrI.abs(h:TrI n s)(hx:x∈s.trail)(hy:y∈s.trail)(e:x.natAbs=y.natAbs):x=y:=by
 rcases Int.natAbs_eq_natAbs_iff.1 e with e|e
 ·exact e
 ·exfalso;rw[e]at hx;exact h.notBoth hy hx
theorem TrI.mono(h:TrI n s){i j:Nat}(hij:i<=j)(hx:s.trail[i]?=some x)(hy:s.trail[j]?=some y):s.lv x<=s.lv y:=by
 refine Int.not_lt.1 fun hlt=>?_;have h1:=h.lv x (List.mem_of_getElem? hx);have h2:=h.lv y (List.mem_of_getElem? hy);obtain⟨m,hm⟩:=y3_ (xs:=s.marks) (i:=(s.lv y).toNat) (by omega);obtain⟨a,_,_,h3⟩:=h.mks _ m hm;have h4:=(h3 i x hx).2 (by omega);have h5:=(h3 j y hy).1 (by omega);omega
def CEq(s s':PS):Prop:=s'.cls.length=s.cls.length/\∀(id:Nat) a b,s.cls[id]?=some a->s'.cls[id]?=some b->b.2.1=a.2.1/\b.1.Perm a.1
theorem CEq.refl(s:PS):CEq s s:=⟨rfl,fun id a b h1 h2=>by rw[h1]at h2;cases h2;exact⟨rfl,.refl _⟩⟩
theorem CEq.trans{s1 s2 s3:PS}(h:CEq s1 s2)(k:CEq s2 s3):CEq s1 s3:=⟨k.1.trans h.1,fun id a b h1 h2=>by
 obtain⟨c,hc⟩:=y3_ (xs:=s2.cls) (i:=id) (by rw[h.1];exact y2_ h1);obtain⟨e1,p1⟩:=h.2 id a c h1 hc;obtain⟨e2,p2⟩:=k.2 id c b hc h2;exact⟨e2.trans e1,p2.trans p1⟩⟩
theorem CEq.get(h:CEq s s'){id:Nat}{c:List Int}{b f:Bool}(hc:s.cls[id]?=some (c,b,f)):∃c' f',s'.cls[id]?=some (c',b,f')/\c'.Perm c:=by
 obtain⟨⟨c',b',f'⟩,h2⟩:=y3_ (xs:=s'.cls) (i:=id) (by rw[h.1];exact y2_ hc);obtain⟨e,p⟩:=h.2 id _ _ hc h2;dsimp only at e p;subst e;exact⟨c',f',h2,p⟩
theorem CEq.symm(h:CEq s s'):CEq s' s:=⟨h.1.symm,fun id a b h1 h2=>by
 obtain⟨e,p⟩:=h.2 id b a h2 h1;exact⟨e.symm,p.symm⟩⟩
theorem CEq.put{id:Nat}{c c':List Int}{b f f':Bool}(hc:s.cls[id]?=some (c,b,f))(p:c'.Perm c):CEq s { s with cls:=s.cls.set id (c',b,f') }:=⟨by simp,fun j a d h1 h2=>by
 simp only[List.getElem?_set]at h2;by_cases e:id=j
 ·subst e
  rw[if_pos rfl,if_pos (y2_ hc)]at h2;rw[hc]at h1;cases h1;cases h2;exact⟨rfl,p⟩
 ·rw[if_neg e,h1]at h2;cases h2;exact⟨rfl,.refl _⟩⟩
theorem ClI.ceq(h:ClI n s)(k:CEq s s'):ClI n s':=fun id c f hc=>by
 obtain⟨c',f',h1,p⟩:=k.symm.get hc;obtain⟨h2,h3⟩:=h id c' f' h1;exact⟨fun l hl=>h2 l (p.mem_iff.2 hl),(p.map _).nodup_iff.1 h3⟩
theorem TrI.same(h:TrI n s)(k:CEq s s')(e1:s'.vs=s.vs)(e2:s'.lev=s.lev)(e3:s'.rea=s.rea)(e4:s'.trail=s.trail)(e5:s'.marks=s.marks)(e6:s'.wat.length=s.wat.length):TrI n s':=by
 have elv:∀l,s'.lv l=s.lv l:=fun l=>by simp[PS.lv,e2]
 have ere:∀l,s'.re l=s.re l:=fun l=>by simp[PS.re,e3]
 refine⟨⟨by rw[e1];exact h.len.vs,by rw[e2];exact h.len.lev,by rw[e3];exact h.len.rea,by rw[e6];exact h.len.wat⟩,by rw[e1];exact h.ok,by rw[e4];exact h.rng,by rw[e1,e4];exact h.tr,by rw[e4];exact h.nd,fun l hl=>?_,fun k m hm=>?_,fun i l hl=>?_⟩
 ·rw[e4]at hl;rw[elv,e5];exact h.lv l hl
 ·rw[e5]at hm
  obtain⟨a,h1,h2,h3⟩:=h.mks k m hm;refine⟨a,h1,?_,fun i l hl=>?_⟩
  ·obtain⟨l,h4,h5⟩:=h2
   exact⟨l,by rw[e4];exact h4,by rw[elv];exact h5⟩
  ·rw[e4]at hl;rw[elv];exact h3 i l hl
 ·rw[e4]at hl
  rcases h.rs i l hl with ⟨h1,k',h2,h3⟩|⟨id,c,f,h1,h2,h3,h4⟩
  ·exact .inl ⟨by rw[ere];exact h1,k',by rw[elv];exact h2,by rw[e5];exact h3⟩
  ·obtain⟨c',f',h5,p⟩:=k.get h2
   exact .inr ⟨id,c',f',by rw[ere];exact h1,h5,p.mem_iff.2 h3,fun x hx hne=>by rw[e4];exact h4 x (p.mem_iff.1 hx) hne⟩
theorem TrI.push(h:TrI n s)(M:List Int)(hM:M=s.marks\/M=s.marks++[(s.trail.length:Int)])(hl:isL l n=true)(hv:val s.vs l=0){r:Int}(hs':s'={ s with marks:=M }.setL l r)
  (hr:s'.Rs s.trail.length l):TrI n s'/\∀x,x.natAbs≠l.natAbs->s'.lv x=s.lv x:=by
 obtain⟨l0,ln⟩:=ye_ hl;obtain⟨q1,q2,q3,q4⟩:=h.len;obtain⟨z1,z2⟩:=h.zero.1 hv;have hne:∀x∈s.trail,x.natAbs≠l.natAbs:=fun x hx e=>by
  rcases Int.natAbs_eq_natAbs_iff.1 e with e|e
  ·exact z1 (e▸hx)
  ·exact z2 (e▸hx)
 have elv:∀x,x.natAbs≠l.natAbs->s'.lv x=s.lv x:=fun x hx=>by
  rw[hs'];simp only[PS.lv,PS.setL];rw[getD_set' (by omega),if_neg hx]
 have ere:∀x,x.natAbs≠l.natAbs->s'.re x=s.re x:=fun x hx=>by
  rw[hs'];simp only[PS.re,PS.setL];rw[getD_set' (by omega),if_neg hx]
 have elvl:s'.lv l=M.length:=by
  rw[hs'];simp only[PS.lv,PS.setL];rw[getD_set' (by omega),if_pos rfl]
 have etr:s'.trail=s.trail++[l]:=by rw[hs'];rfl
 have emk:s'.marks=M:=by rw[hs'];rfl
 have ecl:s'.cls=s.cls:=by rw[hs'];rfl
 have evs:s'.vs=setV s.vs l:=by rw[hs'];rfl
 have hml:s.marks.length<=M.length:=by rcases hM with e|e<;>rw[e]<;>simp
 have hold:∀i x,s'.trail[i]?=some x->(s.trail[i]?=some x/\i<s.trail.length/\x≠l/\x.natAbs≠l.natAbs)\/(i=s.trail.length/\x=l):=fun i x hi=>by
  rw[etr]at hi;rcases Nat.lt_trichotomy i s.trail.length with hlt|rfl|hlt
  ·rw[List.getElem?_append_left hlt]at hi
   have hm:=List.mem_of_getElem? hi;exact .inl ⟨hi,hlt,fun e=>z1 (e▸hm),hne x hm⟩
  ·rw[List.getElem?_append_right (Nat.le_refl _)]at hi
   simp at hi;exact .inr ⟨rfl,hi.symm⟩
  ·have:=y2_ hi
   simp at this;omega
 have hget:∀i x,s.trail[i]?=some x->s'.trail[i]?=some x:=fun i x hi=>by
  rw[etr,List.getElem?_append_left (y2_ hi)];exact hi
 refine⟨⟨⟨by rw[evs,y5p_];exact q1,by rw[hs'];simp[PS.setL,q2],by rw[hs'];simp[PS.setL,q3],by rw[hs'];exact q4⟩,by rw[evs];exact h.ok.set l,fun x hx=>?_,fun x=>?_,?_,fun x hx=>?_,fun k m hm=>?_,fun i x hx=>?_⟩,elv⟩
 ·rw[etr]at hx
  rcases List.mem_append.1 hx with hx|hx
  ·exact h.rng x hx
  ·rw[List.mem_singleton.1 hx];exact hl
 ·rw[evs,y7h_ l0 (by omega),etr]
  constructor
  ·intro hx
   split at hx
   ·rename_i e;simp[e]
   ·split at hx
    ·omega
    ·exact List.mem_append.2 (.inl ((h.tr x).1 hx))
  ·intro hx
   rcases List.mem_append.1 hx with hx|hx
   ·rw[if_neg (fun e=>z1 (by rw[<-e];exact hx)),if_neg (fun e=>z2 (by rw[<-e];exact hx))];exact(h.tr x).2 hx
   ·rw[if_pos (List.mem_singleton.1 hx)]
 ·rw[etr]
  exact List.nodup_append.2 ⟨h.nd,by simp,fun x hx y hy e=>by
   rw[List.mem_singleton.1 hy]at e;exact z1 (e▸hx)⟩
 ·rw[etr]at hx;rw[emk]
  rcases List.mem_append.1 hx with hx|hx
  ·rw[elv x (hne x hx)]
   have:=h.lv x hx;omega
  ·rw[List.mem_singleton.1 hx,elvl];omega
 ·have hcase:(s.marks[k]?=some m)\/(k=s.marks.length/\m=(s.trail.length:Int)/\M.length=s.marks.length+1):=by
   rw[emk]at hm;rcases hM with e|e
   ·left;rw[e]at hm;exact hm
   ·rw[e]at hm
    rcases Nat.lt_trichotomy k s.marks.length with hlt|rfl|hlt
    ·left;rwa [List.getElem?_append_left hlt]at hm
    ·right
     rw[List.getElem?_append_right (Nat.le_refl _)]at hm;simp at hm;exact⟨rfl,hm.symm,by rw[e];simp⟩
    ·have:=y2_ hm
     simp at this;omega
  rcases hcase with hm|⟨rfl,rfl,hML⟩
  ·obtain⟨a,h1,⟨w,h2,h4⟩,h3⟩:=h.mks k m hm
   have:=y2_ hm;refine⟨a,h1,⟨w,hget _ _ h2,by rw[elv w (hne w (List.mem_of_getElem? h2))];exact h4⟩,fun i x hx=>?_⟩;rcases hold i x hx with ⟨g1,g2,g3,g4⟩|⟨rfl,rfl⟩
   ·rw[elv x g4];exact h3 i x g1
   ·rw[elvl]
    have:=y2_ h2;omega
  ·refine⟨s.trail.length,rfl,⟨l,by rw[etr];simp,by rw[elvl,hML];simp⟩,fun i x hx=>?_⟩
   rcases hold i x hx with ⟨g1,g2,g3,g4⟩|⟨rfl,rfl⟩
   ·rw[elv x g4]
    have:=h.lv x (List.mem_of_getElem? g1);omega
   ·rw[elvl,hML];omega
 ·rcases hold i x hx with ⟨g1,g2,g3,g4⟩|⟨rfl,rfl⟩
  ·rcases h.rs i x g1 with ⟨h1,k',h2,h3⟩|⟨id,c,f,h1,h2,h3,h4⟩
   ·refine .inl ⟨by rw[ere x g4];exact h1,k',by rw[elv x g4];exact h2,?_⟩
    rw[emk];rcases hM with e|e
    ·rw[e];exact h3
    ·rw[e,List.getElem?_append_left (y2_ h3)];exact h3
   ·refine .inr ⟨id,c,f,by rw[ere x g4];exact h1,by rw[ecl];exact h2,h3,fun y hy hne=>?_⟩
    obtain⟨j,hj,g⟩:=h4 y hy hne;exact⟨j,hj,hget _ _ g⟩
  ·exact hr
theorem TrI.dec(h:TrI n s)(hl:isL l n=true)(hv:val s.vs l=0):TrI n (s.dec l):=by
 have q2:=h.len.lev;have q3:=h.len.rea;have:=ye_ hl;refine(h.push _ (.inr rfl) hl hv (r:=-1) rfl (.inl ⟨?_,s.marks.length,?_,?_⟩)).1
 ·simp only[PS.re,PS.setL];rw[getD_set' (by omega),if_pos rfl]
 ·simp only[PS.lv,PS.setL];rw[getD_set' (by omega),if_pos rfl];simp
 ·simp[PS.setL]
theorem TrI.set(h:TrI n s){id:Nat}{c:List Int}{f:Bool}(hc:s.cls[id]?=some (c,true,f))(hlc:l∈c)(hl:isL l n=true)(hv:val s.vs l=0)(hf:∀x∈c,x≠l->val s.vs x=2):TrI n (s.setL l id):=by
 have q2:=h.len.lev;have q3:=h.len.rea;have:=ye_ hl;refine(h.push s.marks (.inl rfl) hl hv (r:=id) rfl (.inr ⟨id,c,f,?_,hc,hlc,fun x hx hne=>?_⟩)).1
 ·simp only[PS.re,PS.setL];rw[getD_set' (by omega),if_pos rfl]
 ·obtain⟨j,hj⟩:=yb_ (h.neg.1 (hf x hx hne))
  exact⟨j,y2_ hj,by simp only[PS.setL];rw[List.getElem?_append_left (y2_ hj)];exact hj⟩
theorem y7k_(h:TrI n s)(hl:isL l n=true)(hv:val s.vs l=0){r:Int}:(∀x∈s.trail,(s.setL l r).lv x=s.lv x)/\(s.setL l r).lv l=s.marks.length:=by
 obtain⟨l0,ln⟩:=ye_ hl;have q2:=h.len.lev;obtain⟨z1,z2⟩:=h.zero.1 hv;refine⟨fun x hx=>?_,?_⟩
 ·simp only[PS.lv,PS.setL]
  rw[getD_set' (by omega),if_neg fun e=>?_];rcases Int.natAbs_eq_natAbs_iff.1 e with e|e
  ·exact z1 (e▸hx)
  ·exact z2 (e▸hx)
 ·simp only[PS.lv,PS.setL]
  rw[getD_set' (by omega),if_pos rfl]
end
end
section
open Go
def PS.rank(s:PS)(l:Int):Int:=if val s.vs l=2 then s.lv l else s.marks.length+1
structure LoI(s:PS)(P:List Int):Prop where
 nd:(P++s.loose).Nodup
 fl:∀x∈P++s.loose,∃(id:Nat) (c:List Int) (b:Bool),x=id/\s.cls[id]?=some (c,b,true)
 lf:∀(id:Nat) c b,s.cls[id]?=some (c,b,true)->(id:Int)∈P++s.loose
def WaI(s:PS)(P:Int->Int->Prop):Prop:=∀(id:Nat) c f,s.cls[id]?=some (c,true,f)->2<=c.length->∀i x,i<2->c[i]?=some x->(id:Int)∈s.wat.getD (wAt x) []\/P x id
def WaE(s:PS)(e:Int):Prop:=∃(id:Nat) (c:List Int) (b f:Bool),e=id/\s.cls[id]?=some (c,b,f)/\(b=true->2<=c.length)
def WaR(s:PS):Prop:=∀w∈s.wat,∀e∈w,WaE s e
structure JuC(s:PS)(h:Nat)(c:List Int):Prop where
 ne:c≠[]
 one:∀x,c=[x]->x∈s.trail/\s.lv x=0
 two:∀i x y,i<2->c[i]?=some x->c[1-i]?=some y->(∃j,j<h/\s.trail[j]?=some (-x))->y∈s.trail/\s.lv y<=s.lv x
def JuI(s:PS)(h:Nat):Prop:=∀(id:Nat) c,s.cls[id]?=some (c,true,false)->JuC s h c
def PS.ent(s:PS):Nat:=(s.wat.map List.length).sum
structure PEx(s s':PS):Prop where
 ceq:CEq s s'
 tr:∃e,s'.trail=s.trail++e
 lv:∀x∈s.trail,s'.lv x=s.lv x
 mks:s'.marks=s.marks
theorem PEx.refl(s:PS):PEx s s:=⟨CEq.refl s,⟨[],by simp⟩,fun _ _=>rfl,rfl⟩
theorem PEx.trans{s1 s2 s3:PS}(h:PEx s1 s2)(k:PEx s2 s3):PEx s1 s3:=by
 obtain⟨e,he⟩:=h.tr;obtain⟨d,hd⟩:=k.tr;exact⟨h.ceq.trans k.ceq,⟨e++d,by rw[hd,he,List.append_assoc]⟩,fun x hx=>by rw[k.lv x (by rw[he];simp[hx]),h.lv x hx],k.mks.trans h.mks⟩
theorem ya1_{x l:Int}(h:wAt x=wAt l):x=l:=by
 unfold wAt at h
 split at h<;>split at h<;>omega
theorem y5b_{l:Int}{n:Nat}(h:isL l n=true):wAt l<2*(n+1):=by
 have:=yi_.1 h;unfold wAt
 split<;>omega
section
variable{n h id:Nat}{s s':PS}{l x y e:Int}{c:List Int}{P:Int->Int->Prop}
theorem PEx.mem(E:PEx s s')(hx:x∈s.trail):x∈s'.trail:=by
 obtain⟨e,he⟩:=E.tr;rw[he];simp[hx]
theorem PEx.get(E:PEx s s'){i:Nat}(hx:s.trail[i]?=some x):s'.trail[i]?=some x:=by
 obtain⟨e,he⟩:=E.tr;rw[he,List.getElem?_append_left (y2_ hx)];exact hx
theorem PEx.got(E:PEx s s'){i:Nat}(hi:i<s.trail.length)(hx:s'.trail[i]?=some x):s.trail[i]?=some x:=by
 obtain⟨e,he⟩:=E.tr
 rwa [he,List.getElem?_append_left hi]at hx
theorem PEx.lenT(E:PEx s s'):s.trail.length<=s'.trail.length:=by
 obtain⟨e,he⟩:=E.tr;rw[he];simp
theorem PEx.setL(h:TrI n s)(hl:isL l n=true)(hv:val s.vs l=0)(r:Int):PEx s (s.setL l r):=⟨⟨rfl,(CEq.refl s).2⟩,⟨[l],rfl⟩,(y7k_ h hl hv).1,rfl⟩
theorem PEx.same(k:CEq s s')(e2:s'.lev=s.lev)(e4:s'.trail=s.trail)(e5:s'.marks=s.marks):PEx s s':=⟨k,⟨[],by simp[e4]⟩,fun x _=>by simp[PS.lv,e2],e5⟩
theorem JuC.ext(hc:JuC s h c)(E:PEx s s')(hh:h<=s.trail.length):JuC s' h c:=⟨hc.ne,fun x hx=>by
 obtain⟨h1,h2⟩:=hc.one x hx;exact⟨E.mem h1,by rw[E.lv x h1];exact h2⟩,fun i x y hi h1 h2 ⟨j,hj,h3⟩=>by
 have h4:=E.got (by omega) h3;obtain⟨h5,h6⟩:=hc.two i x y hi h1 h2 ⟨j,hj,h4⟩;have h7:=E.lv (-x) (List.mem_of_getElem? h4);rw[PS.lv_neg,PS.lv_neg]at h7;exact⟨E.mem h5,by rw[E.lv y h5,h7];exact h6⟩⟩
theorem JuI.upd(hJ:JuI s h)(E:PEx s s')(hh:h<=s.trail.length)(ho:∀j,j≠id->s'.cls[j]?=s.cls[j]?)(hi:∀c,s'.cls[id]?=some (c,true,false)->JuC s' h c):JuI s' h:=fun j c hc=>by
 by_cases e:j=id
 ·subst e;exact hi c hc
 ·rw[ho j e]at hc
  exact(hJ j c hc).ext E hh
theorem WaI.upd(hW:WaI s P){P':Int->Int->Prop}(ho:∀j,j≠id->s'.cls[j]?=s.cls[j]?)(hw:∀x e,e∈s.wat.getD (wAt x) []->e∈s'.wat.getD (wAt x) [])(hP:∀x (j:Nat),j≠id->P x j->(j:Int)∈s'.wat.getD (wAt x) []\/P' x j)
  (hi:∀c f,s'.cls[id]?=some (c,true,f)->2<=c.length->∀i x,i<2->c[i]?=some x->(id:Int)∈s'.wat.getD (wAt x) []\/P' x id):WaI s' P':=fun j c f hc hl i x hi2 hx=>by
 by_cases e:j=id
 ·subst e;exact hi c f hc hl i x hi2 hx
 ·rw[ho j e]at hc
  rcases hW j c f hc hl i x hi2 hx with h1|h1
  ·exact .inl (hw _ _ h1)
  ·exact hP x j e h1
theorem y85_{α:Type}{xs:List (List α)}{i:Nat}{a:α}(h:a∈xs.getD i []):xs.getD i []∈xs:=by
 rw[List.getD_eq_getElem?_getD]at h⊢;cases hx:xs[i]? with
 |none=>rw[hx]at h;cases h
 |some w=>exact List.mem_of_getElem? hx
theorem y4z_(hl:wAt l<s.wat.length):e∈(s.watch l id).wat.getD (wAt x) []↔e∈s.wat.getD (wAt x) []\/(x=l/\e=id):=by
 simp only[PS.watch];rw[getD_set' hl];by_cases k:x=l
 ·subst k;simp
 ·rw[if_neg fun q=>k (ya1_ q)];simp[k]
theorem y7i_{ws:List (List Int)}{i:Nat}{w:List Int}(hi:i<ws.length):((ws.set i w).map List.length).sum+(ws.getD i []).length=(ws.map List.length).sum+w.length:=by
 induction ws generalizing i with
 |nil=>simp at hi
 | cons a t ih=>
  cases i with
  |zero=>simp;omega
  |succ i=>
   have:=ih (i:=i) (by simpa using hi);simp at this⊢;omega
theorem ya5_(hl:wAt l<s.wat.length):(s.watch l id).ent=s.ent+1:=by
 have:=y7i_ (w:=s.wat.getD (wAt l) []++[(id:Int)]) hl;simp only[PS.ent,PS.watch];simp at this⊢;omega
theorem y6r_{w:List Int}(hw:w∈s.wat):w.length<=s.ent:=by
 unfold PS.ent;generalize s.wat=ws at hw
 induction ws with
 |nil=>cases hw
 | cons a t ih=>
  rcases List.mem_cons.1 hw with rfl|hw
  ·simp
  ·have:=ih hw
   simp;omega
theorem WaE.ceq(h:WaE s e)(k:CEq s s'):WaE s' e:=by
 obtain⟨id,c,b,f,h1,h2,h3⟩:=h;obtain⟨c',f',h4,p⟩:=k.get h2;exact⟨id,c',b,f',h1,h4,fun hb=>by rw[p.length_eq];exact h3 hb⟩
theorem WaR.watch(hR:WaR s)(hi:WaE s id):WaR (s.watch l id):=fun w hw e he=>by
 have key:WaE s e:=by
  simp only[PS.watch]at hw;rcases List.mem_or_eq_of_mem_set hw with hw|rfl
  ·exact hR w hw e he
  ·rcases List.mem_append.1 he with he|he
   ·exact hR _ (y85_ he) e he
   ·rw[List.mem_singleton.1 he];exact hi
 exact key
def swapL(c:List Int)(i j:Nat):List Int:=(c.set i (c.getD j 0)).set j (c.getD i 0)
theorem y17_{i j:Nat}(hi:i<c.length)(hj:j<c.length):(swapL c i j).Perm c:=by
 have h1:=Array.swap_perm (xs:=c.toArray) (i:=i) (j:=j) (by simpa using hi) (by simpa using hj);have h2:=h1.toList;rw[Array.toList_swap]at h2;unfold swapL;rw[List.getD_eq_getElem?_getD,List.getD_eq_getElem?_getD,List.getElem?_eq_getElem hi,List.getElem?_eq_getElem hj];simpa using h2
theorem y2p_{i j:Nat}:(swapL c i j).length=c.length:=by simp[swapL]
theorem yw_{i j k:Nat}(hi:i<c.length)(hj:j<c.length):(swapL c i j)[k]?=if k=j then c[i]? else if k=i then c[j]? else c[k]?:=by
 have h1:c.getD i 0=c[i]:=by rw[List.getD_eq_getElem?_getD,List.getElem?_eq_getElem hi];rfl
 have h2:c.getD j 0=c[j]:=by rw[List.getD_eq_getElem?_getD,List.getElem?_eq_getElem hj];rfl
 unfold swapL;rw[h1,h2,List.getElem?_set,List.getElem?_set];by_cases e:k=j
 ·subst e
  rw[if_pos rfl,if_pos rfl,if_pos (by simpa using hj),List.getElem?_eq_getElem hi]
 ·rw[if_neg e,if_neg (c:=j=k) fun h=>e h.symm]
  by_cases e2:k=i
  ·subst e2
   rw[if_pos rfl,if_pos rfl,if_pos hi,List.getElem?_eq_getElem hj]
  ·rw[if_neg e2,if_neg (c:=i=k) fun h=>e2 h.symm]
end
end
section
open Go
structure WaX(s s1:PS)(id:Nat)(nw:List Int):Prop where
 eq:s1={ s with wat:=s1.wat }
 len:s1.wat.length=s.wat.length
 mem:∀x e,e∈s1.wat.getD (wAt x) []↔e∈s.wat.getD (wAt x) []\/(x∈nw/\e=id)
 ent:s1.ent=s.ent+nw.length
 wr:(nw≠[]->WaE s id)->WaR s->WaR s1
def Bst(s:PS)(c:List Int):Prop:=∀i j x y,i<2->i<=j->c[i]?=some x->c[j]?=some y->s.rank y<=s.rank x
section
variable{n id:Nat}{s s0 s1 s':PS}{l x y e out:Int}{c c' nw P:List Int}{b f g:Bool}
theorem WaX.refl(s:PS)(id:Nat):WaX s s id []:=⟨rfl,rfl,by simp,by simp,fun _ h=>h⟩
theorem WaX.watch(h:WaX s s1 id nw)(hl:wAt l<s.wat.length):WaX s (s1.watch l id) id (nw++[l]):=by
 have hl1:wAt l<s1.wat.length:=by rw[h.len];exact hl
 have hc:s1.cls=s.cls:=by rw[h.eq]
 refine⟨?_,?_,fun x e=>?_,?_,fun hi hR=>?_⟩
 ·have:=h.eq
  rw[PS.watch,this]
 ·simp[PS.watch,h.len]
 ·rw[y4z_ hl1,h.mem];simp[or_assoc,or_and_right]
 ·rw[ya5_ hl1,h.ent];simp;omega
 ·have hi:=hi (by simp)
  exact(h.wr (fun _=>hi) hR).watch (by obtain⟨id,c,b,f,h1,h2,h3⟩:=hi;exact⟨id,c,b,f,h1,by rw[hc];exact h2,h3⟩)
structure AgI(n:Nat)(s0 s:PS)(P:List Int)(out:Int):Prop where
 ti:TrI n s
 ci:ClI n s
 li:LoI s P
 wi:WaI s fun _ _=>False
 wr:WaR s
 hd:s.head=s0.head
 ji:∀h:Nat,s0.head=h->h<=s0.trail.length/\JuI s h
 ex:PEx s0 s
 en:s.ent+2*(P.length+s.loose.length)<=s0.ent+2*s0.loose.length+(if out = -1 then 0 else 2)
 o1:out = -1->s.loose=[]
 o2:out≠-1->s.marks=[]/\∃(id:Nat) (c:List Int) (f:Bool),out=id/\s.cls[id]?=some (c,true,f)/\∀x∈c,val s.vs x=2
def Ready(s:PS)(id:Nat):Prop:=∃c f,s.cls[id]?=some (c,true,f)/\∃l∈c,val s.vs l=0/\(∀x∈c,x≠l->val s.vs x=2)/\(2<=c.length->∃x∈c,x≠l/\s.lv x=s.marks.length)/\(c.length=1->s.marks=[])
theorem TrI.rank_le(h:TrI n s)(hx:val s.vs x=2):s.rank x=s.lv x/\0<=s.lv x/\s.lv x<=s.marks.length:=by
 have:=h.lv (-x) (h.neg.1 hx);rw[PS.lv_neg]at this;exact⟨by simp[PS.rank,hx],this⟩
theorem ybp_(hx:val s.vs x≠2):s.rank x=s.marks.length+1:=by simp[PS.rank,hx]
structure AnI(s s1:PS)(id:Nat)(c c' nw:List Int):Prop where
 hc:s.cls[id]?=some (c,true,true)
 pm:c'.Perm c
 bst:Bst s c'
 wx:WaX { s with cls:=s.cls.set id (c',true,false) } s1 id nw
 n2:nw≠[]->2<=c.length
 nl:nw.length<=2
 tk:∀x∈c'.take 2,x∈nw\/x∈c.take 2
theorem AnI.ff(h:AnI s s1 id c c' nw):s1.vs=s.vs/\s1.lev=s.lev/\s1.rea=s.rea/\s1.trail=s.trail/\s1.marks=s.marks/\s1.head=s.head/\s1.loose=s.loose/\s1.cls=s.cls.set id (c',true,false)/\s1.wat.length=s.wat.length:=by
 have h1:=h.wx.eq;have h2:=h.wx.len;rw[h1];exact⟨rfl,rfl,rfl,rfl,rfl,rfl,rfl,rfl,h2⟩
theorem AnI.base(h:AnI s s1 id c c' nw)(A:AgI n s0 s ((id:Int)::P) (-1)) :
  TrI n s1/\ClI n s1/\LoI s1 P/\(WaI s1 fun _ _=>False)/\WaR s1/\PEx s s1/\s1.ent<=s.ent+2/\s1.cls[id]?=some (c',true,false)/\(∀j,j≠id->s1.cls[j]?=s.cls[j]?)/\(∀k:Nat,s0.head=k->k<=s.trail.length)/\s.loose=[]/\(id:Int)∉P:=by
 obtain⟨f1,f2,f3,f4,f5,f6,f7,f8,f9⟩:=h.ff;have hlt:=y2_ h.hc;have hE:CEq s s1:=by
  have:=CEq.put (f':=false) h.hc h.pm;exact⟨by rw[f8];simp,fun j a d h1 h2=>this.2 j a d h1 (by rw[f8]at h2;exact h2)⟩
 have hid:s1.cls[id]?=some (c',true,false):=by rw[f8,List.getElem?_set,if_pos rfl,if_pos hlt]
 have hoth:∀j,j≠id->s1.cls[j]?=s.cls[j]?:=fun j hj=>by rw[f8,List.getElem?_set,if_neg fun e=>hj e.symm]
 have hlo:=A.o1 rfl;have hnd:=A.li.nd;rw[hlo,List.append_nil]at hnd;obtain⟨hni,hndP⟩:=List.nodup_cons.1 hnd;have hT:TrI n s1:=A.ti.same hE f1 f2 f3 f4 f5 f9;refine⟨hT,A.ci.ceq hE,⟨by rw[f7,hlo,List.append_nil];exact hndP,fun x hx=>?_,fun j d b hj=>?_⟩,?_,?_,PEx.same hE f2 f4 f5,?_,hid,hoth,fun k hk=>?_,hlo,hni⟩
 ·rw[f7,hlo,List.append_nil]at hx
  obtain⟨j,d,b,e,h2⟩:=A.li.fl x (by simp[hx]);refine⟨j,d,b,e,?_⟩;rw[hoth j fun q=>hni (by rw[<-q,<-e];exact hx)];exact h2
 ·by_cases e:j=id
  ·subst e;rw[hid]at hj;cases hj
  ·rw[hoth j e]at hj
   have:=A.li.lf j d b hj;rw[hlo,List.append_nil]at this;rw[f7,hlo,List.append_nil];rcases List.mem_cons.1 this with q|q
   ·exact absurd (Int.ofNat.inj q) e
   ·exact q
 ·refine A.wi.upd (id:=id) hoth (fun x e he=>(h.wx.mem x e).2 (.inl he)) (fun x j _ q=>q.elim) fun d f hd hl i x hi hx=>?_
  rw[hid]at hd;cases hd;have hx2:x∈c'.take 2:=List.mem_of_getElem? (i:=i) (by rw[List.getElem?_take_of_lt hi];exact hx);rcases h.tk x hx2 with q|q
  ·exact .inl ((h.wx.mem x id).2 (.inr ⟨q,rfl⟩))
  ·obtain⟨k,hk⟩:=yb_ q
   have hk2:k<2:=by have:=y2_ hk;simp at this;omega
   rw[List.getElem?_take_of_lt hk2]at hk;rcases A.wi id c true h.hc (by rw[<-h.pm.length_eq];exact hl) k x hk2 hk with q|q
   ·exact .inl ((h.wx.mem x id).2 (.inl q))
   ·exact q.elim
 ·have hE2:=CEq.put (f':=false) h.hc h.pm
  have hW2:WaR { s with cls:=s.cls.set id (c',true,false) }:=fun w hw e he=>(A.wr w hw e he).ceq hE2;exact h.wx.wr (fun hnw=>⟨id,c',true,false,rfl,by simp[hlt],fun _=>by rw[h.pm.length_eq];exact h.n2 hnw⟩) hW2
 ·have:=h.wx.ent
  have h2:=h.nl;have h3:PS.ent { s with cls:=s.cls.set id (c',true,false) }=s.ent:=rfl;omega
 ·exact Nat.le_trans (A.ji k hk).1 A.ex.lenT
theorem AgI.bad(A:AgI n s0 s ((id:Int)::P) (-1))(h:AnI s s1 id c c' nw)(hm:s.marks=[])(hf:∀x∈c',val s.vs x=2):AgI n s0 (s1.look id) P id:=by
 obtain⟨f1,f2,f3,f4,f5,f6,f7,f8,f9⟩:=h.ff;obtain⟨b1,b2,b3,b4,b5,b6,b7,b8,b9,b10,b11,b12⟩:=h.base A;have hL:s1.look id={ s1 with cls:=s1.cls.set id (c',true,true),loose:=s1.loose++[(id:Int)] }:=by unfold PS.look;rw[b8]
 have hlt:=y2_ b8;have hE:CEq s1 (s1.look id):=by
  have:=CEq.put (f':=true) b8 (.refl c');rw[hL];exact⟨by simp,this.2⟩
 have hid:(s1.look id).cls[id]?=some (c',true,true):=by rw[hL];simp[hlt]
 have hoth:∀j,j≠id->(s1.look id).cls[j]?=s1.cls[j]?:=fun j hj=>by rw[hL];show(s1.cls.set id (c',true,true))[j]?=_;rw[List.getElem?_set,if_neg fun e=>hj e.symm]
 have eloose:(s1.look id).loose=[(id:Int)]:=by rw[hL];simp[f7,b11]
 have hEx:PEx s1 (s1.look id):=PEx.same hE (by rw[hL]) (by rw[hL]) (by rw[hL]);have hJE:=b6.trans hEx;refine⟨b1.same hE (by rw[hL]) (by rw[hL]) (by rw[hL]) (by rw[hL]) (by rw[hL]) (by rw[hL]),b2.ceq hE,⟨?_,fun x hx=>?_,fun j d b hj=>?_⟩,?_,?_,?_,fun k hk=>⟨(A.ji k hk).1,?_⟩,A.ex.trans hJE,?_,fun e=>by omega,fun _=>⟨?_,id,c',true,rfl,hid,?_⟩⟩
 ·rw[eloose]
  have:=A.li.nd;rw[b11,List.append_nil]at this;exact List.nodup_append.2 ⟨(List.nodup_cons.1 this).2,by simp,fun x hx y hy e=>b12 (by rw[List.mem_singleton.1 hy]at e;rw[<-e];exact hx)⟩
 ·rw[eloose]at hx
  rcases List.mem_append.1 hx with hx|hx
  ·obtain⟨j,d,b,e,h2⟩:=b3.fl x (by simp[hx])
   exact⟨j,d,b,e,by rw[hoth j fun q=>b12 (by rw[<-q,<-e];exact hx)];exact h2⟩
  ·exact⟨id,c',true,List.mem_singleton.1 hx,hid⟩
 ·rw[eloose]
  by_cases e:j=id
  ·subst e;simp
  ·rw[hoth j e]at hj
   have:=b3.lf j d b hj;rw[f7,b11,List.append_nil]at this;simp[this]
 ·refine b4.upd (id:=id) hoth (fun x e he=>by rw[hL];exact he) (fun _ _ _ q=>q.elim) fun d f hd hl i x hi hx=>?_
  rw[hid]at hd;cases hd;rcases b4 id c' false b8 hl i x hi hx with q|q
  ·left;rw[hL];exact q
  ·exact q.elim
 ·intro w hw e he
  rw[hL]at hw;exact(b5 w hw e he).ceq hE
 ·rw[hL];show s1.head=_;rw[f6];exact A.hd
 ·refine(A.ji k hk).2.upd (id:=id) hJE (b10 k hk) (fun j hj=>by rw[hoth j hj,b9 j hj]) fun d hd=>?_
  rw[hid]at hd;cases hd
 ·have h1:=A.en
  have h2:(s1.look id).ent=s1.ent:=by rw[hL];rfl
  rw[eloose,h2,if_neg (by omega)];rw[if_pos rfl,b11]at h1;simp at h1⊢;omega
 ·rw[hL];show s1.marks=[];rw[f5];exact hm
 ·intro x hx
  rw[hL];show val s1.vs x=2;rw[f1];exact hf x hx
theorem AgI.good(A:AgI n s0 s ((id:Int)::P) (-1))(h:AnI s s1 id c c' nw)(E:PEx s1 s')(ht:TrI n s')(e1:s'.cls=s1.cls)(e2:s'.wat=s1.wat)(e3:s'.head=s1.head)(e4:s'.loose=s1.loose)(hJ:∀k:Nat,k<=s.trail.length->JuC s' k c'):AgI n s0 s' P (-1):=by
 obtain⟨f1,f2,f3,f4,f5,f6,f7,f8,f9⟩:=h.ff;obtain⟨b1,b2,b3,b4,b5,b6,b7,b8,b9,b10,b11,b12⟩:=h.base A;refine⟨ht,fun j d f hd=>b2 j d f (by rw[<-e1];exact hd),⟨by rw[e4];exact b3.nd,fun x hx=>?_,fun j d b hj=>?_⟩,?_,?_,by rw[e3,f6];exact A.hd,fun k hk=>⟨(A.ji k hk).1,?_⟩,A.ex.trans (b6.trans E),?_,fun _=>by rw[e4,f7];exact b11,fun q=>absurd rfl q⟩
 ·rw[e4]at hx;rw[e1];exact b3.fl x hx
 ·rw[e1]at hj;rw[e4];exact b3.lf j d b hj
 ·intro j d f hd hl i x hi hx
  rw[e1]at hd;rw[e2];exact b4 j d f hd hl i x hi hx
 ·intro w hw e he
  rw[e2]at hw;obtain⟨j,d,b,g,h1,h2,h3⟩:=b5 w hw e he;exact⟨j,d,b,g,h1,by rw[e1];exact h2,h3⟩
 ·refine(A.ji k hk).2.upd (id:=id) (b6.trans E) (b10 k hk) (fun j hj=>by rw[e1,b9 j hj]) fun d hd=>?_
  rw[e1,b8]at hd;cases hd;exact hJ k (b10 k hk)
 ·have h1:=A.en
  have h2:s'.ent=s1.ent:=by simp only[PS.ent,e2]
  rw[e4,f7,b11,h2,if_pos rfl];rw[if_pos rfl,b11]at h1;simp at h1⊢;omega
end
end
section
open Go
structure PrI(n:Nat)(s:PS):Prop where
 ti:TrI n s
 ci:ClI n s
 li:LoI s []
 lo:s.loose=[]
 wi:WaI s fun _ _=>False
 wr:WaR s
 hd:∃h:Nat,s.head=h/\h<=s.trail.length/\(∀m∈s.marks,m<=(h:Int))/\JuI s h
structure FaI(n:Nat)(s0 s:PS)(h:Nat)(f:Int)(stay R:List Int)(out:Int):Prop where
 ti:TrI n s
 ci:ClI n s
 li:LoI s []
 lo:s.loose=[]
 wi:WaI s fun x id=>x=f/\id∈stay++R
 wr:WaR s
 sr:∀e∈stay++R,WaE s e
 hd:s.head=s0.head
 fh:s.trail[h]?=some (-f)
 fl:s.lv f=s.marks.length
 ji:JuI s h
 ki:out = -1->∀(id:Nat) c fl,s.cls[id]?=some (c,true,fl)->∀i y,i<2->c[i]?=some f->c[1-i]?=some y->(id:Int)∈R\/(y∈s.trail/\s.lv y<=s.lv f)
 o2:out≠-1->∃(id:Nat) (c:List Int) (fl:Bool),out=id/\s.cls[id]?=some (c,true,fl)/\f∈c/\∀x∈c,val s.vs x=2
 ex:PEx s0 s
 en:s.ent+stay.length+R.length<=s0.ent
section
variable{n id h:Nat}{s s0 s':PS}{l x y z e f out out':Int}{c c' stay stay' R:List Int}{b fl:Bool}
theorem LoI.flag(h:LoI s [])(hl:s.loose=[])(hc:s.cls[id]?=some (c,b,fl)):fl=false:=by
 cases fl with
 |false=>rfl
 |true=>have:=h.lf id c b hc;rw[hl]at this;cases this
theorem FaI.fv(A:FaI n s0 s h f stay R out):val s.vs f=2:=A.ti.neg.2 (List.mem_of_getElem? A.fh)
theorem FaI.start(A:PrI n s)(hh:s.head=(h:Int))(hf:s.trail[h]?=some (-f))(hb:wAt f<s.wat.length):FaI n s { s with wat:=s.wat.set (wAt f) [] } h f [] (s.wat.getD (wAt f) []) (-1):=by
 obtain⟨k,e1,e2,e3,e4⟩:=A.hd;have e5:k=h:=by omega
 subst e5;have hE:CEq s { s with wat:=s.wat.set (wAt f) [] }:=⟨rfl,(CEq.refl s).2⟩;have hlv:=A.ti.lv _ (List.mem_of_getElem? hf);have hlf:s.lv f=s.marks.length:=by
  rw[PS.lv_neg]at hlv;by_cases hm:s.marks.length=0
  ·omega
  ·obtain⟨m,hm2⟩:=y3_ (xs:=s.marks) (i:=s.marks.length-1) (by omega)
   obtain⟨a,g1,_,g3⟩:=A.ti.mks _ m hm2;have:=e3 m (List.mem_of_getElem? hm2);have:=(g3 k _ hf).1 (by omega);rw[PS.lv_neg]at this;omega
 have hmem:∀x e,e∈(s.wat.set (wAt f) ([]:List Int)).getD (wAt x) []↔e∈s.wat.getD (wAt x) []/\x≠f:=fun x e=>by
  rw[getD_set' hb];by_cases q:x=f
  ·subst q;simp
  ·rw[if_neg fun w=>q (ya1_ w)];simp[q]
 refine⟨A.ti.same hE rfl rfl rfl rfl rfl (by simp),A.ci.ceq hE,⟨A.li.nd,A.li.fl,A.li.lf⟩,A.lo,?_,fun w hw e he=>?_,fun e he=>?_,rfl,hf,hlf,fun j d hd=>?_,fun _ j d g hd i y hi h1 h2=>?_,fun q=>absurd rfl q,PEx.same hE rfl rfl rfl,?_⟩
 ·intro j d g hd hl i x hi hx
  rcases A.wi j d g hd hl i x hi hx with q|q
  ·by_cases e:x=f
   ·subst e;exact .inr ⟨rfl,by simpa using q⟩
   ·exact .inl ((hmem x j).2 ⟨q,e⟩)
  ·exact q.elim
 ·have key:WaE s e:=by
   rcases List.mem_or_eq_of_mem_set hw with hw|rfl
   ·exact A.wr w hw e he
   ·cases he
  exact key
 ·exact A.wr _ (y85_ (by simpa using he)) e (by simpa using he)
 ·exact(e4 j d hd).ext (PEx.same hE rfl rfl rfl) e2
 ·have hl2:2<=d.length:=by have:=y2_ h1;have:=y2_ h2;omega
  rcases A.wi j d g hd hl2 i f hi h1 with q|q
  ·exact .inl q
  ·exact q.elim
 ·have:=y7i_ (w:=[]) hb
  simp only[PS.ent];simp at this⊢;omega
theorem FaI.skip(A:FaI n s0 s h f stay ((id:Int)::R) (-1))(hs:∀c fl,s.cls[id]?=some (c,true,fl)->∀i,i<2->c[i]?≠some f):FaI n s0 s h f stay R (-1):=by
 refine⟨A.ti,A.ci,A.li,A.lo,fun j d g hd hl i x hi hx=>?_,A.wr,fun e he=>A.sr e (by simp at he⊢;rcases he with q|q<;>simp[q]),A.hd,A.fh,A.fl,A.ji,fun q j d g hd i y hi h1 h2=>?_,A.o2,A.ex,by have:=A.en;simp at this;omega⟩
 ·rcases A.wi j d g hd hl i x hi hx with q|⟨q1,q2⟩
  ·exact .inl q
  ·subst q1
   by_cases e:j=id
   ·subst e;exact absurd hx (hs d g hd i hi)
   ·right;refine⟨rfl,?_⟩
    simp at q2⊢;rcases q2 with q|q|q
    ·exact .inl q
    ·exact absurd q (by omega)
    ·exact .inr q
 ·rcases A.ki q j d g hd i y hi h1 h2 with w|w
  ·rcases List.mem_cons.1 w with w|w
   ·have:j=id:=Int.ofNat.inj w
    subst this;exact absurd h1 (hs d g hd i hi)
   ·exact .inl w
  ·exact .inr w
theorem FaI.upd(A:FaI n s0 s h f stay ((id:Int)::R) (-1))(hc:s.cls[id]?=some (c,true,false))(hp:c'.Perm c)(E:PEx s s')(ht:TrI n s')(e1:s'.cls=s.cls.set id (c',true,false))(e2:s'.loose=s.loose)(e3:s'.head=s.head)
  (hw:∀x e,e∈s.wat.getD (wAt x) []->e∈s'.wat.getD (wAt x) []) (hr:WaR s') (hst:stay'=stay\/stay'=stay++[(id:Int)])
  (hwi:∀i x,i<2->c'[i]?=some x->(id:Int)∈s'.wat.getD (wAt x) []\/(x=f/\(id:Int)∈stay')) (hJ:JuC s' h c')
  (hki:out' = -1->∀i y,i<2->c'[i]?=some f->c'[1-i]?=some y->y∈s'.trail/\s'.lv y<=s'.lv f) (hen:s'.ent+stay'.length<=s.ent+stay.length+1)
  (ho:out'≠-1->out'=id/\f∈c'/\∀x∈c',val s'.vs x=2):FaI n s0 s' h f stay' R out':=by
 have hlt:=y2_ hc;have hE:=E.ceq;have hid:s'.cls[id]?=some (c',true,false):=by rw[e1,List.getElem?_set,if_pos rfl,if_pos hlt]
 have hoth:∀j,j≠id->s'.cls[j]?=s.cls[j]?:=fun j hj=>by rw[e1,List.getElem?_set,if_neg fun e=>hj e.symm]
 have hlv:s'.lv f=s.lv f:=by
  have:=E.lv _ (List.mem_of_getElem? A.fh)
  rwa [PS.lv_neg,PS.lv_neg]at this
 have hss:∀e,e∈stay->e∈stay':=fun e he=>by rcases hst with q|q<;>rw[q]<;>simp[he]
 refine⟨ht,A.ci.ceq hE,⟨by rw[e2,A.lo];simp,fun x hx=>(by rw[e2,A.lo]at hx;cases hx),fun j d g hd=>?_⟩,(by rw[e2];exact A.lo),?_,hr,fun e he=>?_,by rw[e3];exact A.hd,E.get A.fh,by rw[hlv,E.mks];exact A.fl,A.ji.upd (id:=id) E (Nat.le_of_lt (y2_ A.fh)) hoth (fun d hd=>by rw[hid]at hd;cases hd;exact hJ),fun q j d g hd i y hi h1 h2=>?_,fun q=>?_,A.ex.trans E,by have:=A.en;simp at this;omega⟩
 ·by_cases e:j=id
  ·subst e;rw[hid]at hd;cases hd
  ·rw[hoth j e]at hd
   have:=A.li.flag A.lo hd;cases this
 ·refine A.wi.upd (id:=id) hoth hw (fun x j hj ⟨q1,q2⟩=>.inr ⟨q1,?_⟩) fun d g hd hl i x hi hx=>?_
  ·simp at q2⊢
   rcases q2 with q|q|q
   ·exact .inl (hss _ q)
   ·exact absurd q (by omega)
   ·exact .inr q
  ·rw[hid]at hd;cases hd
   rcases hwi i x hi hx with q|⟨q1,q2⟩
   ·exact .inl q
   ·exact .inr ⟨q1,by simp[q2]⟩
 ·refine(A.sr e ?_).ceq hE
  simp at he⊢;rcases he with q|q
  ·rcases hst with w|w<;>rw[w]at q
   ·exact .inl q
   ·simp at q
    rcases q with q|q
    ·exact .inl q
    ·exact .inr (.inl q)
  ·exact .inr (.inr q)
 ·by_cases e:j=id
  ·subst e;rw[hid]at hd;cases hd;exact .inr (hki q i y hi h1 h2)
  ·rw[hoth j e]at hd
   rcases A.ki rfl j d g hd i y hi h1 h2 with w|⟨w1,w2⟩
   ·rcases List.mem_cons.1 w with w|w
    ·exact absurd (Int.ofNat.inj w) e
    ·exact .inl w
   ·exact .inr ⟨E.mem w1,by rw[E.lv y w1,hlv];exact w2⟩
 ·obtain⟨h1,h2,h3⟩:=ho q
  exact⟨id,c',false,h1,hid,h2,h3⟩
theorem FaI.rest(A:FaI n s0 s h f stay (e::R) out)(ho:out≠-1):FaI n s0 s h f (stay++[e]) R out:=by
 have q:(stay++[e])++R=stay++e::R:=by simp
 exact⟨A.ti,A.ci,A.li,A.lo,by rw[q];exact A.wi,A.wr,by rw[q];exact A.sr,A.hd,A.fh,A.fl,A.ji,fun w=>absurd w ho,A.o2,A.ex,by have:=A.en;simp at this⊢;omega⟩
theorem FaI.fin(A:FaI n s0 s h f stay [] out)(h0:PrI n s0)(hh:s0.head=(h:Int))(hb:wAt f<s.wat.length)(hs:s'={ s with wat:=s.wat.set (wAt f) (stay++s.wat.getD (wAt f) []) }) :
  (out = -1->PrI n { s' with head:=(h:Int)+1 })/\(out≠-1->PrI n s'/\∃(id:Nat) (c:List Int) (fl:Bool),out=id/\s'.cls[id]?=some (c,true,fl)/\(∀x∈c,val s'.vs x=2)/\∃x∈c,s'.lv x=s'.marks.length)/\PEx s0 s'/\s'.ent<=s0.ent:=by
 have hE:CEq s s':=by rw[hs];exact⟨rfl,(CEq.refl s).2⟩
 have hEx:PEx s s':=PEx.same hE (by rw[hs]) (by rw[hs]) (by rw[hs]);have hT:TrI n s':=A.ti.same hE (by rw[hs]) (by rw[hs]) (by rw[hs]) (by rw[hs]) (by rw[hs]) (by rw[hs];simp);have hmem:∀x e,e∈s'.wat.getD (wAt x) []↔e∈s.wat.getD (wAt x) []\/(x=f/\e∈stay):=fun x e=>by
  rw[hs];dsimp only;rw[getD_set' hb];by_cases q:x=f
  ·subst q;simp[or_comm]
  ·rw[if_neg fun w=>q (ya1_ w)];simp[q]
 have hL:LoI s' []:=by rw[hs];exact⟨A.li.nd,A.li.fl,A.li.lf⟩
 have hlo:s'.loose=[]:=by rw[hs];exact A.lo
 have hW:WaI s' fun _ _=>False:=fun j d g hd hl i x hi hx=>by
  have hd':s.cls[j]?=some (d,true,g):=by rw[hs]at hd;exact hd
  rcases A.wi j d g hd' hl i x hi hx with q|⟨q1,q2⟩
  ·exact .inl ((hmem x j).2 (.inl q))
  ·exact .inl ((hmem x j).2 (.inr ⟨q1,by simpa using q2⟩))
 have hR:WaR s':=fun w hw e he=>by
  have key:WaE s e:=by
   rw[hs]at hw;rcases List.mem_or_eq_of_mem_set hw with hw|rfl
   ·exact A.wr w hw e he
   ·rcases List.mem_append.1 he with he|he
    ·exact A.sr e (by simp[he])
    ·exact A.wr _ (y85_ he) e he
  exact key.ceq hE
 obtain⟨k,e1,e2,e3,e4⟩:=h0.hd;have hk:k=h:=by omega
 subst hk;have hmk:s'.marks=s0.marks:=(A.ex.trans hEx).mks;have hen:s'.ent<=s0.ent:=by
  have h1:=y7i_ (w:=stay++s.wat.getD (wAt f) []) hb;have h2:=A.en;have h3:s'.ent=((s.wat.set (wAt f) (stay++s.wat.getD (wAt f) [])).map List.length).sum:=by rw[hs];rfl
  simp only[PS.ent]at h2 h3⊢;simp at h1 h2 h3⊢;omega
 have hJ:JuI s' k:=fun j d hd=>by
  have hd':s.cls[j]?=some (d,true,false):=by rw[hs]at hd;exact hd
  exact(A.ji j d hd').ext hEx (Nat.le_of_lt (y2_ A.fh))
 have hlen:=y2_ (hEx.get A.fh);refine⟨fun ho=>?_,fun ho=>⟨⟨hT,A.ci.ceq hE,hL,hlo,hW,hR,k,by rw[hs];show s.head=_;rw[A.hd];exact hh,by omega,by rw[hmk];exact e3,hJ⟩,?_⟩,A.ex.trans hEx,hen⟩
 ·have hE2:CEq s' { s' with head:=(k:Int)+1 }:=⟨rfl,(CEq.refl s').2⟩
  have hEx2:=PEx.same (s:=s') (s':={ s' with head:=(k:Int)+1 }) hE2 rfl rfl rfl;refine⟨hT.same hE2 rfl rfl rfl rfl rfl rfl,(A.ci.ceq hE).ceq hE2,⟨hL.nd,hL.fl,hL.lf⟩,hlo,hW,hR,k+1,by simp,hlen,fun m hm=>?_,fun j d hd=>?_⟩
  ·have:=e3 m (by rw[<-hmk];exact hm)
   omega
  ·have hd2:s'.cls[j]?=some (d,true,false):=hd
   have hd':s.cls[j]?=some (d,true,false):=by rw[hs]at hd2;exact hd2
   have J0:=hJ j d hd2;refine⟨J0.ne,J0.one,fun i x y hi h1 h2 ⟨q,hq1,hq2⟩=>?_⟩;by_cases hqk:q=k
   ·subst hqk
    have h5:=hEx.get A.fh;have hq3:s'.trail[q]?=some (-x):=hq2;rw[h5]at hq3;have hxf:x=f:=by have:=Option.some.inj hq3;omega
    subst hxf;rcases A.ki ho j d false hd' i y hi h1 h2 with w|⟨w1,w2⟩
    ·cases w
    ·have g1:=hEx.mem w1
     have g2:=hEx.lv y w1;have g3:=hEx.lv _ (List.mem_of_getElem? A.fh);rw[PS.lv_neg,PS.lv_neg]at g3;exact⟨g1,by show s'.lv y<=s'.lv x;rw[g2,g3];exact w2⟩
   ·exact J0.two i x y hi h1 h2 ⟨q,by omega,hq2⟩
 ·obtain⟨j,d,g,h1,h2,h3,h4⟩:=A.o2 ho
  obtain⟨d',g',h5,p⟩:=hE.get h2;have g3:=hEx.lv _ (List.mem_of_getElem? A.fh);rw[PS.lv_neg,PS.lv_neg]at g3;exact⟨j,d',g',h1,h5,fun x hx=>by rw[hs];exact h4 x (p.mem_iff.1 hx),f,p.mem_iff.2 h3,by rw[g3,hEx.mks];exact A.fl⟩
end
end
section
open Go
structure StI(n:Nat)(s:PS):Prop where
 ti:TrI n s
 ci:ClI n s
 li:LoI s []
 wi:WaI s fun _ _=>False
 wr:WaR s
 hd:∃h:Nat,s.head=h/\h<=s.trail.length/\(∀m∈s.marks,m<=(h:Int))/\JuI s h
section
variable{n id h k:Nat}{s s0 s1 s':PS}{l x y z e f out:Int}{c c' nw P:List Int}{b fl:Bool}
theorem PrI.si(h:PrI n s):StI n s:=⟨h.ti,h.ci,h.li,h.wi,h.wr,h.hd⟩
theorem StI.pp(h:StI n s)(hl:s.loose=[]):PrI n s:=⟨h.ti,h.ci,h.li,hl,h.wi,h.wr,h.hd⟩
theorem JuC.top(ht:TrI n s)(h2:2<=c.length)(h0:∀i x,i<2->c[i]?=some x->val s.vs x≠2):JuC s k c:=⟨fun e=>by simp[e]at h2,fun x e=>by simp[e]at h2,fun i x y hi hx hy ⟨j,_,hj⟩=>absurd (ht.neg.2 (List.mem_of_getElem? hj)) (h0 i x hi hx)⟩
theorem JuC.sat(ht:TrI n s)(hx:c[0]?=some x)(hm:x∈s.trail)(h1:c.length=1->s.lv x=0)(h2:∀y,c[1]?=some y->s.lv x<=s.lv y):JuC s k c:=by
 refine⟨fun e=>by simp[e]at hx,fun w e=>?_,fun i w y hi hw hy ⟨j,_,hj⟩=>?_⟩
 ·subst e
  simp at hx;subst hx;exact⟨hm,h1 rfl⟩
 ·match i,hi with
  |0,_=>
   have:x=w:=by rw[hx]at hw;exact Option.some.inj hw
   subst this;exact(ht.notBoth hm (List.mem_of_getElem? hj)).elim
  |1,_=>
   have:y=x:=by rw[show(1-1:Nat)=0 from rfl,hx]at hy;exact(Option.some.inj hy).symm
   subst this;exact⟨hm,h2 w hw⟩
theorem JuC.swap(hJ:JuC s k c)(h2:2<=c.length):JuC s k (swapL c 0 1):=by
 have hg:∀i,i<2->(swapL c 0 1)[i]?=c[1-i]?:=fun i hi=>by
  rw[yw_ (by omega) (by omega)]
  match i,hi with
  |0,_=>rfl
  |1,_=>rfl
 refine⟨fun e=>by have:=y2p_ (c:=c) (i:=0) (j:=1);rw[e]at this;simp at this;omega,fun w e=>by have:=y2p_ (c:=c) (i:=0) (j:=1);rw[e]at this;simp at this;omega,fun i x y hi hx hy hj=>?_⟩;rw[hg i hi]at hx;rw[hg (1-i) (by omega)]at hy;exact hJ.two (1-i) x y (by omega) hx hy hj
def PS.unsetL(s:PS)(l:Int):PS:={ s with vs:=s.vs.set l.natAbs 0,lev:=s.lev.set l.natAbs (-1),rea:=s.rea.set l.natAbs (-1) }
def PS.back(s:PS)(k a:Nat):PS:={ (s.trail.drop a).foldl PS.unsetL s with trail:=s.trail.take a,marks:=s.marks.take k,head:=min s.head a }
structure UnX(s s1:PS)(xs:List Int):Prop where
 eq:s1={ s with vs:=s1.vs,lev:=s1.lev,rea:=s1.rea }
 l1:s1.vs.length=s.vs.length
 l2:s1.lev.length=s.lev.length
 l3:s1.rea.length=s.rea.length
 vs:∀v,s1.vs.getD v 0=if v∈xs.map Int.natAbs then 0 else s.vs.getD v 0
 lv:∀v,v∉xs.map Int.natAbs->s1.lev.getD v 0=s.lev.getD v 0
 re:∀v,v∉xs.map Int.natAbs->s1.rea.getD v 0=s.rea.getD v 0
theorem UnX.refl(s:PS):UnX s s []:=⟨rfl,rfl,rfl,rfl,by simp,by simp,by simp⟩
theorem UnX.step{xs:List Int}(h:UnX s s1 xs)(h1:l.natAbs<s.vs.length)(h2:l.natAbs<s.lev.length)(h3:l.natAbs<s.rea.length):UnX s (s1.unsetL l) (xs++[l]):=by
 refine⟨?_,by simp[PS.unsetL,h.l1],by simp[PS.unsetL,h.l2],by simp[PS.unsetL,h.l3],fun v=>?_,fun v hv=>?_,fun v hv=>?_⟩
 ·have:=h.eq
  rw[PS.unsetL,this]
 ·simp only[PS.unsetL]
  rw[getD_set' (by rw[h.l1];exact h1),h.vs v];by_cases e:v=l.natAbs
  ·simp[e]
  ·simp[e]
 ·simp only[PS.unsetL]
  simp only[List.map_append,List.mem_append,not_or]at hv;rw[getD_set' (by rw[h.l2];exact h2),if_neg (fun e=>hv.2 (by simp[e])),h.lv v hv.1]
 ·simp only[PS.unsetL]
  simp only[List.map_append,List.mem_append,not_or]at hv;rw[getD_set' (by rw[h.l3];exact h3),if_neg (fun e=>hv.2 (by simp[e])),h.re v hv.1]
theorem UnX.fold{xs:List Int}(hx:∀l∈xs,l.natAbs<s.vs.length/\l.natAbs<s.lev.length/\l.natAbs<s.rea.length):UnX s (xs.foldl PS.unsetL s) xs:=by
 have:∀ys zs s1,UnX s s1 zs->(∀l∈ys,l.natAbs<s.vs.length/\l.natAbs<s.lev.length/\l.natAbs<s.rea.length)->UnX s (ys.foldl PS.unsetL s1) (zs++ys):=by
  intro ys
  induction ys with
  |nil=>intro zs s1 h _;simpa using h
  |cons a t ih=>
   intro zs s1 h hy;obtain⟨g1,g2,g3⟩:=hy a (by simp);have:=ih (zs++[a]) _ (h.step g1 g2 g3) fun l hl=>hy l (by simp[hl]);simpa using this
 simpa using this xs [] s (UnX.refl s) hx
theorem TrI.in(h:TrI n s)(hl:l∈s.trail):l.natAbs<s.vs.length/\l.natAbs<s.lev.length/\l.natAbs<s.rea.length:=by
 have:=ye_ (h.rng l hl);obtain⟨q1,q2,q3,q4⟩:=h.len;omega
theorem StI.back(S:StI n s){a:Nat}(hm:s.marks[k]?=some (a:Int)):StI n (s.back k a)/\(s.back k a).marks=s.marks.take k/\(s.back k a).trail=s.trail.take a/\(s.back k a).cls=s.cls/\(s.back k a).loose=s.loose/\(s.back k a).wat=s.wat/\(s.back k a).head=a/\a<s.trail.length /\
  (∀x∈s.trail.take a,(s.back k a).lv x=s.lv x)/\(∀x∈s.trail,x∈s.trail.take a↔s.lv x<=k)/\∀x,val (s.back k a).vs x=if x∈s.trail.take a then 1 else if -x∈s.trail.take a then 2 else 0:=by
 have ht:=S.ti;have U:=UnX.fold (s:=s) (xs:=s.trail.drop a) fun l hl=>ht.in (List.mem_of_mem_drop hl);obtain⟨a',e,⟨l0,h0,h0l⟩,hlt⟩:=ht.mks k _ hm;have e:a=a':=by omega
 subst e;have hkm:=y2_ hm;have hal:=y2_ h0;have hdrop:∀x,x∈s.trail.drop a->∃i,a<=i/\s.trail[i]?=some x:=fun x hx=>by
  obtain⟨i,hi⟩:=yb_ hx;exact⟨a+i,by omega,by rw[List.getElem?_drop]at hi;exact hi⟩
 have htake:∀x,x∈s.trail.take a->∃i,i<a/\s.trail[i]?=some x:=fun x hx=>by
  obtain⟨i,hi⟩:=yb_ hx;have:=y2_ hi;have hia:i<a:=by simp at this;omega
  exact⟨i,hia,by rwa [List.getElem?_take_of_lt hia]at hi⟩
 have hnot:∀x,x∈s.trail.take a->x.natAbs∉(s.trail.drop a).map Int.natAbs:=fun x hx hm=>by
  obtain⟨y,hy,e⟩:=List.mem_map.1 hm;obtain⟨i,hi,gi⟩:=htake x hx;obtain⟨j,hj,gj⟩:=hdrop y hy;have:=ht.abs (List.mem_of_getElem? gi) (List.mem_of_getElem? gj) e.symm;subst this;have:=nd_ix ht.nd gi gj;omega
 have hlev:∀x∈s.trail,x∈s.trail.take a↔s.lv x<=k:=fun x hx=>by
  constructor
  ·intro h
   obtain⟨i,hi,gi⟩:=htake x h;have:=hlt i x gi;omega
  ·intro h
   obtain⟨i,gi⟩:=yb_ hx;have:=hlt i x gi;have hia:i<a:=by omega
   exact List.mem_of_getElem? (i:=i) (by rw[List.getElem?_take_of_lt hia];exact gi)
 have hval:∀x,val (s.back k a).vs x=if x∈s.trail.take a then 1 else if -x∈s.trail.take a then 2 else 0:=fun x=>by
  have e1:val (s.back k a).vs x=if x.natAbs∈(s.trail.drop a).map Int.natAbs then 0 else val s.vs x:=by
   have hl1:(s.back k a).vs.length=s.vs.length:=U.l1;have hv:=U.vs x.natAbs
   change (s.back k a).vs.getD x.natAbs 0=_ at hv
   unfold val;rw[hl1,hv];by_cases q:x.natAbs∈(s.trail.drop a).map Int.natAbs
   ·rw[if_pos q,if_pos q]
    split
    ·rfl
    ·rw[if_neg (by simp)]
   ·rw[if_neg q,if_neg q]
  rw[e1];by_cases q1:x∈s.trail.take a
  ·rw[if_pos q1,if_neg (hnot x q1)]
   exact(ht.tr x).2 (List.mem_of_mem_take q1)
  ·rw[if_neg q1]
   by_cases q2 : -x∈s.trail.take a
   ·rw[if_pos q2,if_neg (by have:=hnot _ q2;rwa [Int.natAbs_neg]at this)]
    exact ht.neg.2 (List.mem_of_mem_take q2)
   ·rw[if_neg q2]
    by_cases q3:x.natAbs∈(s.trail.drop a).map Int.natAbs
    ·rw[if_pos q3]
    ·rw[if_neg q3,ht.zero]
     have hsplit:∀y,y∈s.trail->y∈s.trail.take a\/y∈s.trail.drop a:=fun y hy=>by
      rw[<-List.take_append_drop a s.trail]at hy;exact List.mem_append.1 hy
     refine⟨fun hx=>?_,fun hx=>?_⟩
     ·rcases hsplit _ hx with w|w
      ·exact q1 w
      ·exact q3 (List.mem_map.2 ⟨x,w,rfl⟩)
     ·rcases hsplit _ hx with w|w
      ·exact q2 w
      ·exact q3 (List.mem_map.2 ⟨-x,w,by simp⟩)
 have hlvx:∀x∈s.trail.take a,(s.back k a).lv x=s.lv x:=fun x hx=>U.lv _ (hnot x hx);have hrex:∀x∈s.trail.take a,(s.back k a).re x=s.re x:=fun x hx=>U.re _ (hnot x hx);have hcl:(s.back k a).cls=s.cls:=by show((s.trail.drop a).foldl PS.unsetL s).cls=_;rw[U.eq]
 have hlo:(s.back k a).loose=s.loose:=by show((s.trail.drop a).foldl PS.unsetL s).loose=_;rw[U.eq]
 have hwa:(s.back k a).wat=s.wat:=by show((s.trail.drop a).foldl PS.unsetL s).wat=_;rw[U.eq]
 have hCE:CEq s (s.back k a):=⟨by rw[hcl],fun j d g h1 h2=>by rw[hcl]at h2;exact(CEq.refl s).2 j d g h1 h2⟩;have hget:∀{i:Nat} {x:Int},(s.back k a).trail[i]?=some x->i<a/\s.trail[i]?=some x:=fun {i x} hi=>by
  have hi:(s.trail.take a)[i]?=some x:=hi;have:=y2_ hi;have hia:i<a:=by simp at this;omega
  exact⟨hia,by rwa [List.getElem?_take_of_lt hia]at hi⟩
 have hgot:∀{i:Nat} {x:Int},i<a->s.trail[i]?=some x->(s.back k a).trail[i]?=some x:=fun {i x} hia hi=>by
  show(s.trail.take a)[i]?=some x;rw[List.getElem?_take_of_lt hia];exact hi
 have hmt:∀{i:Nat} {x:Int},i<a->s.trail[i]?=some x->x∈s.trail.take a:=fun {i x} hia hi=>List.mem_of_getElem? (hgot hia hi);obtain⟨h',d1,d2,d3,d4⟩:=S.hd;have hah:a<=h':=by have:=d3 a (List.mem_of_getElem? hm);omega
 refine⟨⟨⟨⟨by show((s.trail.drop a).foldl PS.unsetL s).vs.length=_;rw[U.l1];exact ht.len.vs,by show((s.trail.drop a).foldl PS.unsetL s).lev.length=_;rw[U.l2];exact ht.len.lev,by show((s.trail.drop a).foldl PS.unsetL s).rea.length=_;rw[U.l3];exact ht.len.rea,by rw[hwa];exact ht.len.wat⟩,?_,fun l hl=>ht.rng l (List.mem_of_mem_take hl),fun l=>?_,ht.nd.sublist (List.take_sublist _ _),fun l hl=>?_,fun k' m hm'=>?_,fun i l hl=>?_⟩,S.ci.ceq hCE,⟨by rw[hlo];exact S.li.nd,fun x hx=>?_,fun j d b hj=>?_⟩,fun j d g hd hl i x hi hx=>?_,fun w hw e he=>?_,a,?_,?_,fun m hm'=>?_,fun j d hd=>?_⟩,rfl,rfl,hcl,hlo,hwa,?_,hal,hlvx,hlev,hval⟩
 ·intro x hx
  obtain⟨v,hv⟩:=yb_ hx;have h1:=U.vs v;have h2:((s.trail.drop a).foldl PS.unsetL s).vs.getD v 0=x:=by
   rw[List.getD_eq_getElem?_getD];have:((s.trail.drop a).foldl PS.unsetL s).vs[v]?=some x:=hv;rw[this];rfl
  rw[h2]at h1
  split at h1
  ·exact .inl h1
  ·rw[h1];exact y5f_ ht.ok v
 ·rw[hval]
  show _↔l∈s.trail.take a
  split
  ·rename_i q;exact⟨fun _=>q,fun _=>rfl⟩
  ·rename_i q
   split
   ·exact⟨fun w=>by omega,fun w=>absurd w q⟩
   ·exact⟨fun w=>by omega,fun w=>absurd w q⟩
 ·rw[hlvx l hl]
  have h1:=ht.lv l (List.mem_of_mem_take hl);have h2:=(hlev l (List.mem_of_mem_take hl)).1 hl;show _/\_<=((s.marks.take k).length:Int);rw[List.length_take];omega
 ·have hm1:(s.marks.take k)[k']?=some m:=hm'
  have hkk:k'<k:=by have:=y2_ hm1;simp at this;omega
  rw[List.getElem?_take_of_lt hkk]at hm1;obtain⟨a',g1,⟨w,g2,g3⟩,g4⟩:=ht.mks k' m hm1;have haa:a'<a:=by
   have:=hlt a' w g2;omega
  refine⟨a',g1,⟨w,hgot haa g2,by rw[hlvx w (hmt haa g2)];exact g3⟩,fun i x hx=>?_⟩;obtain⟨hia,hx⟩:=hget hx;rw[hlvx x (hmt hia hx)];exact g4 i x hx
 ·obtain⟨hia,hl⟩:=hget hl
  have hlt2:=hmt hia hl;rcases ht.rs i l hl with ⟨h1,k',h2,h3⟩|⟨id,c,f,h1,h2,h3,h4⟩
  ·have:=(hlev l (List.mem_of_mem_take hlt2)).1 hlt2
   refine .inl ⟨by rw[hrex l hlt2];exact h1,k',by rw[hlvx l hlt2];exact h2,?_⟩;show(s.marks.take k)[k']?=_;rw[List.getElem?_take_of_lt (by omega)];exact h3
  ·refine .inr ⟨id,c,f,by rw[hrex l hlt2];exact h1,by rw[hcl];exact h2,h3,fun x hx hne=>?_⟩
   obtain⟨j,hj,gj⟩:=h4 x hx hne;exact⟨j,hj,hgot (by omega) gj⟩
 ·rw[hlo]at hx;rw[hcl];exact S.li.fl x hx
 ·rw[hcl]at hj;rw[hlo];exact S.li.lf j d b hj
 ·rw[hcl]at hd;rw[hwa];exact S.wi j d g hd hl i x hi hx
 ·rw[hwa]at hw;exact(S.wr w hw e he).ceq hCE
 ·show min s.head (a:Int)=a
  omega
 ·show a<=(s.trail.take a).length
  rw[List.length_take];omega
 ·have hm1:m∈s.marks.take k:=hm'
  obtain⟨k',g⟩:=yb_ hm1;have hkk:k'<k:=by have:=y2_ g;simp at this;omega
  rw[List.getElem?_take_of_lt hkk]at g;obtain⟨a',g1,⟨w,g2,g3⟩,g4⟩:=ht.mks k' m g;have:=hlt a' w g2;omega
 ·rw[hcl]at hd
  have J:=d4 j d hd;refine⟨J.ne,fun x hx=>?_,fun i x y hi hx hy ⟨q,hq1,hq2⟩=>?_⟩
  ·obtain⟨g1,g2⟩:=J.one x hx
   have:=(hlev x g1).2 (by omega);exact⟨this,by rw[hlvx x this];exact g2⟩
  ·obtain⟨_,hq3⟩:=hget hq2
   obtain⟨g1,g2⟩:=J.two i x y hi hx hy ⟨q,by omega,hq3⟩;have hxm:=hmt hq1 hq3;have hxl:=(hlev _ (List.mem_of_mem_take hxm)).1 hxm;rw[PS.lv_neg]at hxl;have hym:=(hlev y g1).2 (by omega);have:=hlvx _ hxm;rw[PS.lv_neg,PS.lv_neg]at this;exact⟨hym,by rw[hlvx y hym,this];exact g2⟩
 ·show min s.head (a:Int)=a
  omega
end
end
section
open Go
theorem y2k_:∀(n:Nat) (xs:List Nat),xs.Nodup->(∀x∈xs,1<=x/\x<=n)->xs.length<=n
 |0,xs,_,h=>by
  cases xs with
  |nil=>simp
  |cons a t=>have:=h a (by simp);omega
 | n+1,xs,hn,h=>by
  have h1:=y2k_ n (xs.erase (n+1)) (hn.erase _) fun x hx=>by
   have h2:=h x (List.mem_of_mem_erase hx);have h3:x≠n+1:=fun e=>by subst e;exact(hn.not_mem_erase) hx
   omega
  have h2:=List.length_erase (a:=n+1) (l:=xs)
  split at h2<;>omega
section
variable{n id h k:Nat}{s s0 s1 s':PS}{l x y z e f out:Int}{c c' l' nw P:List Int}{b fl:Bool}
theorem TrI.lenT(h:TrI n s):s.trail.length<=n:=by
 have:=y2k_ n (s.trail.map Int.natAbs) ?_ ?_
 ·simpa using this
 ·rw[List.Nodup,List.pairwise_map]
  exact h.nd.imp_of_mem fun ha hb hne e=>hne (h.abs ha hb e)
 ·intro x hx
  obtain⟨l,hl,rfl⟩:=List.mem_map.1 hx;have:=ye_ (h.rng l hl);omega
theorem TrI.lenM(h:TrI n s):s.marks.length<=s.trail.length:=by
 refine Nat.not_lt.1 fun hlt=>?_;have key:∀(k a:Nat),s.marks[k]?=some (a:Int)->(k:Int)<=a:=by
  intro k
  induction k with
  |zero=>intro a _;omega
  |succ k ih=>
   intro a ha;obtain⟨m,hm⟩:=y3_ (xs:=s.marks) (i:=k) (by have:=y2_ ha;omega);obtain⟨b,e1,⟨w,g1,g2⟩,g3⟩:=h.mks k m hm;obtain⟨a',e2,⟨u,q1,q2⟩,q3⟩:=h.mks (k+1) _ ha;have e2:a=a':=by omega
   subst e2 e1;have h1:=ih b hm;have h2:=q3 b w g1;omega
 obtain⟨m,hm⟩:=y3_ (xs:=s.marks) (i:=s.trail.length) hlt;obtain⟨a,e,⟨w,g1,g2⟩,g3⟩:=h.mks _ m hm;subst e;have:=key _ a hm;have:=y2_ g1;omega
def PS.addC(s:PS)(l:List Int):PS:={ s with cls:=s.cls++[(l,true,true)],loose:=s.loose++[(s.cls.length:Int)],wat:=((if 1<l.length then l.take 2 else[]).foldl (fun(q:PS) x=>q.watch x s.cls.length) s).wat }
theorem y8f_(id:Nat):∀(l:List Int) (s t:PS),s.wat=t.wat->(l.foldl (fun(q:PS) x=>q.watch x id) s).wat=(l.foldl (fun(q:PS) x=>q.watch x id) t).wat
 |[],s,t,e=>e
 |a::l,s,t,e=>y8f_ id l _ _ (by simp only[PS.watch];rw[e])
theorem yd5_(id:Nat):∀(l:List Int) (s:PS),l.foldl (fun(q:PS) x=>q.watch x id) s={ s with wat:=(l.foldl (fun(q:PS) x=>q.watch x id) s).wat }
 |[],s=>rfl
 |a::l,s=>by have:=yd5_ id l (s.watch a id);rw[List.foldl_cons,this];rfl
theorem ygg_(s:PS)(l:List Int):s.add l=s.addC l:=by
 unfold PS.add PS.addC;generalize (if 1<l.length then l.take 2 else[])=w;rw[yd5_,y8f_ s.cls.length w { s with cls:=s.cls++[(l,true,false)] } s rfl];unfold PS.look;simp
theorem y9z_(id:Nat):∀(l nw:List Int) (s s1:PS),WaX s s1 id nw->(∀x∈l,wAt x<s.wat.length)->WaX s (l.foldl (fun(q:PS) x=>q.watch x id) s1) id (nw++l)
 |[],nw,s,s1,h,_=>by simpa using h
 |a::l,nw,s,s1,h,hw=>by
  have:=y9z_ id l (nw++[a]) s _ (h.watch (hw a (by simp))) fun x hx=>hw x (by simp[hx]);simpa using this
theorem y4r_{α:Type}{xs:List α}{a b:α}{i:Nat}(h:(xs++[a])[i]?=some b):xs[i]?=some b\/(i=xs.length/\b=a):=by
 rcases Nat.lt_trichotomy i xs.length with hl|rfl|hl
 ·left;rwa [List.getElem?_append_left hl]at h
 ·right
  rw[List.getElem?_append_right (Nat.le_refl _)]at h;simp at h;exact⟨rfl,h.symm⟩
 ·have:=y2_ h
  simp at this;omega
theorem StI.addC(S:StI n s)(hc:∀x∈l',isL x n=true)(hd:(l'.map Int.natAbs).Nodup):StI n (s.addC l')/\(s.addC l').ent<=s.ent+2:=by
 have hwl:∀x∈(if 1<l'.length then l'.take 2 else[]),wAt x<s.wat.length:=fun x hx=>by
  rw[S.ti.len.wat]
  split at hx
  ·exact y5b_ (hc x (List.mem_of_mem_take hx))
  ·cases hx
 have X:=y9z_ s.cls.length (if 1<l'.length then l'.take 2 else[]) [] s s (WaX.refl s _) hwl;rw[List.nil_append]at X;have ewat:(s.addC l').wat=((if 1<l'.length then l'.take 2 else[]).foldl (fun(q:PS) x=>q.watch x s.cls.length) s).wat:=rfl;have hget:∀{j:Nat} {d:List Int×Bool×Bool},(s.addC l').cls[j]?=some d->s.cls[j]?=some d\/(j=s.cls.length/\d=(l',true,true)):=fun h=>y4r_ h;have hgot:∀{j:Nat} {d:List Int×Bool×Bool},s.cls[j]?=some d->(s.addC l').cls[j]?=some d:=fun {j d} h=>by
  show(s.cls++[(l',true,true)])[j]?=_;rw[List.getElem?_append_left (y2_ h)];exact h
 have hlast:(s.addC l').cls[s.cls.length]?=some (l',true,true):=by show(s.cls++[(l',true,true)])[s.cls.length]?=_;simp
 have ht:=S.ti;refine⟨⟨⟨⟨ht.len.vs,ht.len.lev,ht.len.rea,by rw[ewat,X.len];exact ht.len.wat⟩,ht.ok,ht.rng,ht.tr,ht.nd,ht.lv,ht.mks,fun i l hl=>?_⟩,fun j d g h1=>?_,⟨?_,fun x hx=>?_,fun j d b h1=>?_⟩,fun j d g h1 hl i x hi hx=>?_,fun w hw e he=>?_,?_⟩,?_⟩
 ·rcases ht.rs i l hl with q|⟨id,c,f,h1,h2,h3,h4⟩
  ·exact .inl q
  ·exact .inr ⟨id,c,f,h1,hgot h2,h3,h4⟩
 ·rcases hget h1 with q|⟨_,q⟩
  ·exact S.ci j d g q
  ·cases q;exact⟨hc,hd⟩
 ·show([]++(s.loose++[(s.cls.length:Int)])).Nodup
  rw[List.nil_append];refine List.nodup_append.2 ⟨by simpa using S.li.nd,by simp,fun x hx y hy e=>?_⟩;obtain⟨j,d,b,e1,e2⟩:=S.li.fl x (by simpa using hx);have:=y2_ e2;rw[List.mem_singleton.1 hy]at e;omega
 ·have hx:x∈s.loose++[(s.cls.length:Int)]:=hx
  rcases List.mem_append.1 hx with q|q
  ·obtain⟨j,d,b,e1,e2⟩:=S.li.fl x (by simpa using q)
   exact⟨j,d,b,e1,hgot e2⟩
  ·exact⟨s.cls.length,l',true,List.mem_singleton.1 q,hlast⟩
 ·show(j:Int)∈[]++(s.loose++[(s.cls.length:Int)])
  rcases hget h1 with q|⟨q,_⟩
  ·have:=S.li.lf j d b q
   simp at this⊢;exact .inl this
  ·simp[q]
 ·rw[ewat,X.mem]
  rcases hget h1 with q|⟨q1,q2⟩
  ·rcases S.wi j d g q hl i x hi hx with w|w
   ·exact .inl (.inl w)
   ·exact w.elim
  ·cases q2
   left;right;refine⟨?_,by rw[q1]⟩;rw[if_pos (by omega)];exact List.mem_of_getElem? (i:=i) (by rw[List.getElem?_take_of_lt hi];exact hx)
 ·have hW:WaE { s with cls:=s.cls++[(l',true,true)] } e:=by
   have hmem:∀e,WaE s e->WaE { s with cls:=s.cls++[(l',true,true)] } e:=fun e ⟨id,c,b,f,h1,h2,h3⟩=>⟨id,c,b,f,h1,hgot h2,h3⟩;rw[ewat]at hw;have Y:=y9z_ s.cls.length (if 1<l'.length then l'.take 2 else[]) [] { s with cls:=s.cls++[(l',true,true)] } { s with cls:=s.cls++[(l',true,true)] } (WaX.refl _ _) hwl;rw[List.nil_append]at Y;have hR:=Y.wr (fun hne=>⟨s.cls.length,l',true,true,rfl,hlast,fun _=>by
    split at hne
    ·rename_i q;exact q
    ·exact absurd rfl hne⟩) (fun w hw e he=>hmem e (S.wr w hw e he))
   rw[y8f_ s.cls.length _ s { s with cls:=s.cls++[(l',true,true)] } rfl]at hw;obtain⟨id,c,b,f,h1,h2,h3⟩:=hR w hw e he;refine⟨id,c,b,f,h1,?_,h3⟩;rw[Y.eq]at h2;exact h2
  obtain⟨id,c,b,f,h1,h2,h3⟩:=hW;exact⟨id,c,b,f,h1,h2,h3⟩
 ·obtain⟨h,e1,e2,e3,e4⟩:=S.hd
  refine⟨h,e1,e2,e3,fun j d h1=>?_⟩;rcases hget h1 with q|⟨_,q⟩
  ·exact⟨(e4 j d q).ne,(e4 j d q).one,(e4 j d q).two⟩
  ·cases q
 ·have h1:=X.ent
  have h2:(s.addC l').ent=((if 1<l'.length then l'.take 2 else[]).foldl (fun(q:PS) x=>q.watch x s.cls.length) s).ent:=rfl;rw[h2,h1]
  split
  ·simp;omega
  ·simp
def PS.dropC(s:PS)(id:Nat)(f:Bool):PS:={ s with cls:=s.cls.set id ([],false,f) }
theorem StI.dropC(S:StI n s)(hc:s.cls[id]?=some (c,b,fl))(hr:∀x∈s.trail,x∈c->s.re x≠id):StI n (s.dropC id fl):=by
 have hlt:=y2_ hc;have hid:(s.dropC id fl).cls[id]?=some ([],false,fl):=by show(s.cls.set id ([],false,fl))[id]?=_;rw[List.getElem?_set,if_pos rfl,if_pos hlt]
 have hoth:∀j,j≠id->(s.dropC id fl).cls[j]?=s.cls[j]?:=fun j hj=>by show(s.cls.set id ([],false,fl))[j]?=_;rw[List.getElem?_set,if_neg fun e=>hj e.symm]
 have ht:=S.ti;refine⟨⟨⟨ht.len.vs,ht.len.lev,ht.len.rea,ht.len.wat⟩,ht.ok,ht.rng,ht.tr,ht.nd,ht.lv,ht.mks,fun i l hl=>?_⟩,fun j d g h1=>?_,⟨S.li.nd,fun x hx=>?_,fun j d b' h1=>?_⟩,fun j d g h1 hl i x hi hx=>?_,fun w hw e he=>?_,?_⟩
 ·rcases ht.rs i l hl with q|⟨id',c',f',h1,h2,h3,h4⟩
  ·exact .inl q
  ·refine .inr ⟨id',c',f',h1,?_,h3,h4⟩
   rw[hoth id' fun e=>?_]
   ·exact h2
   ·subst e
    rw[hc]at h2;have:c=c':=by injection h2 with h2;exact congrArg (·.1) h2
    subst this;exact hr l (List.mem_of_getElem? hl) h3 h1
 ·by_cases e:j=id
  ·subst e;rw[hid]at h1;cases h1
  ·rw[hoth j e]at h1;exact S.ci j d g h1
 ·obtain⟨j,d,b',e1,e2⟩:=S.li.fl x hx
  by_cases e:j=id
  ·subst e
   rw[hc]at e2;have:fl=true:=by injection e2 with e2;exact congrArg (·.2.2) e2
   subst this;exact⟨j,[],false,e1,hid⟩
  ·exact⟨j,d,b',e1,by rw[hoth j e];exact e2⟩
 ·by_cases e:j=id
  ·subst e
   rw[hid]at h1;have:fl=true:=by injection h1 with h1;exact congrArg (·.2.2) h1
   subst this;exact S.li.lf j c b hc
  ·rw[hoth j e]at h1;exact S.li.lf j d b' h1
 ·by_cases e:j=id
  ·subst e;rw[hid]at h1;cases h1
  ·rw[hoth j e]at h1;exact S.wi j d g h1 hl i x hi hx
 ·obtain⟨j,d,b',g,e1,e2,e3⟩:=S.wr w hw e he
  by_cases q:j=id
  ·subst q;exact⟨j,[],false,fl,e1,hid,fun w=>by cases w⟩
  ·exact⟨j,d,b',g,e1,by rw[hoth j q];exact e2,e3⟩
 ·obtain⟨h,e1,e2,e3,e4⟩:=S.hd
  refine⟨h,e1,e2,e3,fun j d h1=>?_⟩;by_cases e:j=id
  ·subst e;rw[hid]at h1;cases h1
  ·rw[hoth j e]at h1
   exact⟨(e4 j d h1).ne,(e4 j d h1).one,(e4 j d h1).two⟩
theorem y8q_{α:Type}{xs ys:List α}{d:α}{v:Nat}(h:v<xs.length):(xs++ys).getD v d=xs.getD v d:=by
 rw[List.getD_eq_getElem?_getD,List.getD_eq_getElem?_getD,List.getElem?_append_left h]
theorem y86_{α:Type}{xs:List α}{d:α}{v m:Nat}:(xs++List.replicate m d).getD v d=xs.getD v d:=by
 rw[List.getD_eq_getElem?_getD,List.getD_eq_getElem?_getD];by_cases h:v<xs.length
 ·rw[List.getElem?_append_left h]
 ·rw[List.getElem?_append_right (by omega),List.getElem?_eq_none (l:=xs) (by omega),List.getElem?_replicate]
  split<;>rfl
theorem yh7_{vs:List Int}{m:Nat}(l:Int):val (vs++List.replicate m 0) l=val vs l:=by
 unfold val;rw[y86_];have h0:vs.length<=l.natAbs->vs.getD l.natAbs 0=0:=fun h=>by rw[List.getD_eq_getElem?_getD,List.getElem?_eq_none h];rfl
 simp only[List.length_append,List.length_replicate];by_cases h1:l=0
 ·simp[h1]
 ·by_cases h2:vs.length<=l.natAbs
  ·rw[h0 h2];simp
  ·rw[if_neg (show¬(l=0\/vs.length+m<=l.natAbs) by omega),if_neg (show¬(l=0\/vs.length<=l.natAbs) by omega)]
theorem yc3_{m:Nat}(h:isL l n=true)(hm:n<=m):isL l m=true:=by
 obtain⟨h1,h2,h3⟩:=yi_.1 h;exact yi_.2 ⟨h1,by omega,by omega⟩
theorem StI.grow(S:StI n s)(m:Nat):StI (n+m) (s.grow m)/\(s.grow m).ent=s.ent:=by
 have ht:=S.ti;obtain⟨q1,q2,q3,q4⟩:=ht.len;have hlv:∀x∈s.trail,(s.grow m).lv x=s.lv x:=fun x hx=>by
  have:=ye_ (ht.rng x hx);exact y8q_ (by omega)
 have hre:∀x∈s.trail,(s.grow m).re x=s.re x:=fun x hx=>by
  have:=ye_ (ht.rng x hx);exact y8q_ (by omega)
 have hwat:∀k,(s.grow m).wat.getD k []=s.wat.getD k []:=fun k=>y86_;refine⟨⟨⟨⟨?_,?_,?_,?_⟩,?_,fun l hl=>yc3_ (ht.rng l hl) (by omega),fun l=>?_,ht.nd,fun l hl=>?_,fun k a hk=>?_,fun i l hl=>?_⟩,fun j d g h1=>?_,⟨S.li.nd,S.li.fl,S.li.lf⟩,fun j d g h1 hl i x hi hx=>?_,fun w hw e he=>?_,?_⟩,?_⟩
 ·simp[PS.grow,q1];omega
 ·simp[PS.grow,q2];omega
 ·simp[PS.grow,q3];omega
 ·simp[PS.grow,q4];omega
 ·intro x hx
  rcases List.mem_append.1 hx with w|w
  ·exact ht.ok x w
  ·exact .inl (List.eq_of_mem_replicate w)
 ·show val (s.vs++List.replicate m 0) l=1↔_
  rw[yh7_];exact ht.tr l
 ·rw[hlv l hl];exact ht.lv l hl
 ·obtain⟨a',e,⟨w,g1,g2⟩,g3⟩:=ht.mks k a hk
  exact⟨a',e,⟨w,g1,by rw[hlv w (List.mem_of_getElem? g1)];exact g2⟩,fun i x hx=>by rw[hlv x (List.mem_of_getElem? hx)];exact g3 i x hx⟩
 ·rcases ht.rs i l hl with ⟨h1,k',h2,h3⟩|⟨id,c,f,h1,h2,h3,h4⟩
  ·exact .inl ⟨by rw[hre l (List.mem_of_getElem? hl)];exact h1,k',by rw[hlv l (List.mem_of_getElem? hl)];exact h2,h3⟩
  ·exact .inr ⟨id,c,f,by rw[hre l (List.mem_of_getElem? hl)];exact h1,h2,h3,h4⟩
 ·obtain⟨h2,h3⟩:=S.ci j d g h1
  exact⟨fun l hl=>yc3_ (h2 l hl) (by omega),h3⟩
 ·rw[hwat];exact S.wi j d g h1 hl i x hi hx
 ·rcases List.mem_append.1 hw with q|q
  ·exact S.wr w q e he
  ·rw[List.eq_of_mem_replicate q]at he;cases he
 ·obtain⟨h,e1,e2,e3,e4⟩:=S.hd
  refine⟨h,e1,e2,e3,fun j d h1=>?_⟩;have J:=e4 j d h1;refine⟨J.ne,fun x hx=>?_,fun i x y hi hx hy ⟨q,hq1,hq2⟩=>?_⟩
  ·obtain⟨g1,g2⟩:=J.one x hx
   exact⟨g1,by rw[hlv x g1];exact g2⟩
  ·obtain⟨g1,g2⟩:=J.two i x y hi hx hy ⟨q,hq1,hq2⟩
   have:=hlv _ (List.mem_of_getElem? hq2);rw[PS.lv_neg,PS.lv_neg]at this;exact⟨g1,by rw[hlv y g1,this];exact g2⟩
 ·simp[PS.ent,PS.grow]
end
end
section
open Go
theorem y7f_{l:Int}{n:Nat}(h:isL l n=true)(hn:n<=4000):inB l=true:=by
 have:=yi_.1 h;simp only[inB,Bool.and_eq_true,decide_eq_true_eq];omega
section
variable{σ τ:Heap}{T T':Tg}{lp n id:Nat}{h:PH}{s:PS}{l:Int}{c c':List Int}{b f:Bool}
theorem PropH.asgv(p:PropH σ T lp h s):AsgV σ (.ptr h.la 0) s.vs:=⟨h.la,h.xa,rfl,p.asg.up,p.vs.slT⟩
theorem PropH.val(p:PropH σ T lp h s)(ht:TrI n s)(hn:n<=4000)(hl:isL l n=true):S.z4 (.ptr h.la 0) l σ=some (A.val s.vs l):=
 y3e_ p.asgv ht.ok (by have:=ht.len.vs;omega) (by have:=ht.len.vs;omega) (y7f_ hl hn)
theorem y1w_(p:PropH σ T lp h s)(ht:TrI n s)(hn:n<=4000)(hl:isL l n=true):S.z71 (.ptr lp 0) l σ=some (val s.vs l):=by
 obtain⟨r,e,rfl⟩:W (S.z71 (.ptr lp 0) l σ) fun r=>r=val s.vs l:=by
  have k1:=p.obj;unfold S.z71
  repeat' with_reducible first|refine W.bind ?_|refine W.asV ?_|refine W.fldp ?_|refine W.nck ?_|refine W.u0 ?_
  refine W.to (p.val ht hn hl) ?_
  repeat' with_reducible refine W.ret ?_
  rfl
 exact e
theorem yq_{σ:Heap}(hl:isL l n=true)(hn:n<=4000):S.z45 l σ=some (l.natAbs:Int):=y6v_ (by have:=yi_.1 hl;omega)
theorem TrI.lget(ht:TrI n s)(hl:isL l n=true):s.lev[l.natAbs]?=some (s.lv l):=by
 have:=ye_ hl;have:=ht.len.lev;unfold PS.lv;rw[List.getD_eq_getElem?_getD,List.getElem?_eq_getElem (by omega)];rfl
theorem TrI.rget(ht:TrI n s)(hl:isL l n=true):s.rea[l.natAbs]?=some (s.re l):=by
 have:=ye_ hl;have:=ht.len.rea;unfold PS.re;rw[List.getD_eq_getElem?_getD,List.getElem?_eq_getElem (by omega)];rfl
theorem ydq_(p:PropH σ T lp h s)(ht:TrI n s)(hn:n<=4000)(hl:isL l n=true):S.z80 (.ptr lp 0) l σ=some (s.rank l):=by
 obtain⟨r,e,rfl⟩:W (S.z80 (.ptr lp 0) l σ) fun r=>r=s.rank l:=by
  have k1:=p.obj;have k4:=p.lev;have k7:=p.marks;have hm:=ht.lenM;have hm2:=ht.lenT;have hg:=ht.lget hl;have hl0:=ye_ hl;have hle:=ht.len.lev;unfold S.z80 PS.rank
  repeat' with_reducible first|refine W.bind ?_|refine W.asV ?_|refine W.fldp ?_|refine W.nck ?_|refine W.u0 ?_
  refine W.to (p.val ht hn hl) ?_
  repeat' with_reducible refine W.ret ?_
  by_cases h2:val s.vs l=2
  ·rw[if_pos h2]
   refine W.condF (by simp[h2]) ?_
   repeat' with_reducible first|refine W.bind ?_|refine W.asV ?_|refine W.fldp ?_|refine W.nck ?_|refine W.u0 ?_
   refine W.to (yq_ hl hn) ?_
   repeat' with_reducible first|refine W.ret ?_|refine W.u2 ?_
   rfl
  ·rw[if_neg h2]
   refine W.condT (by simp[h2]) ?_
   repeat' with_reducible first|refine W.ret ?_|refine W.asV ?_|refine W.fldp ?_|refine W.nck ?_|refine W.u0 ?_|refine W.u3 ?_
   rw[wrapS]<;>omega
 exact e
theorem ixOn{R:Type}{Q:R->Prop}{α:Type}{v:Vw α}{xs:List α}{x:AVal}{i:Int}(h:SlV v σ xs x)(h0:0<=i)(h1:i<xs.length){sz:Nat}{K:AVal->Option R}(c:W (K (ptrK x sz i.toNat 0)) Q)(hs:sz=v.sz:=by rfl):W (ixA σ x sz i K) Q:=by
 have:=W.ixO (i:=i.toNat) h (by omega) c hs
 rwa [Int.toNat_of_nonneg h0]at this
theorem yj5_{t u la:Nat}{xa:AVal}{vs:List Int}(h1:Loc (σ.at T t) la [xa])(h2:Own .i8 (σ.at T u) vs xa)(hn:Tn σ T)(hv:Vok vs)(hlen:vs.length=n+1)(hn4:n<=4000)(hl:isL l n=true)(hf:A.val vs l≠2) :
  W (S.z2 (.ptr la 0) l σ) fun r=>Own .i8 (r.2.at T u) (setV vs l) xa/\Hop (only u) σ T r.2 T:=by
 have hl0:=ye_ hl;have hA:AsgV σ (.ptr la 0) vs:=⟨la,xa,rfl,h1.up,h2.slT⟩;have w:IntKind.i64.wrap ((vs.length:Int)-1)=(vs.length:Int)-1:=by rw[wrapS]<;>omega
 unfold S.z2
 repeat' with_reducible first|refine W.bind ?_|refine W.asV ?_|refine W.fldp ?_|refine W.nck ?_|refine W.u0 ?_|refine W.u3 ?_
 rw[w,show(vs.length:Int)-1=(n:Int) by omega];refine W.to (y18_ (by omega) (by omega)) ?_
 repeat' with_reducible refine W.ret ?_
 refine W.condF (by simp[hl]) ?_
 repeat' (with_reducible refine W.bind ?_)
 refine W.to (y3e_ hA hv (by omega) (by omega) (y7f_ hl hn4)) ?_
 repeat' with_reducible refine W.ret ?_
 refine W.condF (by simpa using hf) ?_;have hset:∀x:Int,x=(if 0<l then 1 else 2)->vs.set l.natAbs x=setV vs l:=fun x e=>by rw[e];rfl
 repeat' (with_reducible refine W.bind ?_)
 (with_reducible refine W.cnd (fun hc=>?_) (fun hc=>?_)<;>(try simp only[qq,Kd.ty]at hc)<;>(try (exfalso;omega)))
 ·repeat' with_reducible first|refine W.asV ?_|refine W.fldp ?_|refine W.nck ?_|refine W.u0 ?_
  refine ixOn h2.slT (by omega) (by omega) ?_;rw[show l.toNat=l.natAbs by omega];refine W.own_set Vw.i8_flat h2 hn (List.getElem?_eq_getElem (show l.natAbs<vs.length by omega)) (k:=0) [.int .i8 vs[l.natAbs]] (1:Int) (Nat.le_refl _) (fun _ h=>h) (fun _=>rfl) fun τ h2 H _=>?_
  repeat' with_reducible refine W.ret ?_
  exact⟨by rw[<-hset 1 (by rw[if_pos (by omega)])];exact h2,H⟩
 ·have w2:IntKind.i64.wrap (0-l) = -l:=by rw[wrapS]<;>omega
  repeat' with_reducible first|refine W.asV ?_|refine W.fldp ?_|refine W.nck ?_|refine W.u0 ?_
  rw[w2];refine ixOn h2.slT (by omega) (by omega) ?_;rw[show(-l).toNat=l.natAbs by omega];refine W.own_set Vw.i8_flat h2 hn (List.getElem?_eq_getElem (show l.natAbs<vs.length by omega)) (k:=0) [.int .i8 vs[l.natAbs]] (2:Int) (Nat.le_refl _) (fun _ h=>h) (fun _=>rfl) fun τ h2 H _=>?_
  repeat' with_reducible refine W.ret ?_
  exact⟨by rw[<-hset 2 (by rw[if_neg (by omega)])];exact h2,H⟩
theorem yas_(p:PropH σ T lp h s)(hn:Tn σ T)(hlen:PLen (n+1) s)(hok:Vok s.vs)(hlt:s.trail.length<=100000)(hn4:n<=4000)(hl:isL l n=true)(hf:val s.vs l≠2){mk:List Int}(hm:mk=s.marks)(hml:mk.length<=100000){r:Int} :
  W (S.z81 (.ptr lp 0) l r σ) fun r'=>∃T' h',Hop pI σ T r'.2 T'/\PropH r'.2 T' lp h' (s.setL l r)/\h'.cs=h.cs:=by
 have hl0:=ye_ hl;have e2:=hlen.lev;have e3:=hlen.rea;obtain⟨k1,k2,k3,k4,k5,k6,k7,k8,k9,k10,k11,k12,k13⟩:=p;unfold S.z81
 repeat' with_reducible first|refine W.bind ?_|refine W.asV ?_|refine W.fldp ?_|refine W.nck ?_|refine W.u0 ?_
 refine W.mono (yj5_ k2 k3 hn hok hlen.vs hn4 hl hf) fun r' hr=>?_;obtain⟨r',τ1⟩:=r';obtain⟨k3,H1⟩:=hr;dsimp only at k3 H1⊢;have HH:Hop pI σ T τ1 T:=(Hop.refl hn).inP H1;replace k1:=k1.hop H1;replace k2:=k2.hop H1;replace k4:=k4.hop H1;replace k5:=k5.hop H1;replace k6:=k6.hop H1;replace k7:=k7.hop H1;replace k8:=k8.hop H1;replace k9:=k9.hop H1;replace k10:=k10.hop H1;replace k11:=k11.hop H1;replace k13:=k13.hop H1;replace hn:=H1.tn
 repeat' (with_reducible refine W.bind ?_)
 refine W.to (yq_ hl hn4) ?_
 repeat' with_reducible first|refine W.ret ?_|refine W.asV ?_|refine W.fldp ?_|refine W.nck ?_|refine W.u0 ?_|refine W.u3 ?_
 refine W.ixO k4.slT (i:=l.natAbs) (by omega) ?_;refine W.own_setI k4 hn (by omega) fun τ2 k4 H2 _=>?_;replace HH:=HH.inP H2;replace k1:=k1.hop H2;replace k2:=k2.hop H2;replace k3:=k3.hop H2;replace k5:=k5.hop H2;replace k6:=k6.hop H2;replace k7:=k7.hop H2;replace k8:=k8.hop H2;replace k9:=k9.hop H2;replace k10:=k10.hop H2;replace k11:=k11.hop H2;replace k13:=k13.hop H2;replace hn:=H2.tn;refine W.ixO k5.slT (i:=l.natAbs) (by omega) ?_;refine W.own_setI k5 hn (by omega) fun τ3 k5 H3 _=>?_;replace HH:=HH.inP H3;replace k1:=k1.hop H3;replace k2:=k2.hop H3;replace k3:=k3.hop H3;replace k4:=k4.hop H3;replace k6:=k6.hop H3;replace k7:=k7.hop H3;replace k8:=k8.hop H3;replace k9:=k9.hop H3;replace k10:=k10.hop H3;replace k11:=k11.hop H3;replace k13:=k13.hop H3;replace hn:=H3.tn
 repeat' with_reducible first|refine W.asV ?_|refine W.fldp ?_|refine W.nck ?_|refine W.u0 ?_
 refine W.own_push (bytes:=8) Vw.int_flat k6 hn (a:=l) rfl (by omega) (by omega) fun x2 τ4 T2 k6 H4=>?_;replace HH:=HH.inP H4;replace k1:=k1.hop H4;replace k2:=k2.hop H4;replace k3:=k3.hop H4;replace k4:=k4.hop H4;replace k5:=k5.hop H4;replace k7:=k7.hop H4;replace k8:=k8.hop H4;replace k9:=k9.hop H4;replace k10:=k10.hop H4;replace k11:=k11.hop H4;replace k13:=k13.hop H4;replace hn:=H4.tn
 repeat' with_reducible first|refine W.fldp ?_|refine W.nck ?_|refine W.u4 ?_
 refine W.stT k1 hn (Nat.le_of_ble_eq_true (by rfl)) fun τ5 H5 k1 hnτ5=>?_;replace HH:=HH.inP H5;replace k2:=k2.hop H5;replace k3:=k3.hop H5;replace k4:=k4.hop H5;replace k5:=k5.hop H5;replace k6:=k6.hop H5;replace k7:=k7.hop H5;replace k8:=k8.hop H5;replace k9:=k9.hop H5;replace k10:=k10.hop H5;replace k11:=k11.hop H5;replace k13:=k13.hop H5;replace hn:=H5.tn
 repeat' with_reducible refine W.ret ?_
 exact⟨T2,{ h with xt:=x2 },HH,⟨k1,k2,k3,k4,k5,k6,k7,k8,k9,k10,k11,k12,k13⟩,rfl⟩
theorem yb1_(p:PropH σ T lp h s)(hn:Tn σ T)(ht:TrI n s)(hn4:n<=4000)(hl:isL l n=true)(hf:A.val s.vs l≠2){mk:List Int}(hm:mk=s.marks)(hml:mk.length<=100000){r:Int} :
  W (S.z81 (.ptr lp 0) l r σ) fun r'=>∃T' h',Hop pI σ T r'.2 T'/\PropH r'.2 T' lp h' (s.setL l r)/\h'.cs=h.cs:=yas_ p hn ht.len ht.ok (by have:=ht.lenT;omega) hn4 hl hf hm hml
def PS.putC(s:PS)(id:Nat)(c:List Int)(b f:Bool):PS:={ s with cls:=s.cls.set id (c,b,f) }
theorem PropH.lits{y:AVal}(p:PropH σ T lp h s)(hc:s.cls[id]?=some (c,b,f))(hy:h.cs[id]?=some (y,b,f))(H:Hop (only (40+2*id)) σ T τ T')(hO:Own .int (τ.at T' (40+2*id)) c' y):PropH τ T' lp h (s.putC id c' b f):=by
 have hcf:=p.cf.hopAt H hO;refine⟨p.obj.hop H (by simp;omega),p.asg.hop H (by simp;omega),p.vs.hop H (by simp;omega),p.lev.hop H (by simp;omega),p.rea.hop H (by simp;omega),p.trail.hop H (by simp;omega),p.marks.hop H (by simp;omega),p.cls.hop H (by simp;omega),p.wat.hop H (by simp;omega),p.loose.hop H (by simp;omega),?_,?_,p.wf.hop H (by intro i;simp;omega)⟩
 ·show Fam τ T' 40 ((s.cls.set id (c',b,f)).map (·.1)) (h.cs.map (·.1))
  rw[List.map_set];have e:(h.cs.map (·.1)).set id y=h.cs.map (·.1):=by
   have:=y1n_ (f:=(·.1)) (b:=(y,b,f)) hy rfl
   rwa [List.map_set]at this
  rw[e]at hcf;exact hcf
 ·show h.cs.map (·.2)=(s.cls.set id (c',b,f)).map (·.2)
  rw[y1n_ (f:=(·.2)) (b:=(c',b,f)) hc rfl];exact p.cb
theorem y1o_(hc:s.cls[id]?=some (c,b,f)){c':List Int}{b' f':Bool}:(s.putC id c' b' f').cls[id]?=some (c',b',f'):=by
 show(s.cls.set id (c',b',f'))[id]?=_;rw[List.getElem?_set,if_pos rfl,if_pos (y2_ hc)]
theorem y89_{c' d:List Int}{b' f' b2 f2:Bool}:(s.putC id c' b' f').putC id d b2 f2=s.putC id d b2 f2:=by
 simp[PS.putC]
theorem y76_(hc:s.cls[id]?=some (c,b,f)):s.putC id c b f=s:=by
 have:s.cls.set id (c,b,f)=s.cls:=by
  obtain⟨h1,h2⟩:=List.getElem?_eq_some_iff.1 hc;rw[<-h2,List.set_getElem_self]
 unfold PS.putC;rw[this]
theorem yc0_{R:Type}{Q:R->Prop}{y:AVal}(p:PropH σ T lp h s)(hn:Tn σ T)(hc:s.cls[id]?=some (c,b,f))(hy:h.cs[id]?=some (y,b,f)){i j:Nat}(hi:i<c.length)(hj:j<c.length){a d:Int}(ha:c[j]?=some a)(hd:c[i]?=some d){K:Heap->Option R}
  (k:∀τ,Hop pI σ T τ T->PropH τ T lp h (s.putC id (swapL c i j) b f)->W (K τ) Q):W (ixA σ y 1 (i:Int) fun p1=>stC σ p1 [.int .i64 a] fun σ1=>ixA σ1 y 1 (j:Int) fun p2=>stC σ1 p2 [.int .i64 d] fun σ2=>K σ2) Q:=by
 obtain⟨z,hz,hO⟩:=p.cget hc;have:z=y:=by rw[hy]at hz;injection hz with hz;exact(congrArg (·.1) hz).symm
 subst this;refine W.ixO hO.slT (i:=i) hi ?_;refine W.own_setI hO hn hi fun τ1 hO H1 _=>?_;refine W.ixO hO.slT (i:=j) (by simpa using hj) ?_;refine W.own_setI hO H1.tn (by simpa using hj) fun τ2 hO H2 _=>?_;have e:(c.set i a).set j d=swapL c i j:=by
  unfold swapL;rw[List.getD_eq_getElem?_getD,List.getD_eq_getElem?_getD,ha,hd];rfl
 rw[e]at hO;have H:=H1.trans H2;exact k τ2 (H.sub fun q hq=>by simp at hq;subst hq;simp[pI]) (p.lits hc hy H hO)
theorem ydp_{y:AVal}{k:Nat}(p:PropH σ T lp h s)(hn:Tn σ T)(ht:TrI n s)(hn4:n<=4000)(hL:∀x∈c,isL x n=true)(hc:s.cls[id]?=some (c,b,f))(hy:h.cs[id]?=some (y,b,f))(hk:k<c.length)(hcl:c.length<=1000000) :
  W (S.z76 (.ptr lp 0) y (k:Int) σ) fun r=>∃j,k<=j/\j<c.length/\(∀i x z,k<=i->c[i]?=some x->c[j]?=some z->s.rank x<=s.rank z)/\Hop pI σ T r.2 T/\PropH r.2 T lp h (s.putC id (swapL c k j) b f):=by
 obtain⟨z,hz,hO⟩:=p.cget hc;have:z=y:=by rw[hy]at hz;injection hz with hz;exact(congrArg (·.1) hz).symm
 subst this;have hS:=hO.slT;unfold S.z76;refine W.bind ?_;rw[show IntKind.i64.wrap ((k:Int)+1)=((k+1:Nat):Int) by rw[wrapS]<;>omega];refine W.mono (P:=fun r=>∃j:Nat,r=(j:Int)/\k<=j/\j<c.length/\∀i x z,k<=i->c[i]?=some x->c[j]?=some z->s.rank x<=s.rank z) ?_ fun r hr=>?_
 ·refine W.loopP (c.length-(k+1)) (fun i (x:Int×Int)=>∃j:Nat,x=((j:Int),((k+1+i:Nat):Int))/\k<=j/\j<c.length/\∀i' x z,k<=i'->i'<k+1+i->c[i']?=some x->c[j]?=some z->s.rank x<=s.rank z) ⟨k,rfl,Nat.le_refl _,hk,fun i' x z h1 h2 h3 h4=>?_⟩ fun i x hi hI=>?_
  ·have:i'=k:=by omega
   subst this;rw[h3]at h4;cases h4;omega
  ·obtain⟨j,rfl,hj1,hj2,hj3⟩:=hI
   unfold S.z76.b0
   repeat' (with_reducible refine W.len (by assumption) ?_)
   (with_reducible refine W.cnd (fun hlt=>?_) (fun hlt=>?_)<;>(try simp only[qq,Kd.ty]at hlt)<;>(try (exfalso;omega)))
   ·obtain⟨a,ha⟩:=y3_ (xs:=c) (i:=k+1+i) (by omega)
    obtain⟨d,hd⟩:=y3_ (xs:=c) (i:=j) hj2
    repeat' with_reducible first|refine W.bind ?_|refine W.e2 ?_
    refine W.to (ydq_ p ht hn4 (hL a (List.mem_of_getElem? ha))) ?_
    repeat' with_reducible first|refine W.ret ?_|refine W.bind ?_|refine W.e2 ?_
    refine W.to (ydq_ p ht hn4 (hL d (List.mem_of_getElem? hd))) ?_;have w:IntKind.i64.wrap (((k+1+i:Nat):Int)+1)=((k+1+(i+1):Nat):Int):=by rw[wrapS]<;>omega
    repeat' with_reducible refine W.ret ?_
    (with_reducible refine W.cnd (fun hg=>?_) (fun hg=>?_)<;>(try simp only[qq,Kd.ty]at hg)<;>(try (exfalso;omega)))
    ·repeat' with_reducible first|refine W.nextP ?_|refine W.ret ?_
     refine⟨by omega,k+1+i,by rw[w],by omega,by omega,fun i' x z h1 h2 h3 h4=>?_⟩;rw[ha]at h4;cases h4;by_cases e:i'=k+1+i
     ·subst e;rw[ha]at h3;cases h3;omega
     ·have:=hj3 i' x d h1 (by omega) h3 hd
      omega
    ·repeat' with_reducible first|refine W.nextP ?_|refine W.ret ?_
     refine⟨by omega,j,by rw[w],hj1,hj2,fun i' x z h1 h2 h3 h4=>?_⟩;by_cases e:i'=k+1+i
     ·subst e
      rw[ha]at h3;cases h3;rw[hd]at h4;cases h4;omega
     ·exact hj3 i' x z h1 (by omega) h3 h4
   ·repeat' (with_reducible refine W.stopP ?_)
    exact⟨j,rfl,hj1,hj2,fun i' x z h1 h3 h4=>hj3 i' x z h1 (by have:=y2_ h3;omega) h3 h4⟩
 ·obtain⟨j,rfl,hj1,hj2,hj3⟩:=hr
  obtain⟨a,ha⟩:=y3_ (xs:=c) (i:=k) hk;obtain⟨d,hd⟩:=y3_ (xs:=c) (i:=j) hj2
  repeat' (with_reducible refine W.e2 ?_)
  refine yc0_ p hn hc hy hk hj2 hd ha fun τ H p2=>?_
  repeat' with_reducible refine W.ret ?_
  exact⟨j,hj1,hj2,hj3,H,p2⟩
end
end
section
open Go
section
variable{σ τ:Heap}{T T':Tg}{lp n id:Nat}{h:PH}{s s1:PS}{l:Int}{c c':List Int}{b f:Bool}
theorem PropH.hopW(p:PropH σ T lp h s){k:Nat}{w:List Int}{x2:AVal}(H:Hop (only (41+2*k)) σ T τ T')(hO:Own .int (τ.at T' (41+2*k)) w x2)(hk:k<s.wat.length) :
  Loc (τ.at T' 1) lp [.ptr h.la 0,h.xl,h.xr,h.xt,h.xm,.int .i64 s.head,h.xc,h.xw,h.xo]/\Own vRaw (τ.at T' 9) h.ws h.xw/\∀υ,Hop (only 9) τ T' υ T'->Own vRaw (υ.at T' 9) (h.ws.set k x2) h.xw->PropH υ T' lp { h with ws:=h.ws.set k x2 } { s with wat:=s.wat.set k w }:=by
 obtain⟨k1,k2,k3,k4,k5,k6,k7,k8,k9,k10,k11,k12,k13⟩:=p;replace k1:=k1.hop H (by simp;omega);replace k2:=k2.hop H (by simp;omega);replace k3:=k3.hop H (by simp;omega);replace k4:=k4.hop H (by simp;omega);replace k5:=k5.hop H (by simp;omega);replace k6:=k6.hop H (by simp;omega);replace k7:=k7.hop H (by simp;omega);replace k8:=k8.hop H (by simp;omega);replace k9:=k9.hop H (by simp;omega);replace k10:=k10.hop H (by simp;omega);replace k11:=k11.hop H (by intro i;simp;omega);replace k13:=k13.hopAt H hO;refine⟨k1,k9,fun υ H2 hO2=>?_⟩;have hn:=H2.tn;replace k1:=k1.hop H2;replace k2:=k2.hop H2;replace k3:=k3.hop H2;replace k4:=k4.hop H2;replace k5:=k5.hop H2;replace k6:=k6.hop H2;replace k7:=k7.hop H2;replace k8:=k8.hop H2;replace k10:=k10.hop H2;replace k11:=k11.hop H2;replace k13:=k13.hop H2;replace hn:=H2.tn;exact⟨k1,k2,k3,k4,k5,k6,k7,k8,hO2,k10,k11,k12,k13⟩
theorem yao_{R:Type}{Q:R->Prop}(p:PropH σ T lp h s)(hn:Tn σ T)(hw:wAt l<s.wat.length)(hb:s.ent+1<=8700000000000){K:Heap->Option R}(k:∀τ T' h',Hop (fun j=>j==9||j==41+2*wAt l) σ T τ T'->PropH τ T' lp h' (s.watch l id)->h'.cs=h.cs->W (K τ) Q) :
  W (ixA σ h.xw 1 (wAt l:Int) fun a35=>ld σ a35 .V fun v36=>newK σ 1 [.int .i64 (id:Int)] fun l37 σ38=>appS σ38 1 8 v36 (.sl l37 0 1 none) fun v39 σ40=>ld σ40 (.ptr lp 7) .V fun v41=>chk ((v41:AVal)=h.xw) (ixA σ40 h.xw 1 (wAt l:Int) fun a42=>scal v39 (stC σ40 a42 [v39] fun σ43=>K σ43))) Q:=by
 obtain⟨xs,z,hx,hz,hO⟩:=p.wf.get (k:=wAt l) hw;have hmx:=y6r_ (List.mem_of_getElem? hx);have hgd:s.wat.getD (wAt l) []=xs:=by rw[List.getD_eq_getElem?_getD,hx];rfl
 have hlw:=p.wf.1;refine W.ixV p.wat.slT hz ?_;refine W.own_push (bytes:=8) Vw.int_flat hO hn (a:=(id:Int)) rfl (by omega) (by omega) fun x2 τ2 T2 hO H2=>?_;obtain⟨k1,k9,hfin⟩:=p.hopW H2 hO hw
 repeat' with_reducible first|refine W.asV ?_|refine W.chk rfl ?_|refine W.u0 ?_
 refine W.ixO k9.slT (i:=wAt l) (by omega) ?_
 repeat' (with_reducible refine W.u4 ?_)
 refine W.own_setV k9 H2.tn (a:=x2) (by omega) fun τ3 k9 H3 _=>?_;have p3:=hfin τ3 H3 k9;refine k τ3 T2 { h with ws:=h.ws.set (wAt l) x2 } ((H2.sub fun j hj=>by simp at hj⊢;exact .inr hj).trans (H3.sub fun j hj=>by simp at hj⊢;exact .inl hj)) ?_ rfl;have e:s.watch l id={ s with wat:=s.wat.set (wAt l) (xs++[(id:Int)]) }:=by unfold PS.watch;rw[hgd]
 rw[e];exact p3
theorem yj2_{j0 j1:Nat}(h0:0<c.length)(hj0:j0<c.length)(hb0:∀i x z,0<=i->c[i]?=some x->c[j0]?=some z->s.rank x<=s.rank z)(h1:1<c.length)(hj1:j1<c.length)(h1j:1<=j1)
  (hb1:∀i x z,1<=i->(swapL c 0 j0)[i]?=some x->(swapL c 0 j0)[j1]?=some z->s.rank x<=s.rank z):Bst s (swapL (swapL c 0 j0) 1 j1):=by
 have hl:=y2p_ (c:=c) (i:=0) (j:=j0);have hp:=y17_ h0 hj0;have e0:(swapL c 0 j0)[0]?=c[j0]?:=by
  rw[yw_ h0 hj0];by_cases e:0=j0
  ·rw[if_pos e,e]
  ·rw[if_neg e,if_pos rfl]
 obtain⟨m,hm⟩:=y3_ (xs:=swapL c 0 j0) (i:=j1) (by omega);have key:∀k x,1<=k->(swapL (swapL c 0 j0) 1 j1)[k]?=some x->∃k',1<=k'/\(swapL c 0 j0)[k']?=some x:=fun k x hk hx=>by
  rw[yw_ (by omega) (by omega)]at hx
  split at hx
  ·exact⟨1,by omega,hx⟩
  ·split at hx
   ·exact⟨j1,h1j,hx⟩
   ·exact⟨k,hk,hx⟩
 have e00:(swapL (swapL c 0 j0) 1 j1)[0]?=c[j0]?:=by
  rw[yw_ (by omega) (by omega),if_neg (by omega),if_neg (by omega),e0]
 have e11:(swapL (swapL c 0 j0) 1 j1)[1]?=some m:=by
  rw[yw_ (by omega) (by omega)];by_cases e:1=j1
  ·rw[if_pos e,e,hm]
  ·rw[if_neg e,if_pos rfl,hm]
 intro i j x y hi hij hx hy
 match i,hi with
 | 0,_=>
  rw[e00]at hx;have hmem:y∈c:=by
   have:=List.mem_of_getElem? hy;rw[(y17_ (c:=swapL c 0 j0) (by omega) (by omega)).mem_iff,hp.mem_iff]at this;exact this
  obtain⟨k,hk⟩:=yb_ hmem;exact hb0 k y x (Nat.zero_le _) hk hx
 |1,_=>
  rw[e11]at hx;cases hx;obtain⟨k',hk1,hk2⟩:=key j y hij hy;exact hb1 k' y m hk1 hk2 hm
theorem yf9_(p:PropH σ T lp h s)(hn:Tn σ T)(ht:TrI n s)(hn4:n<=4000)(hL:∀x∈c,isL x n=true)(hc:s.cls[id]?=some (c,b,f))(hcl:c.length<=1000000)(hcc:s.cls.length<=1000000000000)(hb:s.ent+4<=8700000000000) :
  W (S.z83 (.ptr lp 0) (id:Int) σ) fun r=>∃T' h' c' nw s1,Hop pI σ T r.2 T'/\PropH r.2 T' lp h' s1/\(∃y,h.cs[id]?=some (y,b,f)/\h'.cs[id]?=some (y,b,f))/\c'.Perm c/\Bst s c'/\WaX (s.putC id c' b f) s1 id nw/\(nw≠[]->2<=c.length)/\nw.length<=2/\∀x∈c'.take 2,x∈nw\/x∈c.take 2:=by
 obtain⟨y,hy,hO⟩:=p.cget hc;have hlt:=y2_ hc;have hclen:=p.clen;have p0:=p;have k1:=p.obj;have k8:=p.cls;unfold S.z83
 repeat' with_reducible first|refine W.asV ?_|refine W.fldp ?_|refine W.nck ?_|refine W.u0 ?_
 refine W.ixO k8.slT (i:=id) (by omega) ?_;refine W.fldO k8.slT (i:=id) (k:=0) (j:=0) (by omega) ?_;refine W.ldO k8.slT hy (u:=y) (fun us h=>by rw[show us=[y,.bool b,.bool f]from h];rfl) ?_
 repeat' with_reducible first|refine W.asV ?_|refine W.u3 ?_
 (with_reducible refine W.cnd (fun hs=>?_) (fun hs=>?_)<;>(try simp only[qq,Kd.ty]at hs)<;>(try (exfalso;omega)))
 ·repeat' with_reducible refine W.ret ?_
  have hl2:c.length<2:=by omega
  refine⟨T,h,c,[],s,Hop.refl hn,p0,⟨y,hy,hy⟩,.refl _,fun i j x z hi hij hx hz=>?_,?_,fun e=>absurd rfl e,by simp,fun x hx=>.inr hx⟩
  ·have:=y2_ hx;have:=y2_ hz
   have:i=j:=by omega
   subst this;rw[hx]at hz;cases hz;omega
  ·rw[y76_ hc];exact WaX.refl s id
 ·have hl2:2<=c.length:=by omega
  obtain⟨a0,ha0⟩:=y3_ (xs:=c) (i:=0) (by omega);obtain⟨a1,ha1⟩:=y3_ (xs:=c) (i:=1) (by omega);refine W.ixIc (i:=0) hO.slT ha0 ?_;refine W.ixIc (i:=1) hO.slT ha1 ?_;refine W.bind ?_;refine W.mono (ydp_ (k:=0) p0 hn ht hn4 hL hc hy (by omega) hcl) fun r hr=>?_;obtain⟨r,τ1⟩:=r;obtain⟨j0,_,hj0,hb0,H1,p1⟩:=hr;dsimp only at H1 p1⊢;have hp1:=y17_ (c:=c) (i:=0) (by omega) hj0;have hlen1:=y2p_ (c:=c) (i:=0) (j:=j0);have hc1:=y1o_ hc (c':=swapL c 0 j0) (b':=b) (f':=f);have hE1:CEq s (s.putC id (swapL c 0 j0) b f):=CEq.put hc hp1;have ht1:TrI n (s.putC id (swapL c 0 j0) b f):=ht.same hE1 rfl rfl rfl rfl rfl rfl;refine W.bind ?_;refine W.mono (ydp_ (k:=1) p1 H1.tn ht1 hn4 (fun x hx=>hL x (hp1.mem_iff.1 hx)) hc1 hy (by omega) (by omega)) fun r hr=>?_;obtain⟨r,τ2⟩:=r;obtain⟨j1,hj1',hj1,hb1,H2,p2⟩:=hr;dsimp only at H2 p2⊢;rw[y89_]at p2;have hB:Bst s (swapL (swapL c 0 j0) 1 j1):=yj2_ (by omega) hj0 hb0 (by omega) (by omega) hj1' hb1;have hp2:(swapL (swapL c 0 j0) 1 j1).Perm c:=(y17_ (c:=swapL c 0 j0) (i:=1) (by omega) hj1).trans hp1;generalize hc2:swapL (swapL c 0 j0) 1 j1=c2 at p2 hB hp2;have hlen2:=hp2.length_eq;have hcg2:=y1o_ hc (c':=c2) (b':=b) (f':=f);obtain⟨y2,hy2,hO2⟩:=p2.cget hcg2;have:y2=y:=by rw[hy]at hy2;injection hy2 with hy2;exact(congrArg (·.1) hy2).symm
  subst this;obtain⟨v,e5,hv⟩:=hO2.slice (lo:=0) (hi:=2) (by omega) (by omega);rw[List.drop_zero]at hv;refine W.to ((e5 (at_le (σ:=τ2) (T:=T) (i:=40+2*id)) _).1) ?_;have hvs:=hv.sl;have hvl:(c2.take 2).length=2:=by simp;omega
  repeat' with_reducible first|refine W.bind ?_|refine W.len (by assumption) ?_
  have H12:=H1.trans H2;have hwl:(s.putC id c2 b f).wat.length=s.wat.length:=rfl;refine W.mono (P:=fun r=>∃T' h' nw s1,Hop pI σ T r.2 T'/\PropH r.2 T' lp h' s1/\h'.cs[id]?=some (y2,b,f)/\WaX (s.putC id c2 b f) s1 id nw/\nw.length<=2/\∀x∈c2.take 2,x∈nw\/x∈c.take 2) ?_ fun r hr=>?_
  ·refine W.loop 2 (fun i (x:Int) τ=>x=(i:Int)/\∃T' h' nw s1,Hop pI σ T τ T'/\SlV .int (τ.at T' (40+2*id)) (c2.take 2) v/\PropH τ T' lp h' s1/\h'.cs[id]?=some (y2,b,f)/\WaX (s.putC id c2 b f) s1 id nw/\nw.length<=i/\∀k x,k<i->(c2.take 2)[k]?=some x->x∈nw\/x∈c.take 2)
    ⟨rfl,T,h,[],_,H12,hvs,p2,hy,WaX.refl _ _,by simp,fun k x hk=>by omega⟩ fun i x τ3 hi hI=>?_
   obtain⟨rfl,T3,h3,nw,s3,H3,hvs,p3,hy3,X,hnl,hall⟩:=hI;unfold S.z83.b0;rw[hvl]
   (with_reducible refine W.cnd (fun hlt2=>?_) (fun hlt2=>?_)<;>(try simp only[qq,Kd.ty]at hlt2)<;>(try (exfalso;omega)))
   ·obtain⟨a,ha⟩:=y3_ (xs:=c2.take 2) (i:=i) (by omega)
    have hal:isL a n=true:=hL a (hp2.mem_iff.1 (List.mem_of_mem_take (List.mem_of_getElem? ha)));have hal0:=ye_ hal;have hwa:wAt a<(s.putC id c2 b f).wat.length:=by rw[hwl,ht.len.wat];exact y5b_ hal
    have w:IntKind.i64.wrap ((i:Int)+1)=((i+1:Nat):Int):=by rw[wrapS]<;>omega
    have key:W ((cond (a != a0) (some (a != a1)) (some false))) fun r=>r=decide (a∉c.take 2):=by
     have hm:a∈c.take 2↔a=a0\/a=a1:=by
      constructor
      ·intro hm
       obtain⟨k,hk⟩:=yb_ hm;have hk2:k<2:=by have:=y2_ hk;simp at this;omega
       rw[List.getElem?_take_of_lt hk2]at hk
       match k,hk2 with
       |0,_=>rw[ha0]at hk;exact .inl (Option.some.inj hk).symm
       |1,_=>rw[ha1]at hk;exact .inr (Option.some.inj hk).symm
      ·rintro(e|e)
       ·exact List.mem_of_getElem? (i:=0) (by rw[List.getElem?_take_of_lt (by omega),ha0,e])
       ·exact List.mem_of_getElem? (i:=1) (by rw[List.getElem?_take_of_lt (by omega),ha1,e])
     by_cases e0:a=a0
     ·refine W.condF (by simp[e0]) ?_
      refine W.ret ?_;have:=hm.2 (.inl e0);rw[decide_eq_false (not_not_intro this)]
     ·refine W.condT (by simp[e0]) ?_
      refine W.ret ?_;by_cases e1:a=a1
      ·have:=hm.2 (.inr e1)
       rw[decide_eq_false (not_not_intro this)];simp[e1]
      ·have:a∉c.take 2:=fun q=>(hm.1 q).elim e0 e1
       rw[decide_eq_true this];simp[e1]
    repeat' with_reducible first|refine W.bind ?_|refine W.ixIc (SlV.up (by assumption)) (by assumption) ?_
    refine W.mono key fun r hr=>?_;subst hr;by_cases hmem:a∈c.take 2
    ·refine W.condF (by simpa using hmem) ?_
     repeat' with_reducible first|refine W.next ?_|refine W.ret ?_
     refine⟨by omega,w,T3,h3,nw,s3,H3,hvs,p3,hy3,X,by omega,fun k x hk hx=>?_⟩;by_cases e:k=i
     ·subst e;rw[ha]at hx;cases hx;exact .inr hmem
     ·exact hall k x (by omega) hx
    ·refine W.condT (by simpa using hmem) ?_
     have k1:=p3.obj
     repeat' with_reducible first|refine W.bind ?_|refine W.asV ?_|refine W.fldp ?_|refine W.nck ?_|refine W.u0 ?_
     refine W.to (at_eq (by omega)) ?_
     repeat' with_reducible first|refine W.ret ?_|refine W.bind ?_|refine W.asV ?_|refine W.fldp ?_|refine W.nck ?_|refine W.u0 ?_
     refine W.to (at_eq (by omega)) ?_
     repeat' with_reducible refine W.ret ?_
     have hent:=X.ent;have hent0:(s.putC id c2 b f).ent=s.ent:=rfl;refine yao_ p3 H3.tn (by rw[X.len];exact hwa) (by omega) fun τ4 T4 h4 H4 p4 hcs=>?_
     repeat' with_reducible first|refine W.next ?_|refine W.ret ?_
     refine⟨by omega,w,T4,h4,nw++[a],s3.watch a id,H3.trans (H4.sub fun j hj=>by simp[pI]at hj⊢;omega),hvs.hop H4 (by simp;omega),p4,by rw[hcs];exact hy3,X.watch hwa,by simp;omega,fun k x hk hx=>?_⟩
     ·by_cases e:k=i
      ·subst e;rw[ha]at hx;cases hx;left;simp
      ·rcases hall k x (by omega) hx with q|q
       ·left;simp[q]
       ·exact .inr q
   ·repeat' (with_reducible refine W.stop ?_)
    have:i=2:=by omega
    subst this;exact⟨T3,h3,nw,s3,H3,p3,hy3,X,hnl,fun x hx=>by
     obtain⟨k,hk⟩:=yb_ hx;exact hall k x (by have:=y2_ hk;omega) hk⟩
  ·obtain⟨T',h',nw,s1,q1,q2,q3,q4,q5,q6⟩:=hr
   repeat' with_reducible refine W.ret ?_
   exact⟨T',h',c2,nw,s1,q1,q2,⟨y2,hy,q3⟩,hp2,hB,q4,fun _=>hl2,q5,q6⟩
end
end
section
open Go
def ANR(s:PS)(id:Nat)(c':List Int)(s1 s2:PS)(r:Bool×Bool):Prop:=
 (r=(true,true)/\s2=s1/\∀x∈c',val s.vs x=2) \/
 (r=(false,false)/\s2=s1/\2<=c'.length/\∀i x,i<2->c'[i]?=some x->val s.vs x≠2) \/
 (∃x,c'[0]?=some x/\val s.vs x≠2/\(∀y,c'[1]?=some y->val s.vs y=2)/\((val s.vs x=0/\s2=s1.setL x id)\/(val s.vs x=1/\s2=s1))/\∃below,(c'.length=1->below=0)/\(∀y,c'[1]?=some y->below=s2.lv y)/\r=(false,decide (s2.lv x>below)))
section
variable{σ τ:Heap}{T T':Tg}{lp n id:Nat}{h:PH}{s s1:PS}{l:Int}{c c':List Int}{b f:Bool}
theorem yg4_(ht:TrI n s)(hB:Bst s c){x:Int}(hx:c[0]?=some x)(h2:val s.vs x=2):∀y∈c,val s.vs y=2:=fun y hy=>by
 obtain⟨k,hk⟩:=yb_ hy;have h1:=hB 0 k x y (by omega) (Nat.zero_le _) hx hk;obtain⟨g1,g2,g3⟩:=ht.rank_le h2;refine Decidable.byContradiction fun hne=>?_;have:=ybp_ (s:=s) hne;omega
theorem yjk_(p:PropH σ T lp h s)(hn:Tn σ T)(ht:TrI n s)(hn4:n<=4000)(hL:∀x∈c,isL x n=true)(hc:s.cls[id]?=some (c,b,f))(hcl:c.length<=1000000)(hcc:s.cls.length<=1000000000000)(hb:s.ent+4<=8700000000000) :
  W (S.z74 (.ptr lp 0) (id:Int) σ) fun r=>∃T' h' c' nw s1 s2,Hop pI σ T r.2 T'/\PropH r.2 T' lp h' s2/\c'.Perm c/\Bst s c'/\WaX (s.putC id c' b f) s1 id nw/\(nw≠[]->2<=c.length)/\nw.length<=2/\(∀x∈c'.take 2,x∈nw\/x∈c.take 2)/\ANR s id c' s1 s2 r.1:=by
 obtain⟨y,hy,hO⟩:=p.cget hc;have hlt:=y2_ hc;have hclen:=p.clen;have p0:=p;have k1:=p.obj;have k8:=p.cls;unfold S.z74
 repeat' with_reducible first|refine W.asV ?_|refine W.fldp ?_|refine W.nck ?_|refine W.u0 ?_
 refine W.ixO k8.slT (i:=id) (by omega) ?_;refine W.fldO k8.slT (i:=id) (k:=0) (j:=0) (by omega) ?_;refine W.ldO k8.slT hy (u:=y) (fun us h=>by rw[show us=[y,.bool b,.bool f]from h];rfl) ?_
 repeat' with_reducible first|refine W.bind ?_|refine W.asV ?_
 refine W.mono (yf9_ p0 hn ht hn4 hL hc hcl hcc hb) fun r hr=>?_;obtain⟨r,τ1⟩:=r;obtain⟨T1,h1,c',nw,s1,H1,p1,⟨y',hy0,hy1⟩,hp,hB,X,hnw,hnl,htk⟩:=hr;dsimp only at H1 p1⊢;have:y'=y:=by rw[hy]at hy0;injection hy0 with hy0;exact(congrArg (·.1) hy0).symm
 subst this
 clear hO k1 k8
 have hlen:=hp.length_eq;have e1:s1={ s.putC id c' b f with wat:=s1.wat }:=X.eq;have hc1:s1.cls[id]?=some (c',b,f):=by rw[e1];exact y1o_ hc
 have evs:s1.vs=s.vs:=by rw[e1];rfl
 have hE1:CEq s s1:=by
  have:=CEq.put (f':=f) hc hp;exact⟨by rw[e1];exact this.1,fun j a d g1 g2=>this.2 j a d g1 (by rw[e1]at g2;exact g2)⟩
 have ht1:TrI n s1:=ht.same hE1 evs (by rw[e1];rfl) (by rw[e1];rfl) (by rw[e1];rfl) (by rw[e1];rfl) (by rw[X.len];rfl);obtain⟨y2,hy2,hO⟩:=p1.cget hc1;have:y2=y':=by rw[hy1]at hy2;injection hy2 with hy2;exact(congrArg (·.1) hy2).symm
 subst this;have hL':∀x∈c',isL x n=true:=fun x hx=>hL x (hp.mem_iff.1 hx);have k1:=p1.obj;have hmono:∀r s2 τ2,ANR s id c' s1 s2 r->(∃T' h',Hop pI τ1 T1 τ2 T'/\PropH τ2 T' lp h' s2)->∃T' h' c' nw s1 s2,Hop pI σ T τ2 T'/\PropH τ2 T' lp h' s2/\c'.Perm c/\Bst s c'/\WaX (s.putC id c' b f) s1 id nw/\(nw≠[]->2<=c.length)/\nw.length<=2/\(∀x∈c'.take 2,x∈nw\/x∈c.take 2)/\ANR s id c' s1 s2 r:=fun r s2 τ2 hA ⟨T2,h2,H2,p2⟩=>⟨T2,h2,c',nw,s1,s2,H1.trans H2,p2,hp,hB,X,hnw,hnl,htk,hA⟩;by_cases h0:c'.length=0
 ·repeat' with_reducible first|refine W.bind ?_|refine W.u3 ?_
  refine W.condT (by simp[h0]) ?_
  repeat' with_reducible refine W.ret ?_
  refine W.condT rfl ?_
  repeat' with_reducible refine W.ret ?_
  refine hmono _ s1 _ (.inl ⟨rfl,rfl,fun x hx=>?_⟩) ⟨T1,h1,Hop.refl H1.tn,p1⟩;rw[List.eq_nil_of_length_eq_zero h0]at hx;cases hx
 ·obtain⟨x,hx⟩:=y3_ (xs:=c') (i:=0) (by omega)
  have hxl:=hL' x (List.mem_of_getElem? hx)
  repeat' with_reducible first|refine W.bind ?_|refine W.u3 ?_
  refine W.condF (by simpa using h0) ?_
  repeat' with_reducible first|refine W.asV ?_|refine W.fldp ?_|refine W.nck ?_|refine W.u0 ?_
  refine W.ixIc (i:=0) hO.slT hx ?_;refine W.bind ?_;refine W.to (p1.val ht1 hn4 hxl) ?_
  repeat' with_reducible refine W.ret ?_
  rw[evs];by_cases h2:val s.vs x=2
  ·refine W.condT (by simp[h2]) ?_
   repeat' with_reducible refine W.ret ?_
   exact hmono _ s1 _ (.inl ⟨rfl,rfl,yg4_ ht hB hx h2⟩) ⟨T1,h1,Hop.refl H1.tn,p1⟩
  ·refine W.condF (by simp[h2]) ?_
   repeat' with_reducible first|refine W.bind ?_|refine W.u3 ?_
   refine W.mono (P:=fun r=>r=(decide (2<=c'.length/\∀z,c'[1]?=some z->val s.vs z≠2):Bool)) ?_ fun r hr=>?_
   ·skip
    (with_reducible refine W.cnd (fun hl=>?_) (fun hl=>?_)<;>(try simp only[qq,Kd.ty]at hl)<;>(try (exfalso;omega)))
    ·obtain⟨z,hz⟩:=y3_ (xs:=c') (i:=1) (by omega)
     repeat' with_reducible first|refine W.asV ?_|refine W.fldp ?_|refine W.nck ?_|refine W.u0 ?_
     refine W.ixIc (i:=1) hO.slT hz ?_;refine W.bind ?_;refine W.to (p1.val ht1 hn4 (hL' z (List.mem_of_getElem? hz))) ?_
     repeat' with_reducible refine W.ret ?_
     rw[evs];have:(2<=c'.length/\∀z,c'[1]?=some z->val s.vs z≠2)↔val s.vs z≠2:=⟨fun q=>q.2 z hz,fun q=>⟨by omega,fun w hw=>by rw[hz]at hw;cases hw;exact q⟩⟩;by_cases hv:val s.vs z=2
     ·rw[decide_eq_false (fun q=>this.1 q hv)];simp[hv]
     ·rw[decide_eq_true (this.2 hv)];simp[hv]
    ·repeat' with_reducible refine W.ret ?_
     rw[decide_eq_false (by omega)]
   subst hr;by_cases hq:2<=c'.length/\∀z,c'[1]?=some z->val s.vs z≠2
   ·refine W.condT (decide_eq_true hq) ?_
    repeat' with_reducible refine W.ret ?_
    refine hmono _ s1 _ (.inr (.inl ⟨rfl,rfl,hq.1,fun i w hi hw=>?_⟩)) ⟨T1,h1,Hop.refl H1.tn,p1⟩
    match i,hi with
    |0,_=>rw[hx]at hw;cases hw;exact h2
    |1,_=>exact hq.2 w hw
   ·refine W.condF (decide_eq_false hq) ?_
    have hq2:∀z,c'[1]?=some z->val s.vs z=2:=fun z hz=>Decidable.byContradiction fun hne=>hq ⟨by have:=y2_ hz;omega,fun w hw=>by rw[hz]at hw;cases hw;exact hne⟩
    repeat' with_reducible first|refine W.asV ?_|refine W.fldp ?_|refine W.nck ?_|refine W.u0 ?_
    refine W.ixIc (i:=0) hO.slT hx ?_;refine W.bind ?_;refine W.to (p1.val ht1 hn4 hxl) ?_
    repeat' with_reducible refine W.ret ?_
    rw[evs];refine W.mono (P:=fun(r:(Unit⊕(Bool×Bool))×Heap)=>∃u s2,r.1=.inl u/\((val s.vs x=0/\s2=s1.setL x id)\/(val s.vs x=1/\s2=s1))/\∃T' h',Hop pI τ1 T1 r.2 T'/\PropH r.2 T' lp h' s2/\h'.cs=h1.cs) ?_ fun r hr=>?_
    ·by_cases hv:val s.vs x=0
     ·refine W.condT (by simp[hv]) ?_
      skip
      refine W.ixIc (i:=0) hO.slT hx ?_;refine W.bind ?_;refine W.mono (yb1_ p1 H1.tn ht1 hn4 hxl (by rw[evs];exact h2) (mk:=s1.marks) rfl (by have:=ht1.lenM;have:=ht1.lenT;omega)) fun r hr=>?_;obtain⟨T2,h2',H2,p2,e2⟩:=hr
      repeat' with_reducible refine W.ret ?_
      exact⟨(),_,rfl,.inl ⟨hv,rfl⟩,T2,h2',H2,p2,e2⟩
     ·refine W.condF (by simp[hv]) ?_
      repeat' with_reducible refine W.ret ?_
      have:=y1q_ ht.ok x;exact⟨(),s1,rfl,.inr ⟨by omega,rfl⟩,T1,h1,Hop.refl H1.tn,p1,rfl⟩
    ·obtain⟨r,τ2⟩:=r
     obtain⟨u,s2,e,hs2,T2,h2',H2,p2,e2⟩:=hr;dsimp only at e H2 p2⊢;subst e;have hc2:s2.cls[id]?=some (c',b,f):=by
      rcases hs2 with ⟨_,e⟩|⟨_,e⟩<;>rw[e]<;>exact hc1
     have ht2:s2.lev.length=n+1:=by
      rcases hs2 with ⟨_,e⟩|⟨_,e⟩<;>rw[e]
      ·simp[PS.setL,ht1.len.lev]
      ·exact ht1.len.lev
     have hget:∀z,isL z n=true->s2.lev[z.natAbs]?=some (s2.lv z):=fun z hz=>by
      have:=ye_ hz;unfold PS.lv;rw[List.getD_eq_getElem?_getD,List.getElem?_eq_getElem (by omega)];rfl
     obtain⟨y3,hy3,hO2⟩:=p2.cget hc2;have:y3=y2:=by rw[e2,hy1]at hy3;injection hy3 with hy3;exact(congrArg (·.1) hy3).symm
     subst this
     clear hO k1
     have k1:=p2.obj;have k4:=p2.lev
     repeat' with_reducible first|refine W.bind ?_|refine W.u3 ?_
     refine W.mono (P:=fun below=>(c'.length=1->below=0)/\∀y,c'[1]?=some y->below=s2.lv y) ?_ fun below hbl=>?_
     ·(with_reducible refine W.cnd (fun hl=>?_) (fun hl=>?_)<;>(try simp only[qq,Kd.ty]at hl)<;>(try (exfalso;omega)))
      ·obtain⟨z,hz⟩:=y3_ (xs:=c') (i:=1) (by omega)
       have hzl:=hL' z (List.mem_of_getElem? hz);have hg:=hget z hzl
       repeat' with_reducible first|refine W.asV ?_|refine W.fldp ?_|refine W.nck ?_|refine W.u0 ?_
       refine W.ixIc (i:=1) hO2.slT hz ?_;refine W.bind ?_;refine W.to (yq_ hzl hn4) ?_
       repeat' with_reducible first|refine W.ret ?_|refine W.u2 ?_
       exact⟨fun q=>by omega,fun w hw=>by rw[hz]at hw;cases hw;rfl⟩
      ·repeat' with_reducible refine W.ret ?_
       exact⟨fun _=>rfl,fun w hw=>by have:=y2_ hw;omega⟩
     ·have hg:=hget x hxl
      repeat' with_reducible first|refine W.asV ?_|refine W.fldp ?_|refine W.nck ?_|refine W.u0 ?_
      refine W.ixIc (i:=0) hO2.slT hx ?_;refine W.bind ?_;refine W.to (yq_ hxl hn4) ?_
      repeat' with_reducible first|refine W.ret ?_|refine W.u2 ?_
      exact hmono _ s2 _ (.inr (.inr ⟨x,hx,h2,hq2,hs2,below,hbl.1,hbl.2,rfl⟩)) ⟨T2,h2',H2,p2⟩
end
end
section
open Go
def Rd(s:PS)(P:List Int)(out:Int):Prop:=s.marks=[]\/(out = -1/\(P=[]\/∃id:Nat,P=[(id:Int)]/\Ready s id))
section
variable{n id:Nat}{s s0 s1 s2:PS}{x out:Int}{c c' nw P:List Int}{b f:Bool}{r:Bool×Bool}
theorem AgI.start(S:StI n s):AgI n s { s with loose:=[] } s.loose (-1):=by
 obtain⟨h,e1,e2,e3,e4⟩:=S.hd;have hE:CEq s { s with loose:=[] }:=⟨rfl,(CEq.refl s).2⟩;refine⟨S.ti.same hE rfl rfl rfl rfl rfl rfl,S.ci,⟨by simpa using S.li.nd,fun x hx=>S.li.fl x (by simpa using hx),fun j d b hj=>by simpa using S.li.lf j d b hj⟩,S.wi,fun w hw e he=>(S.wr w hw e he).ceq hE,rfl,fun k hk=>?_,PEx.same hE rfl rfl rfl,?_,fun _=>rfl,fun q=>absurd rfl q⟩
 ·have:k=h:=by omega
  subst this;exact⟨e2,fun j d hd=>⟨(e4 j d hd).ne,(e4 j d hd).one,(e4 j d hd).two⟩⟩
 ·show s.ent+2*(s.loose.length+0)<=_
  rw[if_pos rfl];omega
theorem AgI.gone(A:AgI n s0 s ((id:Int)::P) out)(hc:s.cls[id]?=some (c,false,true)):AgI n s0 (s.putC id c false false) P out:=by
 have hE:CEq s (s.putC id c false false):=CEq.put hc (.refl c);have hid:=y1o_ hc (c':=c) (b':=false) (f':=false);have hoth:∀j,j≠id->(s.putC id c false false).cls[j]?=s.cls[j]?:=fun j hj=>by show(s.cls.set id _)[j]?=_;rw[List.getElem?_set,if_neg fun e=>hj e.symm]
 have hEx:PEx s (s.putC id c false false):=PEx.same hE rfl rfl rfl;have hnd:=A.li.nd;rw[List.cons_append,List.nodup_cons]at hnd;refine⟨A.ti.same hE rfl rfl rfl rfl rfl rfl,A.ci.ceq hE,⟨hnd.2,fun x hx=>?_,fun j d b hj=>?_⟩,?_,fun w hw e he=>(A.wr w hw e he).ceq hE,A.hd,fun k hk=>⟨(A.ji k hk).1,?_⟩,A.ex.trans hEx,?_,A.o1,fun q=>?_⟩
 ·obtain⟨j,d,b,e,h2⟩:=A.li.fl x (by simp at hx⊢;exact .inr hx)
  have hne:j≠id:=fun q=>hnd.1 (by rw[<-q,<-e];exact hx);exact⟨j,d,b,e,by rw[hoth j hne];exact h2⟩
 ·by_cases e:j=id
  ·subst e;rw[hid]at hj;cases hj
  ·rw[hoth j e]at hj
   have:=A.li.lf j d b hj;rw[List.cons_append,List.mem_cons]at this;exact this.resolve_left fun q=>e (Int.ofNat.inj q)
 ·refine A.wi.upd (id:=id) hoth (fun x e he=>he) (fun x j _ q=>q.elim) fun d f hd hl i x hi hx=>?_
  rw[hid]at hd;cases hd
 ·refine(A.ji k hk).2.upd (id:=id) hEx (Nat.le_trans (A.ji k hk).1 A.ex.lenT) hoth fun d hd=>?_
  rw[hid]at hd;cases hd
 ·have:=A.en
  have e:(s.putC id c false false).ent=s.ent:=rfl;have e2:(s.putC id c false false).loose=s.loose:=rfl;rw[e,e2];simp at this⊢;omega
 ·obtain⟨h1,j,d,g,h2,h3,h4⟩:=A.o2 q
  obtain⟨d',g',h5,pm⟩:=hE.get h3;exact⟨h1,j,d',g',h2,h5,fun x hx=>h4 x (pm.mem_iff.1 hx)⟩
theorem AgI.keep(A:AgI n s0 s ((id:Int)::P) out):AgI n s0 { s with loose:=s.loose++[(id:Int)] } P out\/out = -1:=by
 by_cases ho:out = -1
 ·exact .inr ho
 left;have hE:CEq s { s with loose:=s.loose++[(id:Int)] }:=⟨rfl,(CEq.refl s).2⟩;have hEx:PEx s { s with loose:=s.loose++[(id:Int)] }:=PEx.same hE rfl rfl rfl;have hmem:∀x,x∈P++(s.loose++[(id:Int)])↔x∈(id:Int)::P++s.loose:=fun x=>by
  simp only[List.mem_append,List.mem_cons,List.mem_singleton,List.cons_append,List.not_mem_nil,or_false];constructor
  ·rintro(h|h|h)
   ·exact .inr (.inl h)
   ·exact .inr (.inr h)
   ·exact .inl h
  ·rintro(h|h|h)
   ·exact .inr (.inr h)
   ·exact .inl h
   ·exact .inr (.inl h)
 refine⟨A.ti.same hE rfl rfl rfl rfl rfl rfl,A.ci.ceq hE,⟨?_,fun x hx=>A.li.fl x ((hmem x).1 hx),fun j d b hj=>(hmem _).2 (A.li.lf j d b hj)⟩,A.wi,fun w hw e he=>(A.wr w hw e he).ceq hE,A.hd,fun k hk=>⟨(A.ji k hk).1,fun j d hd=>((A.ji k hk).2 j d hd).ext hEx (Nat.le_trans (A.ji k hk).1 A.ex.lenT)⟩,A.ex.trans hEx,?_,fun q=>absurd q ho,A.o2⟩
 ·have hnd:=A.li.nd
  have hp:(P++(s.loose++[(id:Int)])).Perm ((id:Int)::P++s.loose):=by
   rw[<-List.append_assoc,List.cons_append];exact List.perm_append_singleton _ _
  exact hp.nodup_iff.2 hnd
 ·have:=A.en
  have e:PS.ent { s with loose:=s.loose++[(id:Int)] }=s.ent:=rfl;rw[e];simp at this⊢;omega
theorem yf2_(ht:TrI n s)(hB:Bst s c)(hx:c[0]?=some x)(h2:∀y,c[1]?=some y->val s.vs y=2):∀y∈c,y≠x->val s.vs y=2:=fun y hy hne=>by
 obtain⟨k,hk⟩:=yb_ hy;have hk1:1<=k:=Nat.pos_of_ne_zero fun e=>by subst e;rw[hx]at hk;exact hne (Option.some.inj hk).symm
 have hkl:=y2_ hk;obtain⟨z,hz⟩:=y3_ (xs:=c) (i:=1) (by omega);have h1:=hB 1 k z y (by omega) hk1 hz hk;obtain⟨g1,g2,g3⟩:=ht.rank_le (h2 z hz);refine Decidable.byContradiction fun hne=>?_;have:=ybp_ (s:=s) hne;omega
theorem AgI.look(A:AgI n s0 s ((id:Int)::P) (-1))(hR:Rd s ((id:Int)::P) (-1))(h:AnI s s1 id c c' nw)(hA:ANR (s.putC id c true false) id c' s1 s2 r) :
  (r=(true,true)/\s2=s1/\s.marks=[]/\AgI n s0 (s1.look id) P id)\/(r=(false,false)/\AgI n s0 s2 P (-1)/\Rd s2 P (-1)):=by
 obtain⟨f1,f2,f3,f4,f5,f6,f7,f8,f9⟩:=h.ff;obtain⟨b1,b2,b3,b4,b5,b6,b7,b8,b9,b10,b11,b12⟩:=h.base A;have hfv:∀x,val (s.putC id c true false).vs x=val s.vs x:=fun x=>rfl;have hRP:∀s':PS,s'.marks=s.marks->Rd s' P (-1):=fun s' e=>by
  rcases hR with q|⟨_,q|⟨j,q,_⟩⟩
  ·exact .inl (by rw[e];exact q)
  ·cases q
  ·refine .inr ⟨rfl,.inl ?_⟩
   have:=congrArg List.tail q;simpa using this
 have hrdy:s.marks=[]\/Ready s id:=by
  rcases hR with q|⟨_,q|⟨j,q,w⟩⟩
  ·exact .inl q
  ·cases q
  ·have:j=id:=by have:=(List.cons.inj q).1;omega
   subst this;exact .inr w
 rcases hA with ⟨e1,e2,e3⟩|⟨e1,e2,e3,e4⟩|⟨x,hx,hx2,hy2,hs2,below,hb1,hb2,er⟩
 ·left
  have hm:s.marks=[]:=by
   rcases hrdy with q|⟨d,g,hd,l,hl,hl0,hl1,hl2,hl3⟩
   ·exact q
   ·rw[h.hc]at hd;cases hd
    have:=e3 l (h.pm.mem_iff.2 hl);rw[hfv]at this;omega
  exact⟨e1,e2,hm,A.bad h hm e3⟩
 ·right
  subst e2;refine⟨e1,A.good h (PEx.refl _) b1 rfl rfl rfl rfl fun k _=>JuC.top b1 e3 fun i x hi hx=>?_,hRP s2 f5⟩;rw[f1];exact e4 i x hi hx
 ·right
  have hbf:=yf2_ A.ti h.bst hx hy2;have hxc:=List.mem_of_getElem? hx;have hxl:=(b2 id c' false b8).1 x hxc;have hv1:∀y,val s1.vs y=val s.vs y:=fun y=>by rw[f1]
  have hlv1:∀y,s1.lv y=s.lv y:=fun y=>by simp[PS.lv,f2]
  have key:TrI n s2/\PEx s1 s2/\s2.cls=s1.cls/\s2.wat=s1.wat/\s2.head=s1.head/\s2.loose=s1.loose/\x∈s2.trail/\(val s.vs x=0->s2.lv x=s.marks.length):=by
   rcases hs2 with ⟨e0,e⟩|⟨e0,e⟩
   ·rw[hfv]at e0
    rw[<-hv1]at e0;subst e;exact⟨b1.set b8 hxc hxl e0 fun y hy hne=>by rw[hv1];exact hbf y hy hne,PEx.setL b1 hxl e0 _,rfl,rfl,rfl,rfl,by simp[PS.setL],fun _=>by rw[(y7k_ b1 hxl e0).2,f5]⟩
   ·rw[hfv]at e0
    subst e;exact⟨b1,PEx.refl _,rfl,rfl,rfl,rfl,(b1.tr x).1 (by rw[hv1];exact e0),fun q=>by omega⟩
  obtain⟨t2,E2,g1,g2,g3,g4,g5,g6⟩:=key;have hm2:s2.marks=s.marks:=E2.mks.trans f5;have hlx:=t2.lv x g5;have hbelow:0<=below/\∀y,c'[1]?=some y->s2.lv y=s.lv y:=by
   have hyy:∀y,c'[1]?=some y->s2.lv y=s.lv y:=fun y hy=>by
    have hm:=A.ti.neg.1 (hy2 y hy);have:=E2.lv (-y) (by rw[f4];exact hm);rw[PS.lv_neg,PS.lv_neg,hlv1]at this;exact this
   refine⟨?_,hyy⟩;cases hq:c'[1]? with
   |none=>
    have h1:=y2_ hx;have h2:=List.getElem?_eq_none_iff.1 hq;have:=hb1 (by omega);omega
   |some y=>
    rw[hb2 y hq,hyy y hq];exact(A.ti.rank_le (hy2 y hq)).2.1
  have hle:s2.lv x<=below:=by
   rcases hrdy with q|⟨d,g,hd,l,hl,hl0,hl1,hl2,hl3⟩
   ·rw[hm2,q]at hlx
    have:=hlx.2;simp at this;omega
   ·rw[h.hc]at hd;cases hd
    have exl:x=l:=Decidable.byContradiction fun hne=>hx2 (hl1 x (h.pm.mem_iff.1 hxc) hne);subst exl;rw[g6 hl0];by_cases hlen:c'.length=1
    ·rw[hb1 hlen]
     have:=hl3 (by rw[<-h.pm.length_eq];exact hlen);rw[this];simp
    ·have h1:=y2_ hx
     obtain⟨y,hy⟩:=y3_ (xs:=c') (i:=1) (by omega);obtain⟨z,hz1,hz2,hz3⟩:=hl2 (by rw[<-h.pm.length_eq];omega);obtain⟨k,hk⟩:=yb_ (h.pm.mem_iff.2 hz1);have hk1:1<=k:=Nat.pos_of_ne_zero fun e=>by subst e;rw[hx]at hk;exact hz2 (Option.some.inj hk).symm
     have h2:=h.bst 1 k y z (by omega) hk1 hy hk;have h3:=(A.ti.rank_le (hl1 z hz1 hz2)).1;have h4:=(A.ti.rank_le (hy2 y hy)).1;rw[hb2 y hy,hbelow.2 y hy];omega
  refine⟨by rw[er,decide_eq_false (by omega)],A.good h E2 t2 g1 g2 g3 g4 fun k _=>JuC.sat t2 hx g5 (fun hlen=>?_) fun y hy=>?_,hRP s2 hm2⟩
  ·have:=hb1 hlen;omega
  ·rw[<-hb2 y hy];exact hle
end
end
section
open Go
theorem Own.retag{α:Type}{v:Vw α}{σ:Heap}{T:Tg}{t u:Nat}{xs:List α}{x:AVal}(h:Own v (σ.at T t) xs x)(hf:v.Flat)(hn:Tn σ T):∃T',Hop (only t) σ T σ T'/\Own v (σ.at T' u) xs x:=by
 rcases h with ⟨rfl,rfl⟩|⟨l,off,c,cs,rfl,h2,h3,h4,h5,h6⟩
 ·exact⟨T,Hop.refl hn,.nil⟩
 ·obtain⟨e1,e2⟩:=y1g_.1 h3
  have h2:l<σ.next:=h2;refine⟨T.upd l u,⟨Nat.le_refl _,⟨fun k hk=>by rw[y1e_ (by omega)];exact hn.z k hk⟩,fun k hk hI=>y1e_ fun e=>by subst e;simp[only,e1]at hI,fun k o hk hI hg=>hg⟩,.inr ⟨l,off,c,cs,rfl,h2,at_of y16_ e2,h4,h5,fun i a ha=>hf _ _ _ _ (h6 i a ha)⟩⟩
section
variable{σ τ:Heap}{T T':Tg}{lp n id:Nat}{h:PH}{s s1:PS}{l:Int}{c c':List Int}{b f:Bool}
theorem ClI.len(h:ClI n s)(hc:s.cls[id]?=some (c,true,f)):c.length<=n:=by
 obtain⟨h1,h2⟩:=h id c f hc;have:=y2k_ n (c.map Int.natAbs) h2 fun x hx=>by
  obtain⟨l,hl,rfl⟩:=List.mem_map.1 hx;have:=ye_ (h1 l hl);omega
 simpa using this
theorem yjc_(p:PropH σ T lp h s)(hn:Tn σ T)(hS:StI n s)(hn4:n<=4000)(hb:s.ent+2*s.loose.length+10<=8700000000000)(hcc:s.cls.length<=1000000000000)(hR:Rd s s.loose (-1)) :
  W (S.z73 (.ptr lp 0) σ) fun r=>∃T' h' s',Hop pI σ T r.2 T'/\PropH r.2 T' lp h' s'/\AgI n s s' [] r.1/\-1<=r.1:=by
 have hll:s.loose.length<=8700000000000:=by omega
 have hsl:∀x∈s.loose,∃j:Nat,x=j:=fun x hx=>by
  obtain⟨j,_,_,e,_⟩:=hS.li.fl x (by simpa using hx);exact⟨j,e⟩
 obtain⟨k1,k2,k3,k4,k5,k6,k7,k8,k9,k10,k11,k12,k13⟩:=p;unfold S.z73
 repeat' with_reducible first|refine W.asV ?_|refine W.fldp ?_|refine W.nck ?_|refine W.u0 ?_
 obtain⟨T1,HR,kS⟩:=k10.retag (u:=0) Vw.int_flat hn;have HH:Hop pI σ T σ T1:=(Hop.refl hn).inP HR;replace k1:=k1.hop HR;replace k2:=k2.hop HR;replace k3:=k3.hop HR;replace k4:=k4.hop HR;replace k5:=k5.hop HR;replace k6:=k6.hop HR;replace k7:=k7.hop HR;replace k8:=k8.hop HR;replace k9:=k9.hop HR;replace k11:=k11.hop HR;replace k13:=k13.hop HR;replace hn:=HR.tn;have kS:=kS.sl;refine W.stT k1 hn (Nat.le_of_ble_eq_true (by rfl)) fun τ1 H1 k1 hnτ1=>?_;replace HH:=HH.inP H1;replace kS:=kS.hop H1;replace k2:=k2.hop H1;replace k3:=k3.hop H1;replace k4:=k4.hop H1;replace k5:=k5.hop H1;replace k6:=k6.hop H1;replace k7:=k7.hop H1;replace k8:=k8.hop H1;replace k9:=k9.hop H1;replace k11:=k11.hop H1;replace k13:=k13.hop H1;replace hn:=H1.tn;have p1:PropH τ1 T1 lp { h with xo:=.nils } { s with loose:=[] }:=⟨k1,k2,k3,k4,k5,k6,k7,k8,k9,.nil,k11,k12,k13⟩
 repeat' with_reducible first|refine W.bind ?_|refine W.len (by assumption) ?_
 refine W.mono (P:=fun r=>∃T' h' s',Hop pI σ T r.2 T'/\PropH r.2 T' lp h' s'/\AgI n s s' [] r.1/\-1<=r.1) ?_ fun r hr=>W.ret hr;refine W.loop s.loose.length (fun i (x:Int×Int) τ=>x.2=(i:Int)/\∃T' h' s',Hop pI σ T τ T'/\SlV .int (τ.at T' 0) s.loose h.xo/\PropH τ T' lp h' s'/\AgI n s s' (s.loose.drop i) x.1/\-1<=x.1/\Rd s' (s.loose.drop i) x.1) ⟨rfl,T1,_,_,HH,kS,p1,AgI.start hS,by omega,?_⟩ fun i x τ hi hI=>?_
 ·rcases hR with q|⟨q1,q2|⟨j,q2,q3⟩⟩
  ·exact .inl q
  ·exact .inr ⟨rfl,.inl q2⟩
  ·exact .inr ⟨rfl,.inr ⟨j,q2,q3⟩⟩
 obtain⟨out,z⟩:=x;obtain⟨hz,T2,h2,s2,H2,kS,p2,A,ho,hR2⟩:=hI;dsimp only at hz A ho hR2⊢;subst hz;have hn2:=H2.tn;unfold S.z73.b0
 (with_reducible refine W.cnd (fun hlt=>?_) (fun hlt=>?_)<;>(try simp only[qq,Kd.ty]at hlt)<;>(try (exfalso;omega)))
 ·obtain⟨a,ha⟩:=y3_ (xs:=s.loose) (i:=i) (by omega)
  obtain⟨id,rfl⟩:=hsl a (List.mem_of_getElem? ha);have hdr:s.loose.drop i=(id:Int)::s.loose.drop (i+1):=by
   rw[List.drop_eq_getElem_cons (by omega)];rw[(List.getElem?_eq_some_iff.1 ha).2]
  rw[hdr]at A hR2;obtain⟨j,c,b,ej,hc⟩:=A.li.fl (id:Int) (by simp);have:id=j:=Int.ofNat.inj ej;subst this;have hlc:=y2_ hc;have hclen:=p2.clen;have hcl2:s2.cls.length=s.cls.length:=A.ex.ceq.1;obtain⟨y,hy,hO⟩:=p2.cget hc;obtain⟨k1,k2,k3,k4,k5,k6,k7,k8,k9,k10,k11,k12,k13⟩:=p2;have w:IntKind.i64.wrap ((i:Int)+1)=((i+1:Nat):Int):=by rw[wrapS]<;>omega
  repeat' with_reducible first|refine W.bind ?_|refine W.asV ?_|refine W.fldp ?_|refine W.nck ?_|refine W.u0 ?_|refine W.ixIc (SlV.up (by assumption)) (by assumption) ?_
  refine W.ixO k8.slT (i:=id) (by omega) ?_;refine W.fldO k8.slT (i:=id) (k:=0) (j:=2) (by omega) ?_;refine W.own_set y6c_ k8 hn2 hy (k:=2) [y,.bool b,.bool true] (y,b,false) (by decide) (fun bs h=>h) (fun _=>rfl) fun τ3 k8 H3 _=>?_;replace H2:=H2.inP H3;replace kS:=kS.hop H3;replace k1:=k1.hop H3;replace k2:=k2.hop H3;replace k3:=k3.hop H3;replace k4:=k4.hop H3;replace k5:=k5.hop H3;replace k6:=k6.hop H3;replace k7:=k7.hop H3;replace k9:=k9.hop H3;replace k10:=k10.hop H3;replace k11:=k11.hop H3;replace k13:=k13.hop H3;replace hn:=H3.tn;have p3:PropH τ3 T2 lp { h2 with cs:=h2.cs.set id (y,b,false) } (s2.putC id c b false):=⟨k1,k2,k3,k4,k5,k6,k7,k8,k9,k10,by
   show Fam τ3 T2 40 ((s2.cls.set id (c,b,false)).map (·.1)) ((h2.cs.set id (y,b,false)).map (·.1));rw[y1n_ (f:=(·.1)) (b:=(c,b,false)) hc rfl,y1n_ (f:=(·.1)) (b:=(y,b,false)) hy rfl];exact k11,by
   show(h2.cs.set id (y,b,false)).map (·.2)=(s2.cls.set id (c,b,false)).map (·.2);rw[List.map_set,List.map_set,k12],k13⟩
  have hy3:(h2.cs.set id (y,b,false))[id]?=some (y,b,false):=by rw[List.getElem?_set,if_pos rfl,if_pos (y2_ hy)]
  have hl3:(h2.cs.set id (y,b,false)).length=h2.cs.length:=by simp
  repeat' with_reducible first|refine W.asV ?_|refine W.fldp ?_|refine W.nck ?_|refine W.u0 ?_
  refine W.ixO k8.slT (i:=id) (by omega) ?_;refine W.fldO k8.slT (i:=id) (k:=0) (j:=1) (by omega) ?_;refine W.ldO k8.slT hy3 (u:=.bool b) (fun us h=>by rw[show us=[y,.bool b,.bool false]from h];rfl) ?_
  repeat' (with_reducible refine W.asB ?_)
  have hc3:=y1o_ hc (c':=c) (b':=b) (f':=false);have hen:s2.ent+2*s2.loose.length<=s.ent+2*s.loose.length+2:=by
   have:=A.en;simp at this
   split at this<;>omega
  have hmk:s2.marks=s.marks:=A.ex.mks;have hRk:∀s':PS,s'.marks=s2.marks->Rd s2 ((id:Int)::s.loose.drop (i+1)) out->out≠-1->∀P o,Rd s' P o:=fun s' e hR ho P o=>by
   rcases hR with q|⟨q,_⟩
   ·exact .inl (by rw[e];exact q)
   ·exact absurd q ho
  cases b with
  | false=>
   refine W.condT rfl ?_
   repeat' with_reducible first|refine W.next ?_|refine W.ret ?_
   refine⟨by omega,w,T2,_,_,H2,kS,p3,A.gone hc,ho,?_⟩;rcases hR2 with q|⟨q1,q|⟨j,q,w⟩⟩
   ·exact .inl q
   ·cases q
   ·obtain⟨d,g,hd,_⟩:=w
    have:id=j:=by have:=(List.cons.inj q).1;omega
    subst this;rw[hc]at hd;cases hd
  | true=>
   refine W.condF rfl ?_
   (with_reducible refine W.cnd (fun hout=>?_) (fun hout=>?_)<;>(try simp only[qq,Kd.ty]at hout)<;>(try (exfalso;omega)))
   ·have ho1:out≠-1:=by omega
    repeat' (with_reducible refine W.bind ?_)
    refine W.mono (y5n_ p3 H2.tn (id:=id) (by simpa[PS.putC]using hlc) (by show s2.loose.length<=_;omega) (by simp[PS.putC];omega)) fun r hr=>?_;obtain⟨r,τ4⟩:=r;obtain⟨T4,h4,H4,p4⟩:=hr
    repeat' with_reducible first|refine W.next ?_|refine W.ret ?_
    have e:(s2.putC id c true false).look id={ s2 with loose:=s2.loose++[(id:Int)] }:=by
     unfold PS.look;rw[hc3];have:=y76_ hc;simp only[PS.putC]at this⊢;rw[List.set_set];have e2:=congrArg PS.cls this;simp only at e2;rw[e2]
    rw[e]at p4;refine⟨by omega,w,T4,h4,_,H2.trans H4,kS.hop H4,p4,(A.keep).resolve_right ho1,ho,hRk _ rfl hR2 ho1 _ _⟩
   ·have ho1:out = -1:=by omega
    subst ho1;have hE3:CEq s2 (s2.putC id c true false):=CEq.put hc (.refl c);have ht3:TrI n (s2.putC id c true false):=A.ti.same hE3 rfl rfl rfl rfl rfl rfl
    repeat' (with_reducible refine W.bind ?_)
    refine W.mono (yjk_ p3 H2.tn ht3 hn4 (A.ci id c true hc).1 hc3 (by have:=A.ci.len hc;omega) (by simp[PS.putC];omega) (by show s2.ent+4<=_;omega)) fun r hr=>?_;obtain⟨⟨bad,more⟩,τ4⟩:=r;obtain⟨T4,h4,c',nw,s4,s5,H4,p4,hp,hB,X,hnw,hnl,htk,hA⟩:=hr;dsimp only at H4 p4 hA⊢;rw[y89_]at X;have hAN:AnI s2 s4 id c c' nw:=⟨hc,hp,hB,X,hnw,hnl,htk⟩;rcases A.look hR2 hAN hA with ⟨e1,e2,e3,e4⟩|⟨e1,e2,e3⟩
    ·cases e1
     subst e2;refine W.bind ?_;refine W.condT rfl ?_
     repeat' with_reducible refine W.ret ?_
     refine W.condT rfl ?_;have f7:=hAN.ff.2.2.2.2.2.2.1;have f8:=hAN.ff.2.2.2.2.2.2.2.1;have hx:=X.ent;have hx2:(s2.putC id c' true false).ent=s2.ent:=rfl;refine W.bind ?_;refine W.mono (y5n_ p4 H4.tn (id:=id) (by rw[f8];simpa using hlc) (by rw[f7];omega) (by rw[f8];simp;omega)) fun r hr=>?_;obtain⟨r,τ5⟩:=r;obtain⟨T5,h5,H5,p5⟩:=hr
     repeat' with_reducible first|refine W.next ?_|refine W.ret ?_
     exact⟨by omega,w,T5,h5,_,(H2.trans H4).trans H5,(kS.hop H4).hop H5,p5,e4,by omega,.inl (by
      have f5:=hAN.ff.2.2.2.2.1;have:(s5.look id).marks=s5.marks:=by
       unfold PS.look
       split<;>rfl
      rw[this,f5];exact e3)⟩
    ·cases e1
     refine W.bind ?_;refine W.condF rfl ?_
     repeat' with_reducible refine W.ret ?_
     refine W.condF rfl ?_
     repeat' with_reducible first|refine W.next ?_|refine W.ret ?_
     refine⟨by omega,w,T4,h4,s5,H2.trans H4,kS.hop H4,p4,e2,ho,e3⟩
 ·repeat' (with_reducible refine W.stop ?_)
  have:i=s.loose.length:=by omega
  subst this;rw[List.drop_length]at A;exact⟨T2,h2,s2,H2,p2,A,ho⟩
end
end
section
open Go
def VisR(s:PS)(id:Nat)(f:Int)(r:Bool×Bool)(s':PS):Prop:=
  (r=(false,false)/\s'=s/\∀c fl,s.cls[id]?=some (c,true,fl)->∀i,i<2->c[i]?≠some f) \/
  ∃c c' y,s.cls[id]?=some (c,true,false)/\(c'=c\/c'=swapL c 0 1)/\c'[0]?=some y/\c'[1]?=some f /\
    ((val s.vs y=1/\r=(true,false)/\s'=s.putC id c' true false) \/
     (∃k z,2<=k/\c'[k]?=some z/\val s.vs z≠2/\r=(false,false)/\s'=(s.putC id (swapL c' 1 k) true false).watch z id) \/
     ((∀(k:Nat) z,2<=k->c'[k]?=some z->val s.vs z=2)/\val s.vs y=2/\r=(true,true)/\s'=s.putC id c' true false) \/
     ((∀(k:Nat) z,2<=k->c'[k]?=some z->val s.vs z=2)/\val s.vs y=0/\r=(true,false)/\s'=(s.putC id c' true false).setL y id))
section
variable{n h id:Nat}{s s0 s':PS}{x f out:Int}{c c' stay R:List Int}{b:Bool}{r:Bool×Bool}
theorem FaI.visit(A:FaI n s0 s h f stay ((id:Int)::R) (-1))(V:VisR s id f r s'):FaI n s0 s' h f (if r.1 then stay++[(id:Int)]else stay) R (if r.2 then(id:Int)else -1):=by
 rcases V with ⟨e1,e2,e3⟩|⟨c,c',y,hc,hcc,hy,hf,V⟩
 ·subst e1 e2
  exact A.skip e3
 have hl2:2<=c.length:=by
  have h1:=y2_ hf;rcases hcc with e|e
  ·rw[e]at h1;omega
  ·rw[e,y2p_]at h1;omega
 have hp:c'.Perm c:=by
  rcases hcc with e|e
  ·rw[e]
  ·rw[e];exact y17_ (by omega) (by omega)
 have hlen:=hp.length_eq;have hJ0:JuC s h c':=by
  have:=A.ji id c hc;rcases hcc with e|e
  ·rw[e];exact this
  ·rw[e];exact this.swap hl2
 have hci:=A.ci id c false hc;have hnd:(c'.map Int.natAbs).Nodup:=(hp.map _).nodup_iff.2 hci.2;have hyc:=List.mem_of_getElem? hy;have hfc:=List.mem_of_getElem? hf;have hyl:=hci.1 y (hp.mem_iff.1 hyc);have hdiff:∀(i j:Nat) a,c'[i]?=some a->c'[j]?=some a->i=j:=fun i j a h1 h2=>nd_ix (xs:=c'.map Int.natAbs) hnd (a:=a.natAbs) (by simp[h1]) (by simp[h2]);have hyf:y≠f:=fun e=>by have:=hdiff 0 1 y hy (by rw[e];exact hf);omega
 have hfv:=A.fv;have hwold:∀x,(x=y\/x=f)->(id:Int)∈s.wat.getD (wAt x) []\/(x=f/\(id:Int)∈stay++(id:Int)::R):=fun x hx=>by
  have:∃i,i<2/\c[i]?=some x:=by
   have key:∀i:Nat,i<2->c'[i]?=some x->∃i:Nat,i<2/\c[i]?=some x:=fun i hi hx=>by
    rcases hcc with e|e
    ·rw[e]at hx;exact⟨i,hi,hx⟩
    ·rw[e,yw_ (by omega) (by omega)]at hx
     split at hx
     ·exact⟨0,by omega,hx⟩
     ·split at hx
      ·exact⟨1,by omega,hx⟩
      ·exact⟨i,hi,hx⟩
   rcases hx with e|e
   ·exact key 0 (by omega) (by rw[hy,e])
   ·exact key 1 (by omega) (by rw[hf,e])
  obtain⟨i,hi,hx⟩:=this;exact A.wi id c false hc hl2 i x hi hx
 have hE1:CEq s (s.putC id c' true false):=CEq.put hc hp;have ht1:TrI n (s.putC id c' true false):=A.ti.same hE1 rfl rfl rfl rfl rfl rfl;have hEx1:PEx s (s.putC id c' true false):=PEx.same hE1 rfl rfl rfl;have hw01:∀i x,i<2->c'[i]?=some x->x=y\/x=f:=fun i x hi hx=>by
  match i,hi with
  |0,_=>rw[hy]at hx;exact .inl (Option.some.inj hx).symm
  |1,_=>rw[hf]at hx;exact .inr (Option.some.inj hx).symm
 have hki:∀(i:Nat) z,i<2->c'[i]?=some f->c'[1-i]?=some z->z=y:=fun i z hi h1 h2=>by
  have:=hdiff i 1 f h1 hf;subst this;rw[show(1-1:Nat)=0 from rfl,hy]at h2;exact(Option.some.inj h2).symm
 have hwiY:∀s2:PS,s2.wat=s.wat->∀st:List Int,(id:Int)∈st->∀i x,i<2->c'[i]?=some x->(id:Int)∈s2.wat.getD (wAt x) []\/(x=f/\(id:Int)∈st):=fun s2 e st hst i x hi hx=>by
  rcases hw01 i x hi hx with q|q
  ·rcases hwold x (.inl q)with w|w
   ·exact .inl (by rw[e];exact w)
   ·exact absurd (q.symm.trans w.1) hyf
  ·exact .inr ⟨q,hst⟩
 have hR1:∀s2:PS,CEq s s2->s2.wat=s.wat->WaR s2:=fun s2 hE e w hw x hx=>by
  rw[e]at hw;exact(A.wr w hw x hx).ceq hE
 rcases V with ⟨v1,e1,e2⟩|⟨k,z,hk,hz,v1,e1,e2⟩|⟨hall,v1,e1,e2⟩|⟨hall,v1,e1,e2⟩
 ·subst e1 e2
  have hym:=(A.ti.tr y).1 v1;have hylv:=A.ti.lv y hym;refine A.upd hc hp hEx1 ht1 rfl rfl rfl (fun _ _ h=>h) (hR1 _ hE1 rfl) (.inr rfl) (hwiY _ rfl _ (by simp)) ?_ (fun _ i w hi h1 h2=>?_) (by simp[PS.putC,PS.ent];omega) (fun q=>absurd rfl q)
  ·refine JuC.sat ht1 hy hym (fun e=>by omega) fun w hw=>?_
   rw[hf]at hw;cases hw;show s.lv y<=s.lv f;rw[A.fl];exact hylv.2
  ·have:=hki i w hi h1 h2
   subst this;exact⟨hym,by show s.lv w<=s.lv f;rw[A.fl];exact hylv.2⟩
 ·subst e1 e2
  have hkl:=y2_ hz;have hp2:(swapL c' 1 k).Perm c:=(y17_ (by omega) hkl).trans hp;have hE2:CEq s (s.putC id (swapL c' 1 k) true false):=CEq.put hc hp2;have hzl:=hci.1 z (hp.mem_iff.1 (List.mem_of_getElem? hz));have hwz:wAt z<(s.putC id (swapL c' 1 k) true false).wat.length:=by
   show _<s.wat.length;rw[A.ti.len.wat];exact y5b_ hzl
  have hE3:CEq s ((s.putC id (swapL c' 1 k) true false).watch z id):=hE2.trans ⟨rfl,(CEq.refl _).2⟩;have hlt:=y2_ hc;have g0:(swapL c' 1 k)[0]?=some y:=by rw[yw_ (by omega) hkl,if_neg (by omega),if_neg (by omega),hy]
  have g1:(swapL c' 1 k)[1]?=some z:=by rw[yw_ (by omega) hkl,if_neg (by omega),if_pos rfl,hz]
  have hyv:¬ ∃j,j<h/\s.trail[j]?=some (-y):=fun q=>by
   obtain⟨w1,w2⟩:=hJ0.two 0 y f (by omega) hy hf q;exact A.ti.notBoth w1 (List.mem_of_getElem? A.fh)
  have hzf:z≠f:=fun e=>v1 (by rw[e];exact hfv);refine A.upd hc hp2 (PEx.same hE3 rfl rfl rfl) (A.ti.same hE3 rfl rfl rfl rfl rfl (by simp[PS.watch,PS.putC])) rfl rfl rfl (fun x e he=>(y4z_ hwz).2 (.inl he)) ?_ (.inl rfl) (fun i x hi hx=>?_) ⟨fun e=>(by rw[e]at g0;cases g0),fun w e=>(by rw[e]at g1;cases g1),fun i x w hi hx hw hj=>?_⟩ (fun _ i w hi h1 h2=>?_) ?_ (fun q=>absurd rfl q)
  ·exact WaR.watch (fun w hw x hx=>(A.wr w hw x hx).ceq hE2) ⟨id,_,true,false,rfl,y1o_ hc,fun _=>by rw[y2p_];omega⟩
  ·match i,hi with
   |0,_=>
    rw[g0]at hx;cases hx;rcases hwold y (.inl rfl)with w|w
    ·exact .inl ((y4z_ hwz).2 (.inl w))
    ·exact absurd w.1 hyf
   |1,_=>
    rw[g1]at hx;cases hx;exact .inl ((y4z_ hwz).2 (.inr ⟨rfl,rfl⟩))
  ·match i,hi with
   |0,_=>rw[g0]at hx;cases hx;exact absurd hj hyv
   |1,_=>
    rw[g1]at hx;cases hx;obtain⟨j,hj1,hj2⟩:=hj;exact absurd (A.ti.neg.2 (List.mem_of_getElem? hj2)) v1
  ·match i,hi with
   |0,_=>rw[g0]at h1;exact absurd (Option.some.inj h1) hyf
   |1,_=>rw[g1]at h1;exact absurd (Option.some.inj h1) hzf
  ·rw[ya5_ hwz]
   show s.ent+1+stay.length<=_;omega
 ·subst e1 e2
  refine A.upd hc hp hEx1 ht1 rfl rfl rfl (fun _ _ h=>h) (hR1 _ hE1 rfl) (.inr rfl) (hwiY _ rfl _ (by simp)) (hJ0.ext hEx1 (Nat.le_of_lt (y2_ A.fh))) (fun q=>?_) (by simp[PS.putC,PS.ent];omega) (fun _=>⟨rfl,hfc,fun x hx=>?_⟩)
  ·simp at q
  ·show val s.vs x=2
   obtain⟨k,hk⟩:=yb_ hx
   match k,hk with
   |0,hk=>rw[hy]at hk;cases hk;exact v1
   |1,hk=>rw[hf]at hk;cases hk;exact hfv
   |k+2,hk=>exact hall (k+2) x (by omega) hk
 ·subst e1 e2
  have hyl':isL y n=true:=hyl;have hc1:=y1o_ hc (c':=c') (b':=true) (f':=false);have hEx2:=PEx.setL ht1 hyl' v1 (id:Int);have htt:TrI n ((s.putC id c' true false).setL y id):=ht1.set hc1 hyc hyl' v1 fun x hx hne=>by
   obtain⟨k,hk⟩:=yb_ hx
   match k,hk with
   |0,hk=>rw[hy]at hk;cases hk;exact absurd rfl hne
   |1,hk=>rw[hf]at hk;cases hk;exact hfv
   |k+2,hk=>exact hall (k+2) x (by omega) hk
  have hlvy:=(y7k_ ht1 hyl' v1 (r:=(id:Int))).2;have hlvf:((s.putC id c' true false).setL y id).lv f=s.lv f:=by
   have:=(hEx1.trans hEx2).lv _ (List.mem_of_getElem? A.fh)
   rwa [PS.lv_neg,PS.lv_neg]at this
  have hym:y∈((s.putC id c' true false).setL y id).trail:=by simp[PS.setL]
  have hle:((s.putC id c' true false).setL y id).lv y<=((s.putC id c' true false).setL y id).lv f:=by
   rw[hlvy,hlvf,A.fl];exact Int.le_refl _
  refine A.upd hc hp (hEx1.trans hEx2) htt rfl rfl rfl (fun _ _ h=>h) (hR1 _ (hE1.trans hEx2.ceq) rfl) (.inr rfl) (hwiY _ rfl _ (by simp)) ?_ (fun _ i w hi h1 h2=>?_) (by simp[PS.putC,PS.setL,PS.ent];omega) (fun q=>absurd rfl q)
  ·refine JuC.sat htt hy hym (fun e=>by omega) fun w hw=>?_
   rw[hf]at hw;cases hw;exact hle
  ·have:=hki i w hi h1 h2
   subst this;exact⟨hym,hle⟩
end
end
section
open Go
section
variable{σ τ:Heap}{T T':Tg}{lp n id:Nat}{h:PH}{s s1:PS}{l f:Int}{c c':List Int}{b g:Bool}
theorem yij_(p:PropH σ T lp h s)(hn:Tn σ T)(ht:TrI n s)(hn4:n<=4000)(hL:∀x∈c,isL x n=true)(hc:s.cls[id]?=some (c,b,g))(hl2:2<=c.length)(hcl:c.length<=1000000)(hb:s.ent+1<=8700000000000) :
  W (S.z79 (.ptr lp 0) (id:Int) σ) fun r=>(r.1=true/\∃k z,2<=k/\c[k]?=some z/\val s.vs z≠2/\∃T' h',Hop pI σ T r.2 T'/\PropH r.2 T' lp h' ((s.putC id (swapL c 1 k) b g).watch z id)) \/
   (r=(false,σ)/\∀(k:Nat) z,2<=k->c[k]?=some z->val s.vs z=2):=by
 obtain⟨y,hy,hO⟩:=p.cget hc;have hlt:=y2_ hc;have hclen:=p.clen;have p0:=p;have k1:=p.obj;have k8:=p.cls;unfold S.z79
 repeat' with_reducible first|refine W.asV ?_|refine W.fldp ?_|refine W.nck ?_|refine W.u0 ?_
 refine W.ixO k8.slT (i:=id) (by omega) ?_;refine W.fldO k8.slT (i:=id) (k:=0) (j:=0) (by omega) ?_;refine W.ldO k8.slT hy (u:=y) (fun us h=>by rw[show us=[y,.bool b,.bool g]from h];rfl) ?_
 repeat' with_reducible first|refine W.bind ?_|refine W.asV ?_
 have hS:=hO.slT;refine W.mono (P:=fun r=>(r.1=.inr true/\∃k z,2<=k/\c[k]?=some z/\val s.vs z≠2/\∃T' h',Hop pI σ T r.2 T'/\PropH r.2 T' lp h' ((s.putC id (swapL c 1 k) b g).watch z id)) \/
   (r=(.inl (),σ)/\∀(k:Nat) z,2<=k->c[k]?=some z->val s.vs z=2)) ?_ fun r hr=>?_
 ·refine W.loop (c.length-2) (fun i (x:Int) τ=>x=((2+i:Nat):Int)/\τ=σ/\∀(k:Nat) z,2<=k->k<2+i->c[k]?=some z->val s.vs z=2) ⟨rfl,rfl,fun k z h1 h2=>by omega⟩ fun i x τ hi hI=>?_
  obtain⟨rfl,rfl,hall⟩:=hI;have w:IntKind.i64.wrap (((2+i:Nat):Int)+1)=((2+(i+1):Nat):Int):=by rw[wrapS]<;>omega
  unfold S.z79.b0
  repeat' (with_reducible refine W.len (by assumption) ?_)
  (with_reducible refine W.cnd (fun hlt2=>?_) (fun hlt2=>?_)<;>(try simp only[qq,Kd.ty]at hlt2)<;>(try (exfalso;omega)))
  ·obtain⟨z,hz⟩:=y3_ (xs:=c) (i:=2+i) (by omega)
   obtain⟨a1,ha1⟩:=y3_ (xs:=c) (i:=1) (by omega);have hzl:=hL z (List.mem_of_getElem? hz);have hz0:=ye_ hzl
   repeat' with_reducible first|refine W.bind ?_|refine W.asV ?_|refine W.fldp ?_|refine W.e2 ?_|refine W.nck ?_|refine W.u0 ?_
   refine W.to (p0.val ht hn4 hzl) ?_
   repeat' with_reducible refine W.ret ?_
   by_cases hv:val s.vs z=2
   ·refine W.condF (by simp[hv]) ?_
    repeat' (with_reducible refine W.next ?_)
    refine⟨by omega,w,rfl,fun k x h1 h2 h3=>?_⟩;by_cases e:k=2+i
    ·subst e;rw[hz]at h3;cases h3;exact hv
    ·exact hall k x h1 (by omega) h3
   ·refine W.condT (by simp[hv]) ?_
    repeat' (with_reducible refine W.e2 ?_)
    refine W.ixIc (i:=1) hS ha1 ?_;refine yc0_ (i:=1) (j:=2+i) p0 hn hc hy (by omega) (by omega) hz ha1 fun τ1 H1 p1=>?_;have k1:=p1.obj;have hc1:=y1o_ hc (c':=swapL c 1 (2+i)) (b':=b) (f':=g);have g1:(swapL c 1 (2+i))[1]?=some z:=by rw[yw_ (by omega) (by omega),if_neg (by omega),if_pos rfl,hz]
    obtain⟨y1,hy1,hO1⟩:=p1.cget hc1;have:y1=y:=by rw[hy]at hy1;injection hy1 with hy1;exact(congrArg (·.1) hy1).symm
    subst this
    repeat' with_reducible first|refine W.asV ?_|refine W.fldp ?_|refine W.nck ?_|refine W.u0 ?_
    refine W.ixIc (i:=1) hO1.slT g1 ?_;refine W.bind ?_;refine W.to (at_eq (by omega)) ?_
    repeat' with_reducible first|refine W.ret ?_|refine W.asV ?_|refine W.fldp ?_|refine W.nck ?_|refine W.u0 ?_
    refine W.ixIc (i:=1) hO1.slT g1 ?_;refine W.bind ?_;refine W.to (at_eq (by omega)) ?_
    repeat' with_reducible refine W.ret ?_
    refine yao_ p1 H1.tn (by show _<s.wat.length;rw[ht.len.wat];exact y5b_ hzl) (by exact hb) fun τ2 T2 h2 H2 p2 _=>?_
    repeat' (with_reducible refine W.stop ?_)
    exact .inl ⟨rfl,2+i,z,by omega,hz,hv,T2,h2,H1.trans (H2.sub fun j hj=>by simp[pI]at hj⊢;omega),p2⟩
  ·repeat' (with_reducible refine W.stop ?_)
   exact .inr ⟨rfl,fun k z h1 h2=>hall k z h1 (by have:=y2_ h2;omega) h2⟩
 ·obtain⟨r,τ1⟩:=r
  rcases hr with ⟨e,hr⟩|⟨e,hr⟩
  ·dsimp only at e hr⊢
   subst e
   repeat' with_reducible refine W.ret ?_
   exact .inl ⟨rfl,hr⟩
  ·cases e
   repeat' with_reducible refine W.ret ?_
   exact .inr ⟨rfl,hr⟩
theorem yjh_(p:PropH σ T lp h s)(hn:Tn σ T)(ht:TrI n s)(hci:ClI n s)(hfl:∀(j:Nat) d g,s.cls[j]?=some (d,true,g)->g=false)(hn4:n<=4000)(hw:WaE s id)(hfL:isL f n=true)(hfv:val s.vs f=2)(hfm:s.lv f=s.marks.length)(hcc:s.cls.length<=1000000000000)(hb:s.ent+4<=8700000000000) :
  W (S.z82 (.ptr lp 0) (id:Int) f σ) fun r=>∃T' h' s',Hop pI σ T r.2 T'/\PropH r.2 T' lp h' s'/\VisR s id f r.1 s':=by
 obtain⟨id',c,b,g,e,hc,hbl⟩:=hw;have:id=id':=Int.ofNat.inj e;subst this;obtain⟨y,hy,hO⟩:=p.cget hc;have hlt:=y2_ hc;have hclen:=p.clen;have p0:=p;have k1:=p.obj;have k8:=p.cls;unfold S.z82
 repeat' with_reducible first|refine W.asV ?_|refine W.fldp ?_|refine W.nck ?_|refine W.u0 ?_
 refine W.ixO k8.slT (i:=id) (by omega) ?_;refine W.fldO k8.slT (i:=id) (k:=0) (j:=0) (by omega) ?_;refine W.ldO k8.slT hy (u:=y) (fun us h=>by rw[show us=[y,.bool b,.bool g]from h];rfl) ?_
 repeat' with_reducible first|refine W.bind ?_|refine W.asV ?_|refine W.fldp ?_|refine W.nck ?_|refine W.u0 ?_
 refine W.ixO k8.slT (i:=id) (by omega) ?_;refine W.fldO k8.slT (i:=id) (k:=0) (j:=1) (by omega) ?_;refine W.ldO k8.slT hy (u:=.bool b) (fun us h=>by rw[show us=[y,.bool b,.bool g]from h];rfl) ?_
 repeat' (with_reducible refine W.asB ?_)
 cases b with
 |false=>
  refine W.condT rfl ?_
  repeat' with_reducible refine W.ret ?_
  refine W.condT rfl ?_
  repeat' with_reducible refine W.ret ?_
  exact⟨T,h,s,Hop.refl hn,p0,.inl ⟨rfl,rfl,fun d fl hd=>by rw[hc]at hd;cases hd⟩⟩
 | true=>
  have hg:=hfl id c g hc;subst hg;have hl2:=hbl rfl;have hS:=hO.slT;have hcL:=(hci id c false hc).1;have hcn:=hci.len hc;obtain⟨a0,ha0⟩:=y3_ (xs:=c) (i:=0) (by omega);obtain⟨a1,ha1⟩:=y3_ (xs:=c) (i:=1) (by omega);refine W.condF rfl ?_;refine W.ixIc (i:=0) hS ha0 ?_;refine W.mono (P:=fun r=>r=decide (a0≠f/\a1≠f)) ?_ fun r hr=>?_
  ·by_cases e0:a0=f
   ·refine W.condF (by simp[e0]) ?_
    refine W.ret ?_;simp[e0]
   ·refine W.condT (by simp[e0]) ?_
    refine W.ixIc (i:=1) hS ha1 ?_;refine W.ret ?_;by_cases e1:a1=f<;>simp[e0,e1]
  subst hr;by_cases hq:a0≠f/\a1≠f
  ·refine W.condT (decide_eq_true hq) ?_
   repeat' with_reducible refine W.ret ?_
   refine⟨T,h,s,Hop.refl hn,p0,.inl ⟨rfl,rfl,fun d fl hd i hi hx=>?_⟩⟩;rw[hc]at hd;cases hd
   match i,hi with
   |0,_=>rw[ha0]at hx;exact hq.1 (Option.some.inj hx)
   |1,_=>rw[ha1]at hx;exact hq.2 (Option.some.inj hx)
  ·refine W.condF (decide_eq_false hq) ?_
   refine W.ixIc (i:=0) hS ha0 ?_;refine W.bind ?_;refine W.mono (P:=fun r=>∃c' z,(c'=c\/c'=swapL c 0 1)/\c'[0]?=some z/\c'[1]?=some f/\Hop pI σ T r.2 T/\PropH r.2 T lp h (s.putC id c' true false)) ?_ fun r hr=>?_
   ·by_cases e0:a0=f
    ·refine W.condT (by simp[e0]) ?_
     refine W.ixIc (i:=1) hS ha1 ?_;refine W.ixIc (i:=0) hS ha0 ?_;refine yc0_ (i:=0) (j:=1) p0 hn hc hy (by omega) (by omega) ha1 ha0 fun τ1 H1 p1=>?_
     repeat' with_reducible refine W.ret ?_
     refine⟨_,a1,.inr rfl,?_,?_,H1,p1⟩
     ·rw[yw_ (by omega) (by omega),if_neg (by omega),if_pos rfl,ha1]
     ·rw[yw_ (by omega) (by omega),if_pos rfl,ha0,e0]
    ·refine W.condF (by simp[e0]) ?_
     repeat' with_reducible refine W.ret ?_
     have e1:a1=f:=Decidable.byContradiction fun e1=>hq ⟨e0,e1⟩;exact⟨c,a0,.inl rfl,ha0,by rw[ha1,e1],Hop.refl hn,by rw[y76_ hc];exact p0⟩
   ·obtain⟨r,τ1⟩:=r
    obtain⟨c',z,hcc',hz,hf1,H1,p1⟩:=hr;dsimp only at H1 p1⊢;have hp:c'.Perm c:=by
     rcases hcc' with e|e
     ·rw[e]
     ·rw[e];exact y17_ (by omega) (by omega)
    have hlen:=hp.length_eq;have hc1:=y1o_ hc (c':=c') (b':=true) (f':=false);have hE1:CEq s (s.putC id c' true false):=CEq.put hc hp;have ht1:TrI n (s.putC id c' true false):=ht.same hE1 rfl rfl rfl rfl rfl rfl;obtain⟨y1,hy1,hO1⟩:=p1.cget hc1;have:y1=y:=by rw[hy]at hy1;injection hy1 with hy1;exact(congrArg (·.1) hy1).symm
    subst this
    clear hO hS k1 k8
    have hL':∀x∈c',isL x n=true:=fun x hx=>hcL x (hp.mem_iff.1 hx);have hzl:=hL' z (List.mem_of_getElem? hz);have k1:=p1.obj
    repeat' with_reducible first|refine W.asV ?_|refine W.fldp ?_|refine W.nck ?_|refine W.u0 ?_
    refine W.ixIc (i:=0) hO1.slT hz ?_;refine W.bind ?_;refine W.to (p1.val ht1 hn4 hzl) ?_;refine W.ret ?_;show W _ _;have hvz:val (s.putC id c' true false).vs z=val s.vs z:=rfl;rw[hvz];have fin:∀(s':PS) (τ':Heap) (T':Tg) (h':PH),PropH τ' T' lp h' s'->Hop pI τ1 T τ' T'->h'.cs[id]?=some (y1,true,false)->TrI n s'->s'.cls[id]?=some (c',true,false)->z∈s'.trail->s'.marks=s.marks->s'.lv f=s.lv f ->
      VisR s id f (true,false) s'->W (nilck (.ptr lp 0) (fld (.ptr lp 0) 1 fun a44=>ld τ' a44 (.V) fun v45=>ixA τ' y1 1 0 fun a46=>ld τ' a46 (.I .i64) fun n47=>(S.z45 n47 τ').bind fun r48=>ixA τ' v45 1 r48 fun a49=>ld τ' a49 (.I .i64) fun n50=>nilck (.ptr lp 0) (fld (.ptr lp 0) 1 fun a51=>ld τ' a51 (.V) fun v52=>(S.z45 f τ').bind fun r53=>ixA τ' v52 1 r53 fun a54=>ld τ' a54 (.I .i64) fun n55=>
       (cond (decide (n50>n55)) ((S.z78 (.ptr lp 0) (id:Int) τ').bind fun r56=>some ((),r56.2)) (some ((),τ'))).bind fun r57=>some ((true,false),r57.2)))) fun r=>∃T' h' s',Hop pI σ T r.2 T'/\PropH r.2 T' lp h' s'/\VisR s id f r.1 s':=by
     intro s' τ' T' h' p' H' hy' ht' hc' hzm hm hlf hV;have k1:=p'.obj;have k4:=p'.lev;have hg1:=ht'.lget hzl;have hg2:=ht'.lget hfL;have hl1:=ht'.lv z hzm;obtain⟨y3,hy3,hO3⟩:=p'.cget hc';have:y3=y1:=by rw[hy']at hy3;injection hy3 with hy3;exact(congrArg (·.1) hy3).symm
     subst this
     repeat' with_reducible first|refine W.asV ?_|refine W.fldp ?_|refine W.nck ?_|refine W.u0 ?_
     refine W.ixIc (i:=0) hO3.slT hz ?_;refine W.bind ?_;refine W.to (yq_ hzl hn4) ?_
     repeat' with_reducible first|refine W.ret ?_|refine W.bind ?_|refine W.asV ?_|refine W.fldp ?_|refine W.nck ?_|refine W.u0 ?_|refine W.u2 ?_
     refine W.to (yq_ hfL hn4) ?_
     repeat' with_reducible first|refine W.ret ?_|refine W.bind ?_|refine W.u2 ?_
     have hle:s'.lv z<=s'.lv f:=by rw[hlf,hfm,<-hm];exact hl1.2
     refine W.condF (decide_eq_false (Int.not_lt.2 hle)) ?_
     repeat' with_reducible refine W.ret ?_
     exact⟨T',h',s',H1.trans H',p',hV⟩
    by_cases hv1:val s.vs z=1
    ·refine W.bind ?_
     refine W.condF (by simp[hv1]) ?_;refine W.ret ?_;exact fin _ τ1 T h p1 (Hop.refl H1.tn) hy ht1 hc1 ((ht.tr z).1 hv1) rfl rfl (.inr ⟨c,c',z,hc,hcc',hz,hf1,.inl ⟨hv1,rfl,rfl⟩⟩)
    ·refine W.bind ?_
     refine W.condT (by simp[hv1]) ?_;refine W.bind ?_;refine W.mono (yij_ p1 H1.tn ht1 hn4 hL' hc1 (by omega) (by omega) (by show s.ent+1<=_;omega)) fun r hr=>?_;obtain⟨r,τ2⟩:=r;rcases hr with ⟨e,k,x,hk,hx,hvx,T2,h2,H2,p2⟩|⟨e,hall⟩
     ·dsimp only at e H2 p2⊢
      subst e;refine W.condT rfl ?_
      repeat' with_reducible refine W.ret ?_
      rw[y89_]at p2;exact⟨T2,h2,_,H1.trans H2,p2,.inr ⟨c,c',z,hc,hcc',hz,hf1,.inr (.inl ⟨k,x,hk,hx,hvx,rfl,rfl⟩)⟩⟩
     ·cases e
      refine W.condF rfl ?_
      repeat' with_reducible first|refine W.asV ?_|refine W.fldp ?_|refine W.nck ?_|refine W.u0 ?_
      refine W.ixIc (i:=0) hO1.slT hz ?_;refine W.bind ?_;refine W.to (p1.val ht1 hn4 hzl) ?_;refine W.ret ?_;show W _ _;rw[hvz];by_cases hv2:val s.vs z=2
      ·refine W.condT (by simp[hv2]) ?_
       repeat' with_reducible refine W.ret ?_
       exact⟨T,h,_,H1,p1,.inr ⟨c,c',z,hc,hcc',hz,hf1,.inr (.inr (.inl ⟨hall,hv2,rfl,rfl⟩))⟩⟩
      ·have hv0:val s.vs z=0:=by have:=y1q_ ht.ok z;omega
       refine W.condF (by simp[hv2]) ?_;refine W.ixIc (i:=0) hO1.slT hz ?_;refine W.bind ?_;refine W.mono (yb1_ p1 H1.tn ht1 hn4 hzl hv2 (mk:=s.marks) rfl (by have:=ht.lenM;have:=ht.lenT;omega)) fun r hr=>?_;obtain⟨r,τ3⟩:=r;obtain⟨T3,h3,H3,p3,e3⟩:=hr;refine W.ret ?_;have htt:TrI n ((s.putC id c' true false).setL z id):=ht1.set hc1 (List.mem_of_getElem? hz) hzl hv0 fun x hx hne=>by
        obtain⟨k,hk⟩:=yb_ hx
        match k,hk with
        |0,hk=>rw[hz]at hk;cases hk;exact absurd rfl hne
        |1,hk=>rw[hf1]at hk;cases hk;exact hfv
        |k+2,hk=>exact hall (k+2) x (by omega) hk
       refine fin _ τ3 T3 h3 p3 H3 (by rw[e3];exact hy) htt hc1 (by simp[PS.setL]) rfl ?_ (.inr ⟨c,c',z,hc,hcc',hz,hf1,.inr (.inr (.inr ⟨hall,hv0,rfl,rfl⟩))⟩);have:=(y7k_ ht1 hzl hv0 (r:=(id:Int))).1 (-f) (ht.neg.1 hfv);rw[PS.lv_neg,PS.lv_neg]at this;exact this
end
end
section
open Go
def pJ:Nat->Bool:=fun j=>pI j||j==15
theorem Hop.inJ{σ0 σ τ:Heap}{T0 T T':Tg}(h:Hop pJ σ0 T0 σ T)(H:Hop pI σ T τ T'):Hop pJ σ0 T0 τ T':=h.trans (H.sub fun i hi=>by simp[pJ,hi])
theorem Hop.in15{σ0 σ τ:Heap}{T0 T T':Tg}(h:Hop pJ σ0 T0 σ T)(H:Hop (only 15) σ T τ T'):Hop pJ σ0 T0 τ T':=h.trans (H.sub fun i hi=>by simp at hi;subst hi;rfl)
section
variable{σ τ:Heap}{T T':Tg}{lp n id:Nat}{h:PH}{s s1 s':PS}{l f x:Int}{c c':List Int}{b g:Bool}
theorem PropH.hop15(p:PropH σ T lp h s)(H:Hop (only 15) σ T τ T'):PropH τ T' lp h s:=p.hop H fun j hj=>by
 simp only[only,beq_eq_false_iff_ne];intro e;subst e;cases hj
theorem PropH.setW{k:Nat}{w:List Int}{x2:AVal}(p:PropH σ T lp h s)(hO:Own .int (σ.at T (41+2*k)) w x2)(hk:k<s.wat.length)(H:Hop (only 9) σ T τ T)(hW:Own vRaw (τ.at T 9) (h.ws.set k x2) h.xw):PropH τ T lp { h with ws:=h.ws.set k x2 } { s with wat:=s.wat.set k w }:=by
 obtain⟨k1,k2,k3,k4,k5,k6,k7,k8,k9,k10,k11,k12,k13⟩:=p;have hn:=H.tn;replace hO:=hO.hop H (by simp;omega);replace k1:=k1.hop H;replace k2:=k2.hop H;replace k3:=k3.hop H;replace k4:=k4.hop H;replace k5:=k5.hop H;replace k6:=k6.hop H;replace k7:=k7.hop H;replace k8:=k8.hop H;replace k10:=k10.hop H;replace k11:=k11.hop H;replace k13:=k13.hop H;replace hn:=H.tn;refine⟨k1,k2,k3,k4,k5,k6,k7,k8,hW,k10,k11,k12,by simp[k13.1],fun i a y h1 h2=>?_⟩;by_cases e:k=i
 ·subst e
  rw[List.getElem?_set,if_pos rfl,if_pos hk]at h1;rw[List.getElem?_set,if_pos rfl,if_pos (by rw[k13.1];exact hk)]at h2;cases h1;cases h2;exact hO
 ·rw[List.getElem?_set_ne e]at h1 h2
  exact k13.2 i a y h1 h2
theorem yip_{hd:Nat}(p:PropH σ T lp h s)(hn:Tn σ T)(hP:PrI n s)(hn4:n<=4000)(hh:s.head=(hd:Int))(hf:s.trail[hd]?=some (-f))(hcc:s.cls.length<=1000000000000)(hb:s.ent+10<=8700000000000) :
  W (S.z75 (.ptr lp 0) f σ) fun r=>∃T' h' s',Hop pJ σ T r.2 T'/\PropH r.2 T' lp h' s'/\-1<=r.1/\s'.head=hd/\(r.1 = -1->PrI n { s' with head:=(hd:Int)+1 }) /\
   (r.1≠-1->PrI n s'/\∃(id:Nat) (c:List Int) (fl:Bool),r.1=id/\s'.cls[id]?=some (c,true,fl)/\(∀x∈c,val s'.vs x=2)/\∃x∈c,s'.lv x=s'.marks.length)/\PEx s s'/\s'.ent<=s.ent:=by
 have hfl:isL f n=true:=by
  have:=y7l_ (hP.ti.rng _ (List.mem_of_getElem? hf))
  rwa [Int.neg_neg]at this
 have hf0:=ye_ hfl;have hwb:wAt f<s.wat.length:=by rw[hP.ti.len.wat];exact y5b_ hfl
 obtain⟨xs,z,hx,hz,hO⟩:=p.wf.get (k:=wAt f) hwb;have hmx:=y6r_ (List.mem_of_getElem? hx);have hgd:s.wat.getD (wAt f) []=xs:=by rw[List.getD_eq_getElem?_getD,hx];rfl
 have hlw:=p.wf.1;have k1:=p.obj;have k9:=p.wat;unfold S.z75
 repeat' with_reducible first|refine W.bind ?_|refine W.asV ?_|refine W.fldp ?_|refine W.nck ?_|refine W.u0 ?_
 refine W.to (at_eq (by omega)) ?_
 repeat' with_reducible refine W.ret ?_
 refine W.ixV k9.slT hz ?_
 repeat' with_reducible first|refine W.bind ?_|refine W.asV ?_|refine W.fldp ?_|refine W.nck ?_|refine W.u0 ?_
 refine W.to (at_eq (by omega)) ?_
 repeat' with_reducible refine W.ret ?_
 refine W.ixO k9.slT (i:=wAt f) (by omega) ?_;refine W.own_setV k9 hn (a:=.nils) (by omega) fun τ1 k9 H1 _=>?_;have p1:=p.setW (w:=[]) (x2:=.nils) .nil hwb H1 k9;replace hO:=hO.hop H1 (by simp;omega);obtain⟨T1,HR,kS⟩:=hO.retag (u:=0) Vw.int_flat H1.tn;have HH:Hop pI σ T τ1 T1:=((Hop.refl hn).inP H1).inP HR (by simp[pI];omega);have p2:PropH τ1 T1 lp { h with ws:=h.ws.set (wAt f) .nils } { s with wat:=s.wat.set (wAt f) [] }:=by
  have h1:=p1.hopW HR (k:=wAt f) (w:=[]) (x2:=.nils) .nil (by simpa using hwb);have h2:=h1.2.2 τ1 (Hop.refl HR.tn) (by simpa using h1.2.1);simpa using h2
 have kS:=kS.sl
 repeat' with_reducible first|refine W.bind ?_|refine W.len (by assumption) ?_
 have hA:=FaI.start hP hh hf hwb;rw[hgd]at hA;refine W.mono (P:=fun r=>∃T' h' s' stay,Hop pJ σ T r.2 T'/\Own .int (r.2.at T' 15) stay r.1.1/\PropH r.2 T' lp h' s'/\FaI n s s' hd f stay [] r.1.2/\-1<=r.1.2) ?_ fun r hr=>?_
 ·refine W.loop xs.length (fun i (x:AVal×Int×Int) τ=>x.2.2=(i:Int)/\∃T' h' s' stay,Hop pJ σ T τ T'/\SlV .int (τ.at T' 0) xs z/\Own .int (τ.at T' 15) stay x.1/\PropH τ T' lp h' s'/\FaI n s s' hd f stay (xs.drop i) x.2.1/\-1<=x.2.1)
   ⟨rfl,T1,_,_,[],(Hop.refl hn).inJ HH,kS,.nil,p2,by rw[List.drop_zero];exact⟨hA.ti,hA.ci,hA.li,hA.lo,hA.wi,hA.wr,hA.sr,hA.hd,hA.fh,hA.fl,hA.ji,hA.ki,hA.o2,hA.ex,by
    have:=hA.en;have h2:=y7i_ (w:=[]) hwb;rw[hgd]at h2;simp only[PS.ent]at this h2⊢;simp at this h2⊢;omega⟩,by simp⟩ fun i x τ hi hI=>?_
  obtain⟨stv,out,zi⟩:=x;obtain⟨hz0,T2,h2,s2,stay,H2,kS,kY,p2,A,ho⟩:=hI;dsimp only at hz0 kY A ho⊢;subst hz0;have hn2:=H2.tn;have w:IntKind.i64.wrap ((i:Int)+1)=((i+1:Nat):Int):=by rw[wrapS]<;>omega
  unfold S.z75.b0
  (with_reducible refine W.cnd (fun hlt=>?_) (fun hlt=>?_)<;>(try simp only[qq,Kd.ty]at hlt)<;>(try (exfalso;omega)))
  ·obtain⟨a,ha⟩:=y3_ (xs:=xs) (i:=i) (by omega)
   have hdr:xs.drop i=a::xs.drop (i+1):=by
    rw[List.drop_eq_getElem_cons (by omega)];rw[(List.getElem?_eq_some_iff.1 ha).2]
   rw[hdr]at A;have hW:=A.sr a (by simp);obtain⟨id,c,b,g,e,hc,hbl⟩:=id hW;subst e;have hen:=A.en;simp at hen
   repeat' with_reducible first|refine W.bind ?_|refine W.ixIc (SlV.up (by assumption)) (by assumption) ?_
   (with_reducible refine W.cnd (fun hout=>?_) (fun hout=>?_)<;>(try simp only[qq,Kd.ty]at hout)<;>(try (exfalso;omega)))
   ·have ho1:out≠-1:=by omega
    skip
    refine W.own_push (bytes:=8) Vw.int_flat kY hn2 (a:=(id:Int)) rfl (by omega) (by omega) fun x2 τ3 T3 kY H3=>?_
    repeat' with_reducible first|refine W.next ?_|refine W.ret ?_
    exact⟨by omega,w,T3,h2,s2,stay++[(id:Int)],H2.in15 H3,kS.hop H3,kY,p2.hop15 H3,A.rest ho1,ho⟩
   ·have ho1:out = -1:=by omega
    subst ho1
    repeat' (with_reducible refine W.bind ?_)
    refine W.mono (yjh_ p2 hn2 A.ti A.ci (fun j d g hd=>A.li.flag A.lo hd) hn4 hW hfl A.fv A.fl (by rw[A.ex.ceq.1];exact hcc) (by omega)) fun r hr=>?_;obtain⟨⟨here,bad⟩,τ3⟩:=r;obtain⟨T3,h3,s3,H3,p3,hV⟩:=hr;dsimp only at H3 p3 hV⊢;have A3:=A.visit hV;have kS3:=kS.hop H3;have kY3:=kY.hop H3;refine W.bind ?_;refine W.mono (P:=fun r=>∃T',Hop (only 15) τ3 T3 r.2 T'/\Own .int (r.2.at T' 15) (if here then stay++[(id:Int)]else stay) r.1) ?_ fun r hr=>?_
    ·cases here with
     |true=>
      refine W.condT rfl ?_;refine W.own_push (bytes:=8) Vw.int_flat kY3 H3.tn (a:=(id:Int)) rfl (by omega) (by omega) fun x2 τ4 T4 kY H4=>?_
      repeat' with_reducible refine W.ret ?_
      exact⟨T4,H4,kY⟩
     |false=>
      refine W.condF rfl ?_
      repeat' with_reducible refine W.ret ?_
      exact⟨T3,Hop.refl H3.tn,kY3⟩
    ·obtain⟨v,τ4⟩:=r
     obtain⟨T4,H4,kY⟩:=hr;dsimp only at H4 kY⊢;cases bad with
     |true=>
      refine W.condT rfl ?_
      repeat' with_reducible first|refine W.next ?_|refine W.ret ?_
      exact⟨by omega,w,T4,h3,s3,_,(H2.inJ H3).in15 H4,kS3.hop H4,kY,p3.hop15 H4,A3,by show(-1:Int)<=(id:Int);omega⟩
     |false=>
      refine W.condF rfl ?_
      repeat' with_reducible first|refine W.next ?_|refine W.ret ?_
      exact⟨by omega,w,T4,h3,s3,_,(H2.inJ H3).in15 H4,kS3.hop H4,kY,p3.hop15 H4,A3,ho⟩
  ·repeat' (with_reducible refine W.stop ?_)
   have:i=xs.length:=by omega
   subst this;rw[List.drop_length]at A;exact⟨T2,h2,s2,stay,H2,kY,p2,A,ho⟩
 ·obtain⟨⟨stv,out⟩,τ2⟩:=r
  obtain⟨T2,h2,s2,stay,H2,kY,p2,A,ho⟩:=hr;dsimp only at H2 kY p2 A ho⊢;have hwb2:wAt f<s2.wat.length:=by rw[A.ti.len.wat];exact y5b_ hfl
  obtain⟨ys,z2,hy,hz2,hO2⟩:=p2.wf.get (k:=wAt f) hwb2;have hgd2:s2.wat.getD (wAt f) []=ys:=by rw[List.getD_eq_getElem?_getD,hy];rfl
  have hmy:=y6r_ (List.mem_of_getElem? hy);have hlw2:=p2.wf.1;have hen:=A.en;simp at hen
  clear k1 k9
  have k1:=p2.obj;have k9:=p2.wat
  repeat' with_reducible first|refine W.bind ?_|refine W.asV ?_|refine W.fldp ?_|refine W.nck ?_|refine W.u0 ?_
  refine W.to (at_eq (by omega)) ?_
  repeat' with_reducible first|refine W.ret ?_|refine W.bind ?_|refine W.asV ?_|refine W.fldp ?_|refine W.nck ?_|refine W.u0 ?_
  refine W.to (at_eq (by omega)) ?_
  repeat' with_reducible refine W.ret ?_
  refine W.ixV k9.slT hz2 ?_
  skip
  refine W.own_app (bytes:=8) Vw.int_flat kY H2.tn hO2.slT (by omega) (by omega) fun x2 τ3 T3 kY H3=>?_;have p3:=p2.hop15 H3;obtain⟨T4,H4,kO⟩:=kY.retag (u:=41+2*wAt f) Vw.int_flat H3.tn;have p4:=p3.hop15 H4;have k1:=p4.obj;have k9:=p4.wat
  repeat' with_reducible first|refine W.asV ?_|refine W.chk rfl ?_|refine W.u0 ?_
  refine W.ixO k9.slT (i:=wAt f) (by omega) ?_
  repeat' (with_reducible refine W.u4 ?_)
  refine W.own_setV k9 H4.tn (a:=x2) (by omega) fun τ5 k9 H5 _=>?_;have p5:=p4.setW kO hwb2 H5 k9
  repeat' with_reducible refine W.ret ?_
  obtain⟨g1,g2,g3,g4⟩:=A.fin hP hh hwb2 (s':={ s2 with wat:=s2.wat.set (wAt f) (stay++ys) }) (by rw[hgd2]);exact⟨T4,_,_,(((H2.in15 H3).in15 H4).inJ ((Hop.refl H4.tn).inP H5)),p5,ho,by show s2.head=_;rw[A.hd];exact hh,g1,g2,g3,g4⟩
end
end
section
open Go
structure PRes(n:Nat)(s s':PS)(out:Int):Prop where
 ex:PEx s s'
 en:s'.ent+2*s'.loose.length<=s.ent+2*s.loose.length+2
 si:StI n s'
 lo:s'.marks≠[]->s'.loose=[]
 fine:out = -1->s'.loose=[]/\s'.head=s'.trail.length
 bad:out≠-1->∃(id:Nat) (c:List Int) (fl:Bool),out=id/\s'.cls[id]?=some (c,true,fl)/\(∀x∈c,val s'.vs x=2)/\(s'.marks≠[]->∃x∈c,s'.lv x=s'.marks.length)
section
variable{σ τ:Heap}{T T':Tg}{lp n id:Nat}{h:PH}{s s1 s':PS}{l f x out:Int}{c c':List Int}{b g:Bool}
theorem PrI.look(P:PrI n s)(hh:s.head=s.trail.length)(hc:s.cls[id]?=some (c,true,g)):c≠[]/\(∀x,c=[x]->x∈s.trail)/\∀(i:Nat) x y,i<2->c[i]?=some x->c[1-i]?=some y->val s.vs x=2->y∈s.trail:=by
 obtain⟨k,e1,e2,e3,e4⟩:=P.hd;have e5:k=s.trail.length:=by omega
 subst e5;have hg:=P.li.flag P.lo hc;subst hg;have J:=e4 id c hc;refine⟨J.ne,fun x hx=>(J.one x hx).1,fun i x y hi hx hy hv=>?_⟩;obtain⟨j,hj⟩:=yb_ (P.ti.neg.1 hv);exact(J.two i x y hi hx hy ⟨j,y2_ hj,hj⟩).1
theorem PrI.unit(P:PrI n s)(hh:s.head=s.trail.length)(hc:s.cls[id]?=some (c,true,g))(hl:l∈c)(hf:∀x∈c,x≠l->val s.vs x=2):l∈s.trail:=by
 obtain⟨h1,h2,h3⟩:=P.look hh hc;obtain⟨i,hi⟩:=yb_ hl;have hnd:=(P.ci id c g hc).2
 match c,h1 with
 |[a],_=>
  have:l=a:=by simpa using hl
  subst this;exact h2 _ rfl
 | a::d::t,_=>
  by_cases ea:a=l
  ·subst ea
   have hne:d≠a:=fun e=>by subst e;simp at hnd
   exact h3 1 d a (by omega) rfl rfl (hf d (by simp) hne)
  ·have hva:=hf a (by simp) ea
   have hd:=h3 0 a d (by omega) rfl rfl hva;by_cases ed:d=l
   ·rw[<-ed];exact hd
   ·have:=hf d (by simp) ed
    rw[<-P.ti.tr]at hd;omega
theorem PrI.full(P:PrI n s)(hh:s.head=s.trail.length)(hall:∀x,isL x n=true->val s.vs x≠0)(hc:s.cls[id]?=some (c,true,g)):∃x∈c,x∈s.trail:=by
 obtain⟨h1,h2,h3⟩:=P.look hh hc;have hcL:=(P.ci id c g hc).1
 match c,h1 with
 |[a],_=>exact⟨a,by simp,h2 a rfl⟩
 | a::d::t,_=>
  by_cases ha:val s.vs a=1
  ·exact⟨a,by simp,(P.ti.tr a).1 ha⟩
  ·have:=y1q_ P.ti.ok a
   have:=hall a (hcL a (by simp));exact⟨d,by simp,h3 0 a d (by omega) rfl rfl (by omega)⟩
theorem ycu_(p:PropH σ T lp h s)(hn:Tn σ T)(hS:StI n s)(hn4:n<=4000)(hb:s.ent+2*s.loose.length+20<=8700000000000)(hcc:s.cls.length<=1000000000000)(hR:Rd s s.loose (-1)) :
  W (S.z67 (.ptr lp 0) σ) fun r=>∃T' h' s',Hop pJ σ T r.2 T'/\PropH r.2 T' lp h' s'/\-1<=r.1/\PRes n s s' r.1:=by
 unfold S.z67;refine W.bind ?_;refine W.mono (yjc_ p hn hS hn4 (by omega) hcc hR) fun r hr=>?_;obtain⟨out,τ1⟩:=r;obtain⟨T1,h1,s1,H1,p1,A,ho⟩:=hr;dsimp only at H1 p1 A ho⊢;obtain⟨hd,d1,d2,d3,d4⟩:=hS.hd;have hJ:=A.ji hd d1;have hS1:StI n s1:=⟨A.ti,A.ci,A.li,A.wi,A.wr,hd,by rw[A.hd];exact d1,Nat.le_trans hJ.1 A.ex.lenT,fun m hm=>d3 m (by rw[<-A.ex.mks];exact hm),hJ.2⟩;have hen:=A.en;simp only[List.length_nil,Nat.zero_add]at hen
 (with_reducible refine W.cnd (fun hout=>?_) (fun hout=>?_)<;>(try simp only[qq,Kd.ty]at hout)<;>(try (exfalso;omega)))
 ·have ho1:out≠-1:=by omega
  obtain⟨q1,j,d,g,q2,q3,q4⟩:=A.o2 ho1;rw[if_neg ho1]at hen
  repeat' with_reducible refine W.ret ?_
  exact⟨T1,h1,s1,(Hop.refl hn).inJ H1,p1,ho,⟨A.ex,by omega,hS1,fun w=>absurd q1 w,fun w=>absurd w ho1,fun _=>⟨j,d,g,q2,q3,q4,fun w=>absurd q1 w⟩⟩⟩
 ·have ho1:out = -1:=by omega
  subst ho1;have hlo:=A.o1 rfl;rw[if_pos rfl]at hen;have hP1:=hS1.pp hlo;refine W.bind ?_;refine W.mono (P:=fun r=>∃T' h' s' o,Hop pJ σ T r.2 T'/\PropH r.2 T' lp h' s'/\((r.1=.inl ()/\o = -1)\/r.1=.inr o)/\-1<=o/\PRes n s s' o) ?_ fun r hr=>?_
  ·refine W.loopI (m:=n-hd) (fun m (_:Unit) τ=>∃(T':Tg) (h':PH) (s':PS) (hd':Nat),Hop pJ σ T τ T'/\PropH τ T' lp h' s'/\PrI n s'/\s'.head=(hd':Int)/\hd'<=s'.trail.length/\m=n-hd'/\PEx s s'/\s'.ent<=s1.ent) ⟨T1,h1,s1,hd,(Hop.refl hn).inJ H1,p1,hP1,by rw[A.hd];exact d1,Nat.le_trans hJ.1 A.ex.lenT,rfl,A.ex,Nat.le_refl _⟩ fun m _ τ hI=>?_
   obtain⟨T2,h2,s2,hd2,H2,p2,P2,e1,e2,e3,E2,en2⟩:=hI;have k1:=p2.obj;have k6:=p2.trail;have hlT:=P2.ti.lenT;unfold S.z67.b0
   repeat' with_reducible first|refine W.asI ?_|refine W.asV ?_|refine W.fldp ?_|refine W.nck ?_|refine W.u0 ?_|refine W.u3 ?_
   rw[e1]
   (with_reducible refine W.cnd (fun hlt=>?_) (fun hlt=>?_)<;>(try simp only[qq,Kd.ty]at hlt)<;>(try (exfalso;omega)))
   ·obtain⟨a,ha⟩:=y3_ (xs:=s2.trail) (i:=hd2) (by omega)
    have hal:=P2.ti.rng a (List.mem_of_getElem? ha);have ha0:=yi_.1 hal
    repeat' with_reducible first|refine W.asI ?_|refine W.asV ?_|refine W.fldp ?_|refine W.nck ?_|refine W.u0 ?_
    rw[e1];refine W.ixIc (i:=hd2) k6.slT ha ?_;have w:IntKind.i64.wrap (0-a) = -a:=by rw[wrapS]<;>omega
    rw[w];refine W.bind ?_;refine W.mono (yip_ (f:=-a) p2 H2.tn P2 hn4 e1 (by rw[Int.neg_neg];exact ha) (by rw[E2.ceq.1];exact hcc) (by omega)) fun r hr=>?_;obtain⟨o,τ3⟩:=r;obtain⟨T3,h3,s3,H3,p3,ho3,hd3,g1,g2,g3,g4⟩:=hr;dsimp only at H3 p3 ho3 g1 g2⊢;have HH3:Hop pJ σ T τ3 T3:=H2.trans H3
    (with_reducible refine W.cnd (fun hout3=>?_) (fun hout3=>?_)<;>(try simp only[qq,Kd.ty]at hout3)<;>(try (exfalso;omega)))
    ·have hne:o≠-1:=by omega
     obtain⟨P3,j,d,fl,q1,q2,q3,q4⟩:=g2 hne
     repeat' (with_reducible refine W.stop ?_)
     refine⟨T3,h3,s3,o,HH3,p3,.inr rfl,ho3,⟨E2.trans g3,?_,P3.si,fun _=>P3.lo,fun w=>absurd w hne,fun _=>⟨j,d,fl,q1,q2,q3,fun _=>q4⟩⟩⟩;rw[P3.lo];simp;omega
    ·have hne:o = -1:=by omega
     have P3:=g1 hne;obtain⟨k1,k2,k3,k4,k5,k6,k7,k8,k9,k10,k11,k12,k13⟩:=p3;rw[hd3]at k1
     repeat' with_reducible first|refine W.asI ?_|refine W.fldp ?_|refine W.nck ?_|refine W.u0 ?_
     have w2:IntKind.i64.wrap ((hd2:Int)+1)=(hd2:Int)+1:=by rw[wrapS]<;>omega
     rw[w2];have hn:=H3.tn;refine W.stT k1 hn (Nat.le_of_ble_eq_true (by rfl)) fun τ4 H4 k1 hnτ4=>?_;have HH4:=HH3.inJ ((Hop.refl H3.tn).inP H4);replace k2:=k2.hop H4;replace k3:=k3.hop H4;replace k4:=k4.hop H4;replace k5:=k5.hop H4;replace k6:=k6.hop H4;replace k7:=k7.hop H4;replace k8:=k8.hop H4;replace k9:=k9.hop H4;replace k10:=k10.hop H4;replace k11:=k11.hop H4;replace k13:=k13.hop H4;replace hn:=H4.tn
     repeat' (with_reducible refine W.next ?_)
     have hl3:=g3.lenT;have f1:m-1<m:=by clear g1 g2;omega
     have f2:m-1=n-(hd2+1):=by clear g1 g2;omega
     have f3:hd2+1<=s3.trail.length:=by clear g1 g2;omega
     have f4:s3.ent<=s1.ent:=by clear g1 g2;omega
     refine⟨m-1,f1,T3,h3,{ s3 with head:=(hd2:Int)+1 },hd2+1,HH4,⟨k1,k2,k3,k4,k5,k6,k7,k8,k9,k10,k11,k12,k13⟩,P3,by simp,f3,f2,?_,f4⟩;exact(E2.trans g3).trans (PEx.same ⟨rfl,(CEq.refl s3).2⟩ rfl rfl rfl)
   ·repeat' (with_reducible refine W.stop ?_)
    have:hd2=s2.trail.length:=by omega
    refine⟨T2,h2,s2,-1,H2,p2,.inl ⟨rfl,rfl⟩,by omega,⟨E2,?_,P2.si,fun _=>P2.lo,fun _=>⟨P2.lo,by rw[e1,this]⟩,fun w=>absurd rfl w⟩⟩;rw[P2.lo];simp;omega
  ·obtain⟨r,τ2⟩:=r
   obtain⟨T2,h2,s2,o,H2,p2,hr,ho2,hres⟩:=hr;dsimp only at hr H2 p2⊢;rcases hr with ⟨hr,e⟩|hr
   ·subst hr e
    repeat' with_reducible refine W.ret ?_
    exact⟨T2,h2,s2,H2,p2,by omega,hres⟩
   ·subst hr
    repeat' with_reducible refine W.ret ?_
    exact⟨T2,h2,s2,H2,p2,ho2,hres⟩
end
end
section
open Go
theorem y9p_{σ:Heap}{T:Tg}{t:Nat}{xs:List Int}{x:AVal}(h:SlV .int (σ.at T t) xs x)(hn:Tn σ T)(hb:xs.length<=1000000):W (S.z125 x σ) fun r=>Hle σ r.2/\Acc .int σ.next r.2 xs r.1/\SlV .int (r.2.at T 0) xs r.1:=
 W.mono (y7o_ h.up hb) fun _ hr=>⟨hr.2,hr.1,hr.1.at0 hn.z⟩
def PS.sinceL(s:PS)(k:Nat):List Int:=match s.marks[k]? with
 |some a=>s.trail.drop a.toNat
 |none=>[]
section
variable{σ τ:Heap}{T T':Tg}{lp n id k:Nat}{h:PH}{s s1 s':PS}{l f x out:Int}{c c':List Int}{b g:Bool}
theorem y7c_(p:PropH σ T lp h s):S.z65 (.ptr lp 0) σ=some (s.marks.length:Int):=by
 obtain⟨r,e,rfl⟩:W (S.z65 (.ptr lp 0) σ) fun r=>r=(s.marks.length:Int):=by
  have k1:=p.obj;have k7:=p.marks;unfold S.z65
  repeat' with_reducible first|refine W.ret ?_|refine W.asV ?_|refine W.fldp ?_|refine W.nck ?_|refine W.u0 ?_|refine W.u3 ?_
  rfl
 exact e
theorem y3f_(p:PropH σ T lp h s)(hv:s.vs.length=n+1)(hn:n<=4000):S.z72 (.ptr lp 0) σ=some (n:Int):=by
 obtain⟨r,e,rfl⟩:W (S.z72 (.ptr lp 0) σ) fun r=>r=(n:Int):=by
  have k1:=p.obj;unfold S.z72
  repeat' with_reducible first|refine W.bind ?_|refine W.asV ?_|refine W.fldp ?_|refine W.nck ?_|refine W.u0 ?_
  refine W.to (y3v_ p.asg p.vs (by omega)) ?_
  repeat' with_reducible refine W.ret ?_
  omega
 exact e
theorem y2u_(p:PropH σ T lp h s)(ht:TrI n s)(hl:isL l n=true):S.z66 (.ptr lp 0) (l.natAbs:Int) σ=some (s.lv l):=by
 obtain⟨r,e,rfl⟩:W (S.z66 (.ptr lp 0) (l.natAbs:Int) σ) fun r=>r=s.lv l:=by
  have k1:=p.obj;have k4:=p.lev;have h0:=ye_ hl;have hg:=ht.lget hl;have h2:=ht.len.lev;unfold S.z66
  repeat' (with_reducible refine W.bind ?_)
  refine W.condF (by simp;omega) ?_
  repeat' with_reducible first|refine W.ret ?_|refine W.asV ?_|refine W.fldp ?_|refine W.nck ?_|refine W.u0 ?_|refine W.u3 ?_
  refine W.condF (by simp;omega) ?_
  repeat' with_reducible first|refine W.ret ?_|refine W.asV ?_|refine W.fldp ?_|refine W.nck ?_|refine W.u0 ?_|refine W.u2 ?_
  rfl
 exact e
theorem y6p_(p:PropH σ T lp h s)(ht:TrI n s)(hl:isL l n=true):S.z68 (.ptr lp 0) (l.natAbs:Int) σ=some (s.re l):=by
 obtain⟨r,e,rfl⟩:W (S.z68 (.ptr lp 0) (l.natAbs:Int) σ) fun r=>r=s.re l:=by
  have k1:=p.obj;have k4:=p.rea;have h0:=ye_ hl;have hg:=ht.rget hl;have h2:=ht.len.rea;unfold S.z68
  repeat' (with_reducible refine W.bind ?_)
  refine W.condF (by simp;omega) ?_
  repeat' with_reducible first|refine W.ret ?_|refine W.asV ?_|refine W.fldp ?_|refine W.nck ?_|refine W.u0 ?_|refine W.u3 ?_
  refine W.condF (by simp;omega) ?_
  repeat' with_reducible first|refine W.ret ?_|refine W.asV ?_|refine W.fldp ?_|refine W.nck ?_|refine W.u0 ?_|refine W.u2 ?_
  rfl
 exact e
theorem yd0_(p:PropH σ T lp h s)(hn:Tn σ T)(ht:TrI n s)(hn4:n<=4000):W (S.z70 (.ptr lp 0) σ) fun r=>Hle σ r.2/\SlV .int (r.2.at T 0) s.trail r.1:=by
 have k1:=p.obj;have hl:=ht.lenT;unfold S.z70
 repeat' with_reducible first|refine W.bind ?_|refine W.asV ?_|refine W.fldp ?_|refine W.nck ?_|refine W.u0 ?_
 refine W.mono (y9p_ p.trail.sl hn (by omega)) fun r hr=>?_
 repeat' with_reducible refine W.ret ?_
 exact⟨hr.1,hr.2.2⟩
theorem yis_(p:PropH σ T lp h s)(hn:Tn σ T)(ht:TrI n s)(hn4:n<=4000):W (S.z69 (.ptr lp 0) (k:Int) σ) fun r=>Hle σ r.2/\SlV .int (r.2.at T 0) (s.sinceL k) r.1:=by
 have k1:=p.obj;have k6:=p.trail;have k7:=p.marks;have hl:=ht.lenT;unfold S.z69 PS.sinceL
 repeat' (with_reducible refine W.bind ?_)
 refine W.condF (by simp) ?_
 repeat' with_reducible first|refine W.ret ?_|refine W.asV ?_|refine W.fldp ?_|refine W.nck ?_|refine W.u0 ?_|refine W.u3 ?_
 by_cases hk:k<s.marks.length
 ·obtain⟨m,hm⟩:=y3_ (xs:=s.marks) (i:=k) hk
  obtain⟨a,e,⟨w,g1,g2⟩,_⟩:=ht.mks k m hm;subst e;have hal:=y2_ g1;rw[hm];refine W.condF (by simp;omega) ?_
  repeat' with_reducible first|refine W.asV ?_|refine W.fldp ?_|refine W.nck ?_|refine W.u0 ?_|refine W.u2 ?_
  obtain⟨y,e5,hy⟩:=k6.slice (lo:=a) (hi:=s.trail.length) (by omega) (Nat.le_refl _);rw[List.take_length]at hy;refine W.to ((e5 (at_le (σ:=σ) (T:=T) (i:=6)) _).2 rfl) ?_;refine W.bind ?_;refine W.mono (y9p_ hy.sl hn (by simp;omega)) fun r hr=>?_
  repeat' with_reducible refine W.ret ?_
  exact⟨hr.1,hr.2.2⟩
 ·rw[List.getElem?_eq_none (by omega)]
  refine W.condT (by simp;omega) ?_
  repeat' with_reducible refine W.ret ?_
  exact⟨Hle.refl _,.inl ⟨rfl,rfl⟩⟩
theorem yai_(p:PropH σ T lp h s)(hc:s.cls[id]?=some (c,b,g)):S.z77 (.ptr lp 0) (id:Int) σ=some b:=by
 obtain⟨r,e,rfl⟩:W (S.z77 (.ptr lp 0) (id:Int) σ) fun r=>r=b:=by
  obtain⟨y,hy,hO⟩:=p.cget hc;have hlt:=y2_ hc;have hclen:=p.clen;have k1:=p.obj;have k8:=p.cls;unfold S.z77
  repeat' (with_reducible refine W.bind ?_)
  refine W.condT (by simp) ?_
  repeat' with_reducible first|refine W.asV ?_|refine W.fldp ?_|refine W.nck ?_|refine W.u0 ?_|refine W.u3 ?_
  refine W.condT (by simp;omega) ?_
  repeat' with_reducible first|refine W.asV ?_|refine W.fldp ?_|refine W.nck ?_|refine W.u0 ?_
  refine W.ixO k8.slT (i:=id) (by omega) ?_;refine W.fldO k8.slT (i:=id) (k:=0) (j:=1) (by omega) ?_;refine W.ldO k8.slT hy (u:=.bool b) (fun us h=>by rw[show us=[y,.bool b,.bool g]from h];rfl) ?_
  repeat' with_reducible first|refine W.ret ?_|refine W.asB ?_
  rfl
 exact e
theorem y1y_(p:PropH σ T lp h s)(hn:Tn σ T)(hc:s.cls[id]?=some (c,b,g))(hcl:c.length<=1000000):W (S.z61 (.ptr lp 0) (id:Int) σ) fun r=>Hle σ r.2/\SlV .int (r.2.at T 0) (if b then c else[]) r.1:=by
 obtain⟨y,hy,hO⟩:=p.cget hc;have hlt:=y2_ hc;have hclen:=p.clen;have k1:=p.obj;have k8:=p.cls;unfold S.z61;refine W.bind ?_;refine W.to (yai_ p hc) ?_
 repeat' with_reducible refine W.ret ?_
 cases b with
 |false=>
  refine W.condT rfl ?_
  repeat' with_reducible refine W.ret ?_
  exact⟨Hle.refl _,.inl ⟨rfl,rfl⟩⟩
 |true=>
  refine W.condF rfl ?_
  repeat' with_reducible first|refine W.asV ?_|refine W.fldp ?_|refine W.nck ?_|refine W.u0 ?_
  refine W.ixO k8.slT (i:=id) (by omega) ?_;refine W.fldO k8.slT (i:=id) (k:=0) (j:=0) (by omega) ?_;refine W.ldO k8.slT hy (u:=y) (fun us h=>by rw[show us=[y,.bool true,.bool g]from h];rfl) ?_
  repeat' with_reducible first|refine W.bind ?_|refine W.asV ?_
  refine W.mono (y9p_ hO.sl hn hcl) fun r hr=>?_
  repeat' with_reducible refine W.ret ?_
  exact⟨hr.1,hr.2.2⟩
theorem y83_(p:PropH σ T lp h s)(hn:Tn σ T)(ht:TrI n s)(hn4:n<=4000)(hl:isL l n=true)(hv:val s.vs l=0):W (S.z62 (.ptr lp 0) l σ) fun r=>r.1=true/\∃T' h',Hop pI σ T r.2 T'/\PropH r.2 T' lp h' (s.dec l):=by
 have hlv:=ht.len.vs;have hlt:=ht.lenT;have hlm:=ht.lenM;have h0:=ye_ hl;have hV:=p.val ht hn4 hl;obtain⟨k1,k2,k3,k4,k5,k6,k7,k8,k9,k10,k11,k12,k13⟩:=p;unfold S.z62
 repeat' with_reducible first|refine W.bind ?_|refine W.asV ?_|refine W.fldp ?_|refine W.nck ?_|refine W.u0 ?_
 refine W.to (y3v_ k2 k3 (by omega)) ?_
 repeat' with_reducible first|refine W.ret ?_|refine W.bind ?_
 rw[show(s.vs.length:Int)-1=(n:Int) by omega];refine W.to (y18_ (by omega) (by omega)) ?_
 repeat' with_reducible refine W.ret ?_
 refine W.condF (by simp[hl]) ?_
 repeat' with_reducible first|refine W.bind ?_|refine W.asV ?_|refine W.fldp ?_|refine W.nck ?_|refine W.u0 ?_
 refine W.to hV ?_
 repeat' with_reducible refine W.ret ?_
 refine W.condF (by simp[hv]) ?_
 repeat' with_reducible first|refine W.asV ?_|refine W.fldp ?_|refine W.nck ?_|refine W.u0 ?_|refine W.u3 ?_
 refine W.own_push (bytes:=8) Vw.int_flat k7 hn (a:=(s.trail.length:Int)) rfl (by omega) (by omega) fun x2 τ2 T2 k7 H2=>?_;have HH:Hop pI σ T τ2 T2:=(Hop.refl hn).inP H2;replace k1:=k1.hop H2;replace k2:=k2.hop H2;replace k3:=k3.hop H2;replace k4:=k4.hop H2;replace k5:=k5.hop H2;replace k6:=k6.hop H2;replace k8:=k8.hop H2;replace k9:=k9.hop H2;replace k10:=k10.hop H2;replace k11:=k11.hop H2;replace k13:=k13.hop H2;replace hn:=H2.tn
 repeat' with_reducible first|refine W.fldp ?_|refine W.nck ?_|refine W.u4 ?_
 refine W.stT k1 hn (Nat.le_of_ble_eq_true (by rfl)) fun τ3 H3 k1 hnτ3=>?_;replace HH:=HH.inP H3;replace k2:=k2.hop H3;replace k3:=k3.hop H3;replace k4:=k4.hop H3;replace k5:=k5.hop H3;replace k6:=k6.hop H3;replace k7:=k7.hop H3;replace k8:=k8.hop H3;replace k9:=k9.hop H3;replace k10:=k10.hop H3;replace k11:=k11.hop H3;replace k13:=k13.hop H3;replace hn:=H3.tn;have p3:PropH τ3 T2 lp { h with xm:=x2 } { s with marks:=s.marks++[(s.trail.length:Int)] }:=⟨k1,k2,k3,k4,k5,k6,k7,k8,k9,k10,k11,k12,k13⟩;refine W.bind ?_;refine W.mono (yas_ (r:=-1) p3 hn ⟨ht.len.vs,ht.len.lev,ht.len.rea,ht.len.wat⟩ ht.ok (by show s.trail.length<=_;omega) hn4 hl (by show val s.vs l≠2;omega) (mk:=s.marks++[(s.trail.length:Int)]) rfl (by simp;omega)) fun r hr=>?_;obtain⟨r,τ4⟩:=r;obtain⟨T4,h4,H4,p4,_⟩:=hr
 repeat' with_reducible refine W.ret ?_
 exact⟨rfl,T4,h4,HH.trans H4,p4⟩
theorem ygh_{t u la:Nat}{xa:AVal}{vs:List Int}(h1:Loc (σ.at T t) la [xa])(h2:Own .i8 (σ.at T u) vs xa)(hn:Tn σ T){v:Nat}(hv:0<v)(hvl:v<vs.length) :
  W (S.z3 (.ptr la 0) (v:Int) σ) fun r=>Own .i8 (r.2.at T u) (vs.set v 0) xa/\Hop (only u) σ T r.2 T:=by
 unfold S.z3
 repeat' (with_reducible refine W.bind ?_)
 refine W.condT (by simp;omega) ?_
 repeat' with_reducible first|refine W.ret ?_|refine W.asV ?_|refine W.fldp ?_|refine W.nck ?_|refine W.u0 ?_|refine W.u3 ?_
 refine W.condT (by simp;omega) ?_
 repeat' with_reducible first|refine W.asV ?_|refine W.fldp ?_|refine W.nck ?_|refine W.u0 ?_
 refine W.ixO h2.slT (i:=v) hvl ?_;refine W.own_set Vw.i8_flat h2 hn (List.getElem?_eq_getElem hvl) (k:=0) [.int .i8 vs[v]] (0:Int) (Nat.le_refl _) (fun _ h=>h) (fun _=>rfl) fun τ h2 H _=>?_
 repeat' with_reducible refine W.ret ?_
 exact⟨h2,H⟩
theorem yew_(s:PS):∀xs:List Int,(xs.foldl PS.unsetL s).trail=s.trail/\(xs.foldl PS.unsetL s).vs.length=s.vs.length/\(xs.foldl PS.unsetL s).lev.length=s.lev.length/\(xs.foldl PS.unsetL s).rea.length=s.rea.length:=by
 intro xs
 induction xs generalizing s with
 |nil=>exact⟨rfl,rfl,rfl,rfl⟩
 |cons a t ih=>
  obtain⟨h1,h2,h3,h4⟩:=ih (s.unsetL a);exact⟨h1,by rw[List.foldl_cons,h2];simp[PS.unsetL],by rw[List.foldl_cons,h3];simp[PS.unsetL],by rw[List.foldl_cons,h4];simp[PS.unsetL]⟩
def PS.backK(s:PS)(k:Nat):PS:=match s.marks[k]? with
 |some a=>s.back k a.toNat
 |none=>s
theorem yjm_(p:PropH σ T lp h s)(hn:Tn σ T)(hS:StI n s)(hn4:n<=4000):W (S.z60 (.ptr lp 0) (k:Int) σ) fun r=>∃T' h',Hop pI σ T r.2 T'/\PropH r.2 T' lp h' (s.backK k):=by
 have ht:=hS.ti;have hlt:=ht.lenT;have hl1:=ht.len.vs;have hl2:=ht.len.lev;have hl3:=ht.len.rea;have p0:=p;obtain⟨k1,k2,k3,k4,k5,k6,k7,k8,k9,k10,k11,k12,k13⟩:=p;have em:(if(0:Int)>(k:Int)then 0 else(k:Int))=(k:Int):=if_neg (by omega);unfold S.z60 PS.backK;rw[em]
 repeat' with_reducible first|refine W.asV ?_|refine W.fldp ?_|refine W.nck ?_|refine W.u0 ?_|refine W.u3 ?_
 by_cases hk:k<s.marks.length
 ·obtain⟨m,hm⟩:=y3_ (xs:=s.marks) (i:=k) hk
  obtain⟨a,e,⟨w,g1,g2⟩,_⟩:=ht.mks k m hm;subst e;have hal:=y2_ g1;rw[hm];refine W.condF (by simp;omega) ?_
  repeat' with_reducible first|refine W.asV ?_|refine W.fldp ?_|refine W.nck ?_|refine W.u0 ?_|refine W.u2 ?_
  obtain⟨y,e5,hy⟩:=k6.slice (lo:=a) (hi:=s.trail.length) (by omega) (Nat.le_refl _);rw[List.take_length]at hy;refine W.to ((e5 (at_le (σ:=σ) (T:=T) (i:=6)) _).2 rfl) ?_;have hys:=hy.sl;have hyl:(s.trail.drop a).length=s.trail.length-a:=by simp
  repeat' with_reducible first|refine W.bind ?_|refine W.len (by assumption) ?_
  refine W.mono (P:=fun r=>Hop pI σ T r.2 T/\PropH r.2 T lp h ((s.trail.drop a).foldl PS.unsetL s)) ?_ fun r hr=>?_
  ·refine W.loop (s.trail.drop a).length (fun i (x:Int) τ=>x=(i:Int)/\Hop pI σ T τ T/\SlV .int (τ.at T 6) (s.trail.drop a) y/\PropH τ T lp h (((s.trail.drop a).take i).foldl PS.unsetL s)) ⟨rfl,Hop.refl hn,hys,p0⟩ fun i x τ hi hI=>?_
   obtain⟨rfl,H1,hys,p1⟩:=hI;have wr:IntKind.i64.wrap ((i:Int)+1)=((i+1:Nat):Int):=by rw[wrapS]<;>omega
   unfold S.z60.b0
   (with_reducible refine W.cnd (fun hlt2=>?_) (fun hlt2=>?_)<;>(try simp only[qq,Kd.ty]at hlt2)<;>(try (exfalso;omega)))
   ·obtain⟨l,hl⟩:=y3_ (xs:=s.trail.drop a) (i:=i) (by omega)
    have hlL:=ht.rng l (List.mem_of_mem_drop (List.mem_of_getElem? hl));have hl0:=ye_ hlL;have htk:(s.trail.drop a).take (i+1)=(s.trail.drop a).take i++[l]:=by rw[List.take_add_one,hl];rfl
    rw[htk,List.foldl_append];obtain⟨_,f1,f2,f3⟩:=yew_ s ((s.trail.drop a).take i);generalize ((s.trail.drop a).take i).foldl PS.unsetL s=s1 at p1 f1 f2 f3⊢;obtain⟨k1,k2,k3,k4,k5,k6,k7,k8,k9,k10,k11,k12,k13⟩:=p1
    repeat' with_reducible first|refine W.bind ?_|refine W.ixIc (SlV.up (by assumption)) (by assumption) ?_
    refine W.to (yq_ hlL hn4) ?_
    repeat' with_reducible first|refine W.ret ?_|refine W.bind ?_|refine W.asV ?_|refine W.fldp ?_|refine W.nck ?_|refine W.u0 ?_
    refine W.mono (ygh_ k2 k3 H1.tn (v:=l.natAbs) (by omega) (by omega)) fun r hr=>?_;obtain⟨r,τ2⟩:=r;obtain⟨k3,H2⟩:=hr;dsimp only at k3 H2⊢;replace H1:=H1.inP H2;replace hys:=hys.hop H2;replace k1:=k1.hop H2;replace k2:=k2.hop H2;replace k4:=k4.hop H2;replace k5:=k5.hop H2;replace k6:=k6.hop H2;replace k7:=k7.hop H2;replace k8:=k8.hop H2;replace k9:=k9.hop H2;replace k10:=k10.hop H2;replace k11:=k11.hop H2;replace k13:=k13.hop H2;replace hn:=H2.tn
    repeat' with_reducible first|refine W.asV ?_|refine W.fldp ?_|refine W.nck ?_|refine W.u0 ?_
    refine W.ixO k4.slT (i:=l.natAbs) (by omega) ?_;refine W.own_setI k4 H1.tn (by omega) fun τ3 k4 H3 _=>?_;replace H1:=H1.inP H3;replace hys:=hys.hop H3;replace k1:=k1.hop H3;replace k2:=k2.hop H3;replace k3:=k3.hop H3;replace k5:=k5.hop H3;replace k6:=k6.hop H3;replace k7:=k7.hop H3;replace k8:=k8.hop H3;replace k9:=k9.hop H3;replace k10:=k10.hop H3;replace k11:=k11.hop H3;replace k13:=k13.hop H3;replace hn:=H3.tn;refine W.ixO k5.slT (i:=l.natAbs) (by omega) ?_;refine W.own_setI k5 H1.tn (by omega) fun τ4 k5 H4 _=>?_;replace H1:=H1.inP H4;replace hys:=hys.hop H4;replace k1:=k1.hop H4;replace k2:=k2.hop H4;replace k3:=k3.hop H4;replace k4:=k4.hop H4;replace k6:=k6.hop H4;replace k7:=k7.hop H4;replace k8:=k8.hop H4;replace k9:=k9.hop H4;replace k10:=k10.hop H4;replace k11:=k11.hop H4;replace k13:=k13.hop H4;replace hn:=H4.tn
    repeat' (with_reducible refine W.next ?_)
    exact⟨by omega,wr,H1,hys,k1,k2,k3,k4,k5,k6,k7,k8,k9,k10,k11,k12,k13⟩
   ·repeat' (with_reducible refine W.stop ?_)
    rw[List.take_of_length_le (by omega)]at p1;exact⟨H1,p1⟩
  ·obtain⟨r,τ1⟩:=r
   obtain⟨H1,p1⟩:=hr;dsimp only at H1 p1⊢;have U:=UnX.fold (s:=s) (xs:=s.trail.drop a) fun l hl=>ht.in (List.mem_of_mem_drop hl);have g1:((s.trail.drop a).foldl PS.unsetL s).trail=s.trail:=by rw[U.eq]
   have g2:((s.trail.drop a).foldl PS.unsetL s).marks=s.marks:=by rw[U.eq]
   have g3:((s.trail.drop a).foldl PS.unsetL s).head=s.head:=by rw[U.eq]
   clear k1 k2 k3 k4 k5 k6 k7 k8 k9 k10 k11 k12 k13
   have hb:s.back k a={ (s.trail.drop a).foldl PS.unsetL s with trail:=s.trail.take a,marks:=s.marks.take k,head:=min s.head a }:=rfl;rw[show((a:Int)).toNat=a from rfl,hb];generalize (s.trail.drop a).foldl PS.unsetL s=s1 at p1 g1 g2 g3⊢;obtain⟨k1,k2,k3,k4,k5,k6,k7,k8,k9,k10,k11,k12,k13⟩:=p1;have hn:=H1.tn;obtain⟨y6,e6,hy6⟩:=k6.slice (lo:=0) (hi:=a) (by omega) (by rw[g1];omega);obtain⟨y7,e7,hy7⟩:=k7.slice (lo:=0) (hi:=k) (by omega) (by rw[g2];omega);rw[List.drop_zero]at hy6 hy7;rw[g1]at hy6;rw[g2]at hy7;have L6:=at_le (σ:=τ1) (T:=T) (i:=6);have L7:=at_le (σ:=τ1) (T:=T) (i:=7)
   repeat' with_reducible first|refine W.asV ?_|refine W.fldp ?_|refine W.nck ?_|refine W.u0 ?_
   refine W.to ((e6 L6 _).1) ?_
   repeat' with_reducible first|refine W.asV ?_|refine W.fldp ?_|refine W.nck ?_|refine W.u0 ?_
   refine W.to ((e7 L7 _).1) ?_
   repeat' with_reducible first|refine W.fldp ?_|refine W.nck ?_|refine W.u4 ?_
   refine W.stT k1 hn (Nat.le_of_ble_eq_true (by rfl)) fun τ2 H2 k1 hnτ2=>?_;replace H1:=H1.inP H2;replace L7:Hle (τ1.at T 7) τ2:=(H2.le (by rfl)).trans at_le;replace hy6:=hy6.hop H2;replace hy7:=hy7.hop H2;replace k2:=k2.hop H2;replace k3:=k3.hop H2;replace k4:=k4.hop H2;replace k5:=k5.hop H2;replace k6:=k6.hop H2;replace k7:=k7.hop H2;replace k8:=k8.hop H2;replace k9:=k9.hop H2;replace k10:=k10.hop H2;replace k11:=k11.hop H2;replace k13:=k13.hop H2;replace hn:=H2.tn;refine W.to ((e7 L7 _).1) ?_
   repeat' with_reducible first|refine W.chk rfl ?_|refine W.fldp ?_|refine W.nck ?_|refine W.u4 ?_
   refine W.stT k1 hn (Nat.le_of_ble_eq_true (by rfl)) fun τ3 H3 k1 hnτ3=>?_;replace H1:=H1.inP H3;replace hy6:=hy6.hop H3;replace hy7:=hy7.hop H3;replace k2:=k2.hop H3;replace k3:=k3.hop H3;replace k4:=k4.hop H3;replace k5:=k5.hop H3;replace k8:=k8.hop H3;replace k9:=k9.hop H3;replace k10:=k10.hop H3;replace k11:=k11.hop H3;replace k13:=k13.hop H3;replace hn:=H3.tn
   repeat' with_reducible first|refine W.asI ?_|refine W.fldp ?_|refine W.nck ?_|refine W.u0 ?_
   rw[g3];refine W.stT k1 hn (Nat.le_of_ble_eq_true (by rfl)) fun τ4 H4 k1 hnτ4=>?_;replace H1:=H1.inP H4;replace hy6:=hy6.hop H4;replace hy7:=hy7.hop H4;replace k2:=k2.hop H4;replace k3:=k3.hop H4;replace k4:=k4.hop H4;replace k5:=k5.hop H4;replace k8:=k8.hop H4;replace k9:=k9.hop H4;replace k10:=k10.hop H4;replace k11:=k11.hop H4;replace k13:=k13.hop H4;replace hn:=H4.tn
   repeat' with_reducible refine W.ret ?_
   have ehd:(if(a:Int)<s.head then(a:Int)else s.head)=min s.head a:=by
    rw[Int.min_def];split<;>split<;>omega
   rw[ehd]at k1;exact⟨T,{ h with xt:=y6,xm:=y7 },H1,k1,k2,k3,k4,k5,hy6,hy7,k8,k9,k10,k11,k12,k13⟩
 ·rw[List.getElem?_eq_none (by omega)]
  refine W.condT (by simp;omega) ?_
  repeat' with_reducible refine W.ret ?_
  exact⟨T,h,Hop.refl hn,p0⟩
theorem ye0_(p:PropH σ T lp h s)(hn:Tn σ T)(ht:TrI n s)(hn4:n<=4000)(hc:s.cls[id]?=some (c,true,g))(hL:∀x∈c,isL x n=true)(hcl:c.length<=1000000) :
  W (S.z63 (.ptr lp 0) (id:Int) σ) fun r=>r=(false,σ)\/(r.1=true/\(∀x∈s.trail,x∈c->s.re x≠id)/\∃T' h',Hop pI σ T r.2 T'/\PropH r.2 T' lp h' (s.dropC id g)):=by
 obtain⟨y,hy,hO⟩:=p.cget hc;have hlt:=y2_ hc;have hclen:=p.clen;have p0:=p;have k1:=p.obj;have k8:=p.cls;have k5:=p.rea;have hS:=hO.slT;unfold S.z63;refine W.bind ?_;refine W.to (yai_ p hc) ?_
 repeat' with_reducible refine W.ret ?_
 refine W.condF rfl ?_
 repeat' with_reducible first|refine W.asV ?_|refine W.fldp ?_|refine W.nck ?_|refine W.u0 ?_
 refine W.ixO k8.slT (i:=id) (by omega) ?_;refine W.fldO k8.slT (i:=id) (k:=0) (j:=0) (by omega) ?_;refine W.ldO k8.slT hy (u:=y) (fun us h=>by rw[show us=[y,.bool true,.bool g]from h];rfl) ?_
 repeat' with_reducible first|refine W.bind ?_|refine W.asV ?_|refine W.len (by assumption) ?_
 refine W.mono (P:=fun r=>r=.inr false\/(r=.inl ()/\∀x∈c,x∈s.trail->s.re x≠id)) ?_ fun r hr=>?_
 ·refine W.loopP c.length (fun i (x:Int)=>x=(i:Int)/\∀(j:Nat) x,j<i->c[j]?=some x->x∈s.trail->s.re x≠id) ⟨rfl,fun j x hj=>by omega⟩ fun i x hi hI=>?_
  obtain⟨rfl,hall⟩:=hI;have w:IntKind.i64.wrap ((i:Int)+1)=((i+1:Nat):Int):=by rw[wrapS]<;>omega
  unfold S.z63.b0
  (with_reducible refine W.cnd (fun hlt2=>?_) (fun hlt2=>?_)<;>(try simp only[qq,Kd.ty]at hlt2)<;>(try (exfalso;omega)))
  ·obtain⟨a,ha⟩:=y3_ (xs:=c) (i:=i) (by omega)
   have haL:=hL a (List.mem_of_getElem? ha);have hg:=ht.rget haL
   repeat' with_reducible first|refine W.bind ?_|refine W.asV ?_|refine W.fldp ?_|refine W.e2 ?_|refine W.nck ?_|refine W.u0 ?_
   refine W.to (p0.val ht hn4 haL) ?_
   repeat' with_reducible refine W.ret ?_
   refine W.mono (P:=fun r=>r=decide (val s.vs a=1/\s.re a=id)) ?_ fun r hr=>?_
   ·by_cases hv:val s.vs a=1
    ·refine W.condT (by simp[hv]) ?_
     repeat' with_reducible first|refine W.bind ?_|refine W.asV ?_|refine W.fldp ?_|refine W.nck ?_|refine W.u0 ?_
     refine W.to (yq_ haL hn4) ?_
     repeat' with_reducible first|refine W.ret ?_|refine W.u2 ?_
     by_cases e:s.re a=id<;>simp[hv,e]
    ·refine W.condF (by simp[hv]) ?_
     repeat' with_reducible refine W.ret ?_
     simp[hv]
   subst hr;by_cases hq:val s.vs a=1/\s.re a=id
   ·refine W.condT (decide_eq_true hq) ?_
    repeat' (with_reducible refine W.stopP ?_)
    exact .inl rfl
   ·refine W.condF (decide_eq_false hq) ?_
    repeat' (with_reducible refine W.nextP ?_)
    refine⟨by omega,w,fun j x hj hx hm=>?_⟩;by_cases e:j=i
    ·subst e;rw[ha]at hx;cases hx
     exact fun q=>hq ⟨(ht.tr a).2 hm,q⟩
    ·exact hall j x (by omega) hx hm
  ·repeat' (with_reducible refine W.stopP ?_)
   exact .inr ⟨rfl,fun x hx=>by
    obtain⟨j,hj⟩:=yb_ hx;exact hall j x (by have:=y2_ hj;omega) hj⟩
 ·rcases hr with e|⟨e,hall⟩
  ·subst e
   repeat' with_reducible refine W.ret ?_
   exact .inl rfl
  ·subst e
   obtain⟨k1,k2,k3,k4,k5,k6,k7,k8,k9,k10,k11,k12,k13⟩:=p0
   repeat' with_reducible first|refine W.asV ?_|refine W.fldp ?_|refine W.nck ?_|refine W.u0 ?_
   refine W.ixO k8.slT (i:=id) (by omega) ?_;refine W.fldO k8.slT (i:=id) (k:=0) (j:=2) (by omega) ?_;refine W.ldO k8.slT hy (u:=.bool g) (fun us h=>by rw[show us=[y,.bool true,.bool g]from h];rfl) ?_
   repeat' (with_reducible refine W.asB ?_)
   refine W.ixO k8.slT (i:=id) (by omega) ?_;refine W.own_set y6c_ k8 hn hy (k:=0) [y,.bool true,.bool g] (.nils,false,g) (Nat.le_of_ble_eq_true rfl) (fun bs h=>h) (fun _=>rfl) fun τ3 k8 H3 _=>?_;have HH:Hop pI σ T τ3 T:=(Hop.refl hn).inP H3;replace k1:=k1.hop H3;replace k2:=k2.hop H3;replace k3:=k3.hop H3;replace k4:=k4.hop H3;replace k5:=k5.hop H3;replace k6:=k6.hop H3;replace k7:=k7.hop H3;replace k9:=k9.hop H3;replace k10:=k10.hop H3;replace k11:=k11.hop H3;replace k13:=k13.hop H3;replace hn:=H3.tn
   repeat' with_reducible refine W.ret ?_
   refine .inr ⟨rfl,fun x hx hxc=>hall x hxc hx,T,{ h with cs:=h.cs.set id (.nils,false,g) },HH,k1,k2,k3,k4,k5,k6,k7,k8,k9,k10,?_,?_,k13⟩
   ·show Fam τ3 T 40 ((s.cls.set id ([],false,g)).map (·.1)) ((h.cs.set id (.nils,false,g)).map (·.1))
    rw[List.map_set,List.map_set];exact k11.hopAt (Hop.refl hn) .nil
   ·show(h.cs.set id (.nils,false,g)).map (·.2)=(s.cls.set id ([],false,g)).map (·.2)
    rw[List.map_set,List.map_set,k12]
end
end
end Go.Proofs.YtafbldhedkallaaGreatDoor.A
end
