/- Parts of the proof, one behind another. -/
import Derived.Test.YtafbldhedkallaaGreatDoorX1
import Derived.Test.YtafbldhedkallaaGreatDoorX0
import Derived.Test.YtafbldhedkallaaGreatDoorX8
import Derived.Test.YtafbldhedkallaaGreatDoorX6
set_option linter.all false
noncomputable section
namespace Go.Proofs.YtafbldhedkallaaGreatDoor.A
section
open Go
theorem wrapS{n:Int}(h0 : -9223372036854775808<=n)(h1:n<9223372036854775808):IntKind.i64.wrap n=n:=by
 rw[IntKind.wrap_i64];omega
theorem yl_(σ:Heap)(o:AObj)(k:Nat):(σ.new o).get k=if k=σ.next then some o else σ.get k:=rfl
theorem ys_(σ:Heap)(l k:Nat):(σ.kill l).get k=if k=l then none else σ.get k:=rfl
theorem y35_(σ:Heap)(l k:Nat)(o:AObj):(σ.set l o).get k=if k=l then some o else σ.get k:=rfl
structure Hle(σ τ:Heap):Prop where
 next:σ.next<=τ.next
 get:∀l o,l<σ.next->σ.get l=some o->τ.get l=some o
section
variable{σ τ υ:Heap}{l:Nat}{o:AObj}
theorem Hle.refl(σ:Heap):Hle σ σ:=⟨Nat.le_refl _,fun _ _ _ h=>h⟩
theorem Hle.trans(h:Hle σ τ)(k:Hle τ υ):Hle σ υ:=⟨Nat.le_trans h.next k.next,fun l o hl hg=>k.get l o (Nat.lt_of_lt_of_le hl h.next) (h.get l o hl hg)⟩
theorem Hle.new(h:Hle σ τ)(o:AObj):Hle σ (τ.new o):=⟨Nat.le_succ_of_le h.next,fun l x hl hg=>by
 have:=h.next;simp only[Heap.new];rw[if_neg (by omega)];exact h.get l x hl hg⟩
theorem Hle.set(h:Hle σ τ)(hl:σ.next<=l)(o:AObj):Hle σ (τ.set l o):=⟨h.next,fun k x hk hg=>by
 simp only[Heap.set];rw[if_neg (by omega)];exact h.get k x hk hg⟩
theorem Hle.kill(h:Hle σ τ)(hl:σ.next<=l):Hle σ (τ.kill l):=⟨h.next,fun k x hk hg=>by
 simp only[Heap.kill];rw[if_neg (by omega)];exact h.get k x hk hg⟩
theorem Hle.of_kill(σ:Heap)(l:Nat):Hle (σ.kill l) σ:=⟨Nat.le_refl _,fun k x _ hg=>by
 simp only[Heap.kill]at hg;split at hg
 ·cases hg
 ·exact hg⟩
theorem Hle.kill_set(σ:Heap)(l:Nat)(o:AObj):Hle (σ.kill l) (σ.set l o):=⟨Nat.le_refl _,fun k x _ hg=>by
 simp only[Heap.kill]at hg;split at hg
 ·cases hg
 ·rename_i h;simp only[Heap.set];rw[if_neg h];exact hg⟩
theorem Hle.killed(h:Hle σ τ)(l:Nat):Hle (σ.kill l) (τ.kill l):=⟨h.next,fun k x hk hg=>by
 simp only[Heap.kill]at hg⊢;split at hg
 ·cases hg
 ·rename_i h1;rw[if_neg h1];exact h.get k x hk hg⟩
theorem Hle.kill_kill_set(σ:Heap)(l:Nat)(o:AObj):Hle (σ.kill l) ((σ.set l o).kill l):=⟨Nat.le_refl _,fun k x _ hg=>by
 simp only[Heap.kill]at hg⊢;split at hg
 ·cases hg
 ·rename_i h;simp only[Heap.set,if_neg h];exact hg⟩
end
section
variable{σ τ:Heap}{p:AVal}{as0:List AVal}{l o k n:Nat}{a:AVal}
def At(σ:Heap)(p:AVal)(as0:List AVal):Prop:=∃l o md sz cs,p=.ptr l o/\l<σ.next/\σ.get l=some (.cells md sz cs)/\o+as0.length<=cs.length/\(cs.drop o).take as0.length=as0
theorem At.mono(h:At σ p as0)(L:Hle σ τ):At τ p as0:=by
 obtain⟨l,o,md,sz,cs,h1,h2,h3,h4,h5⟩:=h;exact⟨l,o,md,sz,cs,h1,Nat.lt_of_lt_of_le h2 L.next,L.get _ _ h2 h3,h4,h5⟩
theorem At.new(σ:Heap)(sz:Nat)(cs:List AVal):At (σ.new (.cells .rw sz cs)) (.ptr σ.next 0) cs:=
 ⟨_,0,.rw,sz,cs,rfl,Nat.lt_succ_self _,by simp[Heap.new],by simp,by simp⟩
theorem At.of_get{md:Md}{sz:Nat}(hl:l<σ.next)(h:σ.get l=some (.cells md sz as0)):At σ (.ptr l 0) as0:=⟨_,0,md,sz,as0,rfl,hl,h,by simp,by simp⟩
theorem At.drop(h:At σ (.ptr l o) as0)(k:Nat)(hk:k<=as0.length):At σ (.ptr l (o+k)) (as0.drop k):=by
 obtain⟨l',o',md,sz,cs,h1,h2,h3,h4,h5⟩:=h;cases h1;refine⟨l,o+k,md,sz,cs,rfl,h2,h3,by simp;omega,?_⟩
 conv=>rhs;rw[<-h5]
 rw[List.drop_take,List.drop_drop,List.length_drop]
theorem At.take(h:At σ p as0)(k:Nat)(hk:k<=as0.length):At σ p (as0.take k):=by
 obtain⟨l',o',md,sz,cs,h1,h2,h3,h4,h5⟩:=h;refine⟨l',o',md,sz,cs,h1,h2,h3,by simp;omega,?_⟩
 conv=>rhs;rw[<-h5]
 rw[List.take_take,List.length_take]
theorem At.cell{l o:Nat}(h:At σ (.ptr l o) as0)(hk:as0[k]?=some a):σ.cell l (o+k)=some a:=by
 obtain⟨l',o',md,sz,cs,h1,h2,h3,h4,h5⟩:=h;cases h1;have hlt:=(List.getElem?_eq_some_iff.1 hk).1;have:((cs.drop o).take as0.length)[k]?=some a:=by rw[h5,hk]
 rw[List.getElem?_take_of_lt hlt,List.getElem?_drop]at this;simp only[Heap.cell,h3,this]
theorem At.ld{Rt:Type}{kd:Kd}(h:At σ p (a::as0))(K:kd.ty->Option Rt):ld σ p kd K=asK kd a K:=by
 obtain⟨l,o,_,_,_,rfl,_⟩:=id h;have:=h.cell (k:=0) (a:=a) rfl;rw[Nat.add_zero]at this;simp only[A.ld,this]
theorem At.ld0{Rt:Type}{kd:Kd}(h:At σ (.ptr l 0) as0)(hk:as0[k]?=some a)(K:kd.ty->Option Rt):A.ld σ (.ptr l k) kd K=asK kd a K:=by
 have:=h.cell hk;rw[Nat.zero_add]at this;simp only[A.ld,this]
theorem At.ldG{Rt:Type}(h:At σ p as0)(hn:n=as0.length)(K:AVal->Option Rt):ldG σ p n K=K (.agg as0):=by
 obtain⟨l,o,md,sz,cs,rfl,h2,h3,h4,h5⟩:=h;subst hn;simp only[A.ldG,h3,if_pos h4,h5]
end
structure Vw(α:Type) where
 sz:Nat
 rel:Heap->α->List AVal->Prop
 pos:0<sz
 len:∀{σ a as0},rel σ a as0->as0.length=sz
 mono:∀{σ τ a as0},Hle σ τ->rel σ a as0->rel τ a as0
variable{α β:Type}
def SlV(v:Vw α)(σ:Heap)(xs:List α)(x:AVal):Prop:=(x=.nils/\xs=[])\/∃l off c md cs,x=.sl l off xs.length c/\l<σ.next/\σ.get l=some (.cells md v.sz cs) /\
 (off+xs.length)*v.sz<=cs.length/\∀i a,xs[i]?=some a->v.rel σ a ((cs.drop ((off+i)*v.sz)).take v.sz)
def Vw.int:Vw Int:=⟨1,fun _ a as0=>as0=[.int .i64 a],Nat.one_pos,fun h=>by rw[h];rfl,fun _ h=>h⟩
def Vw.bool:Vw Bool:=⟨1,fun _ a as0=>as0=[.bool a],Nat.one_pos,fun h=>by rw[h];rfl,fun _ h=>h⟩
def Vw.pair(v:Vw α)(w:Vw β):Vw (α×β):=⟨v.sz+w.sz,fun σ ab as0=>∃as1 as2,as0=as1++as2/\v.rel σ ab.1 as1/\w.rel σ ab.2 as2,Nat.add_pos_left v.pos _,fun h=>by
 obtain⟨_,_,rfl,h1,h2⟩:=h;rw[List.length_append,v.len h1,w.len h2],fun L h=>by
 obtain⟨a,b,e,h1,h2⟩:=h;exact⟨a,b,e,v.mono L h1,w.mono L h2⟩⟩
section
variable{v:Vw α}{σ τ:Heap}{xs ys:List α}{x w:AVal}
theorem SlV.mono(h:SlV v σ xs x)(L:Hle σ τ):SlV v τ xs x:=by
 rcases h with h|⟨l,off,c,md,cs,h1,h2,h3,h4,h5⟩
 ·exact .inl h
 ·exact .inr ⟨l,off,c,md,cs,h1,Nat.lt_of_lt_of_le h2 L.next,L.get _ _ h2 h3,h4,fun i a ha=>v.mono L (h5 i a ha)⟩
theorem SlV.nil(v:Vw α)(σ:Heap):SlV v σ [] .nils:=.inl ⟨rfl,rfl⟩
def Vw.sl(v:Vw α):Vw (List α):=⟨1,fun σ xs as0=>∃x,as0=[x]/\SlV v σ xs x,Nat.one_pos,fun h=>by obtain⟨_,rfl,_⟩:=h;rfl,fun L h=>by
 obtain⟨x,e,h⟩:=h;exact⟨x,e,h.mono L⟩⟩
theorem SlV.len{Rt:Type}(h:SlV v σ xs x)(K:Int->Option Rt):lenV x K=K (xs.length:Int):=by
 rcases h with ⟨rfl,rfl⟩|⟨l,off,c,md,cs,rfl,_⟩<;>rfl
theorem SlV.scal{Rt:Type}(h:SlV v σ xs x)(X:Option Rt):scal x X=X:=by
 rcases h with ⟨rfl,rfl⟩|⟨l,off,c,md,cs,rfl,_⟩<;>rfl
theorem SlV.ix{i:Nat}{a:α}(h:SlV v σ xs x)(hi:xs[i]?=some a):∃p as0,At σ p as0/\v.rel σ a as0/\∀{τ:Heap},Hle σ τ->∀{Rt:Type} (K:AVal->Option Rt),ixA τ x v.sz (i:Int) K=K p:=by
 rcases h with ⟨rfl,rfl⟩|⟨l,off,c,md,cs,rfl,h2,h3,h4,h5⟩
 ·simp at hi
 ·have hlt:=(List.getElem?_eq_some_iff.1 hi).1
  have hr:=h5 i a hi;have hle:(off+i)*v.sz+v.sz<=cs.length:=Nat.le_trans (by rw[<-Nat.succ_mul];exact Nat.mul_le_mul_right _ (by omega)) h4;refine⟨.ptr l ((off+i)*v.sz),_,⟨l,(off+i)*v.sz,md,v.sz,cs,rfl,h2,h3,by rw[v.len hr];exact hle,by rw[v.len hr]⟩,hr,fun {τ} L {_} K=>?_⟩;simp only[ixA,L.get _ _ h2 h3];rw[if_pos ⟨trivial,by omega,by omega⟩,Int.toNat_natCast]
theorem SlV.src(h:SlV v σ ys w):∃cs,(∀{Rt:Type} (K:List AVal->Nat->Option Rt),srcK σ v.sz w K=K cs ys.length)/\cs.length=ys.length*v.sz/\∀i a,ys[i]?=some a->v.rel σ a ((cs.drop (i*v.sz)).take v.sz):=by
 rcases h with ⟨rfl,rfl⟩|⟨l,off,c,md,cs,rfl,h2,h3,h4,h5⟩
 ·exact⟨[],fun K=>rfl,by simp,fun i a h=>by simp at h⟩
 ·refine⟨(cs.drop (off*v.sz)).take (ys.length*v.sz),fun K=>?_,?_,fun i a hi=>?_⟩
  ·simp only[srcK,h3];rw[if_pos ⟨trivial,h4⟩]
  ·have:(off+ys.length)*v.sz=off*v.sz+ys.length*v.sz:=Nat.add_mul ..
   rw[List.length_take,List.length_drop];omega
  ·have hlt:=(List.getElem?_eq_some_iff.1 hi).1
   have e:(i+1)*v.sz<=ys.length*v.sz:=Nat.mul_le_mul_right _ hlt;rw[Nat.add_mul,Nat.one_mul]at e;rw[List.drop_take,List.drop_drop,List.take_take,Nat.min_eq_left (by omega),<-Nat.add_mul];exact h5 i a hi
def out(σ:Heap):AVal->Heap
 | .sl l _ _ _=>σ.kill l
 |_=>σ
def Acc(v:Vw α)(n0:Nat)(σ:Heap)(xs:List α)(x:AVal):Prop:=(x=.nils/\xs=[])\/∃l cs,x=.sl l 0 xs.length none/\n0<=l/\l<σ.next/\σ.get l=some (.cells .rw v.sz cs) /\
 xs.length*v.sz<=cs.length/\∀i a,xs[i]?=some a->v.rel (σ.kill l) a ((cs.drop (i*v.sz)).take v.sz)
theorem Hle.out(σ:Heap)(x:AVal):Hle (out σ x) σ:=by
 cases x<;>first|exact Hle.refl _|exact Hle.of_kill ..
theorem Hle.outs(h:Hle σ τ)(x:AVal):Hle (A.out σ x) (A.out τ x):=by
 cases x<;>first|exact h|exact h.killed _
theorem yby_(σ:Heap)(x:AVal):(out σ x).next=σ.next:=by cases x<;>rfl
theorem Acc.nil(v:Vw α)(n0:Nat)(σ:Heap):Acc v n0 σ [] .nils:=.inl ⟨rfl,rfl⟩
theorem Acc.sl{n0:Nat}(h:Acc v n0 σ xs x):SlV v σ xs x:=by
 rcases h with h|⟨l,cs,rfl,_,h2,h3,h4,h5⟩
 ·exact .inl h
 ·exact .inr ⟨l,0,none,.rw,cs,rfl,h2,h3,by simpa using h4,fun i a hi=>by rw[Nat.zero_add];exact v.mono (Hle.of_kill _ _) (h5 i a hi)⟩
theorem Acc.mono{n0:Nat}(h:Acc v n0 σ xs x)(L:Hle σ τ):Acc v n0 τ xs x:=by
 rcases h with h|⟨l,cs,h1,h2,h3,h4,h5,h6⟩
 ·exact .inl h
 ·exact .inr ⟨l,cs,h1,h2,Nat.lt_of_lt_of_le h3 L.next,L.get _ _ h3 h4,h5,fun i a hi=>v.mono (L.killed l) (h6 i a hi)⟩
theorem Acc.out_le{σ0:Heap}(h:Acc v σ0.next σ xs x)(L:Hle σ0 σ):Hle σ0 (out σ x):=by
 rcases h with ⟨rfl,_⟩|⟨l,cs,rfl,h2,_⟩
 ·exact L
 ·exact L.kill h2
theorem Acc.len{Rt:Type}{n0:Nat}(h:Acc v n0 σ xs x)(K:Int->Option Rt):lenV x K=K (xs.length:Int):=h.sl.len K
theorem y9h_{v:Vw α}{σ:Heap}{xs ys:List α}{cs ds:List AVal}(hc:cs.length=xs.length*v.sz)(h1:∀i a,xs[i]?=some a->v.rel σ a ((cs.drop (i*v.sz)).take v.sz))(h2:∀i a,ys[i]?=some a->v.rel σ a ((ds.drop (i*v.sz)).take v.sz))(es:List AVal)
  (hd:ds.length=ys.length*v.sz):∀i a,(xs++ys)[i]?=some a->v.rel σ a (((cs++ds++es).drop (i*v.sz)).take v.sz):=by
 intro i a hi;by_cases h:i<xs.length
 ·rw[List.getElem?_append_left h]at hi
  have:=h1 i a hi;have e:(i+1)*v.sz<=xs.length*v.sz:=Nat.mul_le_mul_right _ h;rw[Nat.add_mul,Nat.one_mul]at e;rw[List.append_assoc,List.drop_append_of_le_length (by omega),List.take_append_of_le_length (by simp;omega)];exact this
 ·rw[List.getElem?_append_right (by omega)]at hi
  have:=h2 _ a hi;have hlt:=(List.getElem?_eq_some_iff.1 hi).1;have e0:i*v.sz=cs.length+(i-xs.length)*v.sz:=by rw[hc,<-Nat.add_mul];congr 1;omega
  have e:(i-xs.length+1)*v.sz<=ys.length*v.sz:=Nat.mul_le_mul_right _ hlt;rw[Nat.add_mul,Nat.one_mul]at e;rw[List.append_assoc,e0,<-List.drop_drop,List.drop_left,List.drop_append_of_le_length (by omega),List.take_append_of_le_length (by simp;omega)];exact this
theorem Acc.app{σ0:Heap}{bytes:Nat}(h:Acc v σ0.next σ xs x)(L:Hle σ0 σ)(hs:SlV v (out σ x) ys w)(hb:(xs.length+ys.length)*bytes<=70368744177664)(hb':xs.length+ys.length<=70368744177664) :
  ∃x' σ',(∀{Rt:Type} (K:AVal->Heap->Option Rt),appS σ v.sz bytes x w K=K x' σ')/\Hle σ0 σ'/\Acc v σ0.next σ' (xs++ys) x'/\Hle (out σ x) (out σ' x'):=by
 obtain⟨ds,e1,d1,d2⟩:=hs.src;have e1':∀{Rt:Type} (K:List AVal->Nat->Option Rt),srcK σ v.sz w K=K ds ys.length:=by
  rcases hs with ⟨rfl,rfl⟩|⟨l,off,c,md,cs,rfl,h2,h3,h4,h5⟩
  ·exact fun K=>e1 K
  ·intro Rt K
   rw[<-e1 K];simp only[srcK,h3,(Hle.out σ x).get _ _ h2 h3]
 rcases h with ⟨rfl,rfl⟩|⟨l,cs,rfl,h2,h3,h4,h5,h6⟩
 ·by_cases h0:ys.length=0
  ·have:ys=[]:=List.eq_nil_of_length_eq_zero h0
   subst this;exact⟨.nils,σ,fun K=>by simp only[appS,e1',appC];rw[if_pos h0],L,.inl ⟨rfl,rfl⟩,Hle.refl _⟩
  ·refine⟨.sl σ.next 0 ys.length none,σ.new (.cells .rw v.sz ds),fun K=>?_,L.new _,.inr ⟨σ.next,ds,by simp,L.next,Nat.lt_succ_self _,by simp[Heap.new],by simp[d1],fun i a hi=>?_⟩,?_⟩
   ·simp only[appS,e1',appC,newK]
    simp only[List.length_nil,Nat.zero_add]at hb hb';rw[if_neg h0,if_pos ⟨hb,hb'⟩]
   ·rw[List.nil_append]at hi
    refine v.mono ?_ (d2 i a hi);exact⟨Nat.le_succ _,fun k y hk hg=>by simp only[A.out]at hk;simp only[Heap.kill,Heap.new];rw[if_neg (by omega),if_neg (by omega)];exact hg⟩
   ·exact⟨Nat.le_succ _,fun k y hk hg=>by simp only[A.out]at hk hg⊢;simp only[Heap.kill,Heap.new];rw[if_neg (by omega),if_neg (by omega)];exact hg⟩
 ·simp only[A.out]at hs d2⊢
  by_cases h0:ys.length=0
  ·have:ys=[]:=List.eq_nil_of_length_eq_zero h0
   subst this;refine⟨_,σ,fun K=>by simp only[appS,e1',appC,h4];rw[if_pos ⟨trivial,v.pos,by simpa using h5⟩,if_pos h0],L,.inr ⟨l,cs,by simp,h2,h3,h4,by simpa using h5,fun i a hi=>h6 i a (by simpa using hi)⟩,Hle.refl _⟩
  ·by_cases hroom:(xs.length+ys.length)*v.sz<=cs.length
   ·have ea:(xs.length+ys.length)*v.sz=xs.length*v.sz+ys.length*v.sz:=Nat.add_mul ..
    refine⟨.sl l 0 (xs.length+ys.length) none,σ.set l (.cells .rw v.sz (cs.take (xs.length*v.sz)++ds++cs.drop ((xs.length+ys.length)*v.sz))),fun K=>?_,L.set h2 _,.inr ⟨l,cs.take (xs.length*v.sz)++ds++cs.drop ((xs.length+ys.length)*v.sz),by simp,h2,h3,by simp[Heap.set],by simp;omega,?_⟩,Hle.kill_kill_set ..⟩
    ·simp only[appS,e1',appC,h4,Nat.zero_add]
     rw[if_pos ⟨trivial,v.pos,h5⟩,if_neg h0,if_pos ⟨hb,hb'⟩];simp only[if_true];rw[if_pos hroom]
    ·refine y9h_ (by simp;omega) (fun i a hi=>?_) (fun i a hi=>v.mono (Hle.kill_kill_set ..) (d2 i a hi)) (cs.drop ((xs.length+ys.length)*v.sz)) d1
     have hlt:=(List.getElem?_eq_some_iff.1 hi).1;have e:(i+1)*v.sz<=xs.length*v.sz:=Nat.mul_le_mul_right _ hlt;rw[Nat.add_mul,Nat.one_mul]at e;rw[List.drop_take,List.take_take,Nat.min_eq_left (by omega)];exact v.mono (Hle.kill_kill_set ..) (h6 i a hi)
   ·refine⟨.sl σ.next 0 (xs.length+ys.length) none,(σ.kill l).new (.cells .rw v.sz (cs.take (xs.length*v.sz)++ds)),fun K=>?_,(L.kill h2).new _,.inr ⟨σ.next,cs.take (xs.length*v.sz)++ds,by simp,L.next,Nat.lt_succ_self _,by simp[Heap.new,Heap.kill],by simp[Nat.add_mul];omega,?_⟩,?_⟩
    ·simp only[appS,e1',appC,h4,Nat.zero_add]
     rw[if_pos ⟨trivial,v.pos,h5⟩,if_neg h0,if_pos ⟨hb,hb'⟩];simp only[if_true];rw[if_neg hroom];simp only[newK,Nat.zero_mul,List.drop_zero];rfl
    ·have Lk:Hle (σ.kill l) (((σ.kill l).new (.cells .rw v.sz (cs.take (xs.length*v.sz)++ds))).kill σ.next):=
      ⟨Nat.le_succ _,fun k y hk hg=>by
       have hk:k<σ.next:=hk;have hne:k≠σ.next:=by omega
       have hne2:k≠(σ.kill l).next:=hne;rw[ys_,if_neg hne,yl_,if_neg (show¬k=(σ.kill l).next from hne)];exact hg⟩
     have:=y9h_ (v:=v) (σ:=((σ.kill l).new (.cells .rw v.sz (cs.take (xs.length*v.sz)++ds))).kill σ.next) (xs:=xs) (ys:=ys) (cs:=cs.take (xs.length*v.sz)) (ds:=ds) (by simp;omega) (fun i a hi=>?_) (fun i a hi=>v.mono Lk (d2 i a hi)) [] d1
     ·simpa using this
     ·have hlt:=(List.getElem?_eq_some_iff.1 hi).1
      have e:(i+1)*v.sz<=xs.length*v.sz:=Nat.mul_le_mul_right _ hlt;rw[Nat.add_mul,Nat.one_mul]at e;rw[List.drop_take,List.take_take,Nat.min_eq_left (by omega)];exact v.mono Lk (h6 i a hi)
    ·exact⟨Nat.le_succ _,fun k y hk hg=>by
      have hk:k<σ.next:=hk;have hne:k≠σ.next:=by omega
      show(((σ.kill l).new _).kill σ.next).get k=_;rw[ys_,if_neg hne,yl_,if_neg (show¬k=(σ.kill l).next from hne)];exact hg⟩
end
section
variable{v:Vw α}{σ τ:Heap}{xs ys:List α}{x w:AVal}{n0 i:Nat}{a:α}
def Vw.Flat(v:Vw α):Prop:=∀σ τ a as0,v.rel σ a as0->v.rel τ a as0
theorem Vw.int_flat:Vw.int.Flat:=fun _ _ _ _ h=>h
theorem Vw.bool_flat:Vw.bool.Flat:=fun _ _ _ _ h=>h
theorem SlV.flat{σ τ:Heap}(hf:v.Flat)(h:SlV v σ xs x)(hn:σ.next<=τ.next)(hg:∀l off len c,x=.sl l off len c->τ.get l=σ.get l):SlV v τ xs x:=by
 rcases h with h|⟨l,off,c,md,cs,rfl,h2,h3,h4,h5⟩
 ·exact .inl h
 ·exact .inr ⟨l,off,c,md,cs,rfl,by omega,by rw[hg _ _ _ _ rfl];exact h3,h4,fun i a ha=>hf _ _ _ _ (h5 i a ha)⟩
end
theorem yap_{X Y:Type}{f:X->Heap->Option ((X⊕Y)×Heap)}(n:Nat)(Inv:Nat->X->Heap->Prop)(Q:Y->Heap->Prop)
  (step:∀i x σ,i<n->Inv i x σ->(∃x' σ',f x σ=some (.inl x',σ')/\Inv (i+1) x' σ')\/∃y σ',f x σ=some (.inr y,σ')/\Q y σ')
  (stop:∀x σ,Inv n x σ->∃y σ',f x σ=some (.inr y,σ')/\Q y σ') {x:X} {σ:Heap} (h:Inv 0 x σ):∃y σ',loopW f x σ=some (y,σ')/\Q y σ':=by
 have:∀k i x σ,i+k=n->Inv i x σ->∃y σ',loopW f x σ=some (y,σ')/\Q y σ':=by
  intro k
  induction k with
  |zero=>
   intro i x σ hi h;obtain rfl:i=n:=by omega
   obtain⟨y,σ',h1,h2⟩:=stop x σ h;exact⟨y,σ',y2v_ h1,h2⟩
  | succ k ih=>
   intro i x σ hi h;rcases step i x σ (by omega) h with ⟨x',σ',h1,h2⟩|⟨y,σ',h1,h2⟩
   ·obtain⟨y,σ2,h3,h4⟩:=ih (i+1) x' σ' (by omega) h2
    exact⟨y,σ2,y64_ h1 h3,h4⟩
   ·exact⟨y,σ',y2v_ h1,h2⟩
 exact this n 0 x σ (by omega) h
end
section
open Go Go.RowKit
variable{P:Program}{α β:Type}
theorem ykd_{size:Nat}{rel:(Nat->Option AObj)->α->List AVal->Prop}(v:Vw β)(φ:α->β)(hsz:v.sz=size){σ:Heap}(hn:∀l o,σ.get l=some o->l<σ.next)
  (hr:∀a us,rel σ.get a us->v.rel σ (φ a) us) {xs:List α} {us:List AVal} (h:y38_ size rel σ.get xs us):∃x,us=[x]/\SlV v σ (xs.map φ) x:=by
 subst hsz;rcases h with ⟨rfl,rfl⟩|⟨l,md,ass,rfl,h2,h3,h4,h5,_⟩
 ·exact⟨_,rfl,SlV.nil _ _⟩
 ·refine⟨_,rfl,.inr ⟨l,0,none,md,ass.flatten,by simp,hn _ _ h2,h2,by rw[y55_ _ _ h4,List.length_map,h3,Nat.zero_add];exact Nat.le_refl _,fun i b hb=>?_⟩⟩
  simp only[List.getElem?_map,Option.map_eq_some_iff]at hb;obtain⟨a,ha,rfl⟩:=hb;have hi:=(List.getElem?_eq_some_iff.1 ha).1;obtain⟨u,hu⟩:∃u,ass[i]?=some u:=⟨_,List.getElem?_eq_getElem (by omega)⟩;have hul:=h4 u (List.mem_of_getElem? hu);have:(ass.flatten.drop ((0+i)*v.sz)).take v.sz=u:=by
   apply List.ext_getElem? fun q=>?_;rw[Nat.zero_add];by_cases hq:q<v.sz
   ·rw[List.getElem?_take_of_lt hq,List.getElem?_drop,y53_ v.sz ass i q u h4 hu hq]
   ·rw[List.getElem?_eq_none (by simp;omega),List.getElem?_eq_none (by omega)]
  rw[this];exact hr a u (h5 i a u ha hu)
theorem ybr_{size:Nat}{rel:(Nat->Option AObj)->α->List AVal->Prop}{g:Nat->Option AObj}{xs:List α}{us:List AVal}(h:y38_ size rel g xs us):∀a∈xs,∃u,rel g a u:=by
 rcases h with ⟨_,rfl⟩|⟨l,md,ass,_,_,h3,_,h5,_⟩
 ·intro a ha;cases ha
 ·intro a ha
  obtain⟨i,hi,e⟩:=List.getElem_of_mem ha;exact⟨_,h5 i a _ (by rw[List.getElem?_eq_getElem hi,e]) (List.getElem?_eq_getElem (by omega))⟩
theorem ybu_{size:Nat}{rel:(Nat->Option AObj)->α->List AVal->Prop}{g:Nat->Option AObj}{xs:List α}{us:List AVal}(h:y38_ size rel g xs us):xs.length<=140737488351232:=by
 rcases h with ⟨_,rfl⟩|⟨l,md,ass,_,_,_,_,_,h6⟩
 ·simp
 ·exact h6
end
section
open Go
noncomputable abbrev prg:Program:=Tryz.prog
abbrev tErr:TypeId:=247
abbrev tAt:TypeId:=133
abbrev yi5_:Nat:=5
abbrev ygm_:Nat:=2
abbrev yk6_:Nat:=0
abbrev yk9_:Nat:=3
abbrev gText:Nat:=4
abbrev yj4_:Nat:=1
abbrev gCert:Nat:=6
end
section
open Go
variable{α β:Type}
theorem Acc.loc{v:Vw α}{n0:Nat}{σ:Heap}{xs:List α}{x:AVal}(h:Acc v n0 σ xs x):∀l off len c,x=.sl l off len c->n0<=l/\l<σ.next:=fun l off len c e=>by
 rcases h with ⟨rfl,_⟩|⟨l',cs,rfl,h1,h2,_⟩
 ·cases e
 ·cases e;exact⟨h1,h2⟩
theorem yil_{v:Vw α}{σ:Heap}{x:AVal}{cs:List AVal}{a:α}(hx:∀l off len c,x=.sl l off len c->l<σ.next)(hr:v.rel (out σ x) a cs) :
  SlV v (out (σ.new (.cells .rw v.sz cs)) x) [a] (.sl σ.next 0 1 none):=by
 have L:=((Hle.refl σ).new (.cells .rw v.sz cs)).outs x;refine .inr ⟨σ.next,0,none,.rw,cs,rfl,by rw[yby_];exact Nat.lt_succ_self _,?_,by simp[v.len hr],fun j b hb=>?_⟩
 ·cases hy:x with
  |sl l off len c=>
   have:=hx _ _ _ _ hy;show((σ.new _).kill l).get _=_;rw[ys_,if_neg (by omega),yl_,if_pos rfl]
  |_=>simp only[out,yl_,if_true]
 ·cases j with
  |zero=>
   simp at hb;subst hb;have:(cs.drop ((0+0)*v.sz)).take v.sz=cs:=by rw[Nat.add_zero,Nat.zero_mul,List.drop_zero];exact List.take_of_length_le (by rw[v.len hr];exact Nat.le_refl _)
   rw[this];exact v.mono L hr
  |succ j=>simp at hb
theorem Acc.push{v:Vw α}{σ0 σ:Heap}{xs:List α}{x:AVal}{cs:List AVal}{a:α}{bytes:Nat}(h:Acc v σ0.next σ xs x)(L:Hle σ0 σ)(hr:v.rel (out σ x) a cs)(hb:(xs.length+1)*bytes<=70368744177664)(hb':xs.length+1<=70368744177664) :
  ∃x' σ',(∀{Rt:Type} (K:AVal->Heap->Option Rt),appS (σ.new (.cells .rw v.sz cs)) v.sz bytes x (.sl σ.next 0 1 none) K=K x' σ')/\Hle σ0 σ'/\Acc v σ0.next σ' (xs++[a]) x'/\Hle (out σ x) (out σ' x'):=by
 have L1:=(Hle.refl σ).new (.cells .rw v.sz cs);obtain⟨x',σ',e1,e2,e3,e4⟩:=(h.mono L1).app (bytes:=bytes) (L.trans L1) (yil_ (fun l off len c e=>(h.loc l off len c e).2) hr) (by rw[List.length_singleton];exact hb) (by rw[List.length_singleton];exact hb');exact⟨x',σ',e1,e2,e3,(L1.outs x).trans e4⟩
theorem mk0{v:Vw α}{σ:Heap}{n bytes:Nat}{z:List AVal}(hb:n*bytes<=70368744177664)(hb':n<=70368744177664):∃x τ,(∀{Rt:Type} (K:AVal->Heap->Option Rt),mkS σ v.sz bytes z 0 (n:Int) K=K x τ)/\Hle σ τ/\Acc v σ.next τ [] x:=by
 refine⟨.sl σ.next 0 0 none,σ.new (.cells .rw v.sz (rep n z)),fun K=>?_,(Hle.refl σ).new _,.inr ⟨σ.next,rep n z,rfl,Nat.le_refl _,Nat.lt_succ_self _,by rw[yl_,if_pos rfl],by simp,fun i a hi=>by simp at hi⟩⟩;have h1:(n:Int)*(bytes:Int)<=70368744177664:=by
  have:((n*bytes:Nat):Int)<=70368744177664:=by omega
  rwa [Int.natCast_mul]at this
 simp only[mkS,newK];rw[if_pos ⟨by omega,by omega,h1,by omega⟩,Int.toNat_natCast,Int.toNat_zero]
end
section
open Go
set_option linter.all false
def q1:=@decide_eq_true_eq
def q2:=@decide_eq_false_iff_not
def q3:=@Bool.not_eq_true'
def q4:=@Bool.not_eq_false'
def q5:=@beq_iff_eq
def q6:=@beq_eq_false_iff_ne
def q7:=@bne_iff_ne
def q8:=@bne_eq_false_iff_eq
def q9:=@Bool.not_eq_true
def q10:=@Bool.not_eq_false
def q11:=@Bool.not_true
def q12:=@Bool.not_false
def q13:=@Bool.true_eq_false
def q14:=@Bool.false_eq_true
def q15:=@Int.not_lt
def q16:=@Int.not_le
def q17:=@gt_iff_lt
def q18:=@ge_iff_le
def q19:=@ne_eq
def q20:=@Int.toNat_natCast
def q21:=@not_true_eq_false
def q22:=@not_false_eq_true
def q23:=@Bool.and_eq_true
def q24:=@Bool.or_eq_true
def q25:=@Bool.and_eq_false_iff
def q26:=@Bool.or_eq_false_iff
def q27:=@Option.isNone_none
def q28:=@Option.isNone_some
def q29:=@Option.isSome_none
def q30:=@Option.isSome_some
def qq:=And.intro @q1 (And.intro @q2 (And.intro @q3 (And.intro @q4 (And.intro @q5.{0} (And.intro @q6.{0} (And.intro @q7.{0} (And.intro @q8.{0} (And.intro @q9 (And.intro @q10 (And.intro @q11 (And.intro @q12 (And.intro @q13 (And.intro @q14 (And.intro @q15 (And.intro @q16 (And.intro @q17.{0} (And.intro @q18.{0} (And.intro @q19.{1} (And.intro @q20 (And.intro @q21 (And.intro @q22 (And.intro @q23 (And.intro @q24 (And.intro @q25 (And.intro @q26 (And.intro @q27.{0} (And.intro @q28.{0} (And.intro @q29.{0} (@q30.{0})))))))))))))))))))))))))))))
def W{R:Type}(o:Option R)(Q:R->Prop):Prop:=∃r,o=some r/\Q r
section
variable{R S:Type}
theorem W.ret{r:R}{Q:R->Prop}(h:Q r):W (some r) Q:=⟨r,rfl,h⟩
theorem W.bind{o:Option S}{K:S->Option R}{Q:R->Prop}(h:W o fun r=>W (K r) Q):W (o.bind K) Q:=by
 obtain⟨r,rfl,h⟩:=h;exact h
theorem W.mono{o:Option R}{P Q:R->Prop}(h:W o P)(k:∀r,P r->Q r):W o Q:=by
 obtain⟨r,e,h⟩:=h;exact⟨r,e,k r h⟩
theorem W.call{o:Option S}{K:S->Option R}{P:S->Prop}{Q:R->Prop}(h:W o P)(k:∀r,P r->W (K r) Q):W (o.bind K) Q:=by
 obtain⟨r,rfl,h⟩:=h;exact k r h
theorem W.eqn{o:Option S}{r:S}{K:S->Option R}{Q:R->Prop}(h:o=some r)(k:W (K r) Q):W (o.bind K) Q:=by
 rw[h];exact k
theorem W.to{o o':Option R}{Q:R->Prop}(h:o=o')(k:W o' Q):W o Q:=h▸k
theorem W.cnd{b:Bool}{x y:Option R}{Q:R->Prop}(h:b=true->W x Q)(k:b=false->W y Q):W (cond b x y) Q:=by
 cases b
 ·exact k rfl
 ·exact h rfl
theorem W.condT{b:Bool}{x y:Option R}{Q:R->Prop}(h:b=true)(k:W x Q):W (cond b x y) Q:=by subst h;exact k
theorem W.condF{b:Bool}{x y:Option R}{Q:R->Prop}(h:b=false)(k:W y Q):W (cond b x y) Q:=by subst h;exact k
theorem W.chk{p:Prop}{o:Option R}{Q:R->Prop}(h:p)(k:W o Q):W (chk p o) Q:=by
 simp only[A.chk,if_pos h];exact k
end
@[reducible] def LQ{X Y:Type}(A:X->Heap->Prop)(B:Y×Heap->Prop):(X⊕Y)×Heap->Prop:=fun r=>match r.1 with
 | .inl x=>A x r.2
 | .inr y=>B (y,r.2)
@[reducible] def LP{X Y:Type}(A:X->Prop)(B:Y->Prop):X⊕Y->Prop
 | .inl x=>A x
 | .inr y=>B y
section
variable{X Y:Type}
theorem W.next{A:X->Heap->Prop}{B:Y×Heap->Prop}{x:X}{σ:Heap}(h:A x σ):W (some (.inl x,σ)) (LQ A B):=⟨_,rfl,h⟩
theorem W.stop{A:X->Heap->Prop}{B:Y×Heap->Prop}{y:Y}{σ:Heap}(h:B (y,σ)):W (some (.inr y,σ)) (LQ A B):=⟨_,rfl,h⟩
theorem W.nextP{A:X->Prop}{B:Y->Prop}{x:X}(h:A x):W (some (.inl x)) (LP A B):=⟨_,rfl,h⟩
theorem W.stopP{A:X->Prop}{B:Y->Prop}{y:Y}(h:B y):W (some (.inr y)) (LP A B):=⟨_,rfl,h⟩
theorem W.loop{f:X->Heap->Option ((X⊕Y)×Heap)}{Q:Y×Heap->Prop}(n:Nat)(Inv:Nat->X->Heap->Prop){x:X}{σ:Heap}(h0:Inv 0 x σ)
  (step:∀i x σ,i<=n->Inv i x σ->W (f x σ) (LQ (fun x' σ'=>i<n/\Inv (i+1) x' σ') Q)):W (loopW f x σ) Q:=by
 have:∀k i x σ,i+k=n->Inv i x σ->W (loopW f x σ) Q:=by
  intro k
  induction k with
  |zero=>
   intro i x σ hi h;obtain⟨⟨r,τ⟩,e,hr⟩:=step i x σ (by omega) h;cases r with
   |inl x'=>exact absurd hr.1 (by omega)
   |inr y=>exact⟨_,y2v_ e,hr⟩
  | succ k ih=>
   intro i x σ hi h;obtain⟨⟨r,τ⟩,e,hr⟩:=step i x σ (by omega) h;cases r with
   |inl x'=>
    obtain⟨z,h3,h4⟩:=ih (i+1) x' τ (by omega) hr.2;exact⟨z,y64_ e h3,h4⟩
   |inr y=>exact⟨_,y2v_ e,hr⟩
 exact this n 0 x σ (by omega) h0
theorem W.loopP{f:X->Option (X⊕Y)}{Q:Y->Prop}(n:Nat)(Inv:Nat->X->Prop){x:X}(h0:Inv 0 x)
  (step:∀i x,i<=n->Inv i x->W (f x) (LP (fun x'=>i<n/\Inv (i+1) x') Q)):W (A.loopP f x) Q:=by
 have:∀k i x,i+k=n->Inv i x->W (A.loopP f x) Q:=by
  intro k
  induction k with
  |zero=>
   intro i x hi h;obtain⟨r,e,hr⟩:=step i x (by omega) h;cases r with
   |inl x'=>exact absurd hr.1 (by omega)
   |inr y=>exact⟨_,y9m_ e,hr⟩
  | succ k ih=>
   intro i x hi h;obtain⟨r,e,hr⟩:=step i x (by omega) h;cases r with
   |inl x'=>
    obtain⟨z,h3,h4⟩:=ih (i+1) x' (by omega) hr.2;exact⟨z,yeh_ e h3,h4⟩
   |inr y=>exact⟨_,y9m_ e,hr⟩
 exact this n 0 x (by omega) h0
end
section
variable{R α:Type}{v:Vw α}{σ:Heap}{xs:List α}{x p:AVal}{as0:List AVal}{Q:R->Prop}
theorem W.len(h:SlV v σ xs x){K:Int->Option R}(k:W (K (xs.length:Int)) Q):W (lenV x K) Q:=W.to (h.len K) k
theorem W.scalS(h:SlV v σ xs x){X:Option R}(k:W X Q):W (scal x X) Q:=W.to (h.scal X) k
theorem W.ld0(h:At σ p (as0)){a:AVal}(hk:as0[0]?=some a){kd:Kd}{K:kd.ty->Option R}(c:W (asK kd a K) Q):W (ld σ p kd K) Q:=by
 obtain⟨l,o,md,sz,cs,rfl,_⟩:=id h;have:=h.cell hk;rw[Nat.add_zero]at this;refine W.to ?_ c;simp only[ld,this]
theorem W.ldl{l:Nat}(h:At σ (.ptr l 0) as0){k:Nat}{a:AVal}(hk:as0[k]?=some a){kd:Kd}{K:kd.ty->Option R}(c:W (asK kd a K) Q):W (ld σ (.ptr l k) kd K) Q:=
 W.to (h.ld0 hk K) c
theorem W.ldGG(h:At σ p as0){n:Nat}(hn:as0.length=n){K:AVal->Option R}(c:W (K (.agg as0)) Q):W (ldG σ p n K) Q:=W.to (h.ldG hn.symm K) c
theorem W.ldGo{l:Nat}(h:At σ (.ptr l 0) as0){k n:Nat}(hk:k+n<=as0.length){K:AVal->Option R}(c:W (K (.agg ((as0.drop k).take n))) Q):W (ldG σ (.ptr l k) n K) Q:=by
 have h2:=(h.drop k (by omega)).take n (by simp;omega);rw[Nat.zero_add]at h2;exact W.ldGG h2 (by simp;omega) c
theorem W.aggK{n:Nat}{cs:List AVal}(h:cs.length=n){K:List AVal->Option R}(c:W (K cs) Q):W (A.aggK (.agg cs) n K) Q:=by
 simp only[A.aggK,if_pos h];exact c
theorem W.ixk(h:SlV v σ xs x){i:Int}{a:α}(ha:xs[i.toNat]?=some a)(h0:0<=i){K:AVal->Option R}(c:∀p as0,At σ p as0->v.rel σ a as0->W (K p) Q){sz:Nat}(hs:sz=v.sz:=by rfl):W (ixA σ x sz i K) Q:=by
 subst hs;obtain⟨p,as0,h2,h3,h4⟩:=h.ix ha;refine W.to ?_ (c p as0 h2 h3);have:=h4 (Hle.refl σ) K
 rwa [Int.toNat_of_nonneg h0]at this
end
section
variable{R:Type}{σ:Heap}{x:AVal}{Q:R->Prop}
theorem W.ixI{xs:List Int}(h:SlV .int σ xs x){i:Int}{a:Int}(ha:xs[i.toNat]?=some a)(h0:0<=i){K:Int->Option R}(c:W (K a) Q):W (ixA σ x 1 i fun p=>ld σ p (.I .i64) K) Q:=
 W.ixk h ha h0 (fun p as0 hp hr=>by
  have hr:as0=[.int .i64 a]:=hr;subst hr;exact W.ld0 hp rfl c)
theorem W.ixIn{xs:List Int}(h:SlV .int σ xs x){i:Int}(h0:0<=i)(h1:i<xs.length){K:Int->Option R}(c:∀a,xs[i.toNat]?=some a->W (K a) Q):W (ixA σ x 1 i fun p=>ld σ p (.I .i64) K) Q:=by
 obtain⟨a,ha⟩:∃a,xs[i.toNat]?=some a:=⟨_,List.getElem?_eq_getElem (by omega)⟩;exact W.ixI h ha h0 (c a ha)
theorem W.ixB{xs:List Bool}(h:SlV .bool σ xs x){i:Int}{a:Bool}(ha:xs[i.toNat]?=some a)(h0:0<=i){K:Bool->Option R}(c:W (K a) Q):W (ixA σ x 1 i fun p=>ld σ p .B K) Q:=
 W.ixk h ha h0 (fun p as0 hp hr=>by
  have hr:as0=[.bool a]:=hr;subst hr;exact W.ld0 hp rfl c)
theorem W.ixS{α:Type}{v:Vw α}{xs:List (List α)}(h:SlV v.sl σ xs x){i:Int}{a:List α}(ha:xs[i.toNat]?=some a)(h0:0<=i){K:AVal->Option R}(c:∀y,SlV v σ a y->W (K y) Q):W (ixA σ x 1 i fun p=>ld σ p .V K) Q:=
 W.ixk h ha h0 (fun p as0 hp hr=>by
  obtain⟨y,rfl,hy⟩:=hr;exact W.ld0 hp rfl (c y hy))
theorem W.ixSn{α:Type}{v:Vw α}{xs:List (List α)}(h:SlV v.sl σ xs x){i:Int}(h0:0<=i)(h1:i<xs.length){K:AVal->Option R}(c:∀a y,xs[i.toNat]?=some a->SlV v σ a y->W (K y) Q):W (ixA σ x 1 i fun p=>ld σ p .V K) Q:=by
 obtain⟨a,ha⟩:∃a,xs[i.toNat]?=some a:=⟨_,List.getElem?_eq_getElem (by omega)⟩;exact W.ixS h ha h0 fun y hy=>c a y ha hy
end
theorem Hle.mono{σ τ υ:Heap}(h:Hle σ τ)(k:Hle τ υ):Hle σ υ:=h.trans k
structure Loc(σ:Heap)(l:Nat)(cs:List AVal):Prop where
 lt:l<σ.next
 get:∃sz,σ.get l=some (.cells .rw sz cs)
section
variable{σ τ:Heap}{l k:Nat}{cs:List AVal}
theorem Loc.mono(h:Loc σ l cs)(L:Hle σ τ):Loc τ l cs:=⟨Nat.lt_of_lt_of_le h.lt L.next,h.get.elim fun sz e=>⟨sz,L.get _ _ h.lt e⟩⟩
theorem Loc.kill(h:Loc σ l cs)(hk:l≠k):Loc (σ.kill k) l cs:=⟨h.lt,h.get.elim fun sz e=>⟨sz,by rw[ys_,if_neg hk];exact e⟩⟩
theorem Loc.at(h:Loc σ l cs):At σ (.ptr l 0) cs:=h.get.elim fun _ e=>At.of_get h.lt e
theorem Hle.ofk(L:Hle σ τ)(hk:σ.next<=k){υ:Heap}(M:Hle (τ.kill k) υ):Hle σ υ:=(L.kill hk).trans M
end
section
variable{R:Type}{σ τ:Heap}{Q:R->Prop}
theorem W.new{sz:Nat}{cs:List AVal}{K:Nat->Heap->Option R}(c:∀l τ,l=σ.next->Hle σ τ->Loc τ l cs->τ.next=σ.next+1->W (K l τ) Q):W (newK σ sz cs K) Q:=
 c _ _ rfl ((Hle.refl σ).new _) ⟨Nat.lt_succ_self _,sz,by rw[yl_,if_pos rfl]⟩ rfl
theorem W.newg{sz:Nat}{cs:List AVal}{K:Nat->Heap->Option R}(c:∀l τ,l=σ.next->Hle σ τ->At τ (.ptr l 0) cs->τ.get l=some (.cells .rw sz cs)->τ.next=σ.next+1->W (K l τ) Q):W (newK σ sz cs K) Q:=
 c _ _ rfl ((Hle.refl σ).new _) (At.new _ _ _) (by rw[yl_,if_pos rfl]) rfl
theorem W.st{l o:Nat}{cs vs:List AVal}(h:Loc σ l cs)(hv:o+vs.length<=cs.length){K:Heap->Option R}(c:∀τ,Hle (σ.kill l) τ->τ.next=σ.next->Loc τ l (cs.take o++vs++cs.drop (o+vs.length))->W (K τ) Q):W (stC σ (.ptr l o) vs K) Q:=by
 obtain⟨sz,e⟩:=h.get;refine W.to (o':=K (σ.set l (.cells .rw sz (cs.take o++vs++cs.drop (o+vs.length))))) ?_ (c _ (Hle.kill_set ..) rfl ⟨h.lt,sz,by rw[y35_,if_pos rfl]⟩);simp only[stC,e,if_pos hv]
theorem W.st0{l:Nat}{cs vs:List AVal}(h:Loc σ l cs)(hv:vs.length=cs.length){K:Heap->Option R}(c:∀τ,Hle (σ.kill l) τ->τ.next=σ.next->Loc τ l vs->W (K τ) Q):W (stC σ (.ptr l 0) vs K) Q:=by
 refine W.st h (by omega) fun τ a b d=>c τ a b ?_;have:cs.take 0++vs++cs.drop (0+vs.length)=vs:=by simp[hv]
 rwa [this]at d
theorem W.ldL{l o:Nat}{cs:List AVal}(h:Loc σ l cs){a:AVal}(hk:cs[o]?=some a){kd:Kd}{K:kd.ty->Option R}(c:W (asK kd a K) Q):W (ld σ (.ptr l o) kd K) Q:=W.ldl h.at hk c
theorem W.ldGL{l o n:Nat}{cs:List AVal}(h:Loc σ l cs)(hk:o+n<=cs.length){K:AVal->Option R}(c:W (K (.agg ((cs.drop o).take n))) Q):W (ldG σ (.ptr l o) n K) Q:=W.ldGo h.at hk c
theorem W.fldp{l o k:Nat}{K:AVal->Option R}(c:W (K (.ptr l (o+k))) Q):W (fld (.ptr l o) k K) Q:=c
theorem W.asI{k:IntKind}{n:Int}{K:Int->Option R}(c:W (K n) Q):W (asK (.I k) (.int k n) K) Q:=by
 refine W.to ?_ c;simp[asK]
theorem W.asB{n:Bool}{K:Bool->Option R}(c:W (K n) Q):W (asK .B (.bool n) K) Q:=c
theorem W.asV{n:AVal}{K:AVal->Option R}(c:W (K n) Q):W (asK .V n K) Q:=c
theorem W.ixIc{x:AVal}{xs:List Int}{i:Nat}{a:Int}(h:SlV .int σ xs x)(ha:xs[i]?=some a){K:Int->Option R}(c:W (K a) Q):W (ixA σ x 1 (i:Int) fun p=>ld σ p (.I .i64) K) Q:=W.ixI h (by simpa using ha) (by omega) c
theorem W.ixBc{x:AVal}{xs:List Bool}{i:Nat}{a:Bool}(h:SlV .bool σ xs x)(ha:xs[i]?=some a){K:Bool->Option R}(c:W (K a) Q):W (ixA σ x 1 (i:Int) fun p=>ld σ p .B K) Q:=W.ixB h (by simpa using ha) (by omega) c
theorem W.ixInc{x:AVal}{xs:List Int}{i:Nat}(h:SlV .int σ xs x)(hi:i<xs.length){K:Int->Option R}(c:∀a,xs[i]?=some a->W (K a) Q):W (ixA σ x 1 (i:Int) fun p=>ld σ p (.I .i64) K) Q:=W.ixIn h (by omega) (by omega) (by simpa using c)
theorem W.ixSnc{α:Type}{v:Vw α}{x:AVal}{xs:List (List α)}{i:Nat}(h:SlV v.sl σ xs x)(hi:i<xs.length){K:AVal->Option R}(c:∀a y,xs[i]?=some a->SlV v σ a y->W (K y) Q):W (ixA σ x 1 (i:Int) fun p=>ld σ p .V K) Q:=W.ixSn h (by omega) (by omega) (by simpa using c)
theorem W.ixkc{α:Type}{v:Vw α}{x:AVal}{xs:List α}{i:Nat}{a:α}(h:SlV v σ xs x)(ha:xs[i]?=some a){K:AVal->Option R}(c:∀p as0,At σ p as0->v.rel σ a as0->W (K p) Q){sz:Nat}(hs:sz=v.sz:=by rfl):W (ixA σ x sz (i:Int) K) Q:=W.ixk h (by simpa using ha) (by omega) c hs
theorem W.ixL{α:Type}{v:Vw α}{τ:Heap}{x:AVal}{xs:List α}{i:Nat}(h:SlV v σ xs x)(L:Hle σ τ)(hi:i<xs.length){K:AVal->Option R}(c:∀p us a,xs[i]?=some a->At σ p us->v.rel σ a us->W (K p) Q){sz:Nat}(hs:sz=v.sz:=by rfl):W (ixA τ x sz (i:Int) K) Q:=by
 subst hs;obtain⟨a,ha⟩:∃a,xs[i]?=some a:=⟨_,List.getElem?_eq_getElem hi⟩;obtain⟨p,as0,h2,h3,h4⟩:=h.ix ha;exact W.to (h4 L K) (c p as0 a ha h2 h3)
theorem W.ixkL{α:Type}{v:Vw α}{τ:Heap}{x:AVal}{xs:List α}{i:Nat}{a:α}(h:SlV v σ xs x)(L:Hle σ τ)(ha:xs[i]?=some a){K:AVal->Option R}(c:∀p as0,At σ p as0->v.rel σ a as0->W (K p) Q){sz:Nat}(hs:sz=v.sz:=by rfl):W (ixA τ x sz (i:Int) K) Q:=by
 subst hs;obtain⟨p,as0,h2,h3,h4⟩:=h.ix ha;exact W.to (h4 L K) (c p as0 h2 h3)
theorem W.ixLS{α:Type}{v:Vw α}{τ:Heap}{x:AVal}{xs:List (List α)}{i:Nat}(h:SlV v.sl σ xs x)(L:Hle σ τ)(hi:i<xs.length){K:AVal->Option R}(c:∀a y,xs[i]?=some a->SlV v σ a y->W (K y) Q):W (ixA τ x 1 (i:Int) fun p=>ld τ p .V K) Q:=
 W.ixL h L hi fun p us a ha hp hr=>by
  obtain⟨y,rfl,hy⟩:=hr;exact W.ld0 (hp.mono L) rfl (c a y ha hy)
theorem W.ixkLS{α:Type}{v:Vw α}{τ:Heap}{x:AVal}{xs:List (List α)}{i:Nat}{a:List α}(h:SlV v.sl σ xs x)(L:Hle σ τ)(ha:xs[i]?=some a){K:AVal->Option R}(c:∀y,SlV v σ a y->W (K y) Q):W (ixA τ x 1 (i:Int) fun p=>ld τ p .V K) Q:=
 W.ixkL h L ha fun p us hp hr=>by
  obtain⟨y,rfl,hy⟩:=hr;exact W.ld0 (hp.mono L) rfl (c y hy)
theorem W.putC{cs vs:List AVal}{off n:Nat}{K:List AVal->Option R}(h:Nat.ble (off+n) cs.length=true)(c:W (K (cs.take off++vs++cs.drop (off+n))) Q):W (A.putC cs off n vs K) Q:=by
 simp only[A.putC,if_pos (Nat.le_of_ble_eq_true h)];exact c
theorem W.scP{l o:Nat}{X:Option R}(c:W X Q):W (scal (.ptr l o) X) Q:=c
theorem W.scSl{l o n:Nat}{k:Option Nat}{X:Option R}(c:W X Q):W (scal (.sl l o n k) X) Q:=c
theorem W.nck{l o:Nat}{X:Option R}(c:W X Q):W (nilck (.ptr l o) X) Q:=c
end
section
variable{R α:Type}{v:Vw α}{σ0 σ:Heap}{xs ys:List α}{x y:AVal}{Q:R->Prop}
theorem W.push(h:Acc v σ0.next σ xs x)(L:Hle σ0 σ){cs:List AVal}{a:α}(hr:v.rel (A.out σ x) a cs){sz bytes:Nat}(hb:(xs.length+1)*bytes<=70368744177664)(hb':xs.length+1<=70368744177664){K:AVal->Heap->Option R}
  (c:∀x' τ,Hle σ0 τ->Acc v σ0.next τ (xs++[a]) x'->Hle (A.out σ x) (A.out τ x')->W (K x' τ) Q) (hs:sz=v.sz:=by rfl):W (newK σ sz cs fun l τ=>appS τ sz bytes x (.sl l 0 1 none) K) Q:=by
 subst hs;obtain⟨x',τ,e,h1,h2,h3⟩:=h.push (bytes:=bytes) L hr hb hb';exact W.to (e K) (c x' τ h1 h2 h3)
theorem W.pushI{xs:List Int}(h:Acc .int σ0.next σ xs x)(L:Hle σ0 σ){a:Int}{bytes:Nat}(hb:(xs.length+1)*bytes<=70368744177664)(hb':xs.length+1<=70368744177664){K:AVal->Heap->Option R}
  (c:∀x' τ,Hle σ0 τ->Acc .int σ0.next τ (xs++[a]) x'->Hle (A.out σ x) (A.out τ x')->W (K x' τ) Q):W (newK σ 1 [.int .i64 a] fun l τ=>appS τ 1 bytes x (.sl l 0 1 none) K) Q:=
 W.push h L (cs:=[.int .i64 a]) (a:=a) rfl hb hb' c
theorem W.mk0(v:Vw α){n sz bytes:Nat}{z:List AVal}(hb:n*bytes<=70368744177664)(hb':n<=70368744177664){K:AVal->Heap->Option R}
  (c:∀x τ,Hle σ τ->Acc v σ.next τ [] x->W (K x τ) Q) (hs:sz=v.sz:=by rfl):W (mkS σ sz bytes z 0 (n:Int) K) Q:=by
 subst hs;obtain⟨x,τ,e,h1,h2⟩:=A.mk0 (v:=v) (σ:=σ) (bytes:=bytes) (z:=z) hb hb';exact W.to (e K) (c x τ h1 h2)
end
theorem W.e0{R:Type}{Q:R->Prop}{σ:Heap}{l o:Nat}{cs:List AVal}{a:AVal}{kd:Kd}{K:kd.ty->Option R}(c:W (asK kd a K) Q)(h:Loc σ l cs:=by assumption)(hk:cs[o]?=some a:=by with_unfolding_all rfl):W (ld σ (.ptr l o) kd K) Q:=W.ldL h hk c
theorem W.e1{R:Type}{Q:R->Prop}{σ:Heap}{l o n:Nat}{cs:List AVal}{K:AVal->Option R}(c:W (K (.agg ((cs.drop o).take n))) Q)(h:Loc σ l cs:=by assumption)(hk:Nat.ble (o+n) cs.length=true:=by with_unfolding_all rfl):W (ldG σ (.ptr l o) n K) Q:=W.ldGL h (Nat.le_of_ble_eq_true hk) c
theorem W.e2{R:Type}{Q:R->Prop}{σ:Heap}{x:AVal}{xs:List Int}{i:Nat}{a:Int}{K:Int->Option R}(c:W (K a) Q)(h:SlV .int σ xs x:=by assumption)(ha:xs[i]?=some a:=by assumption):W (ixA σ x 1 (i:Int) fun p=>ld σ p (.I .i64) K) Q:=W.ixIc h ha c
theorem W.e3{R:Type}{Q:R->Prop}{n:Nat}{cs:List AVal}{K:List AVal->Option R}(c:W (K cs) Q)(h:cs.length=n:=by with_unfolding_all rfl):W (Go.Proofs.YtafbldhedkallaaGreatDoor.A.aggK (.agg cs) n K) Q:=W.aggK h c
end
section
open Go
inductive Er where
 |text|limit|budget|range|blocks|proof|cert
 deriving DecidableEq
def Er.g:Er->Nat
 | .text=>gText
 | .limit=>yk9_
 | .budget=>yj4_
 | .range=>yk6_
 | .blocks=>yi5_
 | .proof=>ygm_
 | .cert=>gCert
def Er.s:Er->List UInt8
 | .text=>[110,111,116,32,97,115,32,105,116,32,105,115,32,119,114,105,116,116,101,110]
 | .limit=>[109,111,114,101,32,116,104,97,110,32,109,97,121,32,98,101]
 | .budget=>[116,104,101,32,98,117,100,103,101,116,32,105,115,32,117,115,101,100,32,117,112]
 | .range=>[97,32,110,117,109,98,101,114,32,111,117,116,32,111,102,32,105,116,115,32,114,97,110,103,101]
 | .blocks=>[109,111,114,101,32,116,104,97,110,32,116,119,111,32,98,108,111,99,107,115]
 | .proof=>[97,32,115,116,101,112,32,116,104,97,116,32,100,111,101,115,32,110,111,116,32,102,111,108,108,111,119]
 | .cert=>[110,111,32,99,101,114,116,105,102,105,99,97,116,101,32,111,102,32,105,116]
def IsE(σ:Heap)(v:AVal)(e:Er):Prop:=e.g<σ.next/\σ.get e.g=some (.cells .rz 1 [v])/\∃k,v=.ifc tErr (.ptr k 0)/\k<σ.next/\σ.get k=some (.cells .rz 1 [.str ⟨e.s.toArray⟩])
def GlS(E:List Er)(σ:Heap):Prop:=∀e∈E,∃v,IsE σ v e
abbrev Flt:=Option (Er×Option Int)
def IsF(σ:Heap)(v:AVal):Flt->Prop
 |none=>v=.nili
 |some (e,none)=>IsE σ v e
 |some (e,some pos)=>∃l u,v=.ifc tAt (.ptr l 0)/\At σ (.ptr l 0) [.int .i64 pos,u]/\IsE σ u e
section
variable{σ τ:Heap}{v w:AVal}{e e':Er}{f:Flt}
theorem IsE.mono(h:IsE σ v e)(L:Hle σ τ):IsE τ v e:=by
 obtain⟨h1,h2,k,h3,h4,h5⟩:=h;exact⟨Nat.lt_of_lt_of_le h1 L.next,L.get _ _ h1 h2,k,h3,Nat.lt_of_lt_of_le h4 L.next,L.get _ _ h4 h5⟩
theorem GlS.mono{E:List Er}(h:GlS E σ)(L:Hle σ τ):GlS E τ:=fun e he=>(h e he).elim fun v hv=>⟨v,hv.mono L⟩
theorem GlS.sub{E F:List Er}(h:GlS E σ)(k:∀e∈F,e∈E):GlS F σ:=fun e he=>h e (k e he)
theorem IsF.mono(h:IsF σ v f)(L:Hle σ τ):IsF τ v f:=by
 match f,h with
 |none,h=>exact h
 |some (e,none),h=>exact IsE.mono h L
 |some (e,some pos),⟨l,u,h1,h2,h3⟩=>exact⟨l,u,h1,h2.mono L,h3.mono L⟩
theorem IsE.at(h:IsE σ v e):At σ (.ptr e.g 0) [v]:=At.of_get h.1 h.2.1
theorem IsE.inj(h:IsE σ v e)(k:IsE σ w e):v=w:=by
 have:=h.2.1.symm.trans k.2.1;simpa using this
theorem IsF.nil(h:IsF σ v f){Rt:Type}(K:Bool->Option Rt):A.eqI (tiOf prg) σ true v .nili K=K f.isNone:=by
 match f,h with
 |none,h=>subst h;rfl
 |some (e,none),⟨_,_,k,h,_⟩=>subst h;rfl
 |some (e,some pos),⟨l,u,h,_⟩=>subst h;rfl
theorem IsE.scal(h:IsE σ v e){Rt:Type}(X:Option Rt):A.scal v X=X:=by
 obtain⟨_,_,k,h,_⟩:=h;subst h;rfl
end
section
variable{R:Type}{σ:Heap}{v w:AVal}{e e':Er}{f:Flt}{Q:R->Prop}
theorem W.fnil(h:IsF σ v f){K:Bool->Option R}(c:W (K f.isNone) Q):W (eqI (tiOf prg) σ true v .nili K) Q:=W.to (h.nil K) c
theorem W.escal(h:IsE σ v e){X:Option R}(c:W X Q):W (scal v X) Q:=W.to (h.scal X) c
theorem W.glob{E:List Er}(h:GlS E σ)(e:Er){K:AVal->Option R}(c:∀v,IsE σ v e->W (K v) Q){g:Nat}(hg:g=e.g:=by rfl)(he:e∈E:=by decide):W (ld σ (.ptr g 0) .V K) Q:=by
 subst hg;obtain⟨v,hv⟩:=h e he;exact W.ld0 hv.at rfl (c v hv)
end
end
section
open Go
theorem y4k_{a b:Int}:ordL a b=true↔a.natAbs<b.natAbs\/(a.natAbs=b.natAbs/\a<=b):=by simp[ordL]
theorem yec_(a b:Int):(ordL a b||ordL b a)=true:=by
 rw[Bool.or_eq_true,y4k_,y4k_];omega
theorem yf1_(a b c:Int)(h:ordL a b=true)(k:ordL b c=true):ordL a c=true:=by
 rw[y4k_]at *;omega
def y4_:List Int->List Int
 |[]=>[]
 |[x]=>[x]
 |x::y::t=>if x=y then y4_ (y::t)else x::y4_ (y::t)
theorem y2x_{v:Int}:∀{xs:List Int},v∈y4_ xs↔v∈xs
 |[]=>Iff.rfl
 |[x]=>Iff.rfl
 | x::y::t=>by
  rw[y4_]
  split
  ·rename_i h;subst h
   rw[y2x_];simp
  ·rw[List.mem_cons,y2x_,List.mem_cons (a:=v) (b:=x)]
theorem y3j_(x y:Int)(t:List Int):y4_ (x::y::t)=if x=y then y4_ (y::t)else x::y4_ (y::t):=by rw[y4_]
theorem y2h_(a:Int):∀xs:List Int,y4_ (xs++[a])=if xs.getLast?=some a then y4_ xs else y4_ xs++[a]
 |[]=>rfl
 |[x]=>by
  show y4_ [x,a]=_;rw[y3j_];by_cases h:x=a
  ·subst h;rw[if_pos rfl];rw[if_pos (by rfl)]
  ·rw[if_neg h,if_neg (by simpa using h)];rfl
 |x::y::t=>by
  have ih:=y2h_ a (y::t);show y4_ (x::y::(t++[a]))=_;have e:(x::y::t).getLast?=(y::t).getLast?:=by simp[List.getLast?_cons_cons]
  rw[e,y3j_,y3j_];have ih:y4_ (y::(t++[a]))=_:=ih;rw[ih]
  split<;>split<;>simp
theorem y4t_:∀xs:List Int,(y4_ xs).length<=xs.length
 |[]=>Nat.le_refl _
 |[x]=>Nat.le_refl _
 |x::y::t=>by
  have ih:=y4t_ (y::t);rw[y3j_]
  split
  ·simp at ih⊢;omega
  ·simp at ih⊢;omega
def ltL(a b:Int):Prop:=a.natAbs<b.natAbs\/(a.natAbs=b.natAbs/\a<b)
def normL(c:List Int):List Int:=y4_ (yh_ c)
theorem ycv_{c:List Int}{v:Int}:v∈yh_ c↔v∈c:=List.mem_mergeSort
theorem yc_{c:List Int}{v:Int}:v∈normL c↔v∈c:=by rw[normL,y2x_,ycv_]
theorem y33_:∀{xs:List Int},xs.Pairwise (fun a b=>ordL a b=true)->(y4_ xs).Pairwise ltL
 |[],_=>List.Pairwise.nil
 |[x],_=>by simp[y4_]
 | x::y::t,h=>by
  have h':=List.pairwise_cons.1 h;rw[y4_]
  split
  ·exact y33_ h'.2
  ·rename_i hne
   refine List.pairwise_cons.2 ⟨fun v hv=>?_,y33_ h'.2⟩;rw[y2x_]at hv;have hxv:=h'.1 v hv;have hxy:=h'.1 y (by simp);have hv2:v=y\/ordL y v=true:=by
    rcases List.mem_cons.1 hv with rfl|hv
    ·exact .inl rfl
    ·exact .inr ((List.pairwise_cons.1 h'.2).1 v hv)
   rw[y4k_]at hxv hxy;unfold ltL;rcases hv2 with rfl|h2
   ·omega
   ·rw[y4k_]at h2;omega
theorem y1f_(c:List Int):(normL c).Pairwise ltL:=
 y33_ (List.pairwise_mergeSort yf1_ yec_ c)
theorem y5w_:∀{xs ys:List Int},xs.Pairwise ltL->ys.Pairwise ltL->(∀v,v∈xs↔v∈ys)->xs=ys
 |[],[],_,_,_=>rfl
 |[],y::ys,_,_,h=>by have:=(h y).2 (by simp);cases this
 |x::xs,[],_,_,h=>by have:=(h x).1 (by simp);cases this
 | x::xs,y::ys,hx,hy,h=>by
  have hx':=List.pairwise_cons.1 hx;have hy':=List.pairwise_cons.1 hy;have exy:x=y:=by
   have h1:=(h x).1 (by simp);have h2:=(h y).2 (by simp);rcases List.mem_cons.1 h1 with h1|h1
   ·exact h1
   ·rcases List.mem_cons.1 h2 with h2|h2
    ·exact h2.symm
    ·have a:=hx'.1 y h2;have b:=hy'.1 x h1;unfold ltL at a b;omega
  subst exy;rw[y5w_ hx'.2 hy'.2 fun v=>?_];constructor
  ·intro hv
   rcases List.mem_cons.1 ((h v).1 (List.mem_cons_of_mem _ hv))with e|h2
   ·subst e;have a:=hx'.1 v hv;unfold ltL at a;omega
   ·exact h2
  ·intro hv
   rcases List.mem_cons.1 ((h v).2 (List.mem_cons_of_mem _ hv))with e|h2
   ·subst e;have a:=hy'.1 v hv;unfold ltL at a;omega
   ·exact h2
theorem y79_{c d:List Int}:normL c=normL d↔∀v,v∈c↔v∈d:=
 ⟨fun h v=>by rw[<-yc_,h,yc_],fun h=>y5w_ (y1f_ c) (y1f_ d) fun v=>by rw[yc_,yc_,h]⟩
theorem y2m_(c:List Int):(normL c).length<=c.length:=Nat.le_trans (y4t_ _) (by rw[y3h_];exact Nat.le_refl _)
theorem y5y_(c:List Int):normL (normL c)=normL c:=y79_.2 fun v=>yc_
end
section
open Go
theorem yiw_{x:AVal}{α:Type}{v:Vw α}{σ:Heap}{xs:List α}(h:SlV v σ xs x):(x=.nils/\xs=[])\/∀{Rt:Type} (K:Bool->Option Rt),eqS x .nils K=K false:=by
 rcases h with h|⟨l,off,c,md,cs,rfl,_⟩
 ·exact .inl h
 ·exact .inr fun K=>rfl
theorem yht_{σ:Heap}{xs:List Int}{x:AVal}(h:SlV .int σ xs x)(hb:xs.length<=1000000) :
  ∃y τ,S.z125 x σ=some (y,τ)/\Hle σ τ/\Acc .int σ.next τ xs y:=by
 unfold S.z125;rcases yiw_ h with ⟨rfl,rfl⟩|h1
 ·exact⟨.nils,σ,rfl,Hle.refl _,Acc.nil _ _ _⟩
 ·rw[h1]
  simp only[cond_false,newK];have ha:Acc Vw.int σ.next (σ.new (.cells .rw 1 [])) [] (.sl σ.next 0 0 none):=.inr ⟨σ.next,[],rfl,Nat.le_refl _,Nat.lt_succ_self _,by simp[Heap.new,Vw.int],by simp,fun i a hi=>by simp at hi⟩;have L:=(Hle.refl σ).new (.cells .rw 1 []);obtain⟨y,τ,e1,e2,e3,_⟩:=ha.app (bytes:=8) (w:=x) (ys:=xs) L (h.mono (ha.out_le L)) (by simp;omega) (by simp;omega);have e1:∀{Rt:Type} (K:AVal->Heap->Option Rt),appS (σ.new (.cells .rw 1 [])) 1 8 (.sl σ.next 0 0 none) x K=K y τ:=e1;exact⟨y,τ,by rw[e1],e2,by simpa using e3⟩
theorem yhi_{σ:Heap}{n:Nat}(hb:n<=1000000):∃y τ,S.z131 .nils (n:Int) σ=some (y,τ)/\Hle σ τ/\Acc .int σ.next τ [] y:=by
 unfold S.z131;have h1:decide ((n:Int)<0)=false:=by simp
 have w0:IntKind.i64.wrap (0-0)=0:=by decide
 have w1:IntKind.i64.wrap ((n:Int)-0)=n:=by rw[wrapS]<;>omega
 simp only[h1,cond_false,Option.bind_some,capV,lenV,w0,w1];by_cases hn:n=0
 ·subst hn
  exact⟨.nils,σ,rfl,Hle.refl _,Acc.nil _ _ _⟩
 ·have h2:decide ((n:Int)>0)=true:=by simp;omega
  simp only[h2,cond_true];have e1:∀{Rt:Type} (K:AVal->Option Rt),slS σ 1 .nils 0 (some 0) none K=K .nils:=fun K=>by simp[slS]
  have e2:∀{Rt:Type} (K:AVal->Heap->Option Rt),appZ σ 1 8 [.int .i64 0] .nils (n:Int) K=K (.sl σ.next 0 n none) (σ.new (.cells .rw 1 (rep n [.int .i64 0]))):=fun K=>by
   simp only[appZ,newK];rw[if_neg (by omega),if_pos ⟨by omega,by omega,by omega⟩];simp
  have e3:∀{Rt:Type} (K:AVal->Option Rt),slS (σ.new (.cells .rw 1 (rep n [.int .i64 0]))) 1 (.sl σ.next 0 n none) 0 (some 0) none K=K (.sl σ.next 0 0 none):=fun K=>by
   simp only[slS,yl_,if_true];rw[if_pos ⟨trivial,by omega,by simp,by simp,by simp,by simp⟩];rfl
  rw[e1,e2,e3];exact⟨_,_,rfl,(Hle.refl σ).new _,.inr ⟨σ.next,_,rfl,Nat.le_refl _,Nat.lt_succ_self _,by simp only[yl_,if_true];rfl,by simp,fun i a hi=>by simp at hi⟩⟩
theorem y4j_(zs:List (List Int))(i:Nat):(zs.take i).flatten.length<=zs.flatten.length:=by
 conv=>rhs;rw[<-List.take_append_drop i zs]
 rw[List.flatten_append,List.length_append];omega
theorem yn_{zs:List (List Int)}{i:Nat}{z:List Int}(h:zs[i]?=some z):(zs.take (i+1)).flatten=(zs.take i).flatten++z:=by
 rw[List.take_add_one,h,List.flatten_append];simp
theorem ld_sl{σ:Heap}{α:Type}{v:Vw α}{p:AVal}{xs:List α}{us:List AVal}(h:At σ p us)(hr:v.sl.rel σ xs us):∃x,(∀{Rt:Type} (K:AVal->Option Rt),ld σ p .V K=K x)/\SlV v σ xs x/\us=[x]:=by
 obtain⟨x,rfl,hx⟩:=hr;exact⟨x,fun K=>by rw[h.ld];rfl,hx,rfl⟩
theorem ygn_{σ:Heap}{zs:List (List Int)}{x:AVal}(h:SlV (Vw.sl .int) σ zs x)(hb:zs.flatten.length<=1000000)(hb2:zs.length<=1000000) :
  ∃y τ,S.z127 x σ=some (y,τ)/\Hle σ τ/\Acc .int σ.next τ zs.flatten y:=by
 unfold S.z127;rw[h.len];obtain⟨s,τ1,e1,rfl,rfl⟩:=yap_ (f:=S.z127.b0 x zs.length) (x:=(0,0)) (σ:=σ) zs.length (fun i y τ=>y=(((zs.take i).flatten.length:Int),(i:Int))/\τ=σ) (fun y τ=>y=(zs.flatten.length:Int)/\τ=σ)
  (fun i y τ hi hI=>by
   obtain⟨rfl,rfl⟩:=hI;obtain⟨z,hz⟩:∃z,zs[i]?=some z:=⟨_,List.getElem?_eq_getElem hi⟩;obtain⟨p,us,hA,hr,e1⟩:=h.ix hz;obtain⟨w,e2,hw,_⟩:=ld_sl hA hr;refine .inl ⟨_,τ,?_,rfl,rfl⟩;unfold S.z127.b0;have hd:decide ((i:Int)<(zs.length:Int))=true:=by simp;omega
   have hle:=y4j_ zs (i+1);rw[yn_ hz,List.length_append]at hle;have w1:IntKind.i64.wrap ((((zs.take i).flatten.length:Nat):Int)+(z.length:Int))=(((zs.take (i+1)).flatten.length:Nat):Int):=by
    rw[yn_ hz,List.length_append,wrapS]<;>omega
   have w2:IntKind.i64.wrap ((i:Int)+1)=((i+1:Nat):Int):=by rw[wrapS]<;>omega
   have hn:decide ((((zs.take (i+1)).flatten.length:Nat):Int)<0)=false:=decide_eq_false (by omega);simp only[hd,cond_true];rw[show ixA τ x 1=ixA τ x (Vw.sl Vw.int).sz from rfl,e1 (Hle.refl _),e2,hw.len,w1];simp only[hn,cond_false,Option.bind_some,w2])
  (fun y τ hI=>by
   obtain⟨rfl,rfl⟩:=hI;rw[List.take_length];refine⟨_,τ,?_,rfl,rfl⟩;unfold S.z127.b0;have hd:decide ((zs.length:Int)<(zs.length:Int))=false:=by simp
   simp only[hd,cond_false]) ⟨by simp,rfl⟩
 rw[e1];simp only[Option.bind_some];obtain⟨y0,τ0,g1,g2,g3⟩:=yhi_ (σ:=τ1) hb;rw[g1];simp only[Option.bind_some];rw[h.len];obtain⟨y,τ,e2,L,hA⟩:=yap_ (f:=S.z127.b1 x zs.length) (x:=(y0,0)) (σ:=τ0) zs.length (fun i y τ=>y.2=(i:Int)/\Hle τ1 τ/\Acc .int τ1.next τ (zs.take i).flatten y.1) (fun y τ=>Hle τ1 τ/\Acc .int τ1.next τ zs.flatten y)
  (fun i y τ hi hI=>by
   obtain⟨h1,L,hA⟩:=hI;obtain⟨y,j⟩:=y;simp only at h1;subst h1;obtain⟨z,hz⟩:∃z,zs[i]?=some z:=⟨_,List.getElem?_eq_getElem hi⟩;obtain⟨p,us,hp,hr,e1⟩:=h.ix hz;obtain⟨w,e2,hs,rfl⟩:=ld_sl hp hr;have e2:∀{Rt:Type} (K:AVal->Option Rt),ld τ p .V K=K w:=fun K=>by rw[(hp.mono L).ld];rfl
   have hs:=hs.mono (hA.out_le L);have hle:=y4j_ zs (i+1);rw[yn_ hz,List.length_append]at hle;obtain⟨y',τ',a1,a2,a3,_⟩:=hA.app (bytes:=8) L hs (by omega) (by omega);have a1:∀{Rt:Type} (K:AVal->Heap->Option Rt),appS τ 1 8 y w K=K y' τ':=a1;refine .inl ⟨(y',((i+1:Nat):Int)),τ',?_,rfl,a2,by rw[yn_ hz];exact a3⟩;unfold S.z127.b1;have hd:decide ((i:Int)<(zs.length:Int))=true:=by simp;omega
   have w2:IntKind.i64.wrap ((i:Int)+1)=((i+1:Nat):Int):=by rw[wrapS]<;>omega
   simp only[hd,cond_true];rw[show ixA τ x 1=ixA τ x (Vw.sl Vw.int).sz from rfl,e1 L,e2,a1];simp only[w2])
  (fun y τ hI=>by
   obtain⟨h1,L,hA⟩:=hI;obtain⟨y,j⟩:=y;simp only at h1;subst h1;refine⟨_,τ,?_,L,by rw[List.take_length]at hA;exact hA⟩;unfold S.z127.b1;have hd:decide ((zs.length:Int)<(zs.length:Int))=false:=by simp
   simp only[hd,cond_false]) ⟨rfl,g2,by simpa using g3⟩
 rw[e2];exact⟨y,τ,rfl,L,hA⟩
end
section
open Go
abbrev vB:Vw (Bool×List Int):=Vw.pair .bool (Vw.sl .int)
theorem y9x_{σ:Heap}{b:Bool×List Int}{us:List AVal}(h:vB.rel σ b us):∃x,us=[.bool b.1,x]/\SlV .int σ b.2 x:=by
 obtain⟨u1,u2,rfl,h1,x,rfl,h2⟩:=h;have h1:u1=[.bool b.1]:=h1;subst h1;exact⟨x,rfl,h2⟩
end
section
open Go
def ents(ps:List (Int×AVal)):List (AVal×AVal):=ps.map fun p=>(.int .i64 p.1,p.2)
def look:List (Int×AVal)->Int->Option AVal
 |[],_=>none
 |p::ps,n=>if n=p.1 then some p.2 else look ps n
def y1t_(ps:List (Int×AVal)):List Int:=ps.map (·.1)
structure MapV(σ:Heap)(l:Nat)(ps:List (Int×AVal)):Prop where
 lt:l<σ.next
 get:σ.get l=some (.map (ents ps))
 nodup:(y1t_ ps).Nodup
theorem MapV.mono{σ τ:Heap}{l:Nat}{ps:List (Int×AVal)}(h:MapV σ l ps)(L:Hle σ τ):MapV τ l ps:=⟨Nat.lt_of_lt_of_le h.lt L.next,L.get _ _ h.lt h.get,h.nodup⟩
theorem MapV.new(σ:Heap):MapV (σ.new (.map [])) σ.next []:=⟨Nat.lt_succ_self _,by rw[yl_,if_pos rfl];rfl,by simp[y1t_]⟩
theorem yfo_{ps:List (Int×AVal)}{n:Int}:look ps n=none↔n∉y1t_ ps:=by
 induction ps with
 |nil=>simp[look,y1t_]
 |cons p ps ih=>
  simp only[look,y1t_,List.map_cons,List.mem_cons];by_cases h:n=p.1
  ·simp[h]
  ·simp only[h,if_false,false_or];exact ih
theorem y5v_(n:Int):∀(ps:List (Int×AVal)) (i:Nat),(look ps n=none/\mfind .i64 n (ents ps) i=some none)\/∃j x,look ps n=some x/\mfind .i64 n (ents ps) i=some (some (i+j))/\ps[j]?=some (n,x)
 |[],i=>.inl ⟨rfl,rfl⟩
 | p::ps,i=>by
  by_cases h:n=p.1
  ·exact .inr ⟨0,p.2,by simp[look,h],by simp[ents,mfind,h],by rw[h];rfl⟩
  ·rcases y5v_ n ps (i+1)with ⟨h1,h2⟩|⟨j,x,h1,h2,h3⟩
   ·exact .inl ⟨by simp[look,h,h1],by simp only[ents,List.map_cons,mfind,if_true,if_neg h];exact h2⟩
   ·exact .inr ⟨j+1,x,by simp[look,h,h1],by simp only[ents,List.map_cons,mfind,if_true,if_neg h];rw[show i+(j+1)=i+1+j by omega];exact h2,by simpa using h3⟩
section
variable{σ:Heap}{l:Nat}{ps:List (Int×AVal)}{n:Int}{x:AVal}
theorem MapV.mget(h:MapV σ l ps){Rt:Type}(K:Option AVal->Option Rt):mgetK σ (.map l) .i64 n K=K (look ps n):=by
 simp only[mgetK,h.get];rcases y5v_ n ps 0 with ⟨h1,h2⟩|⟨j,x,h1,h2,h3⟩
 ·rw[h2,h1]
 ·rw[h2,h1]
  have:(ents ps)[0+j]?=some (.int .i64 n,x):=by rw[Nat.zero_add];simp[ents,h3]
  simp only[this]
theorem MapV.mgetZ(h:MapV σ l ps)(z:AVal){Rt:Type}(K:AVal->Bool->Option Rt):mgetZ σ (.map l) .i64 n z K=K ((look ps n).getD z) (look ps n).isSome:=by
 unfold A.mgetZ;rw[h.mget];cases look ps n<;>rfl
theorem yc9_:∀(ps:List (Int×AVal)) (j:Nat) (n:Int) (x y:AVal),ps[j]?=some (n,y)->(y1t_ ps).Nodup->(y1t_ (ps.set j (n,x)))=y1t_ ps/\∀k,look (ps.set j (n,x)) k=if k=n then some x else look ps k
 |[],j,n,x,y,h,_=>by simp at h
 |p::ps,0,n,x,y,h,hnd=>by
  simp at h;subst h;refine⟨rfl,fun k=>?_⟩;simp only[List.set_cons_zero,look]
  split<;>rfl
 | p::ps,j+1,n,x,y,h,hnd=>by
  simp only[y1t_,List.map_cons,List.nodup_cons]at hnd;have h':ps[j]?=some (n,y):=by simpa using h
  obtain⟨h1,h2⟩:=yc9_ ps j n x y h' hnd.2;refine⟨by simp only[y1t_,List.set_cons_succ,List.map_cons]at h1⊢;rw[h1],fun k=>?_⟩;simp only[List.set_cons_succ,look,h2];by_cases hk:k=p.1
  ·have:k≠n:=fun e=>hnd.1 (by rw[<-hk,e];exact List.mem_map.2 ⟨(n,y),List.mem_of_getElem? h',rfl⟩)
   simp[hk];rw[hk]at this;simp[this]
  ·simp[hk]
theorem y7q_:∀(ps:List (Int×AVal)) (n:Int) (x:AVal),look ps n=none->∀k,look (ps++[(n,x)]) k=if k=n then some x else look ps k
 |[],n,x,_,k=>by simp[look]
 | p::ps,n,x,h,k=>by
  simp only[look]at h
  split at h
  ·cases h
  ·rename_i hn
   simp only[List.cons_append,look,y7q_ ps n x h];by_cases hk:k=p.1
   ·have:k≠n:=fun e=>hn (by rw[<-e,hk])
    simp[hk];rw[hk]at this;simp[this]
   ·simp[hk]
theorem ygt_(ps:List (Int×AVal))(j:Nat)(n:Int)(x:AVal):(ents ps).set j (.int .i64 n,x)=ents (ps.set j (n,x)):=by simp[ents,List.map_set]
theorem MapV.mput(h:MapV σ l ps)(n:Int)(x:AVal):∃qs,(∀{Rt:Type} (K:Heap->Option Rt),mputK σ (.map l) .i64 n x K=K (σ.set l (.map (ents qs))))/\MapV (σ.set l (.map (ents qs))) l qs/\(∀k,look qs k=if k=n then some x else look ps k)/\qs.length<=ps.length+1:=by
 rcases y5v_ n ps 0 with ⟨h1,h2⟩|⟨j,y,h1,h2,h3⟩
 ·refine⟨ps++[(n,x)],fun K=>?_,⟨h.lt,by rw[y35_,if_pos rfl],?_⟩,y7q_ ps n x h1,by simp⟩
  ·simp only[mputK,h.get,h2];congr 3;simp[ents]
  ·simp only[y1t_,List.map_append,List.map_cons,List.map_nil]
   exact List.nodup_append.2 ⟨h.nodup,by simp,fun a ha b hb e=>by simp at hb;subst hb;subst e;exact yfo_.1 h1 ha⟩
 ·obtain⟨g1,g2⟩:=yc9_ ps j n x y h3 h.nodup
  refine⟨ps.set j (n,x),fun K=>?_,⟨h.lt,by rw[y35_,if_pos rfl],by rw[g1];exact h.nodup⟩,g2,by simp⟩;simp only[mputK,h.get,h2,Nat.zero_add,ygt_]
end
end
section
open Go
theorem y6v_{σ:Heap}{l:Int}(h : -1152921504606846976<=l/\l<=9223372036854775807):S.z45 l σ=some (l.natAbs:Int):=by
 unfold S.z45;have w:IntKind.i64.wrap (0-l) = -l:=by rw[wrapS]<;>omega
 rw[w]
 congr 1
 split<;>omega
abbrev vIs:Vw (List Int):=Vw.sl .int
end
section
open Go
theorem sk{n:Nat}(h:n<9223372036854775807:=by omega):IntKind.i64.wrap ((n:Int)+1)=((n+1:Nat):Int):=by rw[wrapS]<;>omega
theorem upto{α:Type}{P:Nat->α->Prop}{xs:List α}{i:Nat}{z:α}(hI:∀j a,j<i->xs[j]?=some a->P j a)(hz:xs[i]?=some z)(hp:P i z):∀j a,j<i+1->xs[j]?=some a->P j a:=fun j a hj ha=>by
 rcases Nat.lt_succ_iff_lt_or_eq.1 hj with hj|hj
 ·exact hI j a hj ha
 ·rw[hj]at ha⊢;rw[hz]at ha;cases ha;exact hp
theorem upto0{α:Type}{P:Nat->α->Prop}{xs:List α}:∀j a,j<0->xs[j]?=some a->P j a:=fun j a hj=>by omega
def isL(l vars:Int):Bool:=decide (l≠0)&&decide (-vars<=l)&&decide (l<=vars)
theorem yi_{l vars:Int}:isL l vars=true↔l≠0/\-vars<=l/\l<=vars:=by simp[isL,and_assoc]
theorem y18_{σ:Heap}{l vars:Int}(h0 : -1000000000<=vars)(h1:vars<=1000000000):S.z43 l vars σ=some (isL l vars):=by
 unfold S.z43 isL;have w:IntKind.i64.wrap (0-vars) = -vars:=by rw[wrapS]<;>omega
 rw[w];by_cases h:l=0
 ·subst h;rfl
 ·have:(l != 0)=true:=by simpa using h
  rw[this];by_cases h2 : -vars<=l
  ·simp[h,h2]
  ·simp[h,h2]
theorem y7p_{σ:Heap}{xs:List Int}{x f:AVal}(p:Int->Bool)(hx:SlV .int σ xs x)(hb:xs.length<=4611686018427387904)
  (hf:∀n∈xs,∀{Rt:Type} (K:AVal->Heap->Option Rt),callV S.z132.T f [.int .i64 n] σ K=K (.bool (p n)) σ) :
  W (S.z132 x f σ) fun r=>r.2=σ/\r.1=match xs.findIdx? p with
   |some k=>(k:Int)
   |none => -1:=by
 unfold S.z132
 repeat' with_reducible first|refine W.bind ?_|refine W.len (by assumption) ?_
 refine W.loop xs.length (fun i x τ=>x=(i:Int)/\σ=τ/\∀j a,j<i->xs[j]?=some a->p a=false) ⟨rfl,rfl,fun j a hj=>by omega⟩ fun i x τ hi hI=>?_;obtain⟨rfl,rfl,hI⟩:=hI;unfold S.z132.b0
 repeat' (first|(with_reducible (first|refine W.stop ?_|refine W.ret ?_))|(with_reducible refine W.cnd (fun hc=>?_) (fun hc=>?_)<;>(try simp only[qq,Kd.ty]at hc)<;>(try (exfalso;omega))))
 ·refine W.ixIn hx (by omega) (by omega) fun a ha=>?_
  rw[Int.toNat_natCast]at ha;refine W.to (hf a (List.mem_of_getElem? ha) _) ?_
  repeat' (first|(with_reducible (first|refine W.next ?_|refine W.stop ?_|refine W.ret ?_|refine W.asB ?_))|(with_reducible refine W.cnd (fun hc=>?_) (fun hc=>?_)<;>(try simp only[qq,Kd.ty]at hc)<;>(try (exfalso;omega))))
  ·refine⟨rfl,?_⟩
   have:xs.findIdx? p=some i:=by
    rw[List.findIdx?_eq_some_iff_getElem];obtain⟨h1,h2⟩:=List.getElem?_eq_some_iff.1 ha;refine⟨h1,by rw[h2];exact hc,fun j hj=>?_⟩;have:=hI j xs[j] hj (List.getElem?_eq_getElem _);simp[this]
   rw[this]
  ·refine⟨by omega,sk,rfl,upto (P:=fun _ a=>p a=false) hI ha hc⟩
 ·refine⟨rfl,?_⟩
  have:xs.findIdx? p=none:=by
   rw[List.findIdx?_eq_none_iff];intro a ha;obtain⟨j,hj,e⟩:=List.getElem_of_mem ha;exact hI j a (by omega) (by rw[List.getElem?_eq_getElem hj,e])
  rw[this]
theorem y1c_{σ:Heap}{xs:List Int}{x f:AVal}(p:Int->Bool)(hx:SlV .int σ xs x)(hb:xs.length<=4611686018427387904)
  (hf:∀n∈xs,∀{Rt:Type} (K:AVal->Heap->Option Rt),callV S.z132.T f [.int .i64 n] σ K=K (.bool (p n)) σ) :
  W (S.z128 x f σ) fun r=>r=(xs.any p,σ):=by
 unfold S.z128;refine W.call (y7p_ p hx hb hf) fun r ⟨h1,h2⟩=>?_;obtain⟨r,τ⟩:=r;simp only at h1 h2;subst h1
 repeat' with_reducible refine W.ret ?_
 cases h:xs.findIdx? p with
 |none=>
  rw[h]at h2;simp only at h2;subst h2;rw[List.findIdx?_eq_none_iff]at h;have:xs.any p=false:=by rw[List.any_eq_false];intro a ha;simp[h a ha]
  rw[this];rfl
 |some k=>
  rw[h]at h2;simp only at h2;subst h2;rw[List.findIdx?_eq_some_iff_getElem]at h;obtain⟨h1,h2,_⟩:=h;have:xs.any p=true:=List.any_eq_true.2 ⟨_,List.getElem_mem h1,h2⟩;rw[this];have:decide ((k:Int)>=0)=true:=by simp
  rw[this]
def badC(vars:Int)(c:List Int):Bool:=c.any fun l => !isL l vars
def chkC(vars:Int)(cs:List (List Int)):Flt:=
 if vars<0\/vars>4000\/cs.length>20000\/cs.flatten.length>80000 then some (.limit,none)
 else(cs.findIdx? (badC vars)).map fun k=>(.range,some (k:Int))
theorem y30_(zs:List (List Int))(i:Nat):(zs.take i).flatten.length<=zs.flatten.length:=y4j_ zs i
theorem y60_{zs:List (List Int)}{z:List Int}(h:z∈zs):z.length<=zs.flatten.length:=by
 obtain⟨i,hi,e⟩:=List.getElem_of_mem h;have h1:=y30_ zs (i+1);rw[yn_ (z:=z) (by rw[List.getElem?_eq_getElem hi,e]),List.length_append]at h1;omega
theorem y6n_{α:Type}{p:α->Bool}{xs:List α}{i:Nat}(h:∀j a,j<i->xs[j]?=some a->p a=false)(hi:xs.length<=i):xs.findIdx? p=none:=by
 rw[List.findIdx?_eq_none_iff];intro a ha;obtain⟨j,hj,e⟩:=List.getElem_of_mem ha;exact h j a (by omega) (by rw[List.getElem?_eq_getElem hj,e])
theorem y6q_{α:Type}{p:α->Bool}{xs:List α}{i:Nat}{a:α}(h:∀j a,j<i->xs[j]?=some a->p a=false)(ha:xs[i]?=some a)(hp:p a=true):xs.findIdx? p=some i:=by
 rw[List.findIdx?_eq_some_iff_getElem];obtain⟨h1,h2⟩:=List.getElem?_eq_some_iff.1 ha;refine⟨h1,by rw[h2];exact hp,fun j hj=>?_⟩;have:=h j xs[j] hj (List.getElem?_eq_getElem _);simp[this]
theorem ych_{σ:Heap}{cs:List (List Int)}{p x:AVal}(hx:SlV vIs σ cs x)(hb:cs.flatten.length<=1000000000)(hl:cs.length<=1000000000) :
  W (loopP (S.z41.b0 p x cs.length σ) (0,0)) fun r=>r=(cs.flatten.length:Int):=by
 refine W.loopP cs.length (fun i y=>y=(((cs.take i).flatten.length:Int),(i:Int))) (by simp) fun i y hi hI=>?_;subst hI;unfold S.z41.b0;dsimp only
 repeat' (first|(with_reducible refine W.stopP ?_)|(with_reducible refine W.cnd (fun hc=>?_) (fun hc=>?_)<;>(try simp only[qq,Kd.ty]at hc)<;>(try (exfalso;omega))))
 ·refine W.ixSn hx (by omega) (by omega) fun z w hz hw=>?_
  rw[Int.toNat_natCast]at hz
  repeat' with_reducible first|refine W.nextP ?_|refine W.len (by assumption) ?_
  have h1:=y30_ cs (i+1);rw[yn_ hz,List.length_append]at h1;refine⟨by omega,?_⟩;rw[yn_ hz,List.length_append,sk]
  congr 1
  rw[wrapS]<;>omega
 ·rw[List.take_of_length_le (by omega)]
theorem ycj_{σ:Heap}{vars:Int}{cs:List (List Int)}{x:AVal}(hg:GlS [.limit,.range] σ)(hx:SlV vIs σ cs x)(hb:cs.flatten.length<=1000000000)(hn:cs.length<=1000000000) :
  W (S.z41 (.agg [.int .i64 vars,x]) σ) fun r=>IsF r.2 r.1 (chkC vars cs)/\Hle σ r.2:=by
 unfold S.z41
 repeat' (with_reducible refine W.e3 ?_)
 refine W.new fun l τ hl L h hnτ=>?_;replace hg:=hg.mono L;replace hx:=hx.mono L;have hnx:=L.next
 repeat' with_reducible first|refine W.bind ?_|refine W.asV ?_|refine W.len (by assumption) ?_|refine W.e0 ?_
 refine W.mono (ych_ hx hb hn) fun r hr=>?_;subst hr;by_cases hbad:vars<0\/vars>4000\/cs.length>20000\/cs.flatten.length>80000
 ·have e:chkC vars cs=some (.limit,none):=if_pos hbad
  rw[e]
  repeat' (first|(with_reducible (first|refine W.ret ?_|refine W.bind ?_|refine W.asI ?_|refine W.asV ?_|refine W.len (by assumption) ?_|refine W.e0 ?_))|(with_reducible refine W.condT ?_ ?_;focus (first|(simp only[qq,Kd.ty];done)|(simp only[qq,Kd.ty];omega)|assumption))|(with_reducible refine W.cnd (fun hc=>?_) (fun hc=>?_)<;>(try simp only[qq,Kd.ty]at hc)<;>(try (exfalso;omega))))
  all_goals
   refine W.glob hg .limit fun v hv=>?_
   repeat' with_reducible refine W.ret ?_
   exact⟨hv,L⟩
 ·have e:chkC vars cs=(cs.findIdx? (badC vars)).map fun k=>(.range,some (k:Int)):=if_neg hbad
  rw[e]
  repeat' (first|(with_reducible (first|refine W.ret ?_|refine W.bind ?_|refine W.asI ?_|refine W.asV ?_|refine W.len (by assumption) ?_|refine W.e0 ?_))|(with_reducible refine W.condF ?_ ?_;focus (first|(simp only[qq,Kd.ty];done)|(simp only[qq,Kd.ty];omega)|assumption)))
  refine W.loop cs.length (fun i x τ'=>x=(i:Int)/\Hle τ τ'/\∀j a,j<i->cs[j]?=some a->badC vars a=false) ⟨rfl,Hle.refl _,upto0⟩ fun i x τ' hi hI=>?_;obtain⟨rfl,L',hI⟩:=hI;unfold S.z41.b1
  (with_reducible refine W.cnd (fun hc=>?_) (fun hc=>?_)<;>(try simp only[qq,Kd.ty]at hc)<;>(try (exfalso;omega)))
  ·refine W.ixSnc (hx.mono L') (by omega) fun z w hz hw=>?_
   have hbz:=y60_ (List.mem_of_getElem? hz);refine W.call (y1c_ (fun n => !isL n vars) hw (by omega) fun n hn Rt K=>?_) fun r hr=>?_
   ·have hcell:=(h.mono L').at.cell (k:=0) rfl
    show((S.z42 n (.ptr l 0) τ').bind fun x=>K (retV [.B] x) τ')=_;unfold S.z42;simp only[fld,ld,hcell,asK,if_true,y18_ (σ:=τ') (l:=n) (vars:=vars) (by omega) (by omega),Option.bind_some];rfl
   subst hr
   (with_reducible refine W.cnd (fun hq=>?_) (fun hq=>?_)<;>(try simp only[qq,Kd.ty]at hq)<;>(try (exfalso;omega)))
   ·refine W.glob (hg.mono L') .range fun v hv=>W.escal hv ?_
    refine W.new fun k τ2 hk L2 hk hnτ2=>?_
    repeat' with_reducible first|refine W.stop ?_|refine W.ret ?_
    rw[y6q_ (p:=badC vars) (i:=i) hI hz hq];exact⟨⟨k,v,rfl,hk.at,hv.mono L2⟩,(L.mono L').mono L2⟩
   ·repeat' (with_reducible refine W.next ?_)
    exact⟨by omega,sk,L',upto (P:=fun _ a=>badC vars a=false) hI hz hq⟩
  ·repeat' with_reducible first|refine W.stop ?_|refine W.ret ?_
   rw[y6n_ (p:=badC vars) (i:=i) hI (by omega)];exact⟨rfl,L.mono L'⟩
end
section
open Go
theorem y5g_{α:Type}{xs:List α}{i:Nat}{z:α}(h:xs[i]?=some z):xs.drop i=z::xs.drop (i+1):=by
 obtain⟨h1,h2⟩:=List.getElem?_eq_some_iff.1 h;rw[List.drop_eq_getElem_cons h1,h2]
end
section
open Go
section
variable{α β:Type}{v:Vw α}{σ τ:Heap}{xs:List α}{x:AVal}{n0 m:Nat}
end
def Vw.slF{α:Type}(n:Nat)(v:Vw α):Vw (List α):=⟨1,fun σ xs us=>∃x,us=[x]/\SlV v σ xs x/\∀l off len c,x=.sl l off len c->n<=l,Nat.one_pos,fun h=>by obtain⟨_,rfl,_⟩:=h;rfl,fun L h=>by
 obtain⟨x,e,h,k⟩:=h;exact⟨x,e,h.mono L,k⟩⟩
def Vw.Over{α:Type}(n:Nat)(v:Vw α):Prop:=∀σ τ a us,σ.next<=τ.next->(∀l o,n<=l->σ.get l=some o->τ.get l=some o)->v.rel σ a us->v.rel τ a us
theorem Vw.Flat.over{α:Type}{v:Vw α}(h:v.Flat)(n:Nat):v.Over n:=fun σ τ a us _ _ k=>h σ τ a us k
theorem Vw.slF_over{α:Type}{v:Vw α}{n:Nat}(h:v.Over n):(v.slF n).Over n:=fun σ τ xs us hn hg k=>by
 obtain⟨x,e,k1,k2⟩:=k;refine⟨x,e,?_,k2⟩;rcases k1 with k1|⟨l,off,c,md,cs,rfl,h2,h3,h4,h5⟩
 ·exact .inl k1
 ·exact .inr ⟨l,off,c,md,cs,rfl,by omega,hg _ _ (k2 _ _ _ _ rfl) h3,h4,fun i a hi=>h _ _ _ _ hn hg (h5 i a hi)⟩
theorem Acc.from{α:Type}{v:Vw α}{σ:Heap}{xs:List α}{x:AVal}{n0 n:Nat}(h:Acc v n0 σ xs x)(hn:n<=n0):∀l off len c,x=.sl l off len c->n<=l:=fun l off len c e=>Nat.le_trans hn (h.loc l off len c e).1
def vIsF(n:Nat):Vw (List Int):=Vw.slF n .int
theorem ygk_(n:Nat):(vIsF n).Over n:=Vw.slF_over (Vw.int_flat.over n)
end
section
open Go
def vars(bs:List (Bool×List Int)):List Int:=(bs.map (·.2)).flatten
end
section
open Go
theorem W.ub{R S:Type}{o:Option S}{K:S->Option R}{Q:R->Prop}(h:W (o.bind K) Q):W o fun r=>W (K r) Q:=by
 obtain⟨r,he,hq⟩:=h;rw[Option.bind_eq_some_iff]at he;obtain⟨a,h5,h6⟩:=he;exact⟨a,h5,r,h6,hq⟩
end
section
open Go
theorem y7o_{σ:Heap}{xs:List Int}{x:AVal}(h:SlV .int σ xs x)(hb:xs.length<=1000000):W (S.z125 x σ) fun r=>Acc .int σ.next r.2 xs r.1/\Hle σ r.2:=by
 obtain⟨y,τ,e,L,hA⟩:=yht_ h hb;exact⟨_,e,hA,L⟩
end
section
open Go
theorem set_set(τ:Heap)(l:Nat)(a b:AObj):(τ.set l a).set l b=τ.set l b:=by
 simp only[Heap.set,Heap.mk.injEq,true_and]
 funext k
 by_cases h:k=l<;>simp[h]
theorem ygw_{τ:Heap}{l:Nat}{o:AObj}(h:τ.get l=some o):τ.set l o=τ:=by
 cases τ with
 |mk n g=>
  simp only[Heap.set,Heap.mk.injEq,true_and]
  funext k
  by_cases e:k=l
  ·subst e;rw[if_pos rfl];exact h.symm
  ·rw[if_neg e]
theorem y1s_(τ:Heap)(l:Nat)(o:AObj):(τ.set l o).get l=some o:=by rw[y35_,if_pos rfl]
section
variable{R:Type}{τ:Heap}{l off len:Nat}{c:Option Nat}{cs:List AVal}{Q:R->Prop}
theorem W.rd1(hg:τ.get l=some (.cells .rw 1 cs)){i:Int}(h0:0<=i)(h1:i<len){a:Int}(hk:cs[off+i.toNat]?=some (AVal.int .i64 a)){K:Int->Option R}(k:W (K a) Q):W (ixA τ (.sl l off len c) 1 i fun p=>ld τ p (.I .i64) K) Q:=by
 refine W.to ?_ k;simp only[ixA,hg];rw[if_pos ⟨trivial,h0,h1⟩,Nat.mul_one];simp[ld,Heap.cell,hg,hk,asK]
theorem W.wr1(hg:τ.get l=some (.cells .rw 1 cs)){i:Int}(h0:0<=i)(h1:i<len)(hlen:off+i.toNat<cs.length){a:AVal}{K:Heap->Option R}(k:W (K (τ.set l (.cells .rw 1 (cs.set (off+i.toNat) a)))) Q):W (ixA τ (.sl l off len c) 1 i fun p=>stC τ p [a] K) Q:=by
 refine W.to ?_ k;simp only[ixA,hg];rw[if_pos ⟨trivial,h0,h1⟩,Nat.mul_one];simp only[stC,hg,List.length_singleton];rw[if_pos (by omega)]
 congr 4
 rw[List.set_eq_take_append_cons_drop,if_pos hlen];simp
end
theorem yj9_{O:FuncId}{n0:Nat}{τ:Heap}{xs:List Int}{y:AVal}(hA:Acc .int n0 τ xs y)(hb:xs.all inB=true)(hl:xs.length<=1000000000) :
  W (y4o_ O y (.fn (.func O) [] []) τ) fun r=>Acc .int n0 r.2 (yh_ xs) y/\∀σ0:Heap,σ0.next<=n0->Hle σ0 τ->Hle σ0 r.2:=by
 unfold y4o_;simp only[if_true];rcases hA with ⟨rfl,rfl⟩|⟨l,cs,rfl,h2,h3,h4,h5,h6⟩
 ·exact W.ret ⟨.inl ⟨rfl,by simp[yh_]⟩,fun σ0 _ L=>L⟩
 ·simp only[]
  by_cases h0:xs.length=0
  ·rw[if_pos h0]
   have:xs=[]:=List.eq_nil_of_length_eq_zero h0;subst this;refine W.ret ⟨.inr ⟨l,cs,by simp[yh_],h2,h3,h4,by simp[yh_],fun i a hi=>by simp[yh_]at hi⟩,fun σ0 _ L=>L⟩
  ·rw[if_neg h0]
   have h4':τ.get l=some (.cells .rw 1 cs):=h4;have h5':xs.length<=cs.length:=by simpa[Vw.int]using h5
   simp only[h4'];rw[if_pos ⟨by omega,by omega⟩];have hc:(cs.drop 0).take xs.length=xs.map (AVal.int .i64):=by
    rw[List.drop_zero];apply List.ext_getElem? fun i=>?_;by_cases hi:i<xs.length
    ·have:=h6 i xs[i] (List.getElem?_eq_getElem hi)
     have this:(cs.drop (i*1)).take 1=[.int .i64 xs[i]]:=this;rw[Nat.mul_one]at this;rw[List.getElem?_take_of_lt hi,List.getElem?_map,List.getElem?_eq_getElem hi,Option.map_some];have h7:((cs.drop i).take 1)[0]?=some (AVal.int .i64 xs[i]):=by rw[this];rfl
     rw[List.getElem?_take_of_lt (by omega),List.getElem?_drop]at h7;simpa using h7
    ·rw[List.getElem?_eq_none (by simp;omega),List.getElem?_eq_none (by simp;omega)]
   rw[hc,yag_];simp only[hb,if_true];have hsl:=y3h_ xs;refine W.ret ⟨.inr ⟨l,_,by rw[hsl],h2,h3,y1s_ _ _ _,by first|(simp[Vw.int];done)|(simp[Vw.int];omega),fun i a hi=>?_⟩,fun σ0 hn L=>L.set (by omega) _⟩;show _=_;have hi':=(List.getElem?_eq_some_iff.1 hi).1;simp only[Vw.int,Nat.mul_one,List.take_zero,List.nil_append];rw[List.drop_append_of_le_length (by simp;omega),List.take_append_of_le_length (by simp;omega)];rw[List.drop_eq_getElem_cons (by simpa using hi')];obtain⟨h8,h9⟩:=List.getElem?_eq_some_iff.1 hi;simp[h9]
theorem y4e_{xs:List Int}{i:Nat}{a:Int}(h:xs[i]?=some a):(xs.take (i+1)).getLast?=some a:=by
 rw[List.take_add_one,h];simp
theorem y1z_{xs:List Int}{i:Nat}{a:Int}(h:xs[i]?=some a):xs.take (i+1)=xs.take i++[a]:=by rw[List.take_add_one,h];rfl
theorem ye3_{τ:Heap}{l k0 n:Nat}{cs0:List AVal}{xs:List Int}(hn:xs.length=n)(hcl:n<=cs0.length)(hk0:0<k0)(hk1:k0<n)(hnl:n<=1000000000)(hd:xs[k0]?=xs[k0-1]?)(hR:y4_ (xs.take k0)=xs.take k0)
  (hcs:∀(j:Nat) (a:Int),xs[j]?=some a->cs0[j]?=some (AVal.int .i64 a)) (hg:τ.get l=some (.cells .rw 1 cs0)) :
  W (loopW (S.z126.b0 (.sl l 0 n none) (.sl l k0 (n-k0) none)) ((k0:Int),1) τ) fun r=>r.1=((y4_ xs).length:Int)/\∃cs:List AVal,r.2=τ.set l (.cells .rw 1 cs)/\cs.length=cs0.length/\cs.take (y4_ xs).length=(y4_ xs).map (AVal.int .i64):=by
 have hinit:y4_ (xs.take (k0+1))=xs.take k0:=by
  obtain⟨a,ha⟩:∃a,xs[k0]?=some a:=⟨_,List.getElem?_eq_getElem (by omega)⟩;rw[y1z_ ha,y2h_,hR];have:(xs.take k0).getLast?=some a:=by
   have h1:=y4e_ (xs:=xs) (i:=k0-1) (a:=a) (by rw[<-hd,ha])
   rwa [show k0-1+1=k0 by omega]at h1
  rw[if_pos this]
 refine W.loop (n-k0-1) (fun i (y:Int×Int) τ'=>∃cs:List AVal,y=(((y4_ (xs.take (k0+1+i))).length:Int),(i:Int)+1)/\τ'=τ.set l (.cells .rw 1 cs)/\cs.length=cs0.length/\(y4_ (xs.take (k0+1+i))).length<=k0+i /\
  cs.take (y4_ (xs.take (k0+1+i))).length=(y4_ (xs.take (k0+1+i))).map (AVal.int .i64)/\∀(j:Nat) (a:Int),k0+i<=j->xs[j]?=some a->cs[j]?=some (AVal.int .i64 a))
  ⟨cs0,?_,(ygw_ hg).symm,rfl,?_,?_,fun j a _ h=>hcs j a h⟩ fun i y τ' hi hI=>?_
 ·rw[Nat.add_zero,hinit];simp;omega
 ·rw[Nat.add_zero,hinit];simp;omega
 ·rw[Nat.add_zero,hinit]
  apply List.ext_getElem? fun j=>?_;by_cases hj:j<k0
  ·have hx:=List.getElem?_eq_getElem (l:=xs) (i:=j) (by omega)
   rw[List.getElem?_take_of_lt (by simp;omega),List.getElem?_map,List.getElem?_take_of_lt hj,hx,Option.map_some];exact hcs j _ hx
  ·rw[List.getElem?_eq_none (by simp;omega),List.getElem?_eq_none (by simp;omega)]
 ·obtain⟨cs,rfl,rfl,hl,hk,ht,hr⟩:=hI
  have sk3:IntKind.i64.wrap ((i:Int)+1+1)=((i+1:Nat):Int)+1:=by rw[wrapS]<;>omega
  unfold S.z126.b0;simp only[lenV]
  (with_reducible refine W.cnd (fun hc=>?_) (fun hc=>?_)<;>(try simp only[qq,Kd.ty]at hc)<;>(try (exfalso;omega)))
  ·obtain⟨a,ha⟩:∃a,xs[k0+1+i]?=some a:=⟨_,List.getElem?_eq_getElem (by omega)⟩
   obtain⟨b,hb⟩:∃b,xs[k0+i]?=some b:=⟨_,List.getElem?_eq_getElem (by omega)⟩;have hpush:y4_ (xs.take (k0+1+(i+1)))=if b=a then y4_ (xs.take (k0+1+i))else y4_ (xs.take (k0+1+i))++[a]:=by
    rw[<-Nat.add_assoc,y1z_ ha,y2h_];have:=y4e_ hb;rw[show k0+i+1=k0+1+i by omega]at this;rw[this];simp
   have w:IntKind.i64.wrap ((i:Int)+1-1)=i:=by rw[wrapS]<;>omega
   repeat' (with_reducible refine W.bind ?_)
   refine W.rd1 (y1s_ _ _ _) (by omega) (by omega) (a:=a) (by rw[show k0+((i:Int)+1).toNat=k0+1+i by omega];exact hr _ _ (by omega) ha) ?_;rw[w];refine W.rd1 (y1s_ _ _ _) (by omega) (by omega) (a:=b) (by rw[show k0+((i:Int)).toNat=k0+i by omega];exact hr _ _ (by omega) hb) ?_;rw[hpush]
   (with_reducible refine W.cnd (fun hq=>?_) (fun hq=>?_)<;>(try simp only[qq,Kd.ty]at hq)<;>(try (exfalso;omega)))
   ·refine W.rd1 (y1s_ _ _ _) (by omega) (by omega) (a:=a) (by rw[show k0+((i:Int)+1).toNat=k0+1+i by omega];exact hr _ _ (by omega) ha) ?_
    refine W.wr1 (y1s_ _ _ _) (by omega) (by omega) (by omega) ?_;rw[set_set,if_neg (fun e=>hq e.symm)]
    repeat' with_reducible first|refine W.next ?_|refine W.ret ?_
    rw[Nat.zero_add,Int.toNat_natCast];refine⟨by omega,_,?_,rfl,by simp[hl],by simp;omega,?_,fun j c hj hc=>?_⟩
    ·rw[sk3,sk];simp
    ·rw[List.length_append,List.length_singleton,List.map_append,List.take_add_one,List.take_set_of_le (by omega),ht,List.getElem?_set_self (by omega)];rfl
    ·rw[List.getElem?_set_ne (by omega)];exact hr j c (by omega) hc
   ·subst hq
    repeat' with_reducible first|refine W.next ?_|refine W.ret ?_
    rw[if_pos rfl];exact⟨by omega,cs,by rw[sk3],rfl,hl,by omega,ht,fun j c hj hc=>hr j c (by omega) hc⟩
  ·repeat' (with_reducible refine W.stop ?_)
   have:xs.take (k0+1+i)=xs:=List.take_of_length_le (by omega);rw[this]at ht;rw[this];exact⟨rfl,cs,rfl,hl,ht⟩
def adj:List Int->Bool
 |x::y::t=>decide (x.natAbs≠y.natAbs)&&adj (y::t)
 |_=>true
def saysN(c:List Int):Bool:=adj (normL c)
def Fresh(n0:Nat)(τ:Heap)(xs:List Int)(y:AVal):Prop:=SlV .int τ xs y/\∀l off len c,y=.sl l off len c->n0<=l
def y2s_(n0:Nat)(τ:Heap)(xs:List Int)(y:AVal):Prop:=(y=.nils/\xs=[])\/∃l off c cs,y=.sl l off xs.length c/\n0<=l/\l<τ.next/\τ.get l=some (.cells .rw Vw.int.sz cs) /\
 (∀k,c=some k->(off+k)*Vw.int.sz<=cs.length)/\(off+xs.length)*Vw.int.sz<=cs.length/\∀i a,xs[i]?=some a->Vw.int.rel τ a ((cs.drop ((off+i)*Vw.int.sz)).take Vw.int.sz)
theorem y2s_.fresh{n0:Nat}{τ:Heap}{xs:List Int}{y:AVal}(h:y2s_ n0 τ xs y):Fresh n0 τ xs y:=by
 rcases h with ⟨rfl,rfl⟩|⟨l,off,c,cs,rfl,h1,h2,h3,_,h4,h5⟩
 ·exact⟨.inl ⟨rfl,rfl⟩,fun l off len c e=>by cases e⟩
 ·exact⟨.inr ⟨l,off,c,.rw,cs,rfl,h2,h3,h4,h5⟩,fun l' off' len c' e=>by cases e;exact h1⟩
theorem Acc.freshO{n0:Nat}{τ:Heap}{xs:List Int}{y:AVal}(h:Acc .int n0 τ xs y):y2s_ n0 τ xs y:=by
 rcases h with h|⟨l,cs,rfl,h2,h3,h4,h5,h6⟩
 ·exact .inl h
 ·exact .inr ⟨l,0,none,cs,rfl,h2,h3,h4,fun k e=>(by cases e),by simpa using h5,fun i a hi=>by rw[Nat.zero_add];exact h6 i a hi⟩
theorem yff_{n0:Nat}{τ:Heap}{xs:List Int}{y:AVal}(hA:Acc .int n0 τ xs y)(hl:xs.length<=1000000000) :
  W (S.z126 y τ) fun r=>y2s_ n0 r.2 (y4_ xs) r.1/\∀σ0:Heap,σ0.next<=n0->Hle σ0 τ->Hle σ0 r.2:=by
 unfold S.z126;rw[hA.len]
 (with_reducible refine W.cnd (fun hc=>?_) (fun hc=>?_)<;>(try simp only[qq,Kd.ty]at hc)<;>(try (exfalso;omega)))
 ·repeat' with_reducible refine W.ret ?_
  have:y4_ xs=xs:=by
   match xs,hc with
   |[],_=>rfl
   |[x],_=>rfl
   |x::y::t,h=>simp at h;omega
  rw[this];exact⟨hA.freshO,fun σ0 _ L=>L⟩
 ·rcases hA with ⟨rfl,rfl⟩|⟨l,cs,rfl,h2,h3,h4,h5,h6⟩
  ·simp at hc
  ·have h4':τ.get l=some (.cells .rw 1 cs):=h4
   have h5':xs.length<=cs.length:=by simpa[Vw.int]using h5
   have hcs:∀(j:Nat) (a:Int),xs[j]?=some a->cs[j]?=some (AVal.int .i64 a):=fun j a ha=>by
    have:=h6 j a ha;have this:(cs.drop (j*1)).take 1=[AVal.int .i64 a]:=this;have h7:((cs.drop (j*1)).take 1)[0]?=some (AVal.int .i64 a):=by rw[this];rfl
    rw[List.getElem?_take_of_lt (by omega),List.getElem?_drop]at h7;simpa using h7
   have hlt:∀j,j<xs.length->∃a,xs[j]?=some a:=fun j hj=>⟨_,List.getElem?_eq_getElem hj⟩
   repeat' (with_reducible refine W.bind ?_)
   refine W.loop (xs.length-1) (fun i y τ'=>y=(i:Int)+1/\τ=τ'/\y4_ (xs.take (i+1))=xs.take (i+1)) ⟨rfl,rfl,by
    match xs,hc with
    |x::t,_=>rfl⟩ fun i y τ' hi hI=>?_
   obtain⟨rfl,rfl,hR⟩:=hI;have w:IntKind.i64.wrap ((i:Int)+1-1)=i:=by rw[wrapS]<;>omega
   have sk3:IntKind.i64.wrap ((i:Int)+1+1)=((i+1:Nat):Int)+1:=by rw[wrapS]<;>omega
   unfold S.z126.b1;simp only[lenV]
   (with_reducible refine W.cnd (fun hq=>?_) (fun hq=>?_)<;>(try simp only[qq,Kd.ty]at hq)<;>(try (exfalso;omega)))
   ·obtain⟨a,ha⟩:=hlt (i+1) (by omega)
    obtain⟨b,hb⟩:=hlt i (by omega);refine W.rd1 h4' (by omega) (by omega) (a:=a) (by rw[show 0+((i:Int)+1).toNat=i+1 by omega];exact hcs _ _ ha) ?_;rw[w];refine W.rd1 h4' (by omega) (by omega) (a:=b) (by rw[show 0+(i:Int).toNat=i by omega];exact hcs _ _ hb) ?_
    (with_reducible refine W.cnd (fun he=>?_) (fun he=>?_)<;>(try simp only[qq,Kd.ty]at he)<;>(try (exfalso;omega)))
    ·subst he
     have hsl:∀{R:Type} (K:AVal->Option R),slS τ 1 (.sl l 0 xs.length none) ((i:Int)+1) none none K=K (.sl l (i+1) (xs.length-(i+1)) none):=fun K=>by
      simp only[slS,h4'];rw[if_pos ⟨trivial,by omega,by simp;omega,by simp,by simp,by simp⟩];have:((i:Int)+1).toNat=i+1:=by omega
      simp[this,yz_]
     refine W.to (hsl _) ?_
     repeat' (with_reducible refine W.bind ?_)
     have hin:=ye3_ (τ:=τ) (l:=l) (k0:=i+1) rfl h5' (by omega) (by omega) hl (by rw[ha];simpa using hb.symm) hR hcs h4';refine W.mono hin fun r hr=>?_;obtain⟨k,τ2⟩:=r;obtain⟨e,cs2,e2,hl2,ht⟩:=hr;dsimp only at e e2⊢;subst e e2;have hlen:=y4t_ xs;have hsl2:∀{R:Type} (K:AVal->Option R),slS (τ.set l (.cells .rw 1 cs2)) 1 (.sl l 0 xs.length none) ((y4_ xs).length:Int) none none K=K (.sl l (y4_ xs).length (xs.length-(y4_ xs).length) none):=fun K=>by
      simp only[slS,y1s_];rw[if_pos ⟨trivial,by omega,by simp;omega,by simp,by simp,by simp⟩];simp[yz_]
     refine W.to (hsl2 _) ?_;have hclr:∃cs3:List AVal,cs3.length=cs2.length/\cs3.take (y4_ xs).length=cs2.take (y4_ xs).length/\∀{R:Type} (K:Heap->Option R),yy_ (τ.set l (.cells .rw 1 cs2)) 1 [AVal.int .i64 0] (.sl l (y4_ xs).length (xs.length-(y4_ xs).length) none) K=K (τ.set l (.cells .rw 1 cs3)):=by
      have hrl:∀n:Nat,(rep n [AVal.int .i64 0]).length=n:=fun n=>by
       induction n with
       |zero=>rfl
       |succ n ih=>simp[rep,ih]
      by_cases h0:xs.length-(y4_ xs).length=0
      ·exact⟨cs2,rfl,rfl,fun K=>by simp only[yy_,if_pos h0]⟩
      ·refine⟨cs2.take (y4_ xs).length++rep (xs.length-(y4_ xs).length) [AVal.int .i64 0]++cs2.drop ((y4_ xs).length+(xs.length-(y4_ xs).length)),?_,?_,fun K=>?_⟩
       ·simp[hrl];omega
       ·rw[List.append_assoc,List.take_append_of_le_length (by simp;omega),List.take_take,Nat.min_self]
       ·simp only[yy_,if_neg h0,y1s_,if_true,Nat.mul_one,stC,hrl]
        rw[if_pos (by omega),set_set]
     obtain⟨cs3,hl3,ht3,e3⟩:=hclr;refine W.to (e3 _) ?_;have hsl4:∀{R:Type} (K:AVal->Option R),slS (τ.set l (.cells .rw 1 cs3)) 1 (.sl l 0 xs.length none) 0 (some ((y4_ xs).length:Int)) none K=K (.sl l 0 (y4_ xs).length none):=fun K=>by
      simp only[slS,y1s_];rw[if_pos ⟨trivial,by omega,by simp,by simp;omega,by simp,by simp⟩];simp[yz_]
     refine W.to (hsl4 _) ?_
     repeat' with_reducible first|refine W.stop ?_|refine W.ret ?_
     refine⟨.inr ⟨l,0,none,cs3,rfl,h2,h3,y1s_ _ _ _,fun k e=>(by cases e),by simp[Vw.int];omega,fun i a hi=>?_⟩,fun σ0 hn L=>L.set (by omega) _⟩;show _=_;have hi':=(List.getElem?_eq_some_iff.1 hi).1;rw[ht]at ht3;have h7:(cs3.take (y4_ xs).length)[i]?=some (AVal.int .i64 a):=by rw[ht3,List.getElem?_map,hi];rfl
     rw[List.getElem?_take_of_lt hi']at h7;simp only[Vw.int,Nat.mul_one,Nat.zero_add];obtain⟨h8,h9⟩:=List.getElem?_eq_some_iff.1 h7;rw[List.drop_eq_getElem_cons h8,h9];rfl
    ·repeat' (with_reducible refine W.next ?_)
     refine⟨by omega,sk3,rfl,?_⟩;rw[y1z_ ha,y2h_,y4e_ hb,if_neg (fun e=>he (Option.some.inj e).symm),hR]
   ·repeat' with_reducible first|refine W.stop ?_|refine W.ret ?_
    have:xs.take (i+1)=xs:=List.take_of_length_le (by omega);rw[this]at hR;rw[hR];have hA:Acc .int n0 τ xs (.sl l 0 xs.length none):=.inr ⟨l,cs,rfl,h2,h3,h4,h5,h6⟩;exact⟨hA.freshO,fun σ0 _ L=>L⟩
theorem ygx_{xs:List Int}{i:Nat}{a b:Int}(ha:xs[i]?=some a)(hb:xs[i+1]?=some b):adj (xs.drop i)=(decide (a.natAbs≠b.natAbs)&&adj (xs.drop (i+1))):=by
 rw[y5g_ ha,y5g_ hb];rfl
theorem ydi_{σ:Heap}{c:List Int}{x:AVal}(hx:SlV .int σ c x)(hb:c.all inB=true)(hl:c.length<=1000000):W (S.z44 x σ) fun r=>r.1.2=saysN c/\Hle σ r.2/\y2s_ σ.next r.2 (normL c) r.1.1:=by
 unfold S.z44;refine W.call (y7o_ hx hl) fun r hr=>?_;obtain⟨y,τ⟩:=r;obtain⟨hy,L⟩:=hr;dsimp only at hy L⊢;refine W.call (yj9_ hy hb (by omega)) fun r hr=>?_;obtain⟨u,τ2⟩:=r;obtain⟨hy2,F2⟩:=hr;dsimp only at hy2 F2⊢;replace L:=F2 σ (Nat.le_refl _) L;have hsl:=y3h_ c;refine W.call (yff_ hy2 (by omega)) fun r hr=>?_;obtain⟨z,τ3⟩:=r;obtain⟨hz,F3⟩:=hr;dsimp only at hz F3⊢;replace L:=F3 σ (Nat.le_refl _) L;have hz:y2s_ σ.next τ3 (normL c) z:=hz;have hnl:=y2m_ c;have hclip:W (S.z124 z τ3) fun w=>y2s_ σ.next τ3 (normL c) w:=by
  unfold S.z124
  skip
  rcases hz with ⟨rfl,e⟩|⟨l,off,cc,cs,rfl,k1,k2,k3,k6,k4,k5⟩
  ·rw[e]
   exact W.to (by simp[slS,lenV]) (W.ret (.inl ⟨rfl,rfl⟩))
  ·have hs:∀{R:Type} (K:AVal->Option R),slS τ3 1 (.sl l off (normL c).length cc) 0 (some ((normL c).length:Int)) (some ((normL c).length:Int)) K=K (.sl l off (normL c).length (some (normL c).length)):=fun K=>by
    have k3:τ3.get l=some (.cells .rw 1 cs):=k3;simp only[slS,k3];rw[if_pos ⟨trivial,by omega,by simp,by simp,by simp,by simp⟩];simp[yz_]
   exact W.to (hs _) (W.ret (.inr ⟨l,off,_,cs,rfl,k1,k2,k3,fun k e=>(by cases e;exact k4),k4,k5⟩))
 refine W.call hclip fun w hwO=>?_;obtain⟨hw,hwf⟩:=hwO.fresh
 repeat' (with_reducible refine W.bind ?_)
 unfold saysN;refine W.loopP ((normL c).length-1) (fun i y=>y=(i:Int)+1/\adj (normL c)=adj ((normL c).drop i)) ⟨rfl,by simp⟩ fun i y hi hI=>?_;obtain⟨rfl,hI⟩:=hI;have wi:IntKind.i64.wrap ((i:Int)+1-1)=i:=by rw[wrapS]<;>omega
 have sk3:IntKind.i64.wrap ((i:Int)+1+1)=((i+1:Nat):Int)+1:=by rw[wrapS]<;>omega
 unfold S.z44.b0
 repeat' (with_reducible refine W.len (by assumption) ?_)
 have hin:∀v∈normL c,-1152921504606846976<=v/\v<=9223372036854775807:=fun v hv=>by
  rw[yc_]at hv;have:=List.all_eq_true.1 hb v hv;simp[inB]at this;omega
 (with_reducible refine W.cnd (fun hc=>?_) (fun hc=>?_)<;>(try simp only[qq,Kd.ty]at hc)<;>(try (exfalso;omega)))
 ·obtain⟨a,ha⟩:∃a,(normL c)[i]?=some a:=⟨_,List.getElem?_eq_getElem (by omega)⟩
  obtain⟨b,hb'⟩:∃b,(normL c)[i+1]?=some b:=⟨_,List.getElem?_eq_getElem (by omega)⟩;rw[ygx_ ha hb']at hI;refine W.ixI hw (a:=b) (by rw[show((i:Int)+1).toNat=i+1 by omega];exact hb') (by omega) ?_;refine W.eqn (y6v_ (hin b (List.mem_of_getElem? hb'))) ?_;rw[wi];refine W.ixIc hw ha ?_;refine W.eqn (y6v_ (hin a (List.mem_of_getElem? ha))) ?_
  (with_reducible refine W.cnd (fun he=>?_) (fun he=>?_)<;>(try simp only[qq,Kd.ty]at he)<;>(try (exfalso;omega)))
  ·repeat' with_reducible first|refine W.stopP ?_|refine W.ret ?_
   refine⟨?_,L,hwO⟩;rw[hI];have:a.natAbs=b.natAbs:=by omega
   simp[this]
  ·repeat' (with_reducible refine W.nextP ?_)
   refine⟨by omega,sk3,?_⟩;rw[hI];have:a.natAbs≠b.natAbs:=by omega
   simp[this]
 ·repeat' with_reducible first|refine W.stopP ?_|refine W.ret ?_
  refine⟨?_,L,hwO⟩;rw[hI]
  match h:(normL c).drop i with
  |[]=>rfl
  |[x]=>rfl
  |x::y::t=>
   have:=congrArg List.length h;simp at this;omega
theorem ydf_{σ:Heap}{c:List Int}{x:AVal}(hx:SlV .int σ c x)(hb:c.all inB=true)(hl:c.length<=1000000):W (S.z44 x σ) fun r=>r.1.2=saysN c/\Hle σ r.2/\Fresh σ.next r.2 (normL c) r.1.1:=
 W.mono (ydi_ hx hb hl) fun r h=>⟨h.1,h.2.1,h.2.2.fresh⟩
end
section
open Go
inductive Der(C:List (List Int))(s:List Int):Int->Prop where
 |start {l:Int}:l∈s->Der C s l
 |unit {c:List Int} {l:Int}:c∈C->l∈c->(∀k∈c,k≠l->Der C s (-k))->Der C s l
def Conf(C:List (List Int))(s:List Int):Prop:=(∃l,Der C s l/\Der C s (-l))\/∃c∈C,∀k∈c,Der C s (-k)
theorem Der.mono{C D:List (List Int)}{s t:List Int}(hC:∀c∈C,∃d∈D,∀v,v∈d↔v∈c)(hs:∀l∈s,l∈t){l:Int}(h:Der C s l):Der D t l:=by
 induction h with
 |start h=>exact .start (hs _ h)
 |unit hc hl _ ih=>
  obtain⟨d,hd,e⟩:=hC _ hc;exact .unit hd ((e _).2 hl) fun k hk hne=>ih k ((e _).1 hk) hne
theorem Conf.mono{C D:List (List Int)}{s t:List Int}(hC:∀c∈C,∃d∈D,∀v,v∈d↔v∈c)(hs:∀l∈s,l∈t)(h:Conf C s):Conf D t:=by
 rcases h with ⟨l,h1,h2⟩|⟨c,hc,h⟩
 ·exact .inl ⟨l,h1.mono hC hs,h2.mono hC hs⟩
 ·obtain⟨d,hd,e⟩:=hC _ hc
  exact .inr ⟨d,hd,fun k hk=>(h k ((e _).1 hk)).mono hC hs⟩
def val(vs:List Int)(l:Int):Int:=if l=0\/vs.length<=l.natAbs then 0 else if l<0/\vs.getD l.natAbs 0≠0 then 3-vs.getD l.natAbs 0 else vs.getD l.natAbs 0
def Vok(vs:List Int):Prop:=∀x∈vs,x=0\/x=1\/x=2
def setV(vs:List Int)(l:Int):List Int:=vs.set l.natAbs (if 0<l then 1 else 2)
theorem y5f_{vs:List Int}(h:Vok vs)(i:Nat):vs.getD i 0=0\/vs.getD i 0=1\/vs.getD i 0=2:=by
 rw[List.getD_eq_getElem?_getD];cases hx:vs[i]? with
 |none=>left;rfl
 |some x=>exact h x (List.mem_of_getElem? hx)
theorem y1q_{vs:List Int}(h:Vok vs)(l:Int):val vs l=0\/val vs l=1\/val vs l=2:=by
 unfold val;have:=y5f_ h l.natAbs
 split
 ·left;rfl
 ·split<;>omega
theorem y5e_{vs:List Int}(h:Vok vs)(l:Int):val vs (-l)=if val vs l=0 then 0 else 3-val vs l:=by
 unfold val;have:=y5f_ h l.natAbs;rw[Int.natAbs_neg];by_cases h0:l=0\/vs.length<=l.natAbs
 ·rw[if_pos (by omega),if_pos h0];rfl
 ·rw[if_neg (by omega),if_neg h0]
  generalize vs.getD l.natAbs 0=a at *
  repeat' split
  all_goals omega
theorem Vok.set{vs:List Int}(h:Vok vs)(l:Int):Vok (setV vs l):=fun x hx=>by
 unfold setV at hx;rcases List.mem_or_eq_of_mem_set hx with hx|hx
 ·exact h x hx
 ·split at hx<;>omega
theorem y5p_(vs:List Int)(l:Int):(setV vs l).length=vs.length:=by simp[setV]
theorem y7h_{vs:List Int}{l:Int}(h0:l≠0)(h1:l.natAbs<vs.length)(k:Int):val (setV vs l) k=if k=l then 1 else if k = -l then 2 else val vs k:=by
 unfold val;rw[y5p_];have hg:∀j:Nat,(setV vs l).getD j 0=if j=l.natAbs then(if 0<l then 1 else 2)else vs.getD j 0:=fun j=>by
  unfold setV;rw[List.getD_eq_getElem?_getD,List.getElem?_set];by_cases hj:l.natAbs=j
  ·subst hj;simp[h1]
  ·rw[if_neg hj,if_neg (fun e=>hj e.symm),List.getD_eq_getElem?_getD]
 rw[hg];by_cases hk:k=l
 ·subst hk
  rw[if_pos rfl,if_neg (by omega),if_pos rfl]
  split<;>split<;>omega
 ·rw[if_neg hk]
  by_cases hk2:k = -l
  ·subst hk2
   rw[if_pos rfl,if_neg (by omega),Int.natAbs_neg,if_pos rfl]
   split<;>split<;>omega
  ·rw[if_neg hk2,if_neg (c:=k.natAbs=l.natAbs) (by omega)]
def Vw.i8:Vw Int:=⟨1,fun _ a us=>us=[.int .i8 a],Nat.one_pos,fun h=>by rw[h];rfl,fun _ h=>h⟩
theorem Vw.i8_flat:Vw.i8.Flat:=fun _ _ _ _ h=>h
def AsgV(σ:Heap)(p:AVal)(vs:List Int):Prop:=∃l v,p=.ptr l 0/\Loc σ l [v]/\SlV .i8 σ vs v
theorem i8w{x:Int}(h:x=0\/x=1\/x=2):IntKind.i64.wrap x=x:=by rw[wrapS]<;>omega
theorem y3e_{σ:Heap}{p:AVal}{vs:List Int}(h:AsgV σ p vs)(hv:Vok vs)(hl:0<vs.length)(hb:vs.length<=1000000){l:Int}(hin:inB l=true):S.z4 p l σ=some (val vs l):=by
 obtain⟨r,e,rfl⟩:W (S.z4 p l σ) fun r=>r=val vs l:=by
  obtain⟨la,v,rfl,h1,h2⟩:=h;simp only[inB,Bool.and_eq_true,decide_eq_true_eq]at hin;have w:IntKind.i64.wrap ((vs.length:Int)-1)=(vs.length:Int)-1:=by rw[wrapS]<;>omega
  unfold S.z4 val
  repeat' with_reducible first|refine W.bind ?_|refine W.asV ?_|refine W.fldp ?_|refine W.len (by assumption) ?_|refine W.e0 ?_|refine W.nck ?_
  rw[w];refine W.to (y18_ (by omega) (by omega)) ?_
  repeat' with_reducible refine W.ret ?_
  by_cases hi:isL l ((vs.length:Int)-1)=true
  ·have hi':=yi_.1 hi
   refine W.condF (by simp[hi]) ?_;rw[if_neg (by omega)]
   repeat' with_reducible first|refine W.bind ?_|refine W.asV ?_|refine W.fldp ?_|refine W.e0 ?_|refine W.nck ?_
   refine W.to (y6v_ ⟨by omega,by omega⟩) ?_
   repeat' with_reducible refine W.ret ?_
   obtain⟨a,ha⟩:∃a,vs[l.natAbs]?=some a:=⟨_,List.getElem?_eq_getElem (by omega)⟩;have hg:vs.getD l.natAbs 0=a:=by rw[List.getD_eq_getElem?_getD,ha];rfl
   have hok:=y5f_ hv l.natAbs;rw[hg]at hok⊢;refine W.ixkc h2 ha fun q us hq hr=>?_;have hr:us=[.int .i8 a]:=hr;subst hr
   repeat' with_reducible first|refine W.bind ?_|refine W.asI ?_|refine W.ld0 (by assumption) (by with_unfolding_all rfl) ?_
   rw[i8w hok]
   (with_reducible refine W.cnd (fun hc=>?_) (fun hc=>?_)<;>(try simp only[qq,Kd.ty]at hc)<;>(try (exfalso;omega)))
   ·repeat' with_reducible first|refine W.ret ?_|refine W.bind ?_
    by_cases h0:a=0
    ·subst h0
     refine W.condF (by rfl) ?_
     repeat' with_reducible refine W.ret ?_
     simp
    ·refine W.condT (by simpa using h0) ?_
     repeat' with_reducible refine W.ret ?_
     rw[if_pos ⟨by omega,h0⟩,wrapS]<;>omega
   ·repeat' with_reducible first|refine W.ret ?_|refine W.bind ?_
    refine W.condF rfl ?_
    repeat' with_reducible refine W.ret ?_
    rw[if_neg (by omega)]
  ·refine W.condT (by simpa using hi) ?_
   repeat' with_reducible refine W.ret ?_
   have:¬(l≠0/\-((vs.length:Int)-1)<=l/\l<=(vs.length:Int)-1):=fun e=>hi (yi_.2 e);rw[if_pos (by omega)]
 exact e
end
section
open Go
abbrev i8s(vs:List Int):List AVal:=vs.map (AVal.int .i8)
structure AsgR(σ:Heap)(la lv:Nat)(vs:List Int):Prop where
 loc:Loc σ la [.sl lv 0 vs.length none]
 get:σ.get lv=some (.cells .rw 1 (i8s vs))
 lt:lv<σ.next
 ne:la≠lv
theorem AsgR.v{σ:Heap}{la lv:Nat}{vs:List Int}(h:AsgR σ la lv vs):AsgV σ (.ptr la 0) vs:=
 ⟨la,_,rfl,h.loc,.inr ⟨lv,0,none,.rw,_,rfl,h.lt,h.get,by simp[Vw.i8],fun i a hi=>by
  show _=_;obtain⟨h8,h9⟩:=List.getElem?_eq_some_iff.1 hi;simp only[Vw.i8,Nat.mul_one,Nat.zero_add];rw[List.drop_eq_getElem_cons (by simpa using h8)];simp[h9]⟩⟩
theorem yhk_{σ:Heap}{la lv:Nat}{vs:List Int}(h:AsgR σ la lv vs)(hv:Vok vs)(hl:0<vs.length)(hb:vs.length<=1000000){l:Int}(hin:inB l=true) :
  W (S.z2 (.ptr la 0) l σ) fun r=>(l≠0/\l.natAbs<vs.length/\val vs l≠2)/\r.1=true/\Hle (σ.kill lv) r.2/\r.2.next=σ.next/\AsgR r.2 la lv (setV vs l)\/¬(l≠0/\l.natAbs<vs.length/\val vs l≠2)/\r=(false,σ):=by
 have hA:=h.v;have hloc:=h.loc;have hin':=hin;simp only[inB,Bool.and_eq_true,decide_eq_true_eq]at hin';have w:IntKind.i64.wrap ((vs.length:Int)-1)=(vs.length:Int)-1:=by rw[wrapS]<;>omega
 have hlen:∀{R:Type} (K:Int->Option R),lenV (.sl lv 0 vs.length none) K=K (vs.length:Int):=fun K=>rfl;unfold S.z2
 repeat' with_reducible first|refine W.bind ?_|refine W.asV ?_|refine W.fldp ?_|refine W.e0 ?_|refine W.nck ?_
 refine W.to (hlen _) ?_;rw[w];refine W.eqn (y18_ (by omega) (by omega)) ?_;by_cases hi:isL l ((vs.length:Int)-1)=true
 ·have hi':=yi_.1 hi
  refine W.condF (by simp[hi]) ?_
  repeat' (with_reducible refine W.bind ?_)
  refine W.to (y3e_ hA hv hl hb hin) ?_
  repeat' with_reducible refine W.ret ?_
  by_cases h2:val vs l=2
  ·refine W.condT (by simpa using h2) ?_
   repeat' with_reducible refine W.ret ?_
   exact .inr ⟨fun e=>e.2.2 h2,rfl⟩
  ·refine W.condF (by simpa using h2) ?_
   have fin:∀x:Int,x=(if 0<l then 1 else 2)->∃τ,τ=σ.set lv (.cells .rw 1 ((i8s vs).set (0+(l.natAbs:Int).toNat) (AVal.int .i8 x)))/\Hle (σ.kill lv) τ/\τ.next=σ.next/\AsgR τ la lv (setV vs l):=fun x hx=>by
    refine⟨_,rfl,Hle.kill_set ..,rfl,⟨?_,?_,h.lt,h.ne⟩⟩
    ·rw[y5p_]
     exact(h.loc.kill h.ne).mono (Hle.kill_set ..)
    ·rw[y1s_]
     congr 2
     unfold setV;rw[<-hx,i8s,i8s,List.map_set,Nat.zero_add,Int.toNat_natCast]
   repeat' (with_reducible refine W.bind ?_)
   (with_reducible refine W.cnd (fun hc=>?_) (fun hc=>?_)<;>(try simp only[qq,Kd.ty]at hc)<;>(try (exfalso;omega)))
   ·repeat' with_reducible first|refine W.asV ?_|refine W.fldp ?_|refine W.e0 ?_|refine W.nck ?_
    obtain⟨τ,e1,e2,e3,e4⟩:=fin 1 (by rw[if_pos hc]);have ea:l=(l.natAbs:Int):=by omega
    rw[show∀K:AVal->Option (Unit×Heap),ixA σ (.sl lv 0 vs.length none) 1 l K=ixA σ (.sl lv 0 vs.length none) 1 (l.natAbs:Int) K from fun K=>by rw[<-ea]];refine W.wr1 h.get (by omega) (by omega) (by simp;omega) ?_;rw[<-e1]
    repeat' with_reducible refine W.ret ?_
    exact .inl ⟨⟨by omega,by omega,h2⟩,rfl,e2,e3,e4⟩
   ·repeat' with_reducible first|refine W.asV ?_|refine W.fldp ?_|refine W.e0 ?_|refine W.nck ?_
    obtain⟨τ,e1,e2,e3,e4⟩:=fin 2 (by rw[if_neg (by omega)]);have w2:IntKind.i64.wrap (0-l)=(l.natAbs:Int):=by rw[wrapS]<;>omega
    rw[w2];refine W.wr1 h.get (by omega) (by omega) (by simp;omega) ?_;rw[<-e1]
    repeat' with_reducible refine W.ret ?_
    exact .inl ⟨⟨by omega,by omega,h2⟩,rfl,e2,e3,e4⟩
 ·refine W.condT (by simpa using hi) ?_
  repeat' with_reducible refine W.ret ?_
  refine W.condT rfl ?_
  repeat' with_reducible refine W.ret ?_
  have:¬(l≠0/\-((vs.length:Int)-1)<=l/\l<=(vs.length:Int)-1):=fun e=>hi (yi_.2 e);exact .inr ⟨by omega,rfl⟩
theorem y6x_{σ:Heap}{v:Int}(h0:0<=v)(h1:v<=4000):S.z6 v σ=some v:=by
 unfold S.z6;rw[if_neg (c:=0>v) (by omega),if_neg (by omega)]
theorem yjt_(n:Nat):rep n [AVal.int .i8 0]=i8s (List.replicate n 0):=by
 induction n with
 |zero=>rfl
 |succ n ih=>rw[rep,ih,List.replicate_succ];rfl
theorem yh1_{σ:Heap}{n:Nat}(hn:n<=4000):W (S.z7 (n:Int) σ) fun r=>r.1=.ptr (σ.next+1) 0/\r.2.next=σ.next+2/\Hle σ r.2/\AsgR r.2 (σ.next+1) σ.next (List.replicate (n+1) 0):=by
 unfold S.z7;refine W.eqn (y6x_ (by omega) (by omega)) ?_;rw[sk];have hmk:∀{R:Type} (K:AVal->Heap->Option R),mkS σ 1 1 [AVal.int .i8 0] ((n+1:Nat):Int) ((n+1:Nat):Int) K=K (.sl σ.next 0 (n+1) none) (σ.new (.cells .rw 1 (i8s (List.replicate (n+1) 0)))):=fun K=>by
  simp only[mkS,newK];rw[if_pos ⟨by omega,by omega,by omega,by omega⟩,Int.toNat_natCast,yjt_]
 refine W.to (hmk _) ?_;have L1:=(Hle.refl σ).new (.cells .rw 1 (i8s (List.replicate (n+1) 0)));have g1:(σ.new (.cells .rw 1 (i8s (List.replicate (n+1) 0)))).get σ.next=some (.cells .rw 1 (i8s (List.replicate (n+1) 0))):=by rw[yl_,if_pos rfl]
 have n1:(σ.new (.cells .rw 1 (i8s (List.replicate (n+1) 0)))).next=σ.next+1:=rfl;generalize σ.new (.cells .rw 1 (i8s (List.replicate (n+1) 0)))=τ at *
 repeat' (with_reducible refine W.scSl ?_)
 refine W.new fun l τ2 hl L2 h2 hnτ2=>?_
 repeat' with_reducible refine W.ret ?_
 have hl':l=σ.next+1:=by omega
 clear hl
 subst hl';dsimp only;exact⟨rfl,by omega,L1.mono L2,⟨by rw[List.length_replicate];exact h2,L2.get _ _ (by omega) g1,by omega,by omega⟩⟩
theorem yhv_(n:Nat)(l:Int):val (List.replicate n 0) l=0:=by
 unfold val;have:∀i:Nat,(List.replicate n (0:Int)).getD i 0=0:=fun i=>by
  rw[List.getD_eq_getElem?_getD,List.getElem?_replicate];split<;>rfl
 rw[this];simp
theorem yh2_(n:Nat):Vok (List.replicate n 0):=fun x hx=>.inl (List.eq_of_mem_replicate hx)
structure ClW(vs c:List Int)(r:Int×Int):Prop where
 bad:r.1=2↔∀k∈c,val vs k=2
 one:r.1≠2->r.2≠0->r.2∈c/\val vs r.2=0/\∀k∈c,k≠r.2->val vs k=2
 many:r.1≠2->r.2=0->(∃k∈c,val vs k=1)\/∃j∈c,∃k∈c,j≠k/\val vs j≠2/\val vs k≠2
theorem yhm_{σ:Heap}{p x:AVal}{vs c:List Int}(h:AsgV σ p vs)(hv:Vok vs)(hl:0<vs.length)(hb:vs.length<=1000000)(hx:SlV .int σ c x)(hin:∀l∈c,inB l=true/\l≠0)(hcb:c.length<=1000000) :
  W (S.z0 p x σ) fun r=>ClW vs c r:=by
 unfold S.z0
 repeat' with_reducible first|refine W.bind ?_|refine W.len (by assumption) ?_
 refine W.loopP c.length (fun i (y:Int×Int×Int×Int)=>y.2.2.2=(i:Int)/\0<=y.2.1/\y.2.1<=i/\(y.2.2.1=0\/y.2.2.1=1\/y.2.2.1=2)/\(y.2.2.1=2↔∀k∈c.take i,val vs k=2)/\(y.2.2.1=1↔∃k∈c.take i,val vs k=1) /\
  (y.2.1=0↔∀k∈c.take i,val vs k=2)/\(y.2.1=1->y.1∈c.take i/\val vs y.1≠2/\∀k∈c.take i,val vs k≠2->k=y.1)/\(2<=y.2.1->∃j∈c.take i,∃k∈c.take i,j≠k/\val vs j≠2/\val vs k≠2))
  ⟨rfl,by simp,by simp,by simp,by simp,by simp,by simp,by simp,by simp⟩ fun i y hi hI=>?_
 obtain⟨left,many,worth,j⟩:=y;obtain⟨rfl,hm0,hmi,hw,i1,i2,i3,i4,i5⟩:=hI;dsimp only at hm0 hmi hw i1 i2 i3 i4 i5;unfold S.z0.b0;dsimp only
 (with_reducible refine W.cnd (fun hc=>?_) (fun hc=>?_)<;>(try simp only[qq,Kd.ty]at hc)<;>(try (exfalso;omega)))
 ·repeat' (with_reducible refine W.bind ?_)
  refine W.ixInc hx (by omega) fun a ha=>?_;have hma:=hin a (List.mem_of_getElem? ha);refine W.eqn (y3e_ h hv hl hb hma.1) ?_;have ht:c.take (i+1)=c.take i++[a]:=by rw[List.take_add_one,ha];rfl
  have hall:∀P:Int->Prop,(∀k∈c.take (i+1),P k)↔(∀k∈c.take i,P k)/\P a:=fun P=>by
   rw[ht];simp only[List.mem_append,List.mem_singleton];exact⟨fun h=>⟨fun k hk=>h k (.inl hk),h a (.inr rfl)⟩,fun h k hk=>hk.elim (h.1 k) fun e=>e▸h.2⟩
  have hex:∀P:Int->Prop,(∃k∈c.take (i+1),P k)↔(∃k∈c.take i,P k)\/P a:=fun P=>by
   rw[ht];simp only[List.mem_append,List.mem_singleton];constructor
   ·rintro⟨k,hk|rfl,h⟩
    ·exact .inl ⟨k,hk,h⟩
    ·exact .inr h
   ·rintro(⟨k,hk,h⟩|h)
    ·exact⟨k,.inl hk,h⟩
    ·exact⟨a,.inr rfl,h⟩
  have hmem:∀{k},k∈c.take i->k∈c.take (i+1):=fun hk=>by rw[ht];exact List.mem_append.2 (.inl hk)
  have hmea:a∈c.take (i+1):=by rw[ht];simp
  have hne2:val vs a≠2->∀P:Prop,(if(many=0)then True else left≠a)\/(many≠0/\left=a):=fun _ _=>by
   by_cases h0:many=0
   ·simp[h0]
   ·by_cases h1:left=a
    ·exact .inr ⟨h0,h1⟩
    ·exact .inl (by rw[if_neg h0];exact h1)
  have wm:IntKind.i64.wrap (many+1)=many+1:=by rw[wrapS]<;>omega
  have cnt:val vs a≠2->∀w':Int,(w'=0\/w'=1)->(w'=1↔(∃k∈c.take i,val vs k=1)\/val vs a=1) ->
    W ((cond (many==0) (some true) (some (a != left))).bind fun r11=>cond r11 (some (a,IntKind.i64.wrap (many+1),w')) (some (left,many,w'))) fun r=>r.2.2=w'/\0<=r.2.1/\r.2.1<=i+1/\(r.2.1=0↔∀k∈c.take (i+1),val vs k=2) /\
     (r.2.1=1->r.1∈c.take (i+1)/\val vs r.1≠2/\∀k∈c.take (i+1),val vs k≠2->k=r.1)/\(2<=r.2.1->∃j∈c.take (i+1),∃k∈c.take (i+1),j≠k/\val vs j≠2/\val vs k≠2):=by
   intro ha2 w' hw' hw1;have hn0:¬ ∀k∈c.take (i+1),val vs k=2:=fun e=>ha2 ((hall _).1 e).2;by_cases h0:many=0
   ·subst h0
    repeat' (with_reducible refine W.bind ?_)
    refine W.condT rfl ?_
    repeat' with_reducible refine W.ret ?_
    refine W.condT rfl ?_
    repeat' with_reducible refine W.ret ?_
    rw[wm];dsimp only;refine⟨rfl,by omega,by omega,⟨fun e=>by omega,fun e=>absurd e hn0⟩,fun _=>⟨hmea,ha2,fun k hk hk2=>?_⟩,fun e=>by omega⟩;rw[ht]at hk;rcases List.mem_append.1 hk with hk|hk
    ·exact absurd (i3.1 rfl k hk) hk2
    ·simpa using hk
   ·repeat' (with_reducible refine W.bind ?_)
    refine W.condF (by simpa using h0) ?_
    repeat' with_reducible refine W.ret ?_
    by_cases h1:a=left
    ·refine W.condF (by simpa using h1) ?_
     repeat' with_reducible refine W.ret ?_
     dsimp only;refine⟨rfl,hm0,by omega,⟨fun e=>absurd e h0,fun e=>absurd e hn0⟩,fun e=>?_,fun e=>?_⟩
     ·obtain⟨b1,b2,b3⟩:=i4 e
      refine⟨hmem b1,b2,fun k hk hk2=>?_⟩;rw[ht]at hk;rcases List.mem_append.1 hk with hk|hk
      ·exact b3 k hk hk2
      ·simp at hk;rw[hk,h1]
     ·obtain⟨u,hu,v,hv',b⟩:=i5 e
      exact⟨u,hmem hu,v,hmem hv',b⟩
    ·refine W.condT (by simpa using h1) ?_
     repeat' with_reducible refine W.ret ?_
     rw[wm];dsimp only;refine⟨rfl,by omega,by omega,⟨fun e=>by omega,fun e=>absurd e hn0⟩,fun e=>by omega,fun e=>?_⟩;by_cases hm1:many=1
     ·obtain⟨b1,b2,b3⟩:=i4 hm1
      exact⟨left,hmem b1,a,hmea,fun e=>h1 e.symm,b2,ha2⟩
     ·obtain⟨u,hu,v,hv',b⟩:=i5 (by omega)
      exact⟨u,hmem hu,v,hmem hv',b⟩
  clear hne2
  rcases y1q_ hv a with ea|ea|ea
  ·refine W.condF (by rw[ea];rfl) ?_
   repeat' (with_reducible refine W.bind ?_)
   refine W.condF (by rw[ea];rfl) ?_;have hww:W (cond (worth==2) (some 0) (some worth)) fun w'=>(w'=0\/w'=1)/\(w'=1↔worth=1):=by
    clear cnt i1 i2 i3 i4 i5 hall hex
    (with_reducible refine W.cnd (fun hq=>?_) (fun hq=>?_)<;>(try simp only[qq,Kd.ty]at hq)<;>(try (exfalso;omega)))
    ·repeat' with_reducible refine W.ret ?_
     subst hq;simp
    ·repeat' with_reducible refine W.ret ?_
     exact⟨hw.elim .inl fun e=>e.elim .inr fun e=>absurd e hq,Iff.rfl⟩
   refine W.mono hww fun w' hw'=>?_;refine W.mono (cnt (by rw[ea];decide) w' hw'.1 (by rw[hw'.2,i2];exact⟨.inl,fun e=>e.resolve_right (by rw[ea];decide)⟩)) fun r hr=>?_;obtain⟨r1,r2,r3⟩:=r;obtain⟨e1,e2,e3,e4,e5,e6⟩:=hr;dsimp only at e1 e2 e3 e4 e5 e6⊢;subst e1
   repeat' (with_reducible refine W.nextP ?_)
   dsimp only;refine⟨by omega,sk,e2,e3,by rcases hw'.1 with e|e<;>simp[e],?_,?_,e4,e5,e6⟩
   ·rw[hall]
    exact⟨fun e=>(by rcases hw'.1 with e'|e'<;>rw[e']at e<;>cases e),fun e=>(by rw[ea]at e;exact absurd e.2 (by decide))⟩
   ·rw[hex,hw'.2,i2];exact⟨.inl,fun e=>e.resolve_right (by rw[ea];decide)⟩
  ·refine W.condF (by rw[ea];rfl) ?_
   repeat' (with_reducible refine W.bind ?_)
   refine W.condT (by rw[ea];rfl) ?_
   repeat' with_reducible first|refine W.ret ?_|refine W.bind ?_
   refine W.mono (W.ub (cnt (by rw[ea];decide) 1 (.inr rfl) ⟨fun _=>.inr ea,fun _=>rfl⟩)) fun r hr=>?_
   skip
   refine W.mono hr fun r hr=>?_;obtain⟨r1,r2,r3⟩:=r;obtain⟨e1,e2,e3,e4,e5,e6⟩:=hr;dsimp only at e1 e2 e3 e4 e5 e6⊢;subst e1
   repeat' (with_reducible refine W.nextP ?_)
   dsimp only;refine⟨by omega,sk,e2,e3,by simp,?_,?_,e4,e5,e6⟩
   ·rw[hall]
    exact⟨fun e=>(by cases e),fun e=>(by rw[ea]at e;exact absurd e.2 (by decide))⟩
   ·rw[hex];exact⟨fun _=>.inr ea,fun _=>rfl⟩
  ·refine W.condT (by rw[ea];rfl) ?_
   repeat' with_reducible first|refine W.nextP ?_|refine W.ret ?_
   dsimp only;refine⟨by omega,sk,hm0,by omega,hw,?_,?_,?_,fun e=>?_,fun e=>?_⟩
   ·rw[hall];exact⟨fun e=>⟨i1.1 e,ea⟩,fun e=>i1.2 e.1⟩
   ·rw[hex];exact⟨fun e=>.inl (i2.1 e),fun e=>i2.2 (e.resolve_right (by omega))⟩
   ·rw[hall];exact⟨fun e=>⟨i3.1 e,ea⟩,fun e=>i3.2 e.1⟩
   ·obtain⟨b1,b2,b3⟩:=i4 e
    refine⟨hmem b1,b2,fun k hk hk2=>?_⟩;rw[ht]at hk;rcases List.mem_append.1 hk with hk|hk
    ·exact b3 k hk hk2
    ·simp at hk;subst hk;exact absurd ea hk2
   ·obtain⟨u,hu,v,hv',b⟩:=i5 e
    exact⟨u,hmem hu,v,hmem hv',b⟩
 ·repeat' with_reducible first|refine W.stopP ?_|refine W.bind ?_
  rw[List.take_of_length_le (by omega)]at i1 i2 i3 i4 i5;have hz:∀k∈c,k≠0:=fun k hk=>(hin k hk).2;by_cases hq:many=1/\worth=0
  ·obtain⟨b1,b2,b3⟩:=i4 hq.1
   refine W.condF (by simp[hq.1]) ?_
   repeat' with_reducible first|refine W.ret ?_|refine W.bind ?_
   refine W.condF (by simp[hq.2]) ?_
   repeat' with_reducible refine W.ret ?_
   dsimp only;refine⟨i1,fun _ _=>⟨b1,?_,fun k hk hne=>Classical.byContradiction fun h2=>hne (b3 k hk h2)⟩,fun _ e=>absurd e (hz _ b1)⟩;rcases y1q_ hv left with e|e|e
   ·exact e
   ·have:worth=1:=i2.2 ⟨left,b1,e⟩
    omega
   ·exact absurd e b2
  ·have hor:W ((cond (many != 1) (some true) (some (worth != 0)))) fun r=>r=true:=by
    by_cases hm1:many=1
    ·refine W.condF (by simp[hm1]) ?_
     repeat' with_reducible refine W.ret ?_
     simpa using fun e=>hq ⟨hm1,e⟩
    ·refine W.condT (by simpa using hm1) ?_
     repeat' with_reducible refine W.ret ?_
     rfl
   refine W.mono hor fun r hr=>?_;subst hr
   repeat' (with_reducible refine W.bind ?_)
   refine W.condT rfl ?_
   repeat' with_reducible refine W.ret ?_
   dsimp only;refine⟨i1,fun _ e=>absurd rfl e,fun hn2 _=>?_⟩;rcases hw with e|e|e
   ·have hm0':many≠0:=fun e=>hn2 (i1.2 (i3.1 e))
    have:many≠1:=fun e'=>hq ⟨e',e⟩;exact .inr (i5 (by omega))
   ·exact .inl (i2.1 e)
   ·exact absurd e hn2
end
section
open Go
theorem W.loopI{X Y:Type}{f:X->Heap->Option ((X⊕Y)×Heap)}{Q:Y×Heap->Prop}(Inv:Nat->X->Heap->Prop){m:Nat}{x:X}{σ:Heap}(h0:Inv m x σ)
  (step:∀m x σ,Inv m x σ->W (f x σ) (LQ (fun x' σ'=>∃m',m'<m/\Inv m' x' σ') Q)):W (loopW f x σ) Q:=by
 induction m using Nat.strongRecOn generalizing x σ with
 | ind m ih=>
  obtain⟨⟨r,τ⟩,e,hr⟩:=step m x σ h0;cases r with
  |inl x'=>
   obtain⟨m',hm,h'⟩:=hr;obtain⟨z,h3,h4⟩:=ih m' hm h';exact⟨z,y64_ e h3,h4⟩
  |inr y=>exact⟨_,y2v_ e,hr⟩
abbrev Tg:=Nat->Nat
abbrev Tz:Tg:=fun _=>0
def Tg.upd(T:Tg)(l t:Nat):Tg:=fun k=>if k=l then t else T k
def Heap.at(σ:Heap)(T:Tg)(i:Nat):Heap:=⟨σ.next,fun k=>if T k=i then σ.get k else none⟩
structure Tn(σ:Heap)(T:Tg):Prop where
 z:∀k,σ.next<=k->T k=0
section
variable{σ τ υ:Heap}{T T' T2:Tg}{i j k l t:Nat}{o:AObj}{I J:Nat->Bool}{cs:List AVal}
theorem y1g_:(σ.at T i).get k=some o↔T k=i/\σ.get k=some o:=by
 simp only[Heap.at];split<;>simp[*]
theorem at_of(h1:T k=i)(h2:σ.get k=some o):(σ.at T i).get k=some o:=y1g_.2 ⟨h1,h2⟩
theorem at_le:Hle (σ.at T i) σ:=⟨Nat.le_refl _,fun k o _ h=>(y1g_.1 h).2⟩
theorem at_tz:σ.at Tz 0=σ:=by simp[Heap.at]
theorem Hle.ats(L:Hle σ τ)(T:Tg)(i:Nat):Hle (σ.at T i) (τ.at T i):=⟨L.next,fun k o hk h=>at_of (y1g_.1 h).1 (L.get k o hk (y1g_.1 h).2)⟩
theorem Tn.mono(h:Tn σ T)(L:Hle σ τ):Tn τ T:=⟨fun k hk=>h.z k (Nat.le_trans L.next hk)⟩
theorem Tn.tz:Tn σ Tz:=⟨fun _ _=>rfl⟩
theorem y16_:T.upd l t l=t:=if_pos rfl
theorem y1e_(h:k≠l):T.upd l t k=T k:=if_neg h
structure Hop(I:Nat->Bool)(σ:Heap)(T:Tg)(τ:Heap)(T':Tg):Prop where
 next:σ.next<=τ.next
 tn:Tn τ T'
 tag:∀k,k<σ.next->I (T k)=false->T' k=T k
 get:∀k o,k<σ.next->I (T k)=false->σ.get k=some o->τ.get k=some o
abbrev only(t:Nat):Nat->Bool:=fun j=>j==t
theorem Hop.le(h:Hop I σ T τ T')(hj:I j=false):Hle (σ.at T j) (τ.at T' j):=⟨h.next,fun k o hk hg=>by
 obtain⟨rfl,h2⟩:=y1g_.1 hg;exact at_of (h.tag k hk hj) (h.get k o hk hj h2)⟩
theorem Hop.refl(hn:Tn σ T):Hop I σ T σ T:=⟨Nat.le_refl _,hn,fun _ _ _=>rfl,fun _ _ _ _ h=>h⟩
theorem Hop.trans(h:Hop I σ T τ T')(k:Hop I τ T' υ T2):Hop I σ T υ T2:=⟨Nat.le_trans h.next k.next,k.tn,fun j hj hI=>by
  have e:=h.tag j hj hI;rw[k.tag j (Nat.lt_of_lt_of_le hj h.next) (by rw[e];exact hI),e],fun j o hj hI hg=>by
  have e:=h.tag j hj hI;exact k.get j o (Nat.lt_of_lt_of_le hj h.next) (by rw[e];exact hI) (h.get j o hj hI hg)⟩
theorem Hop.sub(h:Hop I σ T τ T')(k:∀i,I i=true->J i=true):Hop J σ T τ T':=by
 have key:∀i,J i=false->I i=false:=fun i hi=>by
  cases e:I i
  ·rfl
  ·rw[k i e]at hi;cases hi
 exact⟨h.next,h.tn,fun j hj hJ=>h.tag j hj (key _ hJ),fun j o hj hJ=>h.get j o hj (key _ hJ)⟩
theorem Hop.of(hn:Tn σ T)(L:Hle σ τ):Hop I σ T τ T:=⟨L.next,hn.mono L,fun _ _ _=>rfl,fun k o hk _ h=>L.get k o hk h⟩
theorem y3d_(hn:Tn σ T)(hl:T l=t):Hop (only t) σ T (σ.set l o) T:=⟨Nat.le_refl _,⟨hn.z⟩,fun _ _ _=>rfl,fun k x _ hI hg=>by
 rw[y35_,if_neg (fun e=>by subst e;simp[only,hl]at hI)];exact hg⟩
theorem ygu_(hn:Tn σ T)(hl:T l=t):Hop (only t) σ T (σ.kill l) T:=⟨Nat.le_refl _,⟨hn.z⟩,fun _ _ _=>rfl,fun k x _ hI hg=>by
 rw[ys_,if_neg (fun e=>by subst e;simp[only,hl]at hI)];exact hg⟩
theorem y2r_(hn:Tn σ T):Hop (only t) σ T (σ.new o) (T.upd σ.next t):=⟨Nat.le_succ _,⟨fun k hk=>by
  have hk:σ.next+1<=k:=hk;rw[y1e_ (by omega)];exact hn.z k (by omega)⟩,fun k hk _=>y1e_ (by omega),fun k x hk _ hg=>by rw[yl_,if_neg (by omega)];exact hg⟩
end
theorem y4s_(τ:Heap)(l:Nat)(o:AObj):(τ.set l o).get l=some o:=by rw[y35_,if_pos rfl]
theorem win{cs ds:List AVal}{a b n:Nat}(h:∀q,q<n->cs[a+q]?=ds[b+q]?):(cs.drop a).take n=(ds.drop b).take n:=by
 apply List.ext_getElem? fun q=>?_;by_cases hq:q<n
 ·rw[List.getElem?_take_of_lt hq,List.getElem?_take_of_lt hq,List.getElem?_drop,List.getElem?_drop];exact h q hq
 ·rw[List.getElem?_eq_none (by simp;omega),List.getElem?_eq_none (by simp;omega)]
theorem y2t_{i n s:Nat}(h:i<n):i*s+s<=n*s:=by rw[<-Nat.succ_mul];exact Nat.mul_le_mul_right _ h
section
variable{α β:Type}{v:Vw α}{σ τ:Heap}{T T':Tg}{t i:Nat}{xs ys:List α}{x y:AVal}{a:α}
def Own(v:Vw α)(σ:Heap)(xs:List α)(x:AVal):Prop:=(x=.nils/\xs=[])\/∃l off c cs,x=.sl l off xs.length c/\l<σ.next/\σ.get l=some (.cells .rw v.sz cs) /\
 (∀k,c=some k->(off+k)*v.sz<=cs.length)/\(off+xs.length)*v.sz<=cs.length/\∀i a,xs[i]?=some a->v.rel σ a ((cs.drop ((off+i)*v.sz)).take v.sz)
theorem Own.sl(h:Own v σ xs x):SlV v σ xs x:=by
 rcases h with h|⟨l,off,c,cs,h1,h2,h3,_,h4,h5⟩
 ·exact .inl h
 ·exact .inr ⟨l,off,c,.rw,cs,h1,h2,h3,h4,h5⟩
theorem Own.mono(h:Own v σ xs x)(L:Hle σ τ):Own v τ xs x:=by
 rcases h with h|⟨l,off,c,cs,h1,h2,h3,h6,h4,h5⟩
 ·exact .inl h
 ·exact .inr ⟨l,off,c,cs,h1,Nat.lt_of_lt_of_le h2 L.next,L.get _ _ h2 h3,h6,h4,fun i a ha=>v.mono L (h5 i a ha)⟩
theorem Own.slT(h:Own v (σ.at T t) xs x):SlV v σ xs x:=h.sl.mono at_le
theorem SlV.up(h:SlV v (σ.at T t) xs x):SlV v σ xs x:=h.mono at_le
theorem Own.nil:Own v σ [] .nils:=.inl ⟨rfl,rfl⟩
theorem Own.app(hf:v.Flat)(h:Own v (σ.at T t) xs x)(hn:Tn σ T){ds:List AVal}(hd:ds.length=ys.length*v.sz)(hr:∀i a,ys[i]?=some a->v.rel σ a ((ds.drop (i*v.sz)).take v.sz)){bytes:Nat}
  (hb:(xs.length+ys.length)*bytes<=70368744177664) (hb':xs.length+ys.length<=70368744177664) :
  ∃x' τ T',(∀{R:Type} (K:AVal->Heap->Option R),appC σ v.sz bytes x ds ys.length K=K x' τ)/\Own v (τ.at T' t) (xs++ys) x'/\Hop (only t) σ T τ T':=by
 by_cases h0:ys.length=0
 ·have:ys=[]:=List.eq_nil_of_length_eq_zero h0
  subst this;rw[List.append_nil];refine⟨x,σ,T,fun K=>?_,h,Hop.refl hn⟩;rcases h with ⟨rfl,rfl⟩|⟨l,off,c,cs,rfl,h2,h3,h6,h4,h5⟩
  ·rfl
  ·simp only[appC,(y1g_.1 h3).2]
   rw[if_pos ⟨trivial,v.pos,h4⟩,if_pos (by rfl)]
 have hfresh:∀(σ':Heap) (hn':Tn σ' T) (es:List AVal),es.length=xs.length*v.sz->(∀i a,xs[i]?=some a->v.rel σ a ((es.drop (i*v.sz)).take v.sz)) ->
   Own v ((σ'.new (.cells .rw v.sz (es++ds))).at (T.upd σ'.next t) t) (xs++ys) (.sl σ'.next 0 (xs.length+ys.length) none):=fun σ' hn' es he hes=>by
  refine .inr ⟨σ'.next,0,none,es++ds,by simp,Nat.lt_succ_self _,at_of y16_ (by rw[yl_,if_pos rfl]),(fun k e=>by cases e),by simp[he,hd,Nat.add_mul],fun i a hi=>?_⟩;rw[Nat.zero_add];by_cases hlt:i<xs.length
  ·rw[List.getElem?_append_left hlt]at hi
   have:=y2t_ (s:=v.sz) hlt;refine hf σ _ _ _ ?_;rw[win (ds:=es) (b:=i*v.sz) fun q hq=>List.getElem?_append_left (by omega)];exact hes i a hi
  ·rw[List.getElem?_append_right (by omega)]at hi
   refine hf σ _ _ _ ?_;have e:i*v.sz=xs.length*v.sz+(i-xs.length)*v.sz:=by rw[<-Nat.add_mul];congr 1;omega
   rw[win (ds:=ds) (b:=(i-xs.length)*v.sz) fun q hq=>by rw[List.getElem?_append_right (by omega)];congr 1;omega];exact hr _ a hi
 rcases h with ⟨rfl,rfl⟩|⟨l,off,c,cs,rfl,h2,h3,h6,h4,h5⟩
 ·simp only[List.length_nil,Nat.zero_add]at hb hb'
  have:=hfresh σ hn [] (by simp) (fun i a hi=>by simp at hi);simp only[List.nil_append,List.length_nil,Nat.zero_add]at this;exact⟨_,_,_,fun K=>by simp only[appC];rw[if_neg h0,if_pos ⟨hb,hb'⟩];rfl,this,y2r_ hn⟩
 obtain⟨hTl,hg⟩:=y1g_.1 h3;have hroom:(off+xs.length+ys.length)*v.sz<=cs.length->Own v ((σ.set l (.cells .rw v.sz (cs.take ((off+xs.length)*v.sz)++ds++cs.drop ((off+xs.length+ys.length)*v.sz)))).at T t) (xs++ys) (.sl l off (xs.length+ys.length) c):=fun hroom=>by
  have hA:(off+xs.length+ys.length)*v.sz=(off+xs.length)*v.sz+ys.length*v.sz:=Nat.add_mul ..;have hlen:(cs.take ((off+xs.length)*v.sz)++ds++cs.drop ((off+xs.length+ys.length)*v.sz)).length=cs.length:=by
   simp only[List.length_append,List.length_take,List.length_drop];omega
  refine .inr ⟨l,off,c,_,by simp,h2,at_of hTl (y4s_ ..),(fun k e=>by rw[hlen];exact h6 k e),by rw[hlen,List.length_append];simpa[Nat.add_assoc]using hroom,fun i a hi=>?_⟩;by_cases hlt:i<xs.length
  ·rw[List.getElem?_append_left hlt]at hi
   have:=y2t_ (s:=v.sz) (show off+i<off+xs.length by omega);refine hf (σ.at T t) _ _ _ ?_;rw[win (ds:=cs) (b:=(off+i)*v.sz) fun q hq=>by
    rw[List.append_assoc,List.getElem?_append_left (by simp only[List.length_take];omega),List.getElem?_take_of_lt (by omega)]]
   exact h5 i a hi
  ·rw[List.getElem?_append_right (by omega)]at hi
   have hlt2:=(List.getElem?_eq_some_iff.1 hi).1;have:=y2t_ (s:=v.sz) hlt2;refine hf σ _ _ _ ?_;have e:(off+i)*v.sz=(off+xs.length)*v.sz+(i-xs.length)*v.sz:=by rw[<-Nat.add_mul];congr 1;omega
   rw[win (ds:=ds) (b:=(i-xs.length)*v.sz) fun q hq=>by
    rw[List.append_assoc,List.getElem?_append_right (by simp only[List.length_take];omega),List.getElem?_append_left (by simp only[List.length_take];omega)]
    congr 1;simp only[List.length_take];omega]
   exact hr _ a hi
 have hfr:∀(σ':Heap) (hn':Tn σ' T),Own v ((σ'.new (.cells .rw v.sz ((cs.drop (off*v.sz)).take (xs.length*v.sz)++ds))).at (T.upd σ'.next t) t) (xs++ys) (.sl σ'.next 0 (xs.length+ys.length) none):=fun σ' hn'=>by
  have e:(off+xs.length)*v.sz=off*v.sz+xs.length*v.sz:=Nat.add_mul ..;refine hfresh σ' hn' _ (by simp only[List.length_take,List.length_drop];omega) fun i a hi=>?_;have hlt:=(List.getElem?_eq_some_iff.1 hi).1;have:=y2t_ (s:=v.sz) hlt;have e2:(off+i)*v.sz=off*v.sz+i*v.sz:=Nat.add_mul ..;refine hf (σ.at T t) _ _ _ ?_;rw[win (ds:=cs) (b:=(off+i)*v.sz) fun q hq=>by
   rw[List.getElem?_take_of_lt (by omega),List.getElem?_drop];congr 1;omega]
  exact h5 i a hi
 cases c with
 | some k=>
  by_cases hk:xs.length+ys.length<=k
  ·have:=h6 k rfl
   have h7:(off+xs.length+ys.length)*v.sz<=(off+k)*v.sz:=Nat.mul_le_mul_right _ (by omega);refine⟨_,_,T,fun K=>?_,hroom (by omega),y3d_ hn hTl⟩;simp only[appC,hg];rw[if_pos ⟨trivial,v.pos,h4⟩,if_neg h0,if_pos ⟨hb,hb'⟩];simp only[hk,if_true];rw[if_pos ⟨trivial,by omega⟩]
  ·refine⟨_,_,_,fun K=>?_,hfr σ hn,y2r_ hn⟩
   simp only[appC,hg];rw[if_pos ⟨trivial,v.pos,h4⟩,if_neg h0,if_pos ⟨hb,hb'⟩];simp only[if_neg hk];rfl
 | none=>
  by_cases hr2:(off+xs.length+ys.length)*v.sz<=cs.length
  ·refine⟨_,_,T,fun K=>?_,hroom hr2,y3d_ hn hTl⟩
   simp only[appC,hg];rw[if_pos ⟨trivial,v.pos,h4⟩,if_neg h0,if_pos ⟨hb,hb'⟩];simp only[if_true,if_pos hr2]
  ·have hn':Tn (σ.kill l) T:=⟨hn.z⟩
   refine⟨_,_,_,fun K=>?_,hfr (σ.kill l) hn',(ygu_ hn hTl).trans (y2r_ hn')⟩;simp only[appC,hg];rw[if_pos ⟨trivial,v.pos,h4⟩,if_neg h0,if_pos ⟨hb,hb'⟩];simp only[if_true,if_neg hr2];rfl
def ptrK(x:AVal)(sz i k:Nat):AVal:=match x with
 | .sl l off _ _=>.ptr l ((off+i)*sz+k)
 |_=>.nilp
theorem Own.store(hf:v.Flat)(h:Own v (σ.at T t) xs x)(hn:Tn σ T)(hi:xs[i]?=some a){k:Nat}{as0 vs:List AVal}{a':α}(hk:k+vs.length<=v.sz)(hra:v.rel σ a as0->v.rel σ a' (as0.take k++vs++as0.drop (k+vs.length)))
  (has:∀bs,v.rel σ a bs->bs=as0):∃τ,(∀{R:Type} (K:Heap->Option R),stC σ (ptrK x v.sz i k) vs K=K τ)/\Own v (τ.at T t) (xs.set i a') x/\Hop (only t) σ T τ T/\τ.next=σ.next:=by
 rcases h with ⟨rfl,rfl⟩|⟨l,off,c,cs,rfl,h2,h3,h6,h4,h5⟩
 ·simp at hi
 ·obtain⟨hTl,hg⟩:=y1g_.1 h3
  have hlt:=(List.getElem?_eq_some_iff.1 hi).1;have e:=y2t_ (s:=v.sz) (show off+i<off+xs.length by omega);have hr:=hf _ σ _ _ (h5 i a hi);have hea:=has _ hr;have hlen:(cs.take ((off+i)*v.sz+k)++vs++cs.drop ((off+i)*v.sz+k+vs.length)).length=cs.length:=by
   simp only[List.length_append,List.length_take,List.length_drop];omega
  refine⟨σ.set l (.cells .rw v.sz (cs.take ((off+i)*v.sz+k)++vs++cs.drop ((off+i)*v.sz+k+vs.length))),fun K=>?_,.inr ⟨l,off,c,_,by simp,h2,at_of hTl (y4s_ ..),(fun k e=>by rw[hlen];exact h6 k e),by rw[hlen,List.length_set];exact h4,fun j b hj=>?_⟩,y3d_ hn hTl,rfl⟩
  ·simp only[ptrK,stC,hg]
   rw[if_pos (by omega)]
  ·rw[List.getElem?_set]at hj
   by_cases hij:i=j
   ·subst hij
    rw[if_pos rfl,if_pos hlt]at hj;cases hj;refine hf σ _ _ _ ?_;subst hea;have:((cs.take ((off+i)*v.sz+k)++vs++cs.drop ((off+i)*v.sz+k+vs.length)).drop ((off+i)*v.sz)).take v.sz=((cs.drop ((off+i)*v.sz)).take v.sz).take k++vs++((cs.drop ((off+i)*v.sz)).take v.sz).drop (k+vs.length):=by
     apply List.ext_getElem? fun q=>?_;by_cases q1:q<v.sz
     ·rw[List.getElem?_take_of_lt q1,List.getElem?_drop]
      by_cases q2:q<k
      ·rw[List.append_assoc,List.append_assoc,List.getElem?_append_left (by simp;omega),List.getElem?_append_left (by simp;omega),List.getElem?_take_of_lt (by omega),List.getElem?_take_of_lt q2,List.getElem?_take_of_lt q1,List.getElem?_drop]
      ·by_cases q3:q<k+vs.length
       ·rw[List.getElem?_append_left (by simp;omega),List.getElem?_append_right (by simp;omega),List.getElem?_append_left (by simp;omega),List.getElem?_append_right (by simp;omega)]
        congr 1;simp;omega
       ·rw[List.getElem?_append_right (by simp;omega),List.getElem?_append_right (by simp;omega),List.getElem?_drop,List.getElem?_drop,List.getElem?_take_of_lt (by simp;omega),List.getElem?_drop]
        congr 1;simp;omega
     ·rw[List.getElem?_eq_none (by simp;omega),List.getElem?_eq_none (by simp;omega)]
    rw[this];exact hra hr
   ·rw[if_neg hij]at hj
    have hjl:=(List.getElem?_eq_some_iff.1 hj).1;have e2:=y2t_ (s:=v.sz) (show off+j<off+xs.length by omega);refine hf (σ.at T t) _ _ _ ?_;rw[win (ds:=cs) (b:=(off+j)*v.sz) fun q hq=>?_]
    ·exact h5 j b hj
    ·rcases Nat.lt_or_gt_of_ne hij with hlt'|hgt
     ·have e3:=y2t_ (s:=v.sz) (show off+i<off+j by omega)
      rw[List.getElem?_append_right (by simp only[List.length_append,List.length_take];omega),List.getElem?_drop]
      congr 1;simp only[List.length_append,List.length_take];omega
     ·have e3:=y2t_ (s:=v.sz) (show off+j<off+i by omega)
      rw[List.append_assoc,List.getElem?_append_left (by simp only[List.length_take];omega),List.getElem?_take_of_lt (by omega)]
theorem SlV.slice(h:SlV v σ xs x){lo hi:Nat}(h1:lo<=hi)(h2:hi<=xs.length):∃x',(∀{τ:Heap},Hle σ τ->∀{R:Type} (K:AVal->Option R),slS τ v.sz x (lo:Int) (some (hi:Int)) none K=K x'/\(hi=xs.length->slS τ v.sz x (lo:Int) none none K=K x'))/\SlV v σ ((xs.take hi).drop lo) x':=by
 rcases h with ⟨rfl,rfl⟩|⟨l,off,c,md,cs,rfl,k2,k3,k4,k5⟩
 ·simp at h2
  obtain rfl:lo=0:=by omega
  subst h2;exact⟨.nils,fun L _ K=>⟨by simp[slS],fun _=>by simp[slS]⟩,.inl ⟨rfl,rfl⟩⟩
 ·refine⟨.sl l (off+lo) (hi-lo) (yz_ none c lo),fun {τ} L R K=>⟨?_,fun e=>?_⟩,.inr ⟨l,off+lo,_,md,cs,by rw[List.length_drop,List.length_take,Nat.min_eq_left h2],k2,k3,?_,fun i a ha=>?_⟩⟩
  ·simp only[slS,L.get _ _ k2 k3]
   rw[if_pos ⟨trivial,by omega,by simp;omega,by simp;omega,by simp,by simp⟩];simp
  ·subst e
   simp only[slS,L.get _ _ k2 k3];rw[if_pos ⟨trivial,by omega,by simp;omega,by simp,by simp,by simp⟩];simp
  ·have h8:(off+lo+((xs.take hi).drop lo).length)*v.sz<=(off+xs.length)*v.sz:=Nat.mul_le_mul_right _ (by simp;omega)
   omega
  ·rw[List.getElem?_drop,List.getElem?_take]at ha
   split at ha
   ·have:=k5 _ _ ha
    rwa [<-Nat.add_assoc]at this
   ·cases ha
theorem Own.slice(h:Own v σ xs x){lo hi:Nat}(h1:lo<=hi)(h2:hi<=xs.length):∃x',(∀{τ:Heap},Hle σ τ->∀{R:Type} (K:AVal->Option R),slS τ v.sz x (lo:Int) (some (hi:Int)) none K=K x'/\(hi=xs.length->slS τ v.sz x (lo:Int) none none K=K x'))/\Own v σ ((xs.take hi).drop lo) x':=by
 rcases h with ⟨rfl,rfl⟩|⟨l,off,c,cs,rfl,k2,k3,k6,k4,k5⟩
 ·simp at h2
  obtain rfl:lo=0:=by omega
  subst h2;exact⟨.nils,fun L _ K=>⟨by simp[slS],fun _=>by simp[slS]⟩,.inl ⟨rfl,rfl⟩⟩
 ·refine⟨.sl l (off+lo) (hi-lo) (yz_ none c lo),fun {τ} L R K=>⟨?_,fun e=>?_⟩,.inr ⟨l,off+lo,_,cs,by rw[List.length_drop,List.length_take,Nat.min_eq_left h2],k2,k3,fun k e=>?_,?_,fun i a ha=>?_⟩⟩
  ·simp only[slS,L.get _ _ k2 k3]
   rw[if_pos ⟨trivial,by omega,by simp;omega,by simp;omega,by simp,by simp⟩];simp
  ·subst e
   simp only[slS,L.get _ _ k2 k3];rw[if_pos ⟨trivial,by omega,by simp;omega,by simp,by simp,by simp⟩];simp
  ·cases c with
   |none=>simp[yz_]at e
   | some m=>
    simp[yz_]at e;have:=k6 m rfl;by_cases hm:lo<=m
    ·rw[show off+lo+k=off+m by omega];exact this
    ·have h8:(off+lo+k)*v.sz<=(off+xs.length)*v.sz:=Nat.mul_le_mul_right _ (by omega)
     omega
  ·have h8:(off+lo+((xs.take hi).drop lo).length)*v.sz<=(off+xs.length)*v.sz:=Nat.mul_le_mul_right _ (by simp;omega)
   omega
  ·rw[List.getElem?_drop,List.getElem?_take]at ha
   split at ha
   ·have:=k5 _ _ ha
    rwa [<-Nat.add_assoc]at this
   ·cases ha
end
section
variable{α:Type}{v:Vw α}{σ τ:Heap}{T T':Tg}{t l:Nat}{xs:List α}{x:AVal}{cs:List AVal}{I:Nat->Bool}{ps:List (Int×AVal)}
theorem Loc.hop(h:Loc (σ.at T t) l cs)(H:Hop I σ T τ T')(hI:I t=false:=by rfl):Loc (τ.at T' t) l cs:=h.mono (H.le hI)
theorem Own.hop(h:Own v (σ.at T t) xs x)(H:Hop I σ T τ T')(hI:I t=false:=by rfl):Own v (τ.at T' t) xs x:=h.mono (H.le hI)
theorem SlV.hop(h:SlV v (σ.at T t) xs x)(H:Hop I σ T τ T')(hI:I t=false:=by rfl):SlV v (τ.at T' t) xs x:=h.mono (H.le hI)
theorem MapV.hop(h:MapV (σ.at T t) l ps)(H:Hop I σ T τ T')(hI:I t=false:=by rfl):MapV (τ.at T' t) l ps:=h.mono (H.le hI)
theorem Hop.hop{J:Nat->Bool}{σ0:Heap}{T0:Tg}(h:Hop J σ0 T0 σ T)(H:Hop I σ T τ T')(hI:∀i,I i=true->J i=true:=by intro i hi;simp at hi⊢;omega):Hop J σ0 T0 τ T':=h.trans (H.sub hI)
theorem Hop.hle{J:Nat->Bool}{σ0:Heap}{T0:Tg}(h:Hop J σ0 T0 σ T)(L:Hle σ τ):Hop J σ0 T0 τ T:=h.trans (Hop.of h.tn L)
theorem Loc.hle(h:Loc (σ.at T t) l cs)(L:Hle σ τ):Loc (τ.at T t) l cs:=h.mono (L.ats T t)
theorem Own.hle(h:Own v (σ.at T t) xs x)(L:Hle σ τ):Own v (τ.at T t) xs x:=h.mono (L.ats T t)
theorem SlV.hle(h:SlV v (σ.at T t) xs x)(L:Hle σ τ):SlV v (τ.at T t) xs x:=h.mono (L.ats T t)
theorem MapV.hle(h:MapV (σ.at T t) l ps)(L:Hle σ τ):MapV (τ.at T t) l ps:=h.mono (L.ats T t)
end
section
variable{R α β:Type}{v:Vw α}{w:Vw β}{σ:Heap}{T:Tg}{t i l:Nat}{xs ys:List α}{x y:AVal}{a:α}{cs:List AVal}{Q:R->Prop}
theorem W.own_push(hf:v.Flat)(h:Own v (σ.at T t) xs x)(hn:Tn σ T)(hr:v.rel σ a cs){sz bytes:Nat}(hb:(xs.length+1)*bytes<=70368744177664)(hb':xs.length+1<=70368744177664){K:AVal->Heap->Option R}
  (c:∀x' τ T',Own v (τ.at T' t) (xs++[a]) x'->Hop (only t) σ T τ T'->W (K x' τ) Q) (hs:sz=v.sz:=by rfl):W (newK σ sz cs fun l τ=>appS τ sz bytes x (.sl l 0 1 none) K) Q:=by
 subst hs;have L1:=(Hle.refl σ).new (.cells .rw v.sz cs);have hc:=v.len hr;obtain⟨x',τ,T',e,h1,h2⟩:=(h.mono (L1.ats T t)).app hf (hn.mono L1) (ds:=cs) (ys:=[a]) (by simpa using hc) (fun i b hb=>by
  match i,hb with
  |0,hb=>
   cases hb;rw[Nat.zero_mul,List.drop_zero,List.take_of_length_le (by omega)];exact v.mono L1 hr
  |i+1,hb=>simp at hb) (bytes:=bytes) (by simpa using hb) (by simpa using hb')
 refine W.to ?_ (c x' τ T' h1 ((Hop.of hn L1).trans h2));rw[<-e K];simp only[newK,appS,srcK,yl_,if_true,List.length_singleton];rw[if_pos ⟨trivial,by simp[hc]⟩];simp[<-hc]
theorem W.own_app(hf:v.Flat)(h:Own v (σ.at T t) xs x)(hn:Tn σ T)(hy:SlV v σ ys y){sz bytes:Nat}(hb:(xs.length+ys.length)*bytes<=70368744177664)(hb':xs.length+ys.length<=70368744177664){K:AVal->Heap->Option R}
  (c:∀x' τ T',Own v (τ.at T' t) (xs++ys) x'->Hop (only t) σ T τ T'->W (K x' τ) Q) (hs:sz=v.sz:=by rfl):W (appS σ sz bytes x y K) Q:=by
 subst hs;obtain⟨ds,e0,hd,hr⟩:=hy.src;obtain⟨x',τ,T',e,h1,h2⟩:=h.app hf hn hd hr (bytes:=bytes) hb hb';refine W.to ?_ (c x' τ T' h1 h2);rw[<-e K];exact e0 _
theorem W.own_set(hf:v.Flat)(h:Own v (σ.at T t) xs x)(hn:Tn σ T)(hi:xs[i]?=some a){k sz:Nat}(as0:List AVal){vs:List AVal}(a':α){K:Heap->Option R}(hk:k+vs.length<=v.sz)
  (has:∀bs,v.rel σ a bs->bs=as0) (hra:v.rel σ a as0->v.rel σ a' (as0.take k++vs++as0.drop (k+vs.length)))
  (c:∀τ,Own v (τ.at T t) (xs.set i a') x->Hop (only t) σ T τ T->τ.next=σ.next->W (K τ) Q) (hs:sz=v.sz:=by rfl):W (stC σ (ptrK x sz i k) vs K) Q:=by
 subst hs;obtain⟨τ,e,h1,h2,h3⟩:=h.store hf hn hi hk hra has;exact W.to (e K) (c τ h1 h2 h3)
theorem W.own_setI{xs:List Int}{a:Int}(h:Own .int (σ.at T t) xs x)(hn:Tn σ T)(hi:i<xs.length){K:Heap->Option R}
  (c:∀τ,Own .int (τ.at T t) (xs.set i a) x->Hop (only t) σ T τ T->τ.next=σ.next->W (K τ) Q):W (stC σ (ptrK x 1 i 0) [.int .i64 a] K) Q:=
 W.own_set Vw.int_flat h hn (List.getElem?_eq_getElem hi) [.int .i64 xs[i]] a (Nat.le_refl _) (fun _ h=>h) (fun _=>rfl) c
theorem W.own_setB{xs:List Bool}{a:Bool}(h:Own .bool (σ.at T t) xs x)(hn:Tn σ T)(hi:i<xs.length){K:Heap->Option R}
  (c:∀τ,Own .bool (τ.at T t) (xs.set i a) x->Hop (only t) σ T τ T->τ.next=σ.next->W (K τ) Q):W (stC σ (ptrK x 1 i 0) [.bool a] K) Q:=
 W.own_set Vw.bool_flat h hn (List.getElem?_eq_getElem hi) [.bool xs[i]] a (Nat.le_refl _) (fun _ h=>h) (fun _=>rfl) c
def vRaw:Vw AVal:=⟨1,fun _ a us=>us=[a],Nat.one_pos,fun h=>by rw[h];rfl,fun _ h=>h⟩
theorem y7d_:vRaw.Flat:=fun _ _ _ _ h=>h
theorem W.own_setV{xs:List AVal}{a:AVal}(h:Own vRaw (σ.at T t) xs x)(hn:Tn σ T)(hi:i<xs.length){K:Heap->Option R}
  (c:∀τ,Own vRaw (τ.at T t) (xs.set i a) x->Hop (only t) σ T τ T->τ.next=σ.next->W (K τ) Q):W (stC σ (ptrK x 1 i 0) [a] K) Q:=
 W.own_set y7d_ h hn (List.getElem?_eq_getElem hi) [xs[i]] a (Nat.le_refl _) (fun _ h=>h) (fun _=>rfl) c
theorem W.ixO(h:SlV v σ xs x)(hi:i<xs.length){sz:Nat}{K:AVal->Option R}(c:W (K (ptrK x sz i 0)) Q)(hs:sz=v.sz:=by rfl):W (ixA σ x sz (i:Int) K) Q:=by
 subst hs;rcases h with ⟨rfl,rfl⟩|⟨l,off,c',md,cs,rfl,h2,h3,h4,h5⟩
 ·simp at hi
 ·refine W.to ?_ c
  simp only[ixA,h3];rw[if_pos ⟨trivial,by omega,by omega⟩,Int.toNat_natCast];rfl
theorem W.fldO(h:SlV v σ xs x)(hi:i<xs.length){sz k j:Nat}{K:AVal->Option R}(c:W (K (ptrK x sz i (k+j))) Q):W (fld (ptrK x sz i k) j K) Q:=by
 rcases h with ⟨rfl,rfl⟩|⟨l,off,c',md,cs,rfl,h2,h3,h4,h5⟩
 ·simp at hi
 ·refine W.to ?_ c
  simp only[fld,ptrK,Nat.add_assoc]
theorem W.ldO(h:SlV v σ xs x)(hi:xs[i]?=some a){sz k:Nat}{u:AVal}{kd:Kd}{K:kd.ty->Option R}(hk:∀as0,v.rel σ a as0->as0[k]?=some u)(c:W (asK kd u K) Q)(hs:sz=v.sz:=by rfl):W (ld σ (ptrK x sz i k) kd K) Q:=by
 subst hs;rcases h with ⟨rfl,rfl⟩|⟨l,off,c',md,cs,rfl,h2,h3,h4,h5⟩
 ·simp at hi
 ·have hr:=h5 i a hi
  have h6:=hk _ hr;have hlt:k<v.sz:=by rw[<-v.len hr];exact(List.getElem?_eq_some_iff.1 h6).1
  rw[List.getElem?_take_of_lt hlt,List.getElem?_drop]at h6;refine W.to ?_ c;simp only[ptrK,ld,Heap.cell,h3,h6]
theorem W.ldGO(h:SlV v σ xs x)(hi:xs[i]?=some a){sz:Nat}{K:AVal->Option R}(as0:List AVal)(hk:∀bs,v.rel σ a bs->bs=as0)(c:W (K (.agg as0)) Q)(hs:sz=v.sz:=by rfl):W (ldG σ (ptrK x sz i 0) sz K) Q:=by
 subst hs;rcases h with ⟨rfl,rfl⟩|⟨l,off,c',md,cs,rfl,h2,h3,h4,h5⟩
 ·simp at hi
 ·have hr:=h5 i a hi
  have:=hk _ hr;have hlt:=(List.getElem?_eq_some_iff.1 hi).1;have:=y2t_ (s:=v.sz) (show off+i<off+xs.length by omega);refine W.to ?_ c;simp only[ptrK,ldG,h3,Nat.add_zero];rw[if_pos (by omega),hk _ hr]
theorem W.ldOV{xs:List AVal}{a:AVal}(h:SlV vRaw σ xs x)(hi:xs[i]?=some a){K:AVal->Option R}(c:W (K a) Q):W (ld σ (ptrK x 1 i 0) .V K) Q:=
 W.ldO h hi (u:=a) (fun as0 h=>by have h:as0=[a]:=h;rw[h];rfl) c
theorem W.ixV{xs:List AVal}{a:AVal}(h:SlV vRaw σ xs x)(hi:xs[i]?=some a){K:AVal->Option R}(c:W (K a) Q):W (ixA σ x 1 (i:Int) fun p=>ld σ p .V K) Q:=
 W.ixO h (List.getElem?_eq_some_iff.1 hi).1 (W.ldOV h hi c)
theorem W.newT(t:Nat)(hn:Tn σ T){sz:Nat}{K:Nat->Heap->Option R}(c:∀l τ T',l=σ.next->Hop (only t) σ T τ T'->Loc (τ.at T' t) l cs->τ.next=σ.next+1->W (K l τ) Q):W (newK σ sz cs K) Q:=
 c σ.next _ (T.upd σ.next t) rfl (y2r_ hn) ⟨Nat.lt_succ_self _,sz,at_of y16_ (by rw[yl_,if_pos rfl])⟩ rfl
theorem W.new0(hn:Tn σ T){sz:Nat}{K:Nat->Heap->Option R}(c:∀l τ,l=σ.next->Hle σ τ->Loc (τ.at T 0) l cs->Tn τ T->W (K l τ) Q):W (newK σ sz cs K) Q:=
 have L:=(Hle.refl σ).new (.cells .rw sz cs)
 c σ.next _ rfl L ⟨Nat.lt_succ_self _,sz,at_of (hn.z _ (Nat.le_refl _)) (by rw[yl_,if_pos rfl])⟩ (hn.mono L)
theorem W.stT{o:Nat}{vs:List AVal}(h:Loc (σ.at T t) l cs)(hn:Tn σ T)(hv:o+vs.length<=cs.length){K:Heap->Option R}(c:∀τ,Hop (only t) σ T τ T->Loc (τ.at T t) l (cs.take o++vs++cs.drop (o+vs.length))->τ.next=σ.next->W (K τ) Q):W (stC σ (.ptr l o) vs K) Q:=by
 obtain⟨sz,e⟩:=h.get;obtain⟨e1,e2⟩:=y1g_.1 e;refine W.to (o':=K (σ.set l (.cells .rw sz (cs.take o++vs++cs.drop (o+vs.length))))) ?_ (c _ (y3d_ hn e1) ⟨h.lt,sz,at_of e1 (y4s_ ..)⟩ rfl);simp only[stC,e2,if_pos hv]
theorem Loc.up(h:Loc (σ.at T t) l cs):Loc σ l cs:=h.mono at_le
theorem W.mgetT{ps:List (Int×AVal)}(h:MapV (σ.at T t) l ps){n:Int}{z:AVal}{K:AVal->Bool->Option R}(c:W (K ((look ps n).getD z) (look ps n).isSome) Q):W (A.mgetZ σ (.map l) .i64 n z K) Q:=W.to ((h.mono at_le).mgetZ z K) c
theorem W.mputT{ps:List (Int×AVal)}(h:MapV (σ.at T t) l ps)(hn:Tn σ T){n:Int}{x:AVal}{K:Heap->Option R}
  (c:∀τ qs,MapV (τ.at T t) l qs->(∀k,look qs k=if k=n then some x else look ps k)->Hop (only t) σ T τ T->τ.next=σ.next->W (K τ) Q):W (mputK σ (.map l) .i64 n x K) Q:=by
 have hg:=y1g_.1 h.get;obtain⟨qs,h1,h2,h3,_⟩:=(h.mono at_le).mput n x;exact W.to (h1 K) (c _ qs ⟨h2.lt,at_of hg.1 h2.get,h2.nodup⟩ h3 (y3d_ hn hg.1) rfl)
theorem W.newMT(t:Nat)(hn:Tn σ T){K:Nat->Heap->Option R}(c:∀l τ T',l=σ.next->Hop (only t) σ T τ T'->MapV (τ.at T' t) l []->τ.next=σ.next+1->W (K l τ) Q):W (A.newM σ K) Q:=
 have h:=MapV.new σ
 c σ.next _ (T.upd σ.next t) rfl (y2r_ hn) ⟨h.lt,at_of y16_ h.get,h.nodup⟩ rfl
end
theorem W.u0{R:Type}{Q:R->Prop}{σ:Heap}{T:Tg}{t l o:Nat}{cs:List AVal}{a:AVal}{kd:Kd}{K:kd.ty->Option R}(c:W (asK kd a K) Q)(h:Loc (σ.at T t) l cs:=by assumption)(hk:cs[o]?=some a:=by with_unfolding_all rfl):W (ld σ (.ptr l o) kd K) Q:=W.ldL h.up hk c
theorem W.u1{R:Type}{Q:R->Prop}{σ:Heap}{T:Tg}{t l o n:Nat}{cs:List AVal}{K:AVal->Option R}(c:W (K (.agg ((cs.drop o).take n))) Q)(h:Loc (σ.at T t) l cs:=by assumption)(hk:Nat.ble (o+n) cs.length=true:=by with_unfolding_all rfl):W (ldG σ (.ptr l o) n K) Q:=W.ldGL h.up (Nat.le_of_ble_eq_true hk) c
theorem W.u2{R:Type}{Q:R->Prop}{σ:Heap}{T:Tg}{t:Nat}{x:AVal}{xs:List Int}{i:Nat}{a:Int}{K:Int->Option R}(c:W (K a) Q)(h:Own .int (σ.at T t) xs x:=by assumption)(ha:xs[i]?=some a:=by assumption):W (ixA σ x 1 (i:Int) fun p=>ld σ p (.I .i64) K) Q:=W.ixIc h.slT ha c
theorem W.u3{R α:Type}{v:Vw α}{Q:R->Prop}{σ:Heap}{T:Tg}{t:Nat}{x:AVal}{xs:List α}{K:Int->Option R}(k:W (K (xs.length:Int)) Q)(h:Own v (σ.at T t) xs x:=by assumption):W (lenV x K) Q:=W.len h.slT k
theorem W.u4{R α:Type}{v:Vw α}{Q:R->Prop}{σ:Heap}{T:Tg}{t:Nat}{x:AVal}{xs:List α}{X:Option R}(k:W X Q)(h:Own v (σ.at T t) xs x:=by assumption):W (scal x X) Q:=W.scalS h.slT k
end
section
open Go
abbrev Cls:=List (Option (List Int))
def lv(cls:Cls):List (List Int):=cls.filterMap id
def clAt(cls:Cls)(id:Nat):Option (List Int):=(cls[id]?).join
def hits(cls:Cls)(p:List Int->Bool)(id:Nat):Bool:=match clAt cls id with
 |some c=>p c
 |none=>false
def idsBy(cls:Cls)(p:List Int->Bool):List Int:=((List.range cls.length).filter (hits cls p)).map fun(n:Nat)=>(n:Int)
def hasP(x:Int):List Int->Bool:=fun c=>decide (x∈c)
def y3m_:List Int->Bool:=fun c=>decide (c.length<2)
theorem y4y_{cls:Cls}{id:Nat}{c:List Int}:clAt cls id=some c↔cls[id]?=some (some c):=by
 unfold clAt;cases h:cls[id]? with
 |none=>simp
 |some o=>simp
theorem y7n_{cls:Cls}{id:Nat}{c:List Int}(h:clAt cls id=some c):id<cls.length:=(List.getElem?_eq_some_iff.1 (y4y_.1 h)).1
theorem ybm_{cls:Cls}{p:List Int->Bool}{id:Nat}:hits cls p id=true↔∃c,clAt cls id=some c/\p c=true:=by
 unfold hits;cases h:clAt cls id<;>simp
theorem y3o_{cls:Cls}{p:List Int->Bool}{z:Int}:z∈idsBy cls p↔∃(id:Nat) (c:List Int),z=(id:Int)/\clAt cls id=some c/\p c=true:=by
 unfold idsBy;simp only[List.mem_map,List.mem_filter,List.mem_range,ybm_];constructor
 ·rintro⟨a,⟨h1,c,h2,h3⟩,rfl⟩;exact⟨a,c,rfl,h2,h3⟩
 ·rintro⟨a,c,rfl,h1,h2⟩;exact⟨a,⟨y7n_ h1,c,h1,h2⟩,rfl⟩
theorem y2b_{cls:Cls}{c:List Int}:c∈lv cls↔∃id,clAt cls id=some c:=by
 unfold lv;simp only[List.mem_filterMap,id];constructor
 ·rintro⟨a,h,rfl⟩
  obtain⟨i,hi,e⟩:=List.getElem_of_mem h;exact⟨i,y4y_.2 (by rw[List.getElem?_eq_getElem hi,e])⟩
 ·rintro⟨i,h⟩;exact⟨some c,List.mem_of_getElem? (y4y_.1 h),rfl⟩
theorem y47_(cls:Cls)(c:List Int):lv (cls++[some c])=lv cls++[c]:=by simp[lv]
theorem y6w_(cls:Cls)(c:List Int)(id:Nat):clAt (cls++[some c]) id=if id=cls.length then some c else clAt cls id:=by
 unfold clAt;by_cases h:id<cls.length
 ·rw[List.getElem?_append_left h,if_neg (by omega)]
 ·by_cases h2:id=cls.length
  ·subst h2;simp
  ·rw[if_neg h2,List.getElem?_eq_none (by simp;omega),List.getElem?_eq_none (by omega)]
theorem y8k_(cls:Cls)(k id:Nat):clAt (cls.set k none) id=if id=k then none else clAt cls id:=by
 unfold clAt;rw[List.getElem?_set];by_cases h:k=id
 ·subst h;rw[if_pos rfl,if_pos rfl];split<;>rfl
 ·rw[if_neg h,if_neg (fun e=>h e.symm)]
theorem y8u_(cls:Cls)(c:List Int)(p:List Int->Bool):idsBy (cls++[some c]) p=idsBy cls p++if p c=true then[(cls.length:Int)] else[]:=by
 unfold idsBy;rw[List.length_append,List.length_singleton,List.range_succ,List.filter_append,List.map_append]
 congr 1
 ·congr 1
  refine List.filter_congr fun i hi=>?_;have:=List.mem_range.1 hi;simp only[hits,y6w_,if_neg (show i≠cls.length by omega)]
 ·have:hits (cls++[some c]) p cls.length=p c:=by simp only[hits,y6w_,if_true]
  cases hp:p c<;>simp[List.filter,this,hp]
theorem yac_(cls:Cls)(k:Nat)(p:List Int->Bool):idsBy (cls.set k none) p=(idsBy cls p).filter fun z => !(z==(k:Int)):=by
 unfold idsBy;rw[List.length_set,List.filter_map,List.filter_filter]
 congr 1
 refine List.filter_congr fun i hi=>?_;simp only[hits,y8k_,Function.comp];by_cases h:i=k
 ·subst h;simp
 ·rw[if_neg h]
  have:((i:Int)==(k:Int))=false:=by simp;omega
  simp[this]
theorem y23_(cls:Cls)(p:List Int->Bool):(idsBy cls p).length<=cls.length:=by
 unfold idsBy;rw[List.length_map];have:=List.length_filter_le (hits cls p) (List.range cls.length);simpa using this
def findC(cls:Cls)(n:List Int):Option Nat:=(List.range cls.length).find? fun id=>decide (clAt cls id=some n)
theorem y5x_{cls:Cls}{n:List Int}{k:Nat}(h:findC cls n=some k):clAt cls k=some n/\∀j,j<k->clAt cls j≠some n:=by
 unfold findC at h;rw[List.find?_range_eq_some]at h;obtain⟨h1,h2,h3⟩:=h;exact⟨by simpa using h1,fun j hj e=>by simpa[e]using h3 j hj⟩
theorem ydx_{cls:Cls}{n:List Int}(h:findC cls n=none):n∉lv cls:=by
 unfold findC at h;rw[List.find?_eq_none]at h;intro hn;obtain⟨id,e⟩:=y2b_.1 hn;exact h id (List.mem_range.2 (y7n_ e)) (by simp[e])
theorem yfv_{cls:Cls}{n:List Int}{p:List Int->Bool}(hp:p n=true):findC cls n=((List.range cls.length).filter (hits cls p)).find? fun id=>decide (clAt cls id=some n):=by
 unfold findC;rw[List.find?_filter]
 congr 1
 funext id
 by_cases h:clAt cls id=some n
 ·simp[h,hits,hp]
 ·simp[h]
theorem lv_del':∀{cls:Cls} {n:List Int} {k:Nat},clAt cls k=some n->(∀j,j<k->clAt cls j≠some n)->lv (cls.set k none)=(lv cls).erase n
 |[],n,k,h,_=>by simp[clAt]at h
 |o::t,n,0,h,_=>by
  have:o=some n:=by simpa[clAt]using h
  subst this;have e:lv (some n::t)=n::lv t:=rfl;rw[e,List.erase_cons_head];rfl
 | o::t,n,k+1,h,hj=>by
  have ih:=lv_del' (cls:=t) (n:=n) (k:=k) (by simpa[clAt]using h) fun j hlt=>by simpa[clAt]using hj (j+1) (by omega)
  cases o with
  |none=>exact ih
  |some c=>
   have hcn:c≠n:=fun e=>hj 0 (by omega) (by subst e;rfl);have e:∀u:Cls,lv (some c::u)=c::lv u:=fun u=>rfl;rw[List.set_cons_succ,e,e,List.erase_cons_tail (by simpa using hcn),ih]
theorem yk2_{cls:Cls}{n:List Int}{k:Nat}(h:findC cls n=some k):lv (cls.set k none)=(lv cls).erase n:=lv_del' (y5x_ h).1 (y5x_ h).2
def y8_(vars:Int)(c:List Int):Prop:=∀l∈c,l≠0/\-vars<=l/\l<=vars
abbrev negs(c:List Int):List Int:=c.map fun l => -l
open Classical in
def impl(vars:Int)(D:List (List Int))(c:List Int):Bool:=decide (y8_ vars c/\Conf D (negs c))
open Classical in
def y1b_(vars:Int)(D:List (List Int))(c:List Int):Bool:=impl vars D c||match c with
 |[]=>false
 |p::_=>decide (y8_ vars c/\∀d∈D,-p∈d->impl vars D (c++d.filter fun x => !(x == -p))=true)
theorem y1h_{vars:Int}{D:List (List Int)}{c:List Int}:impl vars D c=true↔y8_ vars c/\Conf D (negs c):=by
 unfold impl;simp
theorem y1r_{vars:Int}{D:List (List Int)}:y1b_ vars D []=impl vars D []:=by
 unfold y1b_;simp
theorem y1k_{vars:Int}{D:List (List Int)}{p:Int}{t:List Int}:y1b_ vars D (p::t)=true↔impl vars D (p::t)=true\/(y8_ vars (p::t)/\∀d∈D,-p∈d->impl vars D ((p::t)++d.filter fun x => !(x == -p))=true):=by
 unfold y1b_;simp
def mayC(bl:Bool)(vars:Int)(D:List (List Int))(c:List Int):Bool:=bif bl then y1b_ vars D c else impl vars D c
def runD(bl:Bool)(vars:Int):Nat->List (List Int)->List (Bool×List Int)->Nat⊕List (List Int)
 |_,D,[]=>.inr D
 |k,D,(del,c)::t=>bif del then(if normL c∈D then runD bl vars (k+1) (D.erase (normL c)) t else .inl k) else
  bif mayC bl vars D c then runD bl vars (k+1) (D++[normL c]) t else .inl k
def yf_(l:List (Bool×List Int)):List (List Int):=l.map (·.2)
def chkP(l:List (Bool×List Int)):Flt:=if(yf_ l).flatten.length>320000 then some (.limit,none) else((yf_ l).findIdx? (badC 4000)).map fun k=>(.range,some (k:Int))
def maxV(n:Int)(c:List Int):Int:=c.foldl (fun n x=>if(x.natAbs:Int)>n then x.natAbs else n) n
def y5_(n:Int)(l:List (Bool×List Int)):Int:=l.foldl (fun n s=>maxV n s.2) n
def preF(vars:Int)(cs:List (List Int))(l:List (Bool×List Int)):Flt:=match chkC vars cs with
 |some f=>some f
 |none=>chkP l
def yj_(vars:Int)(cs:List (List Int))(l:List (Bool×List Int)):Flt:=match preF vars cs l with
 |some f=>some f
 |none=>match runD true (y5_ vars l) 0 (cs.map normL) l with
  | .inl k=>some (.proof,some (k:Int))
  | .inr D=>bif impl (y5_ vars l) D []then none else some (.proof,none)
end
section
open Go
def tgL(x:Int):Nat:=20+2*x.natAbs+if x<0 then 1 else 0
theorem ydn_{x y:Int}:tgL x=tgL y↔x=y:=by
 unfold tgL;constructor
 ·intro h;split at h<;>split at h<;>omega
 ·intro h;rw[h]
theorem y2z_(x:Int):20<=tgL x:=by unfold tgL;omega
abbrev own0:Nat->Bool:=fun j=>decide (1<=j/\(j<=13\/20<=j))
def AllBy(σ:Heap)(T:Tg)(f:Int->List Int)(ps:List (Int×AVal)):Prop:=∀y,Own .int (σ.at T (tgL y)) (f y) ((look ps y).getD .nils)
def AllCl(σ:Heap)(T:Tg)(cls:Cls)(cv:List AVal):Prop:=∀id c,clAt cls id=some c->∃x,cv[id]?=some x/\SlV .int (σ.at T 0) c x
section
variable{σ τ:Heap}{T T':Tg}{I:Nat->Bool}{f:Int->List Int}{ps:List (Int×AVal)}{cls:Cls}{cv:List AVal}
theorem AllBy.hop(h:AllBy σ T f ps)(H:Hop I σ T τ T')(hI:∀t,20<=t->I t=false:=by intro t ht;simp;omega):AllBy τ T' f ps:=fun y=>(h y).hop H (hI _ (y2z_ y))
theorem AllBy.hle(h:AllBy σ T f ps)(L:Hle σ τ):AllBy τ T f ps:=fun y=>(h y).hle L
theorem AllCl.hop(h:AllCl σ T cls cv)(H:Hop I σ T τ T')(hI:I 0=false:=by rfl):AllCl τ T' cls cv:=fun id c hc=>(h id c hc).imp fun x hx=>⟨hx.1,hx.2.hop H hI⟩
theorem AllCl.hle(h:AllCl σ T cls cv)(L:Hle σ τ):AllCl τ T cls cv:=fun id c hc=>(h id c hc).imp fun x hx=>⟨hx.1,hx.2.hle L⟩
end
structure BaseS(σ:Heap)(T:Tg)(l vars:Nat)(cls:Cls):Prop where
 ex:∃(vc vt:AVal) (lm:Nat) (vs:AVal) (many:Int) (ps:List (Int×AVal)) (cv:List AVal),Loc (σ.at T 1) l [.int .i64 vars,vc,vt,.map lm,vs,.int .i64 many]/\Own vRaw (σ.at T 2) cv vc/\cv.length=cls.length /\
  AllCl σ T cls cv/\Own .bool (σ.at T 3) (cls.map Option.isSome) vt/\MapV (σ.at T 4) lm ps /\
  AllBy σ T (fun x=>idsBy cls (hasP x)) ps/\Own .int (σ.at T 5) (idsBy cls y3m_) vs
 ok:∀c∈lv cls,y8_ vars c
 nm:∀c∈lv cls,normL c=c
 vl:vars<=4000
 cl:cls.length<=1000000
 ll:∀c∈lv cls,c.length<=1000000
theorem BaseS.mono{σ τ:Heap}{T T':Tg}{l vars:Nat}{cls:Cls}(h:BaseS σ T l vars cls)(L:∀i,Hle (σ.at T i) (τ.at T' i)):BaseS τ T' l vars cls:=by
 obtain⟨⟨vc,vt,lm,vs,many,ps,cv,h1,h2,h3,h4,h5,h6,h7,h8⟩,a,b,c,d,e⟩:=h;exact⟨⟨vc,vt,lm,vs,many,ps,cv,h1.mono (L _),h2.mono (L _),h3,fun id c hc=>(h4 id c hc).elim fun x hx=>⟨x,hx.1,hx.2.mono (L _)⟩,h5.mono (L _),h6.mono (L _),fun x=>(h7 x).mono (L _),h8.mono (L _)⟩,a,b,c,d,e⟩
theorem BaseS.hle{σ τ:Heap}{T:Tg}{l vars:Nat}{cls:Cls}(h:BaseS σ T l vars cls)(L:Hle σ τ):BaseS τ T l vars cls:=h.mono fun i=>L.ats T i
theorem y91_{c:List Int}{i:Nat}{a:Int}(hd:c.Nodup)(ha:c[i]?=some a):a∉c.take i:=fun h=>by
 obtain⟨j,hj,e⟩:=List.getElem_of_mem h;simp at hj e;obtain⟨h1,h2⟩:=List.getElem?_eq_some_iff.1 ha;exact(List.pairwise_iff_getElem.1 hd) j i (by omega) h1 (by omega) (by rw[e,h2])
theorem ya3_{σ:Heap}{l vars:Nat}{us:List AVal}{c:List Int}{x:AVal}(h:Loc σ l (.int .i64 vars::us))(hv:vars<=4000)(hx:SlV .int σ c x)(hl:c.length<=1000000000) :
  W (S.z93 (.ptr l 0) x σ) fun r=>(r.1=true↔y8_ vars c)/\Hle σ r.2:=by
 unfold S.z93
 repeat' (with_reducible refine W.scP ?_)
 refine W.new fun k τ hk L hk hnτ=>?_;replace h:=h.mono L;replace hx:=hx.mono L;have hnx:=L.next;refine W.call (y1c_ (fun n => !isL n vars) hx (by omega) fun n hn Rt K=>?_) fun r hr=>?_
 ·have hcell:=hk.at.cell (k:=0) rfl
  have hcell2:=h.at.cell (k:=0) rfl;show((S.z94 n (.ptr k 0) τ).bind fun x=>K (retV [.B] x) τ)=_;unfold S.z94;simp only[fld,ld,nilck,hcell,hcell2,asK,if_true,y18_ (σ:=τ) (l:=n) (vars:=(vars:Int)) (by omega) (by omega),Option.bind_some];rfl
 subst hr
 repeat' with_reducible refine W.ret ?_
 refine⟨?_,L⟩;simp only[Bool.not_eq_true',List.any_eq_false,Bool.not_eq_true,Bool.not_eq_false',yi_];unfold y8_;simp only[Bool.not_eq_false,yi_]
theorem ye9_{vars:Nat}{c:List Int}(hv:vars<=4000)(h:y8_ vars c):c.all inB=true:=by
 rw[List.all_eq_true];intro l hl;have:=h l hl;simp[inB];omega
theorem yih_{σ:Heap}{T:Tg}{l id:Nat}{a0 a1 a2:AVal}{lm:Nat}{us:List AVal}{c:List Int}{x:AVal}{ps:List (Int×AVal)}{f:Int->List Int}(hn:Tn σ T)(hl:Loc (σ.at T 1) l (a0::a1::a2 :: .map lm::us))(hc:SlV .int (σ.at T 0) c x)(hd:c.Nodup)
  (hm:MapV (σ.at T 4) lm ps) (hb:AllBy σ T f ps) (hfl:∀y,(f y).length<=1000000) (hcl:c.length<=1000000) :
  W (loopW (S.z85.b0 (.ptr l 0) x (id:Int) (c.length:Int)) 0 σ) fun r=>r.1=()/\∃T' qs,Hop (fun j=>j==4||Nat.ble 20 j) σ T r.2 T'/\MapV (r.2.at T' 4) lm qs/\AllBy r.2 T' (fun y=>f y++if y∈c then[(id:Int)] else[]) qs:=by
 refine W.loop c.length (fun i (y:Int) τ=>y=(i:Int)/\∃T' qs,Hop (fun j=>j==4||Nat.ble 20 j) σ T τ T'/\MapV (τ.at T' 4) lm qs/\∀y,Own .int (τ.at T' (tgL y)) (f y++if y∈c.take i then[(id:Int)] else[]) ((look qs y).getD .nils))
  ⟨rfl,T,ps,Hop.refl hn,hm,fun y=>by simpa using hb y⟩ fun i y τ hi hI=>?_
 obtain⟨rfl,T1,qs,H,hm,hb⟩:=hI;replace hl:=hl.mono (H.le rfl);have hc':=hc.mono (H.le rfl);replace hn:=H.tn;unfold S.z85.b0
 (with_reducible refine W.cnd (fun hc=>?_) (fun hc=>?_)<;>(try simp only[qq,Kd.ty]at hc)<;>(try (exfalso;omega)))
 ·obtain⟨a,ha⟩:∃a,c[i]?=some a:=⟨_,List.getElem?_eq_getElem (by omega)⟩
  repeat' with_reducible first|refine W.asV ?_|refine W.chk rfl ?_|refine W.fldp ?_|refine W.nck ?_|refine W.u0 ?_|refine W.ixIc (SlV.up (by assumption)) (by assumption) ?_|refine W.mgetT (by assumption) ?_
  have hba:=hb a;have hni:=y91_ hd ha;rw[if_neg hni,List.append_nil]at hba;have hfa:=hfl a;refine W.own_push Vw.int_flat hba hn (a:=(id:Int)) rfl (by omega) (by omega) fun x' τ2 T2 hO H2=>?_;replace hl:=hl.mono (H2.le (by have:=y2z_ a;simp;omega));replace hm:=hm.mono (H2.le (by have:=y2z_ a;simp;omega));replace hn:=H2.tn
  repeat' with_reducible first|refine W.asV ?_|refine W.chk rfl ?_|refine W.u0 ?_
  refine W.mputT hm hn fun τ3 qs3 hm hq H3 hn3=>?_
  repeat' (with_reducible refine W.next ?_)
  refine⟨by omega,sk,T2,qs3,(H.trans (H2.sub fun j hj=>by have:=y2z_ a;simp at hj⊢;right;omega)).trans (H3.sub fun j hj=>by simp at hj;simp[hj]),hm,fun z=>?_⟩;have ht:c.take (i+1)=c.take i++[a]:=by rw[List.take_add_one,ha];rfl
  rw[hq,ht];have hz4:only 4 (tgL z)=false:=by have:=y2z_ z;simp;omega
  by_cases hz:z=a
  ·subst hz
   rw[if_pos rfl,if_pos (by simp)];exact hO.mono (H3.le hz4)
  ·rw[if_neg hz]
   have e:(if z∈c.take i++[a] then[(id:Int)] else[])=if z∈c.take i then[(id:Int)] else[]:=by simp[hz]
   rw[e];exact((hb z).mono (H2.le (by simp[ydn_,hz]))).mono (H3.le hz4)
 ·repeat' (with_reducible refine W.stop ?_)
  rw[List.take_of_length_le (by omega)]at hb;exact⟨rfl,T1,qs,H,hm,hb⟩
theorem Fresh.at0{n0:Nat}{τ:Heap}{xs:List Int}{y:AVal}{T:Tg}(h:Fresh n0 τ xs y)(hT:∀k,n0<=k->T k=0):SlV .int (τ.at T 0) xs y:=by
 obtain⟨h,hf⟩:=h;rcases h with h|⟨l,off,c,md,cs,rfl,h2,h3,h4,h5⟩
 ·exact .inl h
 ·exact .inr ⟨l,off,c,md,cs,rfl,h2,at_of (hT l (hf _ _ _ _ rfl)) h3,h4,h5⟩
theorem y3i_(c:List Int):(normL c).Nodup:=(y1f_ c).imp fun h e=>by
 subst e;unfold ltL at h;omega
theorem y2c_{vars:Int}{c:List Int}:y8_ vars (normL c)↔y8_ vars c:=
 ⟨fun h l hl=>h l (yc_.2 hl),fun h l hl=>h l (yc_.1 hl)⟩
theorem ye7_{σ:Heap}{T:Tg}{l id:Nat}{a0 a1 a2 a3 v a5:AVal}{c f:List Int}(hn:Tn σ T)(hl:Loc (σ.at T 1) l [a0,a1,a2,a3,v,a5])(hvs:Own .int (σ.at T 5) f v)(hf:f.length<=1000000) :
  W ((cond (decide ((c.length:Int)<2)) (fld (.ptr l 0) 4 fun a47=>ld σ a47 (.V) fun v48=>newK σ 1 [(.int .i64 (id:Int))] fun l49 σ50=>appS σ50 1 8 v48 (.sl l49 0 1 none) fun v51 σ52=>nilck (.ptr l 0) (fld (.ptr l 0) 4 fun a53=>scal v51 (stC σ52 a53 [v51] fun σ54=>some ((),σ54)))) (some ((),σ)))) fun r=>
   ∃v' T',Hop (fun j=>j==1||j==5) σ T r.2 T'/\Loc (r.2.at T' 1) l [a0,a1,a2,a3,v',a5]/\Own .int (r.2.at T' 5) (f++if c.length<2 then[(id:Int)] else[]) v':=by
 have HH:Hop (fun j=>j==1||j==5) σ T σ T:=Hop.refl hn
 (with_reducible refine W.cnd (fun hc=>?_) (fun hc=>?_)<;>(try simp only[qq,Kd.ty]at hc)<;>(try (exfalso;omega)))
 ·repeat' with_reducible first|refine W.asV ?_|refine W.fldp ?_|refine W.u0 ?_
  refine W.own_push Vw.int_flat hvs hn (a:=(id:Int)) rfl (by omega) (by omega) fun v' τ T' hvs H=>?_;replace hl:=hl.hop H;replace HH:=HH.hop H;replace hn:=H.tn
  repeat' with_reducible first|refine W.fldp ?_|refine W.nck ?_|refine W.u4 ?_
  refine W.stT hl hn (Nat.le_of_ble_eq_true (by rfl)) fun τ2 H2 hl hnτ2=>?_;replace hvs:=hvs.hop H2;replace HH:=HH.hop H2;replace hn:=H2.tn
  repeat' with_reducible refine W.ret ?_
  rw[if_pos (by omega)];exact⟨v',T',HH,hl,hvs⟩
 ·repeat' with_reducible refine W.ret ?_
  rw[if_neg (by omega),List.append_nil];exact⟨v,T,HH,hl,hvs⟩
theorem add_w{σ:Heap}{T:Tg}{l vars:Nat}{cls:Cls}{c:List Int}{x:AVal}(h:BaseS σ T l vars cls)(hn:Tn σ T)(hx:SlV .int (σ.at T 0) c x)(hcl:c.length<=1000000)(hsz:cls.length<1000000) :
  W (S.z85 (.ptr l 0) x σ) fun r=>(r.1=true↔y8_ vars c)/\(¬y8_ vars c->Hle σ r.2)/\(y8_ vars c->∃T',Hop own0 σ T r.2 T'/\BaseS r.2 T' l vars (cls++[some (normL c)])):=by
 obtain⟨⟨vc,vt,lm,vs,many,ps,cv,hl,hvc,hcv,hcx,hvt,hm,hb,hvs⟩,ok,nm,vl,cl,ll⟩:=h;have HH:Hop own0 σ T σ T:=Hop.refl hn;unfold S.z85;refine W.call (ya3_ hl.up vl hx.up (by omega)) fun r hr=>?_;obtain⟨r,τ⟩:=r;obtain⟨hr,L⟩:=hr;dsimp only at hr L;replace hl:=hl.hle L;replace hvc:=hvc.hle L;replace hvt:=hvt.hle L;replace hm:=hm.hle L;replace hvs:=hvs.hle L;replace hx:=hx.hle L;replace hb:=hb.hle L;replace hcx:=hcx.hle L;replace HH:=HH.hle L;replace hn:=hn.mono L
 (with_reducible refine W.cnd (fun hq=>?_) (fun hq=>?_)<;>(try simp only[qq,Kd.ty]at hq)<;>(try (exfalso;omega)))
 ·repeat' with_reducible refine W.ret ?_
  have hR:¬y8_ vars c:=fun hR=>by rw[hr.2 hR]at hq;cases hq
  exact⟨by simp[hR],fun _=>L,fun h=>absurd h hR⟩
 have hR:=hr.1 hq;have hin:=ye9_ vl hR;refine W.call (ydf_ hx.up hin hcl) fun r hr2=>?_;obtain⟨⟨z,sy⟩,τ2⟩:=r;obtain⟨_,L2,hz⟩:=hr2;dsimp only at L2 hz⊢;have hz:=hz.at0 fun k hk=>hn.z k hk;replace hl:=hl.hle L2;replace hvc:=hvc.hle L2;replace hvt:=hvt.hle L2;replace hm:=hm.hle L2;replace hvs:=hvs.hle L2;replace hx:=hx.hle L2;replace hb:=hb.hle L2;replace hcx:=hcx.hle L2;replace HH:=HH.hle L2;replace hn:=hn.mono L2;have hl0:=hl;have hnl:=y2m_ c
 repeat' with_reducible first|refine W.asV ?_|refine W.fldp ?_|refine W.scalS (by assumption) ?_|refine W.nck ?_|refine W.u0 ?_|refine W.u3 ?_
 refine W.own_push y7d_ hvc hn rfl (by omega) (by omega) fun vc' τ3 T3 hvc H3=>?_;replace hl:=hl.hop H3;replace hvt:=hvt.hop H3;replace hm:=hm.hop H3;replace hvs:=hvs.hop H3;replace hx:=hx.hop H3;replace hz:=hz.hop H3;replace hb:=hb.hop H3;replace hcx:=hcx.hop H3;replace HH:=HH.hop H3;replace hn:=H3.tn
 repeat' with_reducible first|refine W.asV ?_|refine W.chk rfl ?_|refine W.fldp ?_|refine W.nck ?_|refine W.u0 ?_
 refine W.own_push Vw.bool_flat hvt hn (a:=true) rfl (by simp;omega) (by simp;omega) fun vt' τ4 T4 hvt H4=>?_;replace hl:=hl.hop H4;replace hvc:=hvc.hop H4;replace hm:=hm.hop H4;replace hvs:=hvs.hop H4;replace hx:=hx.hop H4;replace hz:=hz.hop H4;replace hb:=hb.hop H4;replace hcx:=hcx.hop H4;replace HH:=HH.hop H4;replace hn:=H4.tn
 repeat' with_reducible first|refine W.fldp ?_|refine W.nck ?_|refine W.u4 ?_
 refine W.stT hl hn (Nat.le_of_ble_eq_true (by rfl)) fun τ5 H5 hl hnτ5=>?_;replace hvc:=hvc.hop H5;replace hvt:=hvt.hop H5;replace hm:=hm.hop H5;replace hvs:=hvs.hop H5;replace hx:=hx.hop H5;replace hz:=hz.hop H5;replace hb:=hb.hop H5;replace hcx:=hcx.hop H5;replace HH:=HH.hop H5;replace hn:=H5.tn
 repeat' with_reducible first|refine W.fldp ?_|refine W.nck ?_|refine W.u4 ?_
 refine W.stT hl hn (Nat.le_of_ble_eq_true (by rfl)) fun τ6 H6 hl hnτ6=>?_;replace hvc:=hvc.hop H6;replace hvt:=hvt.hop H6;replace hm:=hm.hop H6;replace hvs:=hvs.hop H6;replace hx:=hx.hop H6;replace hz:=hz.hop H6;replace hb:=hb.hop H6;replace hcx:=hcx.hop H6;replace HH:=HH.hop H6;replace hn:=H6.tn
 repeat' with_reducible first|refine W.bind ?_|refine W.len (by assumption) ?_
 rw[hcv];refine W.mono (yih_ hn hl hz (y3i_ c) hm hb (fun y=>Nat.le_trans (y23_ ..) cl) (by omega)) fun r hr=>?_;obtain⟨r,τ7⟩:=r;obtain⟨_,T7,qs,H7,hm,hb⟩:=hr;dsimp only at H7 hm hb⊢;replace hl:=hl.hop H7;replace hvc:=hvc.hop H7;replace hvt:=hvt.hop H7;replace hvs:=hvs.hop H7;replace hx:=hx.hop H7;replace hz:=hz.hop H7;replace hcx:=hcx.hop H7;replace HH:=HH.hop H7;replace hn:=H7.tn
 repeat' with_reducible first|refine W.bind ?_|refine W.len (by assumption) ?_
 refine W.mono (ye7_ (f:=idsBy cls y3m_) (id:=cls.length) hn hl hvs (Nat.le_trans (y23_ ..) cl) (c:=normL c)) fun r hr=>?_;obtain⟨r,τ8⟩:=r;obtain⟨vs',T8,H8,hl,hvs⟩:=hr;dsimp only at H8 hl hvs⊢;replace hvc:=hvc.hop H8;replace hvt:=hvt.hop H8;replace hm:=hm.hop H8;replace hb:=hb.hop H8;replace hcx:=hcx.hop H8;replace HH:=HH.hop H8;replace hz:=hz.hop H8;replace hn:=H8.tn
 repeat' with_reducible first|refine W.asI ?_|refine W.fldp ?_|refine W.nck ?_|refine W.u0 ?_
 refine W.stT hl hn (Nat.le_of_ble_eq_true (by rfl)) fun τ9 H9 hl hnτ9=>?_;replace hvc:=hvc.hop H9;replace hvt:=hvt.hop H9;replace hm:=hm.hop H9;replace hvs:=hvs.hop H9;replace hb:=hb.hop H9;replace hcx:=hcx.hop H9;replace HH:=HH.hop H9;replace hz:=hz.hop H9;replace hn:=H9.tn
 repeat' with_reducible refine W.ret ?_
 refine⟨by simp[hR],fun h=>absurd hR h,fun _=>⟨T8,HH,⟨vc',vt',lm,vs',_,qs,_,hl,hvc,?_,?_,?_,hm,?_,?_⟩,?_,?_,vl,?_,?_⟩⟩
 ·simp[hcv]
 ·intro id d hd
  rw[y6w_]at hd;by_cases he:id=cls.length
  ·rw[if_pos he]at hd;cases hd
   exact⟨z,by rw[he,<-hcv];simp,hz⟩
  ·rw[if_neg he]at hd
   obtain⟨x,h1,h2⟩:=hcx id d hd;exact⟨x,by rw[List.getElem?_append_left (by rw[hcv];exact y7n_ hd)];exact h1,h2⟩
 ·rw[List.map_append];exact hvt
 ·intro y
  have:=hb y;dsimp only at this⊢;rw[y8u_];have e:(if hasP y (normL c)=true then[(cls.length:Int)] else[])=if y∈normL c then[(cls.length:Int)] else[]:=by simp[hasP]
  rw[e];exact this
 ·rw[y8u_]
  have e:(if y3m_ (normL c)=true then[(cls.length:Int)] else[])=if(normL c).length<2 then[(cls.length:Int)] else[]:=by simp[y3m_]
  rw[e];exact hvs
 ·intro d hd
  rw[y47_]at hd;rcases List.mem_append.1 hd with hd|hd
  ·exact ok d hd
  ·rw[List.mem_singleton.1 hd];exact y2c_.2 hR
 ·intro d hd
  rw[y47_]at hd;rcases List.mem_append.1 hd with hd|hd
  ·exact nm d hd
  ·rw[List.mem_singleton.1 hd];exact y5y_ c
 ·simp;omega
 ·intro d hd
  rw[y47_]at hd;rcases List.mem_append.1 hd with hd|hd
  ·exact ll d hd
  ·rw[List.mem_singleton.1 hd];omega
end
section
open Go
theorem yi9_{σ:Heap}{xs ys:List Int}{x y:AVal}(hx:SlV .int σ xs x)(hy:SlV .int σ ys y)(hb:xs.length<=1000000000):W (S.z130 x y σ) fun r=>r=decide (xs=ys):=by
 unfold S.z130
 repeat' (with_reducible refine W.len (by assumption) ?_)
 (with_reducible refine W.cnd (fun hc=>?_) (fun hc=>?_)<;>(try simp only[qq,Kd.ty]at hc)<;>(try (exfalso;omega)))
 ·repeat' with_reducible refine W.ret ?_
  simp only[decide_eq_false_iff_not.2 (show¬xs=ys from fun e=>by subst e;omega)]
 ·repeat' with_reducible first|refine W.bind ?_|refine W.len (by assumption) ?_
  have hl:xs.length=ys.length:=by omega
  refine W.loopP xs.length (fun i z=>z=(i:Int)/\xs.take i=ys.take i) ⟨rfl,rfl⟩ fun i z hi hI=>?_;obtain⟨rfl,hI⟩:=hI;unfold S.z130.b0
  (with_reducible refine W.cnd (fun hc=>?_) (fun hc=>?_)<;>(try simp only[qq,Kd.ty]at hc)<;>(try (exfalso;omega)))
  ·obtain⟨a,ha⟩:∃a,xs[i]?=some a:=⟨_,List.getElem?_eq_getElem (by omega)⟩
   obtain⟨b,hb⟩:∃b,ys[i]?=some b:=⟨_,List.getElem?_eq_getElem (by omega)⟩
   repeat' (with_reducible refine W.e2 ?_)
   (with_reducible refine W.cnd (fun he=>?_) (fun he=>?_)<;>(try simp only[qq,Kd.ty]at he)<;>(try (exfalso;omega)))
   ·repeat' with_reducible first|refine W.stopP ?_|refine W.ret ?_
    have:xs≠ys:=fun e=>by subst e;rw[ha]at hb;cases hb;exact he rfl
    simp[this]
   ·repeat' (with_reducible refine W.nextP ?_)
    subst he;exact⟨by omega,sk,by rw[y1z_ ha,y1z_ hb,hI]⟩
  ·repeat' with_reducible first|refine W.stopP ?_|refine W.ret ?_
   rw[List.take_of_length_le (by omega),List.take_of_length_le (by omega)]at hI;simp[hI]
theorem Own.cut{σ:Heap}{T:Tg}{t i:Nat}{ys:List Int}{x:AVal}(h:Own .int (σ.at T t) ys x)(hn:Tn σ T)(hi:i<=ys.length):∃x1 x2 τ,(∀{R:Type} (K:AVal->Option R),slS σ 1 x (i:Int) none none K=K x1) /\
  (∀{R:Type} (K:Heap->Option R),yy_ σ 1 [.int .i64 0] x1 K=K τ)/\(∀{R:Type} (K:AVal->Option R),slS τ 1 x 0 (some (i:Int)) none K=K x2)/\Own .int (τ.at T t) (ys.take i) x2/\Hop (only t) σ T τ T:=by
 rcases h with ⟨rfl,rfl⟩|⟨l,off,c,cs,rfl,h2,h3,h6,h4,h5⟩
 ·have:i=0:=by simpa using hi
  subst this;exact⟨.nils,.nils,σ,fun K=>by simp[slS],fun K=>rfl,fun K=>by simp[slS],by simpa using Own.nil,Hop.refl hn⟩
 ·obtain⟨hT,hg⟩:=y1g_.1 h3
  have hrl:∀n:Nat,(rep n [AVal.int .i64 0]).length=n:=fun n=>by
   induction n with
   |zero=>rfl
   |succ n ih=>simp[rep,ih]
  simp only[Vw.int,Nat.mul_one]at h4 h6;have e1:∀{R:Type} (K:AVal->Option R),slS σ 1 (.sl l off ys.length c) (i:Int) none none K=K (.sl l (off+i) (ys.length-i) (yz_ none c i)):=fun K=>by
   have hg:σ.get l=some (.cells .rw 1 cs):=hg;simp only[slS,hg];rw[if_pos ⟨trivial,by omega,by simp;omega,by simp,by simp,by simp⟩];simp
  have fin:∀τ cs',τ.next=σ.next->τ.get l=some (.cells .rw 1 cs')->cs'.length=cs.length->cs'.take (off+i)=cs.take (off+i)->Hop (only t) σ T τ T->(∀{R:Type} (K:Heap->Option R),yy_ σ 1 [.int .i64 0] (.sl l (off+i) (ys.length-i) (yz_ none c i)) K=K τ) ->
    ∃x1 x2 τ,(∀{R:Type} (K:AVal->Option R),slS σ 1 (.sl l off ys.length c) (i:Int) none none K=K x1)/\(∀{R:Type} (K:Heap->Option R),yy_ σ 1 [.int .i64 0] x1 K=K τ)/\(∀{R:Type} (K:AVal->Option R),slS τ 1 (.sl l off ys.length c) 0 (some (i:Int)) none K=K x2)/\Own .int (τ.at T t) (ys.take i) x2/\Hop (only t) σ T τ T:=fun τ cs' hx hgt hlen htk H hc=>by
   refine⟨_,.sl l off i (yz_ none c 0),τ,e1,hc,fun K=>?_,.inr ⟨l,off,_,cs',by rw[List.length_take,Nat.min_eq_left hi],by rw[show(τ.at T t).next=σ.next from hx];exact h2,at_of hT hgt,fun k e=>?_,by simp[Vw.int];omega,fun j b hj=>?_⟩,H⟩
   ·simp only[slS,hgt]
    rw[if_pos ⟨trivial,by omega,by simp,by simp;omega,by simp,by simp⟩];simp
   ·cases c with
    |none=>simp[yz_]at e
    |some m=>simp[yz_]at e;subst e;have:=h6 m rfl;simp[Vw.int];omega
   ·rw[List.getElem?_take]at hj
    split at hj
    ·have:=h5 j b hj
     have this:(cs.drop ((off+j)*1)).take 1=[.int .i64 b]:=this;show(cs'.drop ((off+j)*1)).take 1=[.int .i64 b];rw[<-this];refine win fun q hq=>?_;have e2:∀ds:List AVal,ds[(off+j)*1+q]?=(ds.take (off+i))[(off+j)*1+q]?:=fun ds=>by rw[List.getElem?_take_of_lt (by omega)]
     rw[e2 cs',e2 cs,htk]
    ·cases hj
  have hg:σ.get l=some (.cells .rw 1 cs):=hg;by_cases h0:ys.length-i=0
  ·exact fin σ cs rfl hg rfl rfl (Hop.refl hn) fun K=>by simp only[yy_,if_pos h0]
  ·refine fin (σ.set l (.cells .rw 1 (cs.take (off+i)++rep (ys.length-i) [AVal.int .i64 0]++cs.drop (off+i+(ys.length-i))))) _ rfl (y4s_ ..) (by simp[hrl];omega) ?_ (y3d_ hn hT) fun K=>?_
   ·rw[List.append_assoc,List.take_append_of_le_length (by simp;omega),List.take_take,Nat.min_self]
   ·simp only[yy_,if_neg h0,hg,if_true,Nat.mul_one,stC,hrl]
    rw[if_pos (by omega)]
theorem y6l_{σ:Heap}{T:Tg}{t:Nat}{xs:List Int}{x f:AVal}(p:Int->Bool)(hn:Tn σ T)(h:Own .int (σ.at T t) xs x)(hl:xs.length<=1000000000)
  (hf0:∀n∈xs,∀{Rt:Type} (K:AVal->Heap->Option Rt),callV S.z132.T f [.int .i64 n] σ K=K (.bool (p n)) σ)
  (hf:∀τ,Hop (only t) σ T τ T->∀n∈xs,∀{Rt:Type} (K:AVal->Heap->Option Rt),callV S.z129.T f [.int .i64 n] τ K=K (.bool (p n)) τ) :
  W (S.z129 x f σ) fun r=>Hop (only t) σ T r.2 T/\Own .int (r.2.at T t) (xs.filter fun n => !p n) r.1:=by
 unfold S.z129;refine W.call (y7p_ p h.slT (by omega) hf0) fun r hr=>?_;obtain⟨r,τ⟩:=r;obtain⟨rfl,hr⟩:=hr;dsimp only at hr⊢;cases hk:xs.findIdx? p with
 |none=>
  rw[hk]at hr;dsimp only at hr;subst hr;rw[List.findIdx?_eq_none_iff]at hk
  repeat' (first|(with_reducible refine W.ret ?_)|(with_reducible refine W.condT ?_ ?_;focus (first|(simp only[qq,Kd.ty];done)|(simp only[qq,Kd.ty];omega)|assumption)))
  refine⟨Hop.refl hn,?_⟩;rw[List.filter_eq_self.2 fun a ha=>by simp[hk a ha]];exact h
 | some k=>
  rw[hk]at hr;dsimp only at hr;subst hr;rw[List.findIdx?_eq_some_iff_getElem]at hk;obtain⟨k1,k2,k3⟩:=hk;refine W.condF (by simp) ?_;rw[sk];refine W.call (P:=fun r=>∃(i:Nat) (ys:List Int),r.1=(i:Int)/\Hop (only t) τ T r.2 T/\Own .int (r.2.at T t) ys x/\i<=ys.length/\ys.take i=xs.filter fun n => !p n) ?_ fun r hr=>?_
  ·refine W.loop (xs.length-(k+1)) (fun m (y:Int×Int) τ'=>∃(i:Nat) (ys:List Int),y=((i:Int),((k+1+m:Nat):Int))/\Hop (only t) τ T τ' T/\Own .int (τ'.at T t) ys x/\ys.length=xs.length/\i<k+1+m/\ys.take i=(xs.take (k+1+m)).filter (fun n => !p n)/\ys.drop (k+1+m)=xs.drop (k+1+m))
    ⟨k,xs,rfl,Hop.refl hn,h,rfl,by omega,?_,rfl⟩ fun m y τ' hi hI=>?_
   ·rw[Nat.add_zero,List.take_add_one,List.getElem?_eq_getElem k1,List.filter_append,List.filter_eq_self.2]
    ·simp[k2]
    ·intro a ha
     obtain⟨j,hj,e⟩:=List.getElem_of_mem ha;simp at hj e;have:=k3 j (by omega);simp[<-e,this]
   ·obtain⟨i,ys,rfl,H,hO,hlen,hlt,ht,hd⟩:=hI
    replace hn:=H.tn;unfold S.z129.b0
    repeat' (with_reducible refine W.u3 ?_)
    (with_reducible refine W.cnd (fun hc=>?_) (fun hc=>?_)<;>(try simp only[qq,Kd.ty]at hc)<;>(try (exfalso;omega)))
    ·obtain⟨a,ha⟩:∃a,xs[k+1+m]?=some a:=⟨_,List.getElem?_eq_getElem (by omega)⟩
     have hya:ys[k+1+m]?=some a:=by
      have e1:=congrArg (·[0]?) hd;simpa[ha]using e1
     have hd2:ys.drop (k+1+m+1)=xs.drop (k+1+m+1):=by
      rw[<-List.drop_drop,hd,List.drop_drop]
     repeat' with_reducible first|refine W.bind ?_|refine W.u2 ?_
     refine W.to (hf _ H a (List.mem_of_getElem? ha) _) ?_;have hsk:IntKind.i64.wrap (((k+1+m:Nat):Int)+1)=((k+1+(m+1):Nat):Int):=by rw[sk];rfl
     repeat' (with_reducible refine W.asB ?_)
     (with_reducible refine W.cnd (fun hp=>?_) (fun hp=>?_)<;>(try simp only[qq,Kd.ty]at hp)<;>(try (exfalso;omega)))
     ·refine W.ixO hO.slT (by omega) ?_
      refine W.own_setI hO hn (by omega) fun τ2 hO2 H2 hn2=>?_
      repeat' with_reducible first|refine W.next ?_|refine W.ret ?_
      rw[sk,hsk];refine⟨by omega,i+1,_,rfl,H.trans H2,hO2,by simpa using hlen,by omega,?_,?_⟩
      ·rw[<-Nat.add_assoc,y1z_ ha,List.filter_append,<-ht,List.take_add_one,List.take_set_of_le (by omega),List.getElem?_set_self (by omega)]
       simp[hp]
      ·rw[List.drop_set_of_lt (by omega)];exact hd2
     ·repeat' with_reducible first|refine W.next ?_|refine W.ret ?_
      rw[hsk];refine⟨by omega,i,ys,rfl,H,hO,hlen,by omega,?_,hd2⟩;rw[<-Nat.add_assoc,y1z_ ha,List.filter_append,<-ht];simp[hp]
    ·repeat' (with_reducible refine W.stop ?_)
     rw[List.take_of_length_le (l:=xs) (by omega)]at ht;exact⟨i,ys,rfl,H,hO,by omega,ht⟩
  ·obtain⟨r,τ'⟩:=r
   obtain⟨i,ys,e,H,hO,hi,ht⟩:=hr;dsimp only at e H hO⊢;subst e;obtain⟨x1,x2,τ2,e1,e2,e3,hO2,H2⟩:=hO.cut H.tn hi;refine W.to (e1 _) (W.to (e2 _) (W.to (e3 _) ?_))
   repeat' with_reducible refine W.ret ?_
   rw[<-ht];exact⟨H.trans H2,hO2⟩
theorem yfz_{σ:Heap}{T:Tg}{t:Nat}{xs:List Int}{x:AVal}{id:Int}(ht0:t≠0)(hn:Tn σ T)(h:Own .int (σ.at T t) xs x)(hl:xs.length<=1000000000) :
  W (S.z96 x id σ) fun r=>Hop (only t) σ T r.2 T/\Own .int (r.2.at T t) (xs.filter fun n => !(n==id)) r.1:=by
 unfold S.z96;refine W.new0 hn fun k τ hk L hb hn1=>?_;refine W.call (y6l_ (fun n=>n==id) hn1 (h.hle L) hl (fun n hn' Rt K=>?_) (fun τ' H n hn' Rt K=>?_)) fun r hr=>?_
 ·have hcell:=hb.up.at.cell (k:=0) rfl
  show((S.z97 n (.ptr k 0) τ).bind fun x=>K (retV [.B] x) τ)=_;unfold S.z97;simp only[ld,hcell,asK,if_true,Option.bind_some];rfl
 ·have hcell:=(hb.hop H (by simpa using fun e=>ht0 e.symm)).up.at.cell (k:=0) rfl
  show((S.z97 n (.ptr k 0) τ').bind fun x=>K (retV [.B] x) τ')=_;unfold S.z97;simp only[ld,hcell,asK,if_true,Option.bind_some];rfl
 ·repeat' with_reducible refine W.ret ?_
  exact⟨(Hop.of hn L).trans hr.1,hr.2⟩
end
section
open Go
theorem yfy_{α:Type}{L:List α}{P:α->Bool}{i:Nat}{a:α}(ha:L[i]?=some a):(L.drop i).find? P=if P a=true then some a else(L.drop (i+1)).find? P:=by
 rw[y5g_ ha,List.find?_cons];cases h:P a<;>simp
theorem yk4_{σ:Heap}{T:Tg}{l vars:Nat}{cls:Cls}{c:List Int}{x:AVal}(h:BaseS σ T l vars cls)(hn:Tn σ T)(hx:SlV .int (σ.at T 0) c x)(hin:c.all inB=true)(hcl:c.length<=1000000) :
  W (S.z92 (.ptr l 0) x σ) fun r=>Hle σ r.2/\r.1=match findC cls (normL c) with
   |some k=>(k:Int)
   |none => -1:=by
 obtain⟨⟨vc,vt,lm,vs,many,ps,cv,hl,hvc,hcv,hcx,hvt,hm,hb,hvs⟩,ok,nm,vl,cl,ll⟩:=h;unfold S.z92;refine W.call (ydf_ hx.up hin hcl) fun r hr2=>?_;obtain⟨⟨z,sy⟩,τ⟩:=r;obtain⟨_,L,hz⟩:=hr2;dsimp only at L hz⊢;have hz:=hz.at0 fun k hk=>hn.z k hk;replace hl:=hl.hle L;replace hvc:=hvc.hle L;replace hvt:=hvt.hle L;replace hm:=hm.hle L;replace hvs:=hvs.hle L;replace hcx:=hcx.hle L;replace hb:=hb.hle L;replace hn:=hn.mono L;have hnl:=y2m_ c
 repeat' with_reducible first|refine W.bind ?_|refine W.asV ?_|refine W.fldp ?_|refine W.len (by assumption) ?_|refine W.nck ?_|refine W.u0 ?_
 refine W.mono (P:=fun r=>∃p,p (normL c)=true/\SlV .int τ (idsBy cls p) r.1/\r.2=τ) ?_ fun r hr=>?_
 ·(with_reducible refine W.cnd (fun hc=>?_) (fun hc=>?_)<;>(try simp only[qq,Kd.ty]at hc)<;>(try (exfalso;omega)))
  ·obtain⟨a,ha⟩:∃a,(normL c)[0]?=some a:=⟨_,List.getElem?_eq_getElem (by omega)⟩
   repeat' with_reducible first|refine W.asV ?_|refine W.fldp ?_|refine W.nck ?_|refine W.u0 ?_
   refine W.ixI hz.up (i:=0) (by simpa using ha) (by omega) ?_
   repeat' with_reducible first|refine W.ret ?_|refine W.mgetT (by assumption) ?_
   exact⟨hasP a,by simp[hasP,List.mem_of_getElem? ha],(hb a).slT,rfl⟩
  ·repeat' with_reducible refine W.ret ?_
   exact⟨y3m_,by simp[y3m_];omega,hvs.slT,rfl⟩
 ·obtain⟨r,τ'⟩:=r
  obtain⟨p,hp,hy,e⟩:=hr;dsimp only at hy e⊢;subst e;have hidl:=y23_ cls p
  repeat' with_reducible first|refine W.bind ?_|refine W.len (by assumption) ?_
  refine W.loopP (idsBy cls p).length (fun i y=>y=(i:Int)/\findC cls (normL c)=(((List.range cls.length).filter (hits cls p)).drop i).find? fun id=>decide (clAt cls id=some (normL c))) ⟨rfl,by rw[yfv_ hp];rfl⟩ fun i y hi hI=>?_;obtain⟨rfl,hI⟩:=hI;unfold S.z92.b0
  (with_reducible refine W.cnd (fun hc=>?_) (fun hc=>?_)<;>(try simp only[qq,Kd.ty]at hc)<;>(try (exfalso;omega)))
  ·obtain⟨id,hid⟩:∃id,((List.range cls.length).filter (hits cls p))[i]?=some id:=⟨_,List.getElem?_eq_getElem (by simpa[idsBy]using hc)⟩
   have hia:(idsBy cls p)[i]?=some (id:Int):=by unfold idsBy;rw[List.getElem?_map,hid];rfl
   obtain⟨c',hc',_⟩:=ybm_.1 (List.mem_filter.1 (List.mem_of_getElem? hid)).2;obtain⟨x',hx1,hx2⟩:=hcx id c' hc';have hth:(cls.map Option.isSome)[id]?=some true:=by rw[List.getElem?_map,y4y_.1 hc'];rfl
   repeat' with_reducible first|refine W.bind ?_|refine W.asV ?_|refine W.fldp ?_|refine W.e2 ?_|refine W.nck ?_|refine W.u0 ?_|refine W.ixBc (Own.slT (by assumption)) (by assumption) ?_
   refine W.condT rfl ?_
   repeat' with_reducible first|refine W.asV ?_|refine W.fldp ?_|refine W.nck ?_|refine W.u0 ?_
   refine W.ixV hvc.slT hx1 ?_;refine W.bind ?_;refine W.mono (yi9_ hx2.up hz.up (Nat.le_trans (ll c' (y2b_.2 ⟨id,hc'⟩)) (by omega))) fun r hr=>?_;subst hr
   repeat' with_reducible refine W.ret ?_
   rw[yfy_ hid]at hI
   (with_reducible refine W.cnd (fun he=>?_) (fun he=>?_)<;>(try simp only[qq,Kd.ty]at he)<;>(try (exfalso;omega)))
   ·repeat' with_reducible first|refine W.stopP ?_|refine W.ret ?_
    subst he;rw[if_pos (by simpa using hc')]at hI;rw[hI];exact⟨L,rfl⟩
   ·repeat' (with_reducible refine W.nextP ?_)
    rw[if_neg (by simpa[hc']using he)]at hI;exact⟨by omega,sk,hI⟩
  ·repeat' with_reducible first|refine W.stopP ?_|refine W.ret ?_
   rw[List.drop_eq_nil_of_le (by simpa[idsBy]using hc)]at hI;rw[hI];exact⟨L,rfl⟩
theorem yhs_{σ:Heap}{T:Tg}{l:Nat}{id:Int}{a0 a1 a2:AVal}{lm:Nat}{us:List AVal}{c:List Int}{x:AVal}{ps:List (Int×AVal)}{f:Int->List Int}(hn:Tn σ T)(hl:Loc (σ.at T 1) l (a0::a1::a2 :: .map lm::us))(hc:SlV .int (σ.at T 0) c x)(hd:c.Nodup)
  (hm:MapV (σ.at T 4) lm ps) (hb:AllBy σ T f ps) (hfl:∀y,(f y).length<=1000000) (hcl:c.length<=1000000) :
  W (loopW (S.z87.b0 (.ptr l 0) id x (c.length:Int)) 0 σ) fun r=>r.1=()/\∃T' qs,Hop (fun j=>j==4||Nat.ble 20 j) σ T r.2 T'/\MapV (r.2.at T' 4) lm qs/\AllBy r.2 T' (fun y=>if y∈c then(f y).filter (fun n => !(n==id))else f y) qs:=by
 refine W.loop c.length (fun i (y:Int) τ=>y=(i:Int)/\∃T' qs,Hop (fun j=>j==4||Nat.ble 20 j) σ T τ T'/\MapV (τ.at T' 4) lm qs/\AllBy τ T' (fun y=>if y∈c.take i then(f y).filter (fun n => !(n==id))else f y) qs)
  ⟨rfl,T,ps,Hop.refl hn,hm,fun y=>by simpa using hb y⟩ fun i y τ hi hI=>?_
 obtain⟨rfl,T1,qs,H,hm,hb⟩:=hI;replace hl:=hl.mono (H.le rfl);have hc':=hc.mono (H.le rfl);replace hn:=H.tn;unfold S.z87.b0
 (with_reducible refine W.cnd (fun hc=>?_) (fun hc=>?_)<;>(try simp only[qq,Kd.ty]at hc)<;>(try (exfalso;omega)))
 ·obtain⟨a,ha⟩:∃a,c[i]?=some a:=⟨_,List.getElem?_eq_getElem (by omega)⟩
  repeat' with_reducible first|refine W.bind ?_|refine W.asV ?_|refine W.chk rfl ?_|refine W.fldp ?_|refine W.nck ?_|refine W.u0 ?_|refine W.ixIc (SlV.up (by assumption)) (by assumption) ?_|refine W.mgetT (by assumption) ?_
  have hba:=hb a;have hni:=y91_ hd ha;dsimp only at hba;rw[if_neg hni]at hba;have hfa:=hfl a;have hg:=y2z_ a;refine W.mono (yfz_ (by omega) hn hba (by omega)) fun r hr=>?_;obtain⟨v,τ2⟩:=r;obtain⟨H2,hO⟩:=hr;dsimp only at H2 hO⊢;replace hl:=hl.mono (H2.le (by simp;omega));replace hm:=hm.mono (H2.le (by simp;omega));replace hn:=H2.tn
  repeat' with_reducible first|refine W.asV ?_|refine W.chk rfl ?_|refine W.u0 ?_
  refine W.mputT hm hn fun τ3 qs3 hm hq H3 hn3=>?_
  repeat' (with_reducible refine W.next ?_)
  refine⟨by omega,sk,T1,qs3,(H.trans (H2.sub fun j hj=>by simp at hj⊢;right;omega)).trans (H3.sub fun j hj=>by simp at hj;simp[hj]),hm,fun z=>?_⟩;have ht:c.take (i+1)=c.take i++[a]:=by rw[List.take_add_one,ha];rfl
  rw[hq];dsimp only;rw[ht];have hz4:only 4 (tgL z)=false:=by have:=y2z_ z;simp;omega
  by_cases hz:z=a
  ·subst hz
   rw[if_pos rfl,if_pos (by simp)];exact hO.mono (H3.le hz4)
  ·rw[if_neg hz]
   have hbz:=hb z;dsimp only at hbz;have e:(if z∈c.take i++[a] then(f z).filter (fun n => !(n==id))else f z)=if z∈c.take i then(f z).filter (fun n => !(n==id))else f z:=by simp[hz]
   rw[e];exact(hbz.mono (H2.le (by simp[ydn_,hz]))).mono (H3.le hz4)
 ·repeat' (with_reducible refine W.stop ?_)
  rw[List.take_of_length_le (by omega)]at hb;exact⟨rfl,T1,qs,H,hm,hb⟩
theorem yk7_{σ:Heap}{T:Tg}{l vars:Nat}{cls:Cls}{c:List Int}{x:AVal}(h:BaseS σ T l vars cls)(hn:Tn σ T)(hx:SlV .int (σ.at T 0) c x)(hin:c.all inB=true)(hcl:c.length<=1000000) :
  W (S.z87 (.ptr l 0) x σ) fun r=>(r.1=true↔normL c∈lv cls)/\∃T' cls',Hop own0 σ T r.2 T'/\BaseS r.2 T' l vars cls'/\lv cls'=(lv cls).erase (normL c)/\cls'.length=cls.length:=by
 have hbase:=h;unfold S.z87;refine W.call (yk4_ h hn hx hin hcl) fun r hr=>?_;obtain⟨r,τ⟩:=r;obtain⟨L,hr⟩:=hr;dsimp only at L hr⊢;cases hf:findC cls (normL c) with
 |none=>
  rw[hf]at hr;dsimp only at hr;subst hr;have:=ydx_ hf
  repeat' (first|(with_reducible refine W.ret ?_)|(with_reducible refine W.condT ?_ ?_;focus (first|(simp only[qq,Kd.ty];done)|(simp only[qq,Kd.ty];omega)|assumption)))
  exact⟨by simp[this],T,cls,Hop.of hn L,h.hle L,(List.erase_of_not_mem this).symm,rfl⟩
 | some k=>
  rw[hf]at hr;dsimp only at hr;subst hr;obtain⟨hk,_⟩:=y5x_ hf;have hlt:=y7n_ hk;obtain⟨⟨vc,vt,lm,vs,many,ps,cv,hl,hvc,hcv,hcx,hvt,hm,hb,hvs⟩,ok,nm,vl,cl,ll⟩:=h;have HH:Hop own0 σ T σ T:=Hop.refl hn;replace hl:=hl.hle L;replace hvc:=hvc.hle L;replace hvt:=hvt.hle L;replace hm:=hm.hle L;replace hvs:=hvs.hle L;replace hcx:=hcx.hle L;replace hb:=hb.hle L;replace HH:=HH.hle L;replace hx:=hx.hle L;replace hn:=hn.mono L;obtain⟨z,hz1,hz2⟩:=hcx k _ hk;have hcn:=ll _ (y2b_.2 ⟨k,hk⟩)
  repeat' (first|(with_reducible (first|refine W.asV ?_|refine W.fldp ?_|refine W.nck ?_|refine W.u0 ?_))|(with_reducible refine W.condF ?_ ?_;focus (first|(simp only[qq,Kd.ty];done)|(simp only[qq,Kd.ty];omega)|assumption)))
  refine W.ixV hvc.slT hz1 ?_
  repeat' with_reducible first|refine W.bind ?_|refine W.len (by assumption) ?_
  refine W.mono (yhs_ (id:=(k:Int)) hn hl hz2 (y3i_ c) hm hb (fun y=>Nat.le_trans (y23_ ..) cl) hcn) fun r hr=>?_;obtain⟨r,τ7⟩:=r;obtain⟨_,T7,qs,H7,hm,hb⟩:=hr;dsimp only at H7 hm hb⊢;replace hl:=hl.hop H7;replace hvc:=hvc.hop H7;replace hvt:=hvt.hop H7;replace hvs:=hvs.hop H7;replace hx:=hx.hop H7;replace hcx:=hcx.hop H7;replace HH:=HH.hop H7;replace hn:=H7.tn
  repeat' with_reducible first|refine W.bind ?_|refine W.asV ?_|refine W.fldp ?_|refine W.nck ?_|refine W.u0 ?_
  refine W.mono (yfz_ (by decide) hn hvs (Nat.le_trans (y23_ ..) (by omega))) fun r hr=>?_;obtain⟨v,τ8⟩:=r;obtain⟨H8,hvs⟩:=hr;dsimp only at H8 hvs⊢;replace hl:=hl.hop H8;replace hvc:=hvc.hop H8;replace hvt:=hvt.hop H8;replace hm:=hm.hop H8;replace hx:=hx.hop H8;replace hcx:=hcx.hop H8;replace HH:=HH.hop H8;replace hb:=hb.hop H8;replace hn:=H8.tn
  repeat' with_reducible first|refine W.fldp ?_|refine W.nck ?_|refine W.u4 ?_
  refine W.stT hl hn (Nat.le_of_ble_eq_true (by rfl)) fun τ9 H9 hl hnτ9=>?_;replace hvc:=hvc.hop H9;replace hvt:=hvt.hop H9;replace hm:=hm.hop H9;replace hvs:=hvs.hop H9;replace hx:=hx.hop H9;replace hcx:=hcx.hop H9;replace HH:=HH.hop H9;replace hb:=hb.hop H9;replace hn:=H9.tn
  repeat' with_reducible first|refine W.asV ?_|refine W.fldp ?_|refine W.nck ?_|refine W.u0 ?_
  refine W.ixO hvc.slT (by omega) ?_;refine W.own_setV hvc hn (by omega) fun τ10 hvc H10 hn10=>?_;replace hl:=hl.hop H10;replace hvt:=hvt.hop H10;replace hm:=hm.hop H10;replace hvs:=hvs.hop H10;replace hx:=hx.hop H10;replace hcx:=hcx.hop H10;replace HH:=HH.hop H10;replace hb:=hb.hop H10;replace hn:=H10.tn;refine W.ixO hvt.slT (by simpa using hlt) ?_;refine W.own_setB hvt hn (by simpa using hlt) fun τ11 hvt H11 hn11=>?_;replace hl:=hl.hop H11;replace hvc:=hvc.hop H11;replace hm:=hm.hop H11;replace hvs:=hvs.hop H11;replace hx:=hx.hop H11;replace hcx:=hcx.hop H11;replace HH:=HH.hop H11;replace hb:=hb.hop H11;replace hn:=H11.tn
  repeat' with_reducible first|refine W.asI ?_|refine W.fldp ?_|refine W.nck ?_|refine W.u0 ?_
  refine W.stT hl hn (Nat.le_of_ble_eq_true (by rfl)) fun τ12 H12 hl hnτ12=>?_;replace hvc:=hvc.hop H12;replace hvt:=hvt.hop H12;replace hm:=hm.hop H12;replace hvs:=hvs.hop H12;replace hx:=hx.hop H12;replace hcx:=hcx.hop H12;replace HH:=HH.hop H12;replace hb:=hb.hop H12;replace hn:=H12.tn
  repeat' with_reducible refine W.ret ?_
  have hmem:normL c∈lv cls:=y2b_.2 ⟨k,hk⟩;have hsub:∀d∈lv (cls.set k none),d∈lv cls:=fun d hd=>by
   obtain⟨id,e⟩:=y2b_.1 hd;rw[y8k_]at e
   split at e
   ·cases e
   ·exact y2b_.2 ⟨id,e⟩
  refine⟨by simp[hmem],T7,cls.set k none,HH,⟨⟨_,_,lm,_,_,qs,_,hl,hvc,?_,?_,?_,hm,?_,?_⟩,fun d hd=>ok d (hsub d hd),fun d hd=>nm d (hsub d hd),vl,?_,fun d hd=>ll d (hsub d hd)⟩,yk2_ hf,by simp⟩
  ·simp[hcv]
  ·intro id d hd
   rw[y8k_]at hd
   split at hd
   ·cases hd
   ·rename_i hne
    obtain⟨x,h1,h2⟩:=hcx id d hd;exact⟨x,by rw[List.getElem?_set_ne (fun e=>hne e.symm)];exact h1,h2⟩
  ·rw[List.map_set];exact hvt
  ·intro y
   have:=hb y;dsimp only at this⊢;rw[yac_];by_cases hy:y∈normL c
   ·rw[if_pos hy]at this;exact this
   ·rw[if_neg hy]at this
    rw[List.filter_eq_self.2 fun a ha=>?_]
    ·exact this
    ·obtain⟨id,c',rfl,h1,h2⟩:=y3o_.1 ha
     have hne:id≠k:=fun e=>by
      subst e;rw[hk]at h1;cases h1;simp[hasP]at h2;exact hy h2
     simp;omega
  ·rw[yac_];exact hvs
  ·simpa using cl
theorem yka_{σ:Heap}{T:Tg}{vars:Nat}{cs:List (List Int)}{x:AVal}(hn:Tn σ T)(hx:SlV vIs (σ.at T 0) cs x)(hv:vars<=4000)(hR:∀c∈cs,y8_ vars c)(hl:cs.length<1000000)(hcl:∀c∈cs,c.length<=1000000) :
  W (S.z95 (vars:Int) x σ) fun r=>∃l T' cls,r.1=(.ptr l 0,.nili)/\Hop own0 σ T r.2 T'/\BaseS r.2 T' l vars cls/\lv cls=cs.map normL/\cls.length=cs.length:=by
 unfold S.z95;refine W.eqn (y6x_ (by omega) (by omega)) ?_;have HH:Hop own0 σ T σ T:=Hop.refl hn;have hx0:=hx;refine W.newMT 4 hn fun lm τ T1 _ H1 hm hn1=>?_;replace hx:=hx.hop H1;replace HH:=HH.hop H1;replace hn:=H1.tn;refine W.newT 1 hn fun l τ2 T2 hl H2 hl1 hnτ2=>?_;replace hx:=hx.hop H2;replace hm:=hm.hop H2;replace HH:=HH.hop H2;replace hn:=H2.tn
 repeat' with_reducible first|refine W.bind ?_|refine W.len (by assumption) ?_
 refine W.loop cs.length (fun i (y:Int) τ'=>y=(i:Int)/\∃T' cls,Hop own0 σ T τ' T'/\BaseS τ' T' l vars cls/\lv cls=(cs.take i).map normL/\cls.length=i) ⟨rfl,T2,[],HH,⟨⟨.nils,.nils,lm,.nils,0,[],[],hl1,Own.nil,rfl,fun id c hc=>by simp[clAt]at hc,Own.nil,hm,fun y=>Own.nil,Own.nil⟩,fun c hc=>by simp[lv]at hc,fun c hc=>by simp[lv]at hc,hv,by simp,fun c hc=>by simp[lv]at hc⟩,rfl,rfl⟩ fun i y τ' hi hI=>?_;obtain⟨rfl,T',cls,H,hB,hlv,hlen⟩:=hI;have hx:=hx0.hop H;unfold S.z95.b0
 (with_reducible refine W.cnd (fun hc=>?_) (fun hc=>?_)<;>(try simp only[qq,Kd.ty]at hc)<;>(try (exfalso;omega)))
 ·refine W.ixLS hx at_le (by omega) fun c w hc hw=>?_
  have hmc:=List.mem_of_getElem? hc;refine W.call (add_w hB H.tn hw (hcl c hmc) (by omega)) fun r hr=>?_;obtain⟨r,τ2⟩:=r;obtain⟨h1,_,h3⟩:=hr;dsimp only at h1 h3⊢;have hr:=h1.2 (hR c hmc);subst hr;obtain⟨T2,H2,hB2⟩:=h3 (hR c hmc)
  repeat' (first|(with_reducible refine W.next ?_)|(with_reducible refine W.condF ?_ ?_;focus (first|(simp only[qq,Kd.ty];done)|(simp only[qq,Kd.ty];omega)|assumption)))
  refine⟨by omega,sk,T2,_,H.trans H2,hB2,?_,by simp[hlen]⟩;rw[y47_,hlv,List.take_add_one,hc,List.map_append];rfl
 ·repeat' with_reducible first|refine W.stop ?_|refine W.ret ?_
  rw[List.take_of_length_le (by omega)]at hlv;exact⟨l,T',cls,rfl,H,hB,hlv,by omega⟩
end
section
open Go
def zeros(vs:List Int):Nat:=(vs.filter fun x=>x==0).length
theorem ya9_:∀{vs:List Int} {i:Nat} {a:Int},vs[i]?=some 0->a≠0->zeros (vs.set i a)+1=zeros vs
 |[],i,a,h,_=>by simp at h
 |x::t,0,a,h,ha=>by
  simp at h;subst h;simp[zeros,ha]
 |x::t,i+1,a,h,ha=>by
  have ih:=ya9_ (vs:=t) (i:=i) (a:=a) (by simpa using h) ha;unfold zeros at ih⊢;by_cases hx:x=0
  ·simp[hx]at ih⊢;omega
  ·simp[hx]at ih⊢;omega
theorem ydv_{vs:List Int}{l:Int}(hok:Vok vs)(h0:l≠0)(h1:l.natAbs<vs.length)(hv:val vs l=0):zeros (setV vs l)+1=zeros vs:=by
 unfold setV;refine ya9_ ?_ (by split<;>omega);obtain⟨a,ha⟩:∃a,vs[l.natAbs]?=some a:=⟨_,List.getElem?_eq_getElem h1⟩;have hg:vs.getD l.natAbs 0=a:=by rw[List.getD_eq_getElem?_getD,ha];rfl
 have h3:=y5f_ hok l.natAbs;unfold val at hv;rw[hg]at hv h3;rw[if_neg (by omega)]at hv;rw[ha]
 congr 1
 split at hv<;>omega
structure Cin(vars:Nat)(C:List (List Int))(s vs q:List Int)(P:Int->Prop)(m:Nat):Prop where
 ok:Vok vs
 len:vs.length=vars+1
 snd:∀l,val vs l=1->Der C s l
 qd:∀l,val vs l=1->P l\/l∈q
 qt:∀l∈q,val vs l=1
 pt:∀l,P l->val vs l=1
 ms:zeros vs+q.length<=m
def GP(vs:List Int)(P:Int->Prop)(c:List Int):Prop:=(∀l0∈c,(∀k∈c,k≠l0->P (-k))->val vs l0=1)/\¬ ∀k∈c,P (-k)
def Vle(vs ws:List Int):Prop:=∀l,val vs l=1->val ws l=1
theorem Vle.refl(vs:List Int):Vle vs vs:=fun _ h=>h
theorem Vle.trans{a b c:List Int}(h:Vle a b)(k:Vle b c):Vle a c:=fun l hl=>k l (h l hl)
theorem GP.mono{vs ws:List Int}{P:Int->Prop}{c:List Int}(h:GP vs P c)(L:Vle vs ws):GP ws P c:=⟨fun l hl hk=>L l (h.1 l hl hk),h.2⟩
section
variable{vars m:Nat}{C:List (List Int)}{s vs q c:List Int}{P:Int->Prop}{l:Int}
theorem y1u_(hv:Vok vs):val vs (-l)=1↔val vs l=2:=by
 have:=y1q_ hv l;rw[y5e_ hv];split<;>omega
theorem Cin.set(h:Cin vars C s vs q P m)(h0:l≠0)(hl:l.natAbs<=vars)(hv:val vs l=0)(hd:Der C s l):Cin vars C s (setV vs l) (q++[l]) P m/\Vle vs (setV vs l):=by
 have hlt:l.natAbs<vs.length:=by rw[h.len];omega
 have hs:=y7h_ h0 hlt;have hm:Vle vs (setV vs l):=fun k hk=>by
  rw[hs]
  split
  ·rfl
  ·split
   ·rename_i e;subst e
    have:=(y1u_ h.ok).1 hk;omega
   ·exact hk
 refine⟨⟨h.ok.set l,by rw[y5p_,h.len],fun k hk=>?_,fun k hk=>?_,fun k hk=>?_,fun k hk=>hm k (h.pt k hk),?_⟩,hm⟩
 ·rw[hs]at hk
  split at hk
  ·rename_i e;rw[e];exact hd
  ·split at hk
   ·cases hk
   ·exact h.snd k hk
 ·rw[hs]at hk
  split at hk
  ·rename_i e;right;simp[e]
  ·split at hk
   ·cases hk
   ·exact(h.qd k hk).imp id fun e=>by simp[e]
 ·rcases List.mem_append.1 hk with hk|hk
  ·exact hm k (h.qt k hk)
  ·have:k=l:=by simpa using hk
   rw[hs,if_pos this]
 ·have:=ydv_ h.ok h0 hlt hv
  have:=h.ms;simp;omega
theorem Cin.conf2(h:Cin vars C s vs q P m)(hd:Der C s l)(hv:val vs l=2):Conf C s:=.inl ⟨l,hd,h.snd _ ((y1u_ h.ok).2 hv)⟩
theorem Cin.confC(h:Cin vars C s vs q P m)(hc:c∈C)(hv:∀k∈c,val vs k=2):Conf C s:=.inr ⟨c,hc,fun k hk=>h.snd _ ((y1u_ h.ok).2 (hv k hk))⟩
theorem Cin.unit(h:Cin vars C s vs q P m)(hc:c∈C)(hl:l∈c)(hv:∀k∈c,k≠l->val vs k=2):Der C s l:=.unit hc hl fun k hk hne=>h.snd _ ((y1u_ h.ok).2 (hv k hk hne))
theorem Cin.done(h:Cin vars C s vs [] P m)(hG:∀c∈C,GP vs P c)(hs:∀l∈s,val vs l=1):¬Conf C s:=by
 have hP:∀l,val vs l=1->P l:=fun l hl=>(h.qd l hl).elim id fun e=>by cases e
 have key:∀l,Der C s l->val vs l=1:=fun l hd=>by
  induction hd with
  |start h=>exact hs _ h
  |unit hc hl _ ih=>exact(hG _ hc).1 _ hl fun k hk hne=>hP _ (ih k hk hne)
 rintro(⟨l,h1,h2⟩|⟨c,hc,h1⟩)
 ·have:=key _ h1
  have:=(y1u_ h.ok).1 (key _ h2);omega
 ·exact(hG c hc).2 fun k hk=>hP _ (key _ (h1 k hk))
end
structure AsgT(σ:Heap)(T:Tg)(la lw:Nat)(vs:List Int):Prop where
 r:AsgR σ la lw vs
 t1:T la=6
 t2:T lw=7
theorem AsgT.hop{I:Nat->Bool}{σ τ:Heap}{T T':Tg}{la lw:Nat}{vs:List Int}(h:AsgT σ T la lw vs)(H:Hop I σ T τ T')(h6:I 6=false:=by rfl)(h7:I 7=false:=by rfl):AsgT τ T' la lw vs:=by
 obtain⟨⟨⟨h1,sz,h2⟩,h3,h4,h5⟩,t1,t2⟩:=h;exact⟨⟨⟨Nat.lt_of_lt_of_le h1 H.next,sz,H.get _ _ h1 (by rw[t1];exact h6) h2⟩,H.get _ _ h4 (by rw[t2];exact h7) h3,Nat.lt_of_lt_of_le h4 H.next,h5⟩,(H.tag _ h1 (by rw[t1];exact h6)).trans t1,(H.tag _ h4 (by rw[t2];exact h7)).trans t2⟩
theorem hop_k{σ τ:Heap}{T:Tg}{l t:Nat}(hn:Tn σ T)(hl:T l=t)(L:Hle (σ.kill l) τ):Hop (only t) σ T τ T:=⟨L.next,⟨fun k hk=>hn.z k (Nat.le_trans L.next hk)⟩,fun _ _ _=>rfl,fun k o hk hI hg=>L.get k o hk (by
 rw[ys_,if_neg (fun e=>by subst e;simp[only,hl]at hI)];exact hg)⟩
theorem yiv_{I:Nat->Bool}{σ τ:Heap}{T:Tg}{l t:Nat}(hn:Tn σ T)(L:Hle σ τ)(h1:σ.next<=l)(h2:l<τ.next):Hop I σ T τ (T.upd l t):=⟨L.next,⟨fun k hk=>by rw[y1e_ (by omega)];exact hn.z k (Nat.le_trans L.next hk)⟩,fun k hk _=>y1e_ (by omega),fun k o hk _ hg=>L.get k o hk hg⟩
theorem yhd_{I:Nat->Bool}{σ τ:Heap}{T:Tg}{l t k u:Nat}(hn:Tn σ T)(L:Hle σ τ)(h1:σ.next<=l)(h2:l<τ.next)(h3:σ.next<=k)(h4:k<τ.next):Hop I σ T τ ((T.upd l t).upd k u):=⟨L.next,⟨fun j hk=>by rw[y1e_ (by omega),y1e_ (by omega)];exact hn.z j (Nat.le_trans L.next hk)⟩,fun j hk _=>by rw[y1e_ (by omega),y1e_ (by omega)],fun k o hk _ hg=>L.get k o hk hg⟩
structure CS(σ:Heap)(T:Tg)(la lw l7 l10:Nat)(vs q:List Int):Prop where
 asg:AsgT σ T la lw vs
 box:Loc (σ.at T 8) l7 [.ptr la 0]
 left:∃x,Loc (σ.at T 9) l10 [x]/\Own .int (σ.at T 10) q x
abbrev clI:Nat->Bool:=fun j=>decide (6<=j/\j<=12)
theorem set_w{σ:Heap}{T:Tg}{la lw l7 l10 vars:Nat}{vs q:List Int}{l:Int}(h:CS σ T la lw l7 l10 vs q)(hn:Tn σ T)(hv:Vok vs)(hlen:vs.length=vars+1)(hvl:vars<=4000)(hq:q.length<=1000000)(h0:l≠0)(hl:l.natAbs<=vars) :
  W (S.z90 l (.ptr l7 0) (.ptr l10 0) σ) fun r=>∃T',Hop clI σ T r.2 T'/\((val vs l=1/\r.1=true/\CS r.2 T' la lw l7 l10 vs q)\/(val vs l=2/\r.1=false)\/(val vs l=0/\r.1=true/\CS r.2 T' la lw l7 l10 (setV vs l) (q++[l]))):=by
 obtain⟨hA,hB,x,hL,hO⟩:=h;have HH:Hop clI σ T σ T:=Hop.refl hn;have hin:inB l=true:=by simp[inB];omega
 have hok:=y1q_ hv l;unfold S.z90
 repeat' with_reducible first|refine W.bind ?_|refine W.asV ?_|refine W.u0 ?_
 refine W.to (y3e_ hA.r.v hv (by omega) (by omega) hin) ?_
 repeat' with_reducible refine W.ret ?_
 (with_reducible refine W.cnd (fun hc=>?_) (fun hc=>?_)<;>(try simp only[qq,Kd.ty]at hc)<;>(try (exfalso;omega)))
 ·repeat' with_reducible refine W.ret ?_
  exact⟨T,HH,.inl ⟨hc,rfl,hA,hB,x,hL,hO⟩⟩
 ·repeat' with_reducible first|refine W.asV ?_|refine W.u0 ?_
  refine W.own_push Vw.int_flat hO hn (a:=l) rfl (by omega) (by omega) fun x' τ T1 hO H1=>?_;replace hA:=hA.hop H1;replace hB:=hB.hop H1;replace hL:=hL.hop H1;replace HH:=HH.hop H1;replace hn:=H1.tn
  repeat' (with_reducible refine W.u4 ?_)
  refine W.stT hL hn (Nat.le_of_ble_eq_true (by rfl)) fun τ2 H2 hL hnτ2=>?_;replace hA:=hA.hop H2;replace hB:=hB.hop H2;replace hO:=hO.hop H2;replace HH:=HH.hop H2;replace hn:=H2.tn
  repeat' with_reducible first|refine W.bind ?_|refine W.asV ?_|refine W.u0 ?_
  refine W.mono (yhk_ hA.r hv (by omega) (by omega) hin) fun r hr=>?_;obtain⟨b,τ3⟩:=r;rcases hr with ⟨⟨_,_,h2⟩,rfl,L3,hn3,hA3⟩|⟨h1,e⟩
  ·dsimp only at L3 hn3 hA3⊢
   have H3:=hop_k hn hA.t2 L3;have hA':AsgT τ3 T1 la lw (setV vs l):=⟨hA3,hA.t1,hA.t2⟩;replace hB:=hB.hop H3;replace hL:=hL.hop H3;replace hO:=hO.hop H3;replace HH:=HH.hop H3;replace hn:=H3.tn
   repeat' with_reducible refine W.ret ?_
   exact⟨T1,HH,.inr (.inr ⟨by omega,rfl,hA',hB,x',hL,hO⟩)⟩
  ·cases e
   repeat' with_reducible refine W.ret ?_
   have:val vs l=2:=by omega
   exact⟨T1,HH,.inr (.inl ⟨this,rfl⟩)⟩
structure SetF(f:AVal)(l7 l10:Nat):Prop where
 e2:∀{R:Type} (l:Int) (σ:Heap) (K:AVal->Heap->Option R),callV S.z91.T f [.int .i64 l] σ K=(S.z90 l (.ptr l7 0) (.ptr l10 0) σ).bind fun r=>K (.bool r.1) r.2
 e0:∀{R:Type} (l:Int) (σ:Heap) (K:AVal->Heap->Option R),callV S.z89.T f [.int .i64 l] σ K=(S.z90 l (.ptr l7 0) (.ptr l10 0) σ).bind fun r=>K (.bool r.1) r.2
section
variable{vars m:Nat}{C:List (List Int)}{s:List Int}{P:Int->Prop}
theorem Cin.good{vs q c:List Int}{r:Int×Int}{P':Int->Prop}(h:Cin vars C s vs q P m)(hr:ClW vs c r)(hP:∀l,P' l->val vs l=1)(h2:r.1≠2)(h0:r.2=0):GP vs P' c:=by
 have hP2:∀k,P' (-k)->val vs k=2:=fun k hk=>(y1u_ h.ok).1 (hP _ hk);refine⟨fun l0 hl0 hk=>?_,fun hk=>h2 (hr.bad.2 fun k hkc=>hP2 k (hk k hkc))⟩;rcases hr.many h2 h0 with ⟨k,hkc,hk1⟩|⟨j,hj,k,hkc,hne,h3,h4⟩
 ·by_cases e:k=l0
  ·rw[<-e];exact hk1
  ·have:=hP2 k (hk k hkc e);omega
 ·exfalso
  by_cases e:j=l0
  ·exact h4 (hP2 k (hk k hkc fun e2=>hne (e.trans e2.symm)))
  ·exact h3 (hP2 j (hk j hj e))
end
theorem yju_{σ:Heap}{T:Tg}{l vars la lw l7 l10 l1 l12 m id:Nat}{cls:Cls}{s vs q c:List Int}{P P':Int->Prop}{f:AVal}(hB:BaseS σ T l vars cls)(hf:SetF f l7 l10)(hS:CS σ T la lw l7 l10 vs q)(hn:Tn σ T)(h1:Loc (σ.at T 0) l1 [.ptr l 0])(h12:Loc (σ.at T 13) l12 [f])
  (hI:Cin vars ((lv cls)) s vs q P m) (hm:m<=100000) (hc:clAt cls id=some c) (hP':∀l,P' l->val vs l=1) :
  W (S.z91 (id:Int) (.ptr l7 0) (.ptr l1 0) (.ptr l12 0) σ) fun r=>∃T',Hop clI σ T r.2 T'/\((r.1=false/\Conf ((lv cls)) s)\/(r.1=true/\∃vs' q',CS r.2 T' la lw l7 l10 vs' q'/\Cin vars ((lv cls)) s vs' q' P m/\Vle vs vs'/\GP vs' P' c)):=by
 obtain⟨⟨vc,vt,lm,vs0,many,ps,cv,hl,hvc,hcv,hcx,hvt,hmm,hb,hvs⟩,ok,nm,vl,cl,ll⟩:=hB;have hcm:c∈(lv cls):=y2b_.2 ⟨id,hc⟩;obtain⟨x,hx1,hx2⟩:=hcx id c hc;obtain⟨hA,hBx,hleft⟩:=(show _/\_/\_ from⟨hS.asg,hS.box,hS.left⟩);have hR:=ok c hcm;unfold S.z91
 repeat' with_reducible first|refine W.asV ?_|refine W.fldp ?_|refine W.nck ?_|refine W.u0 ?_
 refine W.ixV hvc.slT hx1 ?_;refine W.bind ?_;refine W.mono (yhm_ hA.r.v hI.ok (by rw[hI.len];omega) (by rw[hI.len];omega) hx2.up (fun k hk=>⟨by have:=hR k hk;simp[inB];omega,(hR k hk).1⟩) (ll c hcm)) fun r hr=>?_;obtain⟨w,z⟩:=r
 repeat' (with_reducible refine W.bind ?_)
 have HH:Hop clI σ T σ T:=Hop.refl hn
 (with_reducible refine W.cnd (fun hq=>?_) (fun hq=>?_)<;>(try simp only[qq,Kd.ty]at hq)<;>(try (exfalso;omega)))
 ·(with_reducible refine W.cnd (fun hz=>?_) (fun hz=>?_)<;>(try simp only[qq,Kd.ty]at hz)<;>(try (exfalso;omega)))
  ·repeat' with_reducible refine W.ret ?_
   refine⟨T,HH,.inr ⟨rfl,vs,q,hS,hI,Vle.refl _,hI.good hr hP' hq hz⟩⟩
  ·repeat' with_reducible first|refine W.asV ?_|refine W.u0 ?_
   obtain⟨z1,z2,z3⟩:=hr.one hq hz;have hms:=hI.ms;refine W.to (hf.e2 ..) ?_
   repeat' (with_reducible refine W.bind ?_)
   refine W.mono (set_w hS hn hI.ok hI.len vl (by omega) (hR z z1).1 (by have:=hR z z1;omega)) fun r hr2=>?_;obtain⟨b,τ⟩:=r;obtain⟨T',H,hr2⟩:=hr2;dsimp only at H hr2 z1 z2 z3⊢
   repeat' with_reducible first|refine W.ret ?_|refine W.asB ?_
   rcases hr2 with ⟨e,_⟩|⟨e,_⟩|⟨e,rfl,hS'⟩
   ·omega
   ·omega
   ·obtain⟨hI',hL⟩:=hI.set (hR z z1).1 (by have:=hR z z1;omega) e (hI.unit hcm z1 z3)
    refine⟨T',H,.inr ⟨rfl,_,_,hS',hI',hL,fun l0 hl0 hk=>?_,fun hk=>?_⟩⟩
    ·by_cases e0:l0=z
     ·subst e0;rw[y7h_ (hR l0 z1).1 (by rw[hI.len];have:=hR l0 z1;omega),if_pos rfl]
     ·have:=hP' _ (hk z z1 (fun e=>e0 e.symm))
      have:=(y1u_ hI.ok).1 this;omega
    ·have:=(y1u_ hI.ok).1 (hP' _ (hk z z1))
     omega
 ·repeat' with_reducible refine W.ret ?_
  exact⟨T,HH,.inl ⟨rfl,hI.confC hcm (hr.bad.1 hq)⟩⟩
section
variable{T:Tg}{l vars la lw l7 l10 l1 l12 m:Nat}{cls:Cls}{s:List Int}{f:AVal}
structure CL(σ:Heap)(T:Tg)(l vars la lw l7 l10 l1 l12 m:Nat)(cls:Cls)(s vs q:List Int)(f:AVal)(P:Int->Prop):Prop where
 b:BaseS σ T l vars cls
 st:CS σ T la lw l7 l10 vs q
 n:Tn σ T
 h1:Loc (σ.at T 0) l1 [.ptr l 0]
 h12:Loc (σ.at T 13) l12 [f]
 i:Cin vars (lv cls) s vs q P m
theorem BaseS.hop{I:Nat->Bool}{σ τ:Heap}{T T':Tg}(h:BaseS σ T l vars cls)(H:Hop I σ T τ T')(h0:∀i,(i<=5\/20<=i)->I i=false:=by intro i hi;simp;omega):BaseS τ T' l vars cls:=by
 obtain⟨⟨vc,vt,lm,vs,many,ps,cv,h1,h2,h3,h4,h5,h6,h7,h8⟩,a,b,c,d,e⟩:=h;exact⟨⟨vc,vt,lm,vs,many,ps,cv,h1.hop H (h0 _ (by omega)),h2.hop H (h0 _ (by omega)),h3,h4.hop H (h0 _ (by omega)),h5.hop H (h0 _ (by omega)),h6.hop H (h0 _ (by omega)),h7.hop H fun t ht=>h0 _ (.inr ht),h8.hop H (h0 _ (by omega))⟩,a,b,c,d,e⟩
theorem yct_{σ:Heap}{x:AVal}{vs q:List Int}(h:CL σ T l vars la lw l7 l10 l1 l12 m cls s vs q f (fun _=>False))(hf:SetF f l7 l10)(hx:SlV .int (σ.at T 0) s x)(hm:m<=100000)(hs:∀k∈s,k≠0/\k.natAbs<=vars)(hsl:s.length<=1000000) :
  W (loopW (S.z89.b0 (.ptr l1 0) (.ptr l7 0) (.ptr l10 0) (.ptr l12 0) x (s.length:Int)) 0 σ) fun r=>∃T',Hop clI σ T r.2 T'/\((r.1=.inr (.nilp,false)/\Conf (lv cls) s)\/(r.1=.inl ()/\∃vs' q',CL r.2 T' l vars la lw l7 l10 l1 l12 m cls s vs' q' f (fun _=>False)/\∀k∈s,val vs' k=1)):=by
 have hx0:=hx;refine W.loop s.length (fun i (y:Int) τ=>y=(i:Int)/\∃T' vs' q',Hop clI σ T τ T'/\CL τ T' l vars la lw l7 l10 l1 l12 m cls s vs' q' f (fun _=>False)/\∀k∈s.take i,val vs' k=1) ⟨rfl,T,vs,q,Hop.refl h.n,h,by simp⟩ fun i y τ hi hI=>?_;obtain⟨rfl,T',vs',q',H,hC,hk⟩:=hI;have hx:=hx0.hop H;have h12:=hC.h12;have hR:=hC.b.vl;unfold S.z89.b0
 (with_reducible refine W.cnd (fun hc=>?_) (fun hc=>?_)<;>(try simp only[qq,Kd.ty]at hc)<;>(try (exfalso;omega)))
 ·obtain⟨a,ha⟩:∃a,s[i]?=some a:=⟨_,List.getElem?_eq_getElem (by omega)⟩
  have hma:=List.mem_of_getElem? ha
  repeat' with_reducible first|refine W.asV ?_|refine W.u0 ?_|refine W.ixIc (SlV.up (by assumption)) (by assumption) ?_
  refine W.to (hf.e0 ..) ?_
  repeat' (with_reducible refine W.bind ?_)
  have hms:=hC.i.ms;refine W.mono (set_w hC.st hC.n hC.i.ok hC.i.len hR (by omega) (hs a hma).1 (hs a hma).2) fun r hr=>?_;obtain⟨b,τ2⟩:=r;obtain⟨T2,H2,hr⟩:=hr;dsimp only at H2 hr⊢;have ht:s.take (i+1)=s.take i++[a]:=by rw[List.take_add_one,ha];rfl
  rcases hr with ⟨e,rfl,hS⟩|⟨e,rfl⟩|⟨e,rfl,hS⟩
  ·repeat' (first|(with_reducible (first|refine W.next ?_|refine W.asB ?_))|(with_reducible refine W.condF ?_ ?_;focus (first|(simp only[qq,Kd.ty];done)|(simp only[qq,Kd.ty];omega)|assumption)))
   refine⟨by omega,sk,T2,vs',q',H.trans H2,⟨hC.b.hop H2,hS,H2.tn,hC.h1.hop H2,h12.hop H2,hC.i⟩,fun k hk2=>?_⟩;rw[ht]at hk2;rcases List.mem_append.1 hk2 with h|h
   ·exact hk k h
   ·rw[List.mem_singleton.1 h];exact e
  ·repeat' (first|(with_reducible (first|refine W.stop ?_|refine W.asB ?_))|(with_reducible refine W.condT ?_ ?_;focus (first|(simp only[qq,Kd.ty];done)|(simp only[qq,Kd.ty];omega)|assumption)))
   exact⟨T2,H.trans H2,.inl ⟨rfl,hC.i.conf2 (.start hma) e⟩⟩
  ·obtain⟨hI',hL⟩:=hC.i.set (hs a hma).1 (hs a hma).2 e (.start hma)
   repeat' (first|(with_reducible (first|refine W.next ?_|refine W.asB ?_))|(with_reducible refine W.condF ?_ ?_;focus (first|(simp only[qq,Kd.ty];done)|(simp only[qq,Kd.ty];omega)|assumption)))
   refine⟨by omega,sk,T2,_,_,H.trans H2,⟨hC.b.hop H2,hS,H2.tn,hC.h1.hop H2,h12.hop H2,hI'⟩,fun k hk2=>?_⟩;rw[ht]at hk2;rcases List.mem_append.1 hk2 with h|h
   ·exact hL k (hk k h)
   ·rw[List.mem_singleton.1 h,y7h_ (hs a hma).1 (by rw[hC.i.len];have:=(hs a hma).2;omega),if_pos rfl]
 ·repeat' (with_reducible refine W.stop ?_)
  rw[List.take_of_length_le (by omega)]at hk;exact⟨T',H,.inr ⟨rfl,vs',q',hC,hk⟩⟩
theorem yde_{σ:Heap}{x:AVal}{vs q:List Int}{p:List Int->Bool}{P P':Int->Prop}{F:Int->Heap->Option ((Int⊕(Unit⊕(AVal×Bool)))×Heap)}(h:CL σ T l vars la lw l7 l10 l1 l12 m cls s vs q f P)(hf:SetF f l7 l10)(hm:m<=100000)(hP':∀l,P' l->val vs l=1)
  (hF:∀(i:Nat) τ,F (i:Int) τ=(cond (decide ((i:Int)<((idsBy cls p).length:Int))) (ixA τ x 1 (i:Int) fun a79=>ld τ a79 (.I .i64) fun n80=>(S.z91 n80 (.ptr l7 0) (.ptr l1 0) (.ptr l12 0) τ).bind fun r81=>cond (!r81.1) (some (.inr (.inr (.nilp,false)),r81.2)) (some (.inl (IntKind.i64.wrap ((i:Int)+1)),r81.2))) (some (.inr (.inl ()),τ))))
  {t:Nat} (ht:t=0\/t=5\/20<=t) (hx:SlV .int (σ.at T t) (idsBy cls p) x) :
  W (loopW F 0 σ) fun r=>∃T',Hop clI σ T r.2 T'/\((r.1=.inr (.nilp,false)/\Conf (lv cls) s)\/(r.1=.inl ()/\∃vs' q',CL r.2 T' l vars la lw l7 l10 l1 l12 m cls s vs' q' f P/\Vle vs vs'/\∀c∈lv cls,p c=true->GP vs' P' c)):=by
 have hx0:=hx;have hidl:=y23_ cls p;have hcl:=h.b.cl;refine W.loop (idsBy cls p).length (fun i (y:Int) τ=>y=(i:Int)/\∃T' vs' q',Hop clI σ T τ T'/\CL τ T' l vars la lw l7 l10 l1 l12 m cls s vs' q' f P/\Vle vs vs'/\∀(id:Nat) c,(id:Int)∈(idsBy cls p).take i->clAt cls id=some c->GP vs' P' c) ⟨rfl,T,vs,q,Hop.refl h.n,h,Vle.refl _,by simp⟩ fun i y τ hi hI=>?_;obtain⟨rfl,T',vs',q',H,hC,hV,hk⟩:=hI;have hx:=hx0.hop H (by simp;omega);rw[hF]
 (with_reducible refine W.cnd (fun hc=>?_) (fun hc=>?_)<;>(try simp only[qq,Kd.ty]at hc)<;>(try (exfalso;omega)))
 ·obtain⟨z,hz⟩:∃z,(idsBy cls p)[i]?=some z:=⟨_,List.getElem?_eq_getElem (by omega)⟩
  obtain⟨id,c,rfl,hc',hpc⟩:=y3o_.1 (List.mem_of_getElem? hz)
  repeat' with_reducible first|refine W.bind ?_|refine W.ixIc (SlV.up (by assumption)) (by assumption) ?_
  refine W.mono (yju_ (P':=P') hC.b hf hC.st hC.n hC.h1 hC.h12 hC.i hm hc' fun l hl=>hV l (hP' l hl)) fun r hr=>?_;obtain⟨b,τ2⟩:=r;obtain⟨T2,H2,hr⟩:=hr;dsimp only at H2 hr⊢;rcases hr with ⟨rfl,hc2⟩|⟨rfl,vs2,q2,hS,hI2,hL,hG⟩
  ·repeat' (first|(with_reducible refine W.stop ?_)|(with_reducible refine W.condT ?_ ?_;focus (first|(simp only[qq,Kd.ty];done)|(simp only[qq,Kd.ty];omega)|assumption)))
   exact⟨T2,H.trans H2,.inl ⟨rfl,hc2⟩⟩
  ·refine W.condF rfl ?_
   repeat' (with_reducible refine W.next ?_)
   refine⟨by omega,sk,T2,vs2,q2,H.trans H2,⟨hC.b.hop H2,hS,H2.tn,hC.h1.hop H2,hC.h12.hop H2,hI2⟩,hV.trans hL,fun id2 c2 hid hc2=>?_⟩;rw[List.take_add_one,hz]at hid;rcases List.mem_append.1 hid with h|h
   ·exact(hk id2 c2 h hc2).mono hL
   ·have e:id2=id:=by simp at h;omega
    subst e;rw[hc']at hc2;cases hc2;exact hG
 ·repeat' (with_reducible refine W.stop ?_)
  rw[List.take_of_length_le (by omega)]at hk;refine⟨T',H,.inr ⟨rfl,vs',q',hC,hV,fun c hcm hp=>?_⟩⟩;obtain⟨id,hid⟩:=y2b_.1 hcm;exact hk id c (y3o_.2 ⟨id,c,rfl,hid,hp⟩) hid
theorem yio_{σ:Heap}{vs q:List Int}(h:CL σ T l vars la lw l7 l10 l1 l12 m cls s vs q f (fun _=>False))(hf:SetF f l7 l10)(hm:m<=100000)(hG:∀c∈lv cls,GP vs (fun _=>False) c)(hs:∀k∈s,val vs k=1) :
  W (loopW (S.z89.b3 (.ptr l1 0) (.ptr l7 0) (.ptr l10 0) (.ptr l12 0)) () σ) fun r=>∃T',Hop clI σ T r.2 T'/\((r.1=.inr (.nilp,false)/\Conf (lv cls) s)\/(r.1=.inl ()/\¬Conf (lv cls) s/\Loc (r.2.at T' 8) l7 [.ptr la 0])):=by
 refine W.loopI (m:=m) (fun k (_:Unit) τ=>∃T' vs' q' P,Hop clI σ T τ T'/\CL τ T' l vars la lw l7 l10 l1 l12 k cls s vs' q' f P/\k<=m/\(∀c∈lv cls,GP vs' P c)/\∀k∈s,val vs' k=1) ⟨T,vs,q,_,Hop.refl h.n,h,Nat.le_refl _,hG,hs⟩ fun k _ τ hI=>?_;obtain⟨T',vs',q',P,H,hC,hkm,hG,hs⟩:=hI;obtain⟨hA,hBx,x,hL,hO⟩:=(show _/\_/\_ from⟨hC.st.asg,hC.st.box,hC.st.left⟩);unfold S.z89.b3
 repeat' with_reducible first|refine W.asV ?_|refine W.u0 ?_|refine W.u3 ?_
 cases q' with
 |nil=>
  refine W.condF (by simp) ?_
  repeat' (with_reducible refine W.stop ?_)
  exact⟨T',H,.inr ⟨rfl,hC.i.done hG hs,hBx⟩⟩
 | cons a q2=>
  refine W.condT (by simp) ?_
  repeat' with_reducible first|refine W.asV ?_|refine W.u0 ?_
  refine W.ixI hO.slT (i:=0) (a:=a) rfl (by omega) ?_
  repeat' with_reducible first|refine W.asV ?_|refine W.u0 ?_
  obtain⟨x2,e2,hO2⟩:=hO.slice (lo:=1) (hi:=(a::q2).length) (by simp) (Nat.le_refl _);rw[List.take_length]at hO2;have hO2:Own .int (τ.at T' 10) q2 x2:=hO2;refine W.to ((e2 at_le _).2 rfl) ?_;have hn:=hC.n;obtain⟨h1,h12,hb,hI⟩:=(show _/\_/\_/\_ from⟨hC.h1,hC.h12,hC.b,hC.i⟩)
  repeat' (with_reducible refine W.u4 ?_)
  refine W.stT hL hn (Nat.le_of_ble_eq_true (by rfl)) fun τ2 H2 hL hnτ2=>?_;replace hA:=hA.hop H2;replace hBx:=hBx.hop H2;replace hO2:=hO2.hop H2;replace h1:=h1.hop H2;replace h12:=h12.hop H2;replace hb:=hb.hop H2;replace hn:=H2.tn;have hva:val vs' a=1:=hI.qt a (by simp);have hI2:Cin vars (lv cls) s vs' q2 (fun l=>P l\/l=a) (k-1):=⟨hI.ok,hI.len,hI.snd,fun l hl=>?_,fun l hl=>hI.qt l (by simp[hl]),fun l hl=>hl.elim (hI.pt l) fun e=>by rw[e];exact hva,by have:=hI.ms;simp at this;omega⟩
  rotate_left
  ·rcases hI.qd l hl with h|h
   ·exact .inl (.inl h)
   ·rcases List.mem_cons.1 h with h|h
    ·exact .inl (.inr h)
    ·exact .inr h
  have hb':=hb;obtain⟨⟨vc,vt,lm,vs0,many,ps,cv,hl,hvc,hcv,hcx,hvt,hmm,hby,hvs⟩,ok,nm,vl,cl,ll⟩:=hb';have hval:=y1q_ hI.ok a
  repeat' with_reducible first|refine W.asV ?_|refine W.fldp ?_|refine W.nck ?_|refine W.u0 ?_|refine W.mgetT (by assumption) ?_
  have hw:IntKind.i64.wrap (0-a) = -a:=by
   have:a≠0/\a.natAbs<=4000:=by
    unfold val at hva;rw[hI.len]at hva
    split at hva
    ·cases hva
    ·omega
   rw[wrapS]<;>omega
  rw[hw];refine W.len (hby (-a)).slT ?_;have hms:=hI.ms;simp at hms;refine W.bind ?_;refine W.mono (yde_ (P:=fun l=>P l\/l=a) (P':=fun l=>P l\/l=a) (p:=hasP (-a)) ⟨hb,⟨hA,hBx,_,hL,hO2⟩,hn,h1,h12,hI2⟩ hf (by omega) hI2.pt (fun i τ=>rfl) (.inr (.inr (y2z_ (-a)))) (hby (-a)).sl) fun r hr=>?_;obtain⟨r,τ3⟩:=r;obtain⟨T3,H3,hr⟩:=hr;dsimp only at H3 hr⊢;rcases hr with ⟨rfl,hc⟩|⟨rfl,vs3,q3,hC3,hV,hG3⟩
  ·repeat' (with_reducible refine W.stop ?_)
   exact⟨T3,(H.trans (H2.sub fun i hi=>by simp at hi⊢;omega)).trans H3,.inl ⟨rfl,hc⟩⟩
  ·repeat' (with_reducible refine W.next ?_)
   refine⟨k-1,by omega,T3,vs3,q3,_,(H.trans (H2.sub fun i hi=>by simp at hi⊢;omega)).trans H3,hC3,by omega,fun c hc=>?_,fun j hj=>hV j (hs j hj)⟩;by_cases hca : -a∈c
   ·exact hG3 c hc (by simp[hasP,hca])
   ·have hne:∀j∈c,-j=a->False:=fun j hj e=>hca (by rw[<-e];simpa using hj)
    refine⟨fun l0 hl0 hk=>hV l0 ((hG c hc).1 l0 hl0 fun j hj hjn=>(hk j hj hjn).resolve_right (hne j hj)),fun hk=>(hG c hc).2 fun j hj=>(hk j hj).resolve_right (hne j hj)⟩
end
abbrev clJ:Nat->Bool:=fun j=>decide (6<=j/\j<=13)
theorem ygj_{σ:Heap}{T:Tg}{l vars:Nat}{cls:Cls}{s:List Int}{x:AVal}(h:BaseS σ T l vars cls)(hn:Tn σ T)(hx:SlV .int (σ.at T 0) s x)(hs:∀k∈s,k≠0/\k.natAbs<=vars)(hsl:s.length<=1000000) :
  W (S.z89 (.ptr l 0) x σ) fun r=>(r.1.2=true↔¬Conf (lv cls) s)/\∃T',Hop clJ σ T r.2 T':=by
 have HH:Hop clJ σ T σ T:=Hop.refl hn;have hvl:=h.vl;unfold S.z89
 repeat' (with_reducible refine W.scP ?_)
 refine W.new0 hn fun l1 τ hl1 L h1 _=>?_;replace h:=h.hle L;replace hx:=hx.hle L;replace HH:=HH.hle L;replace hn:=hn.mono L;have hb:=h;obtain⟨⟨vc,vt,lm,vs0,many,ps,cv,hl,hvc,hcv,hcx,hvt,hmm,hby,hvs⟩,ok,nm,vl,cl,ll⟩:=hb
 repeat' with_reducible first|refine W.bind ?_|refine W.asI ?_|refine W.asV ?_|refine W.fldp ?_|refine W.nck ?_|refine W.u0 ?_
 refine W.mono (yh1_ hvl) fun r hr=>?_;obtain⟨r,τ2⟩:=r;obtain⟨e,hnx,L2,hA⟩:=hr;dsimp only at e hnx L2 hA⊢;subst e;have H2:Hop clJ τ T τ2 ((T.upd (τ.next+1) 6).upd τ.next 7):=yhd_ hn L2 (by omega) (by omega) (by omega) (by omega);have hA:AsgT τ2 ((T.upd (τ.next+1) 6).upd τ.next 7) (τ.next+1) τ.next (List.replicate (vars+1) 0):=⟨hA,by rw[y1e_ (by omega)];exact y16_,y16_⟩;replace h:=h.hop H2;replace hx:=hx.hop H2;replace h1:=h1.hop H2;replace HH:=HH.hop H2;replace hn:=H2.tn;refine W.newT 8 hn fun l7 τ3 T3 hl7 H3 h7 hnτ3=>?_;replace h:=h.hop H3;replace hx:=hx.hop H3;replace h1:=h1.hop H3;replace HH:=HH.hop H3;replace hA:=hA.hop H3;replace hn:=H3.tn
 repeat' (with_reducible refine W.scP ?_)
 refine W.stT h7 hn (Nat.le_of_ble_eq_true (by rfl)) fun τ4 H4 h7 hnτ4=>?_;replace h:=h.hop H4;replace hx:=hx.hop H4;replace h1:=h1.hop H4;replace HH:=HH.hop H4;replace hA:=hA.hop H4;replace hn:=H4.tn;refine W.newT 9 hn fun l10 τ5 T5 hl10 H5 h10 hnτ5=>?_;replace h:=h.hop H5;replace hx:=hx.hop H5;replace h1:=h1.hop H5;replace HH:=HH.hop H5;replace hA:=hA.hop H5;replace h7:=h7.hop H5;replace hn:=H5.tn;refine W.newT 13 hn fun l12 τ6 T6 hl12 H6 h12 hnτ6=>?_;replace h:=h.hop H6;replace hx:=hx.hop H6;replace h1:=h1.hop H6;replace HH:=HH.hop H6;replace hA:=hA.hop H6;replace h7:=h7.hop H6;replace h10:=h10.hop H6;replace hn:=H6.tn;refine W.stT h12 hn (Nat.le_of_ble_eq_true (by rfl)) fun τ7 H7 h12 hnτ7=>?_;replace h:=h.hop H7;replace hx:=hx.hop H7;replace h1:=h1.hop H7;replace HH:=HH.hop H7;replace hA:=hA.hop H7;replace h7:=h7.hop H7;replace h10:=h10.hop H7;replace hn:=H7.tn
 repeat' with_reducible first|refine W.bind ?_|refine W.len (by assumption) ?_
 obtain⟨f,hf,h12⟩:∃f,SetF f l7 l10/\Loc (τ7.at T6 13) l12 [f]:=by
  refine⟨_,?_,h12⟩;exact⟨fun l σ K=>rfl,fun l σ K=>rfl⟩
 have hz:zeros (List.replicate (vars+1) 0)<=vars+1:=by
  unfold zeros;exact Nat.le_trans (List.length_filter_le _ _) (by simp)
 have hv0:∀l,val (List.replicate (vars+1) 0) l≠1:=fun l=>by rw[yhv_];decide
 have hC:CL τ7 T6 l vars (τ.next+1) τ.next l7 l10 l1 l12 (vars+1) cls s (List.replicate (vars+1) 0) [] _ (fun _=>False):=
  ⟨h,⟨hA,h7,.nils,h10,Own.nil⟩,hn,h1,h12,⟨yh2_ _,by simp,fun l hl=>absurd hl (hv0 l),fun l hl=>absurd hl (hv0 l),fun l hl=>by simp at hl,fun l hl=>hl.elim,by simpa using hz⟩⟩
 refine W.mono (yct_ hC hf hx (by omega) hs hsl) fun r hr=>?_;obtain⟨r,τ8⟩:=r;obtain⟨T8,H8,hr⟩:=hr;dsimp only at H8 hr⊢;replace HH:=HH.hop H8;rcases hr with ⟨rfl,hc⟩|⟨rfl,vs8,q8,hC8,hs8⟩
 ·repeat' with_reducible refine W.ret ?_
  exact⟨by simp[hc],T8,HH⟩
 obtain⟨h1',h',hc2⟩:=(show _/\_/\_ from⟨hC8.h1,hC8.b,hC8.b⟩);obtain⟨⟨vc,vt,lm,vs0,many,ps,cv,hl,hvc,hcv,hcx,hvt,hmm,hby,hvs⟩,ok,nm,vl,cl,ll⟩:=h'
 repeat' with_reducible first|refine W.bind ?_|refine W.asV ?_|refine W.fldp ?_|refine W.nck ?_|refine W.u0 ?_|refine W.u3 ?_
 refine W.mono (yde_ (P:=fun _=>False) (P':=fun _=>False) (p:=y3m_) hC8 hf (by omega) (fun l hl=>hl.elim) (fun i τ=>rfl) (.inr (.inl rfl)) hvs.sl) fun r hr=>?_;obtain⟨r,τ9⟩:=r;obtain⟨T9,H9,hr⟩:=hr;dsimp only at H9 hr⊢;replace HH:=HH.hop H9;rcases hr with ⟨rfl,hc⟩|⟨rfl,vs9,q9,hC9,hV9,hG9⟩
 ·repeat' with_reducible refine W.ret ?_
  exact⟨by simp[hc],T9,HH⟩
 repeat' (with_reducible refine W.bind ?_)
 refine W.mono (yio_ hC9 hf (by omega) (fun c hc=>?_) fun k hk=>hV9 k (hs8 k hk)) fun r hr=>?_
 ·by_cases hcs:c.length<2
  ·exact hG9 c hc (by simp[y3m_,hcs])
  ·have hd:c.Nodup:=by rw[<-nm c hc];exact y3i_ c
   refine⟨fun l0 hl0 hk=>?_,fun hk=>?_⟩
   ·exfalso
    match c,hcs,hd,hk with
    |a::b::t,_,hd,hk=>
     have hab:a≠b:=by have:=List.nodup_cons.1 hd;exact fun e=>this.1 (by simp[e])
     by_cases e:a=l0
     ·exact hk b (by simp) (fun e2=>hab (e.trans e2.symm))
     ·exact hk a (by simp) e
    |[],h,_,_=>simp at h
    |[a],h,_,_=>simp at h
   ·match c,hcs,hk with
    |a::t,_,hk=>exact hk a (by simp)
    |[],h,_=>simp at h
 obtain⟨r,τ10⟩:=r;obtain⟨T10,H10,hr⟩:=hr;dsimp only at H10 hr⊢;replace HH:=HH.hop H10;rcases hr with ⟨rfl,hc⟩|⟨rfl,hc,hB⟩
 ·repeat' with_reducible refine W.ret ?_
  exact⟨by simp[hc],T10,HH⟩
 ·repeat' with_reducible first|refine W.ret ?_|refine W.asV ?_|refine W.u0 ?_
  exact⟨by simp[hc],T10,HH⟩
end
section
open Go
theorem Acc.at0{n0:Nat}{τ:Heap}{xs:List Int}{y:AVal}{T:Tg}(h:Acc .int n0 τ xs y)(hT:∀k,n0<=k->T k=0):SlV .int (τ.at T 0) xs y:=
 Fresh.at0 ⟨h.sl,fun l off len c e=>(h.loc l off len c e).1⟩ hT
theorem Acc.own{σ τ:Heap}{T:Tg}{xs:List Int}{y:AVal}{I:Nat->Bool}(h:Acc .int σ.next τ xs y)(hn:Tn σ T)(L:Hle σ τ)(t:Nat):∃T',Hop I σ T τ T'/\Own .int (τ.at T' t) xs y:=by
 rcases h with ⟨rfl,rfl⟩|⟨l,cs,rfl,h1,h2,h3,h4,h5⟩
 ·exact⟨T,Hop.of hn L,Own.nil⟩
 ·exact⟨T.upd l t,yiv_ hn L h1 h2,.inr ⟨l,0,none,cs,rfl,h2,at_of y16_ h3,(fun k e=>by cases e),by simpa using h4,fun i a hi=>by
   have:=h5 i a hi;rw[Nat.zero_add];exact this⟩⟩
theorem y3r_{σ:Heap}{T:Tg}{l vars:Nat}{cls:Cls}{c:List Int}{x:AVal}(h:BaseS σ T l vars cls)(hn:Tn σ T)(hx:SlV .int (σ.at T 0) c x)(hcl:c.length<=1000000) :
  W (S.z88 (.ptr l 0) x σ) fun r=>r.1=impl vars (lv cls) c/\∃T',Hop clJ σ T r.2 T':=by
 have HH:Hop clJ σ T σ T:=Hop.refl hn;obtain⟨⟨vc,vt,lm,vs0,many,ps,cv,hl,hvc,hcv,hcx,hvt,hmm,hby,hvs⟩,ok,nm,vl,cl,ll⟩:=(show _/\_/\_/\_/\_/\_ from⟨h.ex,h.ok,h.nm,h.vl,h.cl,h.ll⟩);unfold S.z88;refine W.call (ya3_ hl.up vl hx.up (by omega)) fun r hr=>?_;obtain⟨b,τ⟩:=r;obtain⟨hb,L⟩:=hr;dsimp only at hb L⊢;replace h:=h.hle L;replace hx:=hx.hle L;replace HH:=HH.hle L;replace hn:=hn.mono L;by_cases hR:y8_ vars c
 ·rw[hb.2 hR]
  refine W.condF rfl ?_
  repeat' (with_reducible refine W.len (by assumption) ?_)
  refine W.mk0 .int (by omega) (by omega) fun y τ2 L2 hA=>?_;have hx':=hx.up;have hn0:=hn
  repeat' with_reducible first|refine W.bind ?_|refine W.len (by assumption) ?_
  refine W.mono (P:=fun r=>Hle τ r.2/\Acc .int τ.next r.2 (negs c) r.1) ?_ fun r hr=>?_
  ·refine W.loop c.length (fun i (y:AVal×Int) τ'=>y.2=(i:Int)/\Hle τ τ'/\Acc .int τ.next τ' (negs (c.take i)) y.1) ⟨rfl,L2,by simpa using hA⟩ fun i y τ' hi hI=>?_
   obtain⟨y,j⟩:=y;obtain⟨rfl,L3,hA⟩:=hI;dsimp only at hA⊢;unfold S.z88.b0
   (with_reducible refine W.cnd (fun hc=>?_) (fun hc=>?_)<;>(try simp only[qq,Kd.ty]at hc)<;>(try (exfalso;omega)))
   ·obtain⟨a,ha⟩:∃a,c[i]?=some a:=⟨_,List.getElem?_eq_getElem (by omega)⟩
    have hb2:=hR a (List.mem_of_getElem? ha)
    repeat' (with_reducible refine W.ixIc (SlV.mono (by assumption) (by assumption)) (by assumption) ?_)
    have w:IntKind.i64.wrap (0-a) = -a:=by rw[wrapS]<;>omega
    rw[w];refine W.pushI hA L3 (by simp;omega) (by simp;omega) fun y' τ4 L4 hA4 _=>?_
    repeat' (with_reducible refine W.next ?_)
    refine⟨by omega,sk,L4,?_⟩;have:c.take (i+1)=c.take i++[a]:=by rw[List.take_add_one,ha];rfl
    rw[this];simpa[negs]using hA4
   ·repeat' (with_reducible refine W.stop ?_)
    rw[List.take_of_length_le (by omega)]at hA;exact⟨L3,hA⟩
  ·obtain⟨y,τ3⟩:=r
   obtain⟨L3,hA3⟩:=hr;dsimp only at L3 hA3⊢;have hy:=hA3.at0 fun k hk=>hn.z k hk;replace h:=h.hle L3;replace HH:=HH.hle L3;replace hn:=hn.mono L3
   repeat' (with_reducible refine W.bind ?_)
   refine W.mono (ygj_ h hn hy (fun k hk=>?_) (by simpa using hcl)) fun r hr=>?_
   ·obtain⟨a,ha,rfl⟩:=List.mem_map.1 hk
    have:=hR a ha;omega
   obtain⟨⟨v,b⟩,τ4⟩:=r;obtain⟨hb,T4,H4⟩:=hr;dsimp only at hb H4⊢;replace HH:=HH.hop H4
   repeat' with_reducible refine W.ret ?_
   refine⟨?_,T4,HH⟩;rw[Bool.eq_iff_iff,y1h_];by_cases hc:Conf (lv cls) (negs c)
   ·have:b≠true:=fun e=>hb.1 e hc
    simp[hc,hR,this]
   ·have:b=true:=hb.2 hc
    simp[hc,this]
 ·have:b=false:=by
   cases b
   ·rfl
   ·exact absurd (hb.1 rfl) hR
  subst this;refine W.condT rfl ?_
  repeat' with_reducible refine W.ret ?_
  refine⟨?_,T,HH⟩;rw[Bool.eq_iff_iff,y1h_];simp[hR]
theorem ygf_{σ:Heap}{T:Tg}{c:List Int}{x:AVal}{p:Int}(hn:Tn σ T)(hx:SlV .int (σ.at T 0) c x)(hcl:c.length<=1000000) :
  W (S.z98 x p σ) fun r=>∃T',Hop clJ σ T r.2 T'/\SlV .int r.2 (c.filter fun n => !(n==p)) r.1:=by
 have HH:Hop clJ σ T σ T:=Hop.refl hn;unfold S.z98;refine W.new0 hn fun k τ hk L hb _=>?_;replace hx:=hx.hle L;replace HH:=HH.hle L;replace hn:=hn.mono L;refine W.call (y7o_ hx.up hcl) fun r hr=>?_;obtain⟨y,τ2⟩:=r;obtain⟨hA,L2⟩:=hr;dsimp only at hA L2⊢;obtain⟨T2,H2,hO⟩:=hA.own (I:=clJ) hn L2 6;replace hb:=hb.hop H2;replace HH:=HH.hop H2;replace hn:=H2.tn;refine W.call (y6l_ (fun n=>n==p) hn hO (by omega) (fun n hn' Rt K=>?_) (fun τ' H n hn' Rt K=>?_)) fun r hr=>?_
 ·have hcell:=hb.up.at.cell (k:=0) rfl
  show((S.z99 n (.ptr k 0) τ2).bind fun x=>K (retV [.B] x) τ2)=_;unfold S.z99;simp only[ld,hcell,asK,if_true,Option.bind_some];rfl
 ·have hcell:=(hb.hop H).up.at.cell (k:=0) rfl
  show((S.z99 n (.ptr k 0) τ').bind fun x=>K (retV [.B] x) τ')=_;unfold S.z99;simp only[ld,hcell,asK,if_true,Option.bind_some];rfl
 ·obtain⟨y,τ3⟩:=r
  obtain⟨H3,hO⟩:=hr;dsimp only at H3 hO⊢
  repeat' with_reducible refine W.ret ?_
  exact⟨T2,HH.hop H3,hO.slT⟩
theorem yg6_{σ:Heap}{T:Tg}{l vars:Nat}{cls:Cls}{c:List Int}{x:AVal}(h:BaseS σ T l vars cls)(hn:Tn σ T)(hx:SlV .int (σ.at T 0) c x)(hcl:c.length<=400000)(hll:∀d∈lv cls,d.length<=400000) :
  W (S.z86 (.ptr l 0) x σ) fun r=>r.1=y1b_ vars (lv cls) c/\∃T',Hop clJ σ T r.2 T':=by
 have HH:Hop clJ σ T σ T:=Hop.refl hn;unfold S.z86;refine W.call (y3r_ h hn hx (by omega)) fun r hr=>?_;obtain⟨b,τ⟩:=r;obtain⟨hb,T1,H1⟩:=hr;dsimp only at hb H1⊢;subst hb;replace h:=h.hop H1;replace hx:=hx.hop H1;replace HH:=HH.hop H1;replace hn:=H1.tn
 (with_reducible refine W.cnd (fun hq=>?_) (fun hq=>?_)<;>(try simp only[qq,Kd.ty]at hq)<;>(try (exfalso;omega)))
 ·repeat' with_reducible refine W.ret ?_
  exact⟨by unfold y1b_;rw[hq];rfl,T1,HH⟩
 obtain⟨⟨vc,vt,lm,vs0,many,ps,cv,hl,hvc,hcv,hcx,hvt,hmm,hby,hvs⟩,ok,nm,vl,cl,ll⟩:=(show _/\_/\_/\_/\_/\_ from⟨h.ex,h.ok,h.nm,h.vl,h.cl,h.ll⟩)
 repeat' with_reducible first|refine W.bind ?_|refine W.len (by assumption) ?_
 cases hcc:c with
 |nil=>
  refine W.condT rfl ?_
  repeat' with_reducible refine W.ret ?_
  refine W.condT rfl ?_
  repeat' with_reducible refine W.ret ?_
  exact⟨by rw[y1r_,<-hcc,hq],T1,HH⟩
 | cons p t=>
  rw[<-hcc];refine W.condF (by rw[hcc];simp;omega) ?_
  repeat' (with_reducible refine W.bind ?_)
  refine W.mono (ya3_ hl.up vl hx.up (by omega)) fun r hr=>?_;obtain⟨b,τ2⟩:=r;obtain⟨hb,L2⟩:=hr;dsimp only at hb L2⊢;replace h:=h.hle L2;replace hx:=hx.hle L2;replace HH:=HH.hle L2;replace hl:=hl.hle L2;replace hvc:=hvc.hle L2;replace hcx:=hcx.hle L2;replace hby:=hby.hle L2;replace hmm:=hmm.hle L2;replace hn:=hn.mono L2
  repeat' with_reducible refine W.ret ?_
  by_cases hR:y8_ vars c
  ·rw[hb.2 hR]
   refine W.condF rfl ?_;have hp:=hR p (by rw[hcc];simp)
   repeat' with_reducible first|refine W.asV ?_|refine W.fldp ?_|refine W.nck ?_|refine W.u0 ?_
   refine W.ixI hx.up (i:=0) (a:=p) (by rw[hcc];rfl) (by omega) ?_
   repeat' (with_reducible refine W.mgetT (by assumption) ?_)
   have w:IntKind.i64.wrap (0-p) = -p:=by rw[wrapS]<;>omega
   rw[w];dsimp only;have hby0:Own .int (τ2.at T1 (tgL (-p))) (idsBy cls (hasP (-p))) ((look ps (-p)).getD .nils):=hby (-p);refine W.len hby0.slT ?_;have hidl:=y23_ cls (hasP (-p));have hx0:=hx;have h0:=h;have hl0:=hl;have hvc0:=hvc;have hcx0:=hcx;refine W.bind ?_;have hbv:y1b_ vars (lv cls) c=true↔∀d∈lv cls,-p∈d->impl vars (lv cls) (c++d.filter fun x => !(x == -p))=true:=by
    rw[hcc,y1k_,<-hcc,hq];simp[hR]
   refine W.loop (idsBy cls (hasP (-p))).length (fun i (y:Int) τ'=>y=(i:Int)/\∃T',Hop clJ σ T τ' T'/\Hop clJ τ2 T1 τ' T'/\∀(id:Nat) d,(id:Int)∈(idsBy cls (hasP (-p))).take i->clAt cls id=some d->impl vars (lv cls) (c++d.filter fun x => !(x == -p))=true) ⟨rfl,T1,HH,Hop.refl hn,by simp⟩ fun i y τ' hi hI=>?_;obtain⟨rfl,T',HH,H,hk⟩:=hI;have hx:=hx0.hop H;have hby:=hby0.hop H (by have:=y2z_ (-p);simp;omega);have h:=h0.hop H;replace hn:=H.tn;replace hl:=hl0.hop H;replace hvc:=hvc0.hop H;replace hcx:=hcx0.hop H;unfold S.z86.b0
   (with_reducible refine W.cnd (fun hc=>?_) (fun hc=>?_)<;>(try simp only[qq,Kd.ty]at hc)<;>(try (exfalso;omega)))
   ·obtain⟨z,hz'⟩:∃z,(idsBy cls (hasP (-p)))[i]?=some z:=⟨_,List.getElem?_eq_getElem (by omega)⟩
    obtain⟨id,d,rfl,hd,hpd⟩:=y3o_.1 (List.mem_of_getElem? hz');obtain⟨y,hy1,hy2⟩:=hcx id d hd;have hdm:d∈lv cls:=y2b_.2 ⟨id,hd⟩
    repeat' with_reducible first|refine W.asV ?_|refine W.fldp ?_|refine W.nck ?_|refine W.u0 ?_|refine W.u2 ?_
    refine W.ixV hvc.slT hy1 ?_;refine W.ixI hx.up (i:=0) (a:=p) (by rw[hcc];rfl) (by omega) ?_;rw[w];refine W.bind ?_;refine W.mono (ygf_ hn hy2 (by have:=hll d hdm;omega)) fun r hr=>?_;obtain⟨u,τ3⟩:=r;obtain⟨T3,H3,hu⟩:=hr;dsimp only at H3 hu⊢;replace hx:=hx.hop H3;replace h:=h.hop H3;replace H:=H.hop H3;replace HH:=HH.hop H3;replace hn:=H3.tn
    repeat' (with_reducible refine W.scalS (by assumption) ?_)
    refine W.newg fun k τ4 hk4 L4 hAt hg4 hn4=>?_;replace hx:=hx.hle L4;replace h:=h.hle L4;replace H:=H.hle L4;replace HH:=HH.hle L4;replace hn:=hn.mono L4;have hu:=hu.mono L4;have hxu:=hx.up;have hsl:SlV vIs τ4 [c,d.filter fun x => !(x == -p)] (.sl k 0 2 none):=.inr ⟨k,0,none,.rw,_,rfl,by omega,hg4,Nat.le_of_ble_eq_true rfl,fun i us hi=>by
     match i,hi with
     |0,hi=>cases hi;exact⟨x,rfl,hxu⟩
     |1,hi=>cases hi;exact⟨u,rfl,hu⟩
     |i+2,hi=>simp at hi⟩
    have hfl:(d.filter fun x => !(x == -p)).length<=400000:=Nat.le_trans (List.length_filter_le ..) (hll d hdm);obtain⟨z,τ5,ez,L5,hz⟩:=ygn_ hsl (by simp;omega) (by simp);refine W.eqn ez ?_;have hz:=hz.at0 fun k hk=>hn.z k hk;replace h:=h.hle L5;replace H:=H.hle L5;replace HH:=HH.hle L5;replace hn:=hn.mono L5
    repeat' (with_reducible refine W.bind ?_)
    have hflat:([c,d.filter fun x => !(x == -p)]:List (List Int)).flatten=c++d.filter fun x => !(x == -p):=by simp
    rw[hflat]at hz;refine W.mono (y3r_ h hn hz (by rw[List.length_append];omega)) fun r hr=>?_;obtain⟨b,τ6⟩:=r;obtain⟨hb,T6,H6⟩:=hr;dsimp only at hb H6⊢;subst hb;replace H:=H.hop H6;replace HH:=HH.hop H6
    skip
    (with_reducible refine W.cnd (fun hi2=>?_) (fun hi2=>?_)<;>(try simp only[qq,Kd.ty]at hi2)<;>(try (exfalso;omega)))
    ·repeat' with_reducible first|refine W.stop ?_|refine W.ret ?_
     refine⟨?_,T6,HH⟩;rw[Bool.eq_iff_iff,hbv];simp only[Bool.false_eq_true,false_iff];intro hall;have:=hall d hdm (by simpa[hasP]using hpd);rw[this]at hi2;cases hi2
    ·repeat' (with_reducible refine W.next ?_)
     refine⟨by omega,sk,T6,HH,H,fun id2 d2 hid hd2=>?_⟩;rw[List.take_add_one,hz']at hid;rcases List.mem_append.1 hid with h|h
     ·exact hk id2 d2 h hd2
     ·have e:id2=id:=by simp at h;omega
      subst e;rw[hd]at hd2;cases hd2;exact hi2
   ·repeat' with_reducible first|refine W.stop ?_|refine W.ret ?_
    rw[List.take_of_length_le (by omega)]at hk;refine⟨?_,T',HH⟩;rw[Bool.eq_iff_iff,hbv];simp only[true_iff];intro d hd hpd;obtain⟨id,hid⟩:=y2b_.1 hd;exact hk id d (y3o_.2 ⟨id,d,rfl,hid,by simpa[hasP]using hpd⟩) hid
  ·have hb2:b=false:=by
    cases b
    ·rfl
    ·exact absurd (hb.1 rfl) hR
   subst hb2;refine W.condT rfl ?_
   repeat' with_reducible refine W.ret ?_
   refine⟨?_,T1,HH⟩;rw[Bool.eq_iff_iff,hcc,y1k_,<-hcc,hq];simp[hR]
def MayF(bl:Bool)(f:AVal)(l:Nat):Prop:=∀{R:Type} (x:AVal) (σ:Heap) (K:AVal->Heap->Option R),callV S.z14.T f [x] σ K=(bif bl then S.z86 (.ptr l 0) x σ else S.z88 (.ptr l 0) x σ).bind fun r=>K (.bool r.1) r.2
theorem may_w{bl:Bool}{σ:Heap}{T:Tg}{l vars:Nat}{cls:Cls}{c:List Int}{x:AVal}(h:BaseS σ T l vars cls)(hn:Tn σ T)(hx:SlV .int (σ.at T 0) c x)(hcl:c.length<=400000)(hll:∀d∈lv cls,d.length<=400000) :
  W (bif bl then S.z86 (.ptr l 0) x σ else S.z88 (.ptr l 0) x σ) fun r=>r.1=mayC bl vars (lv cls) c/\∃T',Hop clJ σ T r.2 T':=by
 cases bl
 ·exact y3r_ h hn hx (by omega)
 ·exact yg6_ h hn hx hcl hll
theorem y7b_{bl:Bool}{vars:Int}{D:List (List Int)}{c:List Int}(h:mayC bl vars D c=true):y8_ vars c:=by
 cases bl
 ·exact(y1h_.1 h).1
 ·have h:y1b_ vars D c=true:=h
  cases c with
  |nil=>rw[y1r_]at h;exact(y1h_.1 h).1
  |cons p t=>
   rcases y1k_.1 h with h|h
   ·exact(y1h_.1 h).1
   ·exact h.1
theorem GlS.hop{I:Nat->Bool}{σ τ:Heap}{T T':Tg}{E:List Er}{t:Nat}(h:GlS E (σ.at T t))(H:Hop I σ T τ T')(hI:I t=false:=by rfl):GlS E (τ.at T' t):=h.mono (H.le hI)
theorem GlS.hle{σ τ:Heap}{T:Tg}{E:List Er}{t:Nat}(h:GlS E (σ.at T t))(L:Hle σ τ):GlS E (τ.at T t):=h.mono (L.ats T t)
theorem IsF.up{σ:Heap}{T:Tg}{v:AVal}{e:Flt}{t:Nat}(h:IsF (σ.at T t) v e):IsF σ v e:=h.mono at_le
abbrev stI:Nat->Bool:=fun j=>decide (1<=j)
theorem yau_{σ:Heap}{T:Tg}(hg:GlS [.proof] (σ.at T 0))(hn:Tn σ T)(i:Nat):W (ld σ (.ptr ygm_ 0) (.V) fun v26=>scal v26 (newK σ 2 [(.int .i64 (i:Int)),v26] fun l27 σ28=>some ((Sum.inr (AVal.ifc tAt (.ptr l27 0)):Unit⊕AVal),σ28))) fun r=>
  ∃v,r.1=.inr v/\Hle σ r.2/\IsF (r.2.at T 0) v (some (.proof,some (i:Int))):=by
 have hg':GlS [.proof] σ:=hg.mono at_le;obtain⟨v,hv⟩:=hg .proof (by decide);refine W.glob hg' .proof fun u hu=>?_;obtain rfl:=(hv.mono at_le).inj hu;refine W.escal hu ?_;refine W.new0 hn fun l τ _ L h1 hn=>?_
 repeat' with_reducible refine W.ret ?_
 exact⟨_,rfl,L,l,v,rfl,h1.at,hv.mono (L.ats T 0)⟩
theorem ydb_{bl:Bool}{σ:Heap}{T:Tg}{l vars:Nat}{cls:Cls}{ss:List (Bool×List Int)}{x f:AVal}(h:BaseS σ T l vars cls)(hn:Tn σ T)(hx:SlV vB (σ.at T 0) ss x)(hf:MayF bl f l)(hg:GlS [.proof] (σ.at T 0))
  (hR:∀s∈ss,s.2.length<=400000/\s.2.all inB=true) (hll:∀d∈lv cls,d.length<=400000) (hsz:cls.length+ss.length<=900000) :
  W (S.z14 (.ptr l 0) x f σ) fun r=>∃T',Hop stI σ T r.2 T'/\match runD bl vars 0 (lv cls) ss with
   | .inl k=>IsF (r.2.at T' 0) r.1 (some (.proof,some (k:Int)))
   | .inr D=>r.1=.nili/\∃cls',BaseS r.2 T' l vars cls'/\lv cls'=D/\(∀d∈lv cls',d.length<=400000)/\cls'.length<=cls.length+ss.length:=by
 have HH:Hop stI σ T σ T:=Hop.refl hn;have hx0:=hx;have hg0:=hg;unfold S.z14
 repeat' with_reducible first|refine W.bind ?_|refine W.len (by assumption) ?_
 refine W.loop ss.length (fun i (y:Int) τ=>y=(i:Int)/\∃T' cls',Hop stI σ T τ T'/\BaseS τ T' l vars cls'/\(∀d∈lv cls',d.length<=400000)/\cls'.length<=cls.length+i/\runD bl vars 0 (lv cls) ss=runD bl vars i (lv cls') (ss.drop i)) ⟨rfl,T,cls,HH,h,hll,by omega,rfl⟩ fun i y τ hi hI=>?_;obtain⟨rfl,T',cls',HH,h,hll,hcl,hrun⟩:=hI;replace hx:=hx0.hop HH;replace hg:=hg0.hop HH;replace hn:=HH.tn;unfold S.z14.b0
 (with_reducible refine W.cnd (fun hc=>?_) (fun hc=>?_)<;>(try simp only[qq,Kd.ty]at hc)<;>(try (exfalso;omega)))
 ·refine W.bind ?_
  refine W.ixL hx at_le (by omega) fun p us s hs hp hr=>?_;have hms:=List.mem_of_getElem? hs;obtain⟨y,rfl,hy⟩:=y9x_ hr;obtain⟨del,c⟩:=s;obtain⟨hcl2,hin⟩:=hR _ hms;dsimp only at hy hcl2 hin;rw[y5g_ hs]at hrun;have hp':=hp.mono (at_le (σ:=τ) (T:=T') (i:=0))
  repeat' (with_reducible refine W.ldGG (by assumption) (by with_unfolding_all rfl) ?_)
  refine W.newT 14 hn fun lb τ2 T2 hlb H2 hb hnτ2=>?_;replace hx:=hx.hop H2;replace hg:=hg.hop H2;replace h:=h.hop H2;replace HH:=HH.hop H2;replace hy:=hy.hop H2;replace hn:=H2.tn
  repeat' (with_reducible refine W.e3 ?_)
  refine W.stT hb hn (Nat.le_of_ble_eq_true (by rfl)) fun τ3 H3 hb hnτ3=>?_;replace hx:=hx.hop H3;replace hg:=hg.hop H3;replace h:=h.hop H3;replace HH:=HH.hop H3;replace hy:=hy.hop H3;replace hn:=H3.tn;have hrunc:runD bl vars i (lv cls') ((del,c)::ss.drop (i+1))=bif del then(if normL c∈lv cls' then runD bl vars (i+1) ((lv cls').erase (normL c)) (ss.drop (i+1))else .inl i) else
   bif mayC bl vars (lv cls') c then runD bl vars (i+1) (lv cls'++[normL c]) (ss.drop (i+1))else .inl i:=by rw[runD]
  rw[hrunc]at hrun
  repeat' with_reducible first|refine W.bind ?_|refine W.asB ?_|refine W.u0 ?_
  cases del with
  | true=>
   simp only[cond_true]at hrun;refine W.condT rfl ?_
   repeat' with_reducible first|refine W.bind ?_|refine W.asV ?_|refine W.u0 ?_
   refine W.mono (yk7_ h hn hy hin (by omega)) fun r hr=>?_;obtain⟨b,τ4⟩:=r;obtain⟨hbm,T4,cls4,H4,h,hlv4,hlen4⟩:=hr;dsimp only at hbm H4 h hlv4⊢;replace hx:=hx.hop H4;replace hg:=hg.hop H4;replace HH:=HH.hop H4;replace hb:=hb.hop H4;replace hn:=H4.tn
   repeat' with_reducible refine W.ret ?_
   by_cases hm:normL c∈lv cls'
   ·rw[hbm.2 hm]
    refine W.condT rfl ?_
    repeat' with_reducible first|refine W.next ?_|refine W.ret ?_
    refine⟨by omega,sk,T4,cls4,HH,h,fun d hd=>hll d ?_,by omega,?_⟩
    ·rw[hlv4]at hd;exact List.mem_of_mem_erase hd
    ·rw[hrun,if_pos hm,hlv4]
   ·have e:b=false:=by
     cases b
     ·rfl
     ·exact absurd (hbm.1 rfl) hm
    subst e;refine W.condF rfl ?_
    repeat' with_reducible first|refine W.bind ?_|refine W.asB ?_|refine W.u0 ?_
    refine W.condT rfl ?_
    repeat' with_reducible refine W.ret ?_
    refine W.condT rfl ?_;refine W.mono (yau_ hg hn i) fun r hr=>?_;obtain⟨r,τ5⟩:=r;obtain⟨v,e,L5,hF⟩:=hr;dsimp only at e L5 hF⊢;subst e
    repeat' with_reducible first|refine W.stop ?_|refine W.ret ?_
    rw[hrun,if_neg hm];exact⟨T4,HH.hle L5,hF⟩
  | false=>
   simp only[cond_false]at hrun;refine W.condF rfl ?_
   repeat' with_reducible refine W.ret ?_
   refine W.condF rfl ?_
   repeat' with_reducible first|refine W.bind ?_|refine W.asB ?_|refine W.u0 ?_
   refine W.condF rfl ?_
   repeat' with_reducible first|refine W.asV ?_|refine W.u0 ?_
   refine W.to (hf ..) ?_
   repeat' (with_reducible refine W.bind ?_)
   refine W.mono (may_w h hn hy hcl2 hll) fun r hr=>?_;obtain⟨b,τ4⟩:=r;obtain⟨hbm,T4,H4⟩:=hr;dsimp only at hbm H4⊢;replace hx:=hx.hop H4;replace hg:=hg.hop H4;replace HH:=HH.hop H4;replace hb:=hb.hop H4;replace h:=h.hop H4;replace hy:=hy.hop H4;replace hn:=H4.tn
   repeat' (with_reducible refine W.asB ?_)
   cases hmay:mayC bl vars (lv cls') c with
   | true=>
    rw[hmay]at hbm hrun;subst hbm;refine W.condF rfl ?_
    repeat' with_reducible first|refine W.bind ?_|refine W.asV ?_|refine W.u0 ?_
    refine W.mono (add_w h hn hy (by omega) (by omega)) fun r hr=>?_;obtain⟨b,τ5⟩:=r;obtain⟨h1,_,h3⟩:=hr;dsimp only at h1 h3⊢;have hb1:=h1.2 (y7b_ hmay);subst hb1;obtain⟨T5,H5,h⟩:=h3 (y7b_ hmay)
    repeat' with_reducible refine W.ret ?_
    refine W.condF rfl ?_
    repeat' with_reducible first|refine W.next ?_|refine W.ret ?_
    have hnl:=y2m_ c;refine⟨by omega,sk,T5,_,HH.hop H5,h,fun d hd=>?_,by simp;omega,?_⟩
    ·rw[y47_]at hd
     rcases List.mem_append.1 hd with hd|hd
     ·exact hll d hd
     ·rw[List.mem_singleton.1 hd];omega
    ·rw[hrun,y47_];rfl
   |false=>
    rw[hmay]at hbm hrun;subst hbm;refine W.condT rfl ?_
    repeat' with_reducible refine W.ret ?_
    refine W.condT rfl ?_;refine W.mono (yau_ hg hn i) fun r hr=>?_;obtain⟨r,τ5⟩:=r;obtain⟨v,e,L5,hF⟩:=hr;dsimp only at e L5 hF⊢;subst e
    repeat' with_reducible first|refine W.stop ?_|refine W.ret ?_
    rw[hrun];exact⟨T4,HH.hle L5,hF⟩
 ·repeat' with_reducible first|refine W.stop ?_|refine W.ret ?_
  rw[List.drop_eq_nil_of_le (by omega)]at hrun;rw[hrun];exact⟨T',HH,rfl,cls',h,rfl,hll,by omega⟩
end
section
open Go
section
variable{n:Int}{c:List Int}{ss:List (Bool×List Int)}
theorem ydo_:∀{c:List Int} {n:Int},n<=maxV n c/\(∀x∈c,(x.natAbs:Int)<=maxV n c)
 |[],n=>⟨Int.le_refl _,fun x hx=>by cases hx⟩
 |y::t,n=>by
  have e:maxV n (y::t)=maxV (if(y.natAbs:Int)>n then y.natAbs else n) t:=rfl;obtain⟨h1,h2⟩:=ydo_ (c:=t) (n:=if(y.natAbs:Int)>n then y.natAbs else n);rw[e];refine⟨by split at h1<;>split<;>omega,fun x hx=>?_⟩;rcases List.mem_cons.1 hx with rfl|hx
  ·split at h1<;>split<;>omega
  ·exact h2 x hx
theorem yd3_{m:Int}:∀{c:List Int} {n:Int},n<=m->(∀x∈c,(x.natAbs:Int)<=m)->maxV n c<=m
 |[],n,h,_=>h
 |y::t,n,h,k=>yd3_ (c:=t) (n:=if(y.natAbs:Int)>n then y.natAbs else n) (by have:=k y (by simp);split<;>omega) fun x hx=>k x (by simp[hx])
theorem y7s_:∀{ss:List (Bool×List Int)} {n:Int},n<=y5_ n ss/\(∀s∈ss,∀x∈s.2,(x.natAbs:Int)<=y5_ n ss)
 |[],n=>⟨Int.le_refl _,fun x hx=>by cases hx⟩
 |y::t,n=>by
  have e:y5_ n (y::t)=y5_ (maxV n y.2) t:=rfl;obtain⟨h1,h2⟩:=y7s_ (ss:=t) (n:=maxV n y.2);obtain⟨h3,h4⟩:=ydo_ (c:=y.2) (n:=n);rw[e];refine⟨by omega,fun s hs x hx=>?_⟩;rcases List.mem_cons.1 hs with rfl|hs
  ·have:=h4 x hx;omega
  ·exact h2 s hs x hx
theorem y81_{m:Int}:∀{ss:List (Bool×List Int)} {n:Int},n<=m->(∀s∈ss,∀x∈s.2,(x.natAbs:Int)<=m)->y5_ n ss<=m
 |[],n,h,_=>h
 |y::t,n,h,k=>y81_ (ss:=t) (n:=maxV n y.2) (yd3_ h (k y (by simp))) fun s hs=>k s (by simp[hs])
theorem yfx_{c:List Int}{n a:Int}:maxV n (c++[a])=if(a.natAbs:Int)>maxV n c then(a.natAbs:Int)else maxV n c:=by
 unfold maxV;rw[List.foldl_append];rfl
theorem ybe_{ss:List (Bool×List Int)}{n:Int}{s:Bool×List Int}:y5_ n (ss++[s])=maxV (y5_ n ss) s.2:=by
 unfold y5_;rw[List.foldl_append];rfl
theorem y4n_{vars:Int}{c:List Int}:badC vars c=false↔y8_ vars c:=by
 unfold badC y8_;simp[List.any_eq_false,yi_]
theorem y3s_{vars:Int}{cs:List (List Int)}(h:chkC vars cs=none):0<=vars/\vars<=4000/\cs.length<=20000/\cs.flatten.length<=80000/\∀c∈cs,y8_ vars c:=by
 unfold chkC at h
 split at h
 ·cases h
 ·rename_i hb
  have h:cs.findIdx? (badC vars)=none:=by
   cases hf:cs.findIdx? (badC vars) with
   |none=>rfl
   |some k=>rw[hf]at h;cases h
  rw[List.findIdx?_eq_none_iff]at h;exact⟨by omega,by omega,by omega,by omega,fun c hc=>y4n_.1 (by simpa using h c hc)⟩
theorem y52_(h:chkP ss=none):(yf_ ss).flatten.length<=320000/\∀s∈ss,y8_ 4000 s.2:=by
 unfold chkP at h
 split at h
 ·cases h
 ·rename_i hb
  have h:(yf_ ss).findIdx? (badC 4000)=none:=by
   cases hf:(yf_ ss).findIdx? (badC 4000) with
   |none=>rfl
   |some k=>rw[hf]at h;cases h
  rw[List.findIdx?_eq_none_iff]at h;exact⟨by omega,fun s hs=>y4n_.1 (by simpa using h s.2 (List.mem_map_of_mem hs))⟩
theorem y5u_{s:Bool×List Int}(h:s∈ss):s.2.length<=(yf_ ss).flatten.length:=y60_ (List.mem_map_of_mem (f:=(·.2)) h)
end
theorem yh5_{σ:Heap}{ss:List (Bool×List Int)}{x:AVal}(hx:SlV vB σ ss x)(hb:(yf_ ss).flatten.length<=1000000000)(hl:ss.length<=1000000000) :
  W (loopW (S.z55.b0 x (ss.length:Int)) (0,0) σ) fun r=>r.1=((yf_ ss).flatten.length:Int)/\Hle σ r.2:=by
 have hll:(yf_ ss).length=ss.length:=by simp[yf_]
 refine W.loop ss.length (fun i (y:Int×Int) τ=>y=((((yf_ ss).take i).flatten.length:Int),(i:Int))/\Hle σ τ) ⟨by simp,Hle.refl _⟩ fun i y τ hi hI=>?_;obtain⟨rfl,L⟩:=hI;unfold S.z55.b0;dsimp only
 (with_reducible refine W.cnd (fun hc=>?_) (fun hc=>?_)<;>(try simp only[qq,Kd.ty]at hc)<;>(try (exfalso;omega)))
 ·refine W.ixL hx L (by omega) fun p us s hs hp hr=>?_
  obtain⟨y,rfl,hy⟩:=y9x_ hr;have hp':=hp.mono L;have hy':=hy.mono L;have hz:(yf_ ss)[i]?=some s.2:=by unfold yf_;rw[List.getElem?_map,hs];rfl
  repeat' (with_reducible refine W.ldGG (by assumption) (by with_unfolding_all rfl) ?_)
  refine W.new fun l τ2 hl L2 h2 hnτ2=>?_
  repeat' (with_reducible refine W.e3 ?_)
  refine W.st0 h2 (by rfl) fun τ3 L3 hnτ3 h2=>?_
  repeat' with_reducible first|refine W.next ?_|refine W.asV ?_|refine W.len (by assumption) ?_|refine W.e0 ?_
  have h1:=y30_ (yf_ ss) (i+1);rw[yn_ hz,List.length_append]at h1;have:i<ss.length:=by omega
  refine⟨this,?_,L.trans (L2.ofk (by omega) L3)⟩;rw[yn_ hz,List.length_append,sk]
  congr 1
  rw[wrapS]<;>omega
 ·repeat' (with_reducible refine W.stop ?_)
  rw[List.take_of_length_le (by omega)];exact⟨rfl,L⟩
theorem yho_{σ0 σ:Heap}{c:List Int}{x p30:AVal}{k:Nat}{a:Int}(hg:GlS [.range] σ0)(hx:SlV .int σ0 c x)(hl:c.length<=1000000000)(L:Hle σ0 σ) :
  W (loopW (S.z55.b1 (k:Int) p30 a x (c.length:Int)) 0 σ) fun r=>Hle σ0 r.2/\bif badC 4000 c then∃v,r.1=.inr v/\IsF r.2 v (some (.range,some (k:Int)))else r.1=.inl ():=by
 refine W.loop c.length (fun i (y:Int) τ=>y=(i:Int)/\Hle σ0 τ/\∀l∈c.take i,isL l 4000=true) ⟨rfl,L,by simp⟩ fun i y τ hi hI=>?_;obtain⟨rfl,L,hI⟩:=hI;unfold S.z55.b1
 (with_reducible refine W.cnd (fun hc=>?_) (fun hc=>?_)<;>(try simp only[qq,Kd.ty]at hc)<;>(try (exfalso;omega)))
 ·obtain⟨z,hz⟩:∃z,c[i]?=some z:=⟨_,List.getElem?_eq_getElem (by omega)⟩
  have hx':=hx.mono L
  repeat' with_reducible first|refine W.bind ?_|refine W.e2 ?_
  refine W.to (y18_ (by omega) (by omega)) ?_
  repeat' with_reducible refine W.ret ?_
  (with_reducible refine W.cnd (fun hq=>?_) (fun hq=>?_)<;>(try simp only[qq,Kd.ty]at hq)<;>(try (exfalso;omega)))
  ·refine W.glob (hg.mono L) .range fun v hv=>?_
   unfold S.z56;refine W.bind ?_;refine W.escal hv ?_;refine W.new fun l τ2 hl L2 h2 hnτ2=>?_
   repeat' with_reducible first|refine W.stop ?_|refine W.ret ?_
   have hb:badC 4000 c=true:=by
    unfold badC;rw[List.any_eq_true];exact⟨z,List.mem_of_getElem? hz,by simpa using hq⟩
   rw[hb];exact⟨L.trans L2,_,rfl,l,v,rfl,h2.at,hv.mono L2⟩
  ·repeat' (with_reducible refine W.next ?_)
   refine⟨by omega,sk,L,fun l hl=>?_⟩;rw[List.take_add_one,hz]at hl;rcases List.mem_append.1 hl with h|h
   ·exact hI l h
   ·have:l=z:=by simpa using h
    rw[this];exact hq
 ·repeat' (with_reducible refine W.stop ?_)
  rw[List.take_of_length_le (by omega)]at hI;have hb:badC 4000 c=false:=by
   unfold badC;rw[List.any_eq_false];intro l hl;simp[hI l hl]
  rw[hb];exact⟨L,rfl⟩
theorem yc6_{σ:Heap}{ss:List (Bool×List Int)}{x:AVal}(hg:GlS [.limit,.range] σ)(hx:SlV vB σ ss x)(hb:(yf_ ss).flatten.length<=1000000000)(hl:ss.length<=1000000000) :
  W (S.z55 x σ) fun r=>IsF r.2 r.1 (chkP ss)/\Hle σ r.2:=by
 have hll:(yf_ ss).length=ss.length:=by simp[yf_]
 unfold S.z55
 repeat' with_reducible first|refine W.bind ?_|refine W.len (by assumption) ?_
 refine W.mono (yh5_ hx hb hl) fun r hr=>?_;obtain⟨r,τ⟩:=r;obtain⟨e,L⟩:=hr;dsimp only at e L⊢;subst e
 (with_reducible refine W.cnd (fun hq=>?_) (fun hq=>?_)<;>(try simp only[qq,Kd.ty]at hq)<;>(try (exfalso;omega)))
 ·refine W.glob (hg.mono L) .limit fun v hv=>?_
  repeat' with_reducible refine W.ret ?_
  have e:chkP ss=some (.limit,none):=if_pos (by omega);rw[e];exact⟨hv,L⟩
 ·have e:chkP ss=((yf_ ss).findIdx? (badC 4000)).map fun k=>(.range,some (k:Int)):=if_neg (by omega)
  rw[e]
  repeat' with_reducible first|refine W.bind ?_|refine W.len (by assumption) ?_
  refine W.loop ss.length (fun i (y:Int) τ=>y=(i:Int)/\Hle σ τ/\∀j a,j<i->(yf_ ss)[j]?=some a->badC 4000 a=false) ⟨rfl,L,upto0⟩ fun i y τ' hi hI=>?_;obtain⟨rfl,L',hI⟩:=hI;unfold S.z55.b2
  (with_reducible refine W.cnd (fun hc=>?_) (fun hc=>?_)<;>(try simp only[qq,Kd.ty]at hc)<;>(try (exfalso;omega)))
  ·refine W.ixL hx L' (by omega) fun p us s hs hp hr=>?_
   obtain⟨y,rfl,hy⟩:=y9x_ hr;have hp':=hp.mono L';have hz:(yf_ ss)[i]?=some s.2:=by unfold yf_;rw[List.getElem?_map,hs];rfl
   repeat' (with_reducible refine W.ldGG (by assumption) (by with_unfolding_all rfl) ?_)
   refine W.new fun l τ2 hl L2 h2 hnτ2=>?_
   repeat' (with_reducible refine W.e3 ?_)
   refine W.st0 h2 (by rfl) fun τ3 L3 hnτ3 h2=>?_;have L3:=L2.ofk (by omega) L3
   repeat' with_reducible first|refine W.bind ?_|refine W.asV ?_|refine W.len (by assumption) ?_|refine W.e0 ?_
   refine W.mono (yho_ (k:=i) (hg.sub (by decide)) hy (by have:=y5u_ (List.mem_of_getElem? hs);omega) (L'.trans L3)) fun r hr=>?_;obtain⟨r,τ4⟩:=r;obtain⟨L4,hr⟩:=hr;dsimp only at L4 hr⊢;cases hbad:badC 4000 s.2 with
   |true=>
    rw[hbad]at hr;obtain⟨v,rfl,hF⟩:=hr
    repeat' with_reducible first|refine W.stop ?_|refine W.ret ?_
    rw[y6q_ (p:=badC 4000) (i:=i) hI hz hbad];exact⟨hF,L4⟩
   |false=>
    rw[hbad]at hr;have hr:r=.inl ():=hr;subst hr
    repeat' (with_reducible refine W.next ?_)
    exact⟨by omega,sk,L4,upto (P:=fun _ a=>badC 4000 a=false) hI hz hbad⟩
  ·repeat' with_reducible first|refine W.stop ?_|refine W.ret ?_
   rw[y6n_ (p:=badC 4000) (i:=i) hI (by omega)];exact⟨rfl,L'⟩
end
section
open Go
theorem y3b_{I:Nat->Bool}{σ τ:Heap}{T:Tg}(H:Hop I σ Tz τ T)(h0:I 0=false:=by rfl):Hle σ τ:=⟨H.next,fun k o hk hg=>H.get k o hk h0 hg⟩
theorem SlV.tz{α:Type}{v:Vw α}{σ τ:Heap}{T:Tg}{I:Nat->Bool}{xs:List α}{x:AVal}(h:SlV v σ xs x)(H:Hop I σ Tz τ T)(hI:I 0=false:=by rfl):SlV v (τ.at T 0) xs x:=by
 have h:SlV v (σ.at Tz 0) xs x:=by rw[at_tz];exact h
 exact h.hop H hI
theorem GlS.tz{σ τ:Heap}{T:Tg}{I:Nat->Bool}{E:List Er}(h:GlS E σ)(H:Hop I σ Tz τ T)(hI:I 0=false:=by rfl):GlS E (τ.at T 0):=by
 have h:GlS E (σ.at Tz 0):=by rw[at_tz];exact h
 exact h.hop H hI
theorem y3g_{vars:Int}{cs:List (List Int)}{ss:List (Bool×List Int)}(hC:chkC vars cs=none)(hP:chkP ss=none):((y5_ vars ss).toNat:Int)=y5_ vars ss/\y5_ vars ss<=4000/\vars<=y5_ vars ss/\∀s∈ss,y8_ (y5_ vars ss) s.2:=by
 obtain⟨h1,h2,_⟩:=y3s_ hC;obtain⟨_,h3⟩:=y52_ hP;obtain⟨h4,h5⟩:=y7s_ (ss:=ss) (n:=vars);refine⟨by omega,y81_ h2 fun s hs x hx=>by have:=h3 s hs x hx;omega,h4,fun s hs x hx=>?_⟩;have:=h3 s hs x hx;have:=h5 s hs x hx;omega
theorem yid_{σ0 σ:Heap}{vars:Int}{ss:List (Bool×List Int)}{y p11:AVal}(hy:SlV vB σ0 ss y)(hs:∀s∈ss,s.2.length<=1000000000/\∀x∈s.2,-4000<=x/\x<=4000)(hl:ss.length<=1000000000)(L:Hle σ0 σ) :
  W (loopW (S.z13.b1 p11 y (ss.length:Int)) (vars,0) σ) fun r=>r.1=y5_ vars ss/\Hle σ0 r.2:=by
 refine W.loop ss.length (fun i (z:Int×Int) τ=>z=(y5_ vars (ss.take i),(i:Int))/\Hle σ0 τ) ⟨rfl,L⟩ fun i z τ hi hI=>?_;obtain⟨rfl,L⟩:=hI;unfold S.z13.b1;dsimp only
 (with_reducible refine W.cnd (fun hc=>?_) (fun hc=>?_)<;>(try simp only[qq,Kd.ty]at hc)<;>(try (exfalso;omega)))
 ·refine W.ixL hy L (by omega) fun p us s hsi hp hr=>?_
  have hms:=List.mem_of_getElem? hsi;obtain⟨w,rfl,hw⟩:=y9x_ hr;obtain⟨hsl,hsx⟩:=hs s hms;have hp':=hp.mono L;have hw':=hw.mono L
  repeat' (with_reducible refine W.ldGG (by assumption) (by with_unfolding_all rfl) ?_)
  refine W.new fun l τ2 hl L2 h2 hnτ2=>?_
  repeat' (with_reducible refine W.e3 ?_)
  refine W.st0 h2 (by rfl) fun τ3 L3 hnτ3 h2=>?_;have L3:=L2.ofk (by omega) L3;replace hw':=hw'.mono L3;have hnx:=L3.next
  repeat' with_reducible first|refine W.bind ?_|refine W.asV ?_|refine W.len (by assumption) ?_|refine W.e0 ?_
  refine W.mono (P:=fun r=>r=maxV (y5_ vars (ss.take i)) s.2) ?_ fun r hr=>?_
  ·refine W.loopP s.2.length (fun j (z:Int×Int)=>z=(maxV (y5_ vars (ss.take i)) (s.2.take j),(j:Int))) rfl fun j z hj hI=>?_
   subst hI;unfold S.z13.b0;dsimp only
   (with_reducible refine W.cnd (fun hq=>?_) (fun hq=>?_)<;>(try simp only[qq,Kd.ty]at hq)<;>(try (exfalso;omega)))
   ·obtain⟨a,ha⟩:∃a,s.2[j]?=some a:=⟨_,List.getElem?_eq_getElem (by omega)⟩
    have:=hsx a (List.mem_of_getElem? ha)
    repeat' with_reducible first|refine W.bind ?_|refine W.e2 ?_
    refine W.to (y6v_ ⟨by omega,by omega⟩) ?_
    repeat' with_reducible first|refine W.nextP ?_|refine W.ret ?_
    refine⟨by omega,?_⟩;have ht:s.2.take (j+1)=s.2.take j++[a]:=by rw[List.take_add_one,ha];rfl
    rw[ht,yfx_,sk]
   ·repeat' (with_reducible refine W.stopP ?_)
    rw[List.take_of_length_le (l:=s.2) (by omega)]
  ·subst hr
   repeat' (with_reducible refine W.next ?_)
   have ht:ss.take (i+1)=ss.take i++[s]:=by rw[List.take_add_one,hsi];rfl
   refine⟨by omega,?_,L.trans L3⟩;rw[ht,ybe_,sk]
 ·repeat' (with_reducible refine W.stop ?_)
  rw[List.take_of_length_le (by omega)];exact⟨rfl,L⟩
theorem yhy_{σ:Heap}{vars:Int}{cs:List (List Int)}{ss:List (Bool×List Int)}{x y:AVal}(hg:GlS [.limit,.range] σ)(hx:SlV vIs σ cs x)(hy:SlV vB σ ss y)(h1:cs.flatten.length<=1000000000)(h2:cs.length<=1000000000)(h3:(yf_ ss).flatten.length<=1000000000)(h4:ss.length<=800000) :
  W (S.z13 (.agg [.int .i64 vars,x]) y σ) fun r=>Hle σ r.2/\match preF vars cs ss with
   |some f=>IsF r.2 r.1.2.2 (some f)
   |none=>∃l T cls,r.1=(.ptr l 0,y5_ vars ss,.nili)/\Hop own0 σ Tz r.2 T/\BaseS r.2 T l (y5_ vars ss).toNat cls/\lv cls=cs.map normL/\cls.length=cs.length:=by
 unfold S.z13
 repeat' (with_reducible refine W.e3 ?_)
 refine W.new fun l τ hl L h hnτ=>?_;replace hg:=hg.mono L;replace hx:=hx.mono L;replace hy:=hy.mono L;have hnx:=L.next
 repeat' with_reducible first|refine W.bind ?_|refine W.e1 ?_
 refine W.mono (ycj_ hg hx h1 h2) fun r hr=>?_;obtain⟨v,τ2⟩:=r;obtain⟨hF,L2⟩:=hr;dsimp only at hF L2⊢;replace hg:=hg.mono L2;replace hx:=hx.mono L2;replace hy:=hy.mono L2;replace h:=h.mono L2;replace L:=L.mono L2;have hnx:=L2.next;refine W.fnil hF ?_;unfold preF;cases hC:chkC vars cs with
 |some f=>
  rw[hC]at hF
  repeat' (first|(with_reducible refine W.ret ?_)|(with_reducible refine W.condT ?_ ?_;focus (first|(simp only[qq,Kd.ty];done)|(simp only[qq,Kd.ty];omega)|assumption)))
  exact⟨L,hF⟩
 | none=>
  dsimp only;refine W.condF rfl ?_
  repeat' (with_reducible refine W.bind ?_)
  refine W.mono (yc6_ hg hy h3 (by omega)) fun r hr=>?_;obtain⟨v,τ3⟩:=r;obtain⟨hF,L3⟩:=hr;dsimp only at hF L3⊢;replace hg:=hg.mono L3;replace hx:=hx.mono L3;replace hy:=hy.mono L3;replace h:=h.mono L3;replace L:=L.mono L3;have hnx:=L3.next;refine W.fnil hF ?_;cases hP:chkP ss with
  |some f=>
   rw[hP]at hF
   repeat' (first|(with_reducible refine W.ret ?_)|(with_reducible refine W.condT ?_ ?_;focus (first|(simp only[qq,Kd.ty];done)|(simp only[qq,Kd.ty];omega)|assumption)))
   exact⟨L,hF⟩
  |none=>
   obtain⟨g1,g2,g3,g4⟩:=y3g_ hC hP;obtain⟨c1,c2,c3,c4,c5⟩:=y3s_ hC;obtain⟨p1,p2⟩:=y52_ hP;dsimp only;refine W.condF rfl ?_
   repeat' with_reducible first|refine W.bind ?_|refine W.asI ?_|refine W.len (by assumption) ?_|refine W.e0 ?_
   refine W.mono (yid_ (vars:=vars) hy (fun s hs=>⟨by have:=y5u_ hs;omega,fun x hx=>by have:=p2 s hs x hx;omega⟩) (by omega) (Hle.refl _)) fun r hr=>?_;obtain⟨v,τ4⟩:=r;obtain⟨e,L4⟩:=hr;dsimp only at e L4⊢;subst e;replace hg:=hg.mono L4;replace hx:=hx.mono L4;replace hy:=hy.mono L4;replace h:=h.mono L4;replace L:=L.mono L4;have hnx:=L4.next
   repeat' with_reducible first|refine W.bind ?_|refine W.asV ?_|refine W.e0 ?_
   rw[<-g1];refine W.mono (yka_ (T:=Tz) Tn.tz (by rw[at_tz];exact hx) (by omega) (fun c hc k hk=>by have:=c5 c hc k hk;omega) (by omega) fun c hc=>by have:=y60_ hc;omega) fun r hr=>?_;obtain⟨v,τ5⟩:=r;obtain⟨lb,T5,cls,e,H5,hB,hlv,hlen⟩:=hr;dsimp only at e H5 hB⊢;subst e
   repeat' with_reducible refine W.ret ?_
   have H:Hop own0 σ Tz τ5 T5:=(Hop.of Tn.tz L).trans H5;exact⟨y3b_ H,lb,T5,cls,by rw[g1],H,hB,hlv,hlen⟩
structure Began(σ τ:Heap)(T:Tg)(l:Nat)(cls:Cls)(vars:Int)(cs:List (List Int))(ss:List (Bool×List Int)):Prop where
 g1:((y5_ vars ss).toNat:Int)=y5_ vars ss
 g2:y5_ vars ss<=4000
 H:Hop own0 σ Tz τ T
 hB:BaseS τ T l (y5_ vars ss).toNat cls
 hlv:lv cls=cs.map normL
 hlen:cls.length<=20000
 hll:∀d∈lv cls,d.length<=400000
 hR:∀s∈ss,s.2.length<=400000/\s.2.all inB=true
theorem ydc_{σ:Heap}{vars:Int}{cs:List (List Int)}{ss:List (Bool×List Int)}{x y:AVal}(hg:GlS [.limit,.range] σ)(hx:SlV vIs σ cs x)(hy:SlV vB σ ss y)(h1:cs.flatten.length<=1000000000)(h2:cs.length<=1000000000)(h3:(yf_ ss).flatten.length<=1000000000)(h4:ss.length<=800000) :
  W (S.z13 (.agg [.int .i64 vars,x]) y σ) fun r=>Hle σ r.2/\((∃f,preF vars cs ss=some f/\IsF r.2 r.1.2.2 (some f))\/(preF vars cs ss=none/\∃l T cls,r.1=(.ptr l 0,y5_ vars ss,.nili)/\Began σ r.2 T l cls vars cs ss)):=by
 refine W.mono (yhy_ (vars:=vars) hg hx hy h1 h2 h3 h4) fun r hr=>?_;obtain⟨r,τ2⟩:=r;obtain⟨L2,hr⟩:=hr;refine⟨L2,?_⟩;cases hp:preF vars cs ss with
 |some f=>
  rw[hp]at hr;exact .inl ⟨f,rfl,hr⟩
 | none=>
  rw[hp]at hr;obtain⟨lb,T,cls,e,H,hB,hlv,hlen⟩:=hr;obtain⟨hC,hP⟩:chkC vars cs=none/\chkP ss=none:=by
   unfold preF at hp;cases hC:chkC vars cs with
   |some f=>rw[hC]at hp;cases hp
   |none=>rw[hC]at hp;exact⟨rfl,hp⟩
  obtain⟨g1,g2,g3,g4⟩:=y3g_ hC hP;obtain⟨c1,c2,c3,c4,c5⟩:=y3s_ hC;obtain⟨p1,p2⟩:=y52_ hP;refine .inr ⟨rfl,lb,T,cls,e,g1,g2,H,hB,hlv,by omega,fun d hd=>?_,fun s hs=>⟨by have:=y5u_ hs;omega,?_⟩⟩
  ·rw[hlv]at hd
   obtain⟨c,hc,rfl⟩:=List.mem_map.1 hd;have:=y60_ hc;have:=y2m_ c;omega
  ·rw[List.all_eq_true]
   intro x hx;have:=p2 s hs x hx;simp[inB];omega
section
variable{σ:Heap}{vars:Int}{cs:List (List Int)}{ss:List (Bool×List Int)}{x y:AVal}
theorem y2j_(hg:GlS [.limit,.range,.proof] σ)(hx:SlV vIs σ cs x)(hy:SlV vB σ ss y)(h1:cs.flatten.length<=1000000000)(h2:cs.length<=1000000000)(h3:(yf_ ss).flatten.length<=1000000000)(h4:ss.length<=800000) :
  W (S.z11 (.agg [.int .i64 vars,x]) y σ) fun r=>Hle σ r.2/\IsF r.2 r.1 (yj_ vars cs ss):=by
 unfold S.z11
 repeat' (with_reducible refine W.e3 ?_)
 refine W.new fun l τ hl L h hnτ=>?_;replace hg:=hg.mono L;replace hx:=hx.mono L;replace hy:=hy.mono L;have hnx:=L.next
 repeat' with_reducible first|refine W.bind ?_|refine W.e1 ?_
 refine W.mono (ydc_ (vars:=vars) (hg.sub (by decide)) hx hy h1 h2 h3 h4) fun r hr=>?_;obtain⟨⟨vb,vn,ve⟩,τ2⟩:=r;obtain⟨L2,hr⟩:=hr;dsimp only at L2 hr⊢;unfold yj_;rcases hr with ⟨f,hp,hr⟩|⟨hp,lb,T,cls,e,hG⟩
 ·rw[hp]
  dsimp only at hr⊢;refine W.fnil hr ?_
  repeat' (first|(with_reducible refine W.ret ?_)|(with_reducible refine W.condT ?_ ?_;focus (first|(simp only[qq,Kd.ty];done)|(simp only[qq,Kd.ty];omega)|assumption)))
  exact⟨L.mono L2,hr⟩
 ·rw[hp]
  cases e;obtain⟨g1,g2,H,hB,hlv,hlen,hll,hR⟩:=hG;dsimp only;refine W.fnil (f:=none) (σ:=τ2) rfl ?_;refine W.condF rfl ?_
  repeat' (with_reducible refine W.bind ?_)
  refine W.mono (ydb_ (bl:=true) hB H.tn (hy.tz H) (fun x σ K=>rfl) ((hg.sub (by decide)).tz H) hR hll (by omega)) fun r hr=>?_;obtain⟨v,τ3⟩:=r;obtain⟨T3,H3,hr⟩:=hr;dsimp only at H3 hr⊢;have HH:Hop stI τ Tz τ3 T3:=(H.sub fun i hi=>by simp at hi⊢;omega).trans H3;rw[g1,hlv]at hr;cases hrun:runD true (y5_ vars ss) 0 (cs.map normL) ss with
  |inl k=>
   rw[hrun]at hr;dsimp only at hr⊢;refine W.fnil hr.up ?_;refine W.condT rfl ?_
   repeat' with_reducible refine W.ret ?_
   exact⟨L.mono (y3b_ HH),hr.up⟩
  | inr D=>
   rw[hrun]at hr;obtain⟨rfl,cls',hB,hlv',hll',hlen'⟩:=hr;dsimp only;refine W.fnil (f:=none) (σ:=τ3) rfl ?_;refine W.condF rfl ?_
   repeat' (with_reducible refine W.bind ?_)
   refine W.mono (y3r_ hB H3.tn (SlV.nil _ _) (by simp)) fun r hr=>?_;obtain⟨b,τ4⟩:=r;obtain⟨hb,T4,H4⟩:=hr;dsimp only at hb H4⊢;rw[hlv',g1]at hb;subst hb;have HH4:=HH.hop H4
   (with_reducible refine W.cnd (fun hq=>?_) (fun hq=>?_)<;>(try simp only[qq,Kd.ty]at hq)<;>(try (exfalso;omega)))
   ·refine W.glob (hg.mono (y3b_ HH4)) .proof fun u hu=>?_
    repeat' with_reducible refine W.ret ?_
    rw[hq];exact⟨L.mono (y3b_ HH4),hu⟩
   ·repeat' with_reducible refine W.ret ?_
    rw[hq];exact⟨L.mono (y3b_ HH4),rfl⟩
def usedK(vars:Int):Nat->List (List Int)->List (Bool×List Int)->Nat
 |k,_,[]=>k
 |k,D,s::t=>bif impl vars D []then k else match runD true vars 0 D [s] with
  | .inl _=>0
  | .inr D'=>usedK vars (k+1) D' t
def usedF(vars:Int)(cs:List (List Int))(ss:List (Bool×List Int)):Nat×Flt:=match yj_ vars cs ss with
 |some f=>(0,some f)
 |none=>(usedK (y5_ vars ss) 0 (cs.map normL) ss,none)
theorem y6g_{bl:Bool}{vars:Int}:∀{ss:List (Bool×List Int)} {k:Nat} {D:List (List Int)} {s:Bool×List Int} {D':List (List Int)},runD bl vars k D (s::ss)=.inr D'->∃E,runD bl vars 0 D [s]=.inr E/\runD bl vars (k+1) E ss=.inr D'
 |ss,k,D,(true,c),D',h=>by
  rw[runD]at h⊢;simp only[cond_true]at h⊢
  split at h
  ·rename_i hm;rw[if_pos hm];exact⟨_,by rw[runD],h⟩
  ·cases h
 |ss,k,D,(false,c),D',h=>by
  rw[runD]at h⊢;simp only[cond_false]at h⊢;cases hm:mayC bl vars D c with
  |true=>rw[hm]at h;exact⟨_,by simp only[cond_true];rw[runD],h⟩
  |false=>rw[hm]at h;cases h
theorem yk0_(hg:GlS [.limit,.range,.proof] σ)(hx:SlV vIs σ cs x)(hy:SlV vB σ ss y)(h1:cs.flatten.length<=1000000000)(h2:cs.length<=1000000000)(h3:(yf_ ss).flatten.length<=1000000000)(h4:ss.length<=800000) :
  W (S.z12 (.agg [.int .i64 vars,x]) y σ) fun r=>Hle σ r.2/\r.1.1=((usedF vars cs ss).1:Int)/\IsF r.2 r.1.2 (usedF vars cs ss).2:=by
 unfold S.z12
 repeat' (with_reducible refine W.e3 ?_)
 refine W.new fun l τ hl L h hnτ=>?_;replace hg:=hg.mono L;replace hx:=hx.mono L;replace hy:=hy.mono L;have hnx:=L.next
 repeat' with_reducible first|refine W.bind ?_|refine W.e1 ?_
 refine W.mono (y2j_ (vars:=vars) hg hx hy h1 h2 h3 h4) fun r hr=>?_;obtain⟨ve,τ2⟩:=r;obtain⟨L2,hF⟩:=hr;dsimp only at L2 hF⊢;replace hg:=hg.mono L2;replace hx:=hx.mono L2;replace hy:=hy.mono L2;replace h:=h.mono L2;replace L:=L.mono L2;have hnx:=L2.next;refine W.fnil hF ?_;unfold usedF;cases hrf:yj_ vars cs ss with
 |some f=>
  rw[hrf]at hF
  repeat' (first|(with_reducible refine W.ret ?_)|(with_reducible refine W.condT ?_ ?_;focus (first|(simp only[qq,Kd.ty];done)|(simp only[qq,Kd.ty];omega)|assumption)))
  exact⟨L,rfl,hF⟩
 | none=>
  dsimp only;refine W.condF rfl ?_
  repeat' with_reducible first|refine W.bind ?_|refine W.e1 ?_
  refine W.mono (ydc_ (vars:=vars) (hg.sub (by decide)) hx hy h1 h2 h3 h4) fun r hr=>?_;obtain⟨⟨vb,vn,ve⟩,τ3⟩:=r;obtain⟨L3,hr⟩:=hr;dsimp only at L3 hr⊢;unfold yj_ at hrf;rcases hr with ⟨f,hp,hr⟩|⟨hp,lb,T,cls,e,hG⟩
  ·rw[hp]at hrf;cases hrf
  rw[hp]at hrf;dsimp only at hrf;obtain⟨Dn,hrun⟩:∃D,runD true (y5_ vars ss) 0 (cs.map normL) ss=.inr D:=by
   cases hrun:runD true (y5_ vars ss) 0 (cs.map normL) ss with
   |inl k=>rw[hrun]at hrf;cases hrf
   |inr D=>exact⟨D,rfl⟩
  cases e;obtain⟨g1,g2,H,hB,hlv,hlen,hll,hR⟩:=hG;refine W.fnil (f:=none) (σ:=τ3) rfl ?_;refine W.condF rfl ?_;have hy0:=hy;have hg0:=hg
  repeat' with_reducible first|refine W.bind ?_|refine W.len (by assumption) ?_
  have HH:Hop stI τ2 Tz τ3 T:=H.sub fun i hi=>by simp at hi⊢;omega
  refine W.loop ss.length (fun i (z:Int) τ'=>z=(i:Int)/\∃T' cls',Hop stI τ2 Tz τ' T'/\BaseS τ' T' lb (y5_ vars ss).toNat cls'/\(∀d∈lv cls',d.length<=400000)/\cls'.length<=cls.length+i/\(∃k,runD true (y5_ vars ss) k (lv cls') (ss.drop i)=.inr Dn)/\usedK (y5_ vars ss) 0 (cs.map normL) ss=usedK (y5_ vars ss) i (lv cls') (ss.drop i)) ⟨rfl,T,cls,HH,hB,hll,by omega,⟨0,by rw[hlv];exact hrun⟩,by rw[hlv];rfl⟩ fun i z τ' hi hI=>?_;obtain⟨rfl,T',cls',HH,hB,hll,hlen2,⟨k,hrun⟩,hus⟩:=hI;have hy:=hy0.tz HH;unfold S.z12.b0
  (with_reducible refine W.cnd (fun hc=>?_) (fun hc=>?_)<;>(try simp only[qq,Kd.ty]at hc)<;>(try (exfalso;omega)))
  ·obtain⟨s,hs⟩:∃s,ss[i]?=some s:=⟨_,List.getElem?_eq_getElem (by omega)⟩
   rw[y5g_ hs]at hrun hus;rw[usedK]at hus;obtain⟨E,hE1,hE2⟩:=y6g_ hrun;rw[hE1]at hus;refine W.bind ?_;refine W.mono (y3r_ hB HH.tn (SlV.nil _ _) (by simp)) fun r hr=>?_;obtain⟨b,τ4⟩:=r;obtain⟨hb,T4,H4⟩:=hr;dsimp only at hb H4⊢;rw[g1]at hb;subst hb;replace HH:=HH.hop H4;replace hB:=hB.hop H4;replace hy:=hy0.tz HH
   (with_reducible refine W.cnd (fun hq=>?_) (fun hq=>?_)<;>(try simp only[qq,Kd.ty]at hq)<;>(try (exfalso;omega)))
   ·repeat' with_reducible first|refine W.stop ?_|refine W.ret ?_
    rw[hq]at hus;exact⟨L.mono (y3b_ HH),by rw[hus];rfl,rfl⟩
   ·rw[hq]at hus
    rw[sk];obtain⟨y',ey,hy'⟩:∃y',(∀{R:Type} (K:AVal->Option R),slS τ4 2 y (i:Int) (some ((i+1:Nat):Int)) none K=K y')/\SlV vB (τ4.at T4 0) [s] y':=by
     obtain⟨y',e1,h2⟩:=hy.slice (lo:=i) (hi:=i+1) (by omega) (by omega);refine⟨y',fun K=>(e1 at_le K).1,?_⟩;have e:(ss.take (i+1)).drop i=[s]:=by
      rw[List.take_add_one,hs,List.drop_append,List.drop_eq_nil_of_le (by simp;omega)];simp;have:i-min i ss.length=0:=by omega
      rw[this];rfl
     rw[<-e];exact h2
    refine W.to (ey _) ?_
    repeat' (with_reducible refine W.bind ?_)
    refine W.mono (ydb_ (bl:=true) hB HH.tn hy' (fun x σ K=>rfl) ((hg0.sub (by decide)).tz HH) (fun s' hs'=>by
     have:s'=s:=by simpa using hs'
     rw[this];exact hR s (List.mem_of_getElem? hs)) hll (by simp;omega)) fun r hr=>?_
    obtain⟨v,τ5⟩:=r;obtain⟨T5,H5,hr⟩:=hr;dsimp only at H5 hr⊢;rw[g1,hE1]at hr;obtain⟨rfl,cls5,hB,hlv5,hll5,hlen5⟩:=hr;refine W.fnil (f:=none) (σ:=τ5) rfl ?_;refine W.condF rfl ?_
    repeat' (with_reducible refine W.next ?_)
    exact⟨by omega,rfl,T5,cls5,HH.trans H5,hB,hll5,by simp at hlen5;omega,⟨k+1,by rw[hlv5];exact hE2⟩,by rw[hlv5,hus];rfl⟩
  ·repeat' with_reducible first|refine W.stop ?_|refine W.ret ?_|refine W.len (by assumption) ?_
   rw[List.drop_eq_nil_of_le (by omega),usedK]at hus;refine⟨L.mono (y3b_ HH),?_,rfl⟩;rw[hus];have:i=ss.length:=by omega
   rw[this]
end
end
end Go.Proofs.YtafbldhedkallaaGreatDoor.A
end
